/- Plain facts on doubles: how two words stand to each other, by their rungs. No Go in sight. -/
import Ieee.Arith
import Derived.Laws.FloatArith
set_option linter.unusedSimpArgs false
set_option linter.unusedVariables false
namespace FloatOrd
open Ieee

/-- It fits a word of 64 bits (behind a name: the walk must not see the numeral). -/
def Wd (x : Nat) : Prop := x < 18446744073709551616
theorem Wd.out {x : Nat} (h : Wd x) : x < 18446744073709551616 := h

/-- The rung of a word. -/
def rung (x : Nat) : Nat := x % 9223372036854775808
/-- Is the sign bit set? (of a word of 64 bits) -/
def neg (x : Nat) : Bool := decide (9223372036854775808 ≤ x)
/-- A number with a sign. -/
def sgn (s : Bool) (n : Nat) : Int := if s then -(n : Int) else (n : Int)
/-- A word's place among the numbers: the two zeros are one. -/
def key (x : Nat) : Int := sgn (neg x) (rung x)
def isNaN (x : Nat) : Bool := decide (9218868437227405312 < rung x)
def isInf (x : Nat) : Bool := decide (rung x = 9218868437227405312)

/-- The value of a rung, in units of the least place. -/
def val (r : Nat) : Nat := if r < 4503599627370496 then r else (4503599627370496 + r % 4503599627370496) * 2 ^ (r / 4503599627370496 - 1)

theorem val_lt {r s : Nat} (h : r < s) : val r < val s := by
  unfold val
  by_cases hs : s < 4503599627370496
  · rw [if_pos hs, if_pos (by omega)]; exact h
  · rw [if_neg hs]
    have p1 : 0 < 2 ^ (s / 4503599627370496 - 1) := Nat.two_pow_pos _
    by_cases hr : r < 4503599627370496
    · rw [if_pos hr]
      have h1 : 4503599627370496 * 1 ≤ (4503599627370496 + s % 4503599627370496) * 2 ^ (s / 4503599627370496 - 1) := Nat.mul_le_mul (by omega) p1
      omega
    · rw [if_neg hr]
      by_cases hq : r / 4503599627370496 = s / 4503599627370496
      · rw [hq]
        exact Nat.mul_lt_mul_of_pos_right (by omega) p1
      · have hlt : r / 4503599627370496 < s / 4503599627370496 := by omega
        have h1 : 1 ≤ r / 4503599627370496 := by omega
        have p2 : 0 < 2 ^ (r / 4503599627370496 - 1) := Nat.two_pow_pos _
        have s1 : (4503599627370496 + r % 4503599627370496) * 2 ^ (r / 4503599627370496 - 1) < (4503599627370496 * 2) * 2 ^ (r / 4503599627370496 - 1) := Nat.mul_lt_mul_of_pos_right (by omega) p2
        have s2 : (4503599627370496 * 2) * 2 ^ (r / 4503599627370496 - 1) = 4503599627370496 * 2 ^ ((r / 4503599627370496 - 1) + 1) := by rw [Nat.pow_succ, Nat.mul_assoc, Nat.mul_comm 2]
        have s3 : 4503599627370496 * 2 ^ ((r / 4503599627370496 - 1) + 1) ≤ 4503599627370496 * 2 ^ (s / 4503599627370496 - 1) := Nat.mul_le_mul_left _ (Nat.pow_le_pow_right (by omega) (by omega))
        have s4 : 4503599627370496 * 2 ^ (s / 4503599627370496 - 1) ≤ (4503599627370496 + s % 4503599627370496) * 2 ^ (s / 4503599627370496 - 1) := Nat.mul_le_mul_right _ (by omega)
        omega

theorem val_lt_iff {r s : Nat} : val r < val s ↔ r < s := by
  constructor
  · intro h
    rcases Nat.lt_trichotomy r s with h1 | h1 | h1
    · exact h1
    · subst h1; omega
    · have := val_lt h1; omega
  · exact val_lt
theorem val_zero : val 0 = 0 := by decide

theorem sgn_lt (s t : Bool) (r q : Nat) : (sgn s (val r) < sgn t (val q)) ↔ (sgn s r < sgn t q) := by
  have h1 := @val_lt_iff r q
  have h2 := @val_lt_iff q r
  have h3 := @val_lt_iff 0 r
  have h4 := @val_lt_iff 0 q
  rw [val_zero] at h3 h4
  generalize val r = vr at *
  generalize val q = vq at *
  cases s <;> cases t <;> simp only [sgn, if_true, if_false, Bool.false_eq_true] <;> omega

theorem compare_sgn (s t : Bool) (r q : Nat) : compare (sgn s (val r)) (sgn t (val q)) = compare (sgn s r) (sgn t q) := by
  have h1 := sgn_lt s t r q
  have h2 := sgn_lt t s q r
  show compareOfLessAndEq _ _ = compareOfLessAndEq _ _
  unfold compareOfLessAndEq
  by_cases c1 : sgn s (r : Nat) < sgn t q
  · rw [if_pos c1, if_pos (h1.2 c1)]
  · have n1 : ¬ sgn s (val r) < sgn t (val q) := fun h => c1 (h1.1 h)
    rw [if_neg c1, if_neg n1]
    by_cases c2 : sgn s (r : Nat) = sgn t q
    · rw [if_pos c2, if_pos (by have : ¬ sgn t (val q) < sgn s (val r) := fun h => by have := h2.1 h; omega
                                omega)]
    · rw [if_neg c2, if_neg (by have := h2.2 (by omega); omega)]

theorem signed_sgn (s : Bool) (m k : Nat) : signed s m k = sgn s (m * 2 ^ k) := by
  unfold signed sgn
  rw [Nat.shiftLeft_eq]

theorem sgn_mul (s : Bool) (n p : Nat) : sgn s (n * p) = sgn s n * (p : Int) := by
  cases s <;> simp [sgn, Int.neg_mul]

theorem compare_mul (a b : Int) (p : Nat) (hp : 0 < p) : compare (a * (p : Int)) (b * (p : Int)) = compare a b := by
  have hp' : (0 : Int) < (p : Int) := by omega
  show compareOfLessAndEq _ _ = compareOfLessAndEq _ _
  unfold compareOfLessAndEq
  by_cases c1 : a < b
  · rw [if_pos c1, if_pos (Int.mul_lt_mul_of_pos_right c1 hp')]
  · rw [if_neg c1, if_neg (fun h => c1 (Int.lt_of_mul_lt_mul_right h (by omega)))]
    by_cases c2 : a = b
    · rw [if_pos c2, if_pos (by rw [c2])]
    · rw [if_neg c2, if_neg (fun h => c2 (Int.eq_of_mul_eq_mul_right (by omega) h))]

theorem order_num (s t : Bool) (m n a b : Nat) (L : Int) :
    (Datum.number s m (L + a)).order (Datum.number t n (L + b)) = some (compare (sgn s (m * 2 ^ a)) (sgn t (n * 2 ^ b))) := by
  have hb : min (L + (a : Int)) (L + (b : Int)) = L + (min a b : Nat) := by omega
  simp only [Datum.order, hb]
  have e1 : (L + (a : Int) - (L + (min a b : Nat))).toNat = a - min a b := by omega
  have e2 : (L + (b : Int) - (L + (min a b : Nat))).toNat = b - min a b := by omega
  rw [e1, e2, signed_sgn, signed_sgn]
  have d1 : 2 ^ a = 2 ^ (a - min a b) * 2 ^ (min a b) := by rw [← Nat.pow_add]; congr 1; omega
  have d2 : 2 ^ b = 2 ^ (b - min a b) * 2 ^ (min a b) := by rw [← Nat.pow_add]; congr 1; omega
  rw [d1, d2, ← Nat.mul_assoc, ← Nat.mul_assoc, sgn_mul s _ (2 ^ min a b), sgn_mul t _ (2 ^ min a b)]
  rw [compare_mul _ _ _ (Nat.two_pow_pos _)]

theorem sw : double.signWeight = 9223372036854775808 := by decide
theorem bn : double.binade = 4503599627370496 := by decide
theorem ir : double.infRung = 9218868437227405312 := by decide
theorem lp : double.leastPlace = -1074 := by decide

theorem neg_of (x : Nat) (hx : x < 18446744073709551616) : (x / 9223372036854775808 % 2 == 1) = neg x := by
  unfold neg
  by_cases h : 9223372036854775808 ≤ x
  · rw [decide_eq_true h, beq_iff_eq]; omega
  · rw [decide_eq_false h, beq_eq_false_iff_ne]; omega

theorem read_fin (x : Nat) (hx : x < 18446744073709551616) (h : rung x < 9218868437227405312) :
    ∃ m a : Nat, double.read x = .number (neg x) m (-1074 + (a : Int)) ∧ m * 2 ^ a = val (rung x) := by
  unfold Format.read
  simp only [sw, bn, ir, lp, neg_of x hx]
  rw [show x % 9223372036854775808 = rung x from rfl]
  by_cases c : rung x < 4503599627370496
  · rw [if_pos c]
    exact ⟨rung x, 0, by simp, by unfold val; rw [if_pos c]; simp⟩
  · rw [if_neg c, if_pos h]
    exact ⟨_, rung x / 4503599627370496 - 1, rfl, by unfold val; rw [if_neg c]⟩
theorem read_inf (x : Nat) (hx : x < 18446744073709551616) (h : rung x = 9218868437227405312) : double.read x = .infinity (neg x) := by
  unfold Format.read
  simp only [sw, bn, ir, lp, neg_of x hx]
  rw [show x % 9223372036854775808 = rung x from rfl, if_neg (by omega), if_neg (by omega), if_pos h]
theorem read_nan (x : Nat) (h : 9218868437227405312 < rung x) : ∃ s t, double.read x = .nan s t := by
  unfold Format.read
  simp only [sw, bn, ir, lp]
  rw [show x % 9223372036854775808 = rung x from rfl, if_neg (by omega), if_neg (by omega), if_neg (by omega)]
  exact ⟨_, _, rfl⟩

theorem isNaN_false {x : Nat} (h : isNaN x = false) : rung x ≤ 9218868437227405312 := by
  unfold isNaN at h
  have := of_decide_eq_false h
  omega
theorem isNaN_true {x : Nat} (h : isNaN x = true) : 9218868437227405312 < rung x := of_decide_eq_true h

theorem order_key (x y : Nat) (hx : x < 18446744073709551616) (hy : y < 18446744073709551616) (nx : isNaN x = false) (ny : isNaN y = false) :
    double.order x y = some (compare (key x) (key y)) := by
  have rx := isNaN_false nx
  have ry := isNaN_false ny
  unfold Format.order
  rcases Nat.lt_or_eq_of_le rx with fx | fx
  · obtain ⟨m, a, ex, vx⟩ := read_fin x hx fx
    rcases Nat.lt_or_eq_of_le ry with fy | fy
    · obtain ⟨n, b, ey, vy⟩ := read_fin y hy fy
      rw [ex, ey, order_num, vx, vy, compare_sgn]
      rfl
    · rw [ex, read_inf y hy fy]
      simp only [Datum.order]
      congr 1
      unfold key
      cases hny : neg y
      · simp only [if_false, Bool.false_eq_true]
        symm
        show compareOfLessAndEq _ _ = _
        unfold compareOfLessAndEq
        rw [if_pos (by cases neg x <;> simp only [sgn, if_true, if_false, Bool.false_eq_true] <;> omega)]
      · simp only [if_true]
        symm
        show compareOfLessAndEq _ _ = _
        unfold compareOfLessAndEq
        rw [if_neg (by cases neg x <;> simp only [sgn, if_true, if_false, Bool.false_eq_true] <;> omega), if_neg (by cases neg x <;> simp only [sgn, if_true, if_false, Bool.false_eq_true] <;> omega)]
  · rcases Nat.lt_or_eq_of_le ry with fy | fy
    · obtain ⟨n, b, ey, vy⟩ := read_fin y hy fy
      rw [ey, read_inf x hx fx]
      simp only [Datum.order]
      congr 1
      unfold key
      cases hnx : neg x
      · simp only [if_false, Bool.false_eq_true]
        symm
        show compareOfLessAndEq _ _ = _
        unfold compareOfLessAndEq
        rw [if_neg (by cases neg y <;> simp only [sgn, if_true, if_false, Bool.false_eq_true] <;> omega), if_neg (by cases neg y <;> simp only [sgn, if_true, if_false, Bool.false_eq_true] <;> omega)]
      · simp only [if_true]
        symm
        show compareOfLessAndEq _ _ = _
        unfold compareOfLessAndEq
        rw [if_pos (by cases neg y <;> simp only [sgn, if_true, if_false, Bool.false_eq_true] <;> omega)]
    · rw [read_inf x hx fx, read_inf y hy fy]
      simp only [Datum.order]
      unfold key
      rw [fx, fy]
      cases neg x <;> cases neg y <;> decide

theorem order_nan_left {x : Nat} (y : Nat) (nx : isNaN x = true) : double.order x y = none := by
  obtain ⟨s, t, e⟩ := read_nan x (isNaN_true nx)
  unfold Format.order
  rw [e]
  cases double.read y <;> rfl
theorem order_nan_right (x : Nat) {y : Nat} (ny : isNaN y = true) : double.order x y = none := by
  obtain ⟨s, t, e⟩ := read_nan y (isNaN_true ny)
  unfold Format.order
  rw [e]
  cases double.read x <;> rfl

/-- '==' on doubles. -/
def feq (x y : Nat) : Bool := !isNaN x && !isNaN y && decide (key x = key y)
/-- '<' on doubles. -/
def flt (x y : Nat) : Bool := !isNaN x && !isNaN y && decide (key x < key y)

theorem order_eq (x y : Nat) (hx : x < 18446744073709551616) (hy : y < 18446744073709551616) : (double.order x y == some .eq) = feq x y := by
  unfold feq
  cases nx : isNaN x
  · cases ny : isNaN y
    · rw [order_key x y hx hy nx ny]
      by_cases h : key x = key y
      · rw [h]; simp
      · simp only [h, decide_false, Bool.and_false]
        rw [beq_eq_false_iff_ne]
        intro e
        have e' := Option.some.inj e
        exact h (Std.LawfulEqCmp.eq_of_compare e')
    · rw [order_nan_right x ny]; rfl
  · rw [order_nan_left y nx]; rfl
theorem order_lt (x y : Nat) (hx : x < 18446744073709551616) (hy : y < 18446744073709551616) : (double.order x y == some .lt) = flt x y := by
  unfold flt
  cases nx : isNaN x
  · cases ny : isNaN y
    · rw [order_key x y hx hy nx ny]
      have hc : compare (key x) (key y) = compareOfLessAndEq (key x) (key y) := rfl
      rw [hc]
      unfold compareOfLessAndEq
      by_cases h : key x < key y
      · simp [h]
      · by_cases h2 : key x = key y
        · simp [h2]
        · simp [h, h2]
    · rw [order_nan_right x ny]; rfl
  · rw [order_nan_left y nx]; rfl

/-! ### The order of loads -/
/-- Where a load stands in the order. -/
def place (x : Nat) : Int := if isNaN x then 9223372036854775807 else if neg x then -1 - (rung x : Int) else (rung x : Int)
def better (a b : Nat) : Bool := decide (place a < place b)
def same (a b : Nat) : Bool := isNaN a && isNaN b || a == b

theorem rung_lt (x : Nat) : rung x < 9223372036854775808 := Nat.mod_lt _ (by decide)
theorem place_le (x : Nat) : place x ≤ 9223372036854775807 ∧ -9218868437227405313 ≤ place x := by
  unfold place
  have := rung_lt x
  split
  · omega
  · rename_i h
    have h' := isNaN_false (Bool.eq_false_iff.2 h)
    split <;> omega
theorem place_nan {x : Nat} (h : isNaN x = true) : place x = 9223372036854775807 := by unfold place; rw [if_pos h]
theorem place_num {x : Nat} (h : isNaN x = false) : place x ≤ 9218868437227405312 := by
  have h' := isNaN_false h
  unfold place
  rw [if_neg (by simp [h])]
  split <;> omega

theorem same_of_place (a b : Nat) (ha : a < 18446744073709551616) (hb : b < 18446744073709551616) (h : place a = place b) : same a b = true := by
  unfold same
  cases na : isNaN a
  · cases nb : isNaN b
    · have e : a = b := by
        have ra := rung_lt a
        have rb := rung_lt b
        unfold place at h
        simp only [na, nb, Bool.false_eq_true, if_false] at h
        unfold neg at h
        by_cases ca : 9223372036854775808 ≤ a <;> by_cases cb : 9223372036854775808 ≤ b <;> simp only [ca, cb, decide_true, decide_false, if_true, if_false, Bool.false_eq_true] at h <;> unfold rung at h ra rb <;> omega
      subst e
      simp
    · have := place_num na
      rw [h, place_nan nb] at this
      omega
  · cases nb : isNaN b
    · have := place_num nb
      rw [← h, place_nan na] at this
      omega
    · rfl

/-- The reference's way to say it. -/
def refBetter (a b : Nat) : Bool :=
  if isNaN a || isNaN b then !isNaN a && isNaN b else if feq a 0 && feq b 0 then neg a && !neg b else flt a b

theorem refBetter_eq (a b : Nat) : refBetter a b = better a b := by
  unfold refBetter better
  have z : isNaN 0 = false := by decide
  have kz : key 0 = 0 := by decide
  cases na : isNaN a
  · cases nb : isNaN b
    · have ra := isNaN_false na
      have rb := isNaN_false nb
      simp only [Bool.or_self, Bool.false_eq_true, if_false, feq, flt, na, nb, z, kz, Bool.not_false, Bool.true_and]
      unfold place
      simp only [na, nb, Bool.false_eq_true, if_false]
      unfold key
      cases neg a <;> cases neg b <;> simp only [sgn, if_true, if_false, Bool.false_eq_true, Bool.not_false, Bool.not_true, Bool.and_true, Bool.and_false, Bool.true_and, Bool.false_and]
      all_goals
        split
        · rename_i h
          simp only [Bool.and_eq_true, decide_eq_true_eq] at h
          symm
          first
            | (rw [decide_eq_false_iff_not]; omega)
            | (rw [decide_eq_true_eq]; omega)
        · rename_i h
          simp only [Bool.and_eq_true, decide_eq_true_eq] at h
          first
            | rfl
            | (rw [decide_eq_decide]; omega)
            | (symm; rw [decide_eq_true_eq]; omega)
            | (symm; rw [decide_eq_false_iff_not]; omega)
    · have := place_num na
      have h2 := place_nan nb
      simp only [Bool.or_true, if_true, Bool.not_false, Bool.and_true]
      symm
      rw [decide_eq_true_eq]
      omega
  · have h1 := place_nan na
    have h2 := place_le b
    simp only [Bool.true_or, if_true, Bool.not_true, Bool.false_and]
    symm
    rw [decide_eq_false_iff_not]
    omega

/-! ### Differences -/
theorem write_zero (e : Int) : double.write (.number false 0 e) = 0 := by
  simp [Format.write, Format.nearest, Format.word]
theorem sub_fin (x : Nat) (hx : x < 18446744073709551616) (h : rung x < 9218868437227405312) : double.sub x x = some 0 := by
  obtain ⟨m, a, e, _⟩ := read_fin x hx h
  unfold Format.sub
  rw [e]
  simp only [Datum.opposite, Datum.sum]
  cases neg x <;> simp [signed, write_zero, Int.add_right_neg, Int.add_left_neg]
theorem sub_inf (x : Nat) (hx : x < 18446744073709551616) (h : rung x = 9218868437227405312) : double.sub x x = none := by
  unfold Format.sub
  rw [read_inf x hx h]
  cases neg x <;> rfl
theorem sub_nan (x y : Nat) (h : isNaN x = true) : double.sub x y = none := by
  obtain ⟨s, t, e⟩ := read_nan x (isNaN_true h)
  unfold Format.sub
  rw [e]
  cases double.read y <;> rfl
theorem add_nan_left (x y : Nat) (h : isNaN x = true) : double.add x y = none := by
  obtain ⟨s, t, e⟩ := read_nan x (isNaN_true h)
  unfold Format.add
  rw [e]
  cases double.read y <;> rfl
theorem div_nan_left (x y : Nat) (h : isNaN x = true) : double.div x y = none := by
  obtain ⟨s, t, e⟩ := read_nan x (isNaN_true h)
  unfold Format.div
  rw [e]
  cases double.read y <;> rfl

/-- What the tape gives for 'no number' is none. -/
theorem drawn_nan (t : Nat) : isNaN ((t % 2) * 9223372036854775808 + 9218868437227405312 + 1 + (t / 2) % 4503599627370495) = true := by
  unfold isNaN rung
  rw [decide_eq_true_eq]
  have h1 : t % 2 < 2 := Nat.mod_lt _ (by decide)
  have h2 : (t / 2) % 4503599627370495 < 4503599627370495 := Nat.mod_lt _ (by decide)
  generalize t % 2 = u at *
  generalize (t / 2) % 4503599627370495 = v at *
  have h3 : u = 0 ∨ u = 1 := by omega
  rcases h3 with rfl | rfl <;> omega
theorem drawn_lt (t : Nat) : (t % 2) * 9223372036854775808 + 9218868437227405312 + 1 + (t / 2) % 4503599627370495 < 18446744073709551616 := by
  have h1 : t % 2 < 2 := Nat.mod_lt _ (by decide)
  have h2 : (t / 2) % 4503599627370495 < 4503599627370495 := Nat.mod_lt _ (by decide)
  generalize t % 2 = u at *
  generalize (t / 2) % 4503599627370495 = v at *
  have h3 : u = 0 ∨ u = 1 := by omega
  rcases h3 with rfl | rfl <;> omega

theorem nan_test (x : Nat) (hx : Wd x) : (Go.FloatKind.f64.format.order x x != some Ordering.eq) = isNaN x := by
  show (Ieee.double.order x x != some Ordering.eq) = isNaN x
  rw [bne, order_eq x x hx hx]
  unfold feq
  cases isNaN x <;> simp
theorem eq_test (x y : Nat) (hx : Wd x) (hy : Wd y) : (Go.FloatKind.f64.format.order x y == some Ordering.eq) = feq x y := order_eq x y hx hy
theorem lt_test (x y : Nat) (hx : Wd x) (hy : Wd y) : (Go.FloatKind.f64.format.order x y == some Ordering.lt) = flt x y := order_lt x y hx hy

/-- What an operation on doubles leaves: its bits, or some 'no number'. -/
def FRes (o : Option Nat) (r : Nat) : Prop := Wd r ∧ match o with | some q => r = q | none => isNaN r = true
theorem FRes.wd {o : Option Nat} {r : Nat} (h : FRes o r) : Wd r := h.1
theorem FRes.same {o : Option Nat} {r s : Nat} (h : FRes o r) (k : FRes o s) : same r s = true := by
  unfold FRes at h k
  unfold FloatOrd.same
  cases o with
  | none => simp only at h k; rw [h.2, k.2]; rfl
  | some q => simp only at h k; rw [h.2, k.2]; simp
theorem FRes.of_some {o : Option Nat} {r q : Nat} (h : FRes o r) (e : o = some q) : r = q := by subst e; exact h.2
theorem FRes.of_none {o : Option Nat} {r : Nat} (h : FRes o r) (e : o = none) : isNaN r = true := by subst e; exact h.2
theorem better_self (a : Nat) : better a a = false := by unfold better; rw [decide_eq_false_iff_not]; omega
/-- What the order's statement asks, said of places. -/
theorem order_law (a b c : Nat) (ha : Wd a) (hb : Wd b) :
    ¬ (better a b = true ∧ better b a = true) ∧ ¬ (better a b = true ∧ better b c = true ∧ better a c = false) ∧
    (better a b = false → better b a = false → same a b = true ∧ better a c = better b c) := by
  unfold better
  refine ⟨?_, ?_, ?_⟩
  · rintro ⟨h1, h2⟩
    have h1 := of_decide_eq_true h1
    have h2 := of_decide_eq_true h2
    omega
  · rintro ⟨h1, h2, h3⟩
    have h1 := of_decide_eq_true h1
    have h2 := of_decide_eq_true h2
    have h3 := of_decide_eq_false h3
    omega
  · intro h1 h2
    have h1 := of_decide_eq_false h1
    have h2 := of_decide_eq_false h2
    have e : place a = place b := by omega
    exact ⟨same_of_place a b ha hb e, by rw [e]⟩
/-- A number as a load: below 0 it stands for -0. -/
def partF (n : Int) : Nat := if n < 0 then 9223372036854775808 else Go.floatOfInt .f64 n
theorem partF_wd (n : Int) : Wd (partF n) := by
  unfold partF Wd
  split
  · decide
  · have h := Go.floatOfInt_wf .f64 n
    simp only [Go.Lit.wf, decide_eq_true_eq] at h
    exact h

theorem gt_test (x y : Nat) (hx : Wd x) (hy : Wd y) : (Go.FloatKind.f64.format.order x y == some Ordering.gt) = flt y x := by
  show (Ieee.double.order x y == some Ordering.gt) = flt y x
  unfold flt
  cases nx : isNaN x
  · cases ny : isNaN y
    · rw [order_key x y hx hy nx ny]
      have hc : compare (key x) (key y) = compareOfLessAndEq (key x) (key y) := rfl
      rw [hc]
      unfold compareOfLessAndEq
      by_cases h : key x < key y
      · have : ¬ key y < key x := by omega
        simp [h, this]
      · by_cases h2 : key x = key y
        · simp [h2]
        · have : key y < key x := by omega
          simp [h, h2, this]
    · rw [order_nan_right x ny]; rfl
  · rw [order_nan_left y nx]; simp
theorem wd_rung (x : Nat) : Wd (rung x) := by
  have := rung_lt x
  unfold Wd; omega
theorem rung_rung (x : Nat) : rung (rung x) = rung x := Nat.mod_mod _ _
theorem isNaN_rung (x : Nat) : isNaN (rung x) = isNaN x := by unfold isNaN; rw [rung_rung]
theorem neg_rung (x : Nat) : neg (rung x) = false := by
  have := rung_lt x
  unfold neg; rw [decide_eq_false_iff_not]; omega
theorem inf_test (x : Nat) : flt 9218868437227405311 (rung x) = isInf x := by
  unfold flt isInf key
  rw [isNaN_rung, neg_rung, rung_rung]
  have e1 : isNaN 9218868437227405311 = false := by decide
  have e2 : neg 9218868437227405311 = false := by decide
  have e3 : rung 9218868437227405311 = 9218868437227405311 := by decide
  rw [e1, e2, e3]
  simp only [sgn, Bool.false_eq_true, if_false, Bool.not_false, Bool.true_and]
  cases h : isNaN x
  · have := isNaN_false h
    simp only [Bool.not_false, Bool.true_and]
    rw [decide_eq_decide]
    omega
  · have := isNaN_true h
    simp only [Bool.not_true, Bool.false_and]
    symm
    rw [decide_eq_false_iff_not]
    omega
def tellC (x : Nat) : Int := if isNaN x then 0 else if isInf x then 1 else if feq x 0 then 2 else 3
def tellM (x : Nat) : Bool := !isNaN x && neg x
def tellB (x : Nat) : Int := if isNaN x || isInf x then 0 else (x : Int)
theorem lt_zero (x : Nat) (hn : isNaN x = false) (hz : feq x 0 = false) : flt x 0 = neg x := by
  have z : isNaN 0 = false := by decide
  have kz : key 0 = 0 := by decide
  unfold feq at hz
  unfold flt
  simp only [hn, z, kz, Bool.not_false, Bool.true_and] at hz ⊢
  have h1 := of_decide_eq_false hz
  unfold key at h1 ⊢
  cases neg x <;> simp only [sgn, if_true, if_false, Bool.false_eq_true] at h1 ⊢
  · rw [decide_eq_false_iff_not]; omega
  · rw [decide_eq_true_eq]; omega
theorem inf_not_zero (x : Nat) (h : isInf x = true) : feq x 0 = false := by
  have h := of_decide_eq_true h
  have kz : key 0 = 0 := by decide
  unfold feq
  rw [kz]
  unfold key
  rw [h]
  cases neg x <;> simp [sgn]
theorem inf_not_nan (x : Nat) (h : isInf x = true) : isNaN x = false := by
  have h := of_decide_eq_true h
  unfold isNaN
  rw [h]
  decide
theorem sub_self_inf (x : Nat) (hx : Wd x) (h : isInf x = true) : Ieee.double.sub x x = none := sub_inf x hx (of_decide_eq_true h)
theorem sub_self_fin (x : Nat) (hx : Wd x) (hn : isNaN x = false) (h : isInf x = false) : Ieee.double.sub x x = some 0 := by
  have h1 := isNaN_false hn
  have h2 := of_decide_eq_false h
  exact sub_fin x hx (by omega)

theorem tell_diff (x r : Nat) (hx : Wd x) (hr : FRes (Ieee.double.sub x x) r) (hn : isNaN x = false) : (!feq r 0) = isInf x := by
  cases hi : isInf x
  · obtain rfl := hr.of_some (sub_self_fin x hx hn hi)
    decide
  · have h := hr.of_none (sub_self_inf x hx hi)
    unfold feq
    rw [h]; rfl

/-! ### Steps -/
/-- The load at a place of the order. -/
def atF (p : Int) : Nat := if p < 0 then 9223372036854775808 + (-1 - p).toNat else p.toNat
def clip (p : Int) : Int := if 9218868437227405312 < p then 9218868437227405312 else if p < -9218868437227405313 then -9218868437227405313 else p
def stepF (x : Nat) (n : Int) : Nat := if isNaN x then x else atF (clip (place x + n))
theorem clip_bd (p : Int) : -9218868437227405313 ≤ clip p ∧ clip p ≤ 9218868437227405312 := by
  unfold clip
  split
  · omega
  · split <;> omega
theorem atF_wd (p : Int) (h1 : -9218868437227405313 ≤ p) (h2 : p ≤ 9218868437227405312) : Wd (atF p) := by
  unfold atF Wd
  split <;> omega
theorem atF_num (p : Int) (h1 : -9218868437227405313 ≤ p) (h2 : p ≤ 9218868437227405312) : isNaN (atF p) = false := by
  unfold isNaN rung atF
  rw [decide_eq_false_iff_not]
  split <;> omega
theorem place_atF (p : Int) (h1 : -9218868437227405313 ≤ p) (h2 : p ≤ 9218868437227405312) : place (atF p) = p := by
  have hn := atF_num p h1 h2
  unfold place
  rw [hn]
  simp only [Bool.false_eq_true, if_false]
  unfold neg rung atF
  by_cases h : p < 0
  · rw [if_pos h, decide_eq_true (by omega)]
    simp only [if_true]
    omega
  · rw [if_neg h, decide_eq_false (by omega)]
    simp only [Bool.false_eq_true, if_false]
    omega
theorem atF_place (x : Nat) (hx : Wd x) (hn : isNaN x = false) : atF (place x) = x := by
  have hx := hx.out
  unfold place
  rw [hn]
  simp only [Bool.false_eq_true, if_false]
  unfold neg rung atF
  by_cases h : 9223372036854775808 ≤ x
  · rw [decide_eq_true h]
    simp only [if_true]
    rw [if_pos (by omega)]
    omega
  · rw [decide_eq_false h]
    simp only [Bool.false_eq_true, if_false]
    rw [if_neg (by omega)]
    omega
theorem place_low {x : Nat} (h : isNaN x = false) : -9218868437227405313 ≤ place x := (place_le x).2
theorem stepF_wd (x : Nat) (n : Int) (hx : Wd x) : Wd (stepF x n) := by
  unfold stepF
  split
  · exact hx
  · exact atF_wd _ (clip_bd _).1 (clip_bd _).2
theorem stepF_num (x : Nat) (n : Int) (hn : isNaN x = false) : isNaN (stepF x n) = false := by
  unfold stepF
  rw [hn]
  simp only [Bool.false_eq_true, if_false]
  exact atF_num _ (clip_bd _).1 (clip_bd _).2
theorem place_stepF (x : Nat) (n : Int) (hn : isNaN x = false) : place (stepF x n) = clip (place x + n) := by
  unfold stepF
  rw [hn]
  simp only [Bool.false_eq_true, if_false]
  exact place_atF _ (clip_bd _).1 (clip_bd _).2
/-- One step up, as the reference does it. -/
def upF (x : Nat) : Nat := if x = 9223372036854775808 then 0 else if neg x then x - 1 else x + 1
def downF (x : Nat) : Nat := if x = 0 then 9223372036854775808 else if neg x then x + 1 else x - 1
theorem upF_eq (x : Nat) (hx : Wd x) (hn : isNaN x = false) (h : place x < 9218868437227405312) : upF x = atF (place x + 1) := by
  have hb := isNaN_false hn
  have hx := hx.out
  unfold place at h ⊢
  rw [hn] at h ⊢
  simp only [Bool.false_eq_true, if_false] at h ⊢
  unfold upF atF
  unfold neg rung at *
  by_cases c : 9223372036854775808 ≤ x
  · simp only [decide_eq_true c, if_true] at h ⊢
    by_cases c2 : x = 9223372036854775808
    · rw [if_pos c2, if_neg (by omega)]; omega
    · rw [if_neg c2, if_pos (by omega)]; omega
  · simp only [decide_eq_false c, Bool.false_eq_true, if_false] at h ⊢
    rw [if_neg (by omega), if_neg (by omega)]
    omega
theorem downF_eq (x : Nat) (hx : Wd x) (hn : isNaN x = false) (h : -9218868437227405313 < place x) : downF x = atF (place x - 1) := by
  have hb := isNaN_false hn
  have hx := hx.out
  unfold place at h ⊢
  rw [hn] at h ⊢
  simp only [Bool.false_eq_true, if_false] at h ⊢
  unfold downF atF
  unfold neg rung at *
  by_cases c : 9223372036854775808 ≤ x
  · simp only [decide_eq_true c, if_true] at h ⊢
    rw [if_neg (by omega), if_pos (by omega)]
    omega
  · simp only [decide_eq_false c, Bool.false_eq_true, if_false] at h ⊢
    by_cases c2 : x = 0
    · rw [if_pos c2, if_pos (by omega)]; omega
    · rw [if_neg c2, if_neg (by omega)]; omega
theorem stepF_up (x : Nat) (n : Int) (hx : Wd x) (hn : isNaN x = false) (h : place x < 9218868437227405312) (h0 : 0 < n) : stepF (upF x) (n - 1) = stepF x n ∧ Wd (upF x) ∧ isNaN (upF x) = false := by
  have hl := place_low hn
  rw [upF_eq x hx hn h]
  have hn2 := atF_num (place x + 1) (by omega) (by omega)
  refine ⟨?_, atF_wd _ (by omega) (by omega), hn2⟩
  unfold stepF
  rw [hn2, hn, place_atF _ (by omega) (by omega)]
  simp only [Bool.false_eq_true, if_false]
  rw [show place x + 1 + (n - 1) = place x + n from by omega]
theorem stepF_down (x : Nat) (n : Int) (hx : Wd x) (hn : isNaN x = false) (h : -9218868437227405313 < place x) (h0 : n < 0) : stepF (downF x) (n + 1) = stepF x n ∧ Wd (downF x) ∧ isNaN (downF x) = false := by
  have hl := place_num hn
  rw [downF_eq x hx hn h]
  have hn2 := atF_num (place x - 1) (by omega) (by omega)
  refine ⟨?_, atF_wd _ (by omega) (by omega), hn2⟩
  unfold stepF
  rw [hn2, hn, place_atF _ (by omega) (by omega)]
  simp only [Bool.false_eq_true, if_false]
  rw [show place x - 1 + (n + 1) = place x + n from by omega]
theorem stepF_zero (x : Nat) (hx : Wd x) : stepF x 0 = x := by
  unfold stepF
  cases hn : isNaN x
  · simp only [Bool.false_eq_true, if_false]
    have h1 := place_num hn
    have h2 := place_low hn
    unfold clip
    rw [if_neg (by omega), if_neg (by omega), Int.add_zero, atF_place x hx hn]
  · simp
theorem stepF_top (x : Nat) (n : Int) (hx : Wd x) (hn : isNaN x = false) (h : place x = 9218868437227405312) (h0 : 0 ≤ n) : stepF x n = x := by
  have e := atF_place x hx hn
  unfold stepF
  rw [hn]
  simp only [Bool.false_eq_true, if_false]
  rw [h] at e ⊢
  unfold clip
  by_cases c : n = 0
  · subst c; rw [if_neg (by omega), if_neg (by omega)]; exact e
  · rw [if_pos (by omega)]; exact e
theorem stepF_bottom (x : Nat) (n : Int) (hx : Wd x) (hn : isNaN x = false) (h : place x = -9218868437227405313) (h0 : n ≤ 0) : stepF x n = x := by
  have e := atF_place x hx hn
  unfold stepF
  rw [hn]
  simp only [Bool.false_eq_true, if_false]
  rw [h] at e ⊢
  unfold clip
  by_cases c : n = 0
  · subst c; rw [if_neg (by omega), if_neg (by omega)]; exact e
  · rw [if_neg (by omega), if_pos (by omega)]; exact e
/-- The reference's test: is it infinity? -/
theorem top_test (x : Nat) (hx : Wd x) (hn : isNaN x = false) : (isInf x && flt 0 x) = decide (place x = 9218868437227405312) := by
  have z : isNaN 0 = false := by decide
  have kz : key 0 = 0 := by decide
  have hb := isNaN_false hn
  unfold isInf flt place
  rw [hn, z, kz]
  unfold key
  simp only [Bool.not_false, Bool.true_and, Bool.false_eq_true, if_false]
  rw [Bool.eq_iff_iff, Bool.and_eq_true, decide_eq_true_eq, decide_eq_true_eq, decide_eq_true_eq]
  cases neg x <;> simp only [sgn, Bool.false_eq_true, if_false, if_true] <;> omega
theorem bottom_test (x : Nat) (hx : Wd x) (hn : isNaN x = false) : (isInf x && flt x 0) = decide (place x = -9218868437227405313) := by
  have z : isNaN 0 = false := by decide
  have kz : key 0 = 0 := by decide
  have hb := isNaN_false hn
  unfold isInf flt place
  rw [hn, z, kz]
  unfold key
  simp only [Bool.not_false, Bool.true_and, Bool.false_eq_true, if_false]
  rw [Bool.eq_iff_iff, Bool.and_eq_true, decide_eq_true_eq, decide_eq_true_eq, decide_eq_true_eq]
  cases neg x <;> simp only [sgn, Bool.false_eq_true, if_false, if_true] <;> omega
/-- What the law asks of steps there and back. -/
theorem steps_law (x : Nat) (n : Int) (hx : Wd x) (h1 : -50 ≤ n) (h2 : n ≤ 50) (ha : isNaN x = false) (hai : isInf x = false) (hbi : isInf (stepF x n) = false) :
    stepF (stepF x n) (-n) = x ∧ better x (stepF x 1) = true := by
  have hp1 := place_num ha
  have hp2 := place_low ha
  have hb := stepF_num x n ha
  have hps := place_stepF x n ha
  have hin : ∀ y : Nat, isNaN y = false → isInf y = false → place y < 9218868437227405312 ∧ -9218868437227405313 < place y := by
    intro y hn hi
    have h1 := isNaN_false hn
    have h2 := of_decide_eq_false hi
    unfold place
    rw [hn]
    simp only [Bool.false_eq_true, if_false]
    split <;> omega
  have i1 := hin x ha hai
  have i2 := hin _ hb hbi
  rw [hps] at i2
  have e : clip (place x + n) = place x + n := by
    unfold clip at i2 ⊢
    split at i2
    · omega
    · rename_i c1
      rw [if_neg c1]
      split at i2
      · omega
      · rename_i c2
        rw [if_neg c2]
  constructor
  · have e2 : stepF (stepF x n) (-n) = atF (clip (place (stepF x n) + -n)) := by
      show (if isNaN (stepF x n) then _ else _) = _
      rw [hb]; simp
    rw [e2, hps, e]
    have e3 : clip (place x + n + -n) = place x := by
      unfold clip
      rw [if_neg (by omega), if_neg (by omega)]
      omega
    rw [e3]
    exact atF_place x hx ha
  · unfold better
    rw [place_stepF x 1 ha, decide_eq_true_eq]
    unfold clip
    split
    · omega
    · split <;> omega
theorem tellC_lt (x : Nat) (h : ¬ tellC x < 2) : isNaN x = false ∧ isInf x = false := by
  unfold tellC at h
  cases h1 : isNaN x
  · cases h2 : isInf x
    · exact ⟨rfl, rfl⟩
    · simp [h1, h2] at h
  · simp [h1] at h
end FloatOrd
