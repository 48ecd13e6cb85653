/- The parts' numbers: a product's, a comparison's; each root. -/
import Derived.Test.YtdpiplllcinieaaDoorRootE
namespace Go.Proofs.YtdpiplllcinieaaDoor
open Go.RowKit Go.Stop Go.Extern Go.Ranges
set_option linter.unusedVariables false
set_option linter.unusedSimpArgs false
def PL : List Nat := [2, 3, 5, 7, 11, 13, 17, 19, 23, 29, 31, 37, 41, 43, 47, 53, 59, 61, 67, 71, 73, 79, 83, 89, 97, 101, 103, 107, 109, 113, 127, 131, 137, 139, 149, 151, 157, 163, 167, 173, 179, 181, 191, 193, 197, 199, 211, 223, 227, 229, 233, 239, 241, 251, 257, 263, 269, 271, 277, 281, 283, 293, 307, 311]
def RL : List Nat := [5411319704, 6194414737, 7344290767, 8215976869, 9551921755, 10098905585, 11043570340, 11460697813, 12214315672, 13195500289, 13492127166, 14311783875, 14809980276, 15046980094, 15499789991, 16133124468, 16720292289, 16907126662, 17444216262, 17784676812, 17950125167, 18429019306, 18734950876, 19175934170, 19734090066, 20001703533, 20132865992, 20390182855, 20516441075, 20764397895, 21588763473, 21813078375, 22141143685, 22248366392, 22769593852, 22871018771, 23170020180, 23461497531, 23651862830, 23931792517, 24205322401, 24295138891, 24734567280, 24820601251, 24990902297, 25075189284, 25569408389, 26045227120, 26200031510, 26276752392, 26428864332, 26653801653, 26727943347, 27092625994, 27306805839, 27517677555, 27725365998, 27793908591, 27997534228, 28131656200, 28198240250, 28526537963, 28973835255, 29099129074]
/-- The number of the first parts. -/
def upto (l : List Int) : Nat → Int
  | 0 => 0
  | i + 1 => upto l i + l.getD i 0 * 4294967296 ^ i
def Parts (l : List Int) : Prop := ∀ i, 0 ≤ l.getD i 0 ∧ l.getD i 0 < 4294967296
theorem bpos (n : Nat) : (0 : Int) < 4294967296 ^ n := Int.pow_pos (by decide)
theorem upto_bound {l : List Int} (h : Parts l) : ∀ n, 0 ≤ upto l n ∧ upto l n < 4294967296 ^ n
  | 0 => by simp [upto]
  | n + 1 => by
    have ih := upto_bound h n
    have hx := h n
    have hp := bpos n
    unfold upto
    rw [Int.pow_succ]
    generalize (4294967296 : Int) ^ n = P at *
    generalize l.getD n 0 = x at *
    have h1 : 0 ≤ x * P := Int.mul_nonneg hx.1 (by omega)
    have h2 : x * P ≤ 4294967295 * P := Int.mul_le_mul_of_nonneg_right (by omega) (by omega)
    constructor <;> omega
theorem cmpT_eq {us vs : List Int} (hu : Parts us) (hv : Parts vs) : ∀ n, cmpT us vs n = decide (upto vs n < upto us n)
  | 0 => by simp [cmpT, upto]
  | n + 1 => by
    have ih := cmpT_eq hu hv n
    have b1 := upto_bound hu n
    have b2 := upto_bound hv n
    have hx := hu n
    have hy := hv n
    have hp := bpos n
    unfold cmpT upto
    rw [ih]
    generalize (4294967296 : Int) ^ n = P at *
    generalize us.getD n 0 = x at *
    generalize vs.getD n 0 = y at *
    by_cases e : x = y
    · rw [if_pos e, e]
      congr 1
      apply propext
      omega
    · rw [if_neg e]
      congr 1
      apply propext
      rcases Int.lt_or_gt_of_ne e with h | h
      · have : (x + 1) * P ≤ y * P := Int.mul_le_mul_of_nonneg_right (by omega) (by omega)
        rw [Int.add_mul] at this
        omega
      · have : (y + 1) * P ≤ x * P := Int.mul_le_mul_of_nonneg_right (by omega) (by omega)
        rw [Int.add_mul] at this
        omega
theorem upto_set (l : List Int) (i : Nat) (x : Int) (hi : i < l.length) : ∀ n, upto (l.set i x) n = if i < n then upto l n + (x - l.getD i 0) * 4294967296 ^ i else upto l n
  | 0 => by simp [upto]
  | n + 1 => by
    have ih := upto_set l i x hi n
    unfold upto
    rw [ih, getD_set _ _ _ _ hi]
    by_cases e : n = i
    · subst e
      rw [if_pos rfl, if_neg (by omega), if_pos (by omega), Int.sub_mul]
      omega
    · rw [if_neg e]
      by_cases h : i < n
      · rw [if_pos h, if_pos (by omega)]; omega
      · rw [if_neg h, if_neg (by omega)]
theorem parts_set {l : List Int} (h : Parts l) (i : Nat) (x : Int) (hx : 0 ≤ x ∧ x < 4294967296) : Parts (l.set i x) := fun j => by
  by_cases hi : i < l.length
  · rw [getD_set _ _ _ _ hi]
    split
    · exact hx
    · exact h j
  · rw [List.set_eq_of_length_le (by omega)]
    exact h j
theorem stepT_eq (x y o c : Int) (hx : 0 ≤ x ∧ x < 4294967296) (hy : 0 ≤ y ∧ y < 4294967296) (ho : 0 ≤ o ∧ o < 4294967296) (hc : 0 ≤ c ∧ c < 4294967296) :
    stepT x y o c = x * y + o + c ∧ 0 ≤ stepT x y o c ∧ stepT x y o c < 18446744073709551616 := by
  have h1 : 0 ≤ x * y := Int.mul_nonneg hx.1 hy.1
  have h2 : x * y ≤ 4294967295 * 4294967295 := Int.mul_le_mul (by omega) (by omega) hy.1 (by omega)
  unfold stepT
  omega
theorem rowT_at (ys : List Int) (x : Int) (i : Nat) (out : List Int) (hx : 0 ≤ x ∧ x < 4294967296) (hy : Parts ys) (ho : Parts out) : ∀ j, i + j ≤ out.length →
    Parts (rowT ys x i j out).1 ∧ (0 ≤ (rowT ys x i j out).2 ∧ (rowT ys x i j out).2 < 4294967296) ∧ (∀ q, i + j ≤ q → (rowT ys x i j out).1.getD q 0 = out.getD q 0) ∧
    ∀ n, i + j ≤ n → upto (rowT ys x i j out).1 n + (rowT ys x i j out).2 * 4294967296 ^ (i + j) = upto out n + x * upto ys j * 4294967296 ^ i
  | 0 => fun _ => ⟨ho, by simp [rowT], fun _ _ => rfl, fun n _ => by simp [rowT, upto]⟩
  | j + 1 => fun hj => by
    obtain ⟨h1, h2, h3, h4⟩ := rowT_at ys x i out hx hy ho j (by omega)
    have hl := rowT_len ys x i out j
    have hs : rowT ys x i (j + 1) out = ((rowT ys x i j out).1.set (i + j) (stepT x (ys.getD j 0) ((rowT ys x i j out).1.getD (i + j) 0) (rowT ys x i j out).2 % 4294967296), stepT x (ys.getD j 0) ((rowT ys x i j out).1.getD (i + j) 0) (rowT ys x i j out).2 / 4294967296) := rfl
    have hst := stepT_eq x (ys.getD j 0) ((rowT ys x i j out).1.getD (i + j) 0) (rowT ys x i j out).2 hx (hy j) (h1 (i + j)) h2
    rw [hs]
    generalize hr : rowT ys x i j out = s at *
    generalize ho2 : s.1.getD (i + j) 0 = o at *
    generalize ht : stepT x (ys.getD j 0) o s.2 = t at *
    refine ⟨parts_set h1 _ _ (by omega), by show 0 ≤ t / 4294967296 ∧ t / 4294967296 < 4294967296; omega, fun q hq => ?_, fun n hn => ?_⟩
    · show (s.1.set (i + j) _).getD q 0 = _
      rw [getD_set _ _ _ _ (by omega), if_neg (by omega)]
      exact h3 q (by omega)
    · show upto (s.1.set (i + j) _) n + t / 4294967296 * _ = _
      have h5 := h4 n (by omega)
      rw [upto_set _ _ _ (by omega), if_pos (by omega), ho2]
      have hu : upto ys (j + 1) = upto ys j + ys.getD j 0 * 4294967296 ^ j := rfl
      rw [hu]
      generalize ys.getD j 0 = y at *
      have e1 : (4294967296 : Int) ^ (i + (j + 1)) = 4294967296 ^ (i + j) * 4294967296 := by rw [← Nat.add_assoc, Int.pow_succ]
      have e2 : x * (upto ys j + y * 4294967296 ^ j) * 4294967296 ^ i = x * upto ys j * 4294967296 ^ i + x * y * 4294967296 ^ (i + j) := by
        rw [Int.pow_add, Int.mul_add, Int.add_mul]
        congr 1
        simp only [Int.mul_assoc, Int.mul_comm, Int.mul_left_comm]
      rw [e1, e2]
      have e3 : t = x * y + o + s.2 := hst.1
      have e4 : t % 4294967296 + 4294967296 * (t / 4294967296) = t := Int.emod_add_mul_ediv t 4294967296
      generalize (4294967296 : Int) ^ (i + j) = P at *
      have e5 : t / 4294967296 * (P * 4294967296) = 4294967296 * (t / 4294967296) * P := by simp only [Int.mul_assoc, Int.mul_comm, Int.mul_left_comm]
      have e6 : (t % 4294967296 - o) * P + 4294967296 * (t / 4294967296) * P = (x * y) * P + s.2 * P := by
        rw [← Int.add_mul, ← Int.add_mul]
        congr 1
        omega
      rw [e5]
      omega
theorem rowsT_at (xs ys : List Int) (hx : Parts xs) (hy : Parts ys) : ∀ i, i ≤ xs.length →
    Parts (rowsT xs ys i) ∧ (∀ q, i + ys.length ≤ q → (rowsT xs ys i).getD q 0 = 0) ∧ ∀ n, i + ys.length ≤ n → upto (rowsT xs ys i) n = upto xs i * upto ys ys.length
  | 0 => fun _ => by
    have h0 : ∀ q, (rowsT xs ys 0).getD q 0 = 0 := fun q => by
      simp only [rowsT, List.getD, List.getElem?_replicate]
      split <;> rfl
    refine ⟨fun q => by rw [h0]; decide, fun q _ => h0 q, fun n _ => ?_⟩
    have : ∀ n, upto (rowsT xs ys 0) n = 0 := fun n => by
      induction n with
      | zero => rfl
      | succ n ih => unfold upto; rw [ih, h0]; simp
    rw [this]
    simp [upto]
  | i + 1 => fun hi => by
    obtain ⟨h1, h2, h3⟩ := rowsT_at xs ys hx hy i (by omega)
    have hl := rowsT_len xs ys i
    obtain ⟨r1, r2, r3, r4⟩ := rowT_at ys (xs.getD i 0) i (rowsT xs ys i) (hx i) hy h1 ys.length (by omega)
    have rl := rowT_len ys (xs.getD i 0) i (rowsT xs ys i) ys.length
    have hs : rowsT xs ys (i + 1) = (rowT ys (xs.getD i 0) i ys.length (rowsT xs ys i)).1.set (i + ys.length) (((rowT ys (xs.getD i 0) i ys.length (rowsT xs ys i)).1.getD (i + ys.length) 0 + (rowT ys (xs.getD i 0) i ys.length (rowsT xs ys i)).2) % 18446744073709551616) := rfl
    rw [hs]
    generalize rowT ys (xs.getD i 0) i ys.length (rowsT xs ys i) = s at *
    have z := r3 (i + ys.length) (Nat.le_refl _)
    rw [h2 _ (Nat.le_refl _)] at z
    have ev : (s.1.getD (i + ys.length) 0 + s.2) % 18446744073709551616 = s.2 := by rw [z]; omega
    rw [ev]
    refine ⟨parts_set r1 _ _ r2, fun q hq => ?_, fun n hn => ?_⟩
    · rw [getD_set _ _ _ _ (by omega), if_neg (by omega), r3 q (by omega)]
      exact h2 q (by omega)
    · have := r4 n (by omega)
      rw [upto_set _ _ _ (by omega), if_pos (by omega), z, Int.sub_zero, this, h3 n (by omega)]
      show _ = (upto xs i + xs.getD i 0 * 4294967296 ^ i) * _
      rw [Int.add_mul]
      congr 1
      simp only [Int.mul_assoc, Int.mul_comm, Int.mul_left_comm]
theorem timesT_at (xs ys : List Int) (hx : Parts xs) (hy : Parts ys) : Parts (timesT xs ys) ∧ ∀ n, xs.length + ys.length ≤ n → upto (timesT xs ys) n = upto xs xs.length * upto ys ys.length :=
  ⟨(rowsT_at xs ys hx hy _ (Nat.le_refl _)).1, (rowsT_at xs ys hx hy _ (Nat.le_refl _)).2.2⟩
theorem above_eq (x p : Int) (h0 : 0 ≤ x) (h1 : x < 18446744073709551616) (hp0 : 0 ≤ p) (hp1 : p < 4294967296) : aboveT x 3 p = decide (p * 79228162514264337593543950336 < x * x * x) := by
  have hA : Parts [x % 4294967296, x / 4294967296] := fun i => by
    match i with
    | 0 => show 0 ≤ x % 4294967296 ∧ x % 4294967296 < 4294967296; omega
    | 1 => show 0 ≤ x / 4294967296 ∧ x / 4294967296 < 4294967296; omega
    | n + 2 => simp
  have hV : Parts [0, 0, 0, p] := fun i => by
    match i with
    | 0 => simp
    | 1 => simp
    | 2 => simp
    | 3 => exact ⟨hp0, hp1⟩
    | n + 4 => simp
  have eA : upto [x % 4294967296, x / 4294967296] 2 = x := by
    show 0 + x % 4294967296 * 4294967296 ^ 0 + x / 4294967296 * 4294967296 ^ 1 = x
    omega
  have eV : upto [0, 0, 0, p] 13 = p * 79228162514264337593543950336 := by
    simp [upto]
  obtain ⟨t1, t2⟩ := timesT_at _ _ hA hA
  obtain ⟨t3, t4⟩ := timesT_at _ _ t1 hA
  have hl : (timesT [x % 4294967296, x / 4294967296] [x % 4294967296, x / 4294967296]).length = 5 := by rw [timesT_len]; rfl
  have e : aboveT x 3 p = cmpT (timesT (timesT [x % 4294967296, x / 4294967296] [x % 4294967296, x / 4294967296]) [x % 4294967296, x / 4294967296]) [0, 0, 0, p] 13 := rfl
  rw [e, cmpT_eq t3 hV, eV, t4 13 (by rw [hl]; simp), hl, t2 5 (by simp)]
  show decide (_ < upto _ 2 * upto _ 2 * upto _ 2) = _
  rw [eA]
/-- One turn of a root whose digits are known. -/
def turnOk (p r k : Nat) : Bool :=
  (fun (x : Int) => (fun (y : Int) => decide (bitT x (35 - k) = y) && (if (p : Int) * 79228162514264337593543950336 < y * y * y then decide (((r / 2 ^ (35 - k) * 2 ^ (35 - k) : Nat) : Int) = x) else decide (((r / 2 ^ (35 - k) * 2 ^ (35 - k) : Nat) : Int) = y))) (x + ((2 ^ (35 - k) : Nat) : Int))) ((r / 2 ^ (36 - k) * 2 ^ (36 - k) : Nat) : Int)
def rootOk (p r : Nat) : Bool := decide (p < 4294967296) && decide (r < 68719476736) && (List.range 36).all (turnOk p r)
theorem rootT_eq (p r : Nat) (h : rootOk p r = true) : rootT (p : Int) 3 36 = (r : Int) := by
  simp only [rootOk, Bool.and_eq_true, decide_eq_true_eq, List.all_eq_true, List.mem_range] at h
  obtain ⟨⟨hp, hr⟩, ht⟩ := h
  have main : ∀ k, k ≤ 36 → rootT (p : Int) 3 k = ((r / 2 ^ (36 - k) * 2 ^ (36 - k) : Nat) : Int) := fun k => by
    induction k with
    | zero =>
      intro _
      have : r / 2 ^ (36 - 0) = 0 := Nat.div_eq_of_lt hr
      rw [this]
      rfl
    | succ k ih =>
      intro hk
      have ih := ih (by omega)
      have h1 := ht k (by omega)
      simp only [turnOk, Bool.and_eq_true, decide_eq_true_eq] at h1
      obtain ⟨hb, hc⟩ := h1
      have hr1 := bits_range (rootT (p : Int) 3 k) (IntKind.u64.wrap (2 ^ (35 - k)))
      have hab := above_eq (bitT (rootT (p : Int) 3 k) (35 - k)) p hr1.1 hr1.2 (by omega) (by omega)
      have hs : rootT (p : Int) 3 (k + 1) = if aboveT (bitT (rootT (p : Int) 3 k) (35 - k)) 3 p then rootT (p : Int) 3 k else bitT (rootT (p : Int) 3 k) (35 - k) := rfl
      rw [hs, hab, ih, hb, show 36 - (k + 1) = 35 - k by omega]
      generalize ((r / 2 ^ (36 - k) * 2 ^ (36 - k) : Nat) : Int) = x at *
      split at hc
      · rename_i hlt
        rw [if_pos (by simpa using hlt)]
        exact (by simpa using hc : _ = x).symm
      · rename_i hlt
        rw [if_neg (by simpa using hlt)]
        exact (by simpa using hc : _ = _).symm
  have := main 36 (Nat.le_refl _)
  simpa using this
/-- The primes below k + 2, of those known. -/
def below (k : Nat) : List Nat := PL.takeWhile (fun p => decide (p < k + 2))
def stepOk (k : Nat) : Bool := (fun l => (fun n => if n then decide (below (k + 1) = l ++ [k + 2]) else decide (below (k + 1) = l)) (newT (l.map Int.ofNat) ((k : Int) + 2) l.length)) (below k)
theorem steps_ok : (List.range 310).all stepOk = true := by decide +kernel
theorem primesT_eq : ∀ k, k ≤ 310 → primesT k = (below k).map Int.ofNat := fun k => by
  induction k with
  | zero => intro _; rfl
  | succ k ih =>
    intro hk
    have h := List.all_eq_true.1 steps_ok k (List.mem_range.2 (by omega))
    have hs : primesT (k + 1) = if newT (primesT k) ((k : Int) + 2) (primesT k).length then primesT k ++ [(k : Int) + 2] else primesT k := rfl
    rw [hs, ih (by omega), List.length_map]
    unfold stepOk at h
    simp only at h
    split at h
    · rename_i hn
      rw [if_pos hn, of_decide_eq_true h, List.map_append]
      rfl
    · rename_i hn
      rw [if_neg hn, of_decide_eq_true h]
theorem below_309 : (below 309).length = 63 := by decide +kernel
theorem below_310 : below 310 = PL := by decide +kernel
theorem primes_309 : (primesT 309).length = 63 := by rw [primesT_eq 309 (by omega), List.length_map, below_309]
theorem primes_310 : primesT 310 = PL.map Int.ofNat := by rw [primesT_eq 310 (by omega), below_310]
theorem primes_len : (primesT 310).length = 64 := by rw [primes_310, List.length_map]; rfl
theorem grains_ok : ((List.range 64).all fun i => decide (((RL.getD i 0 : Nat) : Int) % 4294967296 = num (Sha.kf i))) = true := by decide +kernel
theorem roots_ok : ((List.range 64).all fun i => rootOk (PL.getD i 0) (RL.getD i 0)) = true := by decide +kernel
theorem root_kf (i : Nat) (h : i < 64) : rootT ((primesT 310).getD i 0) 3 36 % 4294967296 = num (Sha.kf i) := by
  have e : (primesT 310).getD i 0 = ((PL.getD i 0 : Nat) : Int) := by
    have hl : PL.length = 64 := rfl
    rw [primes_310, List.getD_eq_getElem?_getD, List.getD_eq_getElem?_getD, List.getElem?_map, List.getElem?_eq_getElem (show i < PL.length by omega)]
    rfl
  rw [e, rootT_eq _ _ (List.all_eq_true.1 roots_ok i (List.mem_range.2 h))]
  exact of_decide_eq_true (List.all_eq_true.1 grains_ok i (List.mem_range.2 h))
end Go.Proofs.YtdpiplllcinieaaDoor
