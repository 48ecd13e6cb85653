import Derived.Test.YtfhnhjklohfikaaProg
import Derived.Test.YtfhnhjklohfikaaFloat
import Derived.WalkKit
import Derived.WalkLawsBesides
import Derived.WalkSpells
import Derived.Laws.FloatArith
import Derived.Laws.Externs
import Derived.Lib.Hide
import Derived.Deep.Light
import Derived.Deep.RegionWith
import Derived.Deep.QuietTactic
import Derived.BigQuiet
namespace Go.Proofs.Ytfhnhjklohfikaa
open Go.RowKit FloatOrd

theorem ret_bool {a b : Bool} (h : a = b) : Ending.returned (.bool a) = .returned (.bool b) := by rw [h]
theorem ret_int {k : IntKind} {a b : Int} (h : a = b) : Ending.returned (.int k a) = .returned (.int k b) := by rw [h]

theorem call_bits (x : Nat) (w : World) : (callFunc 45 #[.float .f64 x]).run Try.prog w = .ok (.value (.int .u64 x)) w := by
  rw [run_callFunc_extern (e := Extern.MathFloatBits.float64bits) Try.func45 (by kernel_rfl) (by kernel_rfl) (by kernel_rfl) (by kernel_rfl)]
  rfl
theorem call_frombits (n : Int) (w : World) : (callFunc 15 #[.int .u64 n]).run Try.prog w = .ok (.value (.float .f64 n.toNat)) w := by
  rw [run_callFunc_extern (e := Extern.MathFloatBits.float64frombits) Try.func15 (by kernel_rfl) (by kernel_rfl) (by kernel_rfl) (by kernel_rfl)]
  rfl
attribute [local go_sem] call_bits call_frombits

theorem isNaN_any (x : Nat) (hx : Wd x) (w : World) :
    Calls Try.prog 47 #[.float .f64 x] w fun e w' => e = .returned (.bool (isNaN x)) ∧ w = w' := by
  go_enter Try.func47, Try.ntmps47
  go_wp2
  go_ret
  exact ⟨ret_bool (nan_test x hx), rfl⟩
set_option linter.unusedVariables false
theorem shr_test (x : Nat) (hx : Wd x) : ((x : Int) / 9223372036854775808 == 1) = neg x := by
  have h := hx.out
  unfold neg
  by_cases c : 9223372036854775808 ≤ x
  · rw [decide_eq_true c, beq_iff_eq]; omega
  · rw [decide_eq_false c, beq_eq_false_iff_ne]; omega
theorem ge_sign (x : Nat) : (decide ((9223372036854775808 : Int) ≤ (x : Int))) = neg x := by
  unfold neg
  rw [decide_eq_decide]; omega
attribute [local go_sem] ge_sign
set_option maxRecDepth 100000 in
theorem minus_any (x : Nat) (hx : Wd x) (w : World) :
    Calls Try.prog 44 #[.float .f64 x] w fun e w' => e = .returned (.bool (neg x)) ∧ w = w' := by
  go_enter Try.func44, Try.ntmps44
  go_wp2
  go_ret
  exact ⟨ret_bool (shr_test x hx), rfl⟩
theorem andNot_sign (x : Nat) (hx : Wd x) : bits BinOp.andNot .u64 (x : Int) 9223372036854775808 = (rung x : Int) := by
  have h := u64_andNot_nat x 9223372036854775808 hx.out (by decide)
  rw [show ((9223372036854775808 : Nat) : Int) = 9223372036854775808 from rfl] at h
  rw [h]
  congr 1
  exact Nat.and_two_pow_sub_one_eq_mod x 63
theorem place_neg {x : Nat} (hn : isNaN x = false) (hs : neg x = true) : place x = -1 - (rung x : Int) := by
  unfold place; simp [hn, hs]
theorem place_pos {x : Nat} (hx : Wd x) (hn : isNaN x = false) (hs : neg x = false) : place x = (x : Int) := by
  unfold place; simp only [hn, hs, Bool.false_eq_true, if_false]
  unfold neg at hs; unfold rung
  have := of_decide_eq_false hs
  omega
set_option maxRecDepth 100000 in
theorem place_any (x : Nat) (hx : Wd x) (w : World) :
    Calls Try.prog 43 #[.float .f64 x] w fun e w' => e = .returned (.int .i64 (place x)) ∧ w = w' := by
  cases hn : isNaN x
  · cases hs : neg x
    · have hp := Lib.hid (place_pos hx hn hs)
      have hr := Lib.hid (isNaN_false hn)
      go_enter Try.func43, Try.ntmps43
      go_wp2_with (first | (go_at_call 47; refine (isNaN_any _ hx _).mono ?_; rintro e w' ⟨rfl, rfl⟩))
      go_ret
      refine ⟨ret_int ?_, rfl⟩
      have h1 := place_le x
      rw [hp.out] at h1 ⊢
      exact IntWalk.wrap64_in _ ⟨by omega, by omega⟩
    · have hp := Lib.hid (place_neg hn hs)
      have ha := Lib.hid (andNot_sign x hx)
      go_enter Try.func43, Try.ntmps43
      go_wp2_with (first | (go_at_call 47; refine (isNaN_any _ hx _).mono ?_; rintro e w' ⟨rfl, rfl⟩))
      go_ret
      refine ⟨ret_int ?_, rfl⟩
      have h1 := rung_lt x
      rw [hp.out, ha.out, IntWalk.wrap64_in (rung x : Int) ⟨by omega, by omega⟩]
      exact IntWalk.wrap64_in _ ⟨by omega, by omega⟩
  · have hp := Lib.hid (place_nan hn)
    go_enter Try.func43, Try.ntmps43
    go_wp2_with (first | (go_at_call 47; refine (isNaN_any _ hx _).mono ?_; rintro e w' ⟨rfl, rfl⟩))
    go_ret
    exact ⟨ret_int hp.out.symm, rfl⟩
theorem better_any (a b : Nat) (ha : Wd a) (hb : Wd b) (w : World) :
    Calls Try.prog 12 #[.float .f64 a, .float .f64 b] w fun e w' => e = .returned (.bool (better a b)) ∧ w = w' := by
  go_enter Try.func12, Try.ntmps12
  go_wp2_with fail
  refine (place_any a ha _).mono ?_; rintro e w' ⟨rfl, rfl⟩
  go_wp2_with fail
  refine (place_any b hb _).mono ?_; rintro e w' ⟨rfl, rfl⟩
  go_wp2
  go_ret
  exact ⟨rfl, rfl⟩
theorem nan_any (x : Nat) (hx : Wd x) (w : World) :
    Calls Try.prog 31 #[.float .f64 x] w fun e w' => e = .returned (.bool (isNaN x)) ∧ w = w' := by
  go_enter Try.func31, Try.ntmps31
  go_wp2
  go_ret
  exact ⟨ret_bool (nan_test x hx), rfl⟩
set_option maxRecDepth 100000 in
theorem refBetter_any (a b : Nat) (ha : Wd a) (hb : Wd b) (w : World) :
    Calls Try.prog 13 #[.float .f64 a, .float .f64 b] w fun e w' => e = .returned (.bool (better a b)) ∧ w = w' := by
  have hz : Wd 0 := by unfold Wd; decide
  have ea := eq_test a 0 ha hz
  have eb := eq_test b 0 hb hz
  have el := lt_test a b ha hb
  have hf := Lib.hid (refBetter_eq a b)
  go_enter Try.func13, Try.ntmps13
  go_wp2_with (first
    | (go_at_call 31; refine (nan_any _ (by assumption) _).mono ?_; rintro e w' ⟨rfl, rfl⟩)
    | (go_at_call 44; refine (minus_any _ (by assumption) _).mono ?_; rintro e w' ⟨rfl, rfl⟩))
  all_goals (go_ret; refine ⟨ret_bool ?_, rfl⟩; rw [← hf.out]; simp [refBetter, *])
theorem beq_cast (a b : Nat) : ((a : Int) == (b : Int)) = (a == b) := by
  rw [Bool.eq_iff_iff, beq_iff_eq, beq_iff_eq]; omega
theorem same_any (a b : Nat) (ha : Wd a) (hb : Wd b) (w : World) :
    Calls Try.prog 14 #[.float .f64 a, .float .f64 b] w fun e w' => e = .returned (.bool (same a b)) ∧ w = w' := by
  go_enter Try.func14, Try.ntmps14
  go_wp2_with (first
    | (go_at_call 31; refine (nan_any _ (by assumption) _).mono ?_; rintro e w' ⟨rfl, rfl⟩))
  all_goals (go_ret; refine ⟨ret_bool ?_, rfl⟩; simp [same, beq_cast, *])

/-! ### Shares -/
theorem run_quo (x y : Nat) (t : TypeId) (w : World) : ∃ r w', (binOp .quo t (.float .f64 x) (.float .f64 y)).run Try.prog w = .ok (.float .f64 r) w' ∧ FRes (Ieee.double.div x y) r ∧ ∃ n, w' = w.drewN n := by
  cases h : Ieee.double.div x y with
  | some q =>
    refine ⟨q, w, run_float_arith w .quo t .f64 x y q h, ⟨?_, rfl⟩, 0, rfl⟩
    have h1 := floatBits_wf (op := .quo) (k := .f64) (x := x) (y := y) (r := q) h
    simp only [Lit.wf, decide_eq_true_eq] at h1
    exact h1
  | none =>
    refine ⟨_, w.drewN 1, ?_, ⟨drawn_lt (w.tape w.drawn (.nanBits .f64 x y)), drawn_nan _⟩, 1, rfl⟩
    have h' : FloatKind.f64.format.div x y = none := h
    simp [binOp, Op.floatArith, h', Question.forced, Question.cut]
    rfl
theorem sign_bits : bits BinOp.andNot .u64 0 9223372036854775808 = 0 ∧ bits BinOp.and .u64 13830554455654793216 9223372036854775808 = 9223372036854775808 ∧ bits BinOp.or .u64 0 9223372036854775808 = 9223372036854775808 := by
  refine ⟨?_, ?_, ?_⟩ <;> decide
set_option maxRecDepth 100000 in
theorem copysign_neg (w : World) :
    Calls Try.prog 67 #[.float .f64 0, .float .f64 13830554455654793216] w fun e w' => e = .returned (.float .f64 9223372036854775808) ∧ w = w' := by
  have h1 := sign_bits.1
  have h2 := sign_bits.2.1
  have h3 := sign_bits.2.2
  go_enter Try.func67, Try.ntmps67
  go_wp2
  go_ret
  exact ⟨rfl, rfl⟩
theorem part_any (n : Int) (w : World) :
    Calls Try.prog 49 #[.int .i64 n] w fun e w' => e = .returned (.float .f64 (partF n)) ∧ w = w' := by
  by_cases h : n < 0
  · have e : Hid (partF n = 9223372036854775808) := by unfold partF; exact if_pos h
    go_enter Try.func49, Try.ntmps49
    go_wp2_with (go_at_call 67; refine (copysign_neg _).mono ?_; rintro e w' ⟨rfl, rfl⟩)
    go_ret
    exact ⟨by rw [e.out]; rfl, rfl⟩
  · go_enter Try.func49, Try.ntmps49
    go_wp2_with fail
    go_ret
    exact ⟨by unfold partF; rw [if_neg (by omega)]; rfl, rfl⟩
theorem refPart_any (n : Int) (w : World) :
    Calls Try.prog 50 #[.int .i64 n] w fun e w' => e = .returned (.float .f64 (partF n)) ∧ w = w' := by
  by_cases h : n < 0
  · have e : Hid (partF n = 9223372036854775808) := by unfold partF; exact if_pos h
    go_enter Try.func50, Try.ntmps50
    go_wp2
    go_ret
    exact ⟨by rw [e.out]; rfl, rfl⟩
  · go_enter Try.func50, Try.ntmps50
    go_wp2_with fail
    go_ret
    exact ⟨by unfold partF; rw [if_neg (by omega)]; rfl, rfl⟩
def DivRes (x y : Nat) (w : World) (e : Ending) (w' : World) : Prop := ∃ r, e = .returned (.float .f64 r) ∧ FRes (Ieee.double.div x y) r ∧ ∃ n, w.drewN n = w'
theorem share_any (u c : Int) (w : World) : Calls Try.prog 18 #[.int .i64 u, .int .i64 c] w (DivRes (partF u) (partF c) w) := by
  obtain ⟨r, w1, hq, hr, n, hw⟩ := run_quo (partF u) (partF c) 22 w
  subst hw
  go_enter Try.func18, Try.ntmps18
  go_wp2_with (go_at_call 49; refine (part_any _ _).mono ?_; rintro e w' ⟨rfl, rfl⟩)
  go_ret
  exact ⟨r, rfl, hr, n, rfl⟩
theorem refShare_any (u c : Int) (w : World) : Calls Try.prog 19 #[.int .i64 u, .int .i64 c] w (DivRes (partF u) (partF c) w) := by
  obtain ⟨r, w1, hq, hr, n, hw⟩ := run_quo (partF u) (partF c) 22 w
  subst hw
  go_enter Try.func19, Try.ntmps19
  go_wp2_with (go_at_call 50; refine (refPart_any _ _).mono ?_; rintro e w' ⟨rfl, rfl⟩)
  go_ret
  exact ⟨r, rfl, hr, n, rfl⟩
theorem quarter : Ieee.double.div (partF 1) (partF 4) = some 4598175219545276416 := by decide +kernel
theorem nought : Ieee.double.div (partF 0) (partF 0) = none := by decide +kernel
def Draws (v : Value) (w : World) (e : Ending) (w' : World) : Prop := e = .returned v ∧ ∃ n, w.drewN n = w'
set_option maxRecDepth 100000 in
theorem alive_any (w : World) : Calls Try.prog 11 #[] w (Draws (.bool true) w) := by
  have t1 : (FloatKind.f64.format.order 4598175219545276416 4598175219545276416 == some Ordering.eq) = true := by decide +kernel
  go_enter Try.func11, Try.ntmps11
  go_wp2_with fail
  refine (share_any _ _ _).mono ?_
  rintro e w' ⟨r, rfl, hr, n, rfl⟩
  obtain rfl := hr.of_some quarter
  go_wp2_with fail
  refine (share_any _ _ _).mono ?_
  rintro e w' ⟨r, rfl, hr, n, rfl⟩
  have hn := hr.of_none nought
  have hd := hr.wd
  go_wp2_with fail
  refine (nan_any _ hd _).mono ?_
  rintro e w' ⟨rfl, rfl⟩
  go_wp2
  go_ret
  exact ⟨rfl, _, rfl⟩
theorem order_walk (a b c : Nat) (ha : Wd a) (hb : Wd b) (hc : Wd c) (w : World) : Calls Try.prog 3 #[.float .f64 a, .float .f64 b, .float .f64 c] w (Draws (.bool true) w) := by
  have h0 := better_self a
  have hl := Lib.hid (order_law a b c ha hb)
  go_enter Try.func3, Try.ntmps3
  go_wp2_with (first
    | (go_at_call 11; refine (alive_any _).mono ?_; rintro e w' ⟨rfl, n, rfl⟩)
    | (go_at_call 12; refine (better_any _ _ (by assumption) (by assumption) _).mono ?_; rintro e w' ⟨rfl, rfl⟩)
    | (go_at_call 13; refine (refBetter_any _ _ (by assumption) (by assumption) _).mono ?_; rintro e w' ⟨rfl, rfl⟩)
    | (go_at_call 14; refine (same_any _ _ (by assumption) (by assumption) _).mono ?_; rintro e w' ⟨rfl, rfl⟩))
  all_goals
    go_ret
    refine ⟨ret_bool ?_, n, rfl⟩
    have l := hl.out
    clear hl
    go_light
    simp_all
end Go.Proofs.Ytfhnhjklohfikaa
