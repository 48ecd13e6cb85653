import Derived.Test.YtfhnhjklohfikaaLoadA
namespace Go.Proofs.Ytfhnhjklohfikaa
open Go.RowKit FloatOrd
set_option linter.unusedVariables false
attribute [local go_sem] call_bits call_frombits ge_sign

theorem sign_test (x : Nat) (hx : Wd x) : decide (wrap64 (x : Int) < 0) = neg x := by
  have h := hx.out
  unfold wrap64 neg
  rw [decide_eq_decide]; omega
theorem signbit_any (x : Nat) (hx : Wd x) (w : World) :
    Calls Try.prog 46 #[.float .f64 x] w fun e w' => e = .returned (.bool (neg x)) ∧ w = w' := by
  go_enter Try.func46, Try.ntmps46
  go_wp2
  go_ret
  exact ⟨ret_bool (sign_test x hx), rfl⟩
set_option maxRecDepth 100000 in
theorem abs_any (x : Nat) (hx : Wd x) (w : World) :
    Calls Try.prog 66 #[.float .f64 x] w fun e w' => e = .returned (.float .f64 (rung x)) ∧ w = w' := by
  have ha := andNot_sign x hx
  go_enter Try.func66, Try.ntmps66
  go_wp2
  go_ret
  exact ⟨rfl, rfl⟩
set_option maxRecDepth 100000 in
theorem isInf_any (x : Nat) (hx : Wd x) (w : World) :
    Calls Try.prog 48 #[.float .f64 x, .int .i64 0] w fun e w' => e = .returned (.bool (isInf x)) ∧ w = w' := by
  have hr := wd_rung x
  have hm : Wd 9218868437227405311 := by unfold Wd; decide
  have ht := gt_test (rung x) 9218868437227405311 hr hm
  rw [inf_test] at ht
  go_enter Try.func48, Try.ntmps48
  go_wp2_with (go_at_call 66; refine (abs_any _ hx _).mono ?_; rintro e w' ⟨rfl, rfl⟩)
  go_ret
  exact ⟨rfl, rfl⟩
theorem run_sub (x y : Nat) (t : TypeId) (w : World) : ∃ r w', (binOp .sub t (.float .f64 x) (.float .f64 y)).run Try.prog w = .ok (.float .f64 r) w' ∧ FRes (Ieee.double.sub x y) r ∧ ∃ n, w' = w.drewN n := by
  cases h : Ieee.double.sub x y with
  | some q =>
    refine ⟨q, w, run_float_arith w .sub t .f64 x y q h, ⟨?_, rfl⟩, 0, rfl⟩
    have h1 := floatBits_wf (op := .sub) (k := .f64) (x := x) (y := y) (r := q) h
    simp only [Lit.wf, decide_eq_true_eq] at h1
    exact h1
  | none =>
    refine ⟨_, w.drewN 1, ?_, ⟨drawn_lt (w.tape w.drawn (.nanBits .f64 x y)), drawn_nan _⟩, 1, rfl⟩
    have h' : FloatKind.f64.format.sub x y = none := h
    simp [binOp, Op.floatArith, h', Question.forced, Question.cut]
    rfl
def Tells (x : Nat) (w : World) (e : Ending) (w' : World) : Prop := e = .returned (.tuple #[.int .i64 (tellC x), .bool (tellM x), .int .u64 (tellB x)]) ∧ ∃ n, w.drewN n = w'
theorem ret_tells {a b : Int} {m p : Bool} {x y : Int} (h : a = b) (h2 : m = p) (h3 : x = y) : Ending.returned (.tuple #[.int .i64 a, .bool m, .int .u64 x]) = .returned (.tuple #[.int .i64 b, .bool p, .int .u64 y]) := by rw [h, h2, h3]
set_option maxRecDepth 100000 in
theorem tell_any (x : Nat) (hx : Wd x) (w : World) : Calls Try.prog 16 #[.float .f64 x] w (Tells x w) := by
  have hz : Wd 0 := by unfold Wd; decide
  have ea := eq_test x 0 hx hz
  go_enter Try.func16, Try.ntmps16
  go_wp2_with (first
    | (go_at_call 46; refine (signbit_any _ (by assumption) _).mono ?_; rintro e w' ⟨rfl, rfl⟩)
    | (go_at_call 47; refine (isNaN_any _ (by assumption) _).mono ?_; rintro e w' ⟨rfl, rfl⟩)
    | (go_at_call 48; refine (isInf_any _ (by assumption) _).mono ?_; rintro e w' ⟨rfl, rfl⟩))
  all_goals (go_ret3; exact ⟨ret_tells (by simp [tellC, *]) (by simp [tellM, *]) (by simp [tellB, *]), 0, rfl⟩)
set_option maxRecDepth 100000 in
theorem refTell_any (x : Nat) (hx : Wd x) (w : World) : Calls Try.prog 17 #[.float .f64 x] w (Tells x w) := by
  have hz : Wd 0 := by unfold Wd; decide
  have ea := eq_test x 0 hx hz
  have el := lt_test x 0 hx hz
  obtain ⟨r, w1, hq, hr, n, hw⟩ := run_sub x x 22 w
  subst hw
  have hrd := hr.wd
  have er : (FloatKind.f64.format.order r 0 != some Ordering.eq) = !(feq r 0) := by rw [bne, eq_test r 0 hrd hz]
  have hd := Lib.hid (tell_diff x r hx hr)
  have hi := Lib.hid (inf_not_zero x)
  have hlz := Lib.hid (lt_zero x)
  go_enter Try.func17, Try.ntmps17
  go_wp2_with (first
    | (go_at_call 31; refine (nan_any _ (by assumption) _).mono ?_; rintro e w' ⟨rfl, rfl⟩)
    | (go_at_call 44; refine (minus_any _ (by assumption) _).mono ?_; rintro e w' ⟨rfl, rfl⟩))
  · go_ret3
    exact ⟨ret_tells (by simp [tellC, *]) (by simp [tellM, *]) (by simp [tellB, *]), 0, rfl⟩
  · have h1 : isNaN x = false := by assumption
    have h2 : isInf x = true := by rw [← hd.out h1]; assumption
    go_ret3
    exact ⟨ret_tells (by simp [tellC, *]) (by rw [hlz.out h1 (hi.out h2)]; simp [tellM, h1]) (by simp [tellB, *]), n, rfl⟩
  · have h1 : isNaN x = false := by assumption
    have h2 : isInf x = false := by rw [← hd.out h1]; assumption
    go_ret3
    exact ⟨ret_tells (by simp [tellC, *]) (by simp [tellM, h1]) (by simp [tellB, *]), n, rfl⟩
  · have h1 : isNaN x = false := by assumption
    have h2 : isInf x = false := by rw [← hd.out h1]; assumption
    have h3 : feq x 0 = false := by assumption
    go_ret3
    exact ⟨ret_tells (by simp [tellC, *]) (by rw [hlz.out h1 h3]; simp [tellM, h1]) (by simp [tellB, *]), n, rfl⟩

theorem shares_walk (u c b : Int) (hb : 0 ≤ b) (hw : Wd b.toNat) (w : World) : Calls Try.prog 4 #[.int .i64 u, .int .i64 c, .int .u64 b] w (Draws (.bool true) w) := by
  go_enter Try.func4, Try.ntmps4
  go_wp2_with (first
    | (go_at_call 11; refine (alive_any _).mono ?_; rintro e w' ⟨rfl, n, rfl⟩)
    | (go_at_call 16; refine (tell_any _ hw _).mono ?_; rintro e w' ⟨rfl, n, rfl⟩)
    | (go_at_call 17; refine (refTell_any _ hw _).mono ?_; rintro e w' ⟨rfl, n, rfl⟩)
    | (go_at_call 18; refine (share_any _ _ _).mono ?_; rintro e w' ⟨r1, rfl, hr1, n, rfl⟩; have hd1 := hr1.wd)
    | (go_at_call 19; refine (refShare_any _ _ _).mono ?_; rintro e w' ⟨r2, rfl, hr2, n, rfl⟩; have hd2 := hr2.wd; have hs := FRes.same hr1 hr2)
    | (go_at_call 14; refine (same_any _ _ (by assumption) (by assumption) _).mono ?_; rintro e w' ⟨rfl, rfl⟩))
  go_ret
  exact ⟨rfl, _, rfl⟩
theorem below_draws {v : Value} {w w' : World} {e : Ending} (h : Draws v w e w') : e = .returned v ∧ Below w.heap.size w w' := by
  obtain ⟨he, n, rfl⟩ := h
  exact ⟨he, ⟨rfl, rfl, rfl, Nat.le_refl _, fun _ _ => rfl⟩⟩
theorem wd_of {x : Nat} (h : (Lit.float .f64 x).wf = true) : Wd x := by
  simp only [Lit.wf, decide_eq_true_eq] at h
  exact h
theorem wd_u64 {x : Int} (h : (Lit.int .u64 x).wf = true) : 0 ≤ x ∧ Wd x.toNat := by
  have hmin : IntKind.u64.min = 0 := rfl
  have hmax : IntKind.u64.max = 18446744073709551615 := rfl
  simp only [Lit.wf, Bool.and_eq_true, decide_eq_true_eq] at h
  unfold Wd
  omega
theorem shares_law (u c b : Int) (_w0 : (Lit.int .i64 u).wf = true) (_w1 : (Lit.int .i64 c).wf = true) (w2 : (Lit.int .u64 b).wf = true) (w : World) :
    Calls Try.prog 4 #[.int .i64 u, .int .i64 c, .int .u64 b] w fun e w' => e = .returned (.bool true) ∧ Below w.heap.size w w' :=
  (shares_walk u c b (wd_u64 w2).1 (wd_u64 w2).2 w).mono fun _ _ h => below_draws h
end Go.Proofs.Ytfhnhjklohfikaa
