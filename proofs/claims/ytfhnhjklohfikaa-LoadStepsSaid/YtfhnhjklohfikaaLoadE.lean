import Derived.Test.YtfhnhjklohfikaaLoadD
namespace Go.Proofs.Ytfhnhjklohfikaa
open Go.RowKit FloatOrd
set_option linter.unusedVariables false
theorem same_refl (x : Nat) : same x x = true := by unfold same; simp
set_option maxRecDepth 100000 in
theorem steps_walk (x : Nat) (n : Int) (hx : Wd x) (w : World) : Calls Try.prog 5 #[.float .f64 x, .int .i64 n] w (Draws (.bool true) w) := by
  have b1 : -50 ≤ n.tmod 50 := by have h := Int.lt_tmod_of_pos n (show (0 : Int) < 50 by decide); omega
  have b2 : n.tmod 50 ≤ 50 := by have h := Int.tmod_lt_of_pos n (show (0 : Int) < 50 by decide); omega
  have hl := Lib.hid (fun h1 h2 h3 => steps_law x (n.tmod 50) hx b1 b2 h1 h2 h3)
  have ht := Lib.hid (tellC_lt x)
  have ht2 := Lib.hid (tellC_lt (stepF x (n.tmod 50)))
  generalize hm : n.tmod 50 = m at *
  have Hm := Lib.hid hm
  have hy := stepF_wd x m hx
  have hu := stepF_wd x 1 hx
  have hyy := stepF_wd (stepF x m) (-m) hy
  have hs := same_refl (stepF x m)
  by_cases c1 : tellC x < 2
  · go_enter Try.func5, Try.ntmps5
    go_wp2_with (first
      | (go_at_call 11; refine (alive_any _).mono ?_; rintro e w' ⟨rfl, n, rfl⟩)
      | (go_at_call 20; refine (steps_any _ _ (by assumption) (by omega) (by omega) _).mono ?_; rintro e w' ⟨rfl, rfl⟩)
      | (go_at_call 21; refine (refSteps_any _ _ (by assumption) (by omega) (by omega) _).mono ?_; rintro e w' ⟨rfl, n, rfl⟩)
      | (go_at_call 14; refine (same_any _ _ (by assumption) (by assumption) _).mono ?_; rintro e w' ⟨rfl, rfl⟩)
      | (go_at_call 12; refine (better_any _ _ (by assumption) (by assumption) _).mono ?_; rintro e w' ⟨rfl, rfl⟩)
      | (go_at_call 16; refine (tell_any _ (by assumption) _).mono ?_; rintro e w' ⟨rfl, n, rfl⟩))
    go_ret
    exact ⟨rfl, _, rfl⟩
  · by_cases c2 : tellC (stepF x m) < 2
    · go_enter Try.func5, Try.ntmps5
      go_wp2_with (first
      | (go_at_call 11; refine (alive_any _).mono ?_; rintro e w' ⟨rfl, n, rfl⟩)
      | (go_at_call 20; refine (steps_any _ _ (by assumption) (by omega) (by omega) _).mono ?_; rintro e w' ⟨rfl, rfl⟩)
      | (go_at_call 21; refine (refSteps_any _ _ (by assumption) (by omega) (by omega) _).mono ?_; rintro e w' ⟨rfl, n, rfl⟩)
      | (go_at_call 14; refine (same_any _ _ (by assumption) (by assumption) _).mono ?_; rintro e w' ⟨rfl, rfl⟩)
      | (go_at_call 12; refine (better_any _ _ (by assumption) (by assumption) _).mono ?_; rintro e w' ⟨rfl, rfl⟩)
      | (go_at_call 16; refine (tell_any _ (by assumption) _).mono ?_; rintro e w' ⟨rfl, n, rfl⟩))
      go_ret
      exact ⟨rfl, _, rfl⟩
    · have q1 := ht.out c1
      have q2 := ht2.out c2
      have q3 := hl.out q1.1 q1.2 q2.2
      have hb := q3.2
      have Q := Lib.hid q3.1
      have hs2 : same (stepF (stepF x m) (-m)) x = true := by rw [Q.out]; exact same_refl x
      clear q1 q2 q3
      go_enter Try.func5, Try.ntmps5
      go_wp2_with (first
      | (go_at_call 11; refine (alive_any _).mono ?_; rintro e w' ⟨rfl, n, rfl⟩)
      | (go_at_call 20; refine (steps_any _ _ (by assumption) (by omega) (by omega) _).mono ?_; rintro e w' ⟨rfl, rfl⟩)
      | (go_at_call 21; refine (refSteps_any _ _ (by assumption) (by omega) (by omega) _).mono ?_; rintro e w' ⟨rfl, n, rfl⟩)
      | (go_at_call 14; refine (same_any _ _ (by assumption) (by assumption) _).mono ?_; rintro e w' ⟨rfl, rfl⟩)
      | (go_at_call 12; refine (better_any _ _ (by assumption) (by assumption) _).mono ?_; rintro e w' ⟨rfl, rfl⟩)
      | (go_at_call 16; refine (tell_any _ (by assumption) _).mono ?_; rintro e w' ⟨rfl, n, rfl⟩))
      go_ret
      exact ⟨rfl, _, rfl⟩
theorem steps_law_walk (x : Nat) (n : Int) (w0 : (Lit.float .f64 x).wf = true) (_w1 : (Lit.int .i64 n).wf = true) (w : World) :
    Calls Try.prog 5 #[.float .f64 x, .int .i64 n] w fun e w' => e = .returned (.bool true) ∧ Below w.heap.size w w' :=
  (steps_walk x n (wd_of w0) w).mono fun _ _ h => below_draws h
end Go.Proofs.Ytfhnhjklohfikaa
