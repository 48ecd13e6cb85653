/- Which stamps a repository's serving state admits; the reference's answers; the chapter's example. -/
import Derived.Test.YtdglpbjofdipkaaDoorPhase2
namespace Go.Proofs.YtdglpbjofdipkaaDoor
open Go.RowKit Go.Stop Go.Extern
set_option linter.unusedVariables false
set_option linter.unusedSimpArgs false
theorem writes_any (s e : Int) (w : World) : Calls Tryd.prog 20 #[.agg #[.int .i64 s, .int .i64 e]] w fun x w' => x = .returned (.bool (s == 2)) ∧ w.alloc (.cells #[.int .i64 s, .int .i64 e] 23) = w' := by
  go_enter Tryd.func20, Tryd.ntmps20
  go_wp2
  go_ret
  exact ⟨rfl, rfl⟩
def staleR (s e st : Int) : Bool := if s = 4 ∨ s = 5 then decide (st ≤ e) else decide (st < e)
theorem stale_any (s e st : Int) (w : World) : Calls Tryd.prog 68 #[.agg #[.int .i64 s, .int .i64 e], .int .i64 st] w fun x w' => x = .returned (.bool (staleR s e st)) ∧ w.alloc (.cells #[.int .i64 s, .int .i64 e] 23) = w' := by
  by_cases h : s = 4 ∨ s = 5
  · have H : Hid (staleR s e st = decide (st ≤ e)) := by unfold staleR; exact if_pos h
    rcases h with h | h
    · have h1 : (s == 4) = true := by simp [h]
      clear h
      go_enter Tryd.func68, Tryd.ntmps68
      go_wp2
      go_ret
      exact ⟨ret_bool H.out.symm, rfl⟩
    · have h1 : (s == 4) = false := by simp [h]
      have h2 : (s == 5) = true := by simp [h]
      clear h
      go_enter Tryd.func68, Tryd.ntmps68
      go_wp2
      go_ret
      exact ⟨ret_bool H.out.symm, rfl⟩
  · have H : Hid (staleR s e st = decide (st < e)) := by unfold staleR; exact if_neg h
    have h1 : (s == 4) = false := by rw [beq_eq_false_iff_ne]; omega
    have h2 : (s == 5) = false := by rw [beq_eq_false_iff_ne]; omega
    clear h
    go_enter Tryd.func68, Tryd.ntmps68
    go_wp2
    go_ret
    exact ⟨ret_bool H.out.symm, rfl⟩
def admitR (s e st : Int) : Nat := if right s e = false then 16 else if staleR s e st = true then 18 else if s ≠ 2 ∨ st ≠ e then 16 else 0
theorem err3 {w : World} {a : Nat → Addr} (H : Errs w a) (n : Nat) (h1 : 1 ≤ n) (h2 : n ≤ 22) (o1 o2 o3 : Obj) :
    (((w.alloc o1).alloc o2).alloc o3).cell? ⟨gErr n, 0, none⟩ = some (.iface 143 (.pointer (some (a n)))) :=
  (H.below (ba (ba (ba (Below.refl _ _) _) _) _)).at n h1 h2
def AEnd (a : Nat → Addr) (n : Nat) (w : World) (x : Ending) (w' : World) : Prop := x = .returned (errV a n) ∧ Below w.heap.size w w'
theorem ret_err {a : Nat → Addr} {n m : Nat} {v : Value} (h : m = n) (hv : v = errV a n) : Ending.returned v = .returned (errV a m) := by subst h; rw [hv]
theorem admit_any (a : Nat → Addr) (s e st : Int) (w : World) (E : Env w a) : Calls Tryd.prog 21 #[.agg #[.int .i64 s, .int .i64 e], .int .i64 st] w (AEnd a (admitR s e st) w) := by
  have HE := Lib.hid E
  clear E
  have q16 := err3 HE.out.errs 16 (by decide) (by decide)
  have r16 := err4 HE.out.errs 16 (by decide) (by decide)
  have r18 := err4 HE.out.errs 18 (by decide) (by decide)
  simp only [gErr] at q16 r16 r18
  cases hr : right s e
  · have H : Hid (admitR s e st = 16) := by unfold admitR; exact if_pos hr
    go_enter Tryd.func21, Tryd.ntmps21
    go_wp2_with (go_at_call 17; refine (right_any _ _ _ (HE.out.names.below (ba (Below.refl _ _) _))).mono ?_; rintro e w' ⟨rfl, rfl⟩)
    go_ret
    exact ⟨ret_err H.out (errV_pos a 16 (by decide)).symm, by repeat (first | exact Below.refl _ _ | apply bd | apply ba)⟩
  · cases hs : staleR s e st
    · by_cases h1 : s = 2
      · by_cases h2 : st = e
        · have H : Hid (admitR s e st = 0) := by unfold admitR; rw [if_neg (by simp [hr]), if_neg (by simp [hs]), if_neg (by simp [h1, h2])]; exact rfl
          have t1 : (s != 2) = false := by simp [h1]
          have t2 : (st != e) = false := by simp [h2]
          clear h1 h2
          go_enter Tryd.func21, Tryd.ntmps21
          go_wp2_with (first
            | (go_at_call 17; refine (right_any _ _ _ (HE.out.names.below (ba (Below.refl _ _) _))).mono ?_; rintro e w' ⟨rfl, rfl⟩)
            | (go_at_call 68; refine (stale_any _ _ _ _).mono ?_; rintro e w' ⟨rfl, rfl⟩))
          go_ret
          exact ⟨ret_err H.out rfl, by repeat (first | exact Below.refl _ _ | apply bd | apply ba)⟩
        · have H : Hid (admitR s e st = 16) := by unfold admitR; rw [if_neg (by simp [hr]), if_neg (by simp [hs]), if_pos (.inr h2)]; exact rfl
          have t1 : (s != 2) = false := by simp [h1]
          have t2 : (st != e) = true := by simp [h2]
          clear h1 h2
          go_enter Tryd.func21, Tryd.ntmps21
          go_wp2_with (first
            | (go_at_call 17; refine (right_any _ _ _ (HE.out.names.below (ba (Below.refl _ _) _))).mono ?_; rintro e w' ⟨rfl, rfl⟩)
            | (go_at_call 68; refine (stale_any _ _ _ _).mono ?_; rintro e w' ⟨rfl, rfl⟩))
          go_ret
          exact ⟨ret_err H.out (errV_pos a 16 (by decide)).symm, by repeat (first | exact Below.refl _ _ | apply bd | apply ba)⟩
      · have H : Hid (admitR s e st = 16) := by unfold admitR; rw [if_neg (by simp [hr]), if_neg (by simp [hs]), if_pos (.inl h1)]; exact rfl
        have t1 : (s != 2) = true := by simp [h1]
        clear h1
        go_enter Tryd.func21, Tryd.ntmps21
        go_wp2_with (first
          | (go_at_call 17; refine (right_any _ _ _ (HE.out.names.below (ba (Below.refl _ _) _))).mono ?_; rintro e w' ⟨rfl, rfl⟩)
          | (go_at_call 68; refine (stale_any _ _ _ _).mono ?_; rintro e w' ⟨rfl, rfl⟩))
        go_ret
        exact ⟨ret_err H.out (errV_pos a 16 (by decide)).symm, by repeat (first | exact Below.refl _ _ | apply bd | apply ba)⟩
    · have H : Hid (admitR s e st = 18) := by unfold admitR; rw [if_neg (by simp [hr]), if_pos hs]; exact rfl
      go_enter Tryd.func21, Tryd.ntmps21
      go_wp2_with (first
        | (go_at_call 17; refine (right_any _ _ _ (HE.out.names.below (ba (Below.refl _ _) _))).mono ?_; rintro e w' ⟨rfl, rfl⟩)
        | (go_at_call 68; refine (stale_any _ _ _ _).mono ?_; rintro e w' ⟨rfl, rfl⟩))
      go_ret
      exact ⟨ret_err H.out (errV_pos a 18 (by decide)).symm, by repeat (first | exact Below.refl _ _ | apply bd | apply ba)⟩

/-! ### The reference -/
theorem right_iff (s e : Int) : right s e = true ↔ (0 ≤ s ∧ s ≤ 5 ∧ 0 ≤ e ∧ e ≤ 1099511627776 ∧ (s = 0 ↔ e = 0)) := by
  have h : ((s == 0) == (e == 0)) = true ↔ (s = 0 ↔ e = 0) := by
    by_cases h1 : s = 0
    · by_cases h2 : e = 0 <;> simp [h1, h2]
    · rw [beq_eq_false_iff_ne.2 h1]
      by_cases h2 : e = 0
      · simp [h1, h2]
      · rw [beq_eq_false_iff_ne.2 h2]; simp [h1, h2]
  unfold right maxE
  simp only [Bool.and_eq_true, decide_eq_true_eq, h, and_assoc]
theorem refRight_any (s e : Int) (w : World) : Calls Tryd.prog 18 #[.agg #[.int .i64 s, .int .i64 e]] w fun x w' => x = .returned (.bool (right s e)) ∧ w.alloc (.cells #[.int .i64 s, .int .i64 e] 30) = w' := by
  go_enter Tryd.func18, Tryd.ntmps18
  go_wp2
  all_goals
    go_ret
    refine ⟨ret_bool ?_, rfl⟩
    go_light
    rw [Bool.eq_iff_iff, right_iff]
    simp only [beq_iff_eq, beq_eq_false_iff_ne, ne_eq, decide_eq_true_eq, Bool.false_eq_true] at *
    refine ⟨fun h => ?_, fun h => ?_⟩
    all_goals first | exact h.elim | omega
theorem admitR_of {s e st : Int} (hr : right s e = true) : admitR s e st = if st < e ∨ (st = e ∧ 4 ≤ s) then 18 else if s = 2 ∧ st = e then 0 else 16 := by
  have h := (right_iff s e).1 hr
  unfold admitR staleR
  rw [if_neg (by simp [hr])]
  simp only [ne_eq]
  repeat' split
  all_goals simp only [decide_eq_true_eq] at *
  all_goals first | rfl | (exfalso; omega)
theorem refAdmit_any (s e st : Int) (w : World) : Calls Tryd.prog 22 #[.agg #[.int .i64 s, .int .i64 e], .int .i64 st] w fun x w' => x = .returned (.int .i64 (admitR s e st)) ∧ Below w.heap.size w w' := by
  cases hr : right s e
  · go_enter Tryd.func22, Tryd.ntmps22
    go_wp2_with (go_at_call 18; refine (refRight_any _ _ _).mono ?_; rintro e w' ⟨rfl, rfl⟩)
    go_ret
    refine ⟨?_, by repeat (first | exact Below.refl _ _ | apply bd | apply ba)⟩
    unfold admitR; rw [if_pos hr]; rfl
  · have H := Lib.hid (admitR_of (st := st) hr)
    go_enter Tryd.func22, Tryd.ntmps22
    go_wp2_with (go_at_call 18; refine (refRight_any _ _ _).mono ?_; rintro e w' ⟨rfl, rfl⟩)
    all_goals
      go_ret
      refine ⟨?_, by repeat (first | exact Below.refl _ _ | apply bd | apply ba)⟩
      rw [H.out]
      go_light
      simp only [beq_iff_eq, beq_eq_false_iff_ne, ne_eq] at *
      first
        | (rw [if_pos (by omega)]; rfl)
        | (rw [if_neg (by omega), if_pos (by omega)]; rfl)
        | (rw [if_neg (by omega), if_neg (by omega)]; rfl)
/-! ### The chapter's example -/
theorem example_facts : fenceR 2 3 3 = (3, 3, 0) ∧ openR 3 3 3 = (3, 3, 18) ∧ openR 3 3 4 = (2, 4, 0) := by decide +kernel
theorem alive_any (a : Nat → Addr) (w : World) (E : Env w a) : Calls Tryd.prog 13 #[] w fun x w' => x = .returned (.bool true) ∧ Below w.heap.size w w' := by
  have HE := Lib.hid E
  clear E
  obtain ⟨f1, f2, f3⟩ := example_facts
  have F1 := Lib.hid f1
  have F2 := Lib.hid f2
  have F3 := Lib.hid f3
  clear f1 f2 f3
  go_enter Tryd.func13, Tryd.ntmps13
  go_wp2_with fail
  refine (fence_any a _ _ _ _ HE.out).mono ?_
  rintro x1 w1 ⟨rfl, hb1⟩
  rw [F1.out]
  unfold PRes
  simp only [errV, if_true]
  have HB1 := Lib.hid hb1
  clear hb1
  go_wp2_with fail
  refine (open_any a _ _ _ _ (HE.out.below (ba HB1.out _))).mono ?_
  rintro x2 w2 ⟨rfl, hb2⟩
  rw [F2.out]
  unfold PRes
  have hz2 : w1.heap.size < w2.heap.size := by have := hb2.size; simp at this; omega
  obtain ⟨hc2, hf2⟩ := bcell hb2
  have HB2 : Hid (Below w.heap.size w w2) := (ba HB1.out _).trans (hb2.mono (by have := HB1.out.size; simp; omega))
  clear hb2
  simp only [errV, if_neg (show ¬ (18 : Nat) = 0 by decide)]
  go_wp2_with fail
  refine (open_any a _ _ _ _ (HE.out.below (ba HB2.out _))).mono ?_
  rintro x3 w3 ⟨rfl, hb3⟩
  rw [F3.out]
  unfold PRes
  have hz3 : w2.heap.size < w3.heap.size := by have := hb3.size; simp at this; omega
  have hz4 : w1.heap.size < w3.heap.size := by omega
  obtain ⟨hc3, hf3⟩ := bcell hb3
  have HB3 : Hid (Below w.heap.size w w3) := (ba HB2.out _).trans (hb3.mono (by have := HB2.out.size; simp; omega))
  clear hb3
  simp only [errV, if_true]
  go_wp2_with fail
  refine (num_some a 18 (by decide) (by decide) _ (HE.out.errs.below (ba HB3.out _))).mono ?_
  rintro x4 w4 ⟨rfl, hb4⟩
  have hz5 : w3.heap.size < w4.heap.size := by have := hb4.size; simp at this; omega
  have hz6 : w2.heap.size < w4.heap.size := by omega
  have hz7 : w1.heap.size < w4.heap.size := by omega
  obtain ⟨hc4, hf4⟩ := bcell hb4
  have HB4 : Hid (Below w.heap.size w w4) := (ba HB3.out _).trans (hb4.mono (by have := HB3.out.size; simp; omega))
  clear hb4
  go_wp2
  go_ret
  exact ⟨rfl, HB4.out⟩
end Go.Proofs.YtdglpbjofdipkaaDoor
