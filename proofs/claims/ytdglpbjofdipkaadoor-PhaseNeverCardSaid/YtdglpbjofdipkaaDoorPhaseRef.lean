/- The reference's phase behind an event. -/
import Derived.Test.YtdglpbjofdipkaaDoorPhaseDo
namespace Go.Proofs.YtdglpbjofdipkaaDoor
open Go.RowKit Go.Stop Go.Extern
set_option linter.unusedVariables false
set_option linter.unusedSimpArgs false
def RRes (r : Int × Int × Nat) : Value := .tuple #[.agg #[.int .i64 r.1, .int .i64 r.2.1], .int .i64 r.2.2]
def RfEnd (r : Int × Int × Nat) (w : World) (e : Ending) (w' : World) : Prop := e = .returned (RRes r) ∧ Below w.heap.size w w'
theorem has_from (s : Int) (h0 : 0 ≤ s) (h5 : s ≤ 5) : has [0, 1, 3, 4, 5] s = fromR 0 s ∧ has [0, 1, 3, 2] s = fromR 1 s ∧ has [2] s = fromR 2 s ∧ has [1, 3, 2, 4] s = fromR 3 s ∧ has [4] s = fromR 4 s := by
  have hs : s = 0 ∨ s = 1 ∨ s = 2 ∨ s = 3 ∨ s = 4 ∨ s = 5 := by omega
  rcases hs with rfl | rfl | rfl | rfl | rfl | rfl <;> decide
def lateR (k s e x : Int) : Bool := decide ((k = 2 ∧ x ≠ e) ∨ ((k = 0 ∨ k = 1 ∨ k = 3) ∧ x ≤ e ∧ ¬ (k = 0 ∧ 4 ≤ s ∧ x = e)))
def newE (k e x : Int) : Int := if k = 0 ∨ k = 1 ∨ k = 3 then x else e
theorem doR_range {k s e x : Int} (h4 : k < 4) (h0 : 0 ≤ k) (hx : x < 1 ∨ maxE < x) : doR k s e x = (s, e, 1) := by
  have hr : ∀ to xs, riseR s e x to xs = (s, e, 1) := fun to xs => by unfold riseR; exact if_pos hx
  have hk : k = 0 ∨ k = 1 ∨ k = 2 ∨ k = 3 := by omega
  rcases hk with rfl | rfl | rfl | rfl
  · show stageR s e x = _
    unfold stageR
    rw [if_pos, hr]
    cases h : right s e
    · exact .inl rfl
    · have := (right_iff s e).1 h
      unfold maxE at hx
      exact .inr (by omega)
  · exact hr _ _
  · show fenceR s e x = _
    unfold fenceR
    exact if_pos hx
  · exact hr _ _
theorem doR_wrong {k s e x : Int} (h0 : 0 ≤ k) (h4 : k ≤ 4) (hx : k = 4 ∨ ¬ (x < 1 ∨ maxE < x)) (hr : right s e = false) : doR k s e x = (s, e, 4) := by
  have hm : ∀ to xs, moveR s e to xs = (s, e, 4) := fun to xs => by unfold moveR; exact if_pos hr
  have hk : k = 0 ∨ k = 1 ∨ k = 2 ∨ k = 3 ∨ k = 4 := by omega
  have hrs : k ≠ 4 → ∀ to xs, riseR s e x to xs = (s, e, 4) := fun h to xs => by
    unfold riseR
    rw [if_neg (by rcases hx with h' | h'; exact absurd h' h; exact h'), hm]
    rfl
  rcases hk with rfl | rfl | rfl | rfl | rfl
  · show stageR s e x = _
    unfold stageR
    rw [if_pos (.inl hr), hrs (by decide)]
  · exact hrs (by decide) _ _
  · show fenceR s e x = _
    unfold fenceR
    rw [if_neg (by rcases hx with h' | h'; exact absurd h' (by decide); exact h'), hm]
    rfl
  · exact hrs (by decide) _ _
  · exact hm _ _
theorem doR_state {k s e x : Int} (h0 : 0 ≤ k) (h4 : k ≤ 4) (hx : k = 4 ∨ ¬ (x < 1 ∨ maxE < x)) (hr : right s e = true) (hf : fromR k s = false) : doR k s e x = (s, e, 19) := by
  obtain ⟨s0, s5, _⟩ := (right_iff s e).1 hr
  obtain ⟨f0, f1, f2, f3, f4⟩ := has_from s s0 s5
  have hm : ∀ to xs, has xs s = false → moveR s e to xs = (s, e, 19) := fun to xs h => by unfold moveR; rw [if_neg (by simp [hr]), if_pos h]
  have hk : k = 0 ∨ k = 1 ∨ k = 2 ∨ k = 3 ∨ k = 4 := by omega
  have hrs : k ≠ 4 → ∀ to xs, has xs s = false → riseR s e x to xs = (s, e, 19) := fun h to xs h2 => by
    unfold riseR
    rw [if_neg (by rcases hx with h' | h'; exact absurd h' h; exact h'), hm _ _ h2]
    rfl
  rcases hk with rfl | rfl | rfl | rfl | rfl
  · show stageR s e x = _
    unfold stageR
    have : s = 2 := by unfold fromR at hf; simpa using hf
    rw [if_pos (.inr (.inr (by omega))), hrs (by decide) _ _ (by rw [f0]; exact hf)]
  · exact hrs (by decide) _ _ (by rw [f1]; exact hf)
  · show fenceR s e x = _
    unfold fenceR
    rw [if_neg (by rcases hx with h' | h'; exact absurd h' (by decide); exact h'), hm _ _ (by rw [f2]; exact hf)]
    rfl
  · exact hrs (by decide) _ _ (by rw [f3]; exact hf)
  · exact hm _ _ (by rw [f4]; exact hf)
theorem doR_ends {k s e x : Int} (h0 : 0 ≤ k) (h4 : k ≤ 4) (hx : k = 4 ∨ ¬ (x < 1 ∨ maxE < x)) (hr : right s e = true) (hf : fromR k s = true) : doR k s e x = if lateR k s e x = true then (s, e, 18) else (k + 1, newE k e x, 0) := by
  have hr' := (right_iff s e).1 hr
  obtain ⟨s0, s5, _⟩ := hr'
  obtain ⟨f0, f1, f2, f3, f4⟩ := has_from s s0 s5
  have hm : ∀ to xs, has xs s = true → moveR s e to xs = (to, e, 0) := fun to xs h => by unfold moveR; rw [if_neg (by simp [hr]), if_neg (by simp [h])]
  have hk : k = 0 ∨ k = 1 ∨ k = 2 ∨ k = 3 ∨ k = 4 := by omega
  have hrs : k ≠ 4 → ∀ to xs, has xs s = true → riseR s e x to xs = if x ≤ e then (s, e, 18) else (to, x, 0) := fun h to xs h2 => by
    unfold riseR
    rw [if_neg (by rcases hx with h' | h'; exact absurd h' h; exact h'), hm _ _ h2, if_neg (by simp)]
  rcases hk with rfl | rfl | rfl | rfl | rfl
  · show stageR s e x = _
    unfold stageR lateR newE
    by_cases h : x = e ∧ (s = 4 ∨ s = 5)
    · rw [if_neg (by simp [hr]; omega), if_neg (by rw [decide_eq_true_eq]; omega), hm _ _ (by rcases h.2 with h | h <;> subst h <;> decide)]
      simp [h.1]
    · rw [if_pos (.inr (by omega)), hrs (by decide) _ _ (by rw [f0]; exact hf)]
      by_cases hl : x ≤ e
      · rw [if_pos hl, if_pos (by rw [decide_eq_true_eq]; omega)]
      · rw [if_neg hl, if_neg (by rw [decide_eq_true_eq]; omega)]; rfl
  · show openR s e x = _
    unfold openR lateR newE
    rw [hrs (by decide) _ _ (by rw [f1]; exact hf)]
    by_cases hl : x ≤ e
    · rw [if_pos hl, if_pos (by rw [decide_eq_true_eq]; omega)]
    · rw [if_neg hl, if_neg (by rw [decide_eq_true_eq]; omega)]; rfl
  · show fenceR s e x = _
    unfold fenceR lateR newE
    rw [if_neg (by rcases hx with h' | h'; exact absurd h' (by decide); exact h'), hm _ _ (by rw [f2]; exact hf), if_neg (by simp)]
    by_cases hl : x ≠ e
    · rw [if_pos hl, if_pos (by rw [decide_eq_true_eq]; omega)]
    · rw [if_neg hl, if_neg (by rw [decide_eq_true_eq]; omega)]; rfl
  · show tombR s e x = _
    unfold tombR lateR newE
    rw [hrs (by decide) _ _ (by rw [f3]; exact hf)]
    by_cases hl : x ≤ e
    · rw [if_pos hl, if_pos (by rw [decide_eq_true_eq]; omega)]
    · rw [if_neg hl, if_neg (by rw [decide_eq_true_eq]; omega)]; rfl
  · show dropR s e = _
    unfold dropR lateR newE
    rw [hm _ _ (by rw [f4]; exact hf), if_neg (by rw [decide_eq_true_eq]; omega)]; rfl
theorem ret_rres {s e : Int} {n : Nat} {r : Int × Int × Nat} (h : r = (s, e, n)) {m : Int} (hm : m = n) : Ending.returned (.tuple #[.agg #[.int .i64 s, .int .i64 e], .int .i64 m]) = .returned (RRes r) := by subst h; subst hm; rfl
set_option maxHeartbeats 2000000 in
theorem refDo_0 (s e x : Int) (w : World) :
    Calls Tryd.prog 15 #[.agg #[.int .i64 s, .int .i64 e], .int .i64 0, .int .i64 x] w (RfEnd (doR 0 s e x) w) := by
  by_cases hx : x < 1 ∨ maxE < x
  · have H1 := Lib.hid (doR_range (k := 0) (s := s) (e := e) (by decide) (by decide) hx)
    have hx' : ¬ (x < 1) → 1099511627776 < x := fun h => by unfold maxE at hx; omega
    by_cases h1 : x < 1
    · have t1 : decide (x < 1) = true := decide_eq_true h1
      clear hx hx' h1
      go_enter Tryd.func15, Tryd.ntmps15
      go_wp2_with (go_at_call 18; refine (refRight_any _ _ _).mono ?_; rintro e w' ⟨rfl, rfl⟩)
      all_goals
        refine bodyPost_ret (v := .tuple #[.agg #[.int .i64 s, .int .i64 e], .int .i64 1]) (by simp [results, Tryd.results15, go_sem]) rfl ⟨ret_rres (n := 1) H1.out rfl, ?_⟩
        (repeat (first | exact Below.refl _ _ | apply bd | apply ba | (refine bs ?_ (by simp) _)))
    · have t1 : decide (x < 1) = false := decide_eq_false h1
      have t2 : decide (1099511627776 < x) = true := decide_eq_true (hx' h1)
      clear hx hx' h1
      go_enter Tryd.func15, Tryd.ntmps15
      go_wp2_with (go_at_call 18; refine (refRight_any _ _ _).mono ?_; rintro e w' ⟨rfl, rfl⟩)
      all_goals
        refine bodyPost_ret (v := .tuple #[.agg #[.int .i64 s, .int .i64 e], .int .i64 1]) (by simp [results, Tryd.results15, go_sem]) rfl ⟨ret_rres (n := 1) H1.out rfl, ?_⟩
        (repeat (first | exact Below.refl _ _ | apply bd | apply ba | (refine bs ?_ (by simp) _)))
  have t1 : decide (x < 1) = false := decide_eq_false (fun h => hx (.inl h))
  have t2 : decide (1099511627776 < x) = false := decide_eq_false (fun h => hx (.inr h))
  cases hr : right s e
  · have H1 := Lib.hid (doR_wrong (k := 0) (x := x) (by decide) (by decide) (.inr hx) hr)
    clear hx
    go_enter Tryd.func15, Tryd.ntmps15
    go_wp2_with (go_at_call 18; refine (refRight_any _ _ _).mono ?_; rintro e w' ⟨rfl, rfl⟩)
    all_goals
      refine bodyPost_ret (v := .tuple #[.agg #[.int .i64 s, .int .i64 e], .int .i64 4]) (by simp [results, Tryd.results15, go_sem]) rfl ⟨ret_rres (n := 4) H1.out rfl, ?_⟩
      (repeat (first | exact Below.refl _ _ | apply bd | apply ba | (refine bs ?_ (by simp) _)))
  · obtain ⟨s0, s5, _⟩ := (right_iff s e).1 hr
    cases hf : fromR 0 s
    · have H1 := Lib.hid (doR_state (k := 0) (x := x) (by decide) (by decide) (.inr hx) hr hf)
      clear hx
      go_enter Tryd.func15, Tryd.ntmps15
      go_wp2_with (go_at_call 18; refine (refRight_any _ _ _).mono ?_; rintro e w' ⟨rfl, rfl⟩)
      refine (from_any 0 s _ (by decide) (by decide) s0 s5).mono ?_
      rintro x' w1 ⟨rfl, hb⟩
      obtain ⟨hc, hf1⟩ := bcell hb
      have hz2 : w.heap.size + 2 < w1.heap.size := by have := hb.size; simp at this; omega
      have hz1 : w.heap.size + 1 < w1.heap.size := by omega
      have hz0 : w.heap.size < w1.heap.size := by omega
      have HB : Hid (Below w.heap.size w w1) := (ba (ba (ba (Below.refl _ _) _) _) _).trans (hb.mono (by simp; omega))
      have q0 : w1.cell? ⟨w.heap.size, 0, none⟩ = some (.int .i64 s) := by simp [go_sem, hc]
      have q1 : w1.cell? ⟨w.heap.size, 1, none⟩ = some (.int .i64 e) := by simp [go_sem, hc]
      have q2 : w1.cell? ⟨w.heap.size + 1, 0, none⟩ = some (.int .i64 0) := by simp [go_sem, hc]
      have q3 : w1.cell? ⟨w.heap.size + 1, 1, none⟩ = some (.int .i64 0) := by simp [go_sem, hc]
      clear hb
      go_wp2_with fail
      all_goals
        refine bodyPost_ret (v := .tuple #[.agg #[.int .i64 s, .int .i64 e], .int .i64 19]) (by simp [results, Tryd.results15, go_sem, hc, hz1, hz0, hz2]) rfl ⟨ret_rres (n := 19) H1.out rfl, ?_⟩
        (repeat (first | exact HB.out | apply bd | apply ba | (refine bs ?_ (by simp) _)))
    · have H1 := Lib.hid (doR_ends (k := 0) (x := x) (by decide) (by decide) (.inr hx) hr hf)
      clear hx
      cases hl : lateR 0 s e x
      · have H2 : Hid (doR 0 s e x = (1, x, 0)) := H1.out.trans (if_neg (by simp [hl]))
        have hl' := of_decide_eq_false hl
        skip
        clear hl
        go_enter Tryd.func15, Tryd.ntmps15
        go_wp2_with (go_at_call 18; refine (refRight_any _ _ _).mono ?_; rintro e w' ⟨rfl, rfl⟩)
        refine (from_any 0 s _ (by decide) (by decide) s0 s5).mono ?_
        rintro x' w1 ⟨rfl, hb⟩
        obtain ⟨hc, hf1⟩ := bcell hb
        have hz2 : w.heap.size + 2 < w1.heap.size := by have := hb.size; simp at this; omega
        have hz1 : w.heap.size + 1 < w1.heap.size := by omega
        have hz0 : w.heap.size < w1.heap.size := by omega
        have HB : Hid (Below w.heap.size w w1) := (ba (ba (ba (Below.refl _ _) _) _) _).trans (hb.mono (by simp; omega))
        have q0 : w1.cell? ⟨w.heap.size, 0, none⟩ = some (.int .i64 s) := by simp [go_sem, hc]
        have q1 : w1.cell? ⟨w.heap.size, 1, none⟩ = some (.int .i64 e) := by simp [go_sem, hc]
        have q2 : w1.cell? ⟨w.heap.size + 1, 0, none⟩ = some (.int .i64 0) := by simp [go_sem, hc]
        have q3 : w1.cell? ⟨w.heap.size + 1, 1, none⟩ = some (.int .i64 0) := by simp [go_sem, hc]
        clear hb
        go_wp2_with fail
        all_goals first
          | (exfalso; clear hc hf1 HB H1 H2 q0 q1 q2 q3; go_light; simp only [true_or, or_true, true_and, and_true, Bool.and_eq_true, Bool.or_eq_true, Bool.not_eq_true', Bool.not_eq_false', Bool.and_eq_false_imp, beq_iff_eq, beq_eq_false_iff_ne, bne_iff_ne, ne_eq, decide_eq_true_eq, decide_eq_false_iff_not, Bool.false_eq_true, Bool.not_eq_true] at *; omega)
          | (refine bodyPost_ret (v := .tuple #[.agg #[.int .i64 1, .int .i64 x], .int .i64 0]) (by simp [results, Tryd.results15, go_sem, hc, hz0, hz1, hz2, q0, q1, q2, q3]) rfl ⟨ret_rres (n := 0) (H2.out) rfl, ?_⟩
             repeat (first | exact HB.out | apply bd | apply ba | (refine bs ?_ (by simp) _)))
      · have H2 : Hid (doR 0 s e x = (s, e, 18)) := H1.out.trans (if_pos hl)
        have hl' := of_decide_eq_true hl
        skip
        clear hl
        go_enter Tryd.func15, Tryd.ntmps15
        go_wp2_with (go_at_call 18; refine (refRight_any _ _ _).mono ?_; rintro e w' ⟨rfl, rfl⟩)
        refine (from_any 0 s _ (by decide) (by decide) s0 s5).mono ?_
        rintro x' w1 ⟨rfl, hb⟩
        obtain ⟨hc, hf1⟩ := bcell hb
        have hz2 : w.heap.size + 2 < w1.heap.size := by have := hb.size; simp at this; omega
        have hz1 : w.heap.size + 1 < w1.heap.size := by omega
        have hz0 : w.heap.size < w1.heap.size := by omega
        have HB : Hid (Below w.heap.size w w1) := (ba (ba (ba (Below.refl _ _) _) _) _).trans (hb.mono (by simp; omega))
        have q0 : w1.cell? ⟨w.heap.size, 0, none⟩ = some (.int .i64 s) := by simp [go_sem, hc]
        have q1 : w1.cell? ⟨w.heap.size, 1, none⟩ = some (.int .i64 e) := by simp [go_sem, hc]
        have q2 : w1.cell? ⟨w.heap.size + 1, 0, none⟩ = some (.int .i64 0) := by simp [go_sem, hc]
        have q3 : w1.cell? ⟨w.heap.size + 1, 1, none⟩ = some (.int .i64 0) := by simp [go_sem, hc]
        clear hb
        go_wp2_with fail
        all_goals first
          | (exfalso; clear hc hf1 HB H1 H2 q0 q1 q2 q3; go_light; simp only [true_or, or_true, true_and, and_true, Bool.and_eq_true, Bool.or_eq_true, Bool.not_eq_true', Bool.not_eq_false', Bool.and_eq_false_imp, beq_iff_eq, beq_eq_false_iff_ne, bne_iff_ne, ne_eq, decide_eq_true_eq, decide_eq_false_iff_not, Bool.false_eq_true, Bool.not_eq_true] at *; omega)
          | (refine bodyPost_ret (v := .tuple #[.agg #[.int .i64 s, .int .i64 e], .int .i64 18]) (by simp [results, Tryd.results15, go_sem, hc, hz0, hz1, hz2, q0, q1, q2, q3]) rfl ⟨ret_rres (n := 18) (H2.out) rfl, ?_⟩
             repeat (first | exact HB.out | apply bd | apply ba | (refine bs ?_ (by simp) _)))
-- END0
set_option maxHeartbeats 2000000 in
theorem refDo_1 (s e x : Int) (w : World) :
    Calls Tryd.prog 15 #[.agg #[.int .i64 s, .int .i64 e], .int .i64 1, .int .i64 x] w (RfEnd (doR 1 s e x) w) := by
  by_cases hx : x < 1 ∨ maxE < x
  · have H1 := Lib.hid (doR_range (k := 1) (s := s) (e := e) (by decide) (by decide) hx)
    have hx' : ¬ (x < 1) → 1099511627776 < x := fun h => by unfold maxE at hx; omega
    by_cases h1 : x < 1
    · have t1 : decide (x < 1) = true := decide_eq_true h1
      clear hx hx' h1
      go_enter Tryd.func15, Tryd.ntmps15
      go_wp2_with (go_at_call 18; refine (refRight_any _ _ _).mono ?_; rintro e w' ⟨rfl, rfl⟩)
      all_goals
        refine bodyPost_ret (v := .tuple #[.agg #[.int .i64 s, .int .i64 e], .int .i64 1]) (by simp [results, Tryd.results15, go_sem]) rfl ⟨ret_rres (n := 1) H1.out rfl, ?_⟩
        (repeat (first | exact Below.refl _ _ | apply bd | apply ba | (refine bs ?_ (by simp) _)))
    · have t1 : decide (x < 1) = false := decide_eq_false h1
      have t2 : decide (1099511627776 < x) = true := decide_eq_true (hx' h1)
      clear hx hx' h1
      go_enter Tryd.func15, Tryd.ntmps15
      go_wp2_with (go_at_call 18; refine (refRight_any _ _ _).mono ?_; rintro e w' ⟨rfl, rfl⟩)
      all_goals
        refine bodyPost_ret (v := .tuple #[.agg #[.int .i64 s, .int .i64 e], .int .i64 1]) (by simp [results, Tryd.results15, go_sem]) rfl ⟨ret_rres (n := 1) H1.out rfl, ?_⟩
        (repeat (first | exact Below.refl _ _ | apply bd | apply ba | (refine bs ?_ (by simp) _)))
  have t1 : decide (x < 1) = false := decide_eq_false (fun h => hx (.inl h))
  have t2 : decide (1099511627776 < x) = false := decide_eq_false (fun h => hx (.inr h))
  cases hr : right s e
  · have H1 := Lib.hid (doR_wrong (k := 1) (x := x) (by decide) (by decide) (.inr hx) hr)
    clear hx
    go_enter Tryd.func15, Tryd.ntmps15
    go_wp2_with (go_at_call 18; refine (refRight_any _ _ _).mono ?_; rintro e w' ⟨rfl, rfl⟩)
    all_goals
      refine bodyPost_ret (v := .tuple #[.agg #[.int .i64 s, .int .i64 e], .int .i64 4]) (by simp [results, Tryd.results15, go_sem]) rfl ⟨ret_rres (n := 4) H1.out rfl, ?_⟩
      (repeat (first | exact Below.refl _ _ | apply bd | apply ba | (refine bs ?_ (by simp) _)))
  · obtain ⟨s0, s5, _⟩ := (right_iff s e).1 hr
    cases hf : fromR 1 s
    · have H1 := Lib.hid (doR_state (k := 1) (x := x) (by decide) (by decide) (.inr hx) hr hf)
      clear hx
      go_enter Tryd.func15, Tryd.ntmps15
      go_wp2_with (go_at_call 18; refine (refRight_any _ _ _).mono ?_; rintro e w' ⟨rfl, rfl⟩)
      refine (from_any 1 s _ (by decide) (by decide) s0 s5).mono ?_
      rintro x' w1 ⟨rfl, hb⟩
      obtain ⟨hc, hf1⟩ := bcell hb
      have hz2 : w.heap.size + 2 < w1.heap.size := by have := hb.size; simp at this; omega
      have hz1 : w.heap.size + 1 < w1.heap.size := by omega
      have hz0 : w.heap.size < w1.heap.size := by omega
      have HB : Hid (Below w.heap.size w w1) := (ba (ba (ba (Below.refl _ _) _) _) _).trans (hb.mono (by simp; omega))
      have q0 : w1.cell? ⟨w.heap.size, 0, none⟩ = some (.int .i64 s) := by simp [go_sem, hc]
      have q1 : w1.cell? ⟨w.heap.size, 1, none⟩ = some (.int .i64 e) := by simp [go_sem, hc]
      have q2 : w1.cell? ⟨w.heap.size + 1, 0, none⟩ = some (.int .i64 0) := by simp [go_sem, hc]
      have q3 : w1.cell? ⟨w.heap.size + 1, 1, none⟩ = some (.int .i64 0) := by simp [go_sem, hc]
      clear hb
      go_wp2_with fail
      all_goals
        refine bodyPost_ret (v := .tuple #[.agg #[.int .i64 s, .int .i64 e], .int .i64 19]) (by simp [results, Tryd.results15, go_sem, hc, hz1, hz0, hz2]) rfl ⟨ret_rres (n := 19) H1.out rfl, ?_⟩
        (repeat (first | exact HB.out | apply bd | apply ba | (refine bs ?_ (by simp) _)))
    · have H1 := Lib.hid (doR_ends (k := 1) (x := x) (by decide) (by decide) (.inr hx) hr hf)
      clear hx
      cases hl : lateR 1 s e x
      · have H2 : Hid (doR 1 s e x = (2, x, 0)) := H1.out.trans (if_neg (by simp [hl]))
        have hl' := of_decide_eq_false hl
        skip
        clear hl
        go_enter Tryd.func15, Tryd.ntmps15
        go_wp2_with (go_at_call 18; refine (refRight_any _ _ _).mono ?_; rintro e w' ⟨rfl, rfl⟩)
        refine (from_any 1 s _ (by decide) (by decide) s0 s5).mono ?_
        rintro x' w1 ⟨rfl, hb⟩
        obtain ⟨hc, hf1⟩ := bcell hb
        have hz2 : w.heap.size + 2 < w1.heap.size := by have := hb.size; simp at this; omega
        have hz1 : w.heap.size + 1 < w1.heap.size := by omega
        have hz0 : w.heap.size < w1.heap.size := by omega
        have HB : Hid (Below w.heap.size w w1) := (ba (ba (ba (Below.refl _ _) _) _) _).trans (hb.mono (by simp; omega))
        have q0 : w1.cell? ⟨w.heap.size, 0, none⟩ = some (.int .i64 s) := by simp [go_sem, hc]
        have q1 : w1.cell? ⟨w.heap.size, 1, none⟩ = some (.int .i64 e) := by simp [go_sem, hc]
        have q2 : w1.cell? ⟨w.heap.size + 1, 0, none⟩ = some (.int .i64 0) := by simp [go_sem, hc]
        have q3 : w1.cell? ⟨w.heap.size + 1, 1, none⟩ = some (.int .i64 0) := by simp [go_sem, hc]
        clear hb
        go_wp2_with fail
        all_goals first
          | (exfalso; clear hc hf1 HB H1 H2 q0 q1 q2 q3; go_light; simp only [true_or, or_true, true_and, and_true, Bool.and_eq_true, Bool.or_eq_true, Bool.not_eq_true', Bool.not_eq_false', Bool.and_eq_false_imp, beq_iff_eq, beq_eq_false_iff_ne, bne_iff_ne, ne_eq, decide_eq_true_eq, decide_eq_false_iff_not, Bool.false_eq_true, Bool.not_eq_true] at *; omega)
          | (refine bodyPost_ret (v := .tuple #[.agg #[.int .i64 2, .int .i64 x], .int .i64 0]) (by simp [results, Tryd.results15, go_sem, hc, hz0, hz1, hz2, q0, q1, q2, q3]) rfl ⟨ret_rres (n := 0) (H2.out) rfl, ?_⟩
             repeat (first | exact HB.out | apply bd | apply ba | (refine bs ?_ (by simp) _)))
      · have H2 : Hid (doR 1 s e x = (s, e, 18)) := H1.out.trans (if_pos hl)
        have hl' := of_decide_eq_true hl
        skip
        clear hl
        go_enter Tryd.func15, Tryd.ntmps15
        go_wp2_with (go_at_call 18; refine (refRight_any _ _ _).mono ?_; rintro e w' ⟨rfl, rfl⟩)
        refine (from_any 1 s _ (by decide) (by decide) s0 s5).mono ?_
        rintro x' w1 ⟨rfl, hb⟩
        obtain ⟨hc, hf1⟩ := bcell hb
        have hz2 : w.heap.size + 2 < w1.heap.size := by have := hb.size; simp at this; omega
        have hz1 : w.heap.size + 1 < w1.heap.size := by omega
        have hz0 : w.heap.size < w1.heap.size := by omega
        have HB : Hid (Below w.heap.size w w1) := (ba (ba (ba (Below.refl _ _) _) _) _).trans (hb.mono (by simp; omega))
        have q0 : w1.cell? ⟨w.heap.size, 0, none⟩ = some (.int .i64 s) := by simp [go_sem, hc]
        have q1 : w1.cell? ⟨w.heap.size, 1, none⟩ = some (.int .i64 e) := by simp [go_sem, hc]
        have q2 : w1.cell? ⟨w.heap.size + 1, 0, none⟩ = some (.int .i64 0) := by simp [go_sem, hc]
        have q3 : w1.cell? ⟨w.heap.size + 1, 1, none⟩ = some (.int .i64 0) := by simp [go_sem, hc]
        clear hb
        go_wp2_with fail
        all_goals first
          | (exfalso; clear hc hf1 HB H1 H2 q0 q1 q2 q3; go_light; simp only [true_or, or_true, true_and, and_true, Bool.and_eq_true, Bool.or_eq_true, Bool.not_eq_true', Bool.not_eq_false', Bool.and_eq_false_imp, beq_iff_eq, beq_eq_false_iff_ne, bne_iff_ne, ne_eq, decide_eq_true_eq, decide_eq_false_iff_not, Bool.false_eq_true, Bool.not_eq_true] at *; omega)
          | (refine bodyPost_ret (v := .tuple #[.agg #[.int .i64 s, .int .i64 e], .int .i64 18]) (by simp [results, Tryd.results15, go_sem, hc, hz0, hz1, hz2, q0, q1, q2, q3]) rfl ⟨ret_rres (n := 18) (H2.out) rfl, ?_⟩
             repeat (first | exact HB.out | apply bd | apply ba | (refine bs ?_ (by simp) _)))
set_option maxHeartbeats 2000000 in
theorem refDo_2 (s e x : Int) (w : World) :
    Calls Tryd.prog 15 #[.agg #[.int .i64 s, .int .i64 e], .int .i64 2, .int .i64 x] w (RfEnd (doR 2 s e x) w) := by
  by_cases hx : x < 1 ∨ maxE < x
  · have H1 := Lib.hid (doR_range (k := 2) (s := s) (e := e) (by decide) (by decide) hx)
    have hx' : ¬ (x < 1) → 1099511627776 < x := fun h => by unfold maxE at hx; omega
    by_cases h1 : x < 1
    · have t1 : decide (x < 1) = true := decide_eq_true h1
      clear hx hx' h1
      go_enter Tryd.func15, Tryd.ntmps15
      go_wp2_with (go_at_call 18; refine (refRight_any _ _ _).mono ?_; rintro e w' ⟨rfl, rfl⟩)
      all_goals
        refine bodyPost_ret (v := .tuple #[.agg #[.int .i64 s, .int .i64 e], .int .i64 1]) (by simp [results, Tryd.results15, go_sem]) rfl ⟨ret_rres (n := 1) H1.out rfl, ?_⟩
        (repeat (first | exact Below.refl _ _ | apply bd | apply ba | (refine bs ?_ (by simp) _)))
    · have t1 : decide (x < 1) = false := decide_eq_false h1
      have t2 : decide (1099511627776 < x) = true := decide_eq_true (hx' h1)
      clear hx hx' h1
      go_enter Tryd.func15, Tryd.ntmps15
      go_wp2_with (go_at_call 18; refine (refRight_any _ _ _).mono ?_; rintro e w' ⟨rfl, rfl⟩)
      all_goals
        refine bodyPost_ret (v := .tuple #[.agg #[.int .i64 s, .int .i64 e], .int .i64 1]) (by simp [results, Tryd.results15, go_sem]) rfl ⟨ret_rres (n := 1) H1.out rfl, ?_⟩
        (repeat (first | exact Below.refl _ _ | apply bd | apply ba | (refine bs ?_ (by simp) _)))
  have t1 : decide (x < 1) = false := decide_eq_false (fun h => hx (.inl h))
  have t2 : decide (1099511627776 < x) = false := decide_eq_false (fun h => hx (.inr h))
  cases hr : right s e
  · have H1 := Lib.hid (doR_wrong (k := 2) (x := x) (by decide) (by decide) (.inr hx) hr)
    clear hx
    go_enter Tryd.func15, Tryd.ntmps15
    go_wp2_with (go_at_call 18; refine (refRight_any _ _ _).mono ?_; rintro e w' ⟨rfl, rfl⟩)
    all_goals
      refine bodyPost_ret (v := .tuple #[.agg #[.int .i64 s, .int .i64 e], .int .i64 4]) (by simp [results, Tryd.results15, go_sem]) rfl ⟨ret_rres (n := 4) H1.out rfl, ?_⟩
      (repeat (first | exact Below.refl _ _ | apply bd | apply ba | (refine bs ?_ (by simp) _)))
  · obtain ⟨s0, s5, _⟩ := (right_iff s e).1 hr
    cases hf : fromR 2 s
    · have H1 := Lib.hid (doR_state (k := 2) (x := x) (by decide) (by decide) (.inr hx) hr hf)
      clear hx
      go_enter Tryd.func15, Tryd.ntmps15
      go_wp2_with (go_at_call 18; refine (refRight_any _ _ _).mono ?_; rintro e w' ⟨rfl, rfl⟩)
      refine (from_any 2 s _ (by decide) (by decide) s0 s5).mono ?_
      rintro x' w1 ⟨rfl, hb⟩
      obtain ⟨hc, hf1⟩ := bcell hb
      have hz2 : w.heap.size + 2 < w1.heap.size := by have := hb.size; simp at this; omega
      have hz1 : w.heap.size + 1 < w1.heap.size := by omega
      have hz0 : w.heap.size < w1.heap.size := by omega
      have HB : Hid (Below w.heap.size w w1) := (ba (ba (ba (Below.refl _ _) _) _) _).trans (hb.mono (by simp; omega))
      have q0 : w1.cell? ⟨w.heap.size, 0, none⟩ = some (.int .i64 s) := by simp [go_sem, hc]
      have q1 : w1.cell? ⟨w.heap.size, 1, none⟩ = some (.int .i64 e) := by simp [go_sem, hc]
      have q2 : w1.cell? ⟨w.heap.size + 1, 0, none⟩ = some (.int .i64 0) := by simp [go_sem, hc]
      have q3 : w1.cell? ⟨w.heap.size + 1, 1, none⟩ = some (.int .i64 0) := by simp [go_sem, hc]
      clear hb
      go_wp2_with fail
      all_goals
        refine bodyPost_ret (v := .tuple #[.agg #[.int .i64 s, .int .i64 e], .int .i64 19]) (by simp [results, Tryd.results15, go_sem, hc, hz1, hz0, hz2]) rfl ⟨ret_rres (n := 19) H1.out rfl, ?_⟩
        (repeat (first | exact HB.out | apply bd | apply ba | (refine bs ?_ (by simp) _)))
    · have H1 := Lib.hid (doR_ends (k := 2) (x := x) (by decide) (by decide) (.inr hx) hr hf)
      clear hx
      cases hl : lateR 2 s e x
      · have H2 : Hid (doR 2 s e x = (3, e, 0)) := H1.out.trans (if_neg (by simp [hl]))
        have hl' := of_decide_eq_false hl
        skip
        clear hl
        go_enter Tryd.func15, Tryd.ntmps15
        go_wp2_with (go_at_call 18; refine (refRight_any _ _ _).mono ?_; rintro e w' ⟨rfl, rfl⟩)
        refine (from_any 2 s _ (by decide) (by decide) s0 s5).mono ?_
        rintro x' w1 ⟨rfl, hb⟩
        obtain ⟨hc, hf1⟩ := bcell hb
        have hz2 : w.heap.size + 2 < w1.heap.size := by have := hb.size; simp at this; omega
        have hz1 : w.heap.size + 1 < w1.heap.size := by omega
        have hz0 : w.heap.size < w1.heap.size := by omega
        have HB : Hid (Below w.heap.size w w1) := (ba (ba (ba (Below.refl _ _) _) _) _).trans (hb.mono (by simp; omega))
        have q0 : w1.cell? ⟨w.heap.size, 0, none⟩ = some (.int .i64 s) := by simp [go_sem, hc]
        have q1 : w1.cell? ⟨w.heap.size, 1, none⟩ = some (.int .i64 e) := by simp [go_sem, hc]
        have q2 : w1.cell? ⟨w.heap.size + 1, 0, none⟩ = some (.int .i64 0) := by simp [go_sem, hc]
        have q3 : w1.cell? ⟨w.heap.size + 1, 1, none⟩ = some (.int .i64 0) := by simp [go_sem, hc]
        clear hb
        go_wp2_with fail
        all_goals first
          | (exfalso; clear hc hf1 HB H1 H2 q0 q1 q2 q3; go_light; simp only [true_or, or_true, true_and, and_true, Bool.and_eq_true, Bool.or_eq_true, Bool.not_eq_true', Bool.not_eq_false', Bool.and_eq_false_imp, beq_iff_eq, beq_eq_false_iff_ne, bne_iff_ne, ne_eq, decide_eq_true_eq, decide_eq_false_iff_not, Bool.false_eq_true, Bool.not_eq_true] at *; omega)
          | (refine bodyPost_ret (v := .tuple #[.agg #[.int .i64 3, .int .i64 e], .int .i64 0]) (by simp [results, Tryd.results15, go_sem, hc, hz0, hz1, hz2, q0, q1, q2, q3]) rfl ⟨ret_rres (n := 0) (H2.out) rfl, ?_⟩
             repeat (first | exact HB.out | apply bd | apply ba | (refine bs ?_ (by simp) _)))
      · have H2 : Hid (doR 2 s e x = (s, e, 18)) := H1.out.trans (if_pos hl)
        have hl' := of_decide_eq_true hl
        skip
        clear hl
        go_enter Tryd.func15, Tryd.ntmps15
        go_wp2_with (go_at_call 18; refine (refRight_any _ _ _).mono ?_; rintro e w' ⟨rfl, rfl⟩)
        refine (from_any 2 s _ (by decide) (by decide) s0 s5).mono ?_
        rintro x' w1 ⟨rfl, hb⟩
        obtain ⟨hc, hf1⟩ := bcell hb
        have hz2 : w.heap.size + 2 < w1.heap.size := by have := hb.size; simp at this; omega
        have hz1 : w.heap.size + 1 < w1.heap.size := by omega
        have hz0 : w.heap.size < w1.heap.size := by omega
        have HB : Hid (Below w.heap.size w w1) := (ba (ba (ba (Below.refl _ _) _) _) _).trans (hb.mono (by simp; omega))
        have q0 : w1.cell? ⟨w.heap.size, 0, none⟩ = some (.int .i64 s) := by simp [go_sem, hc]
        have q1 : w1.cell? ⟨w.heap.size, 1, none⟩ = some (.int .i64 e) := by simp [go_sem, hc]
        have q2 : w1.cell? ⟨w.heap.size + 1, 0, none⟩ = some (.int .i64 0) := by simp [go_sem, hc]
        have q3 : w1.cell? ⟨w.heap.size + 1, 1, none⟩ = some (.int .i64 0) := by simp [go_sem, hc]
        clear hb
        go_wp2_with fail
        all_goals first
          | (exfalso; clear hc hf1 HB H1 H2 q0 q1 q2 q3; go_light; simp only [true_or, or_true, true_and, and_true, Bool.and_eq_true, Bool.or_eq_true, Bool.not_eq_true', Bool.not_eq_false', Bool.and_eq_false_imp, beq_iff_eq, beq_eq_false_iff_ne, bne_iff_ne, ne_eq, decide_eq_true_eq, decide_eq_false_iff_not, Bool.false_eq_true, Bool.not_eq_true] at *; omega)
          | (refine bodyPost_ret (v := .tuple #[.agg #[.int .i64 s, .int .i64 e], .int .i64 18]) (by simp [results, Tryd.results15, go_sem, hc, hz0, hz1, hz2, q0, q1, q2, q3]) rfl ⟨ret_rres (n := 18) (H2.out) rfl, ?_⟩
             repeat (first | exact HB.out | apply bd | apply ba | (refine bs ?_ (by simp) _)))
set_option maxHeartbeats 2000000 in
theorem refDo_3 (s e x : Int) (w : World) :
    Calls Tryd.prog 15 #[.agg #[.int .i64 s, .int .i64 e], .int .i64 3, .int .i64 x] w (RfEnd (doR 3 s e x) w) := by
  by_cases hx : x < 1 ∨ maxE < x
  · have H1 := Lib.hid (doR_range (k := 3) (s := s) (e := e) (by decide) (by decide) hx)
    have hx' : ¬ (x < 1) → 1099511627776 < x := fun h => by unfold maxE at hx; omega
    by_cases h1 : x < 1
    · have t1 : decide (x < 1) = true := decide_eq_true h1
      clear hx hx' h1
      go_enter Tryd.func15, Tryd.ntmps15
      go_wp2_with (go_at_call 18; refine (refRight_any _ _ _).mono ?_; rintro e w' ⟨rfl, rfl⟩)
      all_goals
        refine bodyPost_ret (v := .tuple #[.agg #[.int .i64 s, .int .i64 e], .int .i64 1]) (by simp [results, Tryd.results15, go_sem]) rfl ⟨ret_rres (n := 1) H1.out rfl, ?_⟩
        (repeat (first | exact Below.refl _ _ | apply bd | apply ba | (refine bs ?_ (by simp) _)))
    · have t1 : decide (x < 1) = false := decide_eq_false h1
      have t2 : decide (1099511627776 < x) = true := decide_eq_true (hx' h1)
      clear hx hx' h1
      go_enter Tryd.func15, Tryd.ntmps15
      go_wp2_with (go_at_call 18; refine (refRight_any _ _ _).mono ?_; rintro e w' ⟨rfl, rfl⟩)
      all_goals
        refine bodyPost_ret (v := .tuple #[.agg #[.int .i64 s, .int .i64 e], .int .i64 1]) (by simp [results, Tryd.results15, go_sem]) rfl ⟨ret_rres (n := 1) H1.out rfl, ?_⟩
        (repeat (first | exact Below.refl _ _ | apply bd | apply ba | (refine bs ?_ (by simp) _)))
  have t1 : decide (x < 1) = false := decide_eq_false (fun h => hx (.inl h))
  have t2 : decide (1099511627776 < x) = false := decide_eq_false (fun h => hx (.inr h))
  cases hr : right s e
  · have H1 := Lib.hid (doR_wrong (k := 3) (x := x) (by decide) (by decide) (.inr hx) hr)
    clear hx
    go_enter Tryd.func15, Tryd.ntmps15
    go_wp2_with (go_at_call 18; refine (refRight_any _ _ _).mono ?_; rintro e w' ⟨rfl, rfl⟩)
    all_goals
      refine bodyPost_ret (v := .tuple #[.agg #[.int .i64 s, .int .i64 e], .int .i64 4]) (by simp [results, Tryd.results15, go_sem]) rfl ⟨ret_rres (n := 4) H1.out rfl, ?_⟩
      (repeat (first | exact Below.refl _ _ | apply bd | apply ba | (refine bs ?_ (by simp) _)))
  · obtain ⟨s0, s5, _⟩ := (right_iff s e).1 hr
    cases hf : fromR 3 s
    · have H1 := Lib.hid (doR_state (k := 3) (x := x) (by decide) (by decide) (.inr hx) hr hf)
      clear hx
      go_enter Tryd.func15, Tryd.ntmps15
      go_wp2_with (go_at_call 18; refine (refRight_any _ _ _).mono ?_; rintro e w' ⟨rfl, rfl⟩)
      refine (from_any 3 s _ (by decide) (by decide) s0 s5).mono ?_
      rintro x' w1 ⟨rfl, hb⟩
      obtain ⟨hc, hf1⟩ := bcell hb
      have hz2 : w.heap.size + 2 < w1.heap.size := by have := hb.size; simp at this; omega
      have hz1 : w.heap.size + 1 < w1.heap.size := by omega
      have hz0 : w.heap.size < w1.heap.size := by omega
      have HB : Hid (Below w.heap.size w w1) := (ba (ba (ba (Below.refl _ _) _) _) _).trans (hb.mono (by simp; omega))
      have q0 : w1.cell? ⟨w.heap.size, 0, none⟩ = some (.int .i64 s) := by simp [go_sem, hc]
      have q1 : w1.cell? ⟨w.heap.size, 1, none⟩ = some (.int .i64 e) := by simp [go_sem, hc]
      have q2 : w1.cell? ⟨w.heap.size + 1, 0, none⟩ = some (.int .i64 0) := by simp [go_sem, hc]
      have q3 : w1.cell? ⟨w.heap.size + 1, 1, none⟩ = some (.int .i64 0) := by simp [go_sem, hc]
      clear hb
      go_wp2_with fail
      all_goals
        refine bodyPost_ret (v := .tuple #[.agg #[.int .i64 s, .int .i64 e], .int .i64 19]) (by simp [results, Tryd.results15, go_sem, hc, hz1, hz0, hz2]) rfl ⟨ret_rres (n := 19) H1.out rfl, ?_⟩
        (repeat (first | exact HB.out | apply bd | apply ba | (refine bs ?_ (by simp) _)))
    · have H1 := Lib.hid (doR_ends (k := 3) (x := x) (by decide) (by decide) (.inr hx) hr hf)
      clear hx
      cases hl : lateR 3 s e x
      · have H2 : Hid (doR 3 s e x = (4, x, 0)) := H1.out.trans (if_neg (by simp [hl]))
        have hl' := of_decide_eq_false hl
        skip
        clear hl
        go_enter Tryd.func15, Tryd.ntmps15
        go_wp2_with (go_at_call 18; refine (refRight_any _ _ _).mono ?_; rintro e w' ⟨rfl, rfl⟩)
        refine (from_any 3 s _ (by decide) (by decide) s0 s5).mono ?_
        rintro x' w1 ⟨rfl, hb⟩
        obtain ⟨hc, hf1⟩ := bcell hb
        have hz2 : w.heap.size + 2 < w1.heap.size := by have := hb.size; simp at this; omega
        have hz1 : w.heap.size + 1 < w1.heap.size := by omega
        have hz0 : w.heap.size < w1.heap.size := by omega
        have HB : Hid (Below w.heap.size w w1) := (ba (ba (ba (Below.refl _ _) _) _) _).trans (hb.mono (by simp; omega))
        have q0 : w1.cell? ⟨w.heap.size, 0, none⟩ = some (.int .i64 s) := by simp [go_sem, hc]
        have q1 : w1.cell? ⟨w.heap.size, 1, none⟩ = some (.int .i64 e) := by simp [go_sem, hc]
        have q2 : w1.cell? ⟨w.heap.size + 1, 0, none⟩ = some (.int .i64 0) := by simp [go_sem, hc]
        have q3 : w1.cell? ⟨w.heap.size + 1, 1, none⟩ = some (.int .i64 0) := by simp [go_sem, hc]
        clear hb
        go_wp2_with fail
        all_goals first
          | (exfalso; clear hc hf1 HB H1 H2 q0 q1 q2 q3; go_light; simp only [true_or, or_true, true_and, and_true, Bool.and_eq_true, Bool.or_eq_true, Bool.not_eq_true', Bool.not_eq_false', Bool.and_eq_false_imp, beq_iff_eq, beq_eq_false_iff_ne, bne_iff_ne, ne_eq, decide_eq_true_eq, decide_eq_false_iff_not, Bool.false_eq_true, Bool.not_eq_true] at *; omega)
          | (refine bodyPost_ret (v := .tuple #[.agg #[.int .i64 4, .int .i64 x], .int .i64 0]) (by simp [results, Tryd.results15, go_sem, hc, hz0, hz1, hz2, q0, q1, q2, q3]) rfl ⟨ret_rres (n := 0) (H2.out) rfl, ?_⟩
             repeat (first | exact HB.out | apply bd | apply ba | (refine bs ?_ (by simp) _)))
      · have H2 : Hid (doR 3 s e x = (s, e, 18)) := H1.out.trans (if_pos hl)
        have hl' := of_decide_eq_true hl
        skip
        clear hl
        go_enter Tryd.func15, Tryd.ntmps15
        go_wp2_with (go_at_call 18; refine (refRight_any _ _ _).mono ?_; rintro e w' ⟨rfl, rfl⟩)
        refine (from_any 3 s _ (by decide) (by decide) s0 s5).mono ?_
        rintro x' w1 ⟨rfl, hb⟩
        obtain ⟨hc, hf1⟩ := bcell hb
        have hz2 : w.heap.size + 2 < w1.heap.size := by have := hb.size; simp at this; omega
        have hz1 : w.heap.size + 1 < w1.heap.size := by omega
        have hz0 : w.heap.size < w1.heap.size := by omega
        have HB : Hid (Below w.heap.size w w1) := (ba (ba (ba (Below.refl _ _) _) _) _).trans (hb.mono (by simp; omega))
        have q0 : w1.cell? ⟨w.heap.size, 0, none⟩ = some (.int .i64 s) := by simp [go_sem, hc]
        have q1 : w1.cell? ⟨w.heap.size, 1, none⟩ = some (.int .i64 e) := by simp [go_sem, hc]
        have q2 : w1.cell? ⟨w.heap.size + 1, 0, none⟩ = some (.int .i64 0) := by simp [go_sem, hc]
        have q3 : w1.cell? ⟨w.heap.size + 1, 1, none⟩ = some (.int .i64 0) := by simp [go_sem, hc]
        clear hb
        go_wp2_with fail
        all_goals first
          | (exfalso; clear hc hf1 HB H1 H2 q0 q1 q2 q3; go_light; simp only [true_or, or_true, true_and, and_true, Bool.and_eq_true, Bool.or_eq_true, Bool.not_eq_true', Bool.not_eq_false', Bool.and_eq_false_imp, beq_iff_eq, beq_eq_false_iff_ne, bne_iff_ne, ne_eq, decide_eq_true_eq, decide_eq_false_iff_not, Bool.false_eq_true, Bool.not_eq_true] at *; omega)
          | (refine bodyPost_ret (v := .tuple #[.agg #[.int .i64 s, .int .i64 e], .int .i64 18]) (by simp [results, Tryd.results15, go_sem, hc, hz0, hz1, hz2, q0, q1, q2, q3]) rfl ⟨ret_rres (n := 18) (H2.out) rfl, ?_⟩
             repeat (first | exact HB.out | apply bd | apply ba | (refine bs ?_ (by simp) _)))
set_option maxHeartbeats 2000000 in
theorem refDo_4 (s e x : Int) (w : World) :
    Calls Tryd.prog 15 #[.agg #[.int .i64 s, .int .i64 e], .int .i64 4, .int .i64 x] w (RfEnd (doR 4 s e x) w) := by
  cases hr : right s e
  · have H1 := Lib.hid (doR_wrong (k := 4) (x := x) (by decide) (by decide) (.inl rfl) hr)
    skip
    go_enter Tryd.func15, Tryd.ntmps15
    go_wp2_with (go_at_call 18; refine (refRight_any _ _ _).mono ?_; rintro e w' ⟨rfl, rfl⟩)
    all_goals
      refine bodyPost_ret (v := .tuple #[.agg #[.int .i64 s, .int .i64 e], .int .i64 4]) (by simp [results, Tryd.results15, go_sem]) rfl ⟨ret_rres (n := 4) H1.out rfl, ?_⟩
      (repeat (first | exact Below.refl _ _ | apply bd | apply ba | (refine bs ?_ (by simp) _)))
  · obtain ⟨s0, s5, _⟩ := (right_iff s e).1 hr
    cases hf : fromR 4 s
    · have H1 := Lib.hid (doR_state (k := 4) (x := x) (by decide) (by decide) (.inl rfl) hr hf)
      skip
      go_enter Tryd.func15, Tryd.ntmps15
      go_wp2_with (go_at_call 18; refine (refRight_any _ _ _).mono ?_; rintro e w' ⟨rfl, rfl⟩)
      refine (from_any 4 s _ (by decide) (by decide) s0 s5).mono ?_
      rintro x' w1 ⟨rfl, hb⟩
      obtain ⟨hc, hf1⟩ := bcell hb
      have hz2 : w.heap.size + 2 < w1.heap.size := by have := hb.size; simp at this; omega
      have hz1 : w.heap.size + 1 < w1.heap.size := by omega
      have hz0 : w.heap.size < w1.heap.size := by omega
      have HB : Hid (Below w.heap.size w w1) := (ba (ba (ba (Below.refl _ _) _) _) _).trans (hb.mono (by simp; omega))
      have q0 : w1.cell? ⟨w.heap.size, 0, none⟩ = some (.int .i64 s) := by simp [go_sem, hc]
      have q1 : w1.cell? ⟨w.heap.size, 1, none⟩ = some (.int .i64 e) := by simp [go_sem, hc]
      have q2 : w1.cell? ⟨w.heap.size + 1, 0, none⟩ = some (.int .i64 0) := by simp [go_sem, hc]
      have q3 : w1.cell? ⟨w.heap.size + 1, 1, none⟩ = some (.int .i64 0) := by simp [go_sem, hc]
      clear hb
      go_wp2_with fail
      all_goals
        refine bodyPost_ret (v := .tuple #[.agg #[.int .i64 s, .int .i64 e], .int .i64 19]) (by simp [results, Tryd.results15, go_sem, hc, hz1, hz0, hz2]) rfl ⟨ret_rres (n := 19) H1.out rfl, ?_⟩
        (repeat (first | exact HB.out | apply bd | apply ba | (refine bs ?_ (by simp) _)))
    · have H1 := Lib.hid (doR_ends (k := 4) (x := x) (by decide) (by decide) (.inl rfl) hr hf)
      skip
      cases hl : lateR 4 s e x
      · have H2 : Hid (doR 4 s e x = (5, e, 0)) := H1.out.trans (if_neg (by simp [hl]))
        have hl' := of_decide_eq_false hl
        skip
        clear hl
        go_enter Tryd.func15, Tryd.ntmps15
        go_wp2_with (go_at_call 18; refine (refRight_any _ _ _).mono ?_; rintro e w' ⟨rfl, rfl⟩)
        refine (from_any 4 s _ (by decide) (by decide) s0 s5).mono ?_
        rintro x' w1 ⟨rfl, hb⟩
        obtain ⟨hc, hf1⟩ := bcell hb
        have hz2 : w.heap.size + 2 < w1.heap.size := by have := hb.size; simp at this; omega
        have hz1 : w.heap.size + 1 < w1.heap.size := by omega
        have hz0 : w.heap.size < w1.heap.size := by omega
        have HB : Hid (Below w.heap.size w w1) := (ba (ba (ba (Below.refl _ _) _) _) _).trans (hb.mono (by simp; omega))
        have q0 : w1.cell? ⟨w.heap.size, 0, none⟩ = some (.int .i64 s) := by simp [go_sem, hc]
        have q1 : w1.cell? ⟨w.heap.size, 1, none⟩ = some (.int .i64 e) := by simp [go_sem, hc]
        have q2 : w1.cell? ⟨w.heap.size + 1, 0, none⟩ = some (.int .i64 0) := by simp [go_sem, hc]
        have q3 : w1.cell? ⟨w.heap.size + 1, 1, none⟩ = some (.int .i64 0) := by simp [go_sem, hc]
        clear hb
        go_wp2_with fail
        all_goals first
          | (exfalso; clear hc hf1 HB H1 H2 q0 q1 q2 q3; go_light; simp only [true_or, or_true, true_and, and_true, Bool.and_eq_true, Bool.or_eq_true, Bool.not_eq_true', Bool.not_eq_false', Bool.and_eq_false_imp, beq_iff_eq, beq_eq_false_iff_ne, bne_iff_ne, ne_eq, decide_eq_true_eq, decide_eq_false_iff_not, Bool.false_eq_true, Bool.not_eq_true] at *; omega)
          | (refine bodyPost_ret (v := .tuple #[.agg #[.int .i64 5, .int .i64 e], .int .i64 0]) (by simp [results, Tryd.results15, go_sem, hc, hz0, hz1, hz2, q0, q1, q2, q3]) rfl ⟨ret_rres (n := 0) (H2.out) rfl, ?_⟩
             repeat (first | exact HB.out | apply bd | apply ba | (refine bs ?_ (by simp) _)))
      · exact absurd hl (by simp [lateR])
theorem refDo_any (k s e x : Int) (h0 : 0 ≤ k) (h4 : k ≤ 4) (w : World) :
    Calls Tryd.prog 15 #[.agg #[.int .i64 s, .int .i64 e], .int .i64 k, .int .i64 x] w (RfEnd (doR k s e x) w) := by
  have hk : k = 0 ∨ k = 1 ∨ k = 2 ∨ k = 3 ∨ k = 4 := by omega
  rcases hk with rfl | rfl | rfl | rfl | rfl
  · exact refDo_0 s e x w
  · exact refDo_1 s e x w
  · exact refDo_2 s e x w
  · exact refDo_3 s e x w
  · exact refDo_4 s e x w
end Go.Proofs.YtdglpbjofdipkaaDoor
