/- What every event does to a repository's serving state. -/
import Derived.Test.YtdglpbjofdipkaaDoorPhase
namespace Go.Proofs.YtdglpbjofdipkaaDoor
open Go.RowKit Go.Stop Go.Extern
set_option linter.unusedVariables false
set_option linter.unusedSimpArgs false
theorem intsAt_lit (w : World) (o1 o2 : Obj) (vs : List Int) : IntsAt (((w.alloc o1).alloc o2).alloc (.cells ((vs.map fun x => Value.int .i64 x).toArray) 3)) (w.heap.size + 1 + 1) vs := by
  intro k hk
  have hs : ((w.alloc o1).alloc o2).heap.size = w.heap.size + 1 + 1 := by simp
  rw [← hs, cell_of_row _ _ _ ((vs.map fun x => Value.int .i64 x).toArray) 3 (0, 0) (heap_alloc_new _ _)]
  simp [gi, hk]
theorem ret_pres2 {a : Nat → Addr} {r : Int × Int × Nat} : Ending.returned (.tuple #[.agg #[.int .i64 r.1, .int .i64 r.2.1], errV a r.2.2]) = .returned (PRes a r) := rfl

set_option maxHeartbeats 400000 in
theorem open_any (a : Nat → Addr) (s e x : Int) (w : World) (E : Env w a) :
    Calls Tryd.prog 63 #[.agg #[.int .i64 s, .int .i64 e], .int .i64 x] w (PEnd a (openR s e x) w) := by
  have HE := Lib.hid E
  clear E
  unfold openR
  have hI := Lib.hid (fun o1 o2 => intsAt_lit w o1 o2 [0, 1, 3, 2])
  go_enter Tryd.func63, Tryd.ntmps63
  go_wp2_with fail
  refine (rise_any a _ _ _ _ [0, 1, 3, 2] _ _ _ (by simp) (hI.out _ _) (HE.out.below (ba (ba (ba (Below.refl _ _) _) _) _))).mono ?_
  rintro x' w1 ⟨rfl, hb⟩
  obtain ⟨hc, hf⟩ := bcell hb
  have hz : w.heap.size + 2 < w1.heap.size := by have := hb.size; simp at this; omega
  have hz1 : w.heap.size + 1 < w1.heap.size := by omega
  have hz0 : w.heap.size < w1.heap.size := by omega
  have HB : Hid (Below w.heap.size w w1) := (ba (ba (ba (Below.refl _ _) _) _) _).trans (hb.mono (by simp; omega))
  clear hb
  generalize riseR s e x 2 [0, 1, 3, 2] = r at *
  unfold PRes
  generalize hv : errV a r.2.2 = v at *
  have Hv := Lib.hid hv
  clear hv
  go_wp2_with fail
  refine bodyPost_ret (v := .tuple #[.agg #[.int .i64 r.1, .int .i64 r.2.1], v]) (by simp [results, Tryd.results63, go_sem, hc, hz, hz0, hz1]) rfl ⟨by rw [← Hv.out]; exact ret_pres2, ?_⟩
  repeat (first | exact HB.out | apply bd | apply ba | (refine bs ?_ (by simp) _))

set_option maxHeartbeats 400000 in
theorem tomb_any (a : Nat → Addr) (s e x : Int) (w : World) (E : Env w a) :
    Calls Tryd.prog 64 #[.agg #[.int .i64 s, .int .i64 e], .int .i64 x] w (PEnd a (tombR s e x) w) := by
  have HE := Lib.hid E
  clear E
  unfold tombR
  have hI := Lib.hid (fun o1 o2 => intsAt_lit w o1 o2 [1, 3, 2, 4])
  go_enter Tryd.func64, Tryd.ntmps64
  go_wp2_with fail
  refine (rise_any a _ _ _ _ [1, 3, 2, 4] _ _ _ (by simp) (hI.out _ _) (HE.out.below (ba (ba (ba (Below.refl _ _) _) _) _))).mono ?_
  rintro x' w1 ⟨rfl, hb⟩
  obtain ⟨hc, hf⟩ := bcell hb
  have hz : w.heap.size + 2 < w1.heap.size := by have := hb.size; simp at this; omega
  have hz1 : w.heap.size + 1 < w1.heap.size := by omega
  have hz0 : w.heap.size < w1.heap.size := by omega
  have HB : Hid (Below w.heap.size w w1) := (ba (ba (ba (Below.refl _ _) _) _) _).trans (hb.mono (by simp; omega))
  clear hb
  generalize riseR s e x 4 [1, 3, 2, 4] = r at *
  unfold PRes
  generalize hv : errV a r.2.2 = v at *
  have Hv := Lib.hid hv
  clear hv
  go_wp2_with fail
  refine bodyPost_ret (v := .tuple #[.agg #[.int .i64 r.1, .int .i64 r.2.1], v]) (by simp [results, Tryd.results64, go_sem, hc, hz, hz0, hz1]) rfl ⟨by rw [← Hv.out]; exact ret_pres2, ?_⟩
  repeat (first | exact HB.out | apply bd | apply ba | (refine bs ?_ (by simp) _))

set_option maxHeartbeats 400000 in
theorem drop_any (a : Nat → Addr) (s e  : Int) (w : World) (E : Env w a) :
    Calls Tryd.prog 65 #[.agg #[.int .i64 s, .int .i64 e]] w (PEnd a (dropR s e) w) := by
  have HE := Lib.hid E
  clear E
  unfold dropR
  have hI := Lib.hid (fun o1 o2 => intsAt_lit w o1 o2 [4])
  go_enter Tryd.func65, Tryd.ntmps65
  go_wp2_with fail
  refine (move_any a _ _ _ [4] _ _ _ (by simp) (hI.out _ _) (HE.out.below (ba (ba (ba (Below.refl _ _) _) _) _))).mono ?_
  rintro x' w1 ⟨rfl, hb⟩
  obtain ⟨hc, hf⟩ := bcell hb
  have hz : w.heap.size + 2 < w1.heap.size := by have := hb.size; simp at this; omega
  have hz1 : w.heap.size + 1 < w1.heap.size := by omega
  have hz0 : w.heap.size < w1.heap.size := by omega
  have HB : Hid (Below w.heap.size w w1) := (ba (ba (ba (Below.refl _ _) _) _) _).trans (hb.mono (by simp; omega))
  clear hb
  generalize moveR s e 5 [4] = r at *
  unfold PRes
  generalize hv : errV a r.2.2 = v at *
  have Hv := Lib.hid hv
  clear hv
  go_wp2_with fail
  refine bodyPost_ret (v := .tuple #[.agg #[.int .i64 r.1, .int .i64 r.2.1], v]) (by simp [results, Tryd.results65, go_sem, hc, hz, hz0, hz1]) rfl ⟨by rw [← Hv.out]; exact ret_pres2, ?_⟩
  repeat (first | exact HB.out | apply bd | apply ba | (refine bs ?_ (by simp) _))

theorem intsAt_lit4 (w : World) (o1 o2 o3 o4 : Obj) (vs : List Int) : IntsAt (((((w.alloc o1).alloc o2).alloc o3).alloc o4).alloc (.cells ((vs.map fun x => Value.int .i64 x).toArray) 3)) (w.heap.size + 1 + 1 + 1 + 1) vs := by
  intro k hk
  have hs : ((((w.alloc o1).alloc o2).alloc o3).alloc o4).heap.size = w.heap.size + 1 + 1 + 1 + 1 := by simp
  rw [← hs, cell_of_row _ _ _ ((vs.map fun x => Value.int .i64 x).toArray) 3 (0, 0) (heap_alloc_new _ _)]
  simp [gi, hk]

set_option maxHeartbeats 400000 in
theorem stage_r1 (a : Nat → Addr) (s e x : Int) (hr : right s e = false) (w : World) (E : Env w a) :
    Calls Tryd.prog 23 #[.agg #[.int .i64 s, .int .i64 e], .int .i64 x] w (PEnd a (riseR s e x 1 [0, 1, 3, 4, 5]) w) := by
  have HE := Lib.hid E
  clear E
  have hI := Lib.hid (fun o1 o2 o3 o4 => intsAt_lit4 w o1 o2 o3 o4 [0, 1, 3, 4, 5])
  go_enter Tryd.func23, Tryd.ntmps23
  go_wp2_with (go_at_call 17; refine (right_any _ _ _ (HE.out.names.below (ba (ba (Below.refl _ _) _) _))).mono ?_; rintro e w' ⟨rfl, rfl⟩)
  refine (rise_any a _ _ _ _ [0, 1, 3, 4, 5] _ _ _ (by simp) (hI.out _ _ _ _) (HE.out.below (ba (ba (ba (ba (ba (Below.refl _ _) _) _) _) _) _))).mono ?_
  rintro x' w1 ⟨rfl, hb⟩
  obtain ⟨hc, hf⟩ := bcell hb
  have hz : w.heap.size + 4 < w1.heap.size := by have := hb.size; simp at this; omega
  have hz1 : w.heap.size + 1 < w1.heap.size := by omega
  have hz0 : w.heap.size < w1.heap.size := by omega
  have HB : Hid (Below w.heap.size w w1) := (ba (ba (ba (ba (ba (Below.refl _ _) _) _) _) _) _).trans (hb.mono (by simp; omega))
  clear hb
  generalize riseR s e x 1 [0, 1, 3, 4, 5] = r at *
  unfold PRes
  generalize hv : errV a r.2.2 = v at *
  have Hv := Lib.hid hv
  clear hv
  go_wp2_with fail
  refine bodyPost_ret (v := .tuple #[.agg #[.int .i64 r.1, .int .i64 r.2.1], v]) (by simp [results, Tryd.results23, go_sem, hc, hz, hz0, hz1]) rfl ⟨by rw [← Hv.out]; exact ret_pres2, ?_⟩
  repeat (first | exact HB.out | apply bd | apply ba | (refine bs ?_ (by simp) _))

set_option maxHeartbeats 400000 in
theorem stage_r2 (a : Nat → Addr) (s e x : Int) (hr : right s e = true) (h1 : (x != e) = true) (w : World) (E : Env w a) :
    Calls Tryd.prog 23 #[.agg #[.int .i64 s, .int .i64 e], .int .i64 x] w (PEnd a (riseR s e x 1 [0, 1, 3, 4, 5]) w) := by
  have HE := Lib.hid E
  clear E
  have hI := Lib.hid (fun o1 o2 o3 o4 => intsAt_lit4 w o1 o2 o3 o4 [0, 1, 3, 4, 5])
  go_enter Tryd.func23, Tryd.ntmps23
  go_wp2_with (go_at_call 17; refine (right_any _ _ _ (HE.out.names.below (ba (ba (Below.refl _ _) _) _))).mono ?_; rintro e w' ⟨rfl, rfl⟩)
  refine (rise_any a _ _ _ _ [0, 1, 3, 4, 5] _ _ _ (by simp) (hI.out _ _ _ _) (HE.out.below (ba (ba (ba (ba (ba (Below.refl _ _) _) _) _) _) _))).mono ?_
  rintro x' w1 ⟨rfl, hb⟩
  obtain ⟨hc, hf⟩ := bcell hb
  have hz : w.heap.size + 4 < w1.heap.size := by have := hb.size; simp at this; omega
  have hz1 : w.heap.size + 1 < w1.heap.size := by omega
  have hz0 : w.heap.size < w1.heap.size := by omega
  have HB : Hid (Below w.heap.size w w1) := (ba (ba (ba (ba (ba (Below.refl _ _) _) _) _) _) _).trans (hb.mono (by simp; omega))
  clear hb
  generalize riseR s e x 1 [0, 1, 3, 4, 5] = r at *
  unfold PRes
  generalize hv : errV a r.2.2 = v at *
  have Hv := Lib.hid hv
  clear hv
  go_wp2_with fail
  refine bodyPost_ret (v := .tuple #[.agg #[.int .i64 r.1, .int .i64 r.2.1], v]) (by simp [results, Tryd.results23, go_sem, hc, hz, hz0, hz1]) rfl ⟨by rw [← Hv.out]; exact ret_pres2, ?_⟩
  repeat (first | exact HB.out | apply bd | apply ba | (refine bs ?_ (by simp) _))

set_option maxHeartbeats 400000 in
theorem stage_r3 (a : Nat → Addr) (s e x : Int) (hr : right s e = true) (h1 : (x != e) = false) (h2 : (s != 4) = true) (h3 : (s != 5) = true) (w : World) (E : Env w a) :
    Calls Tryd.prog 23 #[.agg #[.int .i64 s, .int .i64 e], .int .i64 x] w (PEnd a (riseR s e x 1 [0, 1, 3, 4, 5]) w) := by
  have HE := Lib.hid E
  clear E
  have hI := Lib.hid (fun o1 o2 o3 o4 => intsAt_lit4 w o1 o2 o3 o4 [0, 1, 3, 4, 5])
  go_enter Tryd.func23, Tryd.ntmps23
  go_wp2_with (go_at_call 17; refine (right_any _ _ _ (HE.out.names.below (ba (ba (Below.refl _ _) _) _))).mono ?_; rintro e w' ⟨rfl, rfl⟩)
  refine (rise_any a _ _ _ _ [0, 1, 3, 4, 5] _ _ _ (by simp) (hI.out _ _ _ _) (HE.out.below (ba (ba (ba (ba (ba (Below.refl _ _) _) _) _) _) _))).mono ?_
  rintro x' w1 ⟨rfl, hb⟩
  obtain ⟨hc, hf⟩ := bcell hb
  have hz : w.heap.size + 4 < w1.heap.size := by have := hb.size; simp at this; omega
  have hz1 : w.heap.size + 1 < w1.heap.size := by omega
  have hz0 : w.heap.size < w1.heap.size := by omega
  have HB : Hid (Below w.heap.size w w1) := (ba (ba (ba (ba (ba (Below.refl _ _) _) _) _) _) _).trans (hb.mono (by simp; omega))
  clear hb
  generalize riseR s e x 1 [0, 1, 3, 4, 5] = r at *
  unfold PRes
  generalize hv : errV a r.2.2 = v at *
  have Hv := Lib.hid hv
  clear hv
  go_wp2_with fail
  refine bodyPost_ret (v := .tuple #[.agg #[.int .i64 r.1, .int .i64 r.2.1], v]) (by simp [results, Tryd.results23, go_sem, hc, hz, hz0, hz1]) rfl ⟨by rw [← Hv.out]; exact ret_pres2, ?_⟩
  repeat (first | exact HB.out | apply bd | apply ba | (refine bs ?_ (by simp) _))

set_option maxHeartbeats 400000 in
theorem stage_m4 (a : Nat → Addr) (s e x : Int) (hr : right s e = true) (h1 : (x != e) = false) (h2 : (s != 4) = false) (w : World) (E : Env w a) :
    Calls Tryd.prog 23 #[.agg #[.int .i64 s, .int .i64 e], .int .i64 x] w (PEnd a (moveR s e 1 [4, 5]) w) := by
  have HE := Lib.hid E
  clear E
  have hI := Lib.hid (fun o1 o2 o3 o4 => intsAt_lit4 w o1 o2 o3 o4 [4, 5])
  go_enter Tryd.func23, Tryd.ntmps23
  go_wp2_with (go_at_call 17; refine (right_any _ _ _ (HE.out.names.below (ba (ba (Below.refl _ _) _) _))).mono ?_; rintro e w' ⟨rfl, rfl⟩)
  refine (move_any a _ _ _ [4, 5] _ _ _ (by simp) (hI.out _ _ _ _) (HE.out.below (ba (ba (ba (ba (ba (Below.refl _ _) _) _) _) _) _))).mono ?_
  rintro x' w1 ⟨rfl, hb⟩
  obtain ⟨hc, hf⟩ := bcell hb
  have hz : w.heap.size + 4 < w1.heap.size := by have := hb.size; simp at this; omega
  have hz1 : w.heap.size + 1 < w1.heap.size := by omega
  have hz0 : w.heap.size < w1.heap.size := by omega
  have HB : Hid (Below w.heap.size w w1) := (ba (ba (ba (ba (ba (Below.refl _ _) _) _) _) _) _).trans (hb.mono (by simp; omega))
  clear hb
  generalize moveR s e 1 [4, 5] = r at *
  unfold PRes
  generalize hv : errV a r.2.2 = v at *
  have Hv := Lib.hid hv
  clear hv
  go_wp2_with fail
  refine bodyPost_ret (v := .tuple #[.agg #[.int .i64 r.1, .int .i64 r.2.1], v]) (by simp [results, Tryd.results23, go_sem, hc, hz, hz0, hz1]) rfl ⟨by rw [← Hv.out]; exact ret_pres2, ?_⟩
  repeat (first | exact HB.out | apply bd | apply ba | (refine bs ?_ (by simp) _))

set_option maxHeartbeats 400000 in
theorem stage_m5 (a : Nat → Addr) (s e x : Int) (hr : right s e = true) (h1 : (x != e) = false) (h2 : (s != 4) = true) (h3 : (s != 5) = false) (w : World) (E : Env w a) :
    Calls Tryd.prog 23 #[.agg #[.int .i64 s, .int .i64 e], .int .i64 x] w (PEnd a (moveR s e 1 [4, 5]) w) := by
  have HE := Lib.hid E
  clear E
  have hI := Lib.hid (fun o1 o2 o3 o4 => intsAt_lit4 w o1 o2 o3 o4 [4, 5])
  go_enter Tryd.func23, Tryd.ntmps23
  go_wp2_with (go_at_call 17; refine (right_any _ _ _ (HE.out.names.below (ba (ba (Below.refl _ _) _) _))).mono ?_; rintro e w' ⟨rfl, rfl⟩)
  refine (move_any a _ _ _ [4, 5] _ _ _ (by simp) (hI.out _ _ _ _) (HE.out.below (ba (ba (ba (ba (ba (Below.refl _ _) _) _) _) _) _))).mono ?_
  rintro x' w1 ⟨rfl, hb⟩
  obtain ⟨hc, hf⟩ := bcell hb
  have hz : w.heap.size + 4 < w1.heap.size := by have := hb.size; simp at this; omega
  have hz1 : w.heap.size + 1 < w1.heap.size := by omega
  have hz0 : w.heap.size < w1.heap.size := by omega
  have HB : Hid (Below w.heap.size w w1) := (ba (ba (ba (ba (ba (Below.refl _ _) _) _) _) _) _).trans (hb.mono (by simp; omega))
  clear hb
  generalize moveR s e 1 [4, 5] = r at *
  unfold PRes
  generalize hv : errV a r.2.2 = v at *
  have Hv := Lib.hid hv
  clear hv
  go_wp2_with fail
  refine bodyPost_ret (v := .tuple #[.agg #[.int .i64 r.1, .int .i64 r.2.1], v]) (by simp [results, Tryd.results23, go_sem, hc, hz, hz0, hz1]) rfl ⟨by rw [← Hv.out]; exact ret_pres2, ?_⟩
  repeat (first | exact HB.out | apply bd | apply ba | (refine bs ?_ (by simp) _))

theorem stage_any (a : Nat → Addr) (s e x : Int) (w : World) (E : Env w a) :
    Calls Tryd.prog 23 #[.agg #[.int .i64 s, .int .i64 e], .int .i64 x] w (PEnd a (stageR s e x) w) := by
  unfold stageR
  cases hr : right s e
  · rw [if_pos (.inl rfl)]; exact stage_r1 a s e x hr w E
  · by_cases h1 : x = e
    · by_cases h2 : s = 4
      · rw [if_neg (by simp [h1, h2])]; exact stage_m4 a s e x hr (by simp [h1]) (by simp [h2]) w E
      · by_cases h3 : s = 5
        · rw [if_neg (by simp [h1, h3])]; exact stage_m5 a s e x hr (by simp [h1]) (by simp [h2]) (by simp [h3]) w E
        · rw [if_pos (.inr (.inr ⟨h2, h3⟩))]; exact stage_r3 a s e x hr (by simp [h1]) (by simp [h2]) (by simp [h3]) w E
    · rw [if_pos (.inr (.inl h1))]; exact stage_r2 a s e x hr (by simp [h1]) w E

set_option maxHeartbeats 400000 in
theorem fence_any (a : Nat → Addr) (s e x : Int) (w : World) (E : Env w a) :
    Calls Tryd.prog 62 #[.agg #[.int .i64 s, .int .i64 e], .int .i64 x] w (PEnd a (fenceR s e x) w) := by
  have HE := Lib.hid E
  clear E
  have hI := Lib.hid (fun o1 o2 => intsAt_lit w o1 o2 [2])
  by_cases hr : x < 1 ∨ maxE < x
  · have Hm : Hid (fenceR s e x = (s, e, 1)) := by unfold fenceR; exact if_pos hr
    have e4 := err2 HE.out.errs 1 (by decide) (by decide)
    simp only [gErr] at e4
    unfold maxE at hr
    rcases hr with h1 | h1
    all_goals
      go_enter Tryd.func62, Tryd.ntmps62
      go_wp2_with fail
      go_region
      go_wp2
      refine bodyPost_ret (v := .tuple #[.agg #[.int .i64 s, .int .i64 e], .iface 143 (.pointer (some (a 1)))]) (by simp [results, Tryd.results62, go_sem]) rfl ⟨ret_pres Hm.out (errV_pos a 1 (by decide)).symm, ?_⟩
      repeat (first | exact Below.refl _ _ | apply bd | apply ba)
  · have h1 : 1 ≤ x := by omega
    have h2 : x ≤ 1099511627776 := by unfold maxE at hr; omega
    by_cases hm : (moveR s e 3 [2]).2.2 = 0
    · have Em := Lib.hid (moveR_ok hm)
      by_cases hxe : x ≠ e
      · have Hm : Hid (fenceR s e x = (s, e, 18)) := by unfold fenceR; rw [if_neg hr, if_neg (by simp [hm]), if_pos hxe]; exact rfl
        clear hr hm
        have ht : (x != e) = true := by simp [hxe]
        have HXE := Lib.hid hxe
        clear hxe
        go_enter Tryd.func62, Tryd.ntmps62
        go_wp2_with fail
        refine (move_any a _ _ _ [2] _ _ _ (by simp) (hI.out _ _) (HE.out.below (ba (ba (ba (Below.refl _ _) _) _) _))).mono ?_
        rintro x' w1 ⟨rfl, hb⟩
        unfold PRes
        rw [Em.out]
        obtain ⟨hc, hf⟩ := bcell hb
        have hz' : w.heap.size + 2 < w1.heap.size := by have := hb.size; simp at this; omega
        have hz : w.heap.size + 1 < w1.heap.size := by omega
        have hz0 : w.heap.size < w1.heap.size := by omega
        have hB : Below w.heap.size w w1 := (ba (ba (ba (Below.refl _ _) _) _) _).trans (hb.mono (by simp; omega))
        obtain ⟨e1, e2⟩ := err_far HE.out.errs hB 18 (by decide) (by decide) (w.heap.size + 1) (by omega)
        simp only [gErr] at e1 e2
        simp only [errV, if_true]
        have HB := Lib.hid hB
        clear hB
        have Hb := Lib.hid hb
        clear hb
        go_wp2_with fail
        go_region
        go_wp2
        refine bodyPost_ret (v := .tuple #[.agg #[.int .i64 s, .int .i64 e], .iface 143 (.pointer (some (a 18)))]) (by simp [results, Tryd.results62, go_sem, hc, hz, hz0]) rfl ⟨ret_pres Hm.out (errV_pos a 18 (by decide)).symm, ?_⟩
        repeat (first | exact HB.out | apply bd | apply ba | (refine bs ?_ (by simp) _))
      · have Hm : Hid (fenceR s e x = (3, e, 0)) := by unfold fenceR; rw [if_neg hr, if_neg (by simp [hm]), if_neg hxe]; exact rfl
        clear hr hm
        have ht : (x != e) = false := by simpa using hxe
        have HXE := Lib.hid (show x = e by simpa using hxe)
        clear hxe
        go_enter Tryd.func62, Tryd.ntmps62
        go_wp2_with fail
        refine (move_any a _ _ _ [2] _ _ _ (by simp) (hI.out _ _) (HE.out.below (ba (ba (ba (Below.refl _ _) _) _) _))).mono ?_
        rintro x' w1 ⟨rfl, hb⟩
        unfold PRes
        rw [Em.out]
        obtain ⟨hc, hf⟩ := bcell hb
        have hz' : w.heap.size + 2 < w1.heap.size := by have := hb.size; simp at this; omega
        have hz : w.heap.size + 1 < w1.heap.size := by omega
        have hz0 : w.heap.size < w1.heap.size := by omega
        have hB : Below w.heap.size w w1 := (ba (ba (ba (Below.refl _ _) _) _) _).trans (hb.mono (by simp; omega))
        simp only [errV, if_true]
        have HB := Lib.hid hB
        clear hB
        have Hb := Lib.hid hb
        clear hb
        go_wp2_with fail
        refine bodyPost_ret (v := .tuple #[.agg #[.int .i64 3, .int .i64 e], .nilIface]) (by simp [results, Tryd.results62, go_sem, hc, hz, hz0]) rfl ⟨ret_pres Hm.out rfl, ?_⟩
        repeat (first | exact HB.out | apply bd | apply ba | (refine bs ?_ (by simp) _))
    · have Em := Lib.hid (moveR_err hm)
      have Hle := moveR_le s e 3 [2]
      have Hm : Hid (fenceR s e x = (s, e, (moveR s e 3 [2]).2.2)) := by unfold fenceR; rw [if_neg hr, if_pos hm]; exact rfl
      clear hr
      go_enter Tryd.func62, Tryd.ntmps62
      go_wp2_with fail
      refine (move_any a _ _ _ [2] _ _ _ (by simp) (hI.out _ _) (HE.out.below (ba (ba (ba (Below.refl _ _) _) _) _))).mono ?_
      rintro x' w1 ⟨rfl, hb⟩
      unfold PRes
      rw [Em.out]
      generalize (moveR s e 3 [2]).2.2 = n at *
      obtain ⟨hc, hf⟩ := bcell hb
      have hz' : w.heap.size + 2 < w1.heap.size := by have := hb.size; simp at this; omega
      have hz : w.heap.size + 1 < w1.heap.size := by omega
      have hz0 : w.heap.size < w1.heap.size := by omega
      have hB : Below w.heap.size w w1 := (ba (ba (ba (Below.refl _ _) _) _) _).trans (hb.mono (by simp; omega))
      simp only [errV, if_neg hm]
      have HB := Lib.hid hB
      clear hB
      have Hb := Lib.hid hb
      clear hb
      go_wp2_with fail
      refine bodyPost_ret (v := .tuple #[.agg #[.int .i64 s, .int .i64 e], .iface 143 (.pointer (some (a n)))]) (by simp [results, Tryd.results62, go_sem, hc, hz, hz0]) rfl ⟨ret_pres Hm.out (errV_pos a n (by omega)).symm, ?_⟩
      repeat (first | exact HB.out | apply bd | apply ba | (refine bs ?_ (by simp) _))

end Go.Proofs.YtdglpbjofdipkaaDoor
