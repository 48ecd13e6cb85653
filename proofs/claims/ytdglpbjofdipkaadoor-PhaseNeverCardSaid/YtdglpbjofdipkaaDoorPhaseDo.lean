/- The phase behind an event; the reference's. -/
import Derived.Test.YtdglpbjofdipkaaDoorPhase3
namespace Go.Proofs.YtdglpbjofdipkaaDoor
open Go.RowKit Go.Stop Go.Extern
set_option linter.unusedVariables false
set_option linter.unusedSimpArgs false
/-- What an event answers. -/
def doR (k s e x : Int) : Int × Int × Nat := if k = 0 then stageR s e x else if k = 1 then openR s e x else if k = 2 then fenceR s e x else if k = 3 then tombR s e x else dropR s e
set_option maxHeartbeats 1000000 in
theorem do_0 (a : Nat → Addr) (s e x : Int) (w : World) (E : Env w a) :
    Calls Tryd.prog 14 #[.agg #[.int .i64 s, .int .i64 e], .int .i64 0, .int .i64 x] w (PEnd a (stageR s e x) w) := by
  have HE := Lib.hid E
  clear E
  go_enter Tryd.func14, Tryd.ntmps14
  go_wp2_with fail
  refine (stage_any a _ _ _ _ (HE.out.below (ba (ba (Below.refl _ _) _) _))).mono ?_
  rintro x' w1 ⟨rfl, hb⟩
  obtain ⟨hc, hf⟩ := bcell hb
  have hz1 : w.heap.size + 1 < w1.heap.size := by have := hb.size; simp at this; omega
  have hz0 : w.heap.size < w1.heap.size := by omega
  have HB : Hid (Below w.heap.size w w1) := (ba (ba (Below.refl _ _) _) _).trans (hb.mono (by simp; omega))
  clear hb
  generalize stageR s e x = r at *
  unfold PRes
  generalize hv : errV a r.2.2 = v at *
  have Hv := Lib.hid hv
  clear hv
  go_wp2_with fail
  refine bodyPost_ret (v := .tuple #[.agg #[.int .i64 r.1, .int .i64 r.2.1], v]) (by simp [results, Tryd.results14, go_sem, hc, hz0, hz1]) rfl ⟨by rw [← Hv.out]; exact ret_pres2, ?_⟩
  repeat (first | exact HB.out | apply bd | apply ba | (refine bs ?_ (by simp) _))
set_option maxHeartbeats 1000000 in
theorem do_1 (a : Nat → Addr) (s e x : Int) (w : World) (E : Env w a) :
    Calls Tryd.prog 14 #[.agg #[.int .i64 s, .int .i64 e], .int .i64 1, .int .i64 x] w (PEnd a (openR s e x) w) := by
  have HE := Lib.hid E
  clear E
  go_enter Tryd.func14, Tryd.ntmps14
  go_wp2_with fail
  refine (open_any a _ _ _ _ (HE.out.below (ba (ba (Below.refl _ _) _) _))).mono ?_
  rintro x' w1 ⟨rfl, hb⟩
  obtain ⟨hc, hf⟩ := bcell hb
  have hz1 : w.heap.size + 1 < w1.heap.size := by have := hb.size; simp at this; omega
  have hz0 : w.heap.size < w1.heap.size := by omega
  have HB : Hid (Below w.heap.size w w1) := (ba (ba (Below.refl _ _) _) _).trans (hb.mono (by simp; omega))
  clear hb
  generalize openR s e x = r at *
  unfold PRes
  generalize hv : errV a r.2.2 = v at *
  have Hv := Lib.hid hv
  clear hv
  go_wp2_with fail
  refine bodyPost_ret (v := .tuple #[.agg #[.int .i64 r.1, .int .i64 r.2.1], v]) (by simp [results, Tryd.results14, go_sem, hc, hz0, hz1]) rfl ⟨by rw [← Hv.out]; exact ret_pres2, ?_⟩
  repeat (first | exact HB.out | apply bd | apply ba | (refine bs ?_ (by simp) _))
set_option maxHeartbeats 1000000 in
theorem do_2 (a : Nat → Addr) (s e x : Int) (w : World) (E : Env w a) :
    Calls Tryd.prog 14 #[.agg #[.int .i64 s, .int .i64 e], .int .i64 2, .int .i64 x] w (PEnd a (fenceR s e x) w) := by
  have HE := Lib.hid E
  clear E
  go_enter Tryd.func14, Tryd.ntmps14
  go_wp2_with fail
  refine (fence_any a _ _ _ _ (HE.out.below (ba (ba (Below.refl _ _) _) _))).mono ?_
  rintro x' w1 ⟨rfl, hb⟩
  obtain ⟨hc, hf⟩ := bcell hb
  have hz1 : w.heap.size + 1 < w1.heap.size := by have := hb.size; simp at this; omega
  have hz0 : w.heap.size < w1.heap.size := by omega
  have HB : Hid (Below w.heap.size w w1) := (ba (ba (Below.refl _ _) _) _).trans (hb.mono (by simp; omega))
  clear hb
  generalize fenceR s e x = r at *
  unfold PRes
  generalize hv : errV a r.2.2 = v at *
  have Hv := Lib.hid hv
  clear hv
  go_wp2_with fail
  refine bodyPost_ret (v := .tuple #[.agg #[.int .i64 r.1, .int .i64 r.2.1], v]) (by simp [results, Tryd.results14, go_sem, hc, hz0, hz1]) rfl ⟨by rw [← Hv.out]; exact ret_pres2, ?_⟩
  repeat (first | exact HB.out | apply bd | apply ba | (refine bs ?_ (by simp) _))
set_option maxHeartbeats 1000000 in
theorem do_3 (a : Nat → Addr) (s e x : Int) (w : World) (E : Env w a) :
    Calls Tryd.prog 14 #[.agg #[.int .i64 s, .int .i64 e], .int .i64 3, .int .i64 x] w (PEnd a (tombR s e x) w) := by
  have HE := Lib.hid E
  clear E
  go_enter Tryd.func14, Tryd.ntmps14
  go_wp2_with fail
  refine (tomb_any a _ _ _ _ (HE.out.below (ba (ba (Below.refl _ _) _) _))).mono ?_
  rintro x' w1 ⟨rfl, hb⟩
  obtain ⟨hc, hf⟩ := bcell hb
  have hz1 : w.heap.size + 1 < w1.heap.size := by have := hb.size; simp at this; omega
  have hz0 : w.heap.size < w1.heap.size := by omega
  have HB : Hid (Below w.heap.size w w1) := (ba (ba (Below.refl _ _) _) _).trans (hb.mono (by simp; omega))
  clear hb
  generalize tombR s e x = r at *
  unfold PRes
  generalize hv : errV a r.2.2 = v at *
  have Hv := Lib.hid hv
  clear hv
  go_wp2_with fail
  refine bodyPost_ret (v := .tuple #[.agg #[.int .i64 r.1, .int .i64 r.2.1], v]) (by simp [results, Tryd.results14, go_sem, hc, hz0, hz1]) rfl ⟨by rw [← Hv.out]; exact ret_pres2, ?_⟩
  repeat (first | exact HB.out | apply bd | apply ba | (refine bs ?_ (by simp) _))
set_option maxHeartbeats 1000000 in
theorem do_4 (a : Nat → Addr) (s e x : Int) (w : World) (E : Env w a) :
    Calls Tryd.prog 14 #[.agg #[.int .i64 s, .int .i64 e], .int .i64 4, .int .i64 x] w (PEnd a (dropR s e) w) := by
  have HE := Lib.hid E
  clear E
  go_enter Tryd.func14, Tryd.ntmps14
  go_wp2_with fail
  refine (drop_any a _ _ _ (HE.out.below (ba (ba (Below.refl _ _) _) _))).mono ?_
  rintro x' w1 ⟨rfl, hb⟩
  obtain ⟨hc, hf⟩ := bcell hb
  have hz1 : w.heap.size + 1 < w1.heap.size := by have := hb.size; simp at this; omega
  have hz0 : w.heap.size < w1.heap.size := by omega
  have HB : Hid (Below w.heap.size w w1) := (ba (ba (Below.refl _ _) _) _).trans (hb.mono (by simp; omega))
  clear hb
  generalize dropR s e = r at *
  unfold PRes
  generalize hv : errV a r.2.2 = v at *
  have Hv := Lib.hid hv
  clear hv
  go_wp2_with fail
  refine bodyPost_ret (v := .tuple #[.agg #[.int .i64 r.1, .int .i64 r.2.1], v]) (by simp [results, Tryd.results14, go_sem, hc, hz0, hz1]) rfl ⟨by rw [← Hv.out]; exact ret_pres2, ?_⟩
  repeat (first | exact HB.out | apply bd | apply ba | (refine bs ?_ (by simp) _))
theorem do_any (a : Nat → Addr) (k s e x : Int) (w : World) (E : Env w a) (h0 : 0 ≤ k) (h4 : k ≤ 4) :
    Calls Tryd.prog 14 #[.agg #[.int .i64 s, .int .i64 e], .int .i64 k, .int .i64 x] w (PEnd a (doR k s e x) w) := by
  have hk : k = 0 ∨ k = 1 ∨ k = 2 ∨ k = 3 ∨ k = 4 := by omega
  rcases hk with rfl | rfl | rfl | rfl | rfl
  · exact do_0 a s e x w E
  · exact do_1 a s e x w E
  · exact do_2 a s e x w E
  · exact do_3 a s e x w E
  · exact do_4 a s e x w E
def fromR (k s : Int) : Bool := (decide (k = 0) && decide (s ≠ 2)) || (decide (k = 1) && decide (s ≤ 3)) || (decide (k = 2) && decide (s = 2)) || (decide (k = 3) && decide (1 ≤ s) && decide (s ≤ 4)) || (decide (k = 4) && decide (s = 4))
set_option maxHeartbeats 4000000 in
theorem from_any (k s : Int) (w : World) (h0 : 0 ≤ k) (h4 : k ≤ 4) (s0 : 0 ≤ s) (s5 : s ≤ 5) :
    Calls Tryd.prog 66 #[.int .i64 k, .int .i64 s] w fun x w' => x = .returned (.bool (fromR k s)) ∧ Below w.heap.size w w' := by
  have hk : k = 0 ∨ k = 1 ∨ k = 2 ∨ k = 3 ∨ k = 4 := by omega
  have hs : s = 0 ∨ s = 1 ∨ s = 2 ∨ s = 3 ∨ s = 4 ∨ s = 5 := by omega
  clear h0 h4 s0 s5
  rcases hk with rfl | rfl | rfl | rfl | rfl <;> rcases hs with rfl | rfl | rfl | rfl | rfl | rfl
  all_goals
    go_enter Tryd.func66, Tryd.ntmps66
    go_wp2
    go_ret
    exact ⟨rfl, by repeat (first | exact Below.refl _ _ | apply bd | apply ba)⟩
end Go.Proofs.YtdglpbjofdipkaaDoor
