/- The chapter's example; the law NetMoves, walked. -/
import Derived.Test.YtdglpbjofdipkaaDoorNetF
namespace Go.Proofs.YtdglpbjofdipkaaDoor
open Go.RowKit Go.Stop Go.Extern Go.Ranges Go.Rows2 Go.Sort Go.BigFrame
set_option linter.unusedVariables false
set_option linter.unusedSimpArgs false
theorem kconst (w : World) (g : Nat) (hg : g = w.heap.size) (C : Array Value) (n c : Nat) : (convert 55 55 (.slice (some ⟨g, 0, none⟩) n c)).run Tryd.prog (w.alloc (.cells C 5)) = .ok (.slice (some ⟨g, 0, none⟩) n c) (w.alloc (.cells C 5 (C.size, C.size + 1))) := by
  subst hg
  exact Lib.run_convert_bytes_const (P := Tryd.prog) w 55 5 C n c Tryd.underlying55 Tryd.underlying5
theorem one_byte (w : World) (x : Int) : Lib.BytesIn (w.alloc (.cells #[.int .u8 x] 5 (1, 2))) (some ⟨w.heap.size, 0, none⟩) 1 [x] := fun _ => ⟨w.heap.size, 0, rfl, fun i hi => by
  obtain rfl : i = 0 := by omega
  rw [cell_of_row _ _ _ _ _ _ (heap_alloc_last w _)]
  rfl⟩
set_option maxRecDepth 20000 in
set_option maxHeartbeats 4000000 in
theorem alive17 (a : Nat → Addr) (w : World) (H : Errs w a) : Calls Tryd.prog 44 #[] w fun x w' => x = .returned (.bool true) ∧ Below w.heap.size w w' := by
  have kc := kconst
  have HE := Lib.hid H
  clear H
  go_enter Tryd.func44, Tryd.ntmps44
  go_wp2_with fail
  refine (new_ok 1 w (by decide) (by decide) (fun k => k = w.heap.size) (fun k hk => by have hk' : k = w.heap.size := hk; omega) rfl w.heap.size (Nat.le_refl _)).mono ?_
  rintro e w1 ⟨rfl, hN1, hb1⟩
  have hs1 := hb1.size
  have hbA := hb1.alloc hs1 (.cells #[.int .u8 97] 5 (1, 2))
  go_wp2_with fail
  refine (send_ok (hN1.below (alloc_below w1 (.cells #[.int .u8 97] 5 (1, 2)))) (some ⟨w1.heap.size, 0, none⟩) 1 1 [97] rfl (one_byte w1 97) (fun h => by cases h) (by decide) (by decide) (by decide) (by decide) (by decide) (by decide) (by simp; omega)).mono ?_
  rintro e w2 ⟨v', xs', rfl, hN2, hr2, hC2⟩
  have hc0 : Below w.heap.size w w2 := hbA.trans (hC2.below (by simp; omega) (fun k hk => by
    rcases hk with rfl | hk
    · exact Nat.le_refl _
    · cases hk))
  go_wp2_with fail
  refine (send_full a (hN2.below (alloc_below w2 (.cells #[.int .u8 98] 5 (1, 2)))) (some ⟨w2.heap.size, 0, none⟩) 1 1 (by decide) (by decide) (by decide) rfl (HE.out.below (hc0.alloc hc0.size _))).mono ?_
  rintro e w3 ⟨rfl, hb3⟩
  have hc3 := (hc0.alloc hc0.size (.cells #[.int .u8 98] 5 (1, 2)))
  have hc4 := hc3.trans (hb3.mono hc3.size)
  go_wp2_with fail
  refine (num_some a 12 (by decide) (by decide) _ (HE.out.below hc4)).mono ?_
  rintro e w4 ⟨rfl, hb4⟩
  go_wp2_with fail
  go_ret
  exact ⟨rfl, hc4.trans (hb4.mono hc4.size)⟩
end Go.Proofs.YtdglpbjofdipkaaDoor
