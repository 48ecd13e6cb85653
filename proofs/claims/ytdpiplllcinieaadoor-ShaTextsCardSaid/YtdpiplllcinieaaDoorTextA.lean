/- A figure's number: the library's IndexByte, figure here and in the reference. -/
import Derived.Test.YtdpiplllcinieaaDoorShaG
import Derived.Lib.BytesEntry
namespace Go.Proofs.YtdpiplllcinieaaDoor
open Go.RowKit Go.Stop Go.Extern Go.Ranges
set_option linter.unusedVariables false
set_option linter.unusedSimpArgs false
set_option maxRecDepth 20000
theorem indexByte_any (b o n c : Nat) (xs : List Int) (cv : Int) (w : World) (hx : xs.length = n) (hc : ∀ i, i < n → w.cell? ⟨b, o + i, none⟩ = some (.int .u8 (xs.getD i 0))) :
    Calls Tryd.prog 66 #[.slice (some ⟨b, o, none⟩) n c, .int .u8 cv] w fun e w' => e = .returned (.int .i64 (Lib.indexByte (Lib.bytesOf xs) cv.toNat.toUInt8)) ∧ w = w' := by
  have K := Lib.hid hc
  clear hc
  go_enter Tryd.func66, Tryd.ntmps66
  go_wp2
  rw [run_callFunc_extern Tryd.func84 (by kernel_rfl) (by kernel_rfl) (by kernel_rfl) (e := Extern.BytealgIndexByte.indexByte) (by kernel_rfl), Lib.run_indexByteSlice w b o n c xs hx K.out cv]
  simp only [Result.andThen]
  rw [Oper.upon_value]
  go_wp2
  go_ret
  exact ⟨rfl, rfl⟩
def figT (c : Int) : Int := if 48 ≤ c ∧ c ≤ 57 then c - 48 else if 97 ≤ c ∧ c ≤ 102 then c - 87 else -1
theorem figT_eq (c : Int) (hc : isByte c) : Lib.indexByte (Lib.bytesOf figs) c.toNat.toUInt8 = figT c := by
  have key : ∀ n : Fin 256, Lib.indexByte (Lib.bytesOf figs) ((n.val : Int).toNat.toUInt8) = figT (n.val : Int) := by decide +kernel
  have hc0 := hc.1
  have := key ⟨c.toNat, by have := hc.2; omega⟩
  have e : ((c.toNat : Nat) : Int) = c := by omega
  simpa [e] using this
theorem figT_range (c : Int) : -1 ≤ figT c ∧ figT c < 16 := by unfold figT; split <;> (try split) <;> omega
theorem figs_at (i : Nat) (hi : i < 16) : (#[.int .u8 48, .int .u8 49, .int .u8 50, .int .u8 51, .int .u8 52, .int .u8 53, .int .u8 54, .int .u8 55, .int .u8 56, .int .u8 57, .int .u8 97, .int .u8 98, .int .u8 99, .int .u8 100, .int .u8 101, .int .u8 102] : Array Value)[0 + i]? = some (.int .u8 (figs.getD i 0)) := by
  have : i = 0 ∨ i = 1 ∨ i = 2 ∨ i = 3 ∨ i = 4 ∨ i = 5 ∨ i = 6 ∨ i = 7 ∨ i = 8 ∨ i = 9 ∨ i = 10 ∨ i = 11 ∨ i = 12 ∨ i = 13 ∨ i = 14 ∨ i = 15 := by omega
  rcases this with rfl | rfl | rfl | rfl | rfl | rfl | rfl | rfl | rfl | rfl | rfl | rfl | rfl | rfl | rfl | rfl <;> rfl
set_option maxHeartbeats 4000000 in
theorem figure_any (c : Int) (w : World) (hc : isByte c) :
    Calls Tryd.prog 47 #[.int .u8 c] w fun e w' => e = .returned (.int .i64 (figT c)) ∧ Below w.heap.size w w' := by
  have kc := kconst
  have hf := figT_eq c hc
  have H := Lib.hid hc
  clear hc
  go_enter Tryd.func47, Tryd.ntmps47
  go_wp2_with (go_at_call 66
               with_reducible refine (indexByte_any w.heap.size 0 16 16 figs c _ rfl (fun i hi => (cell_of_row _ _ _ _ _ _ (heap_alloc_last w _)).trans ?hc)).mono ?_
               case hc => exact figs_at i hi
               rintro e w1 ⟨rfl, rfl⟩)
  go_ret
  exact ⟨rfl, (Below.refl _ _).alloc (Nat.le_refl _) _⟩
set_option maxHeartbeats 4000000 in
theorem refFigure_any (c : Int) (w : World) (hc : isByte c) :
    Calls Tryd.prog 48 #[.int .u8 c] w fun e w' => e = .returned (.int .i64 (figT c)) ∧ w = w' := by
  have h0 := hc.1
  have h1 := hc.2
  clear hc
  by_cases a : 48 ≤ c ∧ c ≤ 57
  · have a1 := a.1
    have a2 := a.2
    have hf : Hid (figT c = c - 48) := if_pos a
    clear a
    go_enter Tryd.func48, Tryd.ntmps48
    go_wp2_with fail
    go_ret
    exact ⟨by rw [hf.out]; rfl, rfl⟩
  · by_cases b : 97 ≤ c ∧ c ≤ 102
    · have b1 := b.1
      have b2 := b.2
      have hf : Hid (figT c = c - 87) := by show _ = _; unfold figT; rw [if_neg a, if_pos b]
      have a3 : (48 : Int) ≤ c := by omega
      have a4 : ¬ c ≤ (57 : Int) := by omega
      clear a b
      go_enter Tryd.func48, Tryd.ntmps48
      go_wp2_with fail
      go_ret
      exact ⟨by show Ending.returned (.int .i64 (c - 97 + 10)) = _; rw [hf.out]; congr 2; omega, rfl⟩
    · have hf : Hid (figT c = -1) := by show _ = _; unfold figT; rw [if_neg a, if_neg b]
      by_cases a3 : (48 : Int) ≤ c
      · have a4 : ¬ c ≤ (57 : Int) := by omega
        by_cases b3 : (97 : Int) ≤ c
        · have b4 : ¬ c ≤ (102 : Int) := by omega
          clear a b
          go_enter Tryd.func48, Tryd.ntmps48
          go_wp2_with fail
          go_ret
          exact ⟨by rw [hf.out]; rfl, rfl⟩
        · clear a b
          go_enter Tryd.func48, Tryd.ntmps48
          go_wp2_with fail
          go_ret
          exact ⟨by rw [hf.out]; rfl, rfl⟩
      · have b3 : ¬ (97 : Int) ≤ c := by omega
        clear a b
        go_enter Tryd.func48, Tryd.ntmps48
        go_wp2_with fail
        go_ret
        exact ⟨by rw [hf.out]; rfl, rfl⟩
end Go.Proofs.YtdpiplllcinieaaDoor
