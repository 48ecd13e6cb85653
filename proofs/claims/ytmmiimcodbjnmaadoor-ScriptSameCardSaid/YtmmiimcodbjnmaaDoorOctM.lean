/- octets: the fields' makers. -/
import Derived.Test.YtmmiimcodbjnmaaDoorOctE
import Derived.Deep.DeepCutAuto
import Derived.Deep.DrawnRows
import Derived.Lib.ConvBytes
namespace Go.Proofs.YtmmiimcodbjnmaaDoor
open Go.RowKit Go.Stop Go.Extern Go.Ranges Go.Rows2
set_option linter.unusedVariables false
set_option linter.unusedSimpArgs false
set_option maxRecDepth 20000
theorem mkNum_any (n : Int) (w : World) : Calls Tryd.prog 47 #[.int .i64 n] w fun e w' => e = .returned (.agg #[.int .i64 n, .slice none 0 0]) ∧ Below w.heap.size w w' := by
  go_enter Tryd.func47, Tryd.ntmps47
  go_wp2
  exact bodyPost_ret (v := .agg #[.int .i64 n, .slice none 0 0]) (by simp [results, Tryd.results47, go_sem]) rfl ⟨rfl, alloc_below _ _⟩
set_option maxRecDepth 200000 in
theorem mkBytes_any (A : Option Addr) (n c : Nat) (w : World) : Calls Tryd.prog 87 #[.slice A n c] w fun e w' => e = .returned (.agg #[.int .i64 0, .slice A n c]) ∧ Below w.heap.size w w' := by
  go_enter Tryd.func87, Tryd.ntmps87
  go_wp2
  exact bodyPost_ret (v := .agg #[.int .i64 0, .slice A n c]) (by simp [results, Tryd.results87, go_sem]) rfl ⟨rfl, alloc_below _ _⟩
/-- A string's bytes as numbers. -/
def sB (s : ByteArray) : List Int := s.data.toList.map fun c => (c.toNat : Int)
theorem sB_len (s : ByteArray) : (sB s).length = s.size := by unfold sB; rw [List.length_map, ← Lib.size_eq]
theorem bytesWorld_bel (w : World) (e : TypeId) (s : ByteArray) : Below w.heap.size w (Lib.bytesWorld w e s) :=
  ⟨rfl, rfl, rfl, by rw [Lib.bytesWorld_size]; omega, fun k hk => Lib.bytesWorld_at_old w e s k hk⟩
set_option maxRecDepth 20000 in
theorem mkText_any (s : ByteArray) (w : World) : Calls Tryd.prog 48 #[.string s] w fun e w' => ∃ A c, e = .returned (.agg #[.int .i64 0, .slice A s.size c]) ∧ Lib.BytesIn w' A s.size (sB s) ∧ Below w.heap.size w w' := by
  have hb0 := alloc_below w (.cells #[.int .i64 0, .slice none 0 0] 60)
  have hsz0 : (w.alloc (.cells #[.int .i64 0, .slice none 0 0] 60)).heap.size = w.heap.size + 1 := by simp
  have k0 : (w.alloc (.cells #[.int .i64 0, .slice none 0 0] 60)).cell? ⟨w.heap.size, 0, none⟩ = some (.int .i64 0) := (cell_of_row _ _ _ _ _ _ (heap_alloc_last w _)).trans rfl
  have k1 : (w.alloc (.cells #[.int .i64 0, .slice none 0 0] 60)).cell? ⟨w.heap.size, 1, none⟩ = some (.slice none 0 0) := (cell_of_row _ _ _ _ _ _ (heap_alloc_last w _)).trans rfl
  have j0 : (w.alloc (.cells #[.int .i64 0, .slice none 0 0] 60)).frozen? ⟨w.heap.size, 0, none⟩ = false := by unfold World.frozen?; rw [heap_alloc_last]; rfl
  have j1 : (w.alloc (.cells #[.int .i64 0, .slice none 0 0] 60)).frozen? ⟨w.heap.size, 1, none⟩ = false := by unfold World.frozen?; rw [heap_alloc_last]; rfl
  have hcv := Lib.run_convert_string_bytes (P := Tryd.prog) (w.alloc (.cells #[.int .i64 0, .slice none 0 0] 60)) 9 34 5 s (u := .string) Tryd.underlying9 Tryd.underlying34 Tryd.underlying5
  have hb1 := bytesWorld_bel (w.alloc (.cells #[.int .i64 0, .slice none 0 0] 60)) 5 s
  have hby := fun j hj => Lib.bytesWorld_cell (w.alloc (.cells #[.int .i64 0, .slice none 0 0] 60)) 5 s j hj
  generalize grownCap (w.alloc (.cells #[.int .i64 0, .slice none 0 0] 60)) s.size 0 5 = gc at *
  generalize Lib.bytesWorld (w.alloc (.cells #[.int .i64 0, .slice none 0 0] 60)) 5 s = W1 at *
  rw [hsz0] at hcv hby
  have c0 : W1.cell? ⟨w.heap.size, 0, none⟩ = some (.int .i64 0) := (hb1.cell (by simp)).trans k0
  have c1 : W1.cell? ⟨w.heap.size, 1, none⟩ = some (.slice none 0 0) := (hb1.cell (by simp)).trans k1
  have f0 : W1.frozen? ⟨w.heap.size, 0, none⟩ = false := (hb1.frozen (by simp)).trans j0
  have f1 : W1.frozen? ⟨w.heap.size, 1, none⟩ = false := (hb1.frozen (by simp)).trans j1
  have HB1 := Lib.hid (stepV hb0 hb1)
  have HBY := Lib.hid hby
  clear k0 k1 j0 j1 hb0 hb1 hby
  go_enter Tryd.func48, Tryd.ntmps48
  go_wp2
  have hBT : Below w.heap.size w ((W1.setCell ⟨w.heap.size, 0, none⟩ (.int .i64 0)).setCell ⟨w.heap.size, 1, none⟩ (.slice (some ⟨w.heap.size + 1, 0, none⟩) s.size gc)) := (HB1.out.setCell (p := ⟨w.heap.size, 0, none⟩) (Nat.le_refl _) _).setCell (p := ⟨w.heap.size, 1, none⟩) (Nat.le_refl _) _
  refine bodyPost_ret (v := .agg #[.int .i64 0, .slice (some ⟨w.heap.size + 1, 0, none⟩) s.size gc]) (by simp [results, Tryd.results48, go_sem, c0, c1]) rfl ⟨some ⟨w.heap.size + 1, 0, none⟩, gc, rfl, ?_, hBT⟩
  intro hn
  refine ⟨w.heap.size + 1, 0, rfl, fun j hj => ?_⟩
  have h1 := HBY.out j hj
  have e1 : ∀ (W : World) (p : Addr) (u : Value), p.block = w.heap.size → (W.setCell p u).cell? ⟨w.heap.size + 1, 0 + j, none⟩ = W.cell? ⟨w.heap.size + 1, 0 + j, none⟩ := fun W p u hp =>
    World.cell?_of_block (a := ⟨w.heap.size + 1, 0 + j, none⟩) (Below.heap_setCell W p u _ (by show w.heap.size + 1 ≠ p.block; omega))
  rw [e1 _ ⟨w.heap.size, 1, none⟩ _ rfl, e1 _ ⟨w.heap.size, 0, none⟩ _ rfl, Nat.zero_add, h1]
  have hj2 : j < s.data.toList.length := by rw [← Lib.size_eq]; exact hj
  simp [sB, List.getD, List.getElem?_eq_getElem hj2, List.getElem?_map]
end Go.Proofs.YtmmiimcodbjnmaaDoor
