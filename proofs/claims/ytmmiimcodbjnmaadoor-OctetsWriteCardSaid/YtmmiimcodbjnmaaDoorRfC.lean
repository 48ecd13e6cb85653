/- octets, the reference: what its loop keeps. -/
import Derived.Test.YtmmiimcodbjnmaaDoorRfB
namespace Go.Proofs.YtmmiimcodbjnmaaDoor
open Go.RowKit Go.Stop Go.Extern Go.Ranges Go.Rows2
set_option linter.unusedVariables false
set_option linter.unusedSimpArgs false
set_option maxRecDepth 20000
/-- Between two letters. -/
structure RI (w wr : World) (cs : List UInt8) (xs : List Int) (k : Nat) (v : Value) (vs : List Value) (A : Option Addr) (cb : Nat) : Prop where
  err : rdErr cs xs k = 0
  rg : RG wr w.heap.size v k vs (rdFN cs xs) (rdFB cs xs)
  at_ : ByteS wr (fun j => j < w.heap.size) A (rdLeft cs xs k)
  le : (rdLeft cs xs k).length ≤ cb
  max : cb ≤ maxLen
  below : Below w.heap.size w wr
theorem RI.next {w wr wb w6 : World} {cs : List UInt8} {xs : List Int} {k : Nat} {v : Value} {vs : List Value} {A : Option Addr} {cb : Nat} (h : RI w wr cs xs k v vs A cb) (hb : Below wr.heap.size wr wb)
    {D A' : Option Addr} {c2 cb' g cap : Nat} (hD : ByteS wb (fun j => j < w.heap.size) D (rdFB cs xs k)) (hA : ByteS wb (fun j => j < w.heap.size) A' (rdLeft cs xs (k + 1))) (hle : (rdLeft cs xs (k + 1)).length ≤ cb') (hmax : cb' ≤ maxLen) (he : rdErr cs xs (k + 1) = 0)
    (hown : w6.ownsRow w.heap.size 57 2 (.slice (some ⟨g, 0, none⟩) (k + 1) cap) (k + 1) (vs ++ [.int .i64 (rdFN cs xs k), .slice D (rdFB cs xs k).length c2])) (hgrow : wb.grownBy w6 v.ownBlock) (hat : v.ownBlock = some g ∨ g = wb.heap.size) :
    RI w w6 cs xs (k + 1) (.slice (some ⟨g, 0, none⟩) (k + 1) cap) (vs ++ [.int .i64 (rdFN cs xs k), .slice D (rdFB cs xs k).length c2]) A' cb' := by
  have hrow : ∀ j, v.ownBlock = some j → w.heap.size ≤ j := fun j hj => (h.rg.own.lt j hj).1
  have hC : Chg (fun j => some j = v.ownBlock) wb w6 := Chg.of_grown hgrow (fun j hj => hj.symm)
  have B1 := stepV h.below hb
  refine ⟨he, (h.rg.below hb).push (hD.mono fun j _ hj => ⟨hj, fun e => by have := hrow j e.symm; omega⟩) hown hgrow hat, hA.chg hC (fun j _ hj e => by have := hrow j e.symm; omega), hle, hmax, B1.grown hgrow B1.size hrow⟩
theorem RI.step {w wr wb : World} {cs : List UInt8} {xs : List Int} {k : Nat} {v : Value} {vs : List Value} {A : Option Addr} {cb : Nat} (h : RI w wr cs xs k v vs A cb) (hb : Below wr.heap.size wr wb) : RI w wb cs xs k v vs A cb :=
  ⟨h.err, h.rg.below hb, h.at_.below hb, h.le, h.max, stepV h.below hb⟩
def Rest2End (w : World) (n : Nat) (s : List UInt8) (xs : List Int) (e : Ending) (w' : World) : Prop :=
  (rdErr s xs n = 0 → ∃ v vs B cb, e = .returned (.tuple #[v, .slice B (rdLeft s xs n).length cb, .int .i64 0]) ∧ RG w' w.heap.size v n vs (rdFN s xs) (rdFB s xs) ∧ Lib.BytesIn w' B (rdLeft s xs n).length (rdLeft s xs n) ∧ Below w.heap.size w w') ∧
    (rdErr s xs n ≠ 0 → e = .returned (.tuple #[.slice none 0 0, .slice none 0 0, .int .i64 (rdErr s xs n)]) ∧ Below w.heap.size w w')
/-- What a letter's own box holds. -/
structure Box2 (wr W : World) (N : Int) (D : Option Addr) (n c : Nat) : Prop where
  row : W.heap[wr.heap.size]? = some (.cells #[.int .i64 N, .slice D n c] 57)
  below : Below wr.heap.size wr W
theorem Box2.new (wr : World) : Box2 wr (wr.alloc (.cells #[.int .i64 0, .slice none 0 0] 57)) 0 none 0 0 := ⟨heap_alloc_last _ _, alloc_below _ _⟩
theorem Box2.cells {wr W : World} {N : Int} {D : Option Addr} {n c : Nat} (h : Box2 wr W N D n c) : W.cell? ⟨wr.heap.size, 0, none⟩ = some (.int .i64 N) ∧ W.cell? ⟨wr.heap.size, 1, none⟩ = some (.slice D n c) ∧ W.frozen? ⟨wr.heap.size, 0, none⟩ = false ∧ W.frozen? ⟨wr.heap.size, 1, none⟩ = false := by
  refine ⟨?_, ?_, ?_, ?_⟩
  · exact (cell_of_row _ _ _ _ _ _ h.row).trans rfl
  · exact (cell_of_row _ _ _ _ _ _ h.row).trans rfl
  all_goals (unfold World.frozen?; rw [h.row]; rfl)
theorem Box2.num {wr W : World} {N : Int} {D : Option Addr} {n c : Nat} (h : Box2 wr W N D n c) (M : Int) : Box2 wr (W.setCell ⟨wr.heap.size, 0, none⟩ (.int .i64 M)) M D n c := by
  exact ⟨(heap_setCell_same W _ 0 _ _ _ h.row).trans rfl, h.below.setCell (p := ⟨wr.heap.size, 0, none⟩) (Nat.le_refl _) _⟩
theorem Box2.text {wr W : World} {N : Int} {D : Option Addr} {n c : Nat} (h : Box2 wr W N D n c) (E : Option Addr) (m d : Nat) : Box2 wr (W.setCell ⟨wr.heap.size, 1, none⟩ (.slice E m d)) N E m d := by
  exact ⟨(heap_setCell_same W _ 1 _ _ _ h.row).trans rfl, h.below.setCell (p := ⟨wr.heap.size, 1, none⟩) (Nat.le_refl _) _⟩
end Go.Proofs.YtmmiimcodbjnmaaDoor
