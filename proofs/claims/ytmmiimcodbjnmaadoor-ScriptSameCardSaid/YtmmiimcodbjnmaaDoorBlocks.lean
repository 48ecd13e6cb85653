/- Blocks of cells that are written whole: what holds of them behind each step. Whatever program. -/
import Derived.Test.YtmmiimcodbjnmaaDoorRanges
import Derived.Laws.Tables
import Derived.Deep.AppendLies
namespace Go.Ranges
open Go.RowKit
set_option linter.unusedVariables false
set_option linter.unusedSimpArgs false
/-- Is block b a row of n cells, none of them frozen? -/
def isRow (w : World) (b n : Nat) : Bool := match w.heap[b]? with
  | some (.cells C _ fr) => C.size == n && fr == (0, 0)
  | _ => false
theorem isRow_has {w : World} {b n : Nat} (h : isRow w b n = true) : ∃ C t, w.heap[b]? = some (.cells C t (0, 0)) ∧ C.size = n := by
  unfold isRow at h
  split at h
  · rename_i C t fr e
    simp only [Bool.and_eq_true, beq_iff_eq] at h
    obtain ⟨h1, h2⟩ := h
    subst h2
    exact ⟨C, t, e, h1⟩
  · exact absurd h (by decide)
theorem isRow_lt {w : World} {b n : Nat} (h : isRow w b n = true) : b < w.heap.size := by
  obtain ⟨C, t, h1, _⟩ := isRow_has h
  exact (Array.getElem?_eq_some_iff.1 h1).1
theorem isRow_of {w w' : World} {b n : Nat} (h : w'.heap[b]? = w.heap[b]?) : isRow w' b n = isRow w b n := by simp [isRow, h]
theorem range_of {w w' : World} {b o n : Nat} (h : w'.heap[b]? = w.heap[b]?) : rangeOf w' b o n = rangeOf w b o n := by
  unfold rangeOf
  congr 2
  funext j
  rw [World.cell?_of_block (w := w) (a := ⟨b, o + j, none⟩) h]
theorem has_of {w w' : World} {b o n : Nat} (h : w'.heap[b]? = w.heap[b]?) : hasRange w' b o n = hasRange w b o n := by
  unfold hasRange
  congr 1
  funext j
  rw [World.cell?_of_block (w := w) (a := ⟨b, o + j, none⟩) h]
theorem has_row {w : World} {b o k n : Nat} (h : isRow w b n = true) (hk : o + k ≤ n) : hasRange w b o k = true := by
  obtain ⟨C, t, h1, h2⟩ := isRow_has h
  unfold hasRange
  rw [List.all_eq_true]
  intro j hj
  have hj' := List.mem_range.1 hj
  rw [cell_of_row w b (o + j) C t (0, 0) h1, Array.getElem?_eq_getElem (by omega)]
  rfl
@[go_sem] theorem isRow_new (w : World) (C : Array Value) (t : TypeId) (g n : Nat) (hg : g = w.heap.size) (h : C.size = n) : isRow (w.alloc (.cells C t)) g n = true := by
  subst hg
  unfold isRow
  rw [heap_alloc_last]
  simp [h]
@[go_sem] theorem isRow_old (w : World) (ob : Obj) (b n : Nat) (hb : b < w.heap.size) : isRow (w.alloc ob) b n = isRow w b n := isRow_of (Below.heap_alloc w ob b hb)
@[go_sem] theorem isRow_drewN (w : World) (k b n : Nat) : isRow (w.drewN k) b n = isRow w b n := Eq.trans rfl rfl
@[go_sem] theorem isRow_drew (w : World) (b n : Nat) : isRow w.drew b n = isRow w b n := Eq.trans rfl rfl
theorem setCell_row {w : World} {a : Addr} {u : Value} {C : Array Value} {t : TypeId} (ha : a.spot = none) (h : w.heap[a.block]? = some (.cells C t (0, 0))) : (w.setCell a u).heap[a.block]? = some (.cells (C.setIfInBounds a.off u) t (0, 0)) := by
  have hlt : a.block < w.heap.size := (Array.getElem?_eq_some_iff.1 h).1
  have hv : w.heap[a.block] = .cells C t (0, 0) := (Array.getElem?_eq_some_iff.1 h).2
  unfold World.setCell
  rw [Array.getElem?_eq_getElem (by simpa using hlt), Array.getElem_modify]
  simp [hv, ha]
@[go_sem] theorem isRow_setCell (w : World) (c o : Nat) (u : Value) (b n : Nat) (h : isRow w b n = true) : isRow (w.setCell ⟨c, o, none⟩ u) b n = true := by
  by_cases hb : b = c
  · subst hb
    obtain ⟨C, t, h1, h2⟩ := isRow_has h
    have := setCell_row (a := ⟨b, o, none⟩) (u := u) rfl h1
    unfold isRow
    rw [this]
    simp [h2]
  · rw [isRow_of (Below.heap_setCell w ⟨c, o, none⟩ u b hb), h]
@[go_sem] theorem range_setCell_far (w : World) (c p : Nat) (u : Value) (b o n : Nat) (h : b ≠ c) : rangeOf (w.setCell ⟨c, p, none⟩ u) b o n = rangeOf w b o n := range_of (Below.heap_setCell w ⟨c, p, none⟩ u b h)
@[go_sem] theorem has_setCell_far (w : World) (c p : Nat) (u : Value) (b o n : Nat) (h : b ≠ c) : hasRange (w.setCell ⟨c, p, none⟩ u) b o n = hasRange w b o n := has_of (Below.heap_setCell w ⟨c, p, none⟩ u b h)
theorem cell_setCell_off (w : World) (b p o : Nat) (u : Value) (h : o ≠ p) : (w.setCell ⟨b, p, none⟩ u).cell? ⟨b, o, none⟩ = w.cell? ⟨b, o, none⟩ := by
  simp only [World.cell?, World.setCell, Array.getElem?_modify, if_true]
  cases w.heap[b]? with
  | none => rfl
  | some ob =>
    cases ob with
    | cells C t fr => simp [Array.getElem?_setIfInBounds_ne (Ne.symm h)]
    | _ => rfl
theorem cell_setCell_here {w : World} {b n p : Nat} {u : Value} (h : isRow w b n = true) (hp : p < n) : (w.setCell ⟨b, p, none⟩ u).cell? ⟨b, p, none⟩ = some u := by
  obtain ⟨C, t, h1, h2⟩ := isRow_has h
  have := setCell_row (a := ⟨b, p, none⟩) (u := u) rfl h1
  rw [cell_of_row _ _ _ _ _ _ this, Array.getElem?_setIfInBounds_self_of_lt (by show p < C.size; omega)]
theorem range_setCell_off (w : World) (b p o n : Nat) (u : Value) (h : p < o ∨ o + n ≤ p) : rangeOf (w.setCell ⟨b, p, none⟩ u) b o n = rangeOf w b o n := by
  unfold rangeOf
  congr 1
  apply List.map_congr_left
  intro j hj
  have := List.mem_range.1 hj
  rw [cell_setCell_off _ _ _ _ _ (by omega)]
theorem frozen_row {w : World} {b n : Nat} (h : isRow w b n = true) (o : Nat) : w.frozen? ⟨b, o, none⟩ = false := by
  obtain ⟨C, t, h1, h2⟩ := isRow_has h
  simp [World.frozen?, h1]
@[go_sem] theorem isRow_setRow (w : World) (C : Array Value) (b n : Nat) (h : isRow w b n = true) (hC : C.size = n) : isRow (w.setRow b C) b n = true := by
  obtain ⟨D, t, h1, h2⟩ := isRow_has h
  unfold isRow
  rw [setRow_heap w b D C t _ h1]
  simp [hC]
@[go_sem] theorem isRow_setRow_far (w : World) (C : Array Value) (b c n : Nat) (h : c ≠ b) : isRow (w.setRow b C) c n = isRow w c n := isRow_of (setRow_other w b c C h)
@[go_sem] theorem range_setRow_far (w : World) (C : Array Value) (b c o n : Nat) (h : c ≠ b) : rangeOf (w.setRow b C) c o n = rangeOf w c o n := range_of (setRow_other w b c C h)
@[go_sem] theorem has_setRow_far (w : World) (C : Array Value) (b c o n : Nat) (h : c ≠ b) : hasRange (w.setRow b C) c o n = hasRange w c o n := has_of (setRow_other w b c C h)
theorem cell_setRow {w : World} {b n : Nat} (h : isRow w b n = true) (C : Array Value) (j : Nat) : (w.setRow b C).cell? ⟨b, j, none⟩ = C[j]? := by
  obtain ⟨D, t, h1, h2⟩ := isRow_has h
  exact cell_setRow_same w b j D C t _ h1
theorem cell_setRow_n {n : Nat} (w : World) (C : Array Value) (b j : Nat) (h : isRow w b n = true) : (w.setRow b C).cell? ⟨b, j, none⟩ = C[j]? := cell_setRow h C j
theorem range_setRow {w : World} {b n o k : Nat} (h : isRow w b n = true) (C : Array Value) (hk : o + k ≤ C.size) : rangeOf (w.setRow b C) b o k = C.extract o (o + k) := by
  apply Array.ext_getElem?
  intro j
  by_cases hj : j < k
  · rw [Array.getElem?_extract, if_pos (by omega)]
    simp only [rangeOf, List.getElem?_toArray, List.getElem?_map, List.getElem?_range hj, Option.map_some]
    rw [cell_setRow h, Array.getElem?_eq_getElem (by omega)]
    rfl
  · rw [Array.getElem?_eq_none (by rw [size_rangeOf]; omega), Array.getElem?_eq_none (by simp; omega)]
/-- What is loaded whole behind a whole store. -/
theorem range_setRow_all {w : World} {b n : Nat} (h : isRow w b n = true) (C : Array Value) (hC : C.size = n) : rangeOf (w.setRow b C) b 0 n = C := by
  rw [range_setRow h C (by omega)]
  subst hC
  simp
theorem rangeOf_get {w : World} {b o n j : Nat} {v : Value} (hj : j < n) (h : w.cell? ⟨b, o + j, none⟩ = some v) : (rangeOf w b o n)[j]? = some v := by
  simp [rangeOf, hj, h]
theorem rangeOf_extract (w : World) (b o n i j : Nat) (h : j ≤ n) : (rangeOf w b o n).extract i j = rangeOf w b (o + i) (j - i) := by
  apply Array.ext_getElem?
  intro q
  rw [Array.getElem?_extract]
  by_cases hq : q < j - i
  · rw [if_pos (by rw [size_rangeOf]; omega)]
    simp [rangeOf, hq, show i + q < n by omega, Nat.add_assoc]
  · rw [if_neg (by rw [size_rangeOf]; omega), Array.getElem?_eq_none (by rw [size_rangeOf]; omega)]
theorem below_setRow {B : Nat} {a w : World} (h : Below B a w) {b : Nat} (hb : B ≤ b) (C : Array Value) : Below B a (w.setRow b C) :=
  h.trans ⟨rfl, rfl, rfl, by simp, fun k hk => setRow_other _ _ _ _ (by omega)⟩
theorem grown_of {w w' : World} {row : Option Nat} (hg : w.grownBy w' row) {b : Nat} (hb : b < w.heap.size) (hr : some b ≠ row) (o n : Nat) : rangeOf w' b o n = rangeOf w b o n ∧ hasRange w' b o n = hasRange w b o n ∧ isRow w' b n = isRow w b n :=
  ⟨range_of (hg.block b hb hr), has_of (hg.block b hb hr), isRow_of (hg.block b hb hr)⟩
section
variable {P : Program}
theorem store_slot {t : TypeId} (hn : (P.info? t).map (·.size) = some 1) (w : World) (b o n : Nat) (v : Value) (h : isRow w b n = true) (ho : o < n) (hv : v.cells = #[v]) (h1v : v.oneCell' = true) :
    (storeVar t ⟨b, o, none⟩ v).run P w = .ok () (w.setCell ⟨b, o, none⟩ v) := by
  have hz : (Go.sizeOf t).run P w = .ok 1 w := by
    cases hq : P.info? t with
    | none => simp [hq] at hn
    | some i =>
      simp [hq] at hn
      simp [Go.sizeOf, typeInfo, hq, hn]
  obtain ⟨C, e, h1, h2⟩ := isRow_has h
  have hc : w.cell? ⟨b, o, none⟩ = some C[o] := by rw [cell_of_row _ _ _ _ _ _ h1, Array.getElem?_eq_getElem (by omega)]
  have hf := frozen_row h o
  rw [storeVar_one w t _ v hz hv]
  rw [run_store P w _ v _ h1v]
  simp [stored, hc, hf]
theorem store_row {t : TypeId} (n : Nat) (hn : (P.info? t).map (·.size) = some n) (w : World) (b : Nat) (C : Array Value) (h : isRow w b n = true) (h2 : C.size = n) (h3 : ones C = true) :
    (storeVar t ⟨b, 0, none⟩ (.agg C)).run P w = .ok () (w.setRow b C) := by
  obtain ⟨D, e, h1, h4⟩ := isRow_has h
  exact run_storeVar_row w b e t D C h1 (by rw [hn, h2]) (by omega) h3
end
end Go.Ranges
