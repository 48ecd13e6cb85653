/- Whole arrays and structs out of and into blocks, with no unrolling. Whatever program. -/
import Derived.Deep.MidRow
import Derived.Deep.WholeRow
import Derived.Below
import Derived.Deep.Draws
namespace Go.Ranges
set_option linter.unusedVariables false
set_option linter.unusedSimpArgs false
/-- So many cells of a block, from a place on. -/
def rangeOf (w : World) (b o n : Nat) : Array Value := ((List.range n).map fun j => (w.cell? ⟨b, o + j, none⟩).getD .nilIface).toArray
/-- Are they there? -/
def hasRange (w : World) (b o n : Nat) : Bool := (List.range n).all fun j => (w.cell? ⟨b, o + j, none⟩).isSome
/-- Is each value one cell? -/
def ones (C : Array Value) : Bool := C.all fun x => x.oneCell'
theorem has_at {w : World} {b o n j : Nat} (h : hasRange w b o n = true) (hj : j < n) : ∃ v, w.cell? ⟨b, o + j, none⟩ = some v := by
  have := List.all_eq_true.1 h j (List.mem_range.2 hj)
  exact Option.isSome_iff_exists.1 this
theorem rangeOf_at {w : World} {b o n : Nat} (h : hasRange w b o n = true) : w.rangeAt b o (rangeOf w b o n).toList := by
  intro j v hv
  have hj : j < n := by
    have := (List.getElem?_eq_some_iff.1 hv).1
    simpa [rangeOf] using this
  obtain ⟨u, hu⟩ := has_at h hj
  rw [hu]
  simp [rangeOf, hj, hu] at hv
  rw [hv]
theorem size_rangeOf (w : World) (b o n : Nat) : (rangeOf w b o n).size = n := by simp [rangeOf]
@[go_sem] theorem has_new (w : World) (C : Array Value) (t : TypeId) (fr : Nat × Nat) (g o n : Nat) (hg : g = w.heap.size) (h : o + n ≤ C.size) : hasRange (w.alloc (.cells C t fr)) g o n = true := by
  subst hg
  unfold hasRange
  rw [List.all_eq_true]
  intro j hj
  have hj' := List.mem_range.1 hj
  rw [cell_of_row _ _ (o + j) C t fr (heap_alloc_last w _), Array.getElem?_eq_getElem (by omega)]
  rfl
@[go_sem] theorem has_old (w : World) (ob : Obj) (b o n : Nat) (hb : b < w.heap.size) : hasRange (w.alloc ob) b o n = hasRange w b o n := by
  unfold hasRange
  congr 1
  funext j
  rw [World.cell?_alloc_lt w ob ⟨b, o + j, none⟩ hb]
@[go_sem] theorem range_new (w : World) (C : Array Value) (t : TypeId) (fr : Nat × Nat) (g o n : Nat) (hg : g = w.heap.size) (h : o + n ≤ C.size) : rangeOf (w.alloc (.cells C t fr)) g o n = C.extract o (o + n) := by
  subst hg
  apply Array.ext_getElem?
  intro j
  by_cases hj : j < n
  · have e : (C.extract o (o + n))[j]? = C[o + j]? := by
      rw [Array.getElem?_extract]
      simp only [show j < min (o + n) C.size - o by omega, if_true]
    rw [e]
    simp only [rangeOf, List.getElem?_toArray, List.getElem?_map, List.getElem?_range hj, Option.map_some]
    rw [cell_of_row _ _ (o + j) C t fr (heap_alloc_last w _), Array.getElem?_eq_getElem (by omega)]
    rfl
  · rw [Array.getElem?_eq_none (by rw [size_rangeOf]; omega), Array.getElem?_eq_none (by simp; omega)]
@[go_sem] theorem range_old (w : World) (ob : Obj) (b o n : Nat) (hb : b < w.heap.size) : rangeOf (w.alloc ob) b o n = rangeOf w b o n := by
  unfold rangeOf
  congr 2
  funext j
  rw [World.cell?_alloc_lt w ob ⟨b, o + j, none⟩ hb]
@[go_sem] theorem has_drewN (w : World) (k b o n : Nat) : hasRange (w.drewN k) b o n = hasRange w b o n := Eq.trans rfl rfl
@[go_sem] theorem range_drewN (w : World) (k b o n : Nat) : rangeOf (w.drewN k) b o n = rangeOf w b o n := Eq.trans rfl rfl
@[go_sem] theorem has_drew (w : World) (b o n : Nat) : hasRange w.drew b o n = hasRange w b o n := Eq.trans rfl rfl
@[go_sem] theorem range_drew (w : World) (b o n : Nat) : rangeOf w.drew b o n = rangeOf w b o n := Eq.trans rfl rfl
theorem range_below {W w : World} (hb : RowKit.Below W.heap.size W w) (b o n : Nat) (h : b < W.heap.size) : rangeOf w b o n = rangeOf W b o n ∧ hasRange w b o n = hasRange W b o n := by
  constructor
  · unfold rangeOf
    congr 2
    funext j
    rw [hb.cell (p := ⟨b, o + j, none⟩) h]
  · unfold hasRange
    congr 1
    funext j
    rw [hb.cell (p := ⟨b, o + j, none⟩) h]
section
variable {P : Program}
theorem cells_range (w : World) (b o n : Nat) (h : hasRange w b o n = true) : (loadCellsFrom ⟨b, o, none⟩ 0 n #[]).run P w = .ok (rangeOf w b o n) w := by
  have := run_loadCells_list (P := P) w ⟨b, o, none⟩ (rangeOf w b o n).toList (fun j v hv => by rw [Addr.add_mid]; exact rangeOf_at h j v hv)
  simpa [loadCells, size_rangeOf] using this
theorem loadVar_one (w : World) (t : TypeId) (a : Addr) (h : (isAgg t).run P w = .ok false w) : (loadVar t a).run P w = (load a).run P w := by
  simp [loadVar, Sem.run_bind, h]
theorem storeVar_one (w : World) (t : TypeId) (a : Addr) (v : Value) (h : (Go.sizeOf t).run P w = .ok 1 w) (hv : v.cells = #[v]) : (storeVar t a v).run P w = (store a v).run P w := by
  have ha : a.add 0 = a := rfl
  simp [storeVar, Sem.run_bind, h, hv, storeCells, ha]
theorem var_range {t : TypeId} {d : TypeDesc} (n : Nat) (hu : P.underlying t = some d) (hd : d.isRow = true) (hi : (P.info? t).map (·.size) = some n) (w : World) (b o : Nat) (h : hasRange w b o n = true) :
    (loadVar t ⟨b, o, none⟩).run P w = .ok (.agg (rangeOf w b o n)) w := by
  have := run_loadVar_mid (P := P) w b o t (rangeOf w b o n).toList d (rangeOf_at h) hu hd (by rw [hi, Array.length_toList, size_rangeOf])
  simpa using this
theorem var_new {t e : TypeId} (n : Nat) (hn : (P.info? t).map (·.size) = some n) (w : World) (C C' : Array Value) (g : Nat) (hg : g = w.heap.size) (h1 : C.size = n) (h2 : C'.size = n) (h3 : ones C' = true) :
    (storeVar t ⟨g, 0, none⟩ (.agg C')).run P (w.alloc (.cells C e)) = .ok () (w.alloc (.cells C' e)) := by
  subst hg
  rw [run_storeVar_row _ _ e t C C' (heap_alloc_last w _) (by rw [hn, h2]) (by omega) h3, World.setRow_alloc_new]
theorem load_range {t : TypeId} {d : TypeDesc} (n : Nat) (hu : P.underlying t = some d) (hd : d.isRow = true) (hi : (P.info? t).map (·.size) = some n) (w : World) (b o : Nat) (h : hasRange w b o n = true) :
    (Instr.loadAt t (.pointer (some ⟨b, o, none⟩))).run P w = .ok (.agg (rangeOf w b o n)) w := by
  have := run_loadAt_mid (P := P) w b o t (rangeOf w b o n).toList d (rangeOf_at h) hu hd (by rw [hi, Array.length_toList, size_rangeOf])
  simpa using this
theorem store_new {t e : TypeId} (n : Nat) (hn : (P.info? t).map (·.size) = some n) (w : World) (C C' : Array Value) (g : Nat) (hg : g = w.heap.size) (h1 : C.size = n) (h2 : C'.size = n) (h3 : C'.all (·.oneCell') = true) :
    (Instr.storeAt t (.pointer (some ⟨g, 0, none⟩)) (.agg C')).run P (w.alloc (.cells C e)) = .ok () (w.alloc (.cells C' e)) := by
  subst hg
  simp only [Instr.storeAt, Instr.sureAddr, Sem.run_bind, Sem.run_pure, Result.andThen]
  rw [run_storeVar_row _ _ e t C C' (heap_alloc_last w _) (by rw [hn, h2]) (by omega) h3, World.setRow_alloc_new]
end
end Go.Ranges
