/- Arrays of bytes as values: '==' of two, as one Bool. Whatever program. Whole arrays and structs out of and into blocks, with no unrolling. Whatever program. Blocks of cells that are written whole: what holds of them behind each step. Whatever program. -/
import Derived.ChangeKeysEq
import Derived.Laws.StructEq
import Derived.Deep.MidRow
import Derived.Deep.WholeRow
import Derived.Below
import Derived.Deep.Draws
import Derived.Laws.Tables
import Derived.Deep.AppendLies
namespace Go.ArrEq

set_option linter.unusedVariables false
set_option linter.unusedSimpArgs false
/-- A byte. -/
def isU8 : Value → Bool
  | .int .u8 _ => true
  | _ => false
def numOf : Value → Int
  | .int _ n => n
  | _ => 0
/-- So many bytes. -/
def u8s (n : Nat) (xs : Array Value) : Bool := xs.size == n && xs.all isU8
/-- Are two rows of bytes the same? -/
def arrEq (n : Nat) (xs ys : Array Value) : Bool := (List.range n).all fun j => numOf (xs[j]?.getD .nilIface) == numOf (ys[j]?.getD .nilIface)
section
variable {P : Program} (w : World)
theorem u8s_at {n : Nat} {xs : Array Value} (h : u8s n xs = true) {j : Nat} (hj : j < n) : xs[j]? = some (.int .u8 (numOf (xs[j]?.getD .nilIface))) := by
  simp only [u8s, Bool.and_eq_true, beq_iff_eq] at h
  have hj' : j < xs.size := by omega
  have h1 := Array.all_eq_true.1 h.2 j hj'
  rw [Array.getElem?_eq_getElem hj'] 
  simp only [Option.getD_some]
  revert h1
  generalize xs[j] = v
  intro h1
  unfold isU8 at h1
  split at h1
  · rfl
  · cases h1
theorem run_eqItems_bytes {d : Nat} {e : TypeId} (he : P.underlying e = some (.int .u8)) (hp : P.plainKey e = true) {xs ys : Array Value} {n : Nat} (hx : u8s n xs = true) (hy : u8s n ys = true) :
    ∀ is : List Nat, (∀ j ∈ is, j < n) → (Op.eqItems (d + 1) e 1 xs ys is).run P w = .ok (is.all fun j => numOf (xs[j]?.getD .nilIface) == numOf (ys[j]?.getD .nilIface)) w
  | [], _ => by simp [Op.eqItems]
  | i :: is, hi => by
    have h1 := run_part_plain (w := w) hp (xs := xs) (off := i * 1) (by rw [Nat.mul_one]; exact u8s_at hx (hi i (by simp)))
    have h2 := run_part_plain (w := w) hp (xs := ys) (off := i * 1) (by rw [Nat.mul_one]; exact u8s_at hy (hi i (by simp)))
    have h3 := run_eqItems_bytes (d := d) he hp hx hy is (fun j hj => hi j (by simp [hj]))
    have h4 := run_equalIn_int (P := P) (w := w) d e .u8 .u8 (numOf (xs[i]?.getD .nilIface)) (numOf (ys[i]?.getD .nilIface)) he
    simp only [Op.eqItems, Sem.run_bind, h1, h2, h4, Result.andThen_ok, List.all_cons]
    cases (numOf (xs[i]?.getD .nilIface) == numOf (ys[i]?.getD .nilIface))
    · simp
    · simpa using h3
theorem run_equalIn_bytes {d : Nat} {t e : TypeId} {n : Nat} {i : TypeInfo} (hu : P.underlying t = some (.array n e)) (hi : P.info? e = some i) (he : P.underlying e = some (.int .u8)) (hc : P.cellsOf e = 1) (hp : P.plainKey e = true)
    {xs ys : Array Value} (hx : u8s n xs = true) (hy : u8s n ys = true) : (Op.equalIn (d + 2) t (.agg xs) (.agg ys)).run P w = .ok (arrEq n xs ys) w := by
  rw [run_equalIn_array w (d + 1) xs ys hu hi, hc]
  exact run_eqItems_bytes w he hp hx hy _ (fun j hj => List.mem_range.1 hj)
theorem run_eql_bytes {t e : TypeId} {n : Nat} {i : TypeInfo} (hu : P.underlying t = some (.array n e)) (hi : P.info? e = some i) (he : P.underlying e = some (.int .u8)) (hc : P.cellsOf e = 1) (hp : P.plainKey e = true)
    {xs ys : Array Value} (hx : u8s n xs = true) (hy : u8s n ys = true) : (binOp .eql t (.agg xs) (.agg ys)).run P w = .ok (.bool (arrEq n xs ys)) w := by
  rw [run_eql_struct, run_equalIn_bytes (d := 9998) w hu hi he hc hp hx hy]
  rfl
/-- A struct of a text and an id, as a value. -/
def isEnt (xs : Array Value) : Bool := (match xs[0]? with | some (Value.string _) => true | _ => false) && u8s 32 (xs.extract 1 33)
def textOf (xs : Array Value) : ByteArray := match xs[0]? with | some (Value.string s) => s | _ => ⟨#[]⟩
def entEq (xs ys : Array Value) : Bool := (textOf xs).toList == (textOf ys).toList && arrEq 32 (xs.extract 1 33) (ys.extract 1 33)
theorem ent_text {xs : Array Value} (h : isEnt xs = true) : xs[0]? = some (.string (textOf xs)) := by
  unfold isEnt at h
  unfold textOf
  rw [Bool.and_eq_true] at h
  revert h
  rcases xs[0]? with _ | v
  · intro h; exact absurd h.1 (by simp)
  · cases v <;> intro h <;> first | rfl | exact absurd h.1 (by simp)
theorem run_equalIn_ent {d : Nat} {t ts ta e : TypeId} {f0 f1 : Field} {i ia : TypeInfo} (hst : P.underlying t = some (.struct #[f0, f1])) (hp : P.stoodInHeld t = false)
    (n0 : f0.name ≠ "_") (n1 : f1.name ≠ "_") (o0 : f0.offset = 0) (o1 : f1.offset = 1) (t0 : f0.type = ts) (t1 : f1.type = ta) (hs : P.underlying ts = some .string)
    (hu : P.underlying ta = some (.array 32 e)) (hia : P.info? ta = some ia) (hca : P.cellsOf ta = 32) (hi : P.info? e = some i) (he : P.underlying e = some (.int .u8)) (hc : P.cellsOf e = 1) (hpe : P.plainKey e = true)
    {xs ys : Array Value} (hx : isEnt xs = true) (hy : isEnt ys = true) : (Op.equalIn (d + 3) t (.agg xs) (.agg ys)).run P w = .ok (entEq xs ys) w := by
  have hf : P.fieldsOf t = #[f0, f1] := by simp [Program.fieldsOf, hst]
  have ht : P.underlying t = some (.struct (P.fieldsOf t)) := by rw [hf]; exact hst
  have ux : u8s 32 (xs.extract 1 33) = true := (Bool.and_eq_true_iff.1 hx).2
  have uy : u8s 32 (ys.extract 1 33) = true := (Bool.and_eq_true_iff.1 hy).2
  have tx := ent_text hx
  have ty := ent_text hy
  have pa : ∀ zs : Array Value, (part ta zs 1).run P w = .ok (.agg (zs.extract 1 33)) w := fun zs => by
    simp [part, isAgg, Sem.run_bind, run_underlying hu, run_sizeOf w hia, hca]
  have ps : ∀ (zs : Array Value) (s : ByteArray), zs[0]? = some (.string s) → (part ts zs 0).run P w = .ok (.string s) w := fun zs s h => by
    simp [part, isAgg, Sem.run_bind, run_underlying hs, h]
  have h1 := run_equalIn_bytes w (d := d) hu hi he hc hpe ux uy
  have h0 := run_equalIn_string (P := P) (w := w) (d + 1) ts (textOf xs) (textOf ys) hs
  rw [run_equalIn_struct w (d + 2) t xs ys ht hp, hf]
  simp only [List.toList_toArray, Op.eqFields, if_pos n0, if_pos n1, Sem.run_bind, t0, t1, o0, o1, pa, ps _ _ tx, ps _ _ ty, Result.andThen_ok, h0, h1, Sem.run_pure]
  unfold entEq
  cases ((textOf xs).toList == (textOf ys).toList)
  · simp
  · simp only [Bool.true_and]
    simp [Op.eqFields, n1, o1, t1, pa, h1]
    cases (arrEq 32 (xs.extract 1 33) (ys.extract 1 33)) <;> simp
end
end Go.ArrEq

namespace Go.Ranges
set_option linter.unusedVariables false
set_option linter.unusedSimpArgs false
/-- So many cells of a block, from a place on. -/
def rangeOf (w : World) (b o n : Nat) : Array Value := ((List.range n).map fun j => (w.cell? ⟨b, o + j, none⟩).getD .nilIface).toArray
/-- Are they there? -/
def hasRange (w : World) (b o n : Nat) : Bool := (List.range n).all fun j => (w.cell? ⟨b, o + j, none⟩).isSome
/-- Is each value one cell? -/
def ones (C : Array Value) : Bool := C.all fun x => x.oneCell'
theorem has_at {w : World} {b o n j : Nat} (h : hasRange w b o n = true) (hj : j < n) : ∃ v, w.cell? ⟨b, o + j, none⟩ = some v := by
  have := List.all_eq_true.1 h j (List.mem_range.2 hj)
  exact Option.isSome_iff_exists.1 this
theorem rangeOf_at {w : World} {b o n : Nat} (h : hasRange w b o n = true) : w.rangeAt b o (rangeOf w b o n).toList := by
  intro j v hv
  have hj : j < n := by
    have := (List.getElem?_eq_some_iff.1 hv).1
    simpa [rangeOf] using this
  obtain ⟨u, hu⟩ := has_at h hj
  rw [hu]
  simp [rangeOf, hj, hu] at hv
  rw [hv]
theorem size_rangeOf (w : World) (b o n : Nat) : (rangeOf w b o n).size = n := by simp [rangeOf]
@[go_sem] theorem has_new (w : World) (C : Array Value) (t : TypeId) (fr : Nat × Nat) (g o n : Nat) (hg : g = w.heap.size) (h : o + n ≤ C.size) : hasRange (w.alloc (.cells C t fr)) g o n = true := by
  subst hg
  unfold hasRange
  rw [List.all_eq_true]
  intro j hj
  have hj' := List.mem_range.1 hj
  rw [cell_of_row _ _ (o + j) C t fr (heap_alloc_last w _), Array.getElem?_eq_getElem (by omega)]
  rfl
@[go_sem] theorem has_old (w : World) (ob : Obj) (b o n : Nat) (hb : b < w.heap.size) : hasRange (w.alloc ob) b o n = hasRange w b o n := by
  unfold hasRange
  congr 1
  funext j
  rw [World.cell?_alloc_lt w ob ⟨b, o + j, none⟩ hb]
@[go_sem] theorem range_new (w : World) (C : Array Value) (t : TypeId) (fr : Nat × Nat) (g o n : Nat) (hg : g = w.heap.size) (h : o + n ≤ C.size) : rangeOf (w.alloc (.cells C t fr)) g o n = C.extract o (o + n) := by
  subst hg
  apply Array.ext_getElem?
  intro j
  by_cases hj : j < n
  · have e : (C.extract o (o + n))[j]? = C[o + j]? := by
      rw [Array.getElem?_extract]
      simp only [show j < min (o + n) C.size - o by omega, if_true]
    rw [e]
    simp only [rangeOf, List.getElem?_toArray, List.getElem?_map, List.getElem?_range hj, Option.map_some]
    rw [cell_of_row _ _ (o + j) C t fr (heap_alloc_last w _), Array.getElem?_eq_getElem (by omega)]
    rfl
  · rw [Array.getElem?_eq_none (by rw [size_rangeOf]; omega), Array.getElem?_eq_none (by simp; omega)]
@[go_sem] theorem range_old (w : World) (ob : Obj) (b o n : Nat) (hb : b < w.heap.size) : rangeOf (w.alloc ob) b o n = rangeOf w b o n := by
  unfold rangeOf
  congr 2
  funext j
  rw [World.cell?_alloc_lt w ob ⟨b, o + j, none⟩ hb]
@[go_sem] theorem has_drewN (w : World) (k b o n : Nat) : hasRange (w.drewN k) b o n = hasRange w b o n := Eq.trans rfl rfl
@[go_sem] theorem range_drewN (w : World) (k b o n : Nat) : rangeOf (w.drewN k) b o n = rangeOf w b o n := Eq.trans rfl rfl
@[go_sem] theorem has_drew (w : World) (b o n : Nat) : hasRange w.drew b o n = hasRange w b o n := Eq.trans rfl rfl
@[go_sem] theorem range_drew (w : World) (b o n : Nat) : rangeOf w.drew b o n = rangeOf w b o n := Eq.trans rfl rfl
theorem range_below {W w : World} (hb : RowKit.Below W.heap.size W w) (b o n : Nat) (h : b < W.heap.size) : rangeOf w b o n = rangeOf W b o n ∧ hasRange w b o n = hasRange W b o n := by
  constructor
  · unfold rangeOf
    congr 2
    funext j
    rw [hb.cell (p := ⟨b, o + j, none⟩) h]
  · unfold hasRange
    congr 1
    funext j
    rw [hb.cell (p := ⟨b, o + j, none⟩) h]
section
variable {P : Program}
theorem cells_range (w : World) (b o n : Nat) (h : hasRange w b o n = true) : (loadCellsFrom ⟨b, o, none⟩ 0 n #[]).run P w = .ok (rangeOf w b o n) w := by
  have := run_loadCells_list (P := P) w ⟨b, o, none⟩ (rangeOf w b o n).toList (fun j v hv => by rw [Addr.add_mid]; exact rangeOf_at h j v hv)
  simpa [loadCells, size_rangeOf] using this
theorem loadVar_one (w : World) (t : TypeId) (a : Addr) (h : (isAgg t).run P w = .ok false w) : (loadVar t a).run P w = (load a).run P w := by
  simp [loadVar, Sem.run_bind, h]
theorem storeVar_one (w : World) (t : TypeId) (a : Addr) (v : Value) (h : (Go.sizeOf t).run P w = .ok 1 w) (hv : v.cells = #[v]) : (storeVar t a v).run P w = (store a v).run P w := by
  have ha : a.add 0 = a := rfl
  simp [storeVar, Sem.run_bind, h, hv, storeCells, ha]
theorem var_range {t : TypeId} {d : TypeDesc} (n : Nat) (hu : P.underlying t = some d) (hd : d.isRow = true) (hi : (P.info? t).map (·.size) = some n) (w : World) (b o : Nat) (h : hasRange w b o n = true) :
    (loadVar t ⟨b, o, none⟩).run P w = .ok (.agg (rangeOf w b o n)) w := by
  have := run_loadVar_mid (P := P) w b o t (rangeOf w b o n).toList d (rangeOf_at h) hu hd (by rw [hi, Array.length_toList, size_rangeOf])
  simpa using this
theorem var_new {t e : TypeId} (n : Nat) (hn : (P.info? t).map (·.size) = some n) (w : World) (C C' : Array Value) (g : Nat) (hg : g = w.heap.size) (h1 : C.size = n) (h2 : C'.size = n) (h3 : ones C' = true) :
    (storeVar t ⟨g, 0, none⟩ (.agg C')).run P (w.alloc (.cells C e)) = .ok () (w.alloc (.cells C' e)) := by
  subst hg
  rw [run_storeVar_row _ _ e t C C' (heap_alloc_last w _) (by rw [hn, h2]) (by omega) h3, World.setRow_alloc_new]
theorem load_range {t : TypeId} {d : TypeDesc} (n : Nat) (hu : P.underlying t = some d) (hd : d.isRow = true) (hi : (P.info? t).map (·.size) = some n) (w : World) (b o : Nat) (h : hasRange w b o n = true) :
    (Instr.loadAt t (.pointer (some ⟨b, o, none⟩))).run P w = .ok (.agg (rangeOf w b o n)) w := by
  have := run_loadAt_mid (P := P) w b o t (rangeOf w b o n).toList d (rangeOf_at h) hu hd (by rw [hi, Array.length_toList, size_rangeOf])
  simpa using this
theorem store_new {t e : TypeId} (n : Nat) (hn : (P.info? t).map (·.size) = some n) (w : World) (C C' : Array Value) (g : Nat) (hg : g = w.heap.size) (h1 : C.size = n) (h2 : C'.size = n) (h3 : C'.all (·.oneCell') = true) :
    (Instr.storeAt t (.pointer (some ⟨g, 0, none⟩)) (.agg C')).run P (w.alloc (.cells C e)) = .ok () (w.alloc (.cells C' e)) := by
  subst hg
  simp only [Instr.storeAt, Instr.sureAddr, Sem.run_bind, Sem.run_pure, Result.andThen]
  rw [run_storeVar_row _ _ e t C C' (heap_alloc_last w _) (by rw [hn, h2]) (by omega) h3, World.setRow_alloc_new]
end
end Go.Ranges

namespace Go.Ranges
open Go.RowKit
set_option linter.unusedVariables false
set_option linter.unusedSimpArgs false
/-- Is block b a row of n cells, none of them frozen? -/
def isRow (w : World) (b n : Nat) : Bool := match w.heap[b]? with
  | some (.cells C _ fr) => C.size == n && fr == (0, 0)
  | _ => false
theorem isRow_has {w : World} {b n : Nat} (h : isRow w b n = true) : ∃ C t, w.heap[b]? = some (.cells C t (0, 0)) ∧ C.size = n := by
  unfold isRow at h
  split at h
  · rename_i C t fr e
    simp only [Bool.and_eq_true, beq_iff_eq] at h
    obtain ⟨h1, h2⟩ := h
    subst h2
    exact ⟨C, t, e, h1⟩
  · exact absurd h (by decide)
theorem isRow_lt {w : World} {b n : Nat} (h : isRow w b n = true) : b < w.heap.size := by
  obtain ⟨C, t, h1, _⟩ := isRow_has h
  exact (Array.getElem?_eq_some_iff.1 h1).1
theorem isRow_of {w w' : World} {b n : Nat} (h : w'.heap[b]? = w.heap[b]?) : isRow w' b n = isRow w b n := by simp [isRow, h]
theorem range_of {w w' : World} {b o n : Nat} (h : w'.heap[b]? = w.heap[b]?) : rangeOf w' b o n = rangeOf w b o n := by
  unfold rangeOf
  congr 2
  funext j
  rw [World.cell?_of_block (w := w) (a := ⟨b, o + j, none⟩) h]
theorem has_of {w w' : World} {b o n : Nat} (h : w'.heap[b]? = w.heap[b]?) : hasRange w' b o n = hasRange w b o n := by
  unfold hasRange
  congr 1
  funext j
  rw [World.cell?_of_block (w := w) (a := ⟨b, o + j, none⟩) h]
theorem has_row {w : World} {b o k n : Nat} (h : isRow w b n = true) (hk : o + k ≤ n) : hasRange w b o k = true := by
  obtain ⟨C, t, h1, h2⟩ := isRow_has h
  unfold hasRange
  rw [List.all_eq_true]
  intro j hj
  have hj' := List.mem_range.1 hj
  rw [cell_of_row w b (o + j) C t (0, 0) h1, Array.getElem?_eq_getElem (by omega)]
  rfl
@[go_sem] theorem isRow_new (w : World) (C : Array Value) (t : TypeId) (g n : Nat) (hg : g = w.heap.size) (h : C.size = n) : isRow (w.alloc (.cells C t)) g n = true := by
  subst hg
  unfold isRow
  rw [heap_alloc_last]
  simp [h]
@[go_sem] theorem isRow_old (w : World) (ob : Obj) (b n : Nat) (hb : b < w.heap.size) : isRow (w.alloc ob) b n = isRow w b n := isRow_of (Below.heap_alloc w ob b hb)
@[go_sem] theorem isRow_drewN (w : World) (k b n : Nat) : isRow (w.drewN k) b n = isRow w b n := Eq.trans rfl rfl
@[go_sem] theorem isRow_drew (w : World) (b n : Nat) : isRow w.drew b n = isRow w b n := Eq.trans rfl rfl
theorem setCell_row {w : World} {a : Addr} {u : Value} {C : Array Value} {t : TypeId} (ha : a.spot = none) (h : w.heap[a.block]? = some (.cells C t (0, 0))) : (w.setCell a u).heap[a.block]? = some (.cells (C.setIfInBounds a.off u) t (0, 0)) := by
  have hlt : a.block < w.heap.size := (Array.getElem?_eq_some_iff.1 h).1
  have hv : w.heap[a.block] = .cells C t (0, 0) := (Array.getElem?_eq_some_iff.1 h).2
  unfold World.setCell
  rw [Array.getElem?_eq_getElem (by simpa using hlt), Array.getElem_modify]
  simp [hv, ha]
@[go_sem] theorem isRow_setCell (w : World) (c o : Nat) (u : Value) (b n : Nat) (h : isRow w b n = true) : isRow (w.setCell ⟨c, o, none⟩ u) b n = true := by
  by_cases hb : b = c
  · subst hb
    obtain ⟨C, t, h1, h2⟩ := isRow_has h
    have := setCell_row (a := ⟨b, o, none⟩) (u := u) rfl h1
    unfold isRow
    rw [this]
    simp [h2]
  · rw [isRow_of (Below.heap_setCell w ⟨c, o, none⟩ u b hb), h]
@[go_sem] theorem range_setCell_far (w : World) (c p : Nat) (u : Value) (b o n : Nat) (h : b ≠ c) : rangeOf (w.setCell ⟨c, p, none⟩ u) b o n = rangeOf w b o n := range_of (Below.heap_setCell w ⟨c, p, none⟩ u b h)
@[go_sem] theorem has_setCell_far (w : World) (c p : Nat) (u : Value) (b o n : Nat) (h : b ≠ c) : hasRange (w.setCell ⟨c, p, none⟩ u) b o n = hasRange w b o n := has_of (Below.heap_setCell w ⟨c, p, none⟩ u b h)
theorem cell_setCell_off (w : World) (b p o : Nat) (u : Value) (h : o ≠ p) : (w.setCell ⟨b, p, none⟩ u).cell? ⟨b, o, none⟩ = w.cell? ⟨b, o, none⟩ := by
  simp only [World.cell?, World.setCell, Array.getElem?_modify, if_true]
  cases w.heap[b]? with
  | none => rfl
  | some ob =>
    cases ob with
    | cells C t fr => simp [Array.getElem?_setIfInBounds_ne (Ne.symm h)]
    | _ => rfl
theorem cell_setCell_here {w : World} {b n p : Nat} {u : Value} (h : isRow w b n = true) (hp : p < n) : (w.setCell ⟨b, p, none⟩ u).cell? ⟨b, p, none⟩ = some u := by
  obtain ⟨C, t, h1, h2⟩ := isRow_has h
  have := setCell_row (a := ⟨b, p, none⟩) (u := u) rfl h1
  rw [cell_of_row _ _ _ _ _ _ this, Array.getElem?_setIfInBounds_self_of_lt (by show p < C.size; omega)]
theorem range_setCell_off (w : World) (b p o n : Nat) (u : Value) (h : p < o ∨ o + n ≤ p) : rangeOf (w.setCell ⟨b, p, none⟩ u) b o n = rangeOf w b o n := by
  unfold rangeOf
  congr 1
  apply List.map_congr_left
  intro j hj
  have := List.mem_range.1 hj
  rw [cell_setCell_off _ _ _ _ _ (by omega)]
theorem frozen_row {w : World} {b n : Nat} (h : isRow w b n = true) (o : Nat) : w.frozen? ⟨b, o, none⟩ = false := by
  obtain ⟨C, t, h1, h2⟩ := isRow_has h
  simp [World.frozen?, h1]
@[go_sem] theorem isRow_setRow (w : World) (C : Array Value) (b n : Nat) (h : isRow w b n = true) (hC : C.size = n) : isRow (w.setRow b C) b n = true := by
  obtain ⟨D, t, h1, h2⟩ := isRow_has h
  unfold isRow
  rw [setRow_heap w b D C t _ h1]
  simp [hC]
@[go_sem] theorem isRow_setRow_far (w : World) (C : Array Value) (b c n : Nat) (h : c ≠ b) : isRow (w.setRow b C) c n = isRow w c n := isRow_of (setRow_other w b c C h)
@[go_sem] theorem range_setRow_far (w : World) (C : Array Value) (b c o n : Nat) (h : c ≠ b) : rangeOf (w.setRow b C) c o n = rangeOf w c o n := range_of (setRow_other w b c C h)
@[go_sem] theorem has_setRow_far (w : World) (C : Array Value) (b c o n : Nat) (h : c ≠ b) : hasRange (w.setRow b C) c o n = hasRange w c o n := has_of (setRow_other w b c C h)
theorem cell_setRow {w : World} {b n : Nat} (h : isRow w b n = true) (C : Array Value) (j : Nat) : (w.setRow b C).cell? ⟨b, j, none⟩ = C[j]? := by
  obtain ⟨D, t, h1, h2⟩ := isRow_has h
  exact cell_setRow_same w b j D C t _ h1
theorem cell_setRow_n {n : Nat} (w : World) (C : Array Value) (b j : Nat) (h : isRow w b n = true) : (w.setRow b C).cell? ⟨b, j, none⟩ = C[j]? := cell_setRow h C j
theorem range_setRow {w : World} {b n o k : Nat} (h : isRow w b n = true) (C : Array Value) (hk : o + k ≤ C.size) : rangeOf (w.setRow b C) b o k = C.extract o (o + k) := by
  apply Array.ext_getElem?
  intro j
  by_cases hj : j < k
  · rw [Array.getElem?_extract, if_pos (by omega)]
    simp only [rangeOf, List.getElem?_toArray, List.getElem?_map, List.getElem?_range hj, Option.map_some]
    rw [cell_setRow h, Array.getElem?_eq_getElem (by omega)]
    rfl
  · rw [Array.getElem?_eq_none (by rw [size_rangeOf]; omega), Array.getElem?_eq_none (by simp; omega)]
/-- What is loaded whole behind a whole store. -/
theorem range_setRow_all {w : World} {b n : Nat} (h : isRow w b n = true) (C : Array Value) (hC : C.size = n) : rangeOf (w.setRow b C) b 0 n = C := by
  rw [range_setRow h C (by omega)]
  subst hC
  simp
theorem rangeOf_get {w : World} {b o n j : Nat} {v : Value} (hj : j < n) (h : w.cell? ⟨b, o + j, none⟩ = some v) : (rangeOf w b o n)[j]? = some v := by
  simp [rangeOf, hj, h]
theorem rangeOf_extract (w : World) (b o n i j : Nat) (h : j ≤ n) : (rangeOf w b o n).extract i j = rangeOf w b (o + i) (j - i) := by
  apply Array.ext_getElem?
  intro q
  rw [Array.getElem?_extract]
  by_cases hq : q < j - i
  · rw [if_pos (by rw [size_rangeOf]; omega)]
    simp [rangeOf, hq, show i + q < n by omega, Nat.add_assoc]
  · rw [if_neg (by rw [size_rangeOf]; omega), Array.getElem?_eq_none (by rw [size_rangeOf]; omega)]
theorem below_setRow {B : Nat} {a w : World} (h : Below B a w) {b : Nat} (hb : B ≤ b) (C : Array Value) : Below B a (w.setRow b C) :=
  h.trans ⟨rfl, rfl, rfl, by simp, fun k hk => setRow_other _ _ _ _ (by omega)⟩
theorem grown_of {w w' : World} {row : Option Nat} (hg : w.grownBy w' row) {b : Nat} (hb : b < w.heap.size) (hr : some b ≠ row) (o n : Nat) : rangeOf w' b o n = rangeOf w b o n ∧ hasRange w' b o n = hasRange w b o n ∧ isRow w' b n = isRow w b n :=
  ⟨range_of (hg.block b hb hr), has_of (hg.block b hb hr), isRow_of (hg.block b hb hr)⟩
section
variable {P : Program}
theorem store_slot {t : TypeId} (hn : (P.info? t).map (·.size) = some 1) (w : World) (b o n : Nat) (v : Value) (h : isRow w b n = true) (ho : o < n) (hv : v.cells = #[v]) (h1v : v.oneCell' = true) :
    (storeVar t ⟨b, o, none⟩ v).run P w = .ok () (w.setCell ⟨b, o, none⟩ v) := by
  have hz : (Go.sizeOf t).run P w = .ok 1 w := by
    cases hq : P.info? t with
    | none => simp [hq] at hn
    | some i =>
      simp [hq] at hn
      simp [Go.sizeOf, typeInfo, hq, hn]
  obtain ⟨C, e, h1, h2⟩ := isRow_has h
  have hc : w.cell? ⟨b, o, none⟩ = some C[o] := by rw [cell_of_row _ _ _ _ _ _ h1, Array.getElem?_eq_getElem (by omega)]
  have hf := frozen_row h o
  rw [storeVar_one w t _ v hz hv]
  rw [run_store P w _ v _ h1v]
  simp [stored, hc, hf]
theorem store_row {t : TypeId} (n : Nat) (hn : (P.info? t).map (·.size) = some n) (w : World) (b : Nat) (C : Array Value) (h : isRow w b n = true) (h2 : C.size = n) (h3 : ones C = true) :
    (storeVar t ⟨b, 0, none⟩ (.agg C)).run P w = .ok () (w.setRow b C) := by
  obtain ⟨D, e, h1, h4⟩ := isRow_has h
  exact run_storeVar_row w b e t D C h1 (by rw [hn, h2]) (by omega) h3
end
end Go.Ranges
