/- Rules for composite literals of one entry, of one id, and for appending them. -/
import Derived.Test.YtdpiplllcinieaaDoorObjD
import Derived.Deep.AppendLies
import Derived.Test.YtdpiplllcinieaaDoorFill
import Derived.Test.YtdpiplllcinieaaDoorBlocks
namespace Go.Proofs.YtdpiplllcinieaaDoor
open Go.RowKit Go.Stop Go.Extern Go.Ranges
set_option linter.unusedVariables false
set_option linter.unusedSimpArgs false
attribute [-go_sem] loadVar storeVar
attribute [local go_sem] loadVar_one storeVar_one
theorem fill_all (T Z : Array Value) (h : T.size = Z.size) : T.zipIdx.foldl (fun cs (x : Value × Nat) => cs.setIfInBounds (0 + x.2) x.1) Z = T := by
  apply Array.ext_getElem?
  intro i
  rw [← Array.foldl_toList, Array.toList_zipIdx]
  rw [Fill.fill_get T.toList Z 0 0 i (by simp; omega)]
  by_cases hi : i < T.size
  · rw [if_pos (by simp; omega)]; simp
  · rw [if_neg (by simp; omega), Array.getElem?_eq_none (by omega), Array.getElem?_eq_none (by omega)]
theorem fill_arr (T Z : Array Value) (off i : Nat) (h : off + T.size ≤ Z.size) : (T.zipIdx.foldl (fun cs (x : Value × Nat) => cs.setIfInBounds (off + x.2) x.1) Z)[i]? = if off ≤ i ∧ i < off + T.size then T[i - off]? else Z[i]? := by
  have := Fill.fill_get T.toList Z off 0 i (by simpa using h)
  rw [← Array.foldl_toList, Array.toList_zipIdx]
  simpa using this
theorem fill_ent (X Z : Array Value) (hX : ArrEq.isEnt X = true) (hs : X.size = 33) (hZ : Z.size = 33) (h0 : Z[0]? = some (.string (ArrEq.textOf X))) : Array.foldl (fun cs (x : Value × Nat) => cs.setIfInBounds (1 + x.2) x.1) Z (X.extract 1 33).zipIdx 0 32 = X := by
  have e1 : (X.extract 1 33).size = 32 := by simp; omega
  have key := fun i => fill_arr (X.extract 1 33) Z 1 i (by omega)
  rw [e1] at key
  have e2 : Array.foldl (fun cs (x : Value × Nat) => cs.setIfInBounds (1 + x.2) x.1) Z (X.extract 1 33).zipIdx 0 32 = (X.extract 1 33).zipIdx.foldl (fun cs (x : Value × Nat) => cs.setIfInBounds (1 + x.2) x.1) Z := by
    simp only [Array.size_zipIdx, e1]
  rw [e2]
  apply Array.ext_getElem?
  intro i
  rw [key i]
  by_cases hi : 1 ≤ i ∧ i < 1 + 32
  · rw [if_pos hi, Array.getElem?_extract, if_pos (by omega), show 1 + (i - 1) = i by omega]
  · rw [if_neg hi]
    by_cases h : i = 0
    · subst h; rw [h0, ArrEq.ent_text hX]
    · rw [Array.getElem?_eq_none (by omega), Array.getElem?_eq_none (by omega)]
def zEnt : Array Value := #[.string ⟨#[]⟩] ++ zero32
theorem zEnt_size : zEnt.size = 33 := by simp [zEnt, zero_size]
theorem row74 : (Tryd.prog.info? 74).map (fun i => (i.zero, i.size, i.bytes)) = some (some (.agg zEnt), 33, 48) := by kernel_rfl
theorem row24 : (Tryd.prog.info? 24).map (fun i => (i.zero, i.size, i.bytes)) = some (some (.agg zero32), 32, 32) := by kernel_rfl
theorem of_row {t : TypeId} {z : Value} {n m : Nat} (h : (Tryd.prog.info? t).map (fun i => (i.zero, i.size, i.bytes)) = some (some z, n, m)) : ∃ i, Tryd.prog.info? t = some i ∧ i.zero = some z ∧ i.size = n ∧ i.bytes = m := by
  cases hq : Tryd.prog.info? t with
  | none => simp [hq] at h
  | some i =>
    simp [hq] at h
    exact ⟨i, rfl, h.1, h.2.1, h.2.2⟩
set_option maxRecDepth 20000 in
theorem bs30 (X : Array Value) (hX : X.size = 33) (w : World) :
    (Instr.buildSlice 30 1 #[(0, .agg X)]).run Tryd.prog w = .ok (.slice (some ⟨w.heap.size, 0, none⟩) 1 1) (w.alloc (.cells X 74)) := by
  have hf : ∀ Z : Array Value, Z.size = 33 → Array.foldl (fun cs (x : Value × Nat) => cs.setIfInBounds x.2 x.1) Z X.zipIdx 0 33 = X := fun Z hZ => by
    have := fill_all X Z (by omega)
    simpa [hX] using this
  obtain ⟨i, h1, h2, h3, h4⟩ := of_row row74
  simp [Instr.buildSlice, go_sem, hX, Instr.fill, Tryd.underlying30, Go.sizeOf, typeInfo, h1, h2, h3, h4, zeroValue, Value.cells, zEnt_size, hf]
set_option maxRecDepth 20000 in
theorem bs31 (X : Array Value) (hX : X.size = 32) (w : World) :
    (Instr.buildSlice 31 1 #[(0, .agg X)]).run Tryd.prog w = .ok (.slice (some ⟨w.heap.size, 0, none⟩) 1 1) (w.alloc (.cells X 24)) := by
  have hf : ∀ Z : Array Value, Z.size = 32 → Array.foldl (fun cs (x : Value × Nat) => cs.setIfInBounds x.2 x.1) Z X.zipIdx 0 32 = X := fun Z hZ => by
    have := fill_all X Z (by omega)
    simpa [hX] using this
  obtain ⟨i, h1, h2, h3, h4⟩ := of_row row24
  simp [Instr.buildSlice, go_sem, hX, Instr.fill, Tryd.underlying31, Go.sizeOf, typeInfo, h1, h2, h3, h4, zeroValue, Value.cells, zero_size, hf]
set_option maxRecDepth 20000 in
theorem b74 (X : Array Value) (hX : ArrEq.isEnt X = true) (hs : X.size = 33) (w : World) :
    (Instr.build 74 #[(0, .string (ArrEq.textOf X)), (1, .agg (X.extract 1 33))]).run Tryd.prog w = .ok (.agg X) w := by
  have e1 : (X.extract 1 33).size = 32 := by simp; omega
  simp [Instr.build, go_sem, e1]
  exact fill_ent X _ hX hs rfl rfl
end Go.Proofs.YtdpiplllcinieaaDoor
