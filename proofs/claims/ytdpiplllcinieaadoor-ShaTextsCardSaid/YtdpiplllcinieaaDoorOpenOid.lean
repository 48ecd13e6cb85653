/- A digest that came in, by value. -/
import Derived.Test.YtdpiplllcinieaaDoorOpenObj
import Derived.Test.YtdpiplllcinieaaDoorShaG
namespace Go.Proofs.YtdpiplllcinieaaDoor
open Go.RowKit Go.ChangeShapes Go.WideShapes Go.Ranges
set_option linter.unusedVariables false
set_option linter.unusedSimpArgs false
section
variable {H : Type} {enc : TypeId × Value → H} {w : World} {base b0 : Nat} {sp : Nat → Bool} {held : Bool}
theorem open_oid_cells {fuel : Nat} {cs : List Value} {x : DataW H × List MemPlace} (h : DataW.trod enc Tryd.prog w base sp held fuel 25 cs = some x) :
    ∃ xs : List Int, isOid cs.toArray xs ∧ xs.length = 32 ∧ ∀ y ∈ xs, isByte y := by
  obtain ⟨ds, m, _, _, hl, hlen, hi⟩ := DataW.trod_array Tryd.underlying25 h
  have h1 : Tryd.prog.cellsOf 5 = 1 := by kernel_rfl
  have h32 : Tryd.prog.cellsOf 25 = 32 := by kernel_rfl
  rw [h1] at hi
  rw [h32] at hl
  have each : ∀ i, i < 32 → ∃ a : Int, cs[i]? = some (.int .u8 a) ∧ isByte a := fun i hin => by
    have h2 := hi i hin
    rw [Nat.mul_one, List.getElem?_eq_getElem (by omega)] at h2
    obtain ⟨a, e1, e2, hw⟩ := DataW.trod_int Tryd.underlying5 h2
    refine ⟨a, take_one e1, ?_⟩
    simp [Lit.wf, IntKind.min, IntKind.max, IntKind.bits, IntKind.signed] at hw
    exact ⟨by omega, by omega⟩
  obtain ⟨f, hf⟩ := Deep.choose_lt each
  refine ⟨(List.range 32).map f, ⟨by simpa using hl, fun i hi => ?_⟩, by simp, fun y hy => ?_⟩
  · rw [List.getElem?_toArray, (hf i hi).1, List.getD_eq_getElem?_getD, List.getElem?_map, List.getElem?_range hi]
    rfl
  · obtain ⟨i, hi, rfl⟩ := List.mem_map.1 hy
    exact (hf i (List.mem_range.1 hi)).2
theorem open_oid {v : Value} {d : DataW H} {p : List MemPlace} (h : DataW.Trod enc Tryd.prog w base sp held 25 v d p) :
    ∃ C xs, v = .agg C ∧ isOid C xs ∧ xs.length = 32 ∧ ∀ y ∈ xs, isByte y := by
  obtain ⟨fuel, h⟩ := h
  have h' : DataW.trod enc Tryd.prog w base sp held fuel 25 v.cells.toList = some (d, p) := h
  obtain ⟨xs, hO, hl, hb⟩ := open_oid_cells h'
  have hz := hO.size
  cases v with
  | agg C => exact ⟨C, xs, rfl, by simpa [Value.cells] using hO, hl, hb⟩
  | _ => simp [Value.cells] at hz
end
end Go.Proofs.YtdpiplllcinieaaDoor
