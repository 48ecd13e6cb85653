/- A slice of pairs of whole numbers that came in, cell by cell. -/
import Derived.Test.YtdglpbjofdipkaaDoorRowsIn
import Derived.Deep.Slices
namespace Go.RowsIn
open Go.ChangeShapes Go.WideShapes Go.RowKit
set_option linter.unusedVariables false
section
variable {H : Type} {enc : TypeId × Value → H} {P : Program} {w : World}
theorem row_pairs {t e : TypeId} {f0 f1 : Field} {k0 : IntKind} {A : Option Addr} {n c : Nat} {d : DataW H} {ps : List MemPlace} {base : Nat} {sp : Nat → Bool} {held : Bool} (ht : P.underlying t = some (.slice e)) (he : P.underlying e = some (.struct #[f0, f1]))
    (hC : P.cellsOf e = 2) (o0 : f0.offset = 0) (o1 : f1.offset = 1) (c0 : P.cellsOf f0.type = 1) (c1 : P.cellsOf f1.type = 1) (u0 : P.underlying f0.type = some (.int k0)) (u1 : P.underlying f1.type = some (.int k0))
    (h : DataW.Trod enc P w base sp held t (.slice A n c) d ps) :
    ∃ (f : Nat → Int), n ≤ c ∧ c ≤ maxLen ∧ Row w A (n * 2) (fun i => .int k0 (f i)) ∧ ∀ i, i < n * 2 → (Lit.int k0 (f i)).wf = true := by
  obtain ⟨fuel, h⟩ := h
  rcases Deep.open_slice (cs := [.slice A n c]) ht h with ⟨hv, _⟩ | ⟨a, len, cap, m, fu, D, Pl, hv, hb, hl, hm, hmm, _, hi⟩
  · simp only [List.cons.injEq, and_true, Value.slice.injEq] at hv
    obtain ⟨rfl, rfl, rfl⟩ := hv
    exact ⟨fun _ => 0, Nat.le_refl _, Nat.zero_le _, fun h => absurd h (by omega), fun i hi => absurd hi (by omega)⟩
  · simp only [List.cons.injEq, and_true, Value.slice.injEq] at hv
    obtain ⟨rfl, rfl, rfl⟩ := hv
    have hnm : n ≤ m := by rw [hmm]; split <;> omega
    have each : ∀ i, i < n → ∃ x y : Int, w.cell? (a.add (i * 2)) = some (.int k0 x) ∧ w.cell? (a.add (i * 2 + 1)) = some (.int k0 y) ∧ (Lit.int k0 x).wf = true ∧ (Lit.int k0 y).wf = true := by
      intro i hin
      obtain ⟨cs', hc, htr⟩ := hi i (by omega)
      rw [hC] at hc
      obtain ⟨y0, y1, fu', _, hlen, g0, g1⟩ := ChangeShapes.trod_struct2 he htr
      rw [hC] at hlen
      obtain ⟨_, _, hcell⟩ := World.cells?_some hc
      match cs', hlen with
      | [p0, p1], _ =>
        rw [o0, c0] at g0
        rw [o1, c1] at g1
        obtain ⟨x, hx, _, wx⟩ := DataW.trod_int u0 g0
        obtain ⟨y, hy, _, wy⟩ := DataW.trod_int u1 g1
        simp at hx hy
        refine ⟨x, y, ?_, ?_, wx, wy⟩
        · have := hcell 0 (by decide)
          rw [Deep.add_add] at this
          simpa [hx] using this
        · have := hcell 1 (by decide)
          rw [Deep.add_add] at this
          simpa [hy] using this
    have pick : ∀ j, j < n * 2 → ∃ x : Int, w.cell? (a.add j) = some (.int k0 x) ∧ (Lit.int k0 x).wf = true := by
      intro j hj
      obtain ⟨x, y, hx, hy, wx, wy⟩ := each (j / 2) (by omega)
      rcases Nat.mod_two_eq_zero_or_one j with h | h
      · exact ⟨x, by rw [show j = j / 2 * 2 by omega]; exact hx, wx⟩
      · exact ⟨y, by rw [show j = j / 2 * 2 + 1 by omega]; exact hy, wy⟩
    obtain ⟨f, hf⟩ := Deep.choose_lt pick
    refine ⟨f, hl, hm, fun hn => ⟨a, rfl, ?_, fun i hi => (hf i hi).1⟩, fun i hi => (hf i hi).2⟩
    have := lt_of_cell (hf 0 hn).1
    rwa [add_block] at this
end
end Go.RowsIn
