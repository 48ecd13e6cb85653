/- A slice that came in as a row of whole numbers. -/
import Derived.Test.YtmmiimcodbjnmaaDoorFrameGen
import Derived.ChangeSlices
namespace Go.RowsIn
open Go.ChangeShapes Go.WideShapes Go.RowKit
set_option linter.unusedVariables false
/-- What a row of n cells reads, one by one, when there is a row. -/
def Row (w : World) (A : Option Addr) (n : Nat) (f : Nat → Value) : Prop := 0 < n → ∃ ad, A = some ad ∧ ad.block < w.heap.size ∧ ∀ k, k < n → w.cell? (ad.add k) = some (f k)
theorem add_block (a : Addr) (n : Nat) : (a.add n).block = a.block := by unfold Addr.add; split <;> rfl
theorem Row.at_ {w w' : World} {A : Option Addr} {n k : Nat} {f : Nat → Value} (h : Row w A n f) (hb : Below w.heap.size w w') (hk : k < n) : ∃ ad, A = some ad ∧ w'.cell? (ad.add k) = some (f k) := by
  obtain ⟨ad, rfl, hlt, hc⟩ := h (by omega)
  exact ⟨ad, rfl, (hb.cell (p := ad.add k) (by rw [add_block]; exact hlt)).trans (hc k hk)⟩
theorem Row.below {w w' : World} {A : Option Addr} {n : Nat} {f : Nat → Value} (h : Row w A n f) (hb : Below w.heap.size w w') : Row w' A n f := fun hn => by
  obtain ⟨ad, rfl, hlt, hc⟩ := h hn
  exact ⟨ad, rfl, Nat.lt_of_lt_of_le hlt hb.size, fun k hk => (hb.cell (p := ad.add k) (by rw [add_block]; exact hlt)).trans (hc k hk)⟩
theorem lt_of_cell {w : World} {p : Addr} {u : Value} (h : w.cell? p = some u) : p.block < w.heap.size := World.block_lt_of_cell? w p h
section
variable {H : Type} {enc : TypeId × Value → H} {P : Program} {w : World}
/-- The argument is a slice of whole numbers: its length and its cells. -/
theorem row_ints {t e : TypeId} {k : IntKind} {A : Option Addr} {n c : Nat} {d : DataW H} {ps : List MemPlace} {base : Nat} {sp : Nat → Bool} {held : Bool} (ht : P.underlying t = some (.slice e)) (he : P.underlying e = some (.int k)) (hc : P.cellsOf e = 1)
    (h : DataW.Trod enc P w base sp held t (.slice A n c) d ps) :
    ∃ (f : Nat → Int), n ≤ c ∧ c ≤ maxLen ∧ Row w A n (fun i => .int k (f i)) ∧ ∀ i, i < n → (Lit.int k (f i)).wf = true := by
  obtain ⟨fuel, h⟩ := h
  rcases open_ints (cs := [.slice A n c]) ht he hc h with ⟨hv, _⟩ | ⟨a, len, cap, zs, hv, hb, hl, hm, hz, _, hcell, hwf⟩
  · simp only [List.cons.injEq, and_true, Value.slice.injEq] at hv
    obtain ⟨rfl, rfl, rfl⟩ := hv
    exact ⟨fun _ => 0, Nat.le_refl _, Nat.zero_le _, fun h => absurd h (by omega), fun i hi => absurd hi (by omega)⟩
  · simp only [List.cons.injEq, and_true, Value.slice.injEq] at hv
    obtain ⟨rfl, rfl, rfl⟩ := hv
    have hlz : n ≤ zs.length := by
      rw [hz]; split <;> omega
    refine ⟨fun i => zs.getD i 0, hl, hm, fun hn => ⟨a, rfl, ?_, fun i hi => hcell i (by omega)⟩, fun i hi => hwf _ ?_⟩
    · have := lt_of_cell (hcell 0 (by omega))
      rwa [add_block] at this
    · have hi' : i < zs.length := by omega
      simp only [List.getD_eq_getElem?_getD, List.getElem?_eq_getElem hi', Option.getD_some]
      exact List.getElem_mem hi'
end
end Go.RowsIn
