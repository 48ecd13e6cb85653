/- What comes in: slices of slices of bytes, opened. -/
import Derived.Test.YtmmiimcodbjnmaaDoorByt
import Derived.Deep.Slices
import Derived.OpenShut
namespace Go.Proofs.YtmmiimcodbjnmaaDoor
open Go.RowKit Go.ChangeShapes Go.WideShapes Go.Ranges
set_option linter.unusedVariables false
set_option linter.unusedSimpArgs false
/-- How a slice of arrays or structs lies: each element's cells. -/
def Elems (w : World) (A : Option Addr) (n size : Nat) (f : Nat → Array Value) : Prop :=
  0 < n → ∃ b o, A = some ⟨b, o, none⟩ ∧ b < w.heap.size ∧ ∀ i, i < n → hasRange w b (o + i * size) size = true ∧ rangeOf w b (o + i * size) size = f i
section
variable {H : Type} {enc : TypeId × Value → H} {P : Program} {w : World} {base : Nat} {sp : Nat → Bool} {held : Bool}
/-- A slice whose elements are of so many cells. -/
theorem open_elems {t e : TypeId} {m fuel : Nat} {A : Option Addr} {n c : Nat} {x : DataW H × List MemPlace} {G : Array Value → Prop} (ht : P.underlying t = some (.slice e)) (hC : P.cellsOf e = m) (hm0 : 0 < m)
    (hG : ∀ fu cs y, DataW.trod enc P w base sp held fu e cs = some y → G cs.toArray)
    (h : DataW.trod enc P w base sp held fuel t [.slice A n c] = some x) : ∃ f : Nat → Array Value, n ≤ c ∧ c ≤ maxLen ∧ Elems w A n m f ∧ ∀ i, i < n → G (f i) := by
  rcases Deep.open_slice ht h with ⟨hv, _⟩ | ⟨a, len, cap, mm, fu, D, Pl, hv, hb, hl, hm, hmm, _, hi⟩
  · simp only [List.cons.injEq, and_true, Value.slice.injEq] at hv
    obtain ⟨rfl, rfl, rfl⟩ := hv
    exact ⟨fun _ => #[], Nat.le_refl _, Nat.zero_le _, fun h => absurd h (by omega), fun i hi => absurd hi (by omega)⟩
  · simp only [List.cons.injEq, and_true, Value.slice.injEq] at hv
    obtain ⟨rfl, rfl, rfl⟩ := hv
    have hnm : n ≤ mm := by rw [hmm]; split <;> omega
    have each : ∀ i, i < n → ∃ C : Array Value, C.size = m ∧ (∀ j, j < m → w.cell? (a.add (i * m + j)) = C[j]?) ∧ G C := by
      intro i hin
      obtain ⟨cs', hc, htr⟩ := hi i (by omega)
      rw [hC] at hc
      obtain ⟨_, hlen, hcell⟩ := World.cells?_some hc
      refine ⟨cs'.toArray, by simpa using hlen, fun j hj => ?_, hG _ _ _ htr⟩
      have := hcell j hj
      rw [Deep.add_add] at this
      simpa using this
    obtain ⟨f, hf⟩ := Deep.choose_lt each
    refine ⟨f, hl, hm, fun hn => ?_, fun i hi => (hf i hi).2.2⟩
    obtain ⟨b, o, s⟩ := a
    have h0 := (hf 0 hn).2.1 0 hm0
    have hsz := (hf 0 hn).1
    obtain rfl : s = none := by
      rw [Array.getElem?_eq_getElem (by omega)] at h0
      simpa [Addr.add] using World.cell?_spot h0
    have hblk : b < w.heap.size := by
      rw [Array.getElem?_eq_getElem (by omega), Go.WideShapes.add_plain] at h0
      exact World.block_lt_of_cell? w _ h0
    have hcell : ∀ i, i < n → ∀ j, j < m → w.cell? ⟨b, o + i * m + j, none⟩ = (f i)[j]? := fun i hi j hj => by
      have := (hf i hi).2.1 j hj
      rw [Go.WideShapes.add_plain] at this
      rw [Nat.add_assoc]; exact this
    refine ⟨b, o, rfl, hblk, fun i hi => ⟨?_, ?_⟩⟩
    · unfold hasRange
      rw [List.all_eq_true]
      intro j hj
      have hj' := List.mem_range.1 hj
      rw [hcell i hi j hj', Array.getElem?_eq_getElem (by rw [(hf i hi).1]; exact hj')]
      rfl
    · apply Array.ext_getElem?
      intro j
      by_cases hj : j < m
      · simp only [rangeOf, List.getElem?_toArray, List.getElem?_map, List.getElem?_range hj, Option.map_some]
        rw [hcell i hi j hj, Array.getElem?_eq_getElem (by rw [(hf i hi).1]; exact hj)]
        rfl
      · rw [Array.getElem?_eq_none (by rw [size_rangeOf]; omega), Array.getElem?_eq_none (by rw [(hf i hi).1]; omega)]
/-- A slice of bytes. -/
theorem open_bytes {t e : TypeId} {fuel : Nat} {A : Option Addr} {n c : Nat} {x : DataW H × List MemPlace} (ht : P.underlying t = some (.slice e)) (he : P.underlying e = some (.int .u8)) (hC : P.cellsOf e = 1)
    (h : DataW.trod enc P w base sp held fuel t [.slice A n c] = some x) : ∃ xs : List Int, xs.length = n ∧ n ≤ c ∧ c ≤ maxLen ∧ Lib.BytesIn w A n xs ∧ ∀ y ∈ xs, 0 ≤ y ∧ y < 256 := by
  obtain ⟨f, h1, h2, h3, h4⟩ := open_elems (G := fun C => ∃ y : Int, C[0]? = some (.int .u8 y) ∧ 0 ≤ y ∧ y < 256) ht hC (by decide) (fun fu cs y hy => by
    obtain ⟨v, hv, _, hw⟩ := DataW.trod_int he hy
    subst hv
    refine ⟨v, rfl, ?_⟩
    simp [Lit.wf, IntKind.min, IntKind.max, IntKind.signed, IntKind.bits] at hw
    omega) h
  obtain ⟨g, hg⟩ := Deep.choose_lt h4
  refine ⟨(List.range n).map g, by simp, h1, h2, fun hn => ?_, fun y hy => ?_⟩
  · obtain ⟨b, o, rfl, _, hc⟩ := h3 hn
    refine ⟨b, o, rfl, fun i hi => ?_⟩
    obtain ⟨k1, k2⟩ := hc i hi
    have e0 := (hg i hi).1
    rw [← k2] at e0
    obtain ⟨v, hv⟩ := has_at k1 (show 0 < 1 by decide)
    rw [rangeOf_get (by decide) hv] at e0
    rw [Nat.mul_one, Nat.add_zero] at hv
    rw [hv, e0]
    simp [List.getD, hi]
  · obtain ⟨i, hi, rfl⟩ := List.mem_map.1 hy
    exact (hg i (List.mem_range.1 hi)).2
theorem slice_one {t e : TypeId} {fuel : Nat} {cs : List Value} {x : DataW H × List MemPlace} (ht : P.underlying t = some (.slice e)) (h : DataW.trod enc P w base sp held fuel t cs = some x) : ∃ A n c, cs = [.slice A n c] := by
  rcases Deep.open_slice ht h with ⟨hv, _⟩ | ⟨a, len, cap, mm, fu, D, Pl, hv, _⟩
  · exact ⟨_, _, _, hv⟩
  · exact ⟨_, _, _, hv⟩
theorem take_one {cs : List Value} {o : Nat} {v : Value} (h : (cs.drop o).take 1 = [v]) : cs[o]? = some v := by
  have : ((cs.drop o).take 1)[0]? = some v := by rw [h]; rfl
  rw [List.getElem?_take_of_lt (by decide), List.getElem?_drop, Nat.add_zero] at this
  exact this
/-- A slice of slices of bytes that came in. -/
theorem open_parts {t e e2 : TypeId} {fuel : Nat} {A : Option Addr} {m c : Nat} {x : DataW H × List MemPlace} (ht : P.underlying t = some (.slice e)) (hC : P.cellsOf e = 1) (he : P.underlying e = some (.slice e2)) (he2 : P.underlying e2 = some (.int .u8)) (hC2 : P.cellsOf e2 = 1)
    (h : DataW.trod enc P w base sp held fuel t [.slice A m c] = some x) : ∃ f : Nat → List Int, m ≤ c ∧ c ≤ maxLen ∧ PartsAt w A m f ∧ ∀ i, i < m → ∀ y ∈ f i, isByte y := by
  obtain ⟨F, h1, h2, h3, h4⟩ := open_elems (G := fun C => ∃ B n c2 xs, C[0]? = some (.slice B n c2) ∧ xs.length = n ∧ Lib.BytesIn w B n xs ∧ ∀ y ∈ xs, isByte y) ht hC (by decide) (fun fu cs y hy => by
    obtain ⟨B, n, c2, rfl⟩ := slice_one he hy
    obtain ⟨xs, hx, _, _, hB, hb⟩ := open_bytes he he2 hC2 hy
    exact ⟨B, n, c2, xs, rfl, hx, hB, hb⟩) h
  have each : ∀ i, i < m → ∃ xs : List Int, ∃ B c2, (F i)[0]? = some (.slice B xs.length c2) ∧ Lib.BytesIn w B xs.length xs ∧ ∀ y ∈ xs, isByte y := fun i hi => by
    obtain ⟨B, n, c2, xs, e1, e2, e3, e4⟩ := h4 i hi
    subst e2
    exact ⟨xs, B, c2, e1, e3, e4⟩
  obtain ⟨f, hf⟩ := Deep.choose_lt each
  refine ⟨f, h1, h2, fun hm => ?_, fun i hi => by obtain ⟨B, c2, _, _, hb⟩ := hf i hi; exact hb⟩
  obtain ⟨b, o, rfl, hlt, hc⟩ := h3 hm
  refine ⟨b, o, rfl, hlt, fun i hi => ?_⟩
  obtain ⟨B, c2, e1, e2, _⟩ := hf i hi
  obtain ⟨k1, k2⟩ := hc i hi
  refine ⟨B, c2, ?_, e2⟩
  obtain ⟨v, hv⟩ := has_at k1 (show 0 < 1 by decide)
  rw [← k2, rangeOf_get (by decide) hv] at e1
  injection e1 with e1
  rw [Nat.mul_one, Nat.add_zero] at hv
  rw [hv, e1]
end
end Go.Proofs.YtmmiimcodbjnmaaDoor
