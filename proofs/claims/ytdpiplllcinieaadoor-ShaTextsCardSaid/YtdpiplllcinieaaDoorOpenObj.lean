/- An argument that is an object, opened into its cells, its text, its entries, its parents. -/
import Derived.Test.YtdpiplllcinieaaDoorObjC
import Derived.Test.YtdpiplllcinieaaDoorBlocks
import Derived.Test.YtdpiplllcinieaaDoorRowsIn
import Derived.Deep.Slices
import Derived.OpenShut
namespace Go.Proofs.YtdpiplllcinieaaDoor
open Go.RowKit Go.ChangeShapes Go.WideShapes Go.Ranges
set_option linter.unusedVariables false
set_option linter.unusedSimpArgs false
section
variable {H : Type} {enc : TypeId × Value → H} {P : Program} {w : World} {base : Nat} {sp : Nat → Bool} {held : Bool}
/-- An array of bytes. -/
theorem open_u8s {t e : TypeId} {n fuel : Nat} {cs : List Value} {x : DataW H × List MemPlace} (ht : P.underlying t = some (.array n e)) (he : P.underlying e = some (.int .u8)) (h1 : P.cellsOf e = 1) (hn : P.cellsOf t = n)
    (h : DataW.trod enc P w base sp held fuel t cs = some x) : ArrEq.u8s n cs.toArray = true := by
  obtain ⟨xs, m, _, _, hl, hx, hi⟩ := DataW.trod_array ht h
  rw [h1] at hi
  unfold ArrEq.u8s
  simp only [Bool.and_eq_true, beq_iff_eq]
  refine ⟨by simp; omega, ?_⟩
  rw [Array.all_eq_true]
  intro i hj
  have hj' : i < n := by simp at hj; omega
  have h2 := hi i hj'
  rw [Nat.mul_one] at h2
  have h3 : (cs.drop i).take 1 = [cs.toArray[i]] := by
    have : i < cs.length := by omega
    rw [List.drop_eq_getElem_cons this]
    rfl
  rw [h3, List.getElem?_eq_getElem (by omega)] at h2
  obtain ⟨v, hv, _, _⟩ := DataW.trod_int he h2
  simp only [List.cons.injEq, and_true] at hv
  rw [hv]
  rfl
/-- An entry: a name, an id. -/
theorem open_ent {t : TypeId} {f0 f1 : Field} {e : TypeId} {fuel : Nat} {cs : List Value} {x : DataW H × List MemPlace} (ht : P.underlying t = some (.struct #[f0, f1])) (hC : P.cellsOf t = 33)
    (o0 : f0.offset = 0) (o1 : f1.offset = 1) (c0 : P.cellsOf f0.type = 1) (c1 : P.cellsOf f1.type = 32) (u0 : P.underlying f0.type = some .string) (u1 : P.underlying f1.type = some (.array 32 e)) (ue : P.underlying e = some (.int .u8)) (h1 : P.cellsOf e = 1)
    (h : DataW.trod enc P w base sp held fuel t cs = some x) : ArrEq.isEnt cs.toArray = true := by
  obtain ⟨y0, y1, n, _, hl, g0, g1⟩ := trod_struct2 ht h
  rw [o0, c0] at g0
  rw [o1, c1] at g1
  rw [hC] at hl
  have hu := open_u8s u1 ue h1 c1 g1
  cases cs with
  | nil => simp at hl
  | cons v vs =>
    simp only [List.drop_zero, List.take_succ_cons, List.take_zero] at g0
    obtain ⟨s, hs, _⟩ := DataW.trod_string u0 g0
    simp only [List.cons.injEq, and_true] at hs
    subst hs
    unfold ArrEq.isEnt
    have e1 : (Value.string s :: vs).toArray.extract 1 33 = (List.take 32 (List.drop 1 (Value.string s :: vs))).toArray := by
      rw [List.extract_toArray, List.extract_eq_take_drop]
    rw [e1, hu]
    rfl
/-- A slice whose elements are of so many cells. -/
theorem open_elems {t e : TypeId} {m fuel : Nat} {A : Option Addr} {n c : Nat} {x : DataW H × List MemPlace} {G : Array Value → Prop} (ht : P.underlying t = some (.slice e)) (hC : P.cellsOf e = m) (hm0 : 0 < m)
    (hG : ∀ fu cs y, DataW.trod enc P w base sp held fu e cs = some y → G cs.toArray)
    (h : DataW.trod enc P w base sp held fuel t [.slice A n c] = some x) : ∃ f : Nat → Array Value, n ≤ c ∧ c ≤ maxLen ∧ Elems w A n m f ∧ ∀ i, i < n → G (f i) := by
  rcases Deep.open_slice ht h with ⟨hv, _⟩ | ⟨a, len, cap, mm, fu, D, Pl, hv, hb, hl, hm, hmm, _, hi⟩
  · simp only [List.cons.injEq, and_true, Value.slice.injEq] at hv
    obtain ⟨rfl, rfl, rfl⟩ := hv
    exact ⟨fun _ => #[], Nat.le_refl _, Nat.zero_le _, fun h => absurd h (by omega), fun i hi => absurd hi (by omega)⟩
  · simp only [List.cons.injEq, and_true, Value.slice.injEq] at hv
    obtain ⟨rfl, rfl, rfl⟩ := hv
    have hnm : n ≤ mm := by rw [hmm]; split <;> omega
    have each : ∀ i, i < n → ∃ C : Array Value, C.size = m ∧ (∀ j, j < m → w.cell? (a.add (i * m + j)) = C[j]?) ∧ G C := by
      intro i hin
      obtain ⟨cs', hc, htr⟩ := hi i (by omega)
      rw [hC] at hc
      obtain ⟨_, hlen, hcell⟩ := World.cells?_some hc
      refine ⟨cs'.toArray, by simpa using hlen, fun j hj => ?_, hG _ _ _ htr⟩
      have := hcell j hj
      rw [Deep.add_add] at this
      simpa using this
    obtain ⟨f, hf⟩ := Deep.choose_lt each
    refine ⟨f, hl, hm, fun hn => ?_, fun i hi => (hf i hi).2.2⟩
    obtain ⟨b, o, s⟩ := a
    have h0 := (hf 0 hn).2.1 0 hm0
    have hsz := (hf 0 hn).1
    obtain rfl : s = none := by
      rw [Array.getElem?_eq_getElem (by omega)] at h0
      simpa [Addr.add] using World.cell?_spot h0
    have hblk : b < w.heap.size := by
      rw [Array.getElem?_eq_getElem (by omega), Go.WideShapes.add_plain] at h0
      exact World.block_lt_of_cell? w _ h0
    have hcell : ∀ i, i < n → ∀ j, j < m → w.cell? ⟨b, o + i * m + j, none⟩ = (f i)[j]? := fun i hi j hj => by
      have := (hf i hi).2.1 j hj
      rw [Go.WideShapes.add_plain] at this
      rw [Nat.add_assoc]; exact this
    refine ⟨b, o, rfl, hblk, fun i hi => ⟨?_, ?_⟩⟩
    · unfold hasRange
      rw [List.all_eq_true]
      intro j hj
      have hj' := List.mem_range.1 hj
      rw [hcell i hi j hj', Array.getElem?_eq_getElem (by rw [(hf i hi).1]; exact hj')]
      rfl
    · apply Array.ext_getElem?
      intro j
      by_cases hj : j < m
      · simp only [rangeOf, List.getElem?_toArray, List.getElem?_map, List.getElem?_range hj, Option.map_some]
        rw [hcell i hi j hj, Array.getElem?_eq_getElem (by rw [(hf i hi).1]; exact hj)]
        rfl
      · rw [Array.getElem?_eq_none (by rw [size_rangeOf]; omega), Array.getElem?_eq_none (by rw [(hf i hi).1]; omega)]
/-- A slice of bytes. -/
theorem open_bytes {t e : TypeId} {fuel : Nat} {A : Option Addr} {n c : Nat} {x : DataW H × List MemPlace} (ht : P.underlying t = some (.slice e)) (he : P.underlying e = some (.int .u8)) (hC : P.cellsOf e = 1)
    (h : DataW.trod enc P w base sp held fuel t [.slice A n c] = some x) : ∃ xs : List Int, xs.length = n ∧ n ≤ c ∧ c ≤ maxLen ∧ Lib.BytesIn w A n xs ∧ ∀ y ∈ xs, 0 ≤ y ∧ y < 256 := by
  obtain ⟨f, h1, h2, h3, h4⟩ := open_elems (G := fun C => ∃ y : Int, C[0]? = some (.int .u8 y) ∧ 0 ≤ y ∧ y < 256) ht hC (by decide) (fun fu cs y hy => by
    obtain ⟨v, hv, _, hw⟩ := DataW.trod_int he hy
    subst hv
    refine ⟨v, rfl, ?_⟩
    simp [Lit.wf, IntKind.min, IntKind.max, IntKind.signed, IntKind.bits] at hw
    omega) h
  obtain ⟨g, hg⟩ := Deep.choose_lt h4
  refine ⟨(List.range n).map g, by simp, h1, h2, fun hn => ?_, fun y hy => ?_⟩
  · obtain ⟨b, o, rfl, _, hc⟩ := h3 hn
    refine ⟨b, o, rfl, fun i hi => ?_⟩
    obtain ⟨k1, k2⟩ := hc i hi
    have e0 := (hg i hi).1
    rw [← k2] at e0
    obtain ⟨v, hv⟩ := has_at k1 (show 0 < 1 by decide)
    rw [rangeOf_get (by decide) hv] at e0
    rw [Nat.mul_one, Nat.add_zero] at hv
    rw [hv, e0]
    simp [List.getD, hi]
  · obtain ⟨i, hi, rfl⟩ := List.mem_map.1 hy
    exact (hg i (List.mem_range.1 hi)).2
theorem field_at {t : TypeId} {fs : Array Field} {fuel : Nat} {cs : List Value} {x : DataW H × List MemPlace} (ht : P.underlying t = some (.struct fs)) (h : DataW.trod enc P w base sp held fuel t cs = some x) (i o n : Nat) (u : TypeId)
    (hf : (fs[i]?).map (fun f => (f.offset, f.type)) = some (o, u)) (hn : P.cellsOf u = n) : ∃ m y, DataW.trod enc P w base sp held m u ((cs.drop o).take n) = some y := by
  obtain ⟨ys, m, _, _, _, hl, hi⟩ := DataW.trod_struct ht h
  cases hq : fs[i]? with
  | none => simp [hq] at hf
  | some f =>
    simp [hq] at hf
    obtain ⟨rfl, rfl⟩ := hf
    have hlt : i < fs.size := (Array.getElem?_eq_some_iff.1 hq).1
    have := hi i f hq
    rw [hn, List.getElem?_eq_getElem (by omega)] at this
    exact ⟨m, _, this⟩
theorem slice_one {t e : TypeId} {fuel : Nat} {cs : List Value} {x : DataW H × List MemPlace} (ht : P.underlying t = some (.slice e)) (h : DataW.trod enc P w base sp held fuel t cs = some x) : ∃ A n c, cs = [.slice A n c] := by
  rcases Deep.open_slice ht h with ⟨hv, _⟩ | ⟨a, len, cap, mm, fu, D, Pl, hv, _⟩
  · exact ⟨_, _, _, hv⟩
  · exact ⟨_, _, _, hv⟩
theorem take_one {cs : List Value} {o : Nat} {v : Value} (h : (cs.drop o).take 1 = [v]) : cs[o]? = some v := by
  have : ((cs.drop o).take 1)[0]? = some v := by rw [h]; rfl
  rw [List.getElem?_take_of_lt (by decide), List.getElem?_drop, Nat.add_zero] at this
  exact this
end
set_option maxRecDepth 20000 in
/-- An object that came in. -/
theorem open_obj {H : Type} {enc : TypeId × Value → H} {w : World} {base b0 : Nat} {sp : Nat → Bool} {held : Bool} {r : Reach} {v : Value} {d : DataW H} {p : List MemPlace}
    (hv : Value.okWide Tryd.prog w r b0 28 v) (h : DataW.Trod enc Tryd.prog w base sp held 28 v d p) :
    ∃ C k A n c xs E ne ce ef Q np cp pf, v = .agg C ∧ ObjAt w C k A n c xs E ne ce ef Q np cp pf := by
  obtain ⟨cs, rfl, hsz⟩ := okWide_struct Tryd.underlying28 hv
  have hC : Tryd.prog.cellsOf 28 = 36 := by kernel_rfl
  rw [hC] at hsz
  obtain ⟨fuel, h⟩ := h
  have h' : DataW.trod enc Tryd.prog w base sp held fuel 28 cs.toList = some (d, p) := h
  clear h
  obtain ⟨m0, y0, g0⟩ := field_at Tryd.underlying28 h' 0 0 1 3 (by kernel_rfl) (by kernel_rfl)
  obtain ⟨m1, y1, g1⟩ := field_at Tryd.underlying28 h' 1 1 1 22 (by kernel_rfl) (by kernel_rfl)
  obtain ⟨m2, y2, g2⟩ := field_at Tryd.underlying28 h' 2 2 1 23 (by kernel_rfl) (by kernel_rfl)
  obtain ⟨m3, y3, g3⟩ := field_at Tryd.underlying28 h' 3 3 32 25 (by kernel_rfl) (by kernel_rfl)
  obtain ⟨m4, y4, g4⟩ := field_at Tryd.underlying28 h' 4 35 1 26 (by kernel_rfl) (by kernel_rfl)
  obtain ⟨k, e0, _, _⟩ := DataW.trod_int Tryd.underlying3 g0
  obtain ⟨A, n, c, e1⟩ := slice_one Tryd.underlying22 g1
  obtain ⟨E, ne, ce, e2⟩ := slice_one Tryd.underlying23 g2
  obtain ⟨Q, np, cp, e4⟩ := slice_one Tryd.underlying26 g4
  rw [e1] at g1
  rw [e2] at g2
  rw [e4] at g4
  obtain ⟨xs, x1, x2, x3, x4, _⟩ := open_bytes Tryd.underlying22 Tryd.underlying5 (by kernel_rfl) g1
  obtain ⟨ef, n1, n2, n3, n4⟩ := open_elems (m := 33) (G := fun C => ArrEq.isEnt C = true) Tryd.underlying23 (by kernel_rfl) (by decide) (fun fu cs y hy => open_ent Tryd.underlying72 (by kernel_rfl) rfl rfl (by kernel_rfl) (by kernel_rfl) Tryd.underlying9 Tryd.underlying25 Tryd.underlying5 (by kernel_rfl) hy) g2
  have u3 := open_u8s (n := 32) Tryd.underlying25 Tryd.underlying5 (by kernel_rfl) (by kernel_rfl) g3
  obtain ⟨pf, q1, q2, q3, q4⟩ := open_elems (m := 32) (G := fun C => ArrEq.u8s 32 C = true) Tryd.underlying26 (by kernel_rfl) (by decide) (fun fu cs y hy => open_u8s Tryd.underlying25 Tryd.underlying5 (by kernel_rfl) (by kernel_rfl) hy) g4
  have e3 : cs.extract 3 35 = (List.take 32 (List.drop 3 cs.toList)).toArray := by
    rw [← List.extract_eq_take_drop (l := cs.toList) (start := 3) (stop := 35), ← List.extract_toArray]
  refine ⟨cs, k, A, n, c, xs, E, ne, ce, ef, Q, np, cp, pf, rfl, hsz, ?_, ?_, ?_, ?_, ?_, x1, x4, n3, n4, q3, q4, by omega, by omega⟩
  · simpa using take_one e0
  · simpa using take_one e1
  · simpa using take_one e2
  · rw [e3]; exact u3
  · simpa using take_one e4
end Go.Proofs.YtdpiplllcinieaaDoor
