/- A list of fields that came in. -/
import Derived.Test.YtmmiimcodbjnmaaDoorOpenK
import Derived.Test.YtmmiimcodbjnmaaDoorOctE
namespace Go.Proofs.YtmmiimcodbjnmaaDoor
open Go.RowKit Go.ChangeShapes Go.WideShapes Go.Ranges
set_option linter.unusedVariables false
set_option linter.unusedSimpArgs false
section
variable {H : Type} {enc : TypeId × Value → H} {P : Program} {w : World} {base : Nat} {sp : Nat → Bool} {held : Bool}
theorem field_at {t : TypeId} {fs : Array Field} {fuel : Nat} {cs : List Value} {x : DataW H × List MemPlace} (ht : P.underlying t = some (.struct fs)) (h : DataW.trod enc P w base sp held fuel t cs = some x) (i o n : Nat) (u : TypeId)
    (hf : (fs[i]?).map (fun f => (f.offset, f.type)) = some (o, u)) (hn : P.cellsOf u = n) : ∃ m y, DataW.trod enc P w base sp held m u ((cs.drop o).take n) = some y := by
  obtain ⟨ys, m, _, _, _, hl, hi⟩ := DataW.trod_struct ht h
  cases hq : fs[i]? with
  | none => simp [hq] at hf
  | some f =>
    simp [hq] at hf
    obtain ⟨rfl, rfl⟩ := hf
    have hlt : i < fs.size := (Array.getElem?_eq_some_iff.1 hq).1
    have := hi i f hq
    rw [hn, List.getElem?_eq_getElem (by omega)] at this
    exact ⟨m, _, this⟩
end
/-- What one field holds. -/
def FldIs (w : World) (C : Array Value) (k : Int) (xs : List Int) : Prop :=
  ∃ B c, C = #[.int .i64 k, .slice B xs.length c] ∧ Lib.BytesIn w B xs.length xs ∧ ∀ y ∈ xs, 0 ≤ y ∧ y < 256
section
variable {H : Type} {enc : TypeId × Value → H} {w : World} {base : Nat} {sp : Nat → Bool} {held : Bool}
theorem open_fld {fuel : Nat} {cs : List Value} {x : DataW H × List MemPlace} (hl : cs.length = 2) (h : DataW.trod enc Tryd.prog w base sp held fuel 60 cs = some x) :
    ∃ k xs, FldIs w cs.toArray k xs := by
  obtain ⟨m0, y0, g0⟩ := field_at Tryd.underlying60 h 0 0 1 3 (by kernel_rfl) (by kernel_rfl)
  obtain ⟨m3, y3, g3⟩ := field_at Tryd.underlying60 h 1 1 1 34 (by kernel_rfl) (by kernel_rfl)
  obtain ⟨k, e0, _, _⟩ := DataW.trod_int Tryd.underlying3 g0
  obtain ⟨B, n, c, e3⟩ := slice_one Tryd.underlying34 g3
  rw [e3] at g3
  obtain ⟨xs, x1, x2, x3, x4, x5⟩ := open_bytes Tryd.underlying34 Tryd.underlying5 (by kernel_rfl) g3
  subst x1
  refine ⟨k, xs, B, c, ?_, x4, x5⟩
  have h0 := take_one e0
  have h3 := take_one e3
  match cs, hl with
  | [a, d], _ =>
    simp at h0 h3
    subst h0 h3
    rfl
theorem open_flds {fuel : Nat} {A : Option Addr} {n c : Nat} {x : DataW H × List MemPlace} (h : DataW.trod enc Tryd.prog w base sp held fuel 42 [.slice A n c] = some x) :
    ∃ (N : Nat → Int) (B : Nat → List Int), n ≤ c ∧ c ≤ maxLen ∧ FieldsAt w A n N B ∧ ∀ i, ∀ y ∈ B i, 0 ≤ y ∧ y < 256 := by
  obtain ⟨F, h1, h2, h3, h4⟩ := open_elems (m := 2) (G := fun C => C.size = 2 → ∃ k xs, FldIs w C k xs) Tryd.underlying42 (by kernel_rfl) (by decide)
    (fun fu cs y hy hs => open_fld (by simpa using hs) hy) h
  by_cases hn : 0 < n
  · obtain ⟨b, o, hA, hlt, hc⟩ := h3 hn
    have each : ∀ i, i < n → ∃ q : Int × List Int, FldIs w (F i) q.1 q.2 := fun i hi => by
      obtain ⟨k, xs, hh⟩ := h4 i hi (by rw [← (hc i hi).2, size_rangeOf])
      exact ⟨(k, xs), hh⟩
    obtain ⟨g, hg⟩ := Deep.choose_lt each
    refine ⟨fun i => (g i).1, fun i => if i < n then (g i).2 else [], h1, h2, fun _ => ⟨b, o, hA, hlt, fun i hi => ?_⟩, fun i y hy => ?_⟩
    · obtain ⟨B, c2, e, k1, k2⟩ := hg i hi
      obtain ⟨r1, r2⟩ := hc i hi
      rw [e] at r2
      obtain ⟨v0, hv0⟩ := has_at r1 (show 0 < 2 by decide)
      obtain ⟨v1, hv1⟩ := has_at r1 (show 1 < 2 by decide)
      have t0 := rangeOf_get (n := 2) (by decide) hv0
      have t1 := rangeOf_get (n := 2) (by decide) hv1
      rw [r2] at t0 t1
      have u0 : v0 = .int .i64 (g i).1 := (Option.some.inj t0).symm
      have u1 : v1 = .slice B (g i).2.length c2 := (Option.some.inj t1).symm
      subst u0 u1
      simp only [if_pos hi]
      exact ⟨B, c2, hv0, hv1, k1⟩
    · replace hy : y ∈ (if i < n then (g i).2 else []) := hy
      by_cases hi : i < n
      · rw [if_pos hi] at hy
        obtain ⟨B, c2, e, k1, k2⟩ := hg i hi
        exact k2 y hy
      · rw [if_neg hi] at hy
        cases hy
  · exact ⟨fun _ => 0, fun _ => [], h1, h2, fun h => absurd h hn, fun i y hy => by cases hy⟩
end
end Go.Proofs.YtmmiimcodbjnmaaDoor
