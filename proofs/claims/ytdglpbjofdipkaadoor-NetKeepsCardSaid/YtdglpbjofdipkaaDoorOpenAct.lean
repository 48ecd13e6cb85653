/- A list of acts that came in. -/
import Derived.Test.YtdglpbjofdipkaaDoorOpenK
namespace Go.Proofs.YtdglpbjofdipkaaDoor
open Go.RowKit Go.ChangeShapes Go.WideShapes Go.Ranges
set_option linter.unusedVariables false
set_option linter.unusedSimpArgs false
/-- How a list of acts lies: each act's number, places, bytes. -/
def ActsAt (w : World) (A : Option Addr) (n : Nat) (kd fi ft : Nat → Int) (ft2 : Nat → List Int) : Prop :=
  0 < n → ∃ b o, A = some ⟨b, o, none⟩ ∧ b < w.heap.size ∧ ∀ i, i < n → ∃ B c, hasRange w b (o + i * 4) 4 = true ∧ rangeOf w b (o + i * 4) 4 = #[.int .i64 (kd i), .int .i64 (fi i), .int .i64 (ft i), .slice B (ft2 i).length c] ∧ Lib.BytesIn w B (ft2 i).length (ft2 i) ∧ (ft2 i).length ≤ c ∧ c ≤ maxLen ∧ ∀ y ∈ ft2 i, isByte y
section
variable {H : Type} {enc : TypeId × Value → H} {P : Program} {w : World} {base : Nat} {sp : Nat → Bool} {held : Bool}
theorem field_at {t : TypeId} {fs : Array Field} {fuel : Nat} {cs : List Value} {x : DataW H × List MemPlace} (ht : P.underlying t = some (.struct fs)) (h : DataW.trod enc P w base sp held fuel t cs = some x) (i o n : Nat) (u : TypeId)
    (hf : (fs[i]?).map (fun f => (f.offset, f.type)) = some (o, u)) (hn : P.cellsOf u = n) : ∃ m y, DataW.trod enc P w base sp held m u ((cs.drop o).take n) = some y := by
  obtain ⟨ys, m, _, _, _, hl, hi⟩ := DataW.trod_struct ht h
  cases hq : fs[i]? with
  | none => simp [hq] at hf
  | some f =>
    simp [hq] at hf
    obtain ⟨rfl, rfl⟩ := hf
    have hlt : i < fs.size := (Array.getElem?_eq_some_iff.1 hq).1
    have := hi i f hq
    rw [hn, List.getElem?_eq_getElem (by omega)] at this
    exact ⟨m, _, this⟩
end
/-- What one act holds. -/
def ActIs (w : World) (C : Array Value) (k f t : Int) (xs : List Int) : Prop :=
  ∃ B c, C = #[.int .i64 k, .int .i64 f, .int .i64 t, .slice B xs.length c] ∧ Lib.BytesIn w B xs.length xs ∧ xs.length ≤ c ∧ c ≤ maxLen ∧ ∀ y ∈ xs, isByte y
section
variable {H : Type} {enc : TypeId × Value → H} {w : World} {base : Nat} {sp : Nat → Bool} {held : Bool}
theorem open_act {fuel : Nat} {cs : List Value} {x : DataW H × List MemPlace} (hl : cs.length = 4) (h : DataW.trod enc Tryd.prog w base sp held fuel 86 cs = some x) :
    ∃ k f t xs, ActIs w cs.toArray k f t xs := by
  obtain ⟨m0, y0, g0⟩ := field_at Tryd.underlying86 h 0 0 1 3 (by kernel_rfl) (by kernel_rfl)
  obtain ⟨m1, y1, g1⟩ := field_at Tryd.underlying86 h 1 1 1 3 (by kernel_rfl) (by kernel_rfl)
  obtain ⟨m2, y2, g2⟩ := field_at Tryd.underlying86 h 2 2 1 3 (by kernel_rfl) (by kernel_rfl)
  obtain ⟨m3, y3, g3⟩ := field_at Tryd.underlying86 h 3 3 1 55 (by kernel_rfl) (by kernel_rfl)
  obtain ⟨k, e0, _, _⟩ := DataW.trod_int Tryd.underlying3 g0
  obtain ⟨f, e1, _, _⟩ := DataW.trod_int Tryd.underlying3 g1
  obtain ⟨t, e2, _, _⟩ := DataW.trod_int Tryd.underlying3 g2
  obtain ⟨B, n, c, e3⟩ := slice_one Tryd.underlying55 g3
  rw [e3] at g3
  obtain ⟨xs, x1, x2, x3, x4, x5⟩ := open_bytes Tryd.underlying55 Tryd.underlying5 (by kernel_rfl) g3
  subst x1
  refine ⟨k, f, t, xs, B, c, ?_, x4, x2, x3, x5⟩
  have h0 := take_one e0
  have h1 := take_one e1
  have h2 := take_one e2
  have h3 := take_one e3
  match cs, hl with
  | [a, b, c', d], _ =>
    simp at h0 h1 h2 h3
    subst h0 h1 h2 h3
    rfl
theorem open_acts {fuel : Nat} {A : Option Addr} {n c : Nat} {x : DataW H × List MemPlace} (h : DataW.trod enc Tryd.prog w base sp held fuel 83 [.slice A n c] = some x) :
    ∃ kd fi ft ft2, n ≤ c ∧ c ≤ maxLen ∧ ActsAt w A n kd fi ft ft2 := by
  obtain ⟨F, h1, h2, h3, h4⟩ := open_elems (m := 4) (G := fun C => C.size = 4 → ∃ k f t xs, ActIs w C k f t xs) Tryd.underlying83 (by kernel_rfl) (by decide)
    (fun fu cs y hy hs => open_act (by simpa using hs) hy) h
  by_cases hn : 0 < n
  · obtain ⟨b, o, hA, hlt, hc⟩ := h3 hn
    have each : ∀ i, i < n → ∃ q : Int × Int × Int × List Int, ActIs w (F i) q.1 q.2.1 q.2.2.1 q.2.2.2 := fun i hi => by
      obtain ⟨k, f, t, xs, hh⟩ := h4 i hi (by rw [← (hc i hi).2, size_rangeOf])
      exact ⟨(k, f, t, xs), hh⟩
    obtain ⟨g, hg⟩ := Deep.choose_lt each
    refine ⟨fun i => (g i).1, fun i => (g i).2.1, fun i => (g i).2.2.1, fun i => (g i).2.2.2, h1, h2, fun _ => ⟨b, o, hA, hlt, fun i hi => ?_⟩⟩
    obtain ⟨B, c2, e, k1, k2, k3, k4⟩ := hg i hi
    exact ⟨B, c2, (hc i hi).1, (hc i hi).2.trans e, k1, k2, k3, k4⟩
  · exact ⟨fun _ => 0, fun _ => 0, fun _ => 0, fun _ => [], h1, h2, fun h => absurd h hn⟩
end
end Go.Proofs.YtdglpbjofdipkaaDoor
