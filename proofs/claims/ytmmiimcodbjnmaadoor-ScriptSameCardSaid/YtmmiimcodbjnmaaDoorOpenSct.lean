/- An act that came in. -/
import Derived.Test.YtmmiimcodbjnmaaDoorOpenK
import Derived.Test.YtmmiimcodbjnmaaDoorScD
import Derived.OpenShut
namespace Go.Proofs.YtmmiimcodbjnmaaDoor
open Go.RowKit Go.ChangeShapes Go.WideShapes Go.Ranges
set_option linter.unusedVariables false
set_option linter.unusedSimpArgs false
set_option maxRecDepth 20000
section
variable {H : Type} {enc : TypeId × Value → H} {P : Program} {w : World} {base : Nat} {sp : Nat → Bool} {held : Bool}
theorem field_atS {t : TypeId} {fs : Array Field} {fuel : Nat} {cs : List Value} {x : DataW H × List MemPlace} (ht : P.underlying t = some (.struct fs)) (h : DataW.trod enc P w base sp held fuel t cs = some x) (i o n : Nat) (u : TypeId)
    (hf : (fs[i]?).map (fun f => (f.offset, f.type)) = some (o, u)) (hn : P.cellsOf u = n) : ∃ m y, DataW.trod enc P w base sp held m u ((cs.drop o).take n) = some y := by
  obtain ⟨ys, m, _, _, _, hl, hi⟩ := DataW.trod_struct ht h
  cases hq : fs[i]? with
  | none => simp [hq] at hf
  | some f =>
    simp [hq] at hf
    obtain ⟨rfl, rfl⟩ := hf
    have hlt : i < fs.size := (Array.getElem?_eq_some_iff.1 hq).1
    have := hi i f hq
    rw [hn, List.getElem?_eq_getElem (by omega)] at this
    exact ⟨m, _, this⟩
end
/-- A slice of truths. -/
theorem open_bools {H : Type} {enc : TypeId × Value → H} {P : Program} {w : World} {base : Nat} {sp : Nat → Bool} {held : Bool} {t e : TypeId} {fuel : Nat} {A : Option Addr} {n c : Nat} {x : DataW H × List MemPlace} (ht : P.underlying t = some (.slice e)) (he : P.underlying e = some .bool) (hC : P.cellsOf e = 1)
    (h : DataW.trod enc P w base sp held fuel t [.slice A n c] = some x) : ∃ xs : List Bool, xs.length = n ∧ n ≤ c ∧ c ≤ maxLen ∧ BoolsIn w A n xs := by
  obtain ⟨f, h1, h2, h3, h4⟩ := open_elems (G := fun C => ∃ y : Bool, C[0]? = some (.bool y)) ht hC (by decide) (fun fu cs y hy => by
    obtain ⟨v, hv, _⟩ := DataW.trod_bool he hy
    subst hv
    exact ⟨v, rfl⟩) h
  obtain ⟨g, hg⟩ := Deep.choose_lt h4
  refine ⟨(List.range n).map g, by simp, h1, h2, fun hn => ?_⟩
  obtain ⟨b, o, rfl, _, hc⟩ := h3 hn
  refine ⟨b, o, rfl, fun i hi => ?_⟩
  obtain ⟨k1, k2⟩ := hc i hi
  have e0 := hg i hi
  rw [← k2] at e0
  obtain ⟨v, hv⟩ := has_at k1 (show 0 < 1 by decide)
  rw [rangeOf_get (by decide) hv] at e0
  rw [Nat.mul_one, Nat.add_zero] at hv
  rw [hv, e0]
  simp [List.getD, hi]
structure SactOk (w : World) (M : Sact) (B K : Option Addr) (cb ck : Nat) : Prop where
  at_ : ActIn w M B K
  kl : M.keep.length ≤ maxLen
theorem open_sact {H : Type} {enc : TypeId × Value → H} {w : World} {base b0 : Nat} {sp : Nat → Bool} {held : Bool} {r : Reach} {v : Value} {d : DataW H} {p : List MemPlace}
    (hv : Value.okWide Tryd.prog w r b0 37 v) (h : DataW.Trod enc Tryd.prog w base sp held 37 v d p) : ∃ M B cb K ck, v = .agg (actA M B cb K ck) ∧ SactOk w M B K cb ck := by
  obtain ⟨cs, rfl, hsz⟩ := okWide_struct Tryd.underlying37 hv
  have hC : Tryd.prog.cellsOf 37 = 7 := by kernel_rfl
  rw [hC] at hsz
  obtain ⟨fuel, h⟩ := h
  have h' : DataW.trod enc Tryd.prog w base sp held fuel 37 cs.toList = some (d, p) := h
  obtain ⟨m0, y0, g0⟩ := field_atS Tryd.underlying37 h' 0 0 1 3 (by kernel_rfl) (by kernel_rfl)
  obtain ⟨m1, y1, g1⟩ := field_atS Tryd.underlying37 h' 1 1 1 3 (by kernel_rfl) (by kernel_rfl)
  obtain ⟨m2, y2, g2⟩ := field_atS Tryd.underlying37 h' 2 2 1 3 (by kernel_rfl) (by kernel_rfl)
  obtain ⟨m3, y3, g3⟩ := field_atS Tryd.underlying37 h' 3 3 1 3 (by kernel_rfl) (by kernel_rfl)
  obtain ⟨m4, y4, g4⟩ := field_atS Tryd.underlying37 h' 4 4 1 9 (by kernel_rfl) (by kernel_rfl)
  obtain ⟨m5, y5, g5⟩ := field_atS Tryd.underlying37 h' 5 5 1 34 (by kernel_rfl) (by kernel_rfl)
  obtain ⟨m6, y6, g6⟩ := field_atS Tryd.underlying37 h' 6 6 1 35 (by kernel_rfl) (by kernel_rfl)
  obtain ⟨v0, e0, _, _⟩ := DataW.trod_int Tryd.underlying3 g0
  obtain ⟨v1, e1, _, _⟩ := DataW.trod_int Tryd.underlying3 g1
  obtain ⟨v2, e2, _, _⟩ := DataW.trod_int Tryd.underlying3 g2
  obtain ⟨v3, e3, _, _⟩ := DataW.trod_int Tryd.underlying3 g3
  obtain ⟨s4, e4, _⟩ := DataW.trod_string Tryd.underlying9 g4
  obtain ⟨B, nb, cb, e5⟩ := slice_one Tryd.underlying34 g5
  obtain ⟨K, nk, ck, e6⟩ := slice_one Tryd.underlying35 g6
  rw [e5] at g5
  rw [e6] at g6
  obtain ⟨xs, x1, x2, x3, x4, _⟩ := open_bytes Tryd.underlying34 Tryd.underlying5 (by kernel_rfl) g5
  obtain ⟨ks, z1, z2, z3, z4⟩ := open_bools Tryd.underlying35 Tryd.underlying4 (by kernel_rfl) g6
  subst x1 z1
  refine ⟨⟨v0, v1, v2, v3, s4, xs, ks⟩, B, cb, K, ck, ?_, ⟨x4, z4⟩, Nat.le_trans z2 z3⟩
  have h0 := take_one e0
  have h1 := take_one e1
  have h2 := take_one e2
  have h3 := take_one e3
  have h4 := take_one e4
  have h5 := take_one e5
  have h6 := take_one e6
  have hs : cs.toList.length = 7 := by simpa using hsz
  have hcs : cs = cs.toList.toArray := rfl
  rw [hcs]
  congr 1
  generalize cs.toList = l at *
  match l, hs with
  | [a, b, c, d, e, f, g], _ =>
    simp at h0 h1 h2 h3 h4 h5 h6
    subst h0 h1 h2 h3 h4 h5 h6
    rfl
end Go.Proofs.YtmmiimcodbjnmaaDoor
