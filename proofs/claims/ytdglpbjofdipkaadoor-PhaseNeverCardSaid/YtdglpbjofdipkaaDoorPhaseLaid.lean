/- The errors and the states' names, from the row's condition. -/
import Derived.Test.YtdglpbjofdipkaaDoorLaid
import Derived.Test.YtdglpbjofdipkaaDoorPhase
import Derived.OpenShut
namespace Go.Proofs.YtdglpbjofdipkaaDoor
open Go.RowKit Go.ErrsGen
def namesData : DataW Unit := .agg [.lit (.string [97, 98, 115, 101, 110, 116]), .lit (.string [115, 116, 97, 103, 105, 110, 103]), .lit (.string [115, 101, 114, 118, 105, 110, 103]), .lit (.string [102, 101, 110, 99, 101, 100]), .lit (.string [116, 111, 109, 98, 101, 100]), .lit (.string [103, 111, 110, 101])]
theorem gNames : Tryd.prog.globalNamed "cartage/phase.names" = some 22 := by kernel_rfl
theorem tNames : (Tryd.prog.globals[22]?).map (·.type) = some 101 := by kernel_rfl
theorem names_of_laid {W : World} (h : laidMet Tryd.prog [("cartage/phase.names", namesData)] W) : Names W := by
  obtain ⟨ps, ⟨g0, t0, cs0, f0, p0, q0, hg0, ht0, hv0, hd0, _, _⟩, _, _⟩ := h
  obtain rfl := Option.some.inj (gNames.symm.trans hg0)
  obtain rfl := Option.some.inj (tNames.symm.trans ht0)
  obtain ⟨xs, m1, rfl, hx1, hlen, hn3, hel⟩ := DataW.trod_array Tryd.underlying101 hd0
  have c1 : Tryd.prog.cellsOf 9 = 1 := by kernel_rfl
  have c6 : Tryd.prog.cellsOf 101 = 6 := by kernel_rfl
  obtain ⟨l⟩ := cs0
  simp only [c1, Nat.mul_one] at hel
  rw [c6] at hlen
  simp only [namesData, Prod.mk.injEq, DataW.agg.injEq] at hx1
  intro k hk
  have hcell := World.var?_cell hg0 hv0 k
  have hkl : k < l.length := by rw [show l.length = 6 from hlen]; exact hk
  have h1 := hel k hk
  have e1 : (l.drop k).take 1 = [l[k]] := by rw [List.drop_eq_getElem_cons hkl]; rfl
  rw [show (List.take 1 (List.drop k (Array.mk l).toList)) = (l.drop k).take 1 from rfl, e1] at h1
  have hxk : k < xs.length := by omega
  rw [List.getElem?_eq_getElem hxk] at h1
  obtain ⟨s, hs1, hs2, _⟩ := DataW.trod_string Tryd.underlying9 h1
  simp only [List.cons.injEq, and_true] at hs1
  have hx : (xs.map (fun x => x.1))[k]? = some (.lit (.string s.data.toList)) := by
    rw [List.getElem?_map, List.getElem?_eq_getElem hxk, hs2]; rfl
  rw [← hx1.1] at hx
  have hsd : s = nameB k := by
    have key : s.data.toList = (nameB k).data.toList := by
      match k, hk, hx with
      | 0, _, hx => simpa [nameB] using hx.symm
      | 1, _, hx => simpa [nameB] using hx.symm
      | 2, _, hx => simpa [nameB] using hx.symm
      | 3, _, hx => simpa [nameB] using hx.symm
      | 4, _, hx => simpa [nameB] using hx.symm
      | 5, _, hx => simpa [nameB] using hx.symm
      | n + 6, h, _ => exact absurd h (by omega)
    cases s with
    | mk d =>
      cases hn : nameB k with
      | mk d2 =>
        rw [hn] at key
        have e : d = d2 := Array.toList_inj.1 key
        rw [e]
  rw [hcell]
  subst hsd
  simp [List.getElem?_eq_getElem hkl, hs1]
end Go.Proofs.YtdglpbjofdipkaaDoor
