/- What the laid row of LinesWords holds. -/
import Derived.Test.YtmmiimcodbjnmaaDoorErrOn
import Derived.Test.YtmmiimcodbjnmaaDoorLnW
namespace Go.Proofs.YtmmiimcodbjnmaaDoor
open Go.RowKit Go.ErrsGen Go.ChangeShapes
set_option linter.unusedVariables false
set_option linter.unusedSimpArgs false
set_option maxRecDepth 100000
theorem gLiW : Tryd.prog.globalNamed "cartage/lines.words" = some 0 := by kernel_rfl
theorem tLiW : (Tryd.prog.globals[0]?).map (·.type) = some 86 := by kernel_rfl
theorem liWords_of_laid {W : World} (r : List (String × DataW Unit)) (h : laidMet Tryd.prog (("cartage/lines.words", Rows.laid_cartage_lines_words) :: r) W) : LWords W := by
  obtain ⟨ps, ⟨g0, t0, cs0, f0, p0, q0, hg0, ht0, hv0, hd0, _, _⟩, _, _⟩ := h
  obtain rfl := Option.some.inj (gLiW.symm.trans hg0)
  obtain rfl := Option.some.inj (tLiW.symm.trans ht0)
  obtain ⟨xs, m1, rfl, hx1, hlen, hn3, hel⟩ := DataW.trod_array Tryd.underlying86 hd0
  have c1 : Tryd.prog.cellsOf 9 = 1 := by kernel_rfl
  have c6 : Tryd.prog.cellsOf 86 = 11 := by kernel_rfl
  obtain ⟨l⟩ := cs0
  simp only [c1, Nat.mul_one] at hel
  rw [c6] at hlen
  simp only [Rows.laid_cartage_lines_words, Prod.mk.injEq, DataW.agg.injEq] at hx1
  intro k hk
  have hcell := World.var?_cell hg0 hv0 k
  have hkl : k < l.length := by rw [show l.length = 11 from hlen]; exact hk
  have h1 := hel k hk
  have e1 : (l.drop k).take 1 = [l[k]] := by rw [List.drop_eq_getElem_cons hkl]; rfl
  rw [show (List.take 1 (List.drop k (Array.mk l).toList)) = (l.drop k).take 1 from rfl, e1] at h1
  have hxk : k < xs.length := by omega
  rw [List.getElem?_eq_getElem hxk] at h1
  obtain ⟨s, hs1, hs2, _⟩ := DataW.trod_string Tryd.underlying9 h1
  simp only [List.cons.injEq, and_true] at hs1
  have hx : (xs.map (fun x => x.1))[k]? = some (.lit (.string s.data.toList)) := by
    rw [List.getElem?_map, List.getElem?_eq_getElem hxk, hs2]; rfl
  rw [← hx1.1] at hx
  have hsd : s = liW k := by
    have key : s.data.toList = (liW k).data.toList := by
      match k, hk, hx with
      | 0, _, hx => simpa [liW] using hx.symm
      | 1, _, hx => simpa [liW] using hx.symm
      | 2, _, hx => simpa [liW] using hx.symm
      | 3, _, hx => simpa [liW] using hx.symm
      | 4, _, hx => simpa [liW] using hx.symm
      | 5, _, hx => simpa [liW] using hx.symm
      | 6, _, hx => simpa [liW] using hx.symm
      | 7, _, hx => simpa [liW] using hx.symm
      | 8, _, hx => simpa [liW] using hx.symm
      | 9, _, hx => simpa [liW] using hx.symm
      | 10, _, hx => simpa [liW] using hx.symm
      | n + 11, h, _ => exact absurd h (by omega)
    cases s with
    | mk d =>
      cases hn : liW k with
      | mk d2 =>
        rw [hn] at key
        have e : d = d2 := Array.toList_inj.1 key
        rw [e]
  rw [hcell]
  subst hsd
  simp [List.getElem?_eq_getElem hkl, hs1]
theorem gLiO : Tryd.prog.globalNamed "cartage/lines.ops" = some 1 := by kernel_rfl
theorem tLiO : (Tryd.prog.globals[1]?).map (·.type) = some 88 := by kernel_rfl
theorem liOps_of_laid {W : World} (r : List (String × DataW Unit)) (h : laidMet Tryd.prog (("cartage/lines.ops", Rows.laid_cartage_lines_ops) :: r) W) : LOps W := by
  obtain ⟨ps, ⟨g0, t0, cs0, f0, p0, q0, hg0, ht0, hv0, hd0, _, _⟩, _, _⟩ := h
  obtain rfl := Option.some.inj (gLiO.symm.trans hg0)
  obtain rfl := Option.some.inj (tLiO.symm.trans ht0)
  obtain ⟨xs, m1, rfl, hx1, hlen, hn3, hel⟩ := DataW.trod_array Tryd.underlying88 hd0
  have c1 : Tryd.prog.cellsOf 9 = 1 := by kernel_rfl
  have c6 : Tryd.prog.cellsOf 88 = 6 := by kernel_rfl
  obtain ⟨l⟩ := cs0
  simp only [c1, Nat.mul_one] at hel
  rw [c6] at hlen
  simp only [Rows.laid_cartage_lines_ops, Prod.mk.injEq, DataW.agg.injEq] at hx1
  intro k hk
  have hcell := World.var?_cell hg0 hv0 k
  have hkl : k < l.length := by rw [show l.length = 6 from hlen]; exact hk
  have h1 := hel k hk
  have e1 : (l.drop k).take 1 = [l[k]] := by rw [List.drop_eq_getElem_cons hkl]; rfl
  rw [show (List.take 1 (List.drop k (Array.mk l).toList)) = (l.drop k).take 1 from rfl, e1] at h1
  have hxk : k < xs.length := by omega
  rw [List.getElem?_eq_getElem hxk] at h1
  obtain ⟨s, hs1, hs2, _⟩ := DataW.trod_string Tryd.underlying9 h1
  simp only [List.cons.injEq, and_true] at hs1
  have hx : (xs.map (fun x => x.1))[k]? = some (.lit (.string s.data.toList)) := by
    rw [List.getElem?_map, List.getElem?_eq_getElem hxk, hs2]; rfl
  rw [← hx1.1] at hx
  have hsd : s = opW k := by
    have key : s.data.toList = (opW k).data.toList := by
      match k, hk, hx with
      | 0, _, hx => simpa [opW] using hx.symm
      | 1, _, hx => simpa [opW] using hx.symm
      | 2, _, hx => simpa [opW] using hx.symm
      | 3, _, hx => simpa [opW] using hx.symm
      | 4, _, hx => simpa [opW] using hx.symm
      | 5, _, hx => simpa [opW] using hx.symm
      | n + 6, h, _ => exact absurd h (by omega)
    cases s with
    | mk d =>
      cases hn : opW k with
      | mk d2 =>
        rw [hn] at key
        have e : d = d2 := Array.toList_inj.1 key
        rw [e]
  rw [hcell]
  subst hsd
  simp [List.getElem?_eq_getElem hkl, hs1]
theorem gPow : Tryd.prog.globalNamed "internal/strconv.uint64pow10" = some 24 := by kernel_rfl
theorem tPow : (Tryd.prog.globals[24]?).map (·.type) = some 185 := by kernel_rfl
theorem env_lines {W : World} (h : laidMetH Tryd.prog Rows.linesWordsRow.laid W) : LnV W := by
  have h2 : laidMet Tryd.prog [("math/bits.deBruijn32tab", Rows.laid_math_bits_deBruijn32tab), ("math/bits.deBruijn64tab", Rows.laid_math_bits_deBruijn64tab), ("internal/strconv.uint64pow10", Rows.laid_internal_strconv_uint64pow10), ("cartage/lines.words", Rows.laid_cartage_lines_words), ("cartage/lines.ops", Rows.laid_cartage_lines_ops)] W := h
  have h3 := laidMet_tail (laidMet_tail h2)
  have e : (Rows.laid_internal_strconv_uint64pow10 : DataW Unit) = Lib.tabData .u64 Lib.pow10Tab := by rfl
  have h4 := laidMet_tail h3
  rw [e] at h3
  exact ⟨liWords_of_laid _ h4, liOps_of_laid _ (laidMet_tail h4), Lib.tabIs_of_head gPow tPow Tryd.underlying185 Tryd.underlying157 (by kernel_rfl) (by kernel_rfl) h3⟩
theorem env_words {W : World} (h : laidMetH Tryd.prog Rows.linesWordsRow.laid W) : ∃ _ : Nat, LnV W := ⟨0, env_lines h⟩
theorem i64_wf {n : Int} (h : (Lit.int .i64 n).wf = true) : -9223372036854775808 ≤ n ∧ n ≤ 9223372036854775807 := by
  simp [Lit.wf, IntKind.min, IntKind.max, IntKind.signed, IntKind.bits] at h
  omega
end Go.Proofs.YtmmiimcodbjnmaaDoor
