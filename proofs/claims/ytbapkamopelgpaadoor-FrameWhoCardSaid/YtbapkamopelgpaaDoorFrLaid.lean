/- From the condition that the listed variables lie as the program's text lays them, to what frames' walks ask. -/
import Derived.Test.YtbapkamopelgpaaDoorFrG
import Derived.Test.YtbapkamopelgpaaDoorMsgLaid
import Derived.MakeChecks
import Derived.LaidMore
import Derived.Stop.Joined
namespace Go.Proofs.YtbapkamopelgpaaDoor
open Go.RowKit Go.ErrsGen Go.ChangeShapes Go.WideShapes Go.Ranges
set_option linter.unusedVariables false
set_option linter.unusedSimpArgs false
section
variable {H : Type} {enc : TypeId × Value → H} {P : Program} {w : World} {base : Nat} {sp : Nat → Bool} {held : Bool}
theorem laid_words {t e : TypeId} {n fuel : Nat} {cs : List Value} {ns : List Nat} {p : List MemPlace} (ht : P.underlying t = some (.array n e)) (he : P.underlying e = some (.int .u32)) (h1 : P.cellsOf e = 1)
    (h : DataW.trod enc P w base sp held fuel t cs = some (.agg (ns.map fun (k : Nat) => .lit (.int .u32 (k : Int))), p)) : cs.length = P.cellsOf t ∧ ∀ i, i < n → cs[i]? = some (.int .u32 ((ns.getD i 0 : Nat) : Int)) := by
  obtain ⟨xs, m, _, hx, hl, hlen, hi⟩ := DataW.trod_array ht h
  rw [h1] at hi
  injection hx with hx _
  injection hx with hx
  refine ⟨hl, fun i hin => ?_⟩
  have h2 := hi i hin
  rw [Nat.mul_one, List.getElem?_eq_getElem (by omega)] at h2
  obtain ⟨a, e1, e2, _⟩ := DataW.trod_int he h2
  have h3 := take_one e1
  rw [h3]
  have h4 : (xs.map (·.1))[i]? = some (DataW.lit (.int .u32 a)) := by
    rw [List.getElem?_map, List.getElem?_eq_getElem (by omega), e2]
    rfl
  rw [← hx, List.getElem?_map] at h4
  cases hq : ns[i]? with
  | none => rw [hq] at h4; simp at h4
  | some k =>
    rw [hq] at h4
    simp only [Option.map_some, Option.some.injEq, DataW.lit.injEq, Lit.int.injEq, true_and] at h4
    rw [List.getD_eq_getElem?_getD, hq, ← h4]
    rfl
end
def startN : List Nat := [0x6a09e667, 0xbb67ae85, 0x3c6ef372, 0xa54ff53a, 0x510e527f, 0x9b05688c, 0x1f83d9ab, 0x5be0cd19]
theorem kf_num (i : Nat) (hi : i < 64) : ((Sha.grains.getD i 0 : Nat) : Int) = num (Sha.kf i) := by
  have key : ∀ n : Fin 64, ((Sha.grains.getD n.val 0 : Nat) : Int) = num (Sha.kf n.val) := by decide +kernel
  exact key ⟨i, hi⟩
theorem start_num (i : Nat) (hi : i < 8) : ((startN.getD i 0 : Nat) : Int) = num (vget Sha.start i) := by
  have key : ∀ n : Fin 8, ((startN.getD n.val 0 : Nat) : Int) = num (vget Sha.start n.val) := by decide +kernel
  exact key ⟨i, hi⟩
theorem env_shaR {R : List (String × DataW Unit)} {W : World} (h : laidMet Tryd.prog (("cartage/sha.grains", Rows.laid_cartage_sha_grains) :: ("cartage/sha.start", Rows.laid_cartage_sha_start) :: R) W) : Grains W ∧ Start W := by
  obtain ⟨ps, ⟨g0, t0, cs0, f0, p0, q0, hg0, ht0, hv0, hd0, ⟨g1, t1, cs1, f1, p1, q1, hg1, ht1, hv1, hd1, _, _⟩, _⟩, _, _⟩ := h
  obtain rfl : g0 = 24 := Option.some.inj ((show Tryd.prog.globalNamed "cartage/sha.grains" = some 24 by kernel_rfl).symm.trans hg0) |>.symm
  obtain rfl : g1 = 23 := Option.some.inj ((show Tryd.prog.globalNamed "cartage/sha.start" = some 23 by kernel_rfl).symm.trans hg1) |>.symm
  obtain rfl : t0 = 161 := Option.some.inj ((show (Tryd.prog.globals[24]?).map (·.type) = some 161 by kernel_rfl).symm.trans ht0) |>.symm
  obtain rfl : t1 = 147 := Option.some.inj ((show (Tryd.prog.globals[23]?).map (·.type) = some 147 by kernel_rfl).symm.trans ht1) |>.symm
  have e0 : (Rows.laid_cartage_sha_grains : DataW Unit) = .agg (Sha.grains.map fun (k : Nat) => .lit (.int .u32 (k : Int))) := by kernel_rfl
  have e1 : (Rows.laid_cartage_sha_start : DataW Unit) = .agg (startN.map fun (k : Nat) => .lit (.int .u32 (k : Int))) := by kernel_rfl
  rw [e0] at hd0
  rw [e1] at hd1
  obtain ⟨l0, k0⟩ := laid_words Tryd.underlying161 Tryd.underlying126 (by kernel_rfl) hd0
  obtain ⟨l1, k1⟩ := laid_words Tryd.underlying147 Tryd.underlying126 (by kernel_rfl) hd1
  have c0 : ∀ i, i < 64 → W.cell? ⟨24, i, none⟩ = some (.int .u32 (num (Sha.kf i))) := fun i hi => by
    rw [World.var?_cell hg0 hv0 i, ← Array.getElem?_toList, k0 i hi, kf_num i hi]
  have c1 : ∀ i, i < 8 → W.cell? ⟨23, i, none⟩ = some (.int .u32 (num (vget Sha.start i))) := fun i hi => by
    rw [World.var?_cell hg1 hv1 i, ← Array.getElem?_toList, k1 i hi, start_num i hi]
  refine ⟨⟨World.block_lt_of_cell? W _ (c0 0 (by decide)), c0⟩, ⟨World.block_lt_of_cell? W _ (c1 0 (by decide)), ?_, ⟨size_rangeOf _ _ _ _, fun j hj => rangeOf_get hj (by rw [Nat.zero_add]; exact c1 j hj)⟩⟩⟩
  unfold hasRange
  rw [List.all_eq_true]
  intro j hj
  rw [Nat.zero_add, c1 j (List.mem_range.1 hj)]
  rfl
theorem env_names {W : World} (h : laidMetH Tryd.prog Rows.frameNamesRow.laid W) : ∃ a, FrV W a := by
  have h2 : laidMet Tryd.prog (("math/bits.deBruijn32tab", Rows.laid_math_bits_deBruijn32tab) :: ("math/bits.deBruijn64tab", Rows.laid_math_bits_deBruijn64tab) :: ("internal/strconv.uint64pow10", Rows.laid_internal_strconv_uint64pow10) :: ("unicode/utf8.acceptRanges", Rows.laid_unicode_utf8_acceptRanges) ::
      ((errL [1, 7, 13]).map (fun x => (x.1, sent "*errors.errorString" x.2.1)) ++ (("cartage/sha.grains", Rows.laid_cartage_sha_grains) :: ("cartage/sha.start", Rows.laid_cartage_sha_start) :: [("unicode/utf8.first", Rows.laid_unicode_utf8_first)]))) W := h
  obtain ⟨⟨a, ha⟩, hr⟩ := errsOn_of_laid [1, 7, 13] (by decide) (by decide) _ (laidMet_tail (laidMet_tail (laidMet_tail (laidMet_tail h2))))
  obtain ⟨g, s⟩ := env_shaR hr
  exact ⟨a, ha.cell 1 (by decide), ha.cell 13 (by decide), g, s⟩
end Go.Proofs.YtbapkamopelgpaaDoor
