/- The errors and the kinds' words, from the rows' conditions. From the condition that the listed variables lie as the program's text lays them, to what frames' walks ask. What the laid rows of FrameBytes and FrameParse hold. -/
import Derived.Test.YtbapkamopelgpaaDoorFrameBytesYD
import Derived.OpenShut
import Derived.LaidSub
import Derived.MakeChecks
import Derived.LaidMore
import Derived.Stop.Joined
namespace Go.Proofs.YtbapkamopelgpaaDoor
open Go.RowKit Go.ErrsGen Go.ChangeShapes
set_option linter.unusedVariables false
set_option linter.unusedSimpArgs false
theorem laidMet_tail {P : Program} {x : String × DataW Unit} {r : List (String × DataW Unit)} {W : World} (h : laidMet P (x :: r) W) : laidMet P r W := by
  obtain ⟨ps, ⟨g0, t0, cs0, f0, p0, q0, hg0, ht0, hv0, hd0, htail, e0⟩, hnd, hrows⟩ := h
  subst e0
  exact ⟨q0, htail, (List.nodup_append.1 hnd).2.1, fun b off hm => hrows b off (by simp [hm])⟩
/-- Some of the errors. -/
def errL (ns : List Nat) : List (String × List UInt8 × Nat) := ns.map fun n => errList.getD (n - 1) ("", [], 0)
/-- Some of the errors lie as the initialisers laid them. -/
structure ErrsOn (ns : List Nat) (W : World) (a : Nat → Addr) : Prop where
  cell : ∀ n, n ∈ ns → ErrC W a n
  row : ∀ n, n ∈ ns → ∃ c t, W.heap[(a n).block]? = some (.cells c t (0, 0))
  ne : ∀ n m, n ∈ ns → m ∈ ns → a n = a m → n = m
theorem ErrsOn.below {ns : List Nat} {W W' : World} {a : Nat → Addr} (h : ErrsOn ns W a) (hb : Below W.heap.size W W') : ErrsOn ns W' a := by
  refine ⟨fun n hn => (h.cell n hn).below hb, fun n hn => ?_, h.ne⟩
  obtain ⟨c, t, hr⟩ := h.row n hn
  refine ⟨c, t, (hb.block _ ?_).trans hr⟩
  rcases Nat.lt_or_ge (a n).block W.heap.size with h' | h'
  · exact h'
  · simp [Array.getElem?_eq_none h'] at hr
theorem errL_globals (ns : List Nat) (hns : ∀ n ∈ ns, 1 ≤ n ∧ n ≤ 22) : ∀ x ∈ errL ns, Tryd.prog.globalNamed x.1 = some x.2.2 ∧ (Tryd.prog.globals[x.2.2]?).map (·.type) = some 35 := by
  intro x hx
  obtain ⟨n, hn, rfl⟩ := List.mem_map.1 hx
  obtain ⟨h1, h2⟩ := hns n hn
  apply errList_globals
  have hl : errList.length = 22 := rfl
  rw [List.getD_eq_getElem?_getD, List.getElem?_eq_getElem (by omega)]
  exact List.getElem_mem _
theorem errsOn_of_laid (ns : List Nat) (hns : ∀ n ∈ ns, 1 ≤ n ∧ n ≤ 22) (hnd : ns.Nodup) {W : World} (r : List (String × DataW Unit)) (h : laidMet Tryd.prog ((errL ns).map (fun x => (x.1, sent "*errors.errorString" x.2.1)) ++ r) W) :
    (∃ a, ErrsOn ns W a) ∧ laidMet Tryd.prog r W := by
  obtain ⟨ads, hlen, hr, hinj, hat⟩ := sentinels (P := Tryd.prog) (nm := "*errors.errorString") (tp := 198) (te := 223) (ts := 9) Tryd.underlying35 rowErr Tryd.underlying198 Tryd.underlying223 rfl rfl Tryd.underlying9 (by kernel_rfl) (by kernel_rfl) (errL ns) (errL_globals ns hns) r h
  have hlen2 : ads.length = ns.length := by rw [hlen]; simp [errL]
  have hidx : ∀ n ∈ ns, ∃ i, ns[i]? = some n ∧ ads[i]? = some (ads.getD (ns.idxOf n) ⟨0, 0, none⟩) ∧ i = ns.idxOf n := fun n hn => by
    have h1 : ns.idxOf n < ns.length := List.idxOf_lt_length_of_mem hn
    refine ⟨ns.idxOf n, by rw [List.getElem?_eq_getElem h1, List.getElem_idxOf], ?_, rfl⟩
    rw [List.getD_eq_getElem?_getD, List.getElem?_eq_getElem (by omega)]
    rfl
  have hel : ∀ n ∈ ns, ∀ i, ns[i]? = some n → ∃ x : String × List UInt8 × Nat, (errL ns)[i]? = some x ∧ x.2.2 = gErr n := fun n hn i hi => by
    obtain ⟨h1, h2⟩ := hns n hn
    obtain ⟨x, hx, hg⟩ := errList_g n h1 h2
    refine ⟨x, ?_, hg⟩
    unfold errL
    rw [List.getElem?_map, hi]
    simp [List.getD, hx]
  refine ⟨⟨fun n => ads.getD (ns.idxOf n) ⟨0, 0, none⟩, ?_, ?_, ?_⟩, hr⟩
  · intro n hn
    obtain ⟨i, hi, ha, _⟩ := hidx n hn
    obtain ⟨x, hx, hg⟩ := hel n hn i hi
    have := (hat i x _ hx ha).1
    unfold ErrC
    rw [← hg]
    exact this
  · intro n hn
    obtain ⟨i, hi, ha, _⟩ := hidx n hn
    obtain ⟨x, hx, hg⟩ := hel n hn i hi
    exact (hat i x _ hx ha).2.2
  · intro n m hn hm e
    obtain ⟨i, hi, ha, ei⟩ := hidx n hn
    obtain ⟨j, hj, hb, ej⟩ := hidx m hm
    have hij := hinj i j _ ha (by rw [hb]; exact congrArg some e.symm)
    rw [hij, hj] at hi
    exact (Option.some.inj hi).symm
theorem gWords : Tryd.prog.globalNamed "cartage/message.words" = some 0 := by kernel_rfl
theorem tWords : (Tryd.prog.globals[0]?).map (·.type) = some 85 := by kernel_rfl
theorem words_of_laid {W : World} (r : List (String × DataW Unit)) (h : laidMet Tryd.prog (("cartage/message.words", Rows.laid_cartage_message_words) :: r) W) : Words W := by
  obtain ⟨ps, ⟨g0, t0, cs0, f0, p0, q0, hg0, ht0, hv0, hd0, _, _⟩, _, _⟩ := h
  obtain rfl := Option.some.inj (gWords.symm.trans hg0)
  obtain rfl := Option.some.inj (tWords.symm.trans ht0)
  obtain ⟨xs, m1, rfl, hx1, hlen, hn3, hel⟩ := DataW.trod_array Tryd.underlying85 hd0
  have c1 : Tryd.prog.cellsOf 9 = 1 := by kernel_rfl
  have c6 : Tryd.prog.cellsOf 85 = 11 := by kernel_rfl
  obtain ⟨l⟩ := cs0
  simp only [c1, Nat.mul_one] at hel
  rw [c6] at hlen
  simp only [Rows.laid_cartage_message_words, Prod.mk.injEq, DataW.agg.injEq] at hx1
  intro k hk
  have hcell := World.var?_cell hg0 hv0 k
  have hkl : k < l.length := by rw [show l.length = 11 from hlen]; exact hk
  have h1 := hel k hk
  have e1 : (l.drop k).take 1 = [l[k]] := by rw [List.drop_eq_getElem_cons hkl]; rfl
  rw [show (List.take 1 (List.drop k (Array.mk l).toList)) = (l.drop k).take 1 from rfl, e1] at h1
  have hxk : k < xs.length := by omega
  rw [List.getElem?_eq_getElem hxk] at h1
  obtain ⟨s, hs1, hs2, _⟩ := DataW.trod_string Tryd.underlying9 h1
  simp only [List.cons.injEq, and_true] at hs1
  have hx : (xs.map (fun x => x.1))[k]? = some (.lit (.string s.data.toList)) := by
    rw [List.getElem?_map, List.getElem?_eq_getElem hxk, hs2]; rfl
  rw [← hx1.1] at hx
  have hsd : s = wordB k := by
    have key : s.data.toList = (wordB k).data.toList := by
      match k, hk, hx with
      | 0, _, hx => simpa [wordB] using hx.symm
      | 1, _, hx => simpa [wordB] using hx.symm
      | 2, _, hx => simpa [wordB] using hx.symm
      | 3, _, hx => simpa [wordB] using hx.symm
      | 4, _, hx => simpa [wordB] using hx.symm
      | 5, _, hx => simpa [wordB] using hx.symm
      | 6, _, hx => simpa [wordB] using hx.symm
      | 7, _, hx => simpa [wordB] using hx.symm
      | 8, _, hx => simpa [wordB] using hx.symm
      | 9, _, hx => simpa [wordB] using hx.symm
      | 10, _, hx => simpa [wordB] using hx.symm
      | n + 11, h, _ => exact absurd h (by omega)
    cases s with
    | mk d =>
      cases hn : wordB k with
      | mk d2 =>
        rw [hn] at key
        have e : d = d2 := Array.toList_inj.1 key
        rw [e]
  rw [hcell]
  subst hsd
  simp [List.getElem?_eq_getElem hkl, hs1]
theorem env_same {W : World} (h : laidMetH Tryd.prog Rows.messageSameRow.laid W) : ∃ a, MsgV W a := by
  have h2 : laidMet Tryd.prog (("unicode/utf8.acceptRanges", Rows.laid_unicode_utf8_acceptRanges) :: ((errL [1, 7, 13]).map (fun x => (x.1, sent "*errors.errorString" x.2.1)) ++ [("cartage/message.words", Rows.laid_cartage_message_words), ("unicode/utf8.first", Rows.laid_unicode_utf8_first)])) W := h
  obtain ⟨⟨a, ha⟩, hr⟩ := errsOn_of_laid [1, 7, 13] (by decide) (by decide) _ (laidMet_tail h2)
  exact ⟨a, words_of_laid _ hr, ha.cell 1 (by decide), ha.cell 7 (by decide), ha.cell 13 (by decide)⟩
end Go.Proofs.YtbapkamopelgpaaDoor

namespace Go.Proofs.YtbapkamopelgpaaDoor
open Go.RowKit Go.ErrsGen Go.ChangeShapes Go.WideShapes Go.Ranges
set_option linter.unusedVariables false
set_option linter.unusedSimpArgs false
section
variable {H : Type} {enc : TypeId × Value → H} {P : Program} {w : World} {base : Nat} {sp : Nat → Bool} {held : Bool}
theorem laid_words {t e : TypeId} {n fuel : Nat} {cs : List Value} {ns : List Nat} {p : List MemPlace} (ht : P.underlying t = some (.array n e)) (he : P.underlying e = some (.int .u32)) (h1 : P.cellsOf e = 1)
    (h : DataW.trod enc P w base sp held fuel t cs = some (.agg (ns.map fun (k : Nat) => .lit (.int .u32 (k : Int))), p)) : cs.length = P.cellsOf t ∧ ∀ i, i < n → cs[i]? = some (.int .u32 ((ns.getD i 0 : Nat) : Int)) := by
  obtain ⟨xs, m, _, hx, hl, hlen, hi⟩ := DataW.trod_array ht h
  rw [h1] at hi
  injection hx with hx _
  injection hx with hx
  refine ⟨hl, fun i hin => ?_⟩
  have h2 := hi i hin
  rw [Nat.mul_one, List.getElem?_eq_getElem (by omega)] at h2
  obtain ⟨a, e1, e2, _⟩ := DataW.trod_int he h2
  have h3 := take_one e1
  rw [h3]
  have h4 : (xs.map (·.1))[i]? = some (DataW.lit (.int .u32 a)) := by
    rw [List.getElem?_map, List.getElem?_eq_getElem (by omega), e2]
    rfl
  rw [← hx, List.getElem?_map] at h4
  cases hq : ns[i]? with
  | none => rw [hq] at h4; simp at h4
  | some k =>
    rw [hq] at h4
    simp only [Option.map_some, Option.some.injEq, DataW.lit.injEq, Lit.int.injEq, true_and] at h4
    rw [List.getD_eq_getElem?_getD, hq, ← h4]
    rfl
end
def startN : List Nat := [0x6a09e667, 0xbb67ae85, 0x3c6ef372, 0xa54ff53a, 0x510e527f, 0x9b05688c, 0x1f83d9ab, 0x5be0cd19]
theorem kf_num (i : Nat) (hi : i < 64) : ((Sha.grains.getD i 0 : Nat) : Int) = num (Sha.kf i) := by
  have key : ∀ n : Fin 64, ((Sha.grains.getD n.val 0 : Nat) : Int) = num (Sha.kf n.val) := by decide +kernel
  exact key ⟨i, hi⟩
theorem start_num (i : Nat) (hi : i < 8) : ((startN.getD i 0 : Nat) : Int) = num (vget Sha.start i) := by
  have key : ∀ n : Fin 8, ((startN.getD n.val 0 : Nat) : Int) = num (vget Sha.start n.val) := by decide +kernel
  exact key ⟨i, hi⟩
theorem env_shaR {R : List (String × DataW Unit)} {W : World} (h : laidMet Tryd.prog (("cartage/sha.grains", Rows.laid_cartage_sha_grains) :: ("cartage/sha.start", Rows.laid_cartage_sha_start) :: R) W) : Grains W ∧ Start W := by
  obtain ⟨ps, ⟨g0, t0, cs0, f0, p0, q0, hg0, ht0, hv0, hd0, ⟨g1, t1, cs1, f1, p1, q1, hg1, ht1, hv1, hd1, _, _⟩, _⟩, _, _⟩ := h
  obtain rfl : g0 = 24 := Option.some.inj ((show Tryd.prog.globalNamed "cartage/sha.grains" = some 24 by kernel_rfl).symm.trans hg0) |>.symm
  obtain rfl : g1 = 23 := Option.some.inj ((show Tryd.prog.globalNamed "cartage/sha.start" = some 23 by kernel_rfl).symm.trans hg1) |>.symm
  obtain rfl : t0 = 161 := Option.some.inj ((show (Tryd.prog.globals[24]?).map (·.type) = some 161 by kernel_rfl).symm.trans ht0) |>.symm
  obtain rfl : t1 = 147 := Option.some.inj ((show (Tryd.prog.globals[23]?).map (·.type) = some 147 by kernel_rfl).symm.trans ht1) |>.symm
  have e0 : (Rows.laid_cartage_sha_grains : DataW Unit) = .agg (Sha.grains.map fun (k : Nat) => .lit (.int .u32 (k : Int))) := by kernel_rfl
  have e1 : (Rows.laid_cartage_sha_start : DataW Unit) = .agg (startN.map fun (k : Nat) => .lit (.int .u32 (k : Int))) := by kernel_rfl
  rw [e0] at hd0
  rw [e1] at hd1
  obtain ⟨l0, k0⟩ := laid_words Tryd.underlying161 Tryd.underlying126 (by kernel_rfl) hd0
  obtain ⟨l1, k1⟩ := laid_words Tryd.underlying147 Tryd.underlying126 (by kernel_rfl) hd1
  have c0 : ∀ i, i < 64 → W.cell? ⟨24, i, none⟩ = some (.int .u32 (num (Sha.kf i))) := fun i hi => by
    rw [World.var?_cell hg0 hv0 i, ← Array.getElem?_toList, k0 i hi, kf_num i hi]
  have c1 : ∀ i, i < 8 → W.cell? ⟨23, i, none⟩ = some (.int .u32 (num (vget Sha.start i))) := fun i hi => by
    rw [World.var?_cell hg1 hv1 i, ← Array.getElem?_toList, k1 i hi, start_num i hi]
  refine ⟨⟨World.block_lt_of_cell? W _ (c0 0 (by decide)), c0⟩, ⟨World.block_lt_of_cell? W _ (c1 0 (by decide)), ?_, ⟨size_rangeOf _ _ _ _, fun j hj => rangeOf_get hj (by rw [Nat.zero_add]; exact c1 j hj)⟩⟩⟩
  unfold hasRange
  rw [List.all_eq_true]
  intro j hj
  rw [Nat.zero_add, c1 j (List.mem_range.1 hj)]
  rfl
theorem env_names {W : World} (h : laidMetH Tryd.prog Rows.frameNamesRow.laid W) : ∃ a, FrV W a := by
  have h2 : laidMet Tryd.prog (("math/bits.deBruijn32tab", Rows.laid_math_bits_deBruijn32tab) :: ("math/bits.deBruijn64tab", Rows.laid_math_bits_deBruijn64tab) :: ("internal/strconv.uint64pow10", Rows.laid_internal_strconv_uint64pow10) :: ("unicode/utf8.acceptRanges", Rows.laid_unicode_utf8_acceptRanges) ::
      ((errL [1, 7, 13]).map (fun x => (x.1, sent "*errors.errorString" x.2.1)) ++ (("cartage/sha.grains", Rows.laid_cartage_sha_grains) :: ("cartage/sha.start", Rows.laid_cartage_sha_start) :: [("unicode/utf8.first", Rows.laid_unicode_utf8_first)]))) W := h
  obtain ⟨⟨a, ha⟩, hr⟩ := errsOn_of_laid [1, 7, 13] (by decide) (by decide) _ (laidMet_tail (laidMet_tail (laidMet_tail (laidMet_tail h2))))
  obtain ⟨g, s⟩ := env_shaR hr
  exact ⟨a, ha.cell 1 (by decide), ha.cell 13 (by decide), g, s⟩
end Go.Proofs.YtbapkamopelgpaaDoor

namespace Go.Proofs.YtbapkamopelgpaaDoor
open Go.RowKit Go.ErrsGen Go.ChangeShapes Go.WideShapes Go.Ranges
set_option maxRecDepth 100000
theorem prV_of {W : World} {a : Nat → Addr} (h : Errs W a) (g : Grains W) (s : Start W) : PrV W a :=
  ⟨⟨h.c 1 (by decide) (by decide), h.c 13 (by decide) (by decide), g, s⟩, h.c 2 (by decide) (by decide), h.c 3 (by decide) (by decide), h.c 4 (by decide) (by decide), h.c 5 (by decide) (by decide), h.c 7 (by decide) (by decide)⟩
theorem env_fbytes {W : World} (h : laidMetH Tryd.prog Rows.frameBytesRow.laid W) : ∃ a, PrV W a ∧ Errs W a := by
  have h2 : laidMet Tryd.prog (("unicode/utf8.acceptRanges", Rows.laid_unicode_utf8_acceptRanges) :: (errList.map (fun x => (x.1, sent "*errors.errorString" x.2.1)) ++ (("cartage/sha.grains", Rows.laid_cartage_sha_grains) :: ("cartage/sha.start", Rows.laid_cartage_sha_start) :: [("unicode/utf8.first", Rows.laid_unicode_utf8_first)]))) W := h
  obtain ⟨⟨a, ha⟩, hr⟩ := errs_of_laid _ (laidMet_tail h2)
  obtain ⟨g, s⟩ := env_shaR hr
  exact ⟨a, prV_of ha g s, ha⟩
theorem env_fparse {W : World} (h : laidMetH Tryd.prog Rows.frameParseRow.laid W) : ∃ a, PrV W a ∧ Errs W a := by
  have h2 : laidMet Tryd.prog (("unicode/utf8.acceptRanges", Rows.laid_unicode_utf8_acceptRanges) :: (errList.map (fun x => (x.1, sent "*errors.errorString" x.2.1)) ++ (("cartage/sha.grains", Rows.laid_cartage_sha_grains) :: ("cartage/sha.start", Rows.laid_cartage_sha_start) :: [("unicode/utf8.first", Rows.laid_unicode_utf8_first)]))) W := h
  obtain ⟨⟨a, ha⟩, hr⟩ := errs_of_laid _ (laidMet_tail h2)
  obtain ⟨g, s⟩ := env_shaR hr
  exact ⟨a, prV_of ha g s, ha⟩
end Go.Proofs.YtbapkamopelgpaaDoor
