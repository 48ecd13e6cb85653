/- The errors and the kinds' words, from the rows' conditions. -/
import Derived.Test.YtbapkamopelgpaaDoorLaid
import Derived.Test.YtbapkamopelgpaaDoorOpenMsg
import Derived.Test.YtbapkamopelgpaaDoorMsgD
import Derived.OpenShut
import Derived.LaidSub
namespace Go.Proofs.YtbapkamopelgpaaDoor
open Go.RowKit Go.ErrsGen Go.ChangeShapes
set_option linter.unusedVariables false
set_option linter.unusedSimpArgs false
theorem laidMet_tail {P : Program} {x : String × DataW Unit} {r : List (String × DataW Unit)} {W : World} (h : laidMet P (x :: r) W) : laidMet P r W := by
  obtain ⟨ps, ⟨g0, t0, cs0, f0, p0, q0, hg0, ht0, hv0, hd0, htail, e0⟩, hnd, hrows⟩ := h
  subst e0
  exact ⟨q0, htail, (List.nodup_append.1 hnd).2.1, fun b off hm => hrows b off (by simp [hm])⟩
/-- Some of the errors. -/
def errL (ns : List Nat) : List (String × List UInt8 × Nat) := ns.map fun n => errList.getD (n - 1) ("", [], 0)
/-- Some of the errors lie as the initialisers laid them. -/
structure ErrsOn (ns : List Nat) (W : World) (a : Nat → Addr) : Prop where
  cell : ∀ n, n ∈ ns → ErrC W a n
  row : ∀ n, n ∈ ns → ∃ c t, W.heap[(a n).block]? = some (.cells c t (0, 0))
  ne : ∀ n m, n ∈ ns → m ∈ ns → a n = a m → n = m
theorem ErrsOn.below {ns : List Nat} {W W' : World} {a : Nat → Addr} (h : ErrsOn ns W a) (hb : Below W.heap.size W W') : ErrsOn ns W' a := by
  refine ⟨fun n hn => (h.cell n hn).below hb, fun n hn => ?_, h.ne⟩
  obtain ⟨c, t, hr⟩ := h.row n hn
  refine ⟨c, t, (hb.block _ ?_).trans hr⟩
  rcases Nat.lt_or_ge (a n).block W.heap.size with h' | h'
  · exact h'
  · simp [Array.getElem?_eq_none h'] at hr
theorem errL_globals (ns : List Nat) (hns : ∀ n ∈ ns, 1 ≤ n ∧ n ≤ 22) : ∀ x ∈ errL ns, Tryd.prog.globalNamed x.1 = some x.2.2 ∧ (Tryd.prog.globals[x.2.2]?).map (·.type) = some 35 := by
  intro x hx
  obtain ⟨n, hn, rfl⟩ := List.mem_map.1 hx
  obtain ⟨h1, h2⟩ := hns n hn
  apply errList_globals
  have hl : errList.length = 22 := rfl
  rw [List.getD_eq_getElem?_getD, List.getElem?_eq_getElem (by omega)]
  exact List.getElem_mem _
theorem errsOn_of_laid (ns : List Nat) (hns : ∀ n ∈ ns, 1 ≤ n ∧ n ≤ 22) (hnd : ns.Nodup) {W : World} (r : List (String × DataW Unit)) (h : laidMet Tryd.prog ((errL ns).map (fun x => (x.1, sent "*errors.errorString" x.2.1)) ++ r) W) :
    (∃ a, ErrsOn ns W a) ∧ laidMet Tryd.prog r W := by
  obtain ⟨ads, hlen, hr, hinj, hat⟩ := sentinels (P := Tryd.prog) (nm := "*errors.errorString") (tp := 198) (te := 223) (ts := 9) Tryd.underlying35 rowErr Tryd.underlying198 Tryd.underlying223 rfl rfl Tryd.underlying9 (by kernel_rfl) (by kernel_rfl) (errL ns) (errL_globals ns hns) r h
  have hlen2 : ads.length = ns.length := by rw [hlen]; simp [errL]
  have hidx : ∀ n ∈ ns, ∃ i, ns[i]? = some n ∧ ads[i]? = some (ads.getD (ns.idxOf n) ⟨0, 0, none⟩) ∧ i = ns.idxOf n := fun n hn => by
    have h1 : ns.idxOf n < ns.length := List.idxOf_lt_length_of_mem hn
    refine ⟨ns.idxOf n, by rw [List.getElem?_eq_getElem h1, List.getElem_idxOf], ?_, rfl⟩
    rw [List.getD_eq_getElem?_getD, List.getElem?_eq_getElem (by omega)]
    rfl
  have hel : ∀ n ∈ ns, ∀ i, ns[i]? = some n → ∃ x : String × List UInt8 × Nat, (errL ns)[i]? = some x ∧ x.2.2 = gErr n := fun n hn i hi => by
    obtain ⟨h1, h2⟩ := hns n hn
    obtain ⟨x, hx, hg⟩ := errList_g n h1 h2
    refine ⟨x, ?_, hg⟩
    unfold errL
    rw [List.getElem?_map, hi]
    simp [List.getD, hx]
  refine ⟨⟨fun n => ads.getD (ns.idxOf n) ⟨0, 0, none⟩, ?_, ?_, ?_⟩, hr⟩
  · intro n hn
    obtain ⟨i, hi, ha, _⟩ := hidx n hn
    obtain ⟨x, hx, hg⟩ := hel n hn i hi
    have := (hat i x _ hx ha).1
    unfold ErrC
    rw [← hg]
    exact this
  · intro n hn
    obtain ⟨i, hi, ha, _⟩ := hidx n hn
    obtain ⟨x, hx, hg⟩ := hel n hn i hi
    exact (hat i x _ hx ha).2.2
  · intro n m hn hm e
    obtain ⟨i, hi, ha, ei⟩ := hidx n hn
    obtain ⟨j, hj, hb, ej⟩ := hidx m hm
    have hij := hinj i j _ ha (by rw [hb]; exact congrArg some e.symm)
    rw [hij, hj] at hi
    exact (Option.some.inj hi).symm
theorem gWords : Tryd.prog.globalNamed "cartage/message.words" = some 0 := by kernel_rfl
theorem tWords : (Tryd.prog.globals[0]?).map (·.type) = some 85 := by kernel_rfl
theorem words_of_laid {W : World} (r : List (String × DataW Unit)) (h : laidMet Tryd.prog (("cartage/message.words", Rows.laid_cartage_message_words) :: r) W) : Words W := by
  obtain ⟨ps, ⟨g0, t0, cs0, f0, p0, q0, hg0, ht0, hv0, hd0, _, _⟩, _, _⟩ := h
  obtain rfl := Option.some.inj (gWords.symm.trans hg0)
  obtain rfl := Option.some.inj (tWords.symm.trans ht0)
  obtain ⟨xs, m1, rfl, hx1, hlen, hn3, hel⟩ := DataW.trod_array Tryd.underlying85 hd0
  have c1 : Tryd.prog.cellsOf 9 = 1 := by kernel_rfl
  have c6 : Tryd.prog.cellsOf 85 = 11 := by kernel_rfl
  obtain ⟨l⟩ := cs0
  simp only [c1, Nat.mul_one] at hel
  rw [c6] at hlen
  simp only [Rows.laid_cartage_message_words, Prod.mk.injEq, DataW.agg.injEq] at hx1
  intro k hk
  have hcell := World.var?_cell hg0 hv0 k
  have hkl : k < l.length := by rw [show l.length = 11 from hlen]; exact hk
  have h1 := hel k hk
  have e1 : (l.drop k).take 1 = [l[k]] := by rw [List.drop_eq_getElem_cons hkl]; rfl
  rw [show (List.take 1 (List.drop k (Array.mk l).toList)) = (l.drop k).take 1 from rfl, e1] at h1
  have hxk : k < xs.length := by omega
  rw [List.getElem?_eq_getElem hxk] at h1
  obtain ⟨s, hs1, hs2, _⟩ := DataW.trod_string Tryd.underlying9 h1
  simp only [List.cons.injEq, and_true] at hs1
  have hx : (xs.map (fun x => x.1))[k]? = some (.lit (.string s.data.toList)) := by
    rw [List.getElem?_map, List.getElem?_eq_getElem hxk, hs2]; rfl
  rw [← hx1.1] at hx
  have hsd : s = wordB k := by
    have key : s.data.toList = (wordB k).data.toList := by
      match k, hk, hx with
      | 0, _, hx => simpa [wordB] using hx.symm
      | 1, _, hx => simpa [wordB] using hx.symm
      | 2, _, hx => simpa [wordB] using hx.symm
      | 3, _, hx => simpa [wordB] using hx.symm
      | 4, _, hx => simpa [wordB] using hx.symm
      | 5, _, hx => simpa [wordB] using hx.symm
      | 6, _, hx => simpa [wordB] using hx.symm
      | 7, _, hx => simpa [wordB] using hx.symm
      | 8, _, hx => simpa [wordB] using hx.symm
      | 9, _, hx => simpa [wordB] using hx.symm
      | 10, _, hx => simpa [wordB] using hx.symm
      | n + 11, h, _ => exact absurd h (by omega)
    cases s with
    | mk d =>
      cases hn : wordB k with
      | mk d2 =>
        rw [hn] at key
        have e : d = d2 := Array.toList_inj.1 key
        rw [e]
  rw [hcell]
  subst hsd
  simp [List.getElem?_eq_getElem hkl, hs1]
theorem env_same {W : World} (h : laidMetH Tryd.prog Rows.messageSameRow.laid W) : ∃ a, MsgV W a := by
  have h2 : laidMet Tryd.prog (("unicode/utf8.acceptRanges", Rows.laid_unicode_utf8_acceptRanges) :: ((errL [1, 7, 13]).map (fun x => (x.1, sent "*errors.errorString" x.2.1)) ++ [("cartage/message.words", Rows.laid_cartage_message_words), ("unicode/utf8.first", Rows.laid_unicode_utf8_first)])) W := h
  obtain ⟨⟨a, ha⟩, hr⟩ := errsOn_of_laid [1, 7, 13] (by decide) (by decide) _ (laidMet_tail h2)
  exact ⟨a, words_of_laid _ hr, ha.cell 1 (by decide), ha.cell 7 (by decide), ha.cell 13 (by decide)⟩
end Go.Proofs.YtbapkamopelgpaaDoor
