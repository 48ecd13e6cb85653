/- Some of the errors, from the rows' conditions. -/
import Derived.Test.YtmmiimcodbjnmaaDoorLaid
import Derived.Test.YtmmiimcodbjnmaaDoorOpenK
import Derived.Test.YtmmiimcodbjnmaaDoorOctB
import Derived.OpenShut
import Derived.LaidSub
namespace Go.Proofs.YtmmiimcodbjnmaaDoor
open Go.RowKit Go.ErrsGen Go.ChangeShapes
set_option linter.unusedVariables false
set_option linter.unusedSimpArgs false
theorem laidMet_tail {P : Program} {x : String × DataW Unit} {r : List (String × DataW Unit)} {W : World} (h : laidMet P (x :: r) W) : laidMet P r W := by
  obtain ⟨ps, ⟨g0, t0, cs0, f0, p0, q0, hg0, ht0, hv0, hd0, htail, e0⟩, hnd, hrows⟩ := h
  subst e0
  exact ⟨q0, htail, (List.nodup_append.1 hnd).2.1, fun b off hm => hrows b off (by simp [hm])⟩
/-- Some of the errors. -/
def errL (ns : List Nat) : List (String × List UInt8 × Nat) := ns.map fun n => errList.getD (n - 1) ("", [], 0)
/-- Some of the errors lie as the initialisers laid them. -/
structure ErrsOn (ns : List Nat) (W : World) (a : Nat → Addr) : Prop where
  cell : ∀ n, n ∈ ns → ErrC W a n
  row : ∀ n, n ∈ ns → ∃ c t, W.heap[(a n).block]? = some (.cells c t (0, 0))
  ne : ∀ n m, n ∈ ns → m ∈ ns → a n = a m → n = m
theorem ErrsOn.below {ns : List Nat} {W W' : World} {a : Nat → Addr} (h : ErrsOn ns W a) (hb : Below W.heap.size W W') : ErrsOn ns W' a := by
  refine ⟨fun n hn => (h.cell n hn).below hb, fun n hn => ?_, h.ne⟩
  obtain ⟨c, t, hr⟩ := h.row n hn
  refine ⟨c, t, (hb.block _ ?_).trans hr⟩
  rcases Nat.lt_or_ge (a n).block W.heap.size with h' | h'
  · exact h'
  · simp [Array.getElem?_eq_none h'] at hr
theorem errL_globals (ns : List Nat) (hns : ∀ n ∈ ns, 1 ≤ n ∧ n ≤ 22) : ∀ x ∈ errL ns, Tryd.prog.globalNamed x.1 = some x.2.2 ∧ (Tryd.prog.globals[x.2.2]?).map (·.type) = some 44 := by
  intro x hx
  obtain ⟨n, hn, rfl⟩ := List.mem_map.1 hx
  obtain ⟨h1, h2⟩ := hns n hn
  apply errList_globals
  have hl : errList.length = 22 := rfl
  rw [List.getD_eq_getElem?_getD, List.getElem?_eq_getElem (by omega)]
  exact List.getElem_mem _
theorem errsOn_of_laid (ns : List Nat) (hns : ∀ n ∈ ns, 1 ≤ n ∧ n ≤ 22) (hnd : ns.Nodup) {W : World} (r : List (String × DataW Unit)) (h : laidMet Tryd.prog ((errL ns).map (fun x => (x.1, sent "*errors.errorString" x.2.1)) ++ r) W) :
    (∃ a, ErrsOn ns W a) ∧ laidMet Tryd.prog r W := by
  obtain ⟨ads, hlen, hr, hinj, hat⟩ := sentinels (P := Tryd.prog) (nm := "*errors.errorString") (tp := 199) (te := 221) (ts := 9) Tryd.underlying44 rowErr Tryd.underlying199 Tryd.underlying221 rfl rfl Tryd.underlying9 (by kernel_rfl) (by kernel_rfl) (errL ns) (errL_globals ns hns) r h
  have hlen2 : ads.length = ns.length := by rw [hlen]; simp [errL]
  have hidx : ∀ n ∈ ns, ∃ i, ns[i]? = some n ∧ ads[i]? = some (ads.getD (ns.idxOf n) ⟨0, 0, none⟩) ∧ i = ns.idxOf n := fun n hn => by
    have h1 : ns.idxOf n < ns.length := List.idxOf_lt_length_of_mem hn
    refine ⟨ns.idxOf n, by rw [List.getElem?_eq_getElem h1, List.getElem_idxOf], ?_, rfl⟩
    rw [List.getD_eq_getElem?_getD, List.getElem?_eq_getElem (by omega)]
    rfl
  have hel : ∀ n ∈ ns, ∀ i, ns[i]? = some n → ∃ x : String × List UInt8 × Nat, (errL ns)[i]? = some x ∧ x.2.2 = gErr n := fun n hn i hi => by
    obtain ⟨h1, h2⟩ := hns n hn
    obtain ⟨x, hx, hg⟩ := errList_g n h1 h2
    refine ⟨x, ?_, hg⟩
    unfold errL
    rw [List.getElem?_map, hi]
    simp [List.getD, hx]
  refine ⟨⟨fun n => ads.getD (ns.idxOf n) ⟨0, 0, none⟩, ?_, ?_, ?_⟩, hr⟩
  · intro n hn
    obtain ⟨i, hi, ha, _⟩ := hidx n hn
    obtain ⟨x, hx, hg⟩ := hel n hn i hi
    have := (hat i x _ hx ha).1
    unfold ErrC
    rw [← hg]
    exact this
  · intro n hn
    obtain ⟨i, hi, ha, _⟩ := hidx n hn
    obtain ⟨x, hx, hg⟩ := hel n hn i hi
    exact (hat i x _ hx ha).2.2
  · intro n m hn hm e
    obtain ⟨i, hi, ha, ei⟩ := hidx n hn
    obtain ⟨j, hj, hb, ej⟩ := hidx m hm
    have hij := hinj i j _ ha (by rw [hb]; exact congrArg some e.symm)
    rw [hij, hj] at hi
    exact (Option.some.inj hi).symm
end Go.Proofs.YtmmiimcodbjnmaaDoor
