/- Whatever program: what a list of sentinels that lie as their initialisers laid them gives: each variable's cell, each pointee's row, and that the pointers are different. -/
import Derived.Stop.LaidErr
namespace Go.ErrsGen
open Go.RowKit Go.ChangeShapes

def sent {H : Type} (nm : String) (text : List UInt8) : DataW H := .iface nm (.ptr (.agg [.lit (.string text)]))

section
variable {P : Program} {nm : String} {ti tp te ts : TypeId} {ms : Array (String × TypeId)} {f : Field} {W : World}

theorem core (hi : P.underlying ti = some (.interface ms)) (hrow : ∀ u, P.typeName? 3 u = some nm → u = tp)
    (hp : P.underlying tp = some (.pointer te)) (he : P.underlying te = some (.struct #[f])) (hft : f.type = ts) (hfo : f.offset = 0) (hs : P.underlying ts = some .string) (hc : P.cellsOf te = 1) (hcs : P.cellsOf ts = 1) (r : List (String × DataW Unit)) :
    ∀ (l : List (String × List UInt8 × Nat)), (∀ x ∈ l, P.globalNamed x.1 = some x.2.2 ∧ (P.globals[x.2.2]?).map (·.type) = some ti) →
    ∀ ps, DataW.LaidVars P W (l.map (fun x => (x.1, sent nm x.2.1)) ++ r) ps →
      (∀ b off, MemPlace.cell b off ∈ ps → (∃ c t, W.heap[b]? = some (.cells c t (0, 0))) ∧ ∀ u v, W.cell? ⟨b, off, none⟩ = some (.iface u v) → Value.okWide P W .any 0 u v) →
      ∃ (as : List Addr) (q : List MemPlace), as.length = l.length ∧ DataW.LaidVars P W r q ∧ (as.map (fun a => MemPlace.cell a.block a.off) ++ q).Sublist ps ∧
        (∀ (i : Nat) (x : String × List UInt8 × Nat) (a : Addr), l[i]? = some x → as[i]? = some a → W.cell? ⟨x.2.2, 0, none⟩ = some (.iface tp (.pointer (some a))) ∧ a.spot = none ∧ ∃ c t, W.heap[a.block]? = some (.cells c t (0, 0)))
  | [], _, ps, h, _ => ⟨[], ps, rfl, h, by simp, fun i x a hx => by simp at hx⟩
  | x :: l, hg, ps, h, hrows => by
    obtain ⟨g0, t0, cs0, f0, p0, q0, hg0, ht0, hv0, hd0, htail, e0⟩ := h
    obtain ⟨hgx, htx⟩ := hg x (by simp)
    obtain rfl := Option.some.inj (hgx.symm.trans hg0)
    obtain rfl := Option.some.inj (htx.symm.trans ht0)
    subst e0
    obtain ⟨l0⟩ := cs0
    have hcell := World.var?_cell hg0 hv0 0
    have ok0 : ∀ u v, l0 = [.iface u v] → Value.okWide P W .any 0 u v := fun u v e => by
      subst e
      exact (hrows x.2.2 0 (by simp [MemPlace.row])).2 u v (by simpa using hcell)
    obtain ⟨a0, s0, rfl, hc0, _, _, rfl⟩ := errorString_of_trod hi hrow hp he hft hfo hs hc hcs hd0 ok0
    obtain ⟨as, q, hlen, hq, hsub, hat⟩ := core hi hrow hp he hft hfo hs hc hcs r l (fun y hy => hg y (by simp [hy])) q0 htail (fun b off hm => hrows b off (by simp [hm]))
    have hspot : a0.spot = none := by
      unfold World.cell? at hc0
      split at hc0
      · split at hc0
        · cases hc0
        · rename_i hn; simpa using hn
      · cases hc0
    refine ⟨a0 :: as, q, by simp [hlen], hq, ?_, ?_⟩
    · have e1 : MemPlace.row a0 1 = [MemPlace.cell a0.block a0.off] := by simp [MemPlace.row]
      rw [e1, List.map_cons, List.cons_append, List.append_assoc]
      exact List.Sublist.trans (List.Sublist.cons_cons _ hsub) (List.sublist_append_right _ _)
    · intro i y a hy ha
      cases i with
      | zero =>
        simp only [List.getElem?_cons_zero, Option.some.injEq] at hy ha
        subst hy; subst ha
        refine ⟨by simpa using hcell, hspot, ?_⟩
        exact (hrows a0.block a0.off (by simp [MemPlace.row])).1
      | succ i =>
        simp only [List.getElem?_cons_succ] at hy ha
        exact hat i y a hy ha

theorem sentinels (hi : P.underlying ti = some (.interface ms)) (hrow : ∀ u, P.typeName? 3 u = some nm → u = tp)
    (hp : P.underlying tp = some (.pointer te)) (he : P.underlying te = some (.struct #[f])) (hft : f.type = ts) (hfo : f.offset = 0) (hs : P.underlying ts = some .string) (hc : P.cellsOf te = 1) (hcs : P.cellsOf ts = 1)
    (l : List (String × List UInt8 × Nat)) (hg : ∀ x ∈ l, P.globalNamed x.1 = some x.2.2 ∧ (P.globals[x.2.2]?).map (·.type) = some ti) (r : List (String × DataW Unit)) (h : laidMet P (l.map (fun x => (x.1, sent nm x.2.1)) ++ r) W) :
    ∃ as : List Addr, as.length = l.length ∧ laidMet P r W ∧ (∀ (i j : Nat) (a : Addr), as[i]? = some a → as[j]? = some a → i = j) ∧
      (∀ (i : Nat) (x : String × List UInt8 × Nat) (a : Addr), l[i]? = some x → as[i]? = some a → W.cell? ⟨x.2.2, 0, none⟩ = some (.iface tp (.pointer (some a))) ∧ a.spot = none ∧ ∃ c t, W.heap[a.block]? = some (.cells c t (0, 0))) := by
  obtain ⟨ps, hv, hnd, hrows⟩ := h
  obtain ⟨as, q, hlen, hq, hsub, hat⟩ := core hi hrow hp he hft hfo hs hc hcs r l hg ps hv hrows
  have hnd2 := List.Nodup.sublist hsub hnd
  have hmem : ∀ z ∈ q, z ∈ ps := fun z hz => hsub.subset (by simp [hz])
  refine ⟨as, hlen, ⟨q, hq, (List.nodup_append.1 hnd2).2.1, fun b off hm => hrows b off (hmem _ hm)⟩, ?_, hat⟩
  have h3 := (List.nodup_append.1 hnd2).1
  intro i j a hi hj
  have h4 : (as.map (fun a => MemPlace.cell a.block a.off))[i]? = (as.map (fun a => MemPlace.cell a.block a.off))[j]? := by simp [hi, hj]
  have hil : i < (as.map (fun a => MemPlace.cell a.block a.off)).length := by
    have := (List.getElem?_eq_some_iff.1 hi).1
    simpa using this
  exact (List.getElem?_inj hil h3).1 h4
end
end Go.ErrsGen
