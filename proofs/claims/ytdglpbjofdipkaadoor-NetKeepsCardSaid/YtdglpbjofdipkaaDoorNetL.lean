/- A net beside the reference's net. -/
import Derived.Test.YtdglpbjofdipkaaDoorNetK
import Derived.Test.YtdglpbjofdipkaaDoorOpenK
namespace Go.Proofs.YtdglpbjofdipkaaDoor
open Go.RowKit Go.Stop Go.Extern Go.Ranges Go.Rows2 Go.Sort Go.BigFrame
set_option linter.unusedVariables false
set_option linter.unusedSimpArgs false
set_option maxRecDepth 20000
/-- A net, the reference's net, and a block of an act, apart. -/
structure Pair (w : World) (base p q : Nat) (S1 S2 : NS) (v v2 : Value) (xs xs2 : List Value) (b : Nat) (C : Array Value) : Prop where
  net : NetV w base p (fun k => k = p ∨ k = q) S1 v xs
  ref : RefV w base q S2 v2 xs2
  pq : p ≠ q
  apart : ∀ k, v2.ownBlock = some k → k ≠ p ∧ some k ≠ v.ownBlock
  act : w.heap[b]? = some (.cells C 86 (0, 0))
  bp : b ≠ p
  bq : b ≠ q
  bv : some b ≠ v.ownBlock
  bv2 : some b ≠ v2.ownBlock
theorem Pair.blt {w : World} {base p q : Nat} {S1 S2 : NS} {v v2 : Value} {xs xs2 : List Value} {b : Nat} {C : Array Value} (h : Pair w base p q S1 S2 v v2 xs xs2 b C) : b < w.heap.size := (Array.getElem?_eq_some_iff.1 h.act).1
theorem Pair.base_le {w : World} {base p q : Nat} {S1 S2 : NS} {v v2 : Value} {xs xs2 : List Value} {b : Nat} {C : Array Value} (h : Pair w base p q S1 S2 v v2 xs xs2 b C) : base ≤ w.heap.size := h.ref.base_le
theorem Pair.below {w w' : World} {base p q : Nat} {S1 S2 : NS} {v v2 : Value} {xs xs2 : List Value} {b : Nat} {C : Array Value} (h : Pair w base p q S1 S2 v v2 xs xs2 b C) (hb : Below w.heap.size w w') : Pair w' base p q S1 S2 v v2 xs xs2 b C :=
  ⟨h.net.below hb, h.ref.below hb, h.pq, h.apart, (hb.block b h.blt).trans h.act, h.bp, h.bq, h.bv, h.bv2⟩
theorem ref_own_lt {w : World} {base q : Nat} {S : NS} {v : Value} {xs : List Value} (h : RefV w base q S v xs) : ∀ k, v.ownBlock = some k → base ≤ k ∧ k < w.heap.size := fun k hk => by
  rcases h.own.2 with ⟨hv, _⟩ | ⟨g, _, _, hv, hg, hh, _⟩
  · rw [hv] at hk; cases hk
  · rw [hv] at hk; injection hk with hk
    have e : g = k := hk
    have := (Array.getElem?_eq_some_iff.1 hh).1
    exact ⟨by omega, by omega⟩
theorem net_own_lt {w : World} {base p : Nat} {X : Nat → Prop} {S : NS} {v : Value} {xs : List Value} (h : NetV w base p X S v xs) : ∀ k, v.ownBlock = some k → base ≤ k ∧ k < w.heap.size := fun k hk => by
  rcases h.own.2 with ⟨hv, _⟩ | ⟨g, _, _, hv, hg, hh, _⟩
  · rw [hv] at hk; cases hk
  · rw [hv] at hk; injection hk with hk
    have e : g = k := hk
    have := (Array.getElem?_eq_some_iff.1 hh).1
    exact ⟨by omega, by omega⟩
/-- The net's call: the reference's net and the act stay. -/
theorem Pair.net_step {w w' : World} {base p q : Nat} {S1 S2 S1' : NS} {v v2 : Value} {xs xs2 : List Value} {b : Nat} {C : Array Value} (h : Pair w base p q S1 S2 v v2 xs xs2 b C) {r : Value} {e : Ending} (he : NetEnd w base p (fun k => k = p ∨ k = q) r S1' v e w') :
    ∃ v' xs', e = .returned r ∧ Pair w' base p q S1' S2 v' v2 xs' xs2 b C ∧ Chg (writes p v) w w' := by
  obtain ⟨v', xs', rfl, hN, hr, hC⟩ := he
  have hqw : ¬ writes p v q := fun hw => by
    rcases hw with hw | hw
    · exact h.pq hw.symm
    · exact h.net.xg q hw.symm (.inr rfl)
  have hR : RefV w' base q S2 v2 xs2 := h.ref.keep hC hqw (fun k hk hw => by
    rcases hw with hw | hw
    · exact (h.apart k hk).1 hw
    · exact (h.apart k hk).2 hw) (fun k hk => writes_ge h.net k hk)
  have hbw : ¬ writes p v b := fun hw => by
    rcases hw with hw | hw
    · exact h.bp hw
    · exact h.bv hw
  refine ⟨v', xs', rfl, ⟨hN, hR, h.pq, fun k hk => ⟨(h.apart k hk).1, fun e => ?_⟩, (hC.block b h.blt hbw).trans h.act, h.bp, h.bq, fun e => ?_, h.bv2⟩, hC⟩
  · rcases hr with hr | hr
    · exact (h.apart k hk).2 (by rw [e, hr])
    · have := hr k e.symm; have := (ref_own_lt h.ref k hk).2; omega
  · rcases hr with hr | hr
    · exact h.bv (by rw [e, hr])
    · have := hr b e.symm; have := h.blt; omega
/-- The reference's call: the net and the act stay. -/
theorem Pair.ref_step {w w' : World} {base p q : Nat} {S1 S2 S2' : NS} {v v2 : Value} {xs xs2 : List Value} {b : Nat} {C : Array Value} (h : Pair w base p q S1 S2 v v2 xs xs2 b C) {r : Value} {e : Ending} (he : RefEnd w base q r S2' v2 e w') :
    ∃ v2' xs2', e = .returned r ∧ Pair w' base p q S1 S2' v v2' xs xs2' b C ∧ Chg (fun k => k = q) w w' := by
  obtain ⟨v2', xs2', rfl, hR, hC, hr⟩ := he
  have hN : NetV w' base p (fun k => k = p ∨ k = q) S1 v xs := h.net.keep hC h.pq (fun k hk e => h.net.xg k hk (.inr e)) (fun k _ hk _ => .inl (.inr hk))
  refine ⟨v2', xs2', rfl, ⟨hN, hR, h.pq, fun k hk => ?_, (hC.block b h.blt (fun e => h.bq e)).trans h.act, h.bp, h.bq, h.bv, fun e => ?_⟩, hC⟩
  · rcases hr with hr | hr
    · exact h.apart k (hr ▸ hk)
    · have h1 := hr k hk
      exact ⟨fun e => by have := h.net.plt; omega, fun e => by have := (net_own_lt h.net k e.symm).2; omega⟩
  · rcases hr with hr | hr
    · exact h.bv2 (by rw [e, hr])
    · have := hr b e.symm; have := h.blt; omega
theorem Pair.bC {w : World} {base p q : Nat} {S1 S2 : NS} {v v2 : Value} {xs xs2 : List Value} {b : Nat} {C : Array Value} (h : Pair w base p q S1 S2 v v2 xs xs2 b C) (j : Nat) : w.cell? ⟨b, j, none⟩ = C[j]? := cell_of_row _ _ _ _ _ _ h.act
end Go.Proofs.YtdglpbjofdipkaaDoor
