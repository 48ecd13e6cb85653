/- A net beside the reference's net, at the head of a round. -/
import Derived.Test.YtdglpbjofdipkaaDoorNetL
import Derived.Test.YtdglpbjofdipkaaDoorOpenAct
namespace Go.Proofs.YtdglpbjofdipkaaDoor
open Go.RowKit Go.Stop Go.Extern Go.Ranges Go.Rows2 Go.Sort Go.BigFrame
set_option linter.unusedVariables false
set_option linter.unusedSimpArgs false
set_option maxRecDepth 20000
def Both (w : World) (base p q : Nat) (room : Int) (k : Nat) : Prop :=
  ∃ S v v2 xs xs2, NetV w base p (fun k => k = p ∨ k = q) S v xs ∧ RefV w base q S v2 xs2 ∧ p ≠ q ∧ (∀ k, v2.ownBlock = some k → k ≠ p ∧ some k ≠ v.ownBlock) ∧ S.ok k ∧ S.room = room
theorem Both.start {w w2 : World} {p q : Nat} {room : Int} {X : Nat → Prop} (h1 : 1 ≤ room) (h2 : room ≤ 64) (hN : NetV w2 w.heap.size p X ⟨room, 0, 0, 0, 0, []⟩ (.slice none 0 0) []) (hs : w.heap.size ≤ w2.heap.size) (hq : q = w2.heap.size) :
    Both (w2.alloc (.cells #[.int .i64 room, .slice none 0 0, .int .i64 0, .int .i64 0, .int .i64 0, .int .i64 0] 92)) w.heap.size p q room 0 := by
  subst hq
  have hp := hN.plt
  refine ⟨⟨room, 0, 0, 0, 0, []⟩, .slice none 0 0, .slice none 0 0, [], [], ⟨(hN.below (alloc_below _ _)).blk, World.ownsRow_nil _ _ _ _, fun i hi => absurd hi (by simp), hN.hp, .inl rfl, fun k hk => ?_, fun k hk => by cases hk⟩,
    ⟨heap_alloc_last w2 _, World.ownsRow_nil _ _ _ _, fun i hi => absurd hi (by simp), hs, fun k hk => by cases hk⟩, by omega, (fun k hk => by cases hk), ⟨h1, h2, ?_, ?_, ?_, ?_, ?_, fun t ht => by cases ht⟩, rfl⟩
  · have : (w2.alloc (.cells #[.int .i64 room, .slice none 0 0, .int .i64 0, .int .i64 0, .int .i64 0, .int .i64 0] 92)).heap.size = w2.heap.size + 1 := by simp
    rw [this]
    rcases hk with h | h <;> omega
  · show ((([] : List (List Int)).length : Nat) : Int) ≤ room
    simp; omega
  all_goals exact ⟨Int.le_refl _, Int.le_refl _⟩
theorem Both.below {w w' : World} {base p q : Nat} {room : Int} {k : Nat} (h : Both w base p q room k) (hb : Below w.heap.size w w') : Both w' base p q room k := by
  obtain ⟨S, v, v2, xs, xs2, h1, h2, h3, h4, h5, h6⟩ := h
  exact ⟨S, v, v2, xs, xs2, h1.below hb, h2.below hb, h3, h4, h5, h6⟩
theorem Both.act {w : World} {base p q : Nat} {room : Int} {k : Nat} (h : Both w base p q room k) (C : Array Value) :
    ∃ S v v2 xs xs2, S.ok k ∧ S.room = room ∧ Pair (w.alloc (.cells C 86)) base p q S S v v2 xs xs2 w.heap.size C := by
  obtain ⟨S, v, v2, xs, xs2, h1, h2, h3, h4, h5, h6⟩ := h
  refine ⟨S, v, v2, xs, xs2, h5, h6, h1.below (alloc_below _ _), h2.below (alloc_below _ _), h3, h4, heap_alloc_last w _, ?_, ?_, ?_, ?_⟩
  · have := h1.plt; omega
  · have := h2.qlt; omega
  · intro e; have := (net_own_lt h1 _ e.symm).2; omega
  · intro e; have := (ref_own_lt h2 _ e.symm).2; omega
theorem Pair.both {w : World} {base p q : Nat} {S : NS} {v v2 : Value} {xs xs2 : List Value} {b k : Nat} {C : Array Value} {room : Int} (h : Pair w base p q S S v v2 xs xs2 b C) (hS : S.ok k) (hr : S.room = room) : Both w base p q room k :=
  ⟨S, v, v2, xs, xs2, h.net, h.ref, h.pq, h.apart, hS, hr⟩
theorem NetV.narrow {w : World} {base p : Nat} {X Y : Nat → Prop} {S : NS} {v : Value} {xs : List Value} (h : NetV w base p X S v xs) (hY : ∀ k, Y k → X k) (hp : Y p) : NetV w base p Y S v xs :=
  ⟨h.blk, h.own, fun i hi => by
    obtain ⟨x, e, ht⟩ := h.txt i hi
    exact ⟨x, e, ht.mono fun k _ ⟨a, b, c⟩ => ⟨a, fun hk => b (hY k hk), c⟩⟩, h.hp, hp, fun k hk => h.xlt k (hY k hk), fun k hk hX => h.xg k hk (hY k hX)⟩
/-- What the old net's calls behind its copy turn. -/
theorem chg_two {w2 w3 w4 : World} {p : Nat} {v v3 : Value} (h1 : Chg (writes p v) w2 w3) (hr : rowNew w2 v v3) (h2 : Chg (writes p v3) w3 w4) : Chg (writes p v) w2 w4 :=
  h1.trans2 h2 fun k hk => by
    rcases hk with hk | hk
    · exact .inl (.inl hk)
    · rcases hr with hr | hr
      · exact .inl (.inr (hk.trans hr))
      · exact .inr (hr k hk.symm)
theorem Pair.copied {w w2 w4 : World} {base p q p' : Nat} {S : NS} {v v2 v' : Value} {xs xs2 xs' : List Value} {b k : Nat} {C : Array Value} {room : Int} (h : Pair w base p q S S v v2 xs xs2 b C) (hS : S.ok k) (hr : S.room = room)
    (hN : NetV w2 base p' (fun k => k = p' ∨ k = q ∨ writes p v k) S v' xs') (hp : w.heap.size ≤ p') (ho : ∀ k, v'.ownBlock = some k → w.heap.size ≤ k) (hb : Below w.heap.size w w2) (hC : Chg (writes p v) w2 w4) :
    Both w4 base p' q room (k + 1) := by
  have hlt := writes_lt h.net
  have hN4 : NetV w4 base p' (fun k => k = p' ∨ k = q) S v' xs' :=
    (hN.keep hC (fun hw => by have := hlt _ hw; omega) (fun k hk hw => by have := hlt _ hw; have := ho k hk; omega) (fun k _ hk _ => .inl (.inr (.inr hk)))).narrow (fun k hk => by
      rcases hk with hk | hk
      · exact .inl hk
      · exact .inr (.inl hk)) (.inl rfl)
  have hR4 : RefV w4 base q S v2 xs2 := (h.ref.below hb).keep hC (fun hw => by
      rcases hw with hw | hw
      · exact h.pq hw.symm
      · exact h.net.xg q hw.symm (.inr rfl)) (fun k hk hw => by
      rcases hw with hw | hw
      · exact (h.apart k hk).1 hw
      · exact (h.apart k hk).2 hw) (fun k hk => writes_ge h.net k hk)
  refine ⟨S, v', v2, xs', xs2, hN4, hR4, ?_, fun k hk => ⟨?_, fun e => ?_⟩, hS.more, hr⟩
  · have := h.ref.qlt; omega
  · have := (ref_own_lt h.ref k hk).2; omega
  · have := (ref_own_lt h.ref k hk).2; have := ho k e.symm; omega
theorem text_in {w w' : World} {A : Option Addr} {t : List Int} {c : Nat} (h : Lib.BytesIn w A t.length t) (h1 : t.length ≤ c) (h2 : c ≤ maxLen) (hb : Below w.heap.size w w') : TextIs w' (fun k => k < w.heap.size) (.slice A t.length c) t := by
  refine ⟨A, c, rfl, bytesIn_below' h hb, h1, h2, fun a e hp => ?_⟩
  obtain ⟨b, o, rfl, hc⟩ := h hp
  injection e with e
  subst e
  have := World.block_lt_of_cell? w _ (hc 0 hp)
  exact ⟨Nat.lt_of_lt_of_le this hb.size, this⟩
theorem Both.opened {w : World} {base p q : Nat} {room : Int} {k : Nat} (h : Both w base p q room k) :
    ∃ (S : NS) (v : Value) (xs : List Value) (A2 : Option Addr) (c2 : Nat) (xs2 : List Value), NetV w base p (fun k => k = p ∨ k = q) S v xs ∧ RefV w base q S (.slice A2 S.L.length c2) xs2 ∧ S.ok k ∧ S.room = room := by
  obtain ⟨S, v, v2, xs, xs2, h1, h2, h3, h4, h5, h6⟩ := h
  obtain ⟨A, c, rfl⟩ := own_slice h2.own
  exact ⟨S, v, xs, A, c, xs2, h1, h2, h5, h6⟩
end Go.Proofs.YtdglpbjofdipkaaDoor
