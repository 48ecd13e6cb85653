/- A net beside a map of the texts that were sent. -/
import Derived.Test.YtdglpbjofdipkaaDoorNetO
import Derived.Test.YtdglpbjofdipkaaDoorNetG
import Derived.Maps.Own
import Derived.Maps.OwnSet
import Derived.Maps.Views
namespace Go.Proofs.YtdglpbjofdipkaaDoor
open Go.RowKit Go.Stop Go.Extern Go.Ranges Go.Rows2 Go.Sort Go.BigFrame
set_option linter.unusedVariables false
set_option linter.unusedSimpArgs false
set_option maxRecDepth 20000
/-- What a text is as a key. -/
def keyT (t : List Int) : Lit := .string (strOfNums t).data.toList
/-- Was a text sent? -/
def HasT (D : DataW Unit) (t : List Int) : Prop := D.atKey (keyT t) (.lit (.bool false)) = .lit (.bool true)
/-- A map of texts. -/
structure MapT (w : World) (m n : Nat) (D : DataW Unit) : Prop where
  own : w.ownsMap Tryd.prog 9 (plainElem Tryd.prog 4) m n D
  is : Maps.IsMap D
theorem keyed_s : Maps.Keyed Tryd.prog 9 := Maps.string_keyed Tryd.underlying9
theorem size_nums (t : List Int) (h : t.length ≤ maxLen) : (strOfNums t).size ≤ maxLen := by
  have : (strOfNums t).size = t.length := by simp [strOfNums, ByteArray.size]
  omega
theorem keyT_of (t : List Int) (h : t.length ≤ maxLen) : keyOf Tryd.prog 9 (.string (strOfNums t)) = some (keyT t) := WideMaps.keyOf_string_mk Tryd.underlying9 (size_nums t h)
theorem MapT.lt {w : World} {m n : Nat} {D : DataW Unit} (h : MapT w m n D) : m < w.heap.size := h.own.lt
theorem MapT.chg {w w' : World} {m n : Nat} {D : DataW Unit} {T : Nat → Prop} (h : MapT w m n D) (hc : Chg T w w') (hm : ¬ T m) : MapT w' m n D := by
  obtain ⟨es, clock, hb, r⟩ := h.own
  exact ⟨⟨es, clock, (hc.block m h.lt hm).trans hb, r⟩, h.is⟩
theorem MapT.below {w w' : World} {m n : Nat} {D : DataW Unit} (h : MapT w m n D) (hb : Below w.heap.size w w') : MapT w' m n D := h.chg (T := fun _ => False) (Chg.of_below hb) (fun h => h)
theorem MapT.made (w : World) : MapT (w.alloc (.map #[] 0)) w.heap.size 0 (.map []) := ⟨World.ownsMap_made w _ _ _, Maps.isMap_empty⟩
theorem zeroB (w : World) : (zeroValue 4).run Tryd.prog w = .ok (.bool false) w := by kernel_rfl
theorem bool_inv {v : Value} {z : DataW Unit × List MemPlace} (h : plainElem Tryd.prog 4 v = some z) (x : Bool) (hz : z.1 = .lit (.bool x)) : v = .bool x := by
  unfold plainElem at h
  rw [Tryd.underlying4] at h
  cases v <;> simp at h
  subst h
  simpa using hz
/-- What a look-up of a text that was sent answers. -/
theorem MapT.look {w : World} {m n : Nat} {D : DataW Unit} (h : MapT w m n D) {t : List Int} (ht : t.length ≤ maxLen) (hH : HasT D t) :
    (Instr.lookup 84 (.map (some m)) (.string (strOfNums t)) false).run Tryd.prog w = .ok (.bool true) w := by
  obtain ⟨v, ps, hr, hv⟩ := h.own.lookup keyed_s Tryd.underlying84 (zeroB w) (plainElem_bool Tryd.underlying4 false) (keyT_of t ht)
  rw [bool_inv hv true hH] at hr
  exact hr
theorem key_lit (t : List Int) : WideAt.IsKeyLit (keyT t) := trivial
theorem HasT.put_same {D : DataW Unit} (h : Maps.IsMap D) (t : List Int) : HasT (D.put (keyT t) (.lit (.bool true))) t := Maps.atKey_put_same h (key_lit t) _ _
theorem HasT.put {D : DataW Unit} (h : Maps.IsMap D) (t u : List Int) (hu : HasT D u) : HasT (D.put (keyT t) (.lit (.bool true))) u := by
  by_cases e : keyT u = keyT t
  · unfold HasT
    rw [e]
    exact Maps.atKey_put_same h (key_lit t) _ _
  · unfold HasT
    rw [Maps.atKey_put_other e]
    exact hu
/-- A net, the map, an act's block, apart. -/
structure KV (w : World) (base p m n : Nat) (D : DataW Unit) (S : NS) (v : Value) (xs : List Value) (b : Nat) (C : Array Value) : Prop where
  net : NetV w base p (fun k => k = p ∨ k = m) S v xs
  map : MapT w m n D
  hm : base ≤ m
  pm : p ≠ m
  act : w.heap[b]? = some (.cells C 86 (0, 0))
  bp : b ≠ p
  bm : b ≠ m
  bv : some b ≠ v.ownBlock
theorem KV.blt {w : World} {base p m n : Nat} {D : DataW Unit} {S : NS} {v : Value} {xs : List Value} {b : Nat} {C : Array Value} (h : KV w base p m n D S v xs b C) : b < w.heap.size := (Array.getElem?_eq_some_iff.1 h.act).1
theorem KV.below {w w' : World} {base p m n : Nat} {D : DataW Unit} {S : NS} {v : Value} {xs : List Value} {b : Nat} {C : Array Value} (h : KV w base p m n D S v xs b C) (hb : Below w.heap.size w w') : KV w' base p m n D S v xs b C :=
  ⟨h.net.below hb, h.map.below hb, h.hm, h.pm, (hb.block b h.blt).trans h.act, h.bp, h.bm, h.bv⟩
def KB (w0 w : World) (p m n : Nat) (D : DataW Unit) (S : NS) (b : Nat) (C : Array Value) : Prop :=
  Below w0.heap.size w0 w ∧ ∃ v xs, KV w w0.heap.size p m n D S v xs b C
section
variable {w0 w w' : World} {p m n : Nat} {D : DataW Unit} {S S' : NS} {b k : Nat} {C : Array Value}
theorem KB.below (h : KB w0 w p m n D S b C) (hb : Below w.heap.size w w') : KB w0 w' p m n D S b C := by
  obtain ⟨h0, v, xs, h⟩ := h
  exact ⟨h0.trans (hb.mono h0.size), v, xs, h.below hb⟩
theorem KB.drew (h : KB w0 w p m n D S b C) : KB w0 w.drew p m n D S b C := h.below (Below.refl _ _).drew
theorem KB.step {v : Value} {xs : List Value} (h0 : Below w0.heap.size w0 w) (h : KV w w0.heap.size p m n D S v xs b C) {r : Value} {e : Ending} (he : NetEnd w w0.heap.size p (fun k => k = p ∨ k = m) r S' v e w') :
    e = .returned r ∧ KB w0 w' p m n D S' b C := by
  obtain ⟨v', xs', rfl, hN, hr, hC⟩ := he
  have hmw : ¬ writes p v m := fun hw => by
    rcases hw with hw | hw
    · exact h.pm hw.symm
    · exact h.net.xg m hw.symm (.inr rfl)
  have hbw : ¬ writes p v b := fun hw => by
    rcases hw with hw | hw
    · exact h.bp hw
    · exact h.bv hw
  refine ⟨rfl, h0.trans (hC.below h0.size (writes_ge h.net)), v', xs', hN, h.map.chg hC hmw, h.hm, h.pm, (hC.block b h.blt hbw).trans h.act, h.bp, h.bm, fun e => ?_⟩
  rcases hr with hr | hr
  · exact h.bv (by rw [e, hr])
  · have := hr b e.symm; have := h.blt; omega
theorem KB.cells {x0 x1 x2 x3 : Value} (h : KB w0 w p m n D S b #[x0, x1, x2, x3]) : w.cell? ⟨b, 1, none⟩ = some x1 ∧ w.cell? ⟨b, 2, none⟩ = some x2 ∧ w.cell? ⟨b, 3, none⟩ = some x3 := by
  obtain ⟨_, v, xs, h⟩ := h
  exact ⟨(cell_of_row _ _ _ _ _ _ h.act).trans rfl, (cell_of_row _ _ _ _ _ _ h.act).trans rfl, (cell_of_row _ _ _ _ _ _ h.act).trans rfl⟩
theorem KB.map (h : KB w0 w p m n D S b C) : MapT w m n D := by
  obtain ⟨_, v, xs, h⟩ := h
  exact h.map
theorem KB.lose (a : Nat → Addr) (h : KB w0 w p m n D S b C) (hS : S.ok k) (hk : k ≤ 1000) (H : Errs w0 a) (i : Int) :
    Calls Tryd.prog 51 #[.pointer (some ⟨p, 0, none⟩), .int .i64 i] w fun e w' => e = .returned (errV a (takeC S i)) ∧ KB w0 w' p m n D (loseS S i) b C := by
  obtain ⟨h0, v, xs, h⟩ := h
  exact (lose_all a h.net hS hk (H.below h0) i).mono fun e w' he => KB.step h0 h he
theorem KB.double (a : Nat → Addr) (h : KB w0 w p m n D S b C) (hS : S.ok k) (hk : k ≤ 1000) (H : Errs w0 a) (i : Int) :
    Calls Tryd.prog 52 #[.pointer (some ⟨p, 0, none⟩), .int .i64 i] w fun e w' => e = .returned (errV a (doubleC S i)) ∧ KB w0 w' p m n D (doubleS S i) b C := by
  obtain ⟨h0, v, xs, h⟩ := h
  exact (double_all a h.net hS hk (H.below h0) i h0.size).mono fun e w' he => KB.step h0 h he
theorem KB.move (a : Nat → Addr) (h : KB w0 w p m n D S b C) (hS : S.ok k) (H : Errs w0 a) (i j : Int) :
    Calls Tryd.prog 48 #[.pointer (some ⟨p, 0, none⟩), .int .i64 i, .int .i64 j] w fun e w' => e = .returned (errV a (moveC S i j)) ∧ KB w0 w' p m n D (moveS S i j) b C := by
  obtain ⟨h0, v, xs, h⟩ := h
  exact (move_all a h.net hS (H.below h0) i j).mono fun e w' he => KB.step h0 h he
theorem KB.take (a : Nat → Addr) (h : KB w0 w p m n D S b C) (hS : S.ok k) (hk : k ≤ 1000) (H : Errs w0 a) (i : Int) :
    Calls Tryd.prog 50 #[.pointer (some ⟨p, 0, none⟩), .int .i64 i] w fun e w' => ∃ x, e = .returned (.tuple #[x, errV a (takeC S i)]) ∧ TextIs w' (fun k => w0.heap.size ≤ k) x (takeT S i) ∧ KB w0 w' p m n D (takeS S i) b C := by
  obtain ⟨h0, v, xs, h⟩ := h
  refine (take_all a h.net hS hk (H.below h0) i).mono ?_
  rintro e w' ⟨x, ht, he⟩
  obtain ⟨h1, h2⟩ := KB.step h0 h he
  exact ⟨x, h1, ht.mono (fun k _ ⟨h3, h4⟩ => h3), h2⟩
theorem KB.send (a : Nat → Addr) (h : KB w0 w p m n D S b C) (hS : S.ok k) (hk : k ≤ 1000) (H : Errs w0 a) (A : Option Addr) (c : Nat) (t : List Int) (hB : Lib.BytesIn w0 A t.length t) :
    Calls Tryd.prog 46 #[.pointer (some ⟨p, 0, none⟩), .slice A t.length c] w fun e w' => e = .returned (errV a (sendC S t)) ∧ KB w0 w' p m n D (sendS S t) b C := by
  obtain ⟨h0, v, xs, h⟩ := h
  exact (send_all a h.net hS hk (H.below h0) A c t (bytesIn_below' hB h0) h0.size).mono fun e w' he => KB.step h0 h he
/-- A text is laid in the map. -/
theorem KB.put (h : KB w0 w p m n D S b C) {n' : Nat} {D' : DataW Unit} (ho : w'.ownsMap Tryd.prog 9 (plainElem Tryd.prog 4) m n' D') (hi : Maps.IsMap D') (hg : w.grownBy w' (some m)) : KB w0 w' p m n' D' S b C := by
  obtain ⟨h0, v, xs, h⟩ := h
  have hC : Chg (fun k => k = m) w w' := Chg.of_grown hg (fun k hk => by injection hk with hk; exact hk.symm)
  refine ⟨h0.trans (hC.below h0.size (fun k hk => hk ▸ h.hm)), v, xs, h.net.keep hC (fun e => h.pm e) (fun k hk e => h.net.xg k hk (.inr e)) (fun k _ hk _ => .inl (.inr hk)), ⟨ho, hi⟩, h.hm, h.pm, (hC.block b h.blt (fun e => h.bm e)).trans h.act, h.bp, h.bm, h.bv⟩
end
/-- What holds at a round's head. -/
def Keeps (w0 w : World) (p m k : Nat) : Prop :=
  Below w0.heap.size w0 w ∧ ∃ S v xs D n, NetV w w0.heap.size p (fun k => k = p ∨ k = m) S v xs ∧ MapT w m n D ∧ w0.heap.size ≤ m ∧ p ≠ m ∧ n ≤ k ∧ S.ok k ∧ (S.L.length : Int) + S.t + S.l = S.s + S.d ∧ ∀ t ∈ S.L, HasT D t
theorem KB.keeps {w0 w : World} {p m n : Nat} {D : DataW Unit} {S : NS} {b k : Nat} {C : Array Value} (h : KB w0 w p m n D S b C) (hn : n ≤ k) (hS : S.ok k) (he : (S.L.length : Int) + S.t + S.l = S.s + S.d) (hT : ∀ t ∈ S.L, HasT D t) : Keeps w0 w p m k := by
  obtain ⟨h0, v, xs, h⟩ := h
  exact ⟨h0, S, v, xs, D, n, h.net, h.map, h.hm, h.pm, hn, hS, he, hT⟩
theorem Keeps.below {w0 w w' : World} {p m k : Nat} (h : Keeps w0 w p m k) (hb : Below w.heap.size w w') : Keeps w0 w' p m k := by
  obtain ⟨h0, S, v, xs, D, n, h1, h2, r⟩ := h
  exact ⟨h0.trans (hb.mono h0.size), S, v, xs, D, n, h1.below hb, h2.below hb, r⟩
theorem Keeps.act {w0 w : World} {p m k : Nat} (h : Keeps w0 w p m k) (C : Array Value) :
    ∃ S D n, n ≤ k ∧ S.ok k ∧ (S.L.length : Int) + S.t + S.l = S.s + S.d ∧ (∀ t ∈ S.L, HasT D t) ∧ KB w0 (w.alloc (.cells C 86)) p m n D S w.heap.size C := by
  obtain ⟨h0, S, v, xs, D, n, h1, h2, h3, h4, h5, h6, h7, h8⟩ := h
  refine ⟨S, D, n, h5, h6, h7, h8, h0.alloc h0.size _, v, xs, h1.below (alloc_below _ _), h2.below (alloc_below _ _), h3, h4, heap_alloc_last w _, ?_, ?_, ?_⟩
  · have := h1.plt; omega
  · have := h2.lt; omega
  · intro e; have := (net_own_lt h1 _ e.symm).2; omega
theorem Keeps.start {w w2 : World} {p : Nat} {room : Int} {X : Nat → Prop} (h1 : 1 ≤ room) (h2 : room ≤ 64) (hN : NetV w2 w.heap.size p X ⟨room, 0, 0, 0, 0, []⟩ (.slice none 0 0) []) (hb : Below w.heap.size w w2) :
    Keeps w (w2.alloc (.map #[] 0)) p w2.heap.size 0 := by
  have hp := hN.plt
  refine ⟨hb.alloc hb.size _, ⟨room, 0, 0, 0, 0, []⟩, .slice none 0 0, [], .map [], 0, ⟨(hN.below (alloc_below _ _)).blk, World.ownsRow_nil _ _ _ _, fun i hi => absurd hi (by simp), hN.hp, .inl rfl, fun k hk => ?_, fun k hk => by cases hk⟩, MapT.made w2, hb.size, by omega, Nat.le_refl _, ⟨h1, h2, ?_, ?_, ?_, ?_, ?_, fun t ht => by cases ht⟩, rfl, fun t ht => by cases ht⟩
  · have : (w2.alloc (.map #[] 0)).heap.size = w2.heap.size + 1 := by simp
    rw [this]
    rcases hk with h | h <;> omega
  · show ((([] : List (List Int)).length : Nat) : Int) ≤ room
    simp; omega
  all_goals exact ⟨Int.le_refl _, Int.le_refl _⟩
/-- The numbers stay even. -/
theorem even_all {S : NS} (h : (S.L.length : Int) + S.t + S.l = S.s + S.d) (t : List Int) (i j : Int) :
    (((sendS S t).L.length : Int) + (sendS S t).t + (sendS S t).l = (sendS S t).s + (sendS S t).d) ∧ (((loseS S i).L.length : Int) + (loseS S i).t + (loseS S i).l = (loseS S i).s + (loseS S i).d) ∧
    (((takeS S i).L.length : Int) + (takeS S i).t + (takeS S i).l = (takeS S i).s + (takeS S i).d) ∧ (((doubleS S i).L.length : Int) + (doubleS S i).t + (doubleS S i).l = (doubleS S i).s + (doubleS S i).d) ∧
    (((moveS S i j).L.length : Int) + (moveS S i j).t + (moveS S i j).l = (moveS S i j).s + (moveS S i j).d) := by
  have her : ∀ i : Int, S.has i → ((S.L.eraseIdx i.toNat).length : Int) = S.L.length - 1 := fun i hi => by
    have h1 := hi.1
    have h2 := hi.2
    rw [List.length_eraseIdx, if_pos (by omega)]
    omega
  refine ⟨?_, ?_, ?_, ?_, ?_⟩
  · unfold sendS
    split
    · simp; omega
    · exact h
  · unfold loseS
    split
    · rename_i hi; have := her i hi; simp only; omega
    · exact h
  · unfold takeS
    split
    · rename_i hi; have := her i hi; simp only; omega
    · exact h
  · unfold doubleS
    split
    · simp; omega
    · exact h
  · unfold moveS
    split
    · rename_i hi
      have a1 := hi.1.1
      have a2 := hi.1.2
      have b1 := hi.2.1
      have b2 := hi.2.2
      have : (moved S.L i.toNat j.toNat).length = S.L.length := moved_len (by omega) (by omega)
      simp only [this]
      exact h
    · exact h
/-- No text comes but the one that is sent. -/
theorem texts_all {S : NS} {Q : List Int → Prop} (h : ∀ t ∈ S.L, Q t) (t : List Int) (i j : Int) :
    (sendC S t ≠ 0 → ∀ u ∈ (sendS S t).L, Q u) ∧ (∀ u ∈ (sendS S t).L, Q u ∨ u = t) ∧ (∀ u ∈ (loseS S i).L, Q u) ∧ (∀ u ∈ (takeS S i).L, Q u) ∧ (∀ u ∈ (doubleS S i).L, Q u) ∧ (∀ u ∈ (moveS S i j).L, Q u) ∧ (takeC S i = 0 → Q (takeT S i)) := by
  refine ⟨fun hc u hu => ?_, fun u hu => ?_, fun u hu => ?_, fun u hu => ?_, fun u hu => ?_, fun u hu => ?_, fun hc => ?_⟩
  · unfold sendS at hu; rw [if_neg hc] at hu; exact h u hu
  · unfold sendS at hu
    split at hu
    · rcases List.mem_append.1 hu with h1 | h1
      · exact .inl (h u h1)
      · exact .inr (List.mem_singleton.1 h1)
    · exact .inl (h u hu)
  · unfold loseS at hu
    split at hu
    · exact h u (List.mem_of_mem_eraseIdx hu)
    · exact h u hu
  · unfold takeS at hu
    split at hu
    · exact h u (List.mem_of_mem_eraseIdx hu)
    · exact h u hu
  · unfold doubleS at hu
    split at hu
    · rename_i e
      have h1 : S.has i := by
        by_cases hh : S.has i
        · exact hh
        · unfold doubleC at e; rw [if_neg hh] at e; cases e
      rcases List.mem_append.1 hu with h2 | h2
      · exact h u h2
      · rw [List.mem_singleton] at h2; subst h2; exact h _ (has_mem h1)
    · exact h u hu
  · unfold moveS at hu
    split at hu
    · rename_i e
      have hu' : u ∈ moved S.L i.toNat j.toNat := hu
      unfold moved at hu'
      rcases List.mem_append.1 hu' with h4 | h4
      · exact h u (List.mem_of_mem_eraseIdx (List.mem_of_mem_take h4))
      · rcases List.mem_cons.1 h4 with h4 | h4
        · rw [h4]; exact h _ (has_mem e.1)
        · exact h u (List.mem_of_mem_eraseIdx (List.mem_of_mem_drop h4))
    · exact h u hu
  · have h1 : S.has i := by
      by_cases hh : S.has i
      · exact hh
      · unfold takeC at hc; rw [if_neg hh] at hc; cases hc
    unfold takeT
    rw [if_pos h1]
    exact h _ (has_mem h1)
end Go.Proofs.YtdglpbjofdipkaaDoor
