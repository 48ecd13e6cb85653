/- The calls of a round, net and reference's net side by side. -/
import Derived.Test.YtdglpbjofdipkaaDoorNetN
namespace Go.Proofs.YtdglpbjofdipkaaDoor
open Go.RowKit Go.Stop Go.Extern Go.Ranges Go.Rows2 Go.Sort Go.BigFrame
set_option linter.unusedVariables false
set_option linter.unusedSimpArgs false
set_option maxRecDepth 20000
def PB (w0 w : World) (p q : Nat) (S1 S2 : NS) (b : Nat) (C : Array Value) : Prop :=
  Below w0.heap.size w0 w ∧ ∃ v v2 xs xs2, Pair w w0.heap.size p q S1 S2 v v2 xs xs2 b C
section
variable {w0 w w' : World} {p q : Nat} {S1 S2 S : NS} {b k : Nat} {C : Array Value}
theorem PB.below (h : PB w0 w p q S1 S2 b C) (hb : Below w.heap.size w w') : PB w0 w' p q S1 S2 b C := by
  obtain ⟨h0, v, v2, xs, xs2, h⟩ := h
  exact ⟨h0.trans (hb.mono h0.size), v, v2, xs, xs2, h.below hb⟩
theorem PB.drew (h : PB w0 w p q S1 S2 b C) : PB w0 w.drew p q S1 S2 b C := h.below (Below.refl _ _).drew
theorem PB.both {room : Int} (h : PB w0 w p q S S b C) (hS : S.ok k) (hr : S.room = room) : Both w w0.heap.size p q room k := by
  obtain ⟨h0, v, v2, xs, xs2, h⟩ := h
  exact h.both hS hr
theorem PB.net {v : Value} {v2 : Value} {xs xs2 : List Value} (h0 : Below w0.heap.size w0 w) (h : Pair w w0.heap.size p q S1 S2 v v2 xs xs2 b C) {S1' : NS} {r : Value} {e : Ending} (he : NetEnd w w0.heap.size p (fun k => k = p ∨ k = q) r S1' v e w') :
    e = .returned r ∧ PB w0 w' p q S1' S2 b C := by
  obtain ⟨v', xs', rfl, hP, hC⟩ := h.net_step he
  exact ⟨rfl, h0.trans (hC.below h0.size (writes_ge h.net)), _, _, _, _, hP⟩
theorem PB.ref {v : Value} {v2 : Value} {xs xs2 : List Value} (h0 : Below w0.heap.size w0 w) (h : Pair w w0.heap.size p q S1 S2 v v2 xs xs2 b C) {S2' : NS} {r : Value} {e : Ending} (he : RefEnd w w0.heap.size q r S2' v2 e w') :
    e = .returned r ∧ PB w0 w' p q S1 S2' b C := by
  obtain ⟨v', xs', rfl, hP, hC⟩ := h.ref_step he
  exact ⟨rfl, h0.trans (hC.below h0.size (fun k hk => by rw [hk]; exact h.ref.hq)), _, _, _, _, hP⟩
theorem PB.lose (a : Nat → Addr) (h : PB w0 w p q S S2 b C) (hS : S.ok k) (hk : k ≤ 1000) (H : Errs w0 a) (i : Int) :
    Calls Tryd.prog 51 #[.pointer (some ⟨p, 0, none⟩), .int .i64 i] w fun e w' => e = .returned (errV a (takeC S i)) ∧ PB w0 w' p q (loseS S i) S2 b C := by
  obtain ⟨h0, v, v2, xs, xs2, h⟩ := h
  exact (lose_all a h.net hS hk (H.below h0) i).mono fun e w' he => PB.net h0 h he
theorem PB.refLose (h : PB w0 w p q S1 S b C) (hS : S.ok k) (hk : k ≤ 1000) (i : Int) :
    Calls Tryd.prog 58 #[.pointer (some ⟨q, 0, none⟩), .int .i64 i] w fun e w' => e = .returned (.int .i64 (takeC S i)) ∧ PB w0 w' p q S1 (loseS S i) b C := by
  obtain ⟨h0, v, v2, xs, xs2, h⟩ := h
  exact (refLose_all h.ref hS hk i).mono fun e w' he => PB.ref h0 h he
theorem PB.double (a : Nat → Addr) (h : PB w0 w p q S S2 b C) (hS : S.ok k) (hk : k ≤ 1000) (H : Errs w0 a) (i : Int) :
    Calls Tryd.prog 52 #[.pointer (some ⟨p, 0, none⟩), .int .i64 i] w fun e w' => e = .returned (errV a (doubleC S i)) ∧ PB w0 w' p q (doubleS S i) S2 b C := by
  obtain ⟨h0, v, v2, xs, xs2, h⟩ := h
  exact (double_all a h.net hS hk (H.below h0) i h0.size).mono fun e w' he => PB.net h0 h he
theorem PB.refDouble (h : PB w0 w p q S1 S b C) (hS : S.ok k) (hk : k ≤ 1000) (i : Int) :
    Calls Tryd.prog 59 #[.pointer (some ⟨q, 0, none⟩), .int .i64 i] w fun e w' => e = .returned (.int .i64 (doubleC S i)) ∧ PB w0 w' p q S1 (doubleS S i) b C := by
  obtain ⟨h0, v, v2, xs, xs2, h⟩ := h
  exact (refDouble_all h.ref hS hk i).mono fun e w' he => PB.ref h0 h he
theorem PB.move (a : Nat → Addr) (h : PB w0 w p q S S2 b C) (hS : S.ok k) (H : Errs w0 a) (i j : Int) :
    Calls Tryd.prog 48 #[.pointer (some ⟨p, 0, none⟩), .int .i64 i, .int .i64 j] w fun e w' => e = .returned (errV a (moveC S i j)) ∧ PB w0 w' p q (moveS S i j) S2 b C := by
  obtain ⟨h0, v, v2, xs, xs2, h⟩ := h
  exact (move_all a h.net hS (H.below h0) i j).mono fun e w' he => PB.net h0 h he
theorem PB.refMove (h : PB w0 w p q S1 S b C) (hS : S.ok k) (i j : Int) :
    Calls Tryd.prog 60 #[.pointer (some ⟨q, 0, none⟩), .int .i64 i, .int .i64 j] w fun e w' => e = .returned (.int .i64 (moveC S i j)) ∧ PB w0 w' p q S1 (moveS S i j) b C := by
  obtain ⟨h0, v, v2, xs, xs2, h⟩ := h
  exact (refMove_all h.ref hS i j).mono fun e w' he => PB.ref h0 h he
theorem PB.take (a : Nat → Addr) (h : PB w0 w p q S S2 b C) (hS : S.ok k) (hk : k ≤ 1000) (H : Errs w0 a) (i : Int) :
    Calls Tryd.prog 50 #[.pointer (some ⟨p, 0, none⟩), .int .i64 i] w fun e w' => ∃ x, e = .returned (.tuple #[x, errV a (takeC S i)]) ∧ TextIs w' (fun k => w0.heap.size ≤ k ∧ k ≠ q) x (takeT S i) ∧ PB w0 w' p q (takeS S i) S2 b C := by
  obtain ⟨h0, v, v2, xs, xs2, h⟩ := h
  refine (take_all a h.net hS hk (H.below h0) i).mono ?_
  rintro e w' ⟨x, ht, he⟩
  obtain ⟨h1, h2⟩ := PB.net h0 h he
  exact ⟨x, h1, ht.mono (fun k _ ⟨h3, h4⟩ => ⟨h3, fun e => h4 (.inr e)⟩), h2⟩
theorem PB.refTake (h : PB w0 w p q S1 S b C) (hS : S.ok k) (hk : k ≤ 1000) (i : Int) {x : Value} {t : List Int} (ht : TextIs w (fun k => w0.heap.size ≤ k ∧ k ≠ q) x t) :
    Calls Tryd.prog 57 #[.pointer (some ⟨q, 0, none⟩), .int .i64 i] w fun e w' => ∃ y, e = .returned (.tuple #[y, .int .i64 (takeC S i)]) ∧ TextIs w' (fun k => k < w0.heap.size) y (takeT S i) ∧ TextIs w' (fun k => w0.heap.size ≤ k ∧ k ≠ q) x t ∧ PB w0 w' p q S1 (takeS S i) b C := by
  obtain ⟨h0, v, v2, xs, xs2, h⟩ := h
  refine (refTake_all h.ref hS hk i).mono ?_
  rintro e w' ⟨y, hy, he⟩
  obtain ⟨h1, h2⟩ := PB.ref h0 h he
  obtain ⟨v', xs', rfl, hR, hC, hr⟩ := he
  exact ⟨y, h1, hy, ht.chg hC (fun k _ hk e => hk.2 e), h2⟩
theorem PB.num (a : Nat → Addr) (h : PB w0 w p q S1 S2 b C) (H : Errs w0 a) (n : Nat) (hn : n ≤ 22) :
    Calls Tryd.prog 16 #[errV a n] w fun e w' => e = .returned (.int .i64 n) ∧ PB w0 w' p q S1 S2 b C ∧ Below w.heap.size w w' :=
  (num_any a n hn w (H.below h.1)).mono fun e w' ⟨h1, h2⟩ => ⟨h1, h.below h2, h2⟩
end
theorem code_le (S : NS) (t : List Int) (i j : Int) : sendC S t ≤ 22 ∧ takeC S i ≤ 22 ∧ doubleC S i ≤ 22 ∧ moveC S i j ≤ 22 := by
  refine ⟨?_, ?_, ?_, ?_⟩
  · unfold sendC; split <;> (try split) <;> omega
  · unfold takeC; split <;> omega
  · unfold doubleC; split <;> (try split) <;> omega
  · unfold moveC; split <;> omega
theorem PB.cells {w0 w : World} {p q : Nat} {S1 S2 : NS} {b : Nat} {x0 x1 x2 x3 : Value} (h : PB w0 w p q S1 S2 b #[x0, x1, x2, x3]) :
    w.cell? ⟨b, 1, none⟩ = some x1 ∧ w.cell? ⟨b, 2, none⟩ = some x2 ∧ w.cell? ⟨b, 3, none⟩ = some x3 := by
  obtain ⟨_, v, v2, xs, xs2, h⟩ := h
  exact ⟨(h.bC 1).trans rfl, (h.bC 2).trans rfl, (h.bC 3).trans rfl⟩
theorem bytes_chg {w w' : World} {T : Nat → Prop} {g n : Nat} {xs : List Int} (h : Lib.BytesIn w (some ⟨g, 0, none⟩) n xs) (hc : Chg T w w') (hg : ¬ T g) : Lib.BytesIn w' (some ⟨g, 0, none⟩) n xs := fun hn => by
  obtain ⟨b, o, e, hl⟩ := h hn
  injection e with e
  injection e with e1 e2
  subst e1 e2
  refine ⟨g, 0, rfl, fun i hi => ?_⟩
  have hlt := World.block_lt_of_cell? w _ (hl i hi)
  rw [← hl i hi]
  unfold World.cell?
  rw [hc.block g hlt hg]
/-- .. and a block of bytes that neither net holds. -/
def PG (w0 w : World) (p q : Nat) (S1 S2 : NS) (b : Nat) (C : Array Value) (g : Nat) (t : List Int) : Prop :=
  Below w0.heap.size w0 w ∧ ∃ v v2 xs xs2, Pair w w0.heap.size p q S1 S2 v v2 xs xs2 b C ∧ g < w.heap.size ∧ g ≠ p ∧ g ≠ q ∧ some g ≠ v.ownBlock ∧ some g ≠ v2.ownBlock ∧ Lib.BytesIn w (some ⟨g, 0, none⟩) (t.length + 6) (t ++ kept)
section
variable {w0 w w' : World} {p q : Nat} {S1 S2 S : NS} {b k g : Nat} {C : Array Value} {t : List Int}
theorem PG.pb (h : PG w0 w p q S1 S2 b C g t) : PB w0 w p q S1 S2 b C := by
  obtain ⟨h0, v, v2, xs, xs2, h, _⟩ := h
  exact ⟨h0, v, v2, xs, xs2, h⟩
theorem PG.bytes (h : PG w0 w p q S1 S2 b C g t) : Lib.BytesIn w (some ⟨g, 0, none⟩) (t.length + 6) (t ++ kept) := by
  obtain ⟨h0, v, v2, xs, xs2, h, _, _, _, _, _, hB⟩ := h
  exact hB
theorem PG.below (h : PG w0 w p q S1 S2 b C g t) (hb : Below w.heap.size w w') : PG w0 w' p q S1 S2 b C g t := by
  obtain ⟨h0, v, v2, xs, xs2, h, h1, h2, h3, h4, h5, h6⟩ := h
  exact ⟨h0.trans (hb.mono h0.size), v, v2, xs, xs2, h.below hb, Nat.lt_of_lt_of_le h1 hb.size, h2, h3, h4, h5, bytesIn_below' h6 hb⟩
theorem PG.drew (h : PG w0 w p q S1 S2 b C g t) : PG w0 w.drew p q S1 S2 b C g t := h.below (Below.refl _ _).drew
theorem PB.fresh (h : PB w0 w p q S1 S2 b C) (hb : Below w.heap.size w w') (hg : w.heap.size ≤ g) (hB : Lib.BytesIn w' (some ⟨g, 0, none⟩) (t.length + 6) (t ++ kept)) : PG w0 w' p q S1 S2 b C g t := by
  obtain ⟨h0, v, v2, xs, xs2, h⟩ := h
  obtain ⟨b', o', e, hl⟩ := hB (by omega)
  injection e with e
  injection e with e1 e2
  subst e1 e2
  have hlt : g < w'.heap.size := World.block_lt_of_cell? w' _ (hl 0 (by omega))
  refine ⟨h0.trans (hb.mono h0.size), v, v2, xs, xs2, h.below hb, hlt, ?_, ?_, ?_, ?_, hB⟩
  · have := h.net.plt; omega
  · have := h.ref.qlt; omega
  · intro e; have := (net_own_lt h.net _ e.symm).2; omega
  · intro e; have := (ref_own_lt h.ref _ e.symm).2; omega
theorem PG.send (a : Nat → Addr) (h : PG w0 w p q S S2 b C g t) (hS : S.ok k) (hk : k ≤ 1000) (H : Errs w0 a) (cap : Nat) :
    Calls Tryd.prog 46 #[.pointer (some ⟨p, 0, none⟩), .slice (some ⟨g, 0, none⟩) t.length cap] w fun e w' => e = .returned (errV a (sendC S t)) ∧ PG w0 w' p q (sendS S t) S2 b C g t := by
  obtain ⟨h0, v, v2, xs, xs2, h, h1, h2, h3, h4, h5, h6⟩ := h
  have hB : Lib.BytesIn w (some ⟨g, 0, none⟩) t.length t := fun hn => by
    obtain ⟨b', o', e, hl⟩ := h6 (by omega)
    refine ⟨b', o', e, fun i hi => ?_⟩
    rw [hl i (by omega)]
    simp [List.getD, List.getElem?_append_left hi]
  refine (send_all a h.net hS hk (H.below h0) _ cap t hB h0.size).mono ?_
  rintro e w' he
  obtain ⟨v', xs', rfl, hP, hC⟩ := h.net_step he
  have hr : rowNew w v v' := by
    obtain ⟨v'', xs'', e, hN, hr, hC'⟩ := he
    have e1 := hN.blk
    rw [hP.net.blk] at e1
    have e2 : v' = v'' := by
      injection e1 with e1
      injection e1 with e1
      have := congrArg (fun A : Array Value => A[5]?) e1
      simpa [netC] using this
    rw [e2]; exact hr
  refine ⟨rfl, h0.trans (hC.below h0.size (writes_ge h.net)), v', v2, xs', xs2, hP, Nat.lt_of_lt_of_le h1 hC.size, h2, h3, ?_, h5, bytes_chg h6 hC (fun hw => ?_)⟩
  · intro e
    rcases hr with hr | hr
    · exact h4 (by rw [e, hr])
    · have := hr g e.symm; omega
  · rcases hw with hw | hw
    · exact h2 hw
    · exact h4 hw
theorem PG.refSend (h : PG w0 w p q S1 S b C g t) (hS : S.ok k) (hk : k ≤ 1000) (A : Option Addr) (c : Nat) (hB : Lib.BytesIn w0 A t.length t) (h1 : t.length ≤ c) (h2 : c ≤ maxLen) :
    Calls Tryd.prog 56 #[.pointer (some ⟨q, 0, none⟩), .slice A t.length c] w fun e w' => e = .returned (.int .i64 (sendC S t)) ∧ PB w0 w' p q S1 (sendS S t) b C ∧ Lib.BytesIn w' (some ⟨g, 0, none⟩) (t.length + 6) (t ++ kept) := by
  obtain ⟨h0, v, v2, xs, xs2, h, k1, k2, k3, k4, k5, h6⟩ := h
  refine (refSend_all h.ref hS hk A c t (text_in hB h1 h2 h0)).mono ?_
  rintro e w' he
  obtain ⟨r1, r2⟩ := PB.ref h0 h he
  obtain ⟨v', xs', rfl, hR, hC, hr⟩ := he
  exact ⟨r1, r2, bytes_chg h6 hC k3⟩
theorem PG.num (a : Nat → Addr) (h : PG w0 w p q S1 S2 b C g t) (H : Errs w0 a) (n : Nat) (hn : n ≤ 22) :
    Calls Tryd.prog 16 #[errV a n] w fun e w' => e = .returned (.int .i64 n) ∧ PG w0 w' p q S1 S2 b C g t :=
  (num_any a n hn w (H.below h.pb.1)).mono fun e w' ⟨h1, h2⟩ => ⟨h1, h.below h2⟩
end
theorem own_ge {w : World} {base g m n c : Nat} {e : TypeId} {xs : List Value} (h : w.ownsRow base e m (.slice (some ⟨g, 0, none⟩) n c) n xs) (hn : 0 < n) : base ≤ g := by
  rcases h.2 with ⟨hv, _⟩ | ⟨g', _, _, hv, hg, _⟩
  · injection hv with hv; cases hv
  · injection hv with hv
    injection hv with hv
    injection hv with hv
    rw [hv]; exact hg
theorem own_cap {w : World} {base g m n c : Nat} {e : TypeId} {xs : List Value} (h : w.ownsRow base e m (.slice (some ⟨g, 0, none⟩) (n + 6) c) (n + 6) xs) : n + 6 ≤ c ∧ c ≤ maxLen := by
  obtain ⟨g', c', hv, h1, h2, _⟩ := own_form8 h (by omega)
  injection hv with _ _ hv
  subst hv
  exact ⟨h1, h2⟩
theorem old_bytes (w : World) (T : TypeId) (fr : Nat × Nat) : Lib.BytesIn (w.alloc (.cells #[.int .u8 111, .int .u8 108, .int .u8 100] T fr)) (some ⟨w.heap.size, 0, none⟩) 3 [111, 108, 100] := fun _ =>
  ⟨_, 0, rfl, fun i hi => by
    have h := cell_of_row (w.alloc (.cells #[.int .u8 111, .int .u8 108, .int .u8 100] T fr)) w.heap.size (0 + i) _ _ _ (heap_alloc_last w _)
    rw [h]
    have : i = 0 ∨ i = 1 ∨ i = 2 := by omega
    rcases this with rfl | rfl | rfl <;> rfl⟩
/-- What the reference's cells read as, and that they stay so. -/
theorem refS {w w' : World} {base q : Nat} {S : NS} {v : Value} {xs : List Value} (h : RefV w base q S v xs) (hb : Below w.heap.size w w') :
    w'.cell? ⟨q, 1, none⟩ = some v ∧ w'.cell? ⟨q, 2, none⟩ = some (.int .i64 S.s) ∧ w'.cell? ⟨q, 3, none⟩ = some (.int .i64 S.t) ∧ w'.cell? ⟨q, 4, none⟩ = some (.int .i64 S.l) ∧ w'.cell? ⟨q, 5, none⟩ = some (.int .i64 S.d) ∧ Below w.heap.size w w' :=
  ⟨(ref_cell (h.below hb) 1).trans rfl, (ref_cell (h.below hb) 2).trans rfl, (ref_cell (h.below hb) 3).trans rfl, (ref_cell (h.below hb) 4).trans rfl, (ref_cell (h.below hb) 5).trans rfl, hb⟩
theorem below_step {w w1 w2 : World} (h : Below w.heap.size w w1) (h2 : Below w1.heap.size w1 w2) : Below w.heap.size w w2 := h.trans (h2.mono h.size)
theorem PB.cells12 {w0 w : World} {p q : Nat} {S1 S2 : NS} {b : Nat} {x0 x1 x2 x3 : Value} (h : PB w0 w p q S1 S2 b #[x0, x1, x2, x3]) :
    w.cell? ⟨b, 1, none⟩ = some x1 ∧ w.cell? ⟨b, 2, none⟩ = some x2 := ⟨h.cells.1, h.cells.2.1⟩
theorem send_old (a : Nat → Addr) {w : World} {base p : Nat} {X : Nat → Prop} {S : NS} {v : Value} {xs : List Value} {k : Nat} (h : NetV w base p X S v xs) (hS : S.ok k) (hk : k ≤ 1000) {w0 : World} (H : Errs w0 a) (hb : Below w0.heap.size w0 w) (hbase : base ≤ w.heap.size) (T : TypeId) (fr : Nat × Nat) :
    Calls Tryd.prog 46 #[.pointer (some ⟨p, 0, none⟩), .slice (some ⟨w.heap.size, 0, none⟩) 3 3] (w.alloc (.cells #[.int .u8 111, .int .u8 108, .int .u8 100] T fr))
      fun e w' => (∃ r, e = .returned r) ∧ Chg (writes p v) w w' := by
  have ha := alloc_below w (.cells #[.int .u8 111, .int .u8 108, .int .u8 100] T fr)
  refine (send_all a (h.below ha) hS hk (H.below (hb.trans (ha.mono hb.size))) (some ⟨w.heap.size, 0, none⟩) 3 [111, 108, 100] (old_bytes w T fr) (Nat.le_trans hbase ha.size)).mono ?_
  rintro e w' ⟨v', xs', rfl, _, _, hC⟩
  exact ⟨⟨_, rfl⟩, (Chg.of_below ha).trans hC⟩
end Go.Proofs.YtdglpbjofdipkaaDoor
