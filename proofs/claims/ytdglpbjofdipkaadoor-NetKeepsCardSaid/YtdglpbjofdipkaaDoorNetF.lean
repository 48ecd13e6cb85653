/- A net: Move; what Send, Move refuse. -/
import Derived.Test.YtdglpbjofdipkaaDoorNetE
namespace Go.Proofs.YtdglpbjofdipkaaDoor
open Go.RowKit Go.Stop Go.Extern Go.Ranges Go.Rows2 Go.Sort Go.BigFrame
set_option linter.unusedVariables false
set_option linter.unusedSimpArgs false
theorem send_long (a : Nat → Addr) {w : World} (p : Nat) (A : Option Addr) (n c : Nat) (hn : 3100 < n) (H : Errs w a) :
    Calls Tryd.prog 46 #[.pointer (some ⟨p, 0, none⟩), .slice A n c] w fun e w' => e = .returned (.iface 143 (.pointer (some (a 13)))) ∧ Below w.heap.size w w' := by
  have e1 : w.cell? ⟨12, 0, none⟩ = _ := H.at 13 (by decide) (by decide)
  have hn2 : (3100 : Int) < (n : Int) := by omega
  go_enter Tryd.func46, Tryd.ntmps46
  go_wp2
  go_ret
  exact ⟨rfl, Below.refl _ _⟩
theorem send_full (a : Nat → Addr) {w : World} {base p : Nat} {X : Nat → Prop} {S : NS} {v : Value} {xs : List Value} (h : NetV w base p X S v xs) (A : Option Addr) (n c : Nat) (hn : n ≤ 3100) (hr0 : 0 ≤ S.room) (hr : S.room ≤ 64) (hroom : (S.L.length : Int) = S.room) (H : Errs w a) :
    Calls Tryd.prog 46 #[.pointer (some ⟨p, 0, none⟩), .slice A n c] w fun e w' => e = .returned (.iface 143 (.pointer (some (a 12)))) ∧ Below w.heap.size w w' := by
  have hrm := room_any h hr0 hr (by omega)
  rw [show S.room - (S.L.length : Int) = 0 by omega] at hrm
  have HR := Lib.hid hrm
  have e1 : w.cell? ⟨11, 0, none⟩ = _ := H.at 12 (by decide) (by decide)
  have n3 : ¬ (3100 : Int) < (n : Int) := by omega
  clear hrm h hroom
  go_enter Tryd.func46, Tryd.ntmps46
  go_wp2_with (go_at_call 55; (with_reducible refine HR.out.mono ?_); rintro e w1 ⟨rfl, k1, rfl⟩)
  go_ret
  exact ⟨rfl, below_drewN _ _⟩
theorem move_no1 (a : Nat → Addr) {w : World} {base p : Nat} {X : Nat → Prop} {S : NS} {v : Value} {xs : List Value} (h : NetV w base p X S v xs) (i tt : Int) (hto : tt < 0 ∨ (S.L.length : Int) ≤ tt) (H : Errs w a) :
    Calls Tryd.prog 48 #[.pointer (some ⟨p, 0, none⟩), .int .i64 i, .int .i64 tt] w fun e w' => e = .returned (.iface 143 (.pointer (some (a 21)))) ∧ Below w.heap.size w w' := by
  obtain ⟨A, c, hv⟩ := h.slice
  have c5 := net_cell h 5
  rw [show (netC S v)[5]? = some v from rfl, hv] at c5
  have e1 : w.cell? ⟨20, 0, none⟩ = _ := H.at 21 (by decide) (by decide)
  clear h hv
  by_cases h0 : tt < 0
  · go_enter Tryd.func48, Tryd.ntmps48
    go_wp2_with fail
    go_ret
    exact ⟨rfl, Below.refl _ _⟩
  · have h1 : (S.L.length : Int) ≤ tt := by omega
    go_enter Tryd.func48, Tryd.ntmps48
    go_wp2_with fail
    go_ret
    exact ⟨rfl, Below.refl _ _⟩
theorem move_no2 (a : Nat → Addr) {w : World} {base p : Nat} {X : Nat → Prop} {S : NS} {v : Value} {xs : List Value} (h : NetV w base p X S v xs) (i : Int) (tt : Nat) (hto : tt < S.L.length) (hi : i < 0 ∨ (S.L.length : Int) ≤ i) (H : Errs w a) :
    Calls Tryd.prog 48 #[.pointer (some ⟨p, 0, none⟩), .int .i64 i, .int .i64 tt] w fun e w' => e = .returned (.iface 143 (.pointer (some (a 21)))) ∧ Below w.heap.size w w' := by
  have HO := Lib.hid (out_no a h i hi H)
  obtain ⟨A, c, hv⟩ := h.slice
  have c5 := net_cell h 5
  rw [show (netC S v)[5]? = some v from rfl, hv] at c5
  clear h hv hi
  go_enter Tryd.func48, Tryd.ntmps48
  go_wp2_with (go_at_call 81; (with_reducible refine HO.out.mono ?_); rintro e w1 ⟨rfl, hb⟩)
  go_ret
  exact ⟨rfl, hb⟩
/-- A row moved. -/
def moved (L : List (List Int)) (i tt : Nat) : List (List Int) := (L.eraseIdx i).take tt ++ L.getD i [] :: (L.eraseIdx i).drop tt
theorem moved_len {L : List (List Int)} {i tt : Nat} (hi : i < L.length) (hto : tt < L.length) : (moved L i tt).length = L.length := by
  unfold moved
  have : (L.eraseIdx i).length = L.length - 1 := by rw [List.length_eraseIdx, if_pos hi]
  simp only [List.length_append, List.length_cons, List.length_take, List.length_drop, this]
  omega
theorem ins_rel {R : Value → List Int → Prop} {xs : List Value} {L : List (List Int)} {t : Nat} {x : Value} {u : List Int} (hl : xs.length = L.length) (ht : t ≤ L.length) (h : ∀ j, j < L.length → ∃ y, xs[j]? = some y ∧ R y (L.getD j [])) (hx : R x u) :
    ∀ j, j < L.length + 1 → ∃ y, (xs.take t ++ x :: xs.drop t)[j]? = some y ∧ R y ((L.take t ++ u :: L.drop t).getD j []) := fun j hj => by
  have l1 : (xs.take t).length = t := by rw [List.length_take]; omega
  have l2 : (L.take t).length = t := by rw [List.length_take]; omega
  by_cases h1 : j < t
  · obtain ⟨y, e, hy⟩ := h j (by omega)
    refine ⟨y, by rw [List.getElem?_append_left (by omega), List.getElem?_take_of_lt h1]; exact e, ?_⟩
    rw [List.getD_eq_getElem?_getD, List.getElem?_append_left (by omega), List.getElem?_take_of_lt h1, ← List.getD_eq_getElem?_getD]
    exact hy
  · by_cases h2 : j = t
    · subst h2
      refine ⟨x, by rw [List.getElem?_append_right (by omega), l1, Nat.sub_self]; rfl, ?_⟩
      rw [List.getD_eq_getElem?_getD, List.getElem?_append_right (by omega), l2, Nat.sub_self]
      exact hx
    · obtain ⟨y, e, hy⟩ := h (j - 1) (by omega)
      refine ⟨y, ?_, ?_⟩
      · rw [List.getElem?_append_right (by omega), l1, show j - t = (j - t - 1) + 1 by omega, List.getElem?_cons_succ, List.getElem?_drop, show t + (j - t - 1) = j - 1 by omega]
        exact e
      · rw [List.getD_eq_getElem?_getD, List.getElem?_append_right (by omega), l2, show j - t = (j - t - 1) + 1 by omega, List.getElem?_cons_succ, List.getElem?_drop, show t + (j - t - 1) = j - 1 by omega, ← List.getD_eq_getElem?_getD]
        exact hy
set_option maxRecDepth 20000 in
set_option maxHeartbeats 4000000 in
theorem move_ok {w : World} {base p : Nat} {X : Nat → Prop} {S : NS} {v : Value} {xs : List Value} (h : NetV w base p X S v xs) (i tt : Nat) (hi : i < S.L.length) (hto : tt < S.L.length) (hL : S.L.length ≤ 1000) :
    Calls Tryd.prog 48 #[.pointer (some ⟨p, 0, none⟩), .int .i64 i, .int .i64 tt] w fun e w' => ∃ v' xs', e = .returned .nilIface ∧ NetV w' base p X { S with L := moved S.L i tt } v' xs' ∧ v'.ownBlock = v.ownBlock ∧ Chg (writes p v) w w' := by
  have ho0 := out_ok h i hi hL
  obtain ⟨t, ht⟩ : ∃ t, t = S.L.getD i [] := ⟨_, rfl⟩
  rw [← ht] at ho0
  have HO := Lib.hid ho0
  have Ht := Lib.hid ht
  clear ho0 ht
  obtain ⟨A, c, hv⟩ := h.slice
  have c5 := net_cell h 5
  rw [show (netC S v)[5]? = some v from rfl, hv] at c5
  have hxp := h.xp
  have HX := Lib.hid h.xlt
  have hl : (S.L.eraseIdx i).length = S.L.length - 1 := by rw [List.length_eraseIdx, if_pos hi]
  have Hl := Lib.hid hl
  have hto1 : ¬ ((tt : Int) < 0) := by omega
  have hto2 : ¬ ((S.L.length : Int) ≤ (tt : Int)) := by omega
  clear h hv hl
  go_enter Tryd.func48, Tryd.ntmps48
  go_wp2_with (go_at_call 81
               (with_reducible refine HO.out.mono ?_)
               rintro e w1 ⟨x, v', xs', rfl, hx, hN, hvo, hC, g, cg, hv', hc1, hc2⟩
               subst hv'
               obtain ⟨Ax, cx, rfl⟩ := hx.form
               have d5 : w1.cell? ⟨p, 5, none⟩ = some (.slice (some ⟨g, 0, none⟩) (S.L.length - 1) cg) := (net_cell hN 5).trans rfl
               have HX1 := Lib.hid hx
               have HN := Lib.hid hN
               have HV := Lib.hid hvo
               have HC := Lib.hid hC
               have Hc := Lib.hid (And.intro hc1 hc2)
               clear hx hN hvo hC hc1 hc2)
  have ho := HN.out.own
  have hgp : g ≠ p := fun e => HN.out.xg g rfl (e ▸ hxp)
  have hgl : g < w1.heap.size := by
    rcases ho.2 with ⟨hv, _⟩ | ⟨g', _, _, hv, _, hh, _⟩
    · cases hv
    · injection hv with e1; injection e1 with e1; injection e1 with e1; subst e1
      exact (Array.getElem?_eq_some_iff.1 hh).1
  have ho9 : w1.ownsRow base 55 1 (.slice (some ⟨g, 0, none⟩) (S.L.length - 1) cg) (S.L.length - 1) xs' := by
    have h9 : w1.ownsRow base 55 1 (.slice (some ⟨g, 0, none⟩) (S.L.length - 1) cg) (S.L.eraseIdx i).length xs' := ho
    rw [Hl.out] at h9
    exact h9
  have hoA := ho9.alloc (.cells #[.slice Ax t.length cx] 55)
  have hins := insert_any base g (S.L.length - 1) cg tt w1.heap.size (.slice Ax t.length cx) xs' _ hoA (by omega) (by have := Hc.out.1; omega) HN.out.one rfl (heap_alloc_last w1 _) (by omega)
  refine hins.mono ?_
  rintro e w2 ⟨rfl, ho2, hg2⟩
  have hN1 := HN.out.below (alloc_below w1 (.cells #[.slice Ax t.length cx] 55))
  have hb2 : w2.heap[p]? = some (.cells (netC { S with L := S.L.eraseIdx i } (.slice (some ⟨g, 0, none⟩) (S.L.length - 1) cg)) 122 (0, 0)) := (hg2.block p hN1.plt (fun e => hgp (by injection e with e; exact e.symm))).trans hN1.blk
  have d5' : w2.cell? ⟨p, 5, none⟩ = some (.slice (some ⟨g, 0, none⟩) (S.L.length - 1) cg) := (cell_of_row _ _ _ _ _ _ hb2).trans rfl
  have f5' : w2.frozen? ⟨p, 5, none⟩ = false := by simp [World.frozen?, hb2]
  have HB2 := Lib.hid hb2
  have HO2 := Lib.hid ho2
  have HG2 := Lib.hid hg2
  have HGP := Lib.hid hgp
  clear hb2 ho2 hg2 hN1 hoA hins ho hgp
  go_wp2_with fail
  go_ret
  have hn1 : S.L.length - 1 + 1 = S.L.length := by omega
  have hC1 : Chg (writes p v) w1 (w2.setCell ⟨p, 5, none⟩ (.slice (some ⟨g, 0, none⟩) (S.L.length - 1 + 1) cg)) :=
    ((Chg.of_below (alloc_below w1 _)).trans (Chg.of_grown HG2.out (fun k hk => .inr (by rw [← HV.out]; exact hk.symm)))).setCell (.inl rfl) _
  have hTT : ∀ {y : Value} {u : List Int}, TextIs w1 (fun k => base ≤ k ∧ ¬ X k ∧ some k ≠ v.ownBlock) y u → TextIs (w2.setCell ⟨p, 5, none⟩ (.slice (some ⟨g, 0, none⟩) (S.L.length - 1 + 1) cg)) (fun k => base ≤ k ∧ ¬ X k ∧ some k ≠ (Value.slice (some ⟨g, 0, none⟩) (S.L.length - 1 + 1) cg).ownBlock) y u := fun hy =>
    (hy.chg hC1 (fun k hk ⟨_, b, c⟩ hw => by
      rcases hw with rfl | hw
      · exact b hxp
      · exact c hw)).mono (fun k _ ⟨a, b, c⟩ => ⟨a, b, fun e => c (e.trans HV.out)⟩)
  refine ⟨.slice (some ⟨g, 0, none⟩) (S.L.length - 1 + 1) cg, xs'.take tt ++ .slice Ax t.length cx :: xs'.drop tt, rfl, ⟨(setCell_row (a := ⟨p, 5, none⟩) rfl HB2.out).trans rfl, ?_, fun j hj => ?_, HN.out.hp, hxp, fun k hk => Nat.lt_of_lt_of_le (HN.out.xlt k hk) hC1.size, HN.out.xg⟩, HV.out, HC.out.trans hC1⟩
  · show World.ownsRow _ _ _ _ _ (moved S.L i tt).length _
    rw [moved_len hi hto]
    have h9 := own_chg (T := fun k => k = p) HO2.out (chg_cell w2 p 5 (.slice (some ⟨g, 0, none⟩) (S.L.length - 1 + 1) cg)) (fun k hk e => HGP.out (by injection hk with hk; exact hk.trans e))
    rw [hn1] at h9 ⊢
    exact h9
  · have hj' : j < S.L.length := by
      have : j < (moved S.L i tt).length := hj
      rwa [moved_len hi hto] at this
    have hx2 := hTT HX1.out
    have hall : ∀ j, j < (S.L.eraseIdx i).length → ∃ y, xs'[j]? = some y ∧ TextIs (w2.setCell ⟨p, 5, none⟩ (.slice (some ⟨g, 0, none⟩) (S.L.length - 1 + 1) cg)) (fun k => base ≤ k ∧ ¬ X k ∧ some k ≠ (Value.slice (some ⟨g, 0, none⟩) (S.L.length - 1 + 1) cg).ownBlock) y ((S.L.eraseIdx i).getD j []) := fun j hj => by
      obtain ⟨y, e, hy⟩ := HN.out.txt j hj
      exact ⟨y, e, hTT (hy.mono (fun k _ ⟨a, b, c⟩ => ⟨a, b, fun e => c (e.trans HV.out.symm)⟩))⟩
    have hml : moved S.L i tt = (S.L.eraseIdx i).take tt ++ t :: (S.L.eraseIdx i).drop tt := by unfold moved; rw [Ht.out]
    show ∃ y, (xs'.take tt ++ _ :: xs'.drop tt)[j]? = some y ∧ TextIs _ _ y ((moved S.L i tt).getD j [])
    rw [hml]
    exact ins_rel HN.out.len (by rw [Hl.out]; omega) hall hx2 j (by rw [Hl.out]; omega)
end Go.Proofs.YtdglpbjofdipkaaDoor
