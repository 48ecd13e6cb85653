/- Lists of texts that are read: All, SameLists. -/
import Derived.Test.YtdglpbjofdipkaaDoorNetD
namespace Go.Proofs.YtdglpbjofdipkaaDoor
open Go.RowKit Go.Stop Go.Extern Go.Ranges Go.Rows2 Go.Sort Go.BigFrame
set_option linter.unusedVariables false
set_option linter.unusedSimpArgs false
/-- A slice of texts, as it reads; its blocks are such as P lets. -/
def ListIs (w : World) (P : Nat → Prop) (v : Value) (L : List (List Int)) : Prop :=
  ∃ A c, v = .slice A L.length c ∧ L.length ≤ c ∧ c ≤ maxLen ∧ (0 < L.length → ∃ b o, A = some ⟨b, o, none⟩ ∧ b < w.heap.size ∧ P b ∧ ∀ i, i < L.length → ∃ x, w.cell? ⟨b, o + i, none⟩ = some x ∧ TextIs w P x (L.getD i []))
theorem ListIs.chg {w w' : World} {P T : Nat → Prop} {v : Value} {L : List (List Int)} (h : ListIs w P v L) (hc : Chg T w w') (hPT : ∀ k, k < w.heap.size → P k → ¬ T k) : ListIs w' P v L := by
  obtain ⟨A, c, rfl, h1, h2, h3⟩ := h
  refine ⟨A, c, rfl, h1, h2, fun hn => ?_⟩
  obtain ⟨b, o, rfl, hlt, hP, hx⟩ := h3 hn
  refine ⟨b, o, rfl, Nat.lt_of_lt_of_le hlt hc.size, hP, fun i hi => ?_⟩
  obtain ⟨x, e, ht⟩ := hx i hi
  exact ⟨x, (World.cell?_of_block (a := ⟨b, o + i, none⟩) (hc.block b hlt (hPT b hlt hP))).trans e, ht.chg hc hPT⟩
theorem ListIs.below {w w' : World} {P : Nat → Prop} {v : Value} {L : List (List Int)} (h : ListIs w P v L) (hb : Below w.heap.size w w') : ListIs w' P v L :=
  h.chg (T := fun _ => False) (Chg.of_below hb) (fun _ _ _ h => h)
theorem ListIs.mono {w : World} {P Q : Nat → Prop} {v : Value} {L : List (List Int)} (h : ListIs w P v L) (hPQ : ∀ k, k < w.heap.size → P k → Q k) : ListIs w Q v L := by
  obtain ⟨A, c, rfl, h1, h2, h3⟩ := h
  refine ⟨A, c, rfl, h1, h2, fun hn => ?_⟩
  obtain ⟨b, o, rfl, hlt, hP, hx⟩ := h3 hn
  refine ⟨b, o, rfl, hlt, hPQ b hlt hP, fun i hi => ?_⟩
  obtain ⟨x, e, ht⟩ := hx i hi
  exact ⟨x, e, ht.mono hPQ⟩
/-- A row of texts that the program makes. -/
structure RT (w : World) (base : Nat) (v : Value) (xs : List Value) (L : List (List Int)) : Prop where
  own : w.ownsRow base 55 1 v L.length xs
  txt : ∀ i, i < L.length → ∃ x, xs[i]? = some x ∧ TextIs w (fun k => base ≤ k ∧ some k ≠ v.ownBlock) x (L.getD i [])
theorem RT.nil (w : World) (base : Nat) : RT w base (.slice none 0 0) [] [] := ⟨World.ownsRow_nil _ _ _ _, fun i hi => absurd hi (by simp)⟩
theorem RT.below {w w' : World} {base : Nat} {v : Value} {xs : List Value} {L : List (List Int)} (h : RT w base v xs L) (hb : Below w.heap.size w w') : RT w' base v xs L :=
  ⟨own_keep h.own hb, fun i hi => by
    obtain ⟨x, e, ht⟩ := h.txt i hi
    exact ⟨x, e, ht.below hb⟩⟩
theorem RT.len {w : World} {base : Nat} {v : Value} {xs : List Value} {L : List (List Int)} (h : RT w base v xs L) : xs.length = L.length := by have := h.own.1; rwa [Nat.mul_one] at this
theorem RT.push {w w' : World} {base : Nat} {v : Value} {xs : List Value} {L : List (List Int)} (h : RT w base v xs L) {x : Value} {t : List Int} (ht : TextIs w (fun k => base ≤ k ∧ some k ≠ v.ownBlock) x t) {g cap : Nat}
    (ho : w'.ownsRow base 55 1 (.slice (some ⟨g, 0, none⟩) (L.length + 1) cap) (L.length + 1) (xs ++ [x])) (hg : w.grownBy w' v.ownBlock) (hat : v.ownBlock = some g ∨ g = w.heap.size) : RT w' base (.slice (some ⟨g, 0, none⟩) (L.length + 1) cap) (xs ++ [x]) (L ++ [t]) := by
  have hC : Chg (fun k => some k = v.ownBlock) w w' := Chg.of_grown hg (fun k hk => hk.symm)
  have hT : ∀ {y : Value} {u : List Int}, TextIs w (fun k => base ≤ k ∧ some k ≠ v.ownBlock) y u → TextIs w' (fun k => base ≤ k ∧ some k ≠ (Value.slice (some ⟨g, 0, none⟩) (L.length + 1) cap).ownBlock) y u := fun hy => by
    have h2 : TextIs w (fun k => (base ≤ k ∧ some k ≠ v.ownBlock) ∧ some k ≠ some g) _ _ := hy.mono (fun k hk hh => ⟨hh, fun e => by
      injection e with e
      rcases hat with h1 | h1
      · exact hh.2 (by rw [h1, e])
      · omega⟩)
    exact (h2.chg hC (fun k hk hh hw => hh.1.2 hw)).mono (fun k hk hh => ⟨hh.1.1, hh.2⟩)
  have hl : (L ++ [t]).length = L.length + 1 := by simp
  refine ⟨by rw [hl]; exact ho, fun i hi => ?_⟩
  have hi' : i < L.length + 1 := by rw [← hl]; exact hi
  by_cases hin : i < L.length
  · obtain ⟨y, hy, hty⟩ := h.txt i hin
    refine ⟨y, by rw [List.getElem?_append_left (by rw [h.len]; exact hin)]; exact hy, ?_⟩
    rw [List.getD_eq_getElem?_getD, List.getElem?_append_left hin, ← List.getD_eq_getElem?_getD]
    exact hT hty
  · obtain rfl : i = L.length := by omega
    refine ⟨x, by rw [← h.len, List.getElem?_append_right (Nat.le_refl _), Nat.sub_self]; rfl, ?_⟩
    rw [List.getD_eq_getElem?_getD, List.getElem?_append_right (Nat.le_refl _), Nat.sub_self]
    exact hT ht
theorem RT.list {w : World} {base : Nat} {v : Value} {xs : List Value} {L : List (List Int)} (h : RT w base v xs L) : ListIs w (fun k => base ≤ k) v L := by
  rcases h.own.2 with ⟨rfl, h0⟩ | ⟨g, cap, cur, rfl, hb, hh, h1, h2, h3, h4⟩
  · exact ⟨none, 0, by rw [h0], by omega, Nat.zero_le _, fun hn => by omega⟩
  · refine ⟨_, cap, rfl, h1, h2, fun hn => ⟨g, 0, rfl, (Array.getElem?_eq_some_iff.1 hh).1, hb, fun i hi => ?_⟩⟩
    obtain ⟨x, e, ht⟩ := h.txt i hi
    refine ⟨x, ?_, ht.mono (fun k _ hk => hk.1)⟩
    rw [cell_of_row _ _ _ _ _ _ hh, Nat.zero_add, ← Array.getElem?_toList]
    rw [Nat.mul_one] at h4
    rw [← e, ← h4, List.getElem?_take_of_lt hi]
/-- What a net's row is, read. -/
theorem NetV.list {w : World} {base p : Nat} {X : Nat → Prop} {S : NS} {v : Value} {xs : List Value} (h : NetV w base p X S v xs) : ListIs w (fun k => base ≤ k) v S.L :=
  RT.list ⟨h.own, fun i hi => by
    obtain ⟨x, e, ht⟩ := h.txt i hi
    exact ⟨x, e, ht.mono (fun k _ hk => ⟨hk.1, hk.2.2⟩)⟩⟩
theorem take_snoc {L : List (List Int)} {k : Nat} (hk : k < L.length) : L.take (k + 1) = L.take k ++ [L.getD k []] := by
  rw [List.take_add_one, List.getD_eq_getElem?_getD, List.getElem?_eq_getElem hk]
  rfl
set_option maxRecDepth 20000 in
set_option maxHeartbeats 4000000 in
theorem all_rt {w : World} {base p : Nat} {X : Nat → Prop} {S : NS} {v : Value} {xs : List Value} (h : NetV w base p X S v xs) (hL : S.L.length ≤ 1000) (ht : ∀ t ∈ S.L, t.length ≤ 100000) :
    Calls Tryd.prog 47 #[.pointer (some ⟨p, 0, none⟩)] w fun e w' => ∃ v' xs', e = .returned v' ∧ RT w' w.heap.size v' xs' S.L ∧ Below w.heap.size w w' := by
  obtain ⟨A, c, hv, hnc, hcm, hrd⟩ := h.list
  have c5 : w.cell? ⟨p, 5, none⟩ = some v := (net_cell h 5).trans rfl
  rw [hv] at c5
  obtain ⟨it, j1, j2, j3, j4⟩ := of_row1 row55
  have HR := Lib.hid hrd
  have HT := Lib.hid ht
  have hL2 : (S.L.length : Int) ≤ 9223372036854775807 := by omega
  clear h hv hrd ht
  obtain ⟨N, hN⟩ : ∃ N, N = S.L.length := ⟨_, rfl⟩
  rw [← hN] at c5 HR hL2 hnc hL
  have KN := Lib.hid hN
  clear hN
  go_enter Tryd.func47, Tryd.ntmps47
  go_wp2_with fail
  go_loopw [11, 3] (fun x y wr => ∃ (k : Nat) (v' : Value) (xs' : List Value), k ≤ N ∧ x = .int .i64 k ∧ v' = y ∧ Below w.heap.size w wr ∧ RT wr w.heap.size v' xs' (S.L.take k)) (fun x _ _ => N - (intOf x).toNat)
  case atStart => exact ⟨0, _, [], Nat.zero_le _, rfl, rfl, Below.refl _ _, RT.nil _ _⟩
  case round =>
    obtain ⟨k, v', xs', hk, rfl, rfl, hB, hRT⟩ := hrel
    have HB := Lib.hid hB
    have HRT := Lib.hid hRT
    have hsz := hB.size
    clear hB hRT
    by_cases hlt : k < N
    · obtain ⟨b, o, rfl, hbl, _, hx⟩ := HR.out (by omega)
      obtain ⟨x, hcx, htx⟩ := hx k hlt
      obtain ⟨Ax, cx, hxe⟩ := htx.form
      subst hxe
      have hc1 : wr.cell? ⟨b, o + k, none⟩ = some (.slice Ax (S.L.getD k []).length cx) := (HB.out.cell (p := ⟨b, o + k, none⟩) hbl).trans hcx
      have hlen : (S.L.getD k []).length ≤ 100000 := HT.out _ (by
        rw [List.getD_eq_getElem?_getD, List.getElem?_eq_getElem (by rw [← KN.out]; exact hlt)]
        exact List.getElem_mem _)
      have hcl := clone_any Ax (S.L.getD k []).length cx (S.L.getD k []) wr rfl (by
          obtain ⟨A', c', e, hBB, _⟩ := htx
          injection e with e1 e2 e3
          subst e1
          exact bytesIn_below' hBB HB.out) (by omega) (fun e => by
          obtain ⟨A', c', e', hBB, _⟩ := htx
          injection e' with e1 e2 e3
          subst e1
          subst e
          rcases Nat.eq_zero_or_pos (S.L.getD k []).length with h0 | h0
          · exact h0
          · obtain ⟨_, _, he, _⟩ := hBB h0
            cases he)
      have HC := Lib.hid hcl
      have hsn := Lib.hid (take_snoc (L := S.L) (k := k) (by rw [← KN.out]; exact hlt))
      have hl1 : (S.L.take k).length = k := by rw [List.length_take, ← KN.out]; omega
      have Hl1 := Lib.hid hl1
      generalize S.L.getD k [] = t at *
      clear hcl hcx htx hx hl1
      go_wp2_with (first
        | (go_at_call 80
           (with_reducible refine HC.out.mono ?_)
           rintro e w2 ⟨y, rfl, hT2, hb2⟩
           obtain ⟨Ay, cy, rfl⟩ := hT2.form
           have hN2 := Lib.hid (HRT.out.below (hb2))
           have hO2 : w2.ownsRow w.heap.size 55 1 v' k xs' := Hl1.out ▸ hN2.out.own
           have hsz2 := hb2.size)
        | (at_builtin
           go_loud (refine wpList_append_lies _ rfl (.tmp 15) (.tmp 18) 74 rfl w.heap.size 55 it (.slice none 0 0) 1 24 Tryd.underlying74 j1 j2 j3 j4 rfl (by decide) v' k xs' rfl (hO2.alloc _) ⟨w2.heap.size, 0, none⟩ 1 1 [.slice Ay t.length cy] rfl rfl (one_new _ _ _) (one_one hT2) (by decide) (by unfold maxLen; omega) (by omega) (by simp; omega) _ rfl ?_)
           intro gn cn w3 hown hgrow hat hltn))
      have hTa : TextIs (w2.alloc (.cells #[.slice Ay t.length cy] 55)) (fun k => w.heap.size ≤ k ∧ some k ≠ v'.ownBlock) (.slice Ay t.length cy) t := (hT2.below (alloc_below w2 _)).mono (fun j hj hh => ⟨Nat.le_trans hsz hh, fun e => by
        rcases HRT.out.own.2 with ⟨hv, _⟩ | ⟨g', _, _, hv, _, hh2, _⟩
        · rw [hv] at e; cases e
        · rw [hv] at e; injection e with e
          have h1 := (Array.getElem?_eq_some_iff.1 hh2).1
          have : wr.heap.size ≤ j := hh
          have e' : j = g' := e
          omega⟩)
      have hP : RT w3 w.heap.size (.slice (some ⟨gn, 0, none⟩) (k + 1) cn) (xs' ++ [.slice Ay t.length cy]) (S.L.take k ++ [t]) := by
        have h := (hN2.out.below (alloc_below w2 (.cells #[.slice Ay t.length cy] 55))).push (g := gn) (cap := cn) hTa (by rw [Hl1.out]; exact hown) hgrow hat
        rw [Hl1.out] at h
        exact h
      have hB2 : Below w.heap.size w (w2.alloc (.cells #[.slice Ay t.length cy] 55)) := (HB.out.trans (hb2.mono hsz)).trans ((alloc_below w2 _).mono (by omega))
      have hB3 : Below w.heap.size w w3 := hB2.grown hgrow hB2.size (fun j hj => by
        rcases HRT.out.own.2 with ⟨hv, _⟩ | ⟨g', _, _, hv, hg, _⟩
        · rw [hv] at hj; cases hj
        · rw [hv] at hj; injection hj with hj
          have e' : g' = j := hj
          omega)
      have HP := Lib.hid hP
      have HB3 := Lib.hid hB3
      clear hP hB3 hB2 hTa hown hgrow hat hN2 hT2 hb2
      go_round
      case rel =>
        refine ⟨k + 1, _, xs' ++ [.slice Ay t.length cy], by omega, by go_num, rfl, HB3.out, ?_⟩
        rw [hsn.out]
        exact HP.out
      case measure => simp only [intOf]; omega
    · obtain rfl : k = N := by omega
      have hf : S.L.take k = S.L := List.take_of_length_le (by rw [← KN.out]; exact Nat.le_refl _)
      have HF := Lib.hid hf
      clear hf
      go_wp2_with fail
      go_ret
      have := HRT.out
      rw [HF.out] at this
      exact ⟨_, _, rfl, this, HB.out⟩
theorem all_any {w : World} {base p : Nat} {X : Nat → Prop} {S : NS} {v : Value} {xs : List Value} (h : NetV w base p X S v xs) (hL : S.L.length ≤ 1000) (ht : ∀ t ∈ S.L, t.length ≤ 100000) :
    Calls Tryd.prog 47 #[.pointer (some ⟨p, 0, none⟩)] w fun e w' => ∃ v', e = .returned v' ∧ ListIs w' (fun k => w.heap.size ≤ k) v' S.L ∧ Below w.heap.size w w' :=
  (all_rt h hL ht).mono fun e w' ⟨v', xs', he, hr, hb⟩ => ⟨v', he, hr.list, hb⟩
set_option maxRecDepth 20000 in
set_option maxHeartbeats 4000000 in
theorem sameLists_same {w : World} {P Q : Nat → Prop} {va vb : Value} {L : List (List Int)} (ha : ListIs w P va L) (hb : ListIs w Q vb L) :
    Calls Tryd.prog 49 #[va, vb] w fun e w' => e = .returned (.bool true) ∧ Below w.heap.size w w' := by
  obtain ⟨A, c, rfl, a1, a2, a3⟩ := ha
  obtain ⟨B, d, rfl, b1, b2, b3⟩ := hb
  have K1 := Lib.hid a3
  have K2 := Lib.hid b3
  have hL2 : (L.length : Int) ≤ 9223372036854775807 := by have := Nat.le_trans a1 a2; unfold maxLen at this; omega
  clear a3 b3 a1 a2 b1 b2
  obtain ⟨N, hN⟩ : ∃ N, N = L.length := ⟨_, rfl⟩
  rw [← hN] at K1 K2 hL2 ⊢
  clear hN
  go_enter Tryd.func49, Tryd.ntmps49
  go_wp2_with fail
  go_loopw [13] (fun x wr => ∃ k j : Nat, k ≤ N ∧ x = .int .i64 k ∧ wr = w.drewN j) (fun x _ => N - (intOf x).toNat)
  case atStart => exact ⟨0, 0, Nat.zero_le _, rfl, rfl⟩
  case round =>
    obtain ⟨k, dn, hk, rfl, rfl⟩ := hrel
    by_cases hlt : k < N
    · obtain ⟨b, o, rfl, _, _, hx⟩ := K1.out (by omega)
      obtain ⟨b', o', rfl, _, _, hy⟩ := K2.out (by omega)
      obtain ⟨x, c1, A1, n1, rfl, hB1, _⟩ := hx k hlt
      obtain ⟨y, c2, A2, n2, rfl, hB2, _⟩ := hy k hlt
      clear hx hy
      have cv1 := fun q => (show Lib.BytesIn (w.drewN q) A1 _ _ from hB1).convert (P := Tryd.prog) rfl n1 55 5 9 Tryd.underlying55 Tryd.underlying5 Tryd.underlying9
      have cv2 := fun q => (show Lib.BytesIn (w.drewN q) A2 _ _ from hB2).convert (P := Tryd.prog) rfl n2 55 5 9 Tryd.underlying55 Tryd.underlying5 Tryd.underlying9
      clear hB1 hB2
      generalize L.getD k [] = t at *
      go_wp2_with fail
      go_quiet (fail)
      go_wp2_with fail
      go_round
      case rel => exact ⟨k + 1, dn + _, by omega, by go_num, rfl⟩
      case measure => simp only [intOf]; omega
    · obtain rfl : k = N := by omega
      go_wp2_with fail
      go_ret
      exact ⟨rfl, below_drewN _ _⟩
end Go.Proofs.YtdglpbjofdipkaaDoor
