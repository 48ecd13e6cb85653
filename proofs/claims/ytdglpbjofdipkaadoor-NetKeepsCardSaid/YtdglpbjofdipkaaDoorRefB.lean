/- The reference's net: Send, Out, Take, Lose. -/
import Derived.Test.YtdglpbjofdipkaaDoorRefA
namespace Go.Proofs.YtdglpbjofdipkaaDoor
open Go.RowKit Go.Stop Go.Extern Go.Ranges Go.Rows2 Go.Sort Go.BigFrame
set_option linter.unusedVariables false
set_option linter.unusedSimpArgs false
theorem rowNew.trans_below {w w1 : World} {v v' : Value} (h : rowNew w1 v v') (hb : w.heap.size ≤ w1.heap.size) : rowNew w v v' := by
  rcases h with h | h
  · exact .inl h
  · exact .inr (fun k hk => Nat.le_trans hb (h k hk))
/-- How a call of the reference's net ends. -/
def RefEnd (w : World) (base q : Nat) (r : Value) (S' : NS) (v : Value) (e : Ending) (w' : World) : Prop := ∃ v' xs', e = .returned r ∧ RefV w' base q S' v' xs' ∧ Chg (fun k => k = q) w w' ∧ rowNew w v v'
theorem refSend_long (base q : Nat) (A : Option Addr) (n c : Nat) (hn : 3100 < n) (w : World) :
    Calls Tryd.prog 56 #[.pointer (some ⟨q, 0, none⟩), .slice A n c] w fun e w' => e = .returned (.int .i64 13) ∧ w = w' := by
  have hn2 : (3100 : Int) < (n : Int) := by omega
  go_enter Tryd.func56, Tryd.ntmps56
  go_wp2_with fail
  go_ret
  exact ⟨rfl, rfl⟩
theorem refSend_full {w : World} {base q : Nat} {S : NS} {v : Value} {xs : List Value} (h : RefV w base q S v xs) (A : Option Addr) (n c : Nat) (hn : n ≤ 3100) (hr : S.room ≤ (S.L.length : Int)) :
    Calls Tryd.prog 56 #[.pointer (some ⟨q, 0, none⟩), .slice A n c] w fun e w' => e = .returned (.int .i64 12) ∧ Below w.heap.size w w' := by
  obtain ⟨Ar, cr, hv⟩ := own_slice h.own
  have c5 : w.cell? ⟨q, 1, none⟩ = some v := (ref_cell h 1).trans rfl
  have c4 : w.cell? ⟨q, 0, none⟩ = some (.int .i64 S.room) := (ref_cell h 0).trans rfl
  rw [hv] at c5
  have n3 : ¬ (3100 : Int) < (n : Int) := by omega
  clear h hv
  go_enter Tryd.func56, Tryd.ntmps56
  go_wp2_with fail
  go_quiet (fail)
  go_wp2_with fail
  go_ret
  exact ⟨rfl, below_drewN _ _⟩
set_option maxRecDepth 20000 in
set_option maxHeartbeats 4000000 in
theorem refSend_ok {w : World} {base q : Nat} {S : NS} {v : Value} {xs : List Value} (h : RefV w base q S v xs) (A : Option Addr) (c : Nat) (t : List Int) (ht : TextIs w (fun k => k < base) (.slice A t.length c) t) (hn : t.length ≤ 3100) (hr : (S.L.length : Int) < S.room) (hL : S.L.length ≤ 1000) (hs0 : 0 ≤ S.s) (hs1 : S.s < 1000000) :
    Calls Tryd.prog 56 #[.pointer (some ⟨q, 0, none⟩), .slice A t.length c] w (RefEnd w base q (.int .i64 0) { S with L := S.L ++ [t], s := S.s + 1 } v) := by
  obtain ⟨Ar, cr, hv⟩ := own_slice h.own
  have c5 : w.cell? ⟨q, 1, none⟩ = some v := (ref_cell h 1).trans rfl
  have c4 : w.cell? ⟨q, 0, none⟩ = some (.int .i64 S.room) := (ref_cell h 0).trans rfl
  rw [hv] at c5
  have n3 : ¬ (3100 : Int) < (t.length : Int) := by omega
  have n4 : ¬ S.room ≤ (S.L.length : Int) := by omega
  have HH := Lib.hid h
  have HT := Lib.hid ht
  clear h ht
  have HV := Lib.hid hv
  clear hv
  go_enter Tryd.func56, Tryd.ntmps56
  go_wp2_with fail
  go_quiet (fail)
  have hN := HH.out.below (below_drewN w nq)
  have hTd := HT.out.below (below_drewN w nq)
  have hsz : (w.drewN nq).heap.size = w.heap.size := rfl
  have HBd := Lib.hid (below_drewN w nq)
  clear c5 c4
  generalize w.drewN nq = W at *
  have hv := HV.out
  subst hv
  have c5 : W.cell? ⟨q, 1, none⟩ = some (.slice Ar S.L.length cr) := (ref_cell hN 1).trans rfl
  have c5a : (W.alloc (.cells #[] 55)).cell? ⟨q, 1, none⟩ = some (.slice Ar S.L.length cr) := (ref_cell (hN.below (alloc_below W _)) 1).trans rfl
  have ca := own_cells hN.own
  obtain ⟨v1, w1, hr1, ho1, hg1⟩ := app_texts (own_none W W.heap.size (Nat.le_refl _)) Ar S.L.length cr xs hN.len (fun h0 => by
    obtain ⟨b, o, rfl, hcl⟩ := ca h0
    refine ⟨b, o, rfl, fun j u hu => ?_⟩
    have h9 := hcl j u hu
    rw [(alloc_below W (.cells #[] 55)).cell (p := ⟨b, o + j, none⟩) (World.block_lt_of_cell? W _ h9)]
    exact h9) hN.one (by simp) (by omega)
  rw [Nat.zero_add, List.nil_append] at ho1
  have hb1 : Below W.heap.size W w1 := (alloc_below W _).grown hg1 (by simp) (fun k hk => by injection hk with hk; have e : W.heap.size = k := hk; omega)
  have hb1a : Below W.heap.size W (w1.alloc (.cells #[.slice A t.length c] 55)) := hb1.alloc hb1.size _
  obtain ⟨v2, w2, hr2, ho2, hg2⟩ := app_texts (ho1.alloc (.cells #[.slice A t.length c] 55)) (some ⟨w1.heap.size, 0, none⟩) 1 1 [.slice A t.length c] rfl (fun _ => ⟨_, 0, rfl, fun j u hu => by
    have h9 := one_new w1 (.slice A t.length c) 55 j u hu
    rw [Addr.add_mid] at h9
    exact h9⟩) (fun u hu => by simp at hu; subst hu; rfl) (by have := hb1.size; simp; omega) (by omega)
  have hb2 : Below W.heap.size W w2 := hb1a.grown hg2 hb1a.size (fun k hk => (ho1.lt k hk).1)
  have hB2 : w2.heap[q]? = some (.cells (refC S (.slice Ar S.L.length cr)) 92 (0, 0)) := (hb2.block q hN.qlt).trans hN.blk
  have d1 : w2.cell? ⟨q, 1, none⟩ = some (.slice Ar S.L.length cr) := (cell_of_row _ _ _ _ _ _ hB2).trans rfl
  have f1 : w2.frozen? ⟨q, 1, none⟩ = false := by simp [World.frozen?, hB2]
  have hl : (S.L ++ [t]).length = S.L.length + 1 := by simp
  have hR := hN.relay (v' := v2) (xs' := xs ++ [.slice A t.length c]) (L' := S.L ++ [t]) hb2 (by rw [hl]; exact ho2) (fun i hi => by
    rw [hl] at hi
    by_cases hin : i < S.L.length
    · obtain ⟨y, hy, hty⟩ := hN.txt i hin
      refine ⟨y, by rw [List.getElem?_append_left (by rw [hN.len]; exact hin)]; exact hy, ?_⟩
      rw [List.getD_eq_getElem?_getD, List.getElem?_append_left hin, ← List.getD_eq_getElem?_getD]
      exact hty
    · obtain rfl : i = S.L.length := by omega
      refine ⟨_, by rw [← hN.len, List.getElem?_append_right (Nat.le_refl _), Nat.sub_self]; rfl, ?_⟩
      rw [List.getD_eq_getElem?_getD, List.getElem?_append_right (Nat.le_refl _), Nat.sub_self]
      exact hTd)
  have d2 : (w2.setCell ⟨q, 1, none⟩ v2).cell? ⟨q, 2, none⟩ = some (.int .i64 S.s) := (ref_cell hR.1 2).trans rfl
  have f2 : (w2.setCell ⟨q, 1, none⟩ v2).frozen? ⟨q, 2, none⟩ = false := ref_frozen hR.1 2
  obtain ⟨A2, cc2, hv2⟩ := own_slice ho2
  obtain ⟨A1, cc1, hv1⟩ := own_slice ho1
  subst hv2
  subst hv1
  have HR := Lib.hid hR
  have hs9 := Lib.hid hsz
  clear hR hB2 hb2 hb1a hb1 ho1 ho2 hg1 hg2 ca hN hTd hsz hl
  go_wp2_with (first
    | (at_builtin; refine Lib.wpList_append_run _ rfl (.tmp 19) (.tmp 23) 74 74 rfl _ _ rfl rfl _ _ hr1 ?_)
    | (at_builtin; refine Lib.wpList_append_run _ rfl (.tmp 24) (.tmp 26) 74 74 rfl _ _ rfl rfl _ _ hr2 ?_))
  go_ret
  have hcnt : RefV ((w2.setCell ⟨q, 1, none⟩ (.slice A2 (S.L.length + 1) cc2)).setCell ⟨q, 2, none⟩ (.int .i64 (S.s + 1))) base q { S with L := S.L ++ [t], s := S.s + 1 } (.slice A2 (S.L.length + 1) cc2) (xs ++ [.slice A t.length c]) := HR.out.1.count 2 _ rfl rfl
  exact ⟨_, _, rfl, hcnt, ((Chg.of_below HBd.out).trans HR.out.2.1).trans (chg_cell _ _ _ _), HR.out.2.2.trans_below (by rw [hs9.out]; exact Nat.le_refl _)⟩
end Go.Proofs.YtdglpbjofdipkaaDoor
