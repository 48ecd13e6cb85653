/- The reference's net: Out, Take, Lose. -/
import Derived.Test.YtdglpbjofdipkaaDoorRefB
namespace Go.Proofs.YtdglpbjofdipkaaDoor
open Go.RowKit Go.Stop Go.Extern Go.Ranges Go.Rows2 Go.Sort Go.BigFrame
set_option linter.unusedVariables false
set_option linter.unusedSimpArgs false
/-- .. and that answers a text besides. -/
def RefOutEnd (w : World) (base q : Nat) (t : List Int) (S' : NS) (v : Value) (e : Ending) (w' : World) : Prop := ∃ x v' xs', e = .returned x ∧ TextIs w' (fun k => k < base) x t ∧ RefV w' base q S' v' xs' ∧ Chg (fun k => k = q) w w' ∧ rowNew w v v'
set_option maxRecDepth 20000 in
set_option maxHeartbeats 8000000 in
theorem refOut_ok {w : World} {base q : Nat} {S : NS} {v : Value} {xs : List Value} (h : RefV w base q S v xs) (i : Nat) (hi : i < S.L.length) (hL : S.L.length ≤ 1000) :
    Calls Tryd.prog 84 #[.pointer (some ⟨q, 0, none⟩), .int .i64 i] w (RefOutEnd w base q (S.L.getD i []) { S with L := S.L.eraseIdx i } v) := by
  obtain ⟨g, c, rfl, hnc, hcm, hgl⟩ := own_form8 h.own (by omega)
  obtain ⟨x, hx, ht⟩ := h.txt i hi
  have hxl := h.len
  have hcg : w.cell? ⟨g, i, none⟩ = some x := by
    obtain ⟨b, o, hbo, hcl⟩ := own_cells h.own (by omega)
    injection hbo with hbo; injection hbo with e1 e2; subst e1; subst e2
    have := hcl i x hx
    rwa [Nat.zero_add] at this
  have c5 : w.cell? ⟨q, 1, none⟩ = some (.slice (some ⟨g, 0, none⟩) S.L.length c) := (ref_cell h 1).trans rfl
  have hd : Below w.heap.size w w.drew := (Below.refl _ _).drew
  have hN := h.below hd
  have ho0 : (w.drew.alloc (.cells #[] 55)).ownsRow w.heap.size 55 1 (.slice (some ⟨w.heap.size, 0, none⟩) 0 0) 0 [] := own_none w.drew w.heap.size (Nat.le_refl _)
  have hba : Below w.heap.size w (w.drew.alloc (.cells #[] 55)) := hd.alloc (Nat.le_refl _) _
  have hcells : ∀ W, Below w.heap.size w W → ∀ j u, xs[j]? = some u → W.cell? ⟨g, 0 + j, none⟩ = some u := fun W hW j u hu => by
    obtain ⟨b, o, hbo, hcl⟩ := own_cells h.own (by omega)
    injection hbo with hbo; injection hbo with e1 e2; subst e1; subst e2
    rw [hW.cell (p := ⟨g, 0 + j, none⟩) hgl]
    exact hcl j u hu
  obtain ⟨v1, w1, hr1, ho1, hg1⟩ := app_texts ho0 (some ⟨g, 0, none⟩) i c (xs.take i) (by rw [List.length_take]; omega) (fun _ => ⟨g, 0, rfl, fun j u hu => by
    have hj : j < i := by have := (List.getElem?_eq_some_iff.1 hu).1; rw [List.length_take] at this; omega
    rw [List.getElem?_take_of_lt hj] at hu
    exact hcells _ hba j u hu⟩) (fun u hu => h.one u (List.mem_of_mem_take hu)) (by simp) (by omega)
  rw [Nat.zero_add, List.nil_append] at ho1
  have hb1 : Below w.heap.size w w1 := hba.grown hg1 (by simp) (fun k hk => by injection hk with hk; have e : w.heap.size = k := hk; omega)
  obtain ⟨A, hA, hsrc⟩ : ∃ A : Option Addr, (if c = i + 1 then (some ⟨g, 0, none⟩ : Option Addr) else some ⟨g, i + 1, none⟩) = A ∧ (0 < S.L.length - (i + 1) → ∃ b o, A = some ⟨b, o, none⟩ ∧ ∀ j u, (xs.drop (i + 1))[j]? = some u → w1.cell? ⟨b, o + j, none⟩ = some u) := by
    by_cases hc : c = i + 1
    · exact ⟨_, rfl, fun h => by omega⟩
    · refine ⟨_, rfl, fun _ => ⟨g, i + 1, by rw [if_neg hc], fun j u hu => ?_⟩⟩
      rw [List.getElem?_drop] at hu
      have := hcells _ hb1 (i + 1 + j) u hu
      rwa [Nat.zero_add] at this
  obtain ⟨v2, w2, hr2, ho2, hg2⟩ := app_texts ho1 A (S.L.length - (i + 1)) (c - (i + 1)) (xs.drop (i + 1)) (by rw [List.length_drop, hxl]) hsrc (fun u hu => h.one u (List.mem_of_mem_drop hu)) hb1.size (by omega)
  have hb2 : Below w.heap.size w w2 := hb1.grown hg2 hb1.size (fun k hk => (ho1.lt k hk).1)
  have hle : (S.L.eraseIdx i).length = S.L.length - 1 := by rw [List.length_eraseIdx, if_pos hi]
  have hR := h.relay (v' := v2) (xs' := xs.take i ++ xs.drop (i + 1)) (L' := S.L.eraseIdx i) hb2 (by rw [hle, show S.L.length - 1 = i + (S.L.length - (i + 1)) by omega]; exact ho2) (fun j hj => by
    have hj' : j < S.L.length - 1 := by rw [← hle]; exact hj
    rw [← List.eraseIdx_eq_take_drop_succ, List.getElem?_eraseIdx, eraseIdx_getD]
    by_cases hji : j < i
    · rw [if_pos hji, if_pos hji]; exact h.txt j (by omega)
    · rw [if_neg hji, if_neg hji]; exact h.txt (j + 1) (by omega))
  have hB2 : w2.heap[q]? = some (.cells (refC S (.slice (some ⟨g, 0, none⟩) S.L.length c)) 92 (0, 0)) := (hb2.block q h.qlt).trans h.blk
  have d1 : w2.cell? ⟨q, 1, none⟩ = some (.slice (some ⟨g, 0, none⟩) S.L.length c) := (cell_of_row _ _ _ _ _ _ hB2).trans rfl
  have f1 : w2.frozen? ⟨q, 1, none⟩ = false := by simp [World.frozen?, hB2]
  have c5a : (w.drew.alloc (.cells #[] 55)).cell? ⟨q, 1, none⟩ = some (.slice (some ⟨g, 0, none⟩) S.L.length c) := (hba.cell (p := ⟨q, 1, none⟩) h.qlt).trans c5
  have c5b : (w.alloc (.cells #[] 55)).cell? ⟨q, 1, none⟩ = some (.slice (some ⟨g, 0, none⟩) S.L.length c) := ((alloc_below w _).cell (p := ⟨q, 1, none⟩) h.qlt).trans c5
  have c51 : w1.cell? ⟨q, 1, none⟩ = some (.slice (some ⟨g, 0, none⟩) S.L.length c) := (hb1.cell (p := ⟨q, 1, none⟩) h.qlt).trans c5
  obtain ⟨A2, cc2, hv2⟩ := own_slice ho2
  obtain ⟨A1, cc1, hv1⟩ := own_slice ho1
  subst hv2
  subst hv1
  have HR := Lib.hid hR
  have HT := Lib.hid ht
  have hlt : (i : Int) < (S.L.length : Int) := by omega
  have hq : IntKind.i64.wrap ((i : Int) + 1) = (i : Int) + 1 := by rw [IntKind.wrap_i64]; omega
  have hq2 : (0 : Int) ≤ (i : Int) + 1 := by omega
  have hq3 : (i : Int) + 1 ≤ (S.L.length : Int) := by omega
  have hq4 : ((i : Int) + 1).toNat = i + 1 := by omega
  have hq5 : (i : Int) ≤ (S.L.length : Int) := by omega
  have hcm2 : (c : Int) ≤ 9223372036854775807 := by have := hcm; unfold maxLen at this; omega
  have hic : i ≤ c := by omega
  have hic2 : (i : Int) ≤ (c : Int) := by omega
  have hib : i ≤ S.L.length := by omega
  have hib2 : i + 1 ≤ S.L.length := by omega
  have hb0q : ¬ (c = i) := by omega
  clear hR hB2 hb2 hb1 ho1 ho2 ho0 hba hg1 hg2 hN hd h ht hx hcells hsrc hle
  go_enter Tryd.func84, Tryd.ntmps84
  go_wp2_with fail
  go_region_law (first
    | (refine step_append_run rfl (.tmp 14) (.tmp 20) 74 74 rfl (.slice (some ⟨w.heap.size, 0, none⟩) 0 0) (.slice (some ⟨g, 0, none⟩) i c) (by simp [Act.eval, Act.put]) (by simp [Act.eval, Act.put]) hr1 ?_)
    | (refine step_append_run rfl (.tmp 21) (.tmp 28) 74 74 rfl (.slice A1 i cc1) (.slice A (S.L.length - (i + 1)) (c - (i + 1))) (by simp [Act.eval, Act.put]) (by simp [Act.eval, Act.put, hA]) hr2 ?_))
  all_goals
    go_wp2_with fail
    go_ret
    exact ⟨x, _, _, rfl, HT.out.chg HR.out.2.1 (fun k _ hk e => by have := HR.out.1.hq; have hk' : k < base := hk; have e' : k = q := e; omega), HR.out.1, HR.out.2.1, HR.out.2.2⟩
theorem RefV.len_pos {w : World} {base q : Nat} {S : NS} {v : Value} {xs : List Value} (h : RefV w base q S v xs) : (S.L.length : Int) = xs.length := by rw [h.len]
set_option maxRecDepth 20000 in
set_option maxHeartbeats 4000000 in
theorem refTake_no {w : World} {base q : Nat} {S : NS} {v : Value} {xs : List Value} (h : RefV w base q S v xs) (i : Int) (hi : i < 0 ∨ (S.L.length : Int) ≤ i) :
    Calls Tryd.prog 57 #[.pointer (some ⟨q, 0, none⟩), .int .i64 i] w fun e w' => e = .returned (.tuple #[.slice none 0 0, .int .i64 21]) ∧ w = w' := by
  have HA := Lib.hid (has_any h i false (by symm; exact decide_eq_false (by omega)))
  clear h hi
  go_enter Tryd.func57, Tryd.ntmps57
  go_wp2_with (go_at_call 83; (with_reducible refine HA.out.mono ?_); rintro e w1 ⟨rfl, rfl⟩)
  go_ret2
  exact ⟨rfl, rfl⟩
theorem refLose_no {w : World} {base q : Nat} {S : NS} {v : Value} {xs : List Value} (h : RefV w base q S v xs) (i : Int) (hi : i < 0 ∨ (S.L.length : Int) ≤ i) :
    Calls Tryd.prog 58 #[.pointer (some ⟨q, 0, none⟩), .int .i64 i] w fun e w' => e = .returned (.int .i64 21) ∧ w = w' := by
  have HA := Lib.hid (has_any h i false (by symm; exact decide_eq_false (by omega)))
  clear h hi
  go_enter Tryd.func58, Tryd.ntmps58
  go_wp2_with (go_at_call 83; (with_reducible refine HA.out.mono ?_); rintro e w1 ⟨rfl, rfl⟩)
  go_ret
  exact ⟨rfl, rfl⟩
set_option maxRecDepth 20000 in
set_option maxHeartbeats 4000000 in
theorem refLose_ok {w : World} {base q : Nat} {S : NS} {v : Value} {xs : List Value} (h : RefV w base q S v xs) (i : Nat) (hi : i < S.L.length) (hL : S.L.length ≤ 1000) (h0 : 0 ≤ S.l) (h1 : S.l < 1000000) :
    Calls Tryd.prog 58 #[.pointer (some ⟨q, 0, none⟩), .int .i64 i] w (RefEnd w base q (.int .i64 0) { S with L := S.L.eraseIdx i, l := S.l + 1 } v) := by
  have HA := Lib.hid (has_any h i true (by symm; exact decide_eq_true (by omega)))
  have d : w.cell? ⟨q, 4, none⟩ = some (.int .i64 S.l) := (ref_cell h 4).trans rfl
  have f : w.frozen? ⟨q, 4, none⟩ = false := ref_frozen h 4
  have hc : RefV (w.setCell ⟨q, 4, none⟩ (.int .i64 (S.l + 1))) base q { S with l := S.l + 1 } v xs := h.count 4 _ rfl rfl
  have HO := Lib.hid (refOut_ok hc i hi hL)
  clear h hc
  go_enter Tryd.func58, Tryd.ntmps58
  go_wp2_with (first
    | (go_at_call 83; (with_reducible refine HA.out.mono ?_); rintro e w1 ⟨rfl, rfl⟩)
    | (go_at_call 84; (with_reducible refine HO.out.mono ?_); rintro e w2 ⟨x, v', xs', rfl, hx, hR, hC, hr⟩))
  go_ret
  exact ⟨v', xs', rfl, hR, (chg_cell _ _ _ _).trans hC, hr.trans_below (by simp [World.setCell])⟩
set_option maxRecDepth 20000 in
set_option maxHeartbeats 4000000 in
theorem refTake_ok {w : World} {base q : Nat} {S : NS} {v : Value} {xs : List Value} (h : RefV w base q S v xs) (i : Nat) (hi : i < S.L.length) (hL : S.L.length ≤ 1000) (h0 : 0 ≤ S.t) (h1 : S.t < 1000000) :
    Calls Tryd.prog 57 #[.pointer (some ⟨q, 0, none⟩), .int .i64 i] w fun e w' => ∃ x, TextIs w' (fun k => k < base) x (S.L.getD i []) ∧ RefEnd w base q (.tuple #[x, .int .i64 0]) { S with L := S.L.eraseIdx i, t := S.t + 1 } v e w' := by
  have HA := Lib.hid (has_any h i true (by symm; exact decide_eq_true (by omega)))
  have d : w.cell? ⟨q, 3, none⟩ = some (.int .i64 S.t) := (ref_cell h 3).trans rfl
  have f : w.frozen? ⟨q, 3, none⟩ = false := ref_frozen h 3
  have hc : RefV (w.setCell ⟨q, 3, none⟩ (.int .i64 (S.t + 1))) base q { S with t := S.t + 1 } v xs := h.count 3 _ rfl rfl
  have HO := Lib.hid (refOut_ok hc i hi hL)
  clear h hc
  go_enter Tryd.func57, Tryd.ntmps57
  go_wp2_with (first
    | (go_at_call 83; (with_reducible refine HA.out.mono ?_); rintro e w1 ⟨rfl, rfl⟩)
    | (go_at_call 84; (with_reducible refine HO.out.mono ?_); rintro e w2 ⟨x, v', xs', rfl, hx, hR, hC, hr⟩))
  go_ret2
  exact ⟨x, hx, v', xs', rfl, hR, (chg_cell _ _ _ _).trans hC, hr.trans_below (by simp [World.setCell])⟩
end Go.Proofs.YtdglpbjofdipkaaDoor
