/- The reference's net: Double. -/
import Derived.Test.YtdglpbjofdipkaaDoorRefC
import Derived.Deep.RegionHeld3
namespace Go.Proofs.YtdglpbjofdipkaaDoor
open Go.RowKit Go.Stop Go.Extern Go.Ranges Go.Rows2 Go.Sort Go.BigFrame
set_option linter.unusedVariables false
set_option linter.unusedSimpArgs false
/-- An append of texts' slices, as one step of a region that draws. -/
theorem step_app_texts {ops : Array Oper} {o : Oper} {a : Act} {w : World} {K : Act → World → Prop} {Q : Exit → Act → World → Prop} {E : Prop}
    (hg : o.guard = none) (d x : Operand) (hop : o.op = Op.call { callee := Callee.builtin Builtin.append, args := #[d, x], argTypes := #[74, 74] }) (hty : o.type = 74)
    (base : Nat) (v : Value) (n : Nat) (xs : List Value) (hd : a.eval d = v) (hown : w.ownsRow base 55 1 v n xs) (A : Option Addr) (m c : Nat) (ys : List Value) (hx : a.eval x = .slice A m c) (hm : ys.length = m)
    (hB : 0 < m → ∃ b o, A = some ⟨b, o, none⟩ ∧ ∀ j u, ys[j]? = some u → w.cell? ⟨b, o + j, none⟩ = some u) (h1 : ∀ u ∈ ys, u.oneCell' = true) (hbase : base ≤ w.heap.size) (hs : n + m ≤ 1000000)
    (hK : ∀ v' w', w'.ownsRow base 55 1 v' (n + m) (xs ++ ys) → w.grownBy w' v.ownBlock → K (a.put o.dst v') w') :
    if Region.wanted o (yielded ops a.tmps) = true then Oper.wp Tryd.prog o a w K Q else E := by
  obtain ⟨v', w', hr, ho, hgr⟩ := app_texts hown A m c ys hm hB h1 hbase hs
  rw [← hty] at hr
  exact step_append_run hg d x 74 74 hop v _ hd hx (by rw [hty] at hr ⊢; exact hr) (hK v' w' ho hgr)
theorem own_none' (w : World) (base g : Nat) (hg : g = w.heap.size) (hb : base ≤ w.heap.size) : (w.alloc (.cells #[] 55)).ownsRow base 55 1 (.slice (some ⟨g, 0, none⟩) 0 0) 0 [] := by
  subst hg; exact own_none w base hb
theorem grown_fresh {W V w' : World} {g : Nat} (hb : Below W.heap.size W V) (hg : V.grownBy w' (some g)) (hge : W.heap.size ≤ g) : Below W.heap.size W w' :=
  hb.grown hg hb.size (fun k hk => by injection hk with hk; omega)
theorem one_at {w w' : World} {row : Option Nat} {t : TypeId} {u : Value} {b : Nat} {fr : Nat × Nat} (hg : w.grownBy w' row) (hb : w.heap[b]? = some (.cells #[u] t fr)) (hne : some b ≠ row) : 0 < 1 → ∃ b' o, (some ⟨b, 0, none⟩ : Option Addr) = some ⟨b', o, none⟩ ∧ ∀ j z, [u][j]? = some z → w'.cell? ⟨b', o + j, none⟩ = some z := fun _ =>
  ⟨b, 0, rfl, fun j z hz => by
    rw [cell_of_row _ _ _ _ _ _ ((hg.block b (Array.getElem?_eq_some_iff.1 hb).1 hne).trans hb), Nat.zero_add]
    simpa using hz⟩
theorem one_now (w : World) (u : Value) (t : TypeId) : 0 < 1 → ∃ b' o, (some ⟨w.heap.size, 0, none⟩ : Option Addr) = some ⟨b', o, none⟩ ∧ ∀ j z, [u][j]? = some z → (w.alloc (.cells #[u] t)).cell? ⟨b', o + j, none⟩ = some z := fun _ =>
  ⟨w.heap.size, 0, rfl, fun j z hz => by
    rw [cell_of_row _ _ _ _ _ _ (heap_alloc_last w _), Nat.zero_add]
    simpa using hz⟩
theorem RefV.push {w w' : World} {base q : Nat} {S : NS} {v v' : Value} {xs : List Value} {x : Value} {t : List Int} (h : RefV w base q S v xs) (hb : Below w.heap.size w w') (ho : w'.ownsRow w.heap.size 55 1 v' (S.L.length + 1) (xs ++ [x])) (ht : TextIs w (fun k => k < base) x t) :
    RefV (w'.setCell ⟨q, 1, none⟩ v') base q { S with L := S.L ++ [t] } v' (xs ++ [x]) ∧ Chg (fun k => k = q) w (w'.setCell ⟨q, 1, none⟩ v') ∧ rowNew w v v' := by
  have hl : (S.L ++ [t]).length = S.L.length + 1 := by simp
  exact h.relay (v' := v') (xs' := xs ++ [x]) (L' := S.L ++ [t]) hb (by rw [hl]; exact ho) (fun i hi => by
    rw [hl] at hi
    by_cases hin : i < S.L.length
    · obtain ⟨y, hy, hty⟩ := h.txt i hin
      refine ⟨y, by rw [List.getElem?_append_left (by rw [h.len]; exact hin)]; exact hy, ?_⟩
      rw [List.getD_eq_getElem?_getD, List.getElem?_append_left hin, ← List.getD_eq_getElem?_getD]
      exact hty
    · obtain rfl : i = S.L.length := by omega
      refine ⟨_, by rw [← h.len, List.getElem?_append_right (Nat.le_refl _), Nat.sub_self]; rfl, ?_⟩
      rw [List.getD_eq_getElem?_getD, List.getElem?_append_right (Nat.le_refl _), Nat.sub_self]
      exact ht)
set_option maxRecDepth 20000 in
theorem refDouble_no {w : World} {base q : Nat} {S : NS} {v : Value} {xs : List Value} (h : RefV w base q S v xs) (i : Int) (hi : i < 0 ∨ (S.L.length : Int) ≤ i) :
    Calls Tryd.prog 59 #[.pointer (some ⟨q, 0, none⟩), .int .i64 i] w fun e w' => e = .returned (.int .i64 21) ∧ w = w' := by
  have HA := Lib.hid (has_any h i false (by symm; exact decide_eq_false (by omega)))
  clear h hi
  go_enter Tryd.func59, Tryd.ntmps59
  go_wp2_with (go_at_call 83; (with_reducible refine HA.out.mono ?_); rintro e w1 ⟨rfl, rfl⟩)
  go_ret
  exact ⟨rfl, rfl⟩
theorem refDouble_full {w : World} {base q : Nat} {S : NS} {v : Value} {xs : List Value} (h : RefV w base q S v xs) (i : Nat) (hi : i < S.L.length) (hr : S.room ≤ (S.L.length : Int)) :
    Calls Tryd.prog 59 #[.pointer (some ⟨q, 0, none⟩), .int .i64 i] w fun e w' => e = .returned (.int .i64 12) ∧ Below w.heap.size w w' := by
  have HA := Lib.hid (has_any h i true (by symm; exact decide_eq_true (by omega)))
  obtain ⟨Ar, cr, hv⟩ := own_slice h.own
  have c5 : w.cell? ⟨q, 1, none⟩ = some v := (ref_cell h 1).trans rfl
  have c4 : w.cell? ⟨q, 0, none⟩ = some (.int .i64 S.room) := (ref_cell h 0).trans rfl
  rw [hv] at c5
  clear h hv
  go_enter Tryd.func59, Tryd.ntmps59
  go_wp2_with (go_at_call 83; (with_reducible refine HA.out.mono ?_); rintro e w1 ⟨rfl, rfl⟩)
  go_quiet (fail)
  go_wp2_with fail
  go_ret
  exact ⟨rfl, below_drewN _ _⟩
set_option maxRecDepth 20000 in
set_option maxHeartbeats 8000000 in
theorem refDouble_ok {w : World} {base q : Nat} {S : NS} {v : Value} {xs : List Value} (h : RefV w base q S v xs) (i : Nat) (hi : i < S.L.length) (hL : S.L.length ≤ 1000) (hr : (S.L.length : Int) < S.room) (h0 : 0 ≤ S.d) (h1 : S.d < 1000000) :
    Calls Tryd.prog 59 #[.pointer (some ⟨q, 0, none⟩), .int .i64 i] w (RefEnd w base q (.int .i64 0) { S with L := S.L ++ [S.L.getD i []], d := S.d + 1 } v) := by
  have HA := Lib.hid (has_any h i true (by symm; exact decide_eq_true (by omega)))
  obtain ⟨g, c, rfl, hnc, hcm, hgl⟩ := own_form8 h.own (by omega)
  obtain ⟨x, hx, ht⟩ := h.txt i hi
  obtain ⟨Ax, cx, rfl⟩ := ht.form
  have c5 : w.cell? ⟨q, 1, none⟩ = some (.slice (some ⟨g, 0, none⟩) S.L.length c) := (ref_cell h 1).trans rfl
  have c4 : w.cell? ⟨q, 0, none⟩ = some (.int .i64 S.room) := (ref_cell h 0).trans rfl
  have n4 : ¬ S.room ≤ (S.L.length : Int) := by omega
  have hlt : (i : Int) < (S.L.length : Int) := by omega
  have HH := Lib.hid h
  have HT := Lib.hid ht
  have HX := Lib.hid hx
  clear h ht hx
  go_enter Tryd.func59, Tryd.ntmps59
  go_wp2_with (go_at_call 83; (with_reducible refine HA.out.mono ?_); rintro e w1 ⟨rfl, rfl⟩)
  go_quiet (fail)
  have hN := Lib.hid (HH.out.below (below_drewN w nq))
  have hTd := Lib.hid (HT.out.below (below_drewN w nq))
  have hsz : Hid ((w.drewN nq).heap.size = w.heap.size) := rfl
  have HBd := Lib.hid (below_drewN w nq)
  have hgl2 : g < (w.drewN nq).heap.size := hgl
  clear c5 c4 hgl
  generalize w.drewN nq = W at *
  go_wp2_with fail
  have kS : Hid (∀ W', Below W.heap.size W W' → W'.cell? ⟨q, 1, none⟩ = some (.slice (some ⟨g, 0, none⟩) S.L.length c) ∧ W'.cell? ⟨g, i, none⟩ = some (.slice Ax (S.L.getD i []).length cx) ∧ Below W.heap.size W W') := Lib.hid (fun W' hb => by
    refine ⟨(hb.cell (p := ⟨q, 1, none⟩) hN.out.qlt).trans ((ref_cell hN.out 1).trans rfl), ?_, hb⟩
    obtain ⟨b, o, hbo, hcl⟩ := own_cells hN.out.own (by omega)
    injection hbo with hbo; injection hbo with e1 e2; subst e1; subst e2
    have := hcl i _ HX.out
    rw [Nat.zero_add] at this
    rw [hb.cell (p := ⟨g, i, none⟩) hgl2]
    exact this)
  generalize S.L.getD i [] = t at *
  have pS := Lib.hid (kS.out W.drew ((Below.refl _ _).drew))
  have src : Hid (∀ W', Below W.heap.size W W' → ∀ j u, xs[j]? = some u → W'.cell? ⟨g, 0 + j, none⟩ = some u) := Lib.hid (fun W' hb j u hu => by
    obtain ⟨b, o, hbo, hcl⟩ := own_cells hN.out.own (by omega)
    injection hbo with hbo; injection hbo with e1 e2; subst e1; subst e2
    rw [hb.cell (p := ⟨g, 0 + j, none⟩) hgl2]
    exact hcl j u hu)
  have kA : Hid (∀ W' o, (W'.cell? ⟨q, 1, none⟩ = some (.slice (some ⟨g, 0, none⟩) S.L.length c) ∧ W'.cell? ⟨g, i, none⟩ = some (.slice Ax t.length cx) ∧ Below W.heap.size W W') → ((W'.alloc o).cell? ⟨q, 1, none⟩ = some (.slice (some ⟨g, 0, none⟩) S.L.length c) ∧ (W'.alloc o).cell? ⟨g, i, none⟩ = some (.slice Ax t.length cx) ∧ Below W.heap.size W (W'.alloc o))) :=
    Lib.hid (fun W' o h => kS.out _ (h.2.2.alloc h.2.2.size o))
  have frz : Hid (∀ W', Below W.heap.size W W' → W'.frozen? ⟨q, 1, none⟩ = false) := Lib.hid (fun W' hb => (hb.frozen (p := ⟨q, 1, none⟩) hN.out.qlt).trans (ref_frozen hN.out 1))
  have hdr : Hid (Below W.heap.size W W.drew) := Lib.hid ((Below.refl W.heap.size W).drew)
  have hxl := Lib.hid hN.out.len
  have hx1 : Hid (∀ u ∈ xs, u.oneCell' = true) := Lib.hid hN.out.one
  have qa : (W).cell? ⟨q, 1, none⟩ = some (.slice (some ⟨g, 0, none⟩) S.L.length c) := (kS.out _ (Below.refl W.heap.size W)).1
  have qb : (W.drew.alloc (.cells #[] 55)).cell? ⟨q, 1, none⟩ = some (.slice (some ⟨g, 0, none⟩) S.L.length c) := (kS.out _ (hdr.out.alloc (Nat.le_refl _) _)).1
  have qc : (W.drew.alloc (.cells #[.slice Ax t.length cx] 55)).cell? ⟨q, 1, none⟩ = some (.slice (some ⟨g, 0, none⟩) S.L.length c) := (kS.out _ (hdr.out.alloc (Nat.le_refl _) _)).1
  have qd : ((W.drew.alloc (.cells #[] 55)).alloc (.cells #[.slice Ax t.length cx] 55)).cell? ⟨q, 1, none⟩ = some (.slice (some ⟨g, 0, none⟩) S.L.length c) := (kS.out _ ((hdr.out.alloc (Nat.le_refl _) _).alloc (by simp) _)).1
  have qe : ((W.drew.alloc (.cells #[.slice Ax t.length cx] 55)).alloc (.cells #[] 55)).cell? ⟨q, 1, none⟩ = some (.slice (some ⟨g, 0, none⟩) S.L.length c) := (kS.out _ ((hdr.out.alloc (Nat.le_refl _) _).alloc (by simp) _)).1
  have qf : (W.alloc (.cells #[] 55)).cell? ⟨q, 1, none⟩ = some (.slice (some ⟨g, 0, none⟩) S.L.length c) := (kS.out _ ((Below.refl W.heap.size W).alloc (Nat.le_refl _) _)).1
  have qg : (W.alloc (.cells #[.slice Ax t.length cx] 55)).cell? ⟨q, 1, none⟩ = some (.slice (some ⟨g, 0, none⟩) S.L.length c) := (kS.out _ ((Below.refl W.heap.size W).alloc (Nat.le_refl _) _)).1
  have qh : ((W.alloc (.cells #[] 55)).alloc (.cells #[.slice Ax t.length cx] 55)).cell? ⟨q, 1, none⟩ = some (.slice (some ⟨g, 0, none⟩) S.L.length c) := (kS.out _ (((Below.refl W.heap.size W).alloc (Nat.le_refl _) _).alloc (by simp) _)).1
  have qi : ((W.alloc (.cells #[.slice Ax t.length cx] 55)).alloc (.cells #[] 55)).cell? ⟨q, 1, none⟩ = some (.slice (some ⟨g, 0, none⟩) S.L.length c) := (kS.out _ (((Below.refl W.heap.size W).alloc (Nat.le_refl _) _).alloc (by simp) _)).1
  have ga : (W).cell? ⟨g, i, none⟩ = some (.slice Ax t.length cx) := (kS.out _ (Below.refl W.heap.size W)).2.1
  have gb : (W.drew.alloc (.cells #[] 55)).cell? ⟨g, i, none⟩ = some (.slice Ax t.length cx) := (kS.out _ (hdr.out.alloc (Nat.le_refl _) _)).2.1
  have gf : (W.alloc (.cells #[] 55)).cell? ⟨g, i, none⟩ = some (.slice Ax t.length cx) := (kS.out _ ((Below.refl W.heap.size W).alloc (Nat.le_refl _) _)).2.1
  go_region_law
    (first
      | (refine step_app_texts rfl (.tmp 20) (.tmp 24) rfl rfl W.heap.size (.slice (some ⟨W.heap.size, 0, none⟩) 0 0) 0 [] rfl (own_none W.drew W.heap.size (Nat.le_refl _)) (some ⟨g, 0, none⟩) S.L.length c xs rfl hxl.out (fun _ => ⟨g, 0, rfl, src.out _ (hdr.out.alloc (Nat.le_refl _) _)⟩) hx1.out (by simp) (by omega) ?_
         intro v1 w1 ho1 hg1
         have hb1 := Lib.hid (grown_fresh (W := W) (hdr.out.alloc (Nat.le_refl _) _) hg1 (Nat.le_refl _))
         rw [Nat.zero_add, List.nil_append] at ho1
         have qw := (kS.out _ hb1.out).1
         have gw := (kS.out _ hb1.out).2.1
         obtain ⟨A1, c1, hv1⟩ := own_slice ho1
         subst hv1)
      | (refine step_app_texts rfl (.tmp 20) (.tmp 24) rfl rfl W.heap.size (.slice (some ⟨W.heap.size, 0, none⟩) 0 0) 0 [] rfl ((own_none W.drew W.heap.size (Nat.le_refl _)).alloc (.cells #[.slice Ax t.length cx] 55)) (some ⟨g, 0, none⟩) S.L.length c xs rfl hxl.out (fun _ => ⟨g, 0, rfl, src.out _ ((hdr.out.alloc (Nat.le_refl _) _).alloc (by simp) _)⟩) hx1.out (by simp <;> omega) (by omega) ?_
         intro v1 w1 ho1 hg1
         have hb1 := Lib.hid (grown_fresh (W := W) ((hdr.out.alloc (Nat.le_refl _) _).alloc (by simp) _) hg1 (Nat.le_refl _))
         rw [Nat.zero_add, List.nil_append] at ho1
         have qw := (kS.out _ hb1.out).1
         have gw := (kS.out _ hb1.out).2.1
         obtain ⟨A1, c1, hv1⟩ := own_slice ho1
         subst hv1
         have hxb := Lib.hid (one_at (b := W.heap.size + 1) (u := .slice Ax t.length cx) (t := 55) (fr := (0, 0)) hg1 (two_heap W.drew _ _).2 (by simp [Value.ownBlock])))
      | (refine step_app_texts rfl (.tmp 20) (.tmp 24) rfl rfl W.heap.size (.slice (some ⟨W.heap.size + 1, 0, none⟩) 0 0) 0 [] rfl (own_none' (W.drew.alloc (.cells #[.slice Ax t.length cx] 55)) W.heap.size (W.heap.size + 1) (by simp) (by simp)) (some ⟨g, 0, none⟩) S.L.length c xs rfl hxl.out (fun _ => ⟨g, 0, rfl, src.out _ ((hdr.out.alloc (Nat.le_refl _) _).alloc (by simp) _)⟩) hx1.out (by simp <;> omega) (by omega) ?_
         intro v1 w1 ho1 hg1
         have hb1 := Lib.hid (grown_fresh (W := W) ((hdr.out.alloc (Nat.le_refl _) _).alloc (by simp) _) hg1 (Nat.le_succ _))
         rw [Nat.zero_add, List.nil_append] at ho1
         have qw := (kS.out _ hb1.out).1
         have gw := (kS.out _ hb1.out).2.1
         obtain ⟨A1, c1, hv1⟩ := own_slice ho1
         subst hv1
         have hxc := Lib.hid (one_at (b := W.heap.size) (u := .slice Ax t.length cx) (t := 55) (fr := (0, 0)) hg1 (two_heap W.drew _ _).1 (by simp [Value.ownBlock])))
      | (refine step_app_texts rfl (.tmp 25) (.tmp 33) rfl rfl W.heap.size (.slice A1 S.L.length c1) S.L.length xs rfl (ho1.alloc (.cells #[.slice Ax t.length cx] 55)) (some ⟨w1.heap.size, 0, none⟩) 1 1 [.slice Ax t.length cx] rfl rfl (one_now w1 _ _) (fun u hu => by simp at hu; subst hu; rfl) (by have := hb1.out.size; simp; omega) (by omega) ?_
         intro v2 w2 ho2 hg2
         obtain ⟨A2, c2, hv2⟩ := own_slice ho2
         subst hv2
         have hb2 := Lib.hid ((hb1.out.alloc hb1.out.size (.cells #[.slice Ax t.length cx] 55)).grown hg2 (by have := hb1.out.size; simp; omega) (fun k hk => (ho1.lt k hk).1))
         have cq := (kS.out _ hb2.out).1
         have fq := frz.out _ hb2.out)
      | (refine step_app_texts rfl (.tmp 25) (.tmp 33) rfl rfl W.heap.size (.slice A1 S.L.length c1) S.L.length xs rfl ho1 (some ⟨W.heap.size + 1, 0, none⟩) 1 1 [.slice Ax t.length cx] rfl rfl hxb.out (fun u hu => by simp at hu; subst hu; rfl) hb1.out.size (by omega) ?_
         intro v2 w2 ho2 hg2
         obtain ⟨A2, c2, hv2⟩ := own_slice ho2
         subst hv2
         have hb2 := Lib.hid (hb1.out.grown hg2 hb1.out.size (fun k hk => (ho1.lt k hk).1))
         have cq := (kS.out _ hb2.out).1
         have fq := frz.out _ hb2.out)
      | (refine step_app_texts rfl (.tmp 25) (.tmp 33) rfl rfl W.heap.size (.slice A1 S.L.length c1) S.L.length xs rfl ho1 (some ⟨W.heap.size, 0, none⟩) 1 1 [.slice Ax t.length cx] rfl rfl hxc.out (fun u hu => by simp at hu; subst hu; rfl) hb1.out.size (by omega) ?_
         intro v2 w2 ho2 hg2
         obtain ⟨A2, c2, hv2⟩ := own_slice ho2
         subst hv2
         have hb2 := Lib.hid (hb1.out.grown hg2 hb1.out.size (fun k hk => (ho1.lt k hk).1))
         have cq := (kS.out _ hb2.out).1
         have fq := frz.out _ hb2.out))
  all_goals
    have hR := hN.out.push hb2.out ho2 hTd.out
    have d5 : (w2.setCell ⟨q, 1, none⟩ (.slice A2 (S.L.length + 1) c2)).cell? ⟨q, 5, none⟩ = some (.int .i64 S.d) := (ref_cell hR.1 5).trans rfl
    have f5 : (w2.setCell ⟨q, 1, none⟩ (.slice A2 (S.L.length + 1) c2)).frozen? ⟨q, 5, none⟩ = false := ref_frozen hR.1 5
    have HR := Lib.hid hR
    clear hR ho1 ho2 hg1 hg2
    go_wp2_with fail
    go_ret
    exact ⟨_, _, rfl, HR.out.1.count 5 _ rfl rfl, ((Chg.of_below HBd.out).trans HR.out.2.1).trans (chg_cell _ _ _ _), HR.out.2.2.trans_below (by rw [hsz.out]; exact Nat.le_refl _)⟩
end Go.Proofs.YtdglpbjofdipkaaDoor
