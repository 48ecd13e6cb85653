/- ClientDeaf: the walk. -/
import Derived.Test.YtbapkamopelgpaaDoorClV
namespace Go.Proofs.YtbapkamopelgpaaDoor
open Go.RowKit Go.Stop Go.Extern Go.Ranges Go.Rows2 Go.Sort
set_option linter.unusedVariables false
set_option linter.unusedSimpArgs false
set_option maxRecDepth 100000
attribute [-go_sem] loadVar storeVar
attribute [local go_sem] cl_ne lt_1 lt_2 lt_3 lt_4
attribute [local go_sem] rI33 rB33 rI13 rC rM7 rM20 rM st33 sI33 sB33 sM7 sM20 ones_lit13 ones_new clA_size ones_clA msgA_size ones_msgA cl_get0 cl_get1 cl_get2 cl_get3 cl_get4 cl_get5 cl_get6 cl_el0 cl_el1 cl_el2 cl_el3 cl_el4 cl_el5 cl_el6 msg_el0 msg_el1 msg_el2 msg_el10 cl_set0 cl_set1 cl_set2 cl_set3 cl_set4 cl_set5 cl_set6 msg_get0 msg_get1 msg_get2 msg_get10 cl_req cl_rep cl_patch7 cl_patch20 cl_all msg_all setRow_old setRow_last range_setRow_all lit_cl setRow_drew
attribute [local go_sem ↓] Go.wp_at_zero Go.wp_at_succ
attribute [local go_sem] lit_msg0 fold7 fold20 setRow_twice rE msg_ne
set_option maxHeartbeats 2000000 in
theorem clientDeaf_walk (id : Int) (M : Msg) (B L : Option Addr) (cb cl : Nat) (a : Nat → Addr) (w : World) (HV : MsgV w a) (h : MsgIn w M B L) : Calls Tryd.prog 6 #[.int .i64 id, .agg (msgA M B cb L cl)] w fun e w' => e = .returned (.bool true) ∧ Below w.heap.size w w' := by
  have HVh := Lib.hid HV
  have HMh := Lib.hid h
  clear HV h
  go_enter Tryd.func6, Tryd.ntmps6
  go_wp2_with fail
  have b0 : Below w.heap.size w (w.alloc (.cells (msgA M B cb L cl) 25)) := by repeat (first | exact Below.refl _ _ | refine Below.drew ?_ | refine Below.alloc ?_ (by simp; try omega) _)
  refine (alive21 a _ (HVh.out.below b0)).mono ?_
  rintro e w1 ⟨rfl, hb1⟩
  obtain ⟨m1, m2⟩ := row_kept (b := w.heap.size) 13 hb1 (by simp) (by simp [go_sem])
  have mq : rangeOf w1 w.heap.size 0 13 = msgA M B cb L cl := by rw [m2]; simp [go_sem]
  have HB1 := Lib.hid (stepV b0 hb1)
  have hge := (stepV b0 hb1).size
  clear hb1 m2 b0
  go_wp2_with fail
  refine (longM_any M B L cb cl _ (HMh.out.below HB1.out)).mono ?_
  rintro e w2 ⟨bb, rfl, _, hb2⟩
  obtain ⟨n1, n2⟩ := row_kept (b := w.heap.size) 13 hb2 (isRow_lt m1) m1
  rw [mq] at n2
  have HB2 := Lib.hid (stepV HB1.out hb2)
  have hge2 := (stepV HB1.out hb2).size
  clear hb2 m1 mq hge HB1
  cases bb with
  | true =>
    go_wp2_with fail
    go_ret
    exact ⟨rfl, HB2.out⟩
  | false =>
    go_wp2_with fail
    have hI : 0 ≤ wrap64 ((IntKind.u64.wrap id).tmod 8) ∧ wrap64 ((IntKind.u64.wrap id).tmod 8) < 8 := by
      have h0 : 0 ≤ IntKind.u64.wrap id := by
        show 0 ≤ id % 2 ^ 64
        omega
      have h1 : 0 ≤ (IntKind.u64.wrap id).tmod 8 := Int.tmod_nonneg 8 h0
      have h2 : (IntKind.u64.wrap id).tmod 8 < 8 := Int.tmod_lt_of_pos _ (by decide)
      unfold wrap64
      omega
    generalize wrap64 ((IntKind.u64.wrap id).tmod 8) = I at *
    refine (new_ok I _ hI.1 hI.2).mono ?_
    rintro e w3 ⟨rfl, hb3⟩
    obtain ⟨o1, o2⟩ := row_kept (b := w.heap.size) 13 hb3 (isRow_lt n1) n1
    rw [n2] at o2
    have ol := isRow_lt o1
    have HB3 := Lib.hid (stepV HB2.out hb3)
    have hge3 := (stepV HB2.out hb3).size
    clear hb3 n1 n2 hge2 HB2
    go_wp2_with fail
    refine (hear_no (cl0 I) M B L cb cl _ rfl).mono ?_
    rintro e w4 ⟨rfl, hb4⟩
    obtain ⟨p1, p2⟩ := row_kept (b := w.heap.size) 13 hb4 (by simp; omega) (by simp [go_sem, o1, ol])
    obtain ⟨p3, p4⟩ := row_kept (b := w3.heap.size) 33 hb4 (by simp) (by simp [go_sem])
    have p2' : rangeOf w4 w.heap.size 0 13 = msgA M B cb L cl := by rw [p2]; simp [go_sem, o2, ol]
    have p4' : rangeOf w4 w3.heap.size 0 33 = clA (cl0 I) := by rw [p4]; simp [go_sem]
    have HB4 := Lib.hid (stepV (HB3.out.alloc hge3 (.cells (clA (cl0 I)) 33)) hb4)
    have hge4 := (stepV (HB3.out.alloc hge3 (.cells (clA (cl0 I)) 33)) hb4).size
    have l1 := isRow_lt p1
    have l3 := isRow_lt p3
    clear hb4 o1 o2 p2 p4 HB3
    go_wp2_with fail
    obtain ⟨f1, f1'⟩ : isRow (w4.alloc (.cells (clA (cl0 I)) 33)) w.heap.size 13 = true ∧ rangeOf (w4.alloc (.cells (clA (cl0 I)) 33)) w.heap.size 0 13 = msgA M B cb L cl := ⟨by simp [go_sem, p1, l1], by simp [go_sem, p2', l1]⟩
    obtain ⟨f3, f3'⟩ : isRow (w4.alloc (.cells (clA (cl0 I)) 33)) w3.heap.size 33 = true ∧ rangeOf (w4.alloc (.cells (clA (cl0 I)) 33)) w3.heap.size 0 33 = clA (cl0 I) := ⟨by simp [go_sem, p3, l3], by simp [go_sem, p4', l3]⟩
    obtain ⟨f7, f7'⟩ : isRow (w4.alloc (.cells (clA (cl0 I)) 33)) w4.heap.size 33 = true ∧ rangeOf (w4.alloc (.cells (clA (cl0 I)) 33)) w4.heap.size 0 33 = clA (cl0 I) := ⟨by simp [go_sem], by simp [go_sem]⟩
    have HB5 := Lib.hid (HB4.out.alloc hge4 (.cells (clA (cl0 I)) 33))
    have hge5 := HB5.out.size
    generalize (w4.alloc (.cells (clA (cl0 I)) 33)) = W5 at f1 f1' f3 f3' f7 f7' HB5 hge5 ⊢
    clear p1 p2' p3 p4' HB4
    generalize w4.heap.size = g7 at *
    generalize w3.heap.size = g5 at *
    have q3 := fun (p : Regrown) => (row_kept 33 (below_regrown W5 p.d p.os) (isRow_lt f3) f3).1
    have q3' := fun (p : Regrown) => ((row_kept 33 (below_regrown W5 p.d p.os) (isRow_lt f3) f3).2).trans f3'
    have q7 := fun (p : Regrown) => (row_kept 33 (below_regrown W5 p.d p.os) (isRow_lt f7) f7).1
    have q7' := fun (p : Regrown) => ((row_kept 33 (below_regrown W5 p.d p.os) (isRow_lt f7) f7).2).trans f7'
    refine wp_region_quiet_below (by kernel_rfl) (by kernel_rfl) ?_
    repeat (go_big_quiet_step (first
      | (go_at_call 22; exact Calls.regrown_of (of_any (cl0 I) _))
      | (go_at_call 21; exact Calls.regrown_of (same_self (cl0 I) _ (cl0_in _ I) (Nat.zero_le _) (Nat.zero_le _)))))
    refine wpQuiet_nil ?_
    intro W6 hw'
    obtain ⟨pq, hw''⟩ := hw'
    have hB6 := below_regrown W5 pq.d pq.os
    rw [← hw''] at hB6
    clear hw'' q3 q3' q7 q7'
    obtain ⟨u1, u1'⟩ := row_kept 13 hB6 (isRow_lt f1) f1
    obtain ⟨u3, u3'⟩ := row_kept 33 hB6 (isRow_lt f3) f3
    obtain ⟨u7, u7'⟩ := row_kept 33 hB6 (isRow_lt f7) f7
    rw [f1'] at u1'
    rw [f3'] at u3'
    have HB6 := Lib.hid (stepV HB5.out hB6)
    clear hB6 f1 f1' f3 f3' f7 f7' u7' HB5
    go_wp2_with fail
    refine (start_a (cl0 I) 4 3 a _ (HVh.out.below HB6.out) rfl (by decide) (by decide) (by decide) (by decide) hI.1 (by show I ≤ 7; omega) (by show (0 : Int) ≤ 0; decide) (by show (0 : Int) ≤ 1000; decide)).mono ?_
    rintro e w7 ⟨A, k, g, kk, rfl, hreq, hb7⟩
    obtain ⟨v1, v1'⟩ := row_kept 13 hb7 (isRow_lt u1) u1
    obtain ⟨v5, _⟩ := row_kept 33 hb7 (isRow_lt u3) u3
    obtain ⟨v7, _⟩ := row_kept 33 hb7 (isRow_lt u7) u7
    rw [u1'] at v1'
    have HB7 := Lib.hid (stepV HB6.out hb7)
    clear hb7 u1 u1' u3 u3' u7 HB6 pq
    have hcin : ∀ W : World, ClIn W ({ cl0 I with num := (cl0 I).num + 1, wt := true, rf := false, dn := 1, due := 3 + 8, rq := reqOf (cl0 I) 4 sa [], qB := A, qb := k, qL := none, ql := 0 } : Cl) := fun W => ⟨⟨fun h => absurd h (Nat.lt_irrefl 0), fun h => absurd h (Nat.lt_irrefl 0)⟩, msg0_in W⟩
    have hl1 : ({ cl0 I with num := (cl0 I).num + 1, wt := true, rf := false, dn := 1, due := 3 + 8, rq := reqOf (cl0 I) 4 sa [], qB := A, qb := k, qL := none, ql := 0 } : Cl).rq.list.length ≤ maxLen := Nat.zero_le _
    have hl2 : ({ cl0 I with num := (cl0 I).num + 1, wt := true, rf := false, dn := 1, due := 3 + 8, rq := reqOf (cl0 I) 4 sa [], qB := A, qb := k, qL := none, ql := 0 } : Cl).rp.list.length ≤ maxLen := Nat.zero_le _
    have hwt : ({ cl0 I with num := (cl0 I).num + 1, wt := true, rf := false, dn := 1, due := 3 + 8, rq := reqOf (cl0 I) 4 sa [], qB := A, qb := k, qL := none, ql := 0 } : Cl).wt = true := rfl
    have hdn : ({ cl0 I with num := (cl0 I).num + 1, wt := true, rf := false, dn := 1, due := 3 + 8, rq := reqOf (cl0 I) 4 sa [], qB := A, qb := k, qL := none, ql := 0 } : Cl).dn = 1 := rfl
    generalize ({ cl0 I with num := (cl0 I).num + 1, wt := true, rf := false, dn := 1, due := 3 + 8, rq := reqOf (cl0 I) 4 sa [], qB := A, qb := k, qL := none, ql := 0 } : Cl) = c1 at *
    generalize (some ⟨g, 0, none⟩ : Option Addr) = G
    clear hreq
    have hne57 : g5 ≠ g7 := by omega
    have hne75 : g7 ≠ g5 := by omega
    have hne15 : w.heap.size ≠ g5 := by omega
    have hne17 : w.heap.size ≠ g7 := by omega
    have hlw7 := isRow_lt v1
    have hl57 := isRow_lt v5
    have hl77 := isRow_lt v7
    go_wp2_with fail
    have HBs := Lib.hid (below_setRow HB7.out hge3 (clA c1))
    obtain ⟨x1, x1'⟩ : isRow (w7.setRow g5 (clA c1)) w.heap.size 13 = true ∧ rangeOf (w7.setRow g5 (clA c1)) w.heap.size 0 13 = msgA M B cb L cl := ⟨by simp [go_sem, v1, hne15], by simp [go_sem, v1', hne15]⟩
    obtain ⟨x5, x5'⟩ : isRow (w7.setRow g5 (clA c1)) g5 33 = true ∧ rangeOf (w7.setRow g5 (clA c1)) g5 0 33 = clA c1 := ⟨by simp [go_sem, v5], by simp [go_sem, v5]⟩
    obtain x7 : isRow (w7.setRow g5 (clA c1)) g7 33 = true := by simp [go_sem, v7, hne75]
    generalize w7.setRow g5 (clA c1) = W7 at *
    clear v1 v1' v5 v7 HB7 hlw7 hl57 hl77
    cases hm : mine c1 M with
    | true =>
      have hm' := hm
      simp only [mine, Bool.and_eq_true, decide_eq_true_eq] at hm'
      obtain ⟨⟨⟨y1, y2⟩, y3⟩, y4⟩ := hm'
      by_cases h9 : M.an = 9
      · have K := hear_late c1 M B L cb cl W7 hm h9 (by omega)
        refine K.mono ?_
        rintro e w8 ⟨rfl, hb8⟩
        obtain ⟨z1, z1'⟩ := row_kept 13 hb8 (isRow_lt x1) x1
        obtain ⟨z5, z5'⟩ := row_kept 33 hb8 (isRow_lt x5) x5
        obtain ⟨z7, _⟩ := row_kept 33 hb8 (isRow_lt x7) x7
        rw [x1'] at z1'
        rw [x5'] at z5'
        have HB8 := Lib.hid (stepV HBs.out hb8)
        clear hb8 x1 x1' x5 x5' x7 HBs
        go_wp2_with fail
        go_ret
        exact ⟨rfl, below_setRow HB8.out (by omega) _⟩
      · have h9' : (M.an == 9) = false := by simpa using h9
        have h9'' : (M.an != 9) = true := by simpa using h9
        have K := hear_yes c1 M B L cb cl W7 hm (fun q => h9 q.1)
        refine K.mono ?_
        rintro e w8 ⟨rfl, hb8⟩
        obtain ⟨z1, z1'⟩ := row_kept 13 hb8 (isRow_lt x1) x1
        obtain ⟨z5, z5'⟩ := row_kept 33 hb8 (isRow_lt x5) x5
        obtain ⟨z7, _⟩ := row_kept 33 hb8 (isRow_lt x7) x7
        rw [x1'] at z1'
        rw [x5'] at z5'
        have HB8 := Lib.hid (stepV HBs.out hb8)
        clear hb8 x1 x1' x5 x5' x7 HBs
        go_wp2_with fail
        go_ret
        exact ⟨rfl, below_setRow HB8.out (by omega) _⟩
    | false =>
      refine (hear_no c1 M B L cb cl W7 hm).mono ?_
      rintro e w8 ⟨rfl, hb8⟩
      obtain ⟨z1, z1'⟩ := row_kept 13 hb8 (isRow_lt x1) x1
      obtain ⟨z5, z5'⟩ := row_kept 33 hb8 (isRow_lt x5) x5
      obtain ⟨z7, _⟩ := row_kept 33 hb8 (isRow_lt x7) x7
      rw [x1'] at z1'
      rw [x5'] at z5'
      have HB8 := Lib.hid (stepV HBs.out hb8)
      have HBs8 := Lib.hid (below_setRow HB8.out hge4 (clA c1))
      clear hb8 x1 x1' x5 x5' x7 HBs HB8
      obtain ⟨y1, y1'⟩ : isRow (w8.setRow g7 (clA c1)) w.heap.size 13 = true ∧ rangeOf (w8.setRow g7 (clA c1)) w.heap.size 0 13 = msgA M B cb L cl := ⟨by simp [go_sem, z1, hne17], by simp [go_sem, z1', hne17]⟩
      obtain ⟨y5, y5'⟩ : isRow (w8.setRow g7 (clA c1)) g5 33 = true ∧ rangeOf (w8.setRow g7 (clA c1)) g5 0 33 = clA c1 := ⟨by simp [go_sem, z5, hne57], by simp [go_sem, z5', hne57]⟩
      obtain ⟨y7, y7'⟩ : isRow (w8.setRow g7 (clA c1)) g7 33 = true ∧ rangeOf (w8.setRow g7 (clA c1)) g7 0 33 = clA c1 := ⟨by simp [go_sem, z7], by simp [go_sem, z7]⟩
      have hcase : (M.k == 3) = false ∨ (M.k = 3 ∧ (M.c == c1.id) = false) ∨ (M.k = 3 ∧ M.c = c1.id ∧ (M.n == c1.num) = false) := by
        simp only [mine, hwt, Bool.true_and, Bool.and_eq_false_iff, decide_eq_false_iff_not] at hm
        by_cases e1 : M.k = 3
        · by_cases e2 : M.c = c1.id
          · right; right
            refine ⟨e1, e2, ?_⟩
            rcases hm with (hm | hm) | hm
            · exact absurd e1 hm
            · exact absurd e2 hm
            · simpa using hm
          · right; left
            exact ⟨e1, by simpa using e2⟩
        · left
          simpa using e1
      have Q3 := fun (p : Regrown) => (row_kept 33 (below_regrown (w8.setRow g7 (clA c1)) p.d p.os) (isRow_lt y5) y5).1
      have Q3' := fun (p : Regrown) => ((row_kept 33 (below_regrown (w8.setRow g7 (clA c1)) p.d p.os) (isRow_lt y5) y5).2).trans y5'
      have Q7 := fun (p : Regrown) => (row_kept 33 (below_regrown (w8.setRow g7 (clA c1)) p.d p.os) (isRow_lt y7) y7).1
      have Q7' := fun (p : Regrown) => ((row_kept 33 (below_regrown (w8.setRow g7 (clA c1)) p.d p.os) (isRow_lt y7) y7).2).trans y7'
      clear hm
      rcases hcase with hc | ⟨hc, hd⟩ | ⟨hc, hd, he⟩
      all_goals (
        go_wp2_with fail
        generalize w8.setRow g7 (clA c1) = W9 at *
        refine wp_region_quiet_below (by kernel_rfl) (by kernel_rfl) ?_
        repeat (go_big_quiet_step (first
          | (go_at_call 22; exact Calls.regrown_of (of_any c1 _))
          | (go_at_call 21; exact Calls.regrown_of (same_self c1 _ (hcin _) hl1 hl2))))
        refine wpQuiet_nil ?_
        intro W6 hw'
        obtain ⟨pq, hw''⟩ := hw'
        have hB6 := below_regrown W9 pq.d pq.os
        rw [← hw''] at hB6
        have HB9 := Lib.hid (stepV HBs8.out hB6)
        clear hw'' hB6 Q3 Q3' Q7 Q7'
        go_wp2_with fail
        go_ret
        exact ⟨rfl, HB9.out⟩)
end Go.Proofs.YtbapkamopelgpaaDoor
