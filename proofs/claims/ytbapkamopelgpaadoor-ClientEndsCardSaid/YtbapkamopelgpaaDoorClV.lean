/- Clients: the chapter's example; ClientNew. -/
import Derived.Test.YtbapkamopelgpaaDoorClS
namespace Go.Proofs.YtbapkamopelgpaaDoor
open Go.RowKit Go.Stop Go.Extern Go.Ranges Go.Rows2 Go.Sort
set_option linter.unusedVariables false
set_option linter.unusedSimpArgs false
set_option maxRecDepth 100000
attribute [-go_sem] loadVar storeVar
attribute [local go_sem] cl_ne lt_1 lt_2 lt_3 lt_4
attribute [local go_sem] rI33 rB33 rI13 rC rM7 rM20 rM st33 sI33 sB33 sM7 sM20 ones_lit13 ones_new clA_size ones_clA msgA_size ones_msgA cl_get0 cl_get1 cl_get2 cl_get3 cl_get4 cl_get5 cl_get6 cl_el0 cl_el1 cl_el2 cl_el3 cl_el4 cl_el5 cl_el6 msg_el0 msg_el1 msg_el2 msg_el10 cl_set0 cl_set1 cl_set2 cl_set3 cl_set4 cl_set5 cl_set6 msg_get0 msg_get1 msg_get2 msg_get10 cl_req cl_rep cl_patch7 cl_patch20 cl_all msg_all setRow_old setRow_last range_setRow_all lit_cl setRow_drew
attribute [local go_sem ↓] Go.wp_at_zero Go.wp_at_succ
attribute [local go_sem] lit_msg0 fold13b setRow_twice rE msg_ne
theorem rI3 (w : World) (b o : Nat) (h : isRow w b 3 = true) (ho : o < 3) : (loadVar 3 ⟨b, o, none⟩).run Tryd.prog w = .ok ((rangeOf w b 0 3).getD o .nilIface) w := ld_slot 3 w b o _ (by kernel_rfl) h ho
theorem ext3 (x y z : Value) : (#[x, y, z] : Array Value).extract 0 3 = #[x, y, z] := Eq.trans rfl rfl
attribute [local go_sem] rI3 ext3
def sa : ByteArray := ⟨#[97]⟩
theorem fit98 (N : Int) (h0 : 0 ≤ N) (h1 : N ≤ 255) : ocFit 98 N [] = true := by
  unfold ocFit
  rw [if_pos (by decide)]
  have : ocMost 98 = 255 := rfl
  rw [this]
  simp [h0, h1]
theorem fit113 (N : Int) (h0 : 0 ≤ N) (h1 : N ≤ 2000) : ocFit 113 N [] = true := by
  unfold ocFit
  rw [if_pos (by decide)]
  have h2 : (2000 : Int) ≤ ocMost 113 := by decide
  have h3 : N ≤ ocMost 113 := by omega
  simp [h0, h3]
theorem req_ok (c : Cl) (op : Int) (ho1 : 1 ≤ op) (ho2 : op ≤ 255) (hi0 : 0 ≤ c.id) (hi1 : c.id ≤ 7) (hn0 : 0 ≤ c.num) (hn1 : c.num ≤ 1000) : numsOK (reqOf c op sa []) = true := by
  unfold numsOK reqOf
  simp only [fit98 1 (by decide) (by decide), fit98 c.id hi0 (by omega), fit113 (c.num + 1) (by omega) (by omega), fit98 op (by omega) ho2, fit113 0 (by decide) (by decide), fit98 0 (by decide) (by decide)]
  rfl
theorem start_a (c : Cl) (op : Int) (now : Int) (a : Nat → Addr) (w : World) (HV : MsgV w a) (hw : c.wt = false) (ho1 : 1 ≤ op) (ho2 : op ≤ 255) (h0 : 0 ≤ now) (h1 : now ≤ 1000) (hi0 : 0 ≤ c.id) (hi1 : c.id ≤ 7) (hn0 : 0 ≤ c.num) (hn1 : c.num ≤ 1000) :
    Calls Tryd.prog 23 #[.agg (clA c), .int .i64 op, .string ⟨#[97]⟩, .slice none 0 0, .int .i64 now] w (StartOk w c op sa [] now) :=
  start_ok c op sa none 0 [] now a w HV hw ho1 ho2 (by decide) h0 h1 hn0 hn1 (fun h => absurd h (Nat.lt_irrefl 0)) (by decide) (fun _ => rfl)
    (msgC_ok ⟨Int.le_refl 1, by show (1 : Int) ≤ 10; decide⟩ (by show (1 : Nat) ≤ 255; decide) rfl (req_ok c op ho1 ho2 hi0 hi1 hn0 hn1) (by show 0 + 1 ≤ 2950; decide))
set_option maxHeartbeats 2000000 in
theorem alive21 (a : Nat → Addr) (w : World) (HV : MsgV w a) : Calls Tryd.prog 18 #[] w fun e w' => e = .returned (.bool true) ∧ Below w.heap.size w w' := by
  have HVh := Lib.hid HV
  clear HV
  go_enter Tryd.func18, Tryd.ntmps18
  go_wp2_with fail
  refine (new_ok 1 _ (by decide) (by decide)).mono ?_
  rintro e w1 ⟨rfl, hb1⟩
  have HB1 := Lib.hid hb1
  have HV1 := Lib.hid (HVh.out.below hb1)
  clear hb1
  go_wp2_with fail
  have hS := start_a (cl0 1) 1 0 a _ (HV1.out.below (alloc_below w1 (.cells (clA (cl0 1)) 33))) rfl (by decide) (by decide) (by decide) (by decide) (by decide) (by decide) (by decide) (by decide)
  refine hS.mono ?_
  clear hS
  rintro e w2 ⟨A, k, g, kk, rfl, _, hb2⟩
  obtain ⟨k1, k2⟩ := row_kept (b := w1.heap.size) 33 hb2 (by simp) (by simp [go_sem])
  have HB2 := Lib.hid (stepV (HB1.out.alloc HB1.out.size (.cells (clA (cl0 1)) 33)) hb2)
  have hlt := isRow_lt k1
  have hge := HB1.out.size
  clear hb2 k2 HB1 HV1
  generalize hG : (some ⟨g, 0, none⟩ : Option Addr) = G
  generalize hc1 : ({ cl0 1 with num := (cl0 1).num + 1, wt := true, rf := false, dn := 1, due := 0 + 8, rq := reqOf (cl0 1) 1 sa [], qB := A, qb := k, qL := none, ql := 0 } : Cl) = c1
  go_wp2_with fail
  have f1 : c1.wt = true := by rw [← hc1]
  have f2 : c1.due = 8 := by rw [← hc1]; rfl
  have f3 : c1.dn = 1 := by rw [← hc1]
  clear hc1 HVh
  generalize hc2 : ({ c1 with dn := c1.dn + 1, due := 8 + 8, rf := false } : Cl) = c2
  have i1 : c2.wt = true := by rw [← hc2]; exact f1
  have i2 : c2.due = 16 := by rw [← hc2]; rfl
  have i3 : c2.dn = 2 := by rw [← hc2]; show c1.dn + 1 = 2; rw [f3]; rfl
  generalize hc3 : ({ c2 with dn := c2.dn + 1, due := 16 + 8, rf := false } : Cl) = c3
  have j1 : c3.wt = true := by rw [← hc3]; exact i1
  have j2 : c3.due = 24 := by rw [← hc3]; rfl
  have j3 : c3.dn = 3 := by rw [← hc3]; show c2.dn + 1 = 3; rw [i3]; rfl
  have j4 : c3.rf = false := by rw [← hc3]
  have T1 := Lib.hid fun W : World => tick_try c1 8 W (by decide) (by decide) f1 (by omega) (by omega) (by omega)
  have T2 := Lib.hid fun W : World => tick_try c2 16 W (by decide) (by decide) i1 (by omega) (by omega) (by omega)
  have T3 := Lib.hid fun W : World => tick_over c3 24 W (by decide) (by decide) j1 (by omega) (by omega)
  rw [hc2] at T1
  rw [hc3] at T2
  rw [j4] at T3
  simp only [Bool.false_eq_true, if_false] at T3
  clear f1 f2 f3 i1 i2 i3 j1 j2 j3 j4 hc2 hc3
  have hge2 := HB2.out.size
  have hbW : Below w.heap.size w ((w2.setRow w1.heap.size (clA c1)).alloc (.cells #[.int .i64 8, .int .i64 16, .int .i64 24] 3)) := (below_setRow HB2.out hge _).alloc (by simpa [World.setRow] using hge2) _
  refine wp_loop_rounds 4 ?_
  rw [rounds_succ]
  go_wp2_with fail
  refine (T1.out _).mono ?_
  rintro e w3 ⟨g3, kk3, rfl, hb3⟩
  obtain ⟨p1, p2⟩ := row_kept (b := w1.heap.size) 33 hb3 (by simp [World.setRow]; omega) (by simp [go_sem, k1, hlt])
  obtain ⟨p3, p4⟩ := row_kept (b := w2.heap.size) 3 hb3 (by simp [World.setRow]) (by simp [go_sem, World.setRow])
  have q4 : rangeOf w3 w2.heap.size 0 3 = #[.int .i64 8, .int .i64 16, .int .i64 24] := by rw [p4]; simp [go_sem, World.setRow]
  have HB3 := Lib.hid (stepV hbW hb3)
  have hne : w2.heap.size ≠ w1.heap.size := by omega
  clear hb3 p2 p4 hbW HB2 T1 k1
  go_wp2_with fail
  rw [rounds_succ]
  go_wp2_with fail
  refine (T2.out _).mono ?_
  rintro e w4 ⟨g4, kk4, rfl, hb4⟩
  obtain ⟨r1, r2⟩ := row_kept (b := w1.heap.size) 33 hb4 (by simpa [World.setRow] using isRow_lt p1) (by simp [go_sem, p1])
  obtain ⟨r3, r4⟩ := row_kept (b := w2.heap.size) 3 hb4 (by simpa [World.setRow] using isRow_lt p3) (by simp [go_sem, p3, hne])
  have s4 : rangeOf w4 w2.heap.size 0 3 = #[.int .i64 8, .int .i64 16, .int .i64 24] := by rw [r4]; simp [go_sem, hne, q4]
  have HB4 := Lib.hid (stepV (below_setRow HB3.out hge _) hb4)
  clear hb4 r2 r4 HB3 T2 p1 p3 q4
  go_wp2_with fail
  rw [rounds_succ]
  go_wp2_with fail
  refine (T3.out _).mono ?_
  rintro e w5 ⟨rfl, hb5⟩
  obtain ⟨t1, t2⟩ := row_kept (b := w1.heap.size) 33 hb5 (by simpa [World.setRow] using isRow_lt r1) (by simp [go_sem, r1])
  obtain ⟨t3, t4⟩ := row_kept (b := w2.heap.size) 3 hb5 (by simpa [World.setRow] using isRow_lt r3) (by simp [go_sem, r3, hne])
  have HB5 := Lib.hid (stepV (below_setRow HB4.out hge _) hb5)
  clear hb5 t2 t4 HB4 T3 r1 r3 s4
  go_wp2_with fail
  rw [rounds_succ]
  go_wp2_with fail
  go_ret
  exact ⟨rfl, below_setRow HB5.out hge _⟩
set_option maxHeartbeats 2000000 in
theorem new_no (id : Int) (a : Nat → Addr) (w : World) (h1 : ErrC w a 1) (h : id < 0 ∨ 8 ≤ id) : Calls Tryd.prog 19 #[.int .i64 id] w fun e w' => e = .returned (.tuple #[.agg (clA (cl0 0)), errV a 1]) ∧ Below w.heap.size w w' := by
  simp only [ErrC, gErr] at h1
  go_enter Tryd.func19, Tryd.ntmps19
  rcases h with h | h
  · have h' : decide (id < 0) = true := by simpa using h
    go_wp2_with fail
    have hlt1 := World.block_lt_of_cell? w _ h1
    have hlt2 : (1 : Nat) < w.heap.size := hlt1
    go_region
    go_wp2_with fail
    exact bodyPost_ret (v := .tuple #[.agg (clA (cl0 0)), errV a 1]) (by simp [results, Tryd.results19, go_sem, errV]) rfl ⟨rfl, by repeat (first | exact Below.refl _ _ | refine Below.drew ?_ | refine Below.alloc ?_ (by simp; try omega) _)⟩
  · have h0 : ¬ id < 0 := by omega
    have h' : decide (id < 0) = false := by simpa using h0
    have h'' : decide (8 ≤ id) = true := by simpa using h
    go_wp2_with fail
    have hlt1 := World.block_lt_of_cell? w _ h1
    have hlt2 : (1 : Nat) < w.heap.size := hlt1
    go_region
    go_wp2_with fail
    exact bodyPost_ret (v := .tuple #[.agg (clA (cl0 0)), errV a 1]) (by simp [results, Tryd.results19, go_sem, errV]) rfl ⟨rfl, by repeat (first | exact Below.refl _ _ | refine Below.drew ?_ | refine Below.alloc ?_ (by simp; try omega) _)⟩
end Go.Proofs.YtbapkamopelgpaaDoor
