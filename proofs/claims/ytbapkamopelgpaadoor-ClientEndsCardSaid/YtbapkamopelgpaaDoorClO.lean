/- Clients: Of, and the reference's Same at one client. -/
import Derived.Test.YtbapkamopelgpaaDoorClH
namespace Go.Proofs.YtbapkamopelgpaaDoor
open Go.RowKit Go.Stop Go.Extern Go.Ranges Go.Rows2 Go.Sort
set_option linter.unusedVariables false
set_option linter.unusedSimpArgs false
set_option maxRecDepth 100000
section
variable (w : World) (b : Nat)
theorem ld13r (w : World) (b o : Nat) (h : hasRange w b o 13 = true) : (loadVar 30 ⟨b, o, none⟩).run Tryd.prog w = .ok (.agg (rangeOf w b o 13)) w :=
  var_range 13 Tryd.underlying30 rfl (by kernel_rfl) w b o h
theorem ld33r (w : World) (b o : Nat) (h : hasRange w b o 33 = true) : (loadVar 41 ⟨b, o, none⟩).run Tryd.prog w = .ok (.agg (rangeOf w b o 33)) w :=
  var_range 33 Tryd.underlying41 rfl (by kernel_rfl) w b o h
theorem rCr (h : isRow w b 33 = true) : (loadVar 41 ⟨b, 0, none⟩).run Tryd.prog w = .ok (.agg (rangeOf w b 0 33)) w := ld33r w b 0 (has_row h (by decide))
theorem rM7r (h : isRow w b 33 = true) : (loadVar 30 ⟨b, 7, none⟩).run Tryd.prog w = .ok (.agg ((rangeOf w b 0 33).extract 7 20)) w := by
  rw [ld13r w b 7 (has_row h (by decide)), range_part w b 7 h (by decide)]
theorem rM20r (h : isRow w b 33 = true) : (loadVar 30 ⟨b, 20, none⟩).run Tryd.prog w = .ok (.agg ((rangeOf w b 0 33).extract 20 33)) w := by
  rw [ld13r w b 20 (has_row h (by decide)), range_part w b 20 h (by decide)]
theorem st33r (C : Array Value) (h : isRow w b 33 = true) (h2 : C.size = 33) (h3 : ones C = true) : (storeVar 41 ⟨b, 0, none⟩ (.agg C)).run Tryd.prog w = .ok () (w.setRow b C) :=
  store_row 33 (by kernel_rfl) w b C h h2 h3
end
attribute [-go_sem] loadVar storeVar
attribute [local go_sem] cl_ne lt_1 lt_2 lt_3 lt_4
attribute [local go_sem] rI33 rB33 rI13 rC rM7 rM20 rM st33 sI33 sB33 sM7 sM20 ones_lit13 ones_new clA_size ones_clA msgA_size ones_msgA cl_get0 cl_get1 cl_get2 cl_get3 cl_get4 cl_get5 cl_get6 cl_el0 cl_el1 cl_el2 cl_el3 cl_el4 cl_el5 cl_el6 msg_el0 msg_el1 msg_el2 msg_el10 cl_set0 cl_set1 cl_set2 cl_set3 cl_set4 cl_set5 cl_set6 msg_get0 msg_get1 msg_get2 msg_get10 cl_req cl_rep cl_patch7 cl_patch20 cl_all msg_all setRow_old setRow_last range_setRow_all lit_cl setRow_drew
attribute [local go_sem ↓] Go.wp_at_zero Go.wp_at_succ
theorem fold7 (c : Cl) (M : Msg) (B L : Option Addr) (cb cl : Nat) : Array.foldl (fun cs x => cs.setIfInBounds (7 + x.snd) x.fst) (clA c) (msgA M B cb L cl).zipIdx 0 13 = clA { c with rq := M, qB := B, qb := cb, qL := L, ql := cl } := by unfold clA msgA; simp [List.zipIdx]
theorem fold20 (c : Cl) (M : Msg) (B L : Option Addr) (cb cl : Nat) : Array.foldl (fun cs x => cs.setIfInBounds (20 + x.snd) x.fst) (clA c) (msgA M B cb L cl).zipIdx 0 13 = clA { c with rp := M, pB := B, pb := cb, pL := L, pl := cl } := by unfold clA msgA; simp [List.zipIdx]
attribute [local go_sem] fold7 fold20 rCr rM7r rM20r st33r
set_option maxHeartbeats 1000000 in
theorem of_any (c : Cl) (w : World) : Calls Tryd.prog 22 #[.agg (clA c)] w fun e w' => e = .returned (.agg (clA c)) ∧ Below w.heap.size w w' := by
  go_enter Tryd.func22, Tryd.ntmps22
  go_wp2_with fail
  exact bodyPost_ret (v := .agg (clA c)) (by simp [results, Tryd.results22, go_sem]) rfl ⟨rfl, by repeat (first | exact Below.refl _ _ | refine Below.drew ?_ | refine Below.alloc ?_ (by simp; try omega) _)⟩
set_option maxHeartbeats 2000000 in
theorem same_self (c : Cl) (w : World) (h : ClIn w c) (hl : c.rq.list.length ≤ maxLen) (hl' : c.rp.list.length ≤ maxLen) : Calls Tryd.prog 21 #[.agg (clA c), .agg (clA c)] w fun e w' => e = .returned (.bool true) ∧ Below w.heap.size w w' := by
  have K1 := fun (W : World) (hB : Below w.heap.size w W) => refSame_any c.rq c.rq c.qB c.qL c.qB c.qL c.qb c.ql c.qb c.ql W (h.rq.below hB) (h.rq.below hB) hl hl
  have K2 := fun (W : World) (hB : Below w.heap.size w W) => refSame_any c.rp c.rp c.pB c.pL c.pB c.pL c.pb c.pl c.pb c.pl W (h.rp.below hB) (h.rp.below hB) hl' hl'
  simp only [sameM_self] at K1 K2
  have hK1 := Lib.hid K1
  have hK2 := Lib.hid K2
  clear K1 K2 h hl hl'
  go_enter Tryd.func21, Tryd.ntmps21
  go_wp2_with fail
  have b0 : Below w.heap.size w ((w.alloc (.cells (clA c) 41)).alloc (.cells (clA c) 41)) := by repeat (first | exact Below.refl _ _ | refine Below.drew ?_ | refine Below.alloc ?_ (by simp; try omega) _)
  refine (hK1.out _ b0).mono ?_
  rintro e w1 ⟨rfl, hb⟩
  obtain ⟨k1, k2⟩ := row_kept (b := w.heap.size) 33 hb (by simp; omega) (by simp [go_sem])
  obtain ⟨k3, k4⟩ := row_kept (b := w.heap.size + 1) 33 hb (by simp) (by simp [go_sem])
  have q1 : rangeOf w1 w.heap.size 0 33 = clA c := by rw [k2]; simp [go_sem]
  have q2 : rangeOf w1 (w.heap.size + 1) 0 33 = clA c := by rw [k4]; simp [go_sem]
  have HB := Lib.hid (stepV b0 hb)
  clear hb b0 k2 k4 hK1
  go_wp2_with fail
  refine (hK2.out _ HB.out).mono ?_
  rintro e w2 ⟨rfl, hb⟩
  have HB2 := Lib.hid (stepV HB.out hb)
  clear hb HB
  go_wp2_with fail
  go_ret
  exact ⟨rfl, HB2.out⟩
end Go.Proofs.YtbapkamopelgpaaDoor
