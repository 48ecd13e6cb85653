/- ClientNew: the walk. -/
import Derived.Test.YtbapkamopelgpaaDoorClV
namespace Go.Proofs.YtbapkamopelgpaaDoor
open Go.RowKit Go.Stop Go.Extern Go.Ranges Go.Rows2 Go.Sort
set_option linter.unusedVariables false
set_option linter.unusedSimpArgs false
set_option maxRecDepth 100000
attribute [-go_sem] loadVar storeVar
attribute [local go_sem] cl_ne lt_1 lt_2 lt_3 lt_4
attribute [local go_sem] rI33 rB33 rI13 rC rM7 rM20 rM st33 sI33 sB33 sM7 sM20 ones_lit13 ones_new clA_size ones_clA msgA_size ones_msgA cl_get0 cl_get1 cl_get2 cl_get3 cl_get4 cl_get5 cl_get6 cl_el0 cl_el1 cl_el2 cl_el3 cl_el4 cl_el5 cl_el6 msg_el0 msg_el1 msg_el2 msg_el10 cl_set0 cl_set1 cl_set2 cl_set3 cl_set4 cl_set5 cl_set6 msg_get0 msg_get1 msg_get2 msg_get10 cl_req cl_rep cl_patch7 cl_patch20 cl_all msg_all setRow_old setRow_last range_setRow_all lit_cl setRow_drew
attribute [local go_sem ↓] Go.wp_at_zero Go.wp_at_succ
attribute [local go_sem] lit_msg0 fold7 fold20 setRow_twice rE msg_ne
set_option maxHeartbeats 2000000 in
theorem clientNew_walk (id : Int) (a : Nat → Addr) (w : World) (HV : MsgV w a) (HE : Errs w a) : Calls Tryd.prog 4 #[.int .i64 id] w fun e w' => e = .returned (.bool true) ∧ Below w.heap.size w w' := by
  have HVh := Lib.hid HV
  have HEh := Lib.hid HE
  clear HV HE
  go_enter Tryd.func4, Tryd.ntmps4
  go_wp2_with fail
  refine (alive21 a _ HVh.out).mono ?_
  rintro e w1 ⟨rfl, hb1⟩
  have HB1 := Lib.hid hb1
  have hge := hb1.size
  clear hb1
  go_wp2_with fail
  by_cases hin : id < 0 ∨ 8 ≤ id
  · refine (new_no id a _ (HVh.out.e1.below HB1.out) hin).mono ?_
    rintro e w2 ⟨rfl, hb2⟩
    have HB2 := Lib.hid (stepV HB1.out hb2)
    have hge2 := hb2.size
    have K := Lib.hid fun (W : World) (hb : Below w.heap.size w W) => num_any a 1 (by decide) W (HEh.out.below hb)
    clear hb2
    simp only [errV, if_neg (show ¬ (1 : Nat) = 0 by decide)] at K
    have hor : (decide (id < 0) = true) ∨ (decide (id < 0) = false ∧ decide (7 < id) = true) := by
      by_cases h : id < 0
      · exact .inl (by simpa using h)
      · exact .inr ⟨by simpa using h, by simp; omega⟩
    simp only [errV, if_neg (show ¬ (1 : Nat) = 0 by decide)]
    rcases hor with hd | ⟨hd, hd2⟩
    · go_wp2_with fail
      refine (K.out _ (HB2.out.alloc (by omega) _)).mono ?_
      rintro e w3 ⟨rfl, hb3⟩
      obtain ⟨p1, p2⟩ := row_kept (b := w2.heap.size) 33 hb3 (by simp) (by simp [go_sem])
      have q2 : rangeOf w3 w2.heap.size 0 33 = clA (cl0 0) := by rw [p2]; simp [go_sem]
      have HB3 := Lib.hid (stepV (HB2.out.alloc (by omega) _) hb3)
      clear hb3 p2 HB2 HB1 K
      go_wp2_with fail

      go_ret
      exact ⟨rfl, HB3.out⟩
    · go_wp2_with fail
      refine (K.out _ (HB2.out.alloc (by omega) _)).mono ?_
      rintro e w3 ⟨rfl, hb3⟩
      obtain ⟨p1, p2⟩ := row_kept (b := w2.heap.size) 33 hb3 (by simp) (by simp [go_sem])
      have q2 : rangeOf w3 w2.heap.size 0 33 = clA (cl0 0) := by rw [p2]; simp [go_sem]
      have HB3 := Lib.hid (stepV (HB2.out.alloc (by omega) _) hb3)
      clear hb3 p2 HB2 HB1 K
      go_wp2_with fail
      go_ret
      exact ⟨rfl, HB3.out⟩
  · have i0 : 0 ≤ id := by omega
    have i8 : id < 8 := by omega
    refine (new_ok id _ i0 i8).mono ?_
    rintro e w2 ⟨rfl, hb2⟩
    have HB2 := Lib.hid (stepV HB1.out hb2)
    have hge2 := hb2.size
    have hd : decide (id < 0) = false := by simpa using i0
    have hd2 : decide (7 < id) = false := by simp; omega
    clear hb2 hin
    go_wp2_with fail
    refine (of_any (cl0 id) _).mono ?_
    rintro e w3 ⟨rfl, hb3⟩
    have HB3 := Lib.hid (stepV (HB2.out.alloc (by omega) _) hb3)
    clear hb3
    go_wp2_with fail
    refine (same_self (cl0 id) _ (cl0_in _ id) (Nat.zero_le _) (Nat.zero_le _)).mono ?_
    rintro e w4 ⟨rfl, hb4⟩
    have HB4 := Lib.hid (stepV HB3.out hb4)
    clear hb4
    go_wp2_with fail
    go_ret
    exact ⟨rfl, HB4.out⟩
end Go.Proofs.YtbapkamopelgpaaDoor
