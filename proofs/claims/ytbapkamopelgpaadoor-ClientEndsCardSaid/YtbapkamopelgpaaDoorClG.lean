/- ClientEnds: the walk. -/
import Derived.Test.YtbapkamopelgpaaDoorClF
import Derived.Test.YtbapkamopelgpaaDoorOpenMsgs
import Derived.Deep.RegionHeld3
namespace Go.Proofs.YtbapkamopelgpaaDoor
open Go.RowKit Go.Stop Go.Extern Go.Ranges Go.Rows2 Go.Sort
set_option linter.unusedVariables false
set_option linter.unusedSimpArgs false
set_option maxRecDepth 100000
attribute [-go_sem] loadVar storeVar
attribute [local go_sem] cl_ne lt_1 lt_2 lt_3 lt_4
attribute [local go_sem] rI33 rB33 rI13 rC rM7 rM20 rM st33 sI33 sB33 sM7 sM20 ones_lit13 ones_new clA_size ones_clA msgA_size ones_msgA cl_get0 cl_get1 cl_get2 cl_get3 cl_get4 cl_get5 cl_get6 cl_el0 cl_el1 cl_el2 cl_el3 cl_el4 cl_el5 cl_el6 msg_el0 msg_el1 msg_el2 msg_el10 cl_set0 cl_set1 cl_set2 cl_set3 cl_set4 cl_set5 cl_set6 msg_get0 msg_get1 msg_get2 msg_get10 cl_req cl_rep cl_patch7 cl_patch20 cl_all msg_all setRow_old setRow_last range_setRow_all lit_cl setRow_drew
attribute [local go_sem ↓] Go.wp_at_zero Go.wp_at_succ
attribute [local go_sem] lit_msg0 setRow_twice rE msg_ne ld13
theorem lastE {W w : World} {b g o : Nat} {C D : Array Value} (h : isRow w g 33 = true ∧ rangeOf w g 0 33 = C ∧ hasRange w b o 13 = true ∧ rangeOf w b o 13 = D ∧ Below W.heap.size W w) : Below W.heap.size W w := h.2.2.2.2
theorem keepE {W w' : World} {b g o : Nat} {C D : Array Value} (h1 : isRow W g 33 = true) (h2 : rangeOf W g 0 33 = C) (h3 : hasRange W b o 13 = true) (h4 : rangeOf W b o 13 = D) (hlt : b < W.heap.size) (hb : Below W.heap.size W w') :
    isRow w' g 33 = true ∧ rangeOf w' g 0 33 = C ∧ hasRange w' b o 13 = true ∧ rangeOf w' b o 13 = D ∧ Below W.heap.size W w' := by
  obtain ⟨k1, k2⟩ := row_kept 33 hb (isRow_lt h1) h1
  obtain ⟨k4, k3⟩ := range_below hb b o 13 hlt
  exact ⟨k1, k2.trans h2, k3.trans h3, k4.trans h4, hb⟩
set_option maxHeartbeats 4000000 in
theorem clientEnds_walk (id : Int) (A : Option Addr) (cap : Nat) (xs : List Int) (L : Option Addr) (n cl : Nat) (Ms : Nat → Msg) (Bs Ls : Nat → Option Addr) (cbs cls : Nat → Nat) (a : Nat → Addr) (w : World) (HV : MsgV w a) (hB : Lib.BytesIn w A xs.length xs) (hxm : xs.length ≤ maxLen) (hM : MsgsAt w L n Ms Bs Ls cbs cls) (hn : n ≤ maxLen) :
    Calls Tryd.prog 5 #[.int .i64 id, .slice A xs.length cap, .slice L n cl] w fun e w' => e = .returned (.bool true) ∧ Below w.heap.size w w' := by
  have HVh := Lib.hid HV
  have HBh := Lib.hid hB
  have HMh := Lib.hid hM
  clear HV hB hM
  unfold maxLen at hxm hn
  go_enter Tryd.func5, Tryd.ntmps5
  go_wp2_with fail
  refine (alive21 a _ HVh.out).mono ?_
  rintro e w1 ⟨rfl, hb1⟩
  have HB1 := Lib.hid hb1
  have hge := hb1.size
  clear hb1
  by_cases h1 : 40 < n
  · have h1d : decide ((40 : Int) < (n : Int)) = true := by simp; omega
    go_wp2_with fail
    go_ret
    exact ⟨rfl, HB1.out⟩
  by_cases h2 : 3500 < xs.length
  · have h1d : decide ((40 : Int) < (n : Int)) = false := by simp; omega
    have h2d : decide ((3500 : Int) < (xs.length : Int)) = true := by simp; omega
    go_wp2_with fail
    go_ret
    exact ⟨rfl, HB1.out⟩
  have h1d : decide ((40 : Int) < (n : Int)) = false := by simp; omega
  have h2d : decide ((3500 : Int) < (xs.length : Int)) = false := by simp; omega
  go_wp2_with fail
  have hI : 0 ≤ wrap64 ((IntKind.u64.wrap id).tmod 8) ∧ wrap64 ((IntKind.u64.wrap id).tmod 8) < 8 := by
    have h0 : 0 ≤ IntKind.u64.wrap id := by
      show 0 ≤ id % 2 ^ 64
      omega
    have h1 : 0 ≤ (IntKind.u64.wrap id).tmod 8 := Int.tmod_nonneg 8 h0
    have h2 : (IntKind.u64.wrap id).tmod 8 < 8 := Int.tmod_lt_of_pos _ (by decide)
    unfold wrap64
    omega
  generalize wrap64 ((IntKind.u64.wrap id).tmod 8) = I at *
  refine (new_ok I _ hI.1 hI.2).mono ?_
  rintro e w2 ⟨rfl, hb2⟩
  have HB2 := Lib.hid (stepV HB1.out hb2)
  have hge2 := (stepV HB1.out hb2).size
  clear hb2 HB1 hge h1d h2d
  go_wp2_with fail
  have HB3 := Lib.hid (HB2.out.alloc hge2 (.cells (clA (cl0 I)) 33))
  have hge3 := HB3.out.size
  obtain ⟨p1, p2⟩ : isRow (w2.alloc (.cells (clA (cl0 I)) 33)) w2.heap.size 33 = true ∧ rangeOf (w2.alloc (.cells (clA (cl0 I)) 33)) w2.heap.size 0 33 = clA (cl0 I) := ⟨by simp [go_sem], by simp [go_sem]⟩
  have hid0 : 0 ≤ (cl0 I).id := hI.1
  have hid1 : (cl0 I).id ≤ 7 := by show I ≤ 7; omega
  have hC := endsC (cl0 I) xs hid0 hid1 rfl (by omega)
  have HA : A = none → xs.length = 0 := fun e => by
    by_cases h0 : xs.length = 0
    · exact h0
    · obtain ⟨b, o, h, _⟩ := HBh.out (by omega)
      rw [e] at h; cases h
  rcases hC with hC | hC
  · have hS := start_ok (cl0 I) 3 sa A cap xs 0 a _ (HVh.out.below HB3.out) rfl (by decide) (by decide) (by decide) (by decide) (by decide) (Int.le_refl 0) (by show (0 : Int) ≤ 1000; decide) (bytesIn_below' HBh.out HB3.out) (by omega) HA hC
    clear HA
    refine hS.mono ?_
    clear hS
    rintro e w4 ⟨A4, k4, g4, kk4, rfl, _, hb4⟩
    obtain ⟨q1, q2⟩ := row_kept (b := w2.heap.size) 33 hb4 (isRow_lt p1) p1
    have HB4 := Lib.hid (stepV HB3.out hb4)
    have HS0 : EndsSt 0 ({ cl0 I with num := (cl0 I).num + 1, wt := true, rf := false, dn := 1, due := 0 + 8, rq := reqOf (cl0 I) 3 sa xs, qB := A4, qb := k4, qL := none, ql := 0 } : Cl) 1 0 := ⟨rfl, by decide, by decide, .inl ⟨rfl, rfl, rfl, rfl, by show (0 : Int) ≤ 0 + 8; decide⟩⟩
    have HS := Lib.hid HS0
    clear hb4 p1 p2 q2 HB3 hC HS0
    generalize hc1 : ({ cl0 I with num := (cl0 I).num + 1, wt := true, rf := false, dn := 1, due := 0 + 8, rq := reqOf (cl0 I) 3 sa xs, qB := A4, qb := k4, qL := none, ql := 0 } : Cl) = c1 at HS ⊢
    have f1 : c1.wt = true := by rw [← hc1]
    clear hc1
    generalize hG : (some ⟨g4, 0, none⟩ : Option Addr) = G4
    go_wp2_with fail
    generalize w2.heap.size = g at *
    have HBw := Lib.hid (below_setRow HB4.out hge2 (clA c1))
    have hgw : g < (w4.setRow g (clA c1)).heap.size := isRow_lt (by simp [go_sem, q1] : isRow (w4.setRow g (clA c1)) g 33 = true)
    obtain ⟨r1, r2⟩ : isRow (w4.setRow g (clA c1)) g 33 = true ∧ rangeOf (w4.setRow g (clA c1)) g 0 33 = clA c1 := ⟨by simp [go_sem, q1], by simp [go_sem, q1]⟩
    generalize w4.setRow g (clA c1) = w5 at *
    clear q1 HB4 f1 hG
    go_loopw [10, 11, 59] (fun x y z wr => ∃ (k : Nat) (c : Cl) (we en : Int), k ≤ 40 ∧ x = .int .i64 we ∧ y = .int .i64 en ∧ z = .int .i64 k ∧ EndsSt k c we en ∧ isRow wr g 33 = true ∧ rangeOf wr g 0 33 = clA c ∧ Below w.heap.size w wr) (fun x y z wr => 40 - (intOf z).toNat)
    case atStart => exact ⟨0, c1, 1, 0, by omega, rfl, rfl, rfl, HS.out, r1, r2, HBw.out⟩
    case round =>
      obtain ⟨k, c, we, en, hk, rfl, rfl, rfl, hE, hr1, hr2, hbw⟩ := hrel
      obtain ⟨b1, b2, b3, b4⟩ := hE.bd
      have HE := Lib.hid hE
      have HBw := Lib.hid hbw
      have hgr := isRow_lt hr1
      have hzw := hbw.size
      clear hE hbw r1 r2 HS
      by_cases hlt : k < 40
      · have hltd : decide ((k : Int) < 40) = true := by simp; omega
        by_cases hkn : k < n
        · have hknd : decide ((k : Int) < (n : Int)) = true := by simp; omega
          obtain ⟨b, o, rfl, hlb, hcell⟩ := (HMh.out.below HBw.out) (by omega)
          obtain ⟨hr3, hr4, hin⟩ := hcell k hkn
          have HIn := Lib.hid hin
          clear hcell hin
          have i0 : (0 : Int) ≤ (k : Int) := by omega
          have i1 : (k : Int) < (n : Int) := by omega
          have ld := ld13 wr b (o + k * 13) hr3
          rw [hr4] at ld
          go_wp2_with fail
          refine (longM_any (Ms k) _ _ _ _ _ HIn.out).mono ?_
          rintro e w6 ⟨bb, rfl, _, hb6⟩
          obtain ⟨s1, s2, s3, s4, _⟩ := keepE hr1 hr2 hr3 hr4 hlb hb6
          have HB6 := Lib.hid (stepV HBw.out hb6)
          have hlb6 := Nat.lt_of_lt_of_le hlb hb6.size
          clear hb6 hr1 hr2 hr3 hr4 ld
          cases bb with
          | true =>
            go_wp2_with fail
            go_ret
            exact ⟨rfl, HB6.out⟩
          | false =>
            have s1h := Lib.hid s1
            have s2h := Lib.hid s2
            have s3h := Lib.hid s3
            have s4h := Lib.hid s4
            go_wp2_with fail
            go_region_held3 (fun W => isRow W g 33 = true ∧ rangeOf W g 0 33 = clA c ∧ hasRange W b (o + k * 13) 13 = true ∧ rangeOf W b (o + k * 13) 13 = msgA (Ms k) (Bs k) (cbs k) (Ls k) (cls k) ∧ Below w6.heap.size w6 W)
              (first
                | exact keepE s1h.out s2h.out s3h.out s4h.out hlb6 (Below.refl _ _)
                | exact keepE s1h.out s2h.out s3h.out s4h.out hlb6 (Below.refl _ _).drew
                | exact keepE s1h.out s2h.out s3h.out s4h.out hlb6 (stepV (lastE (by assumption)) (by assumption))
                | exact keepE s1h.out s2h.out s3h.out s4h.out hlb6 (stepV (lastE (by assumption)) (alloc_below _ _))
                | exact keepE s1h.out s2h.out s3h.out s4h.out hlb6 (stepV (stepV (Below.refl _ _).drew hb7) (alloc_below _ _))
                | exact keepE s1h.out s2h.out s3h.out s4h.out hlb6 (((Below.refl _ _).drew).alloc (Nat.le_refl _) _)
                | exact keepE s1h.out s2h.out s3h.out s4h.out hlb6 (stepV (((Below.refl _ _).drew).alloc (Nat.le_refl _) _) hb7)
                | exact keepE s1h.out s2h.out s3h.out s4h.out hlb6 (below_setRow (stepV (((Below.refl _ _).drew).alloc (Nat.le_refl _) _) hb7) (Nat.le_refl _) _)
                | assumption
                | fail "")
              (first
                | (go_at_call 24; refine (hear_ends c (Ms k) _ _ _ _ (k : Int) we en (w6.drew.alloc _) HE.out).mono ?_; rintro e w7 ⟨c7, ov, rfl, hE7, hb7⟩; have HE7 := Lib.hid hE7; clear hE7; have hrow := (row_kept (b := w6.heap.size) 33 hb7 (by simp) (by simp [go_sem])).1)
                | (go_at_call 24; refine (hear_ends c (Ms k) _ _ _ _ (k : Int) we en _ HE.out).mono ?_; rintro e w7 ⟨c7, ov, rfl, hE7, hb7⟩; have HE7 := Lib.hid hE7; clear hE7)
                | fail "")
            · obtain ⟨t1, -, -, -, t5⟩ := keepE s1h.out s2h.out s3h.out s4h.out hlb6 (stepV (stepV (Below.refl _ _).drew hb7) (alloc_below _ (.cells (clA c7) 33)))
              obtain ⟨t2, t3⟩ : isRow (w7.alloc (.cells (clA c7) 33)) w7.heap.size 33 = true ∧ rangeOf (w7.alloc (.cells (clA c7) 33)) w7.heap.size 0 33 = clA c7 := ⟨by simp [go_sem], by simp [go_sem]⟩
              have hb67 := hb7.size
              have HB8 := Lib.hid (stepV HB6.out t5)
              have hne : g ≠ w7.heap.size := by have := isRow_lt s1; simp at hb67; omega
              generalize w7.alloc (.cells (clA c7) 33) = w8 at *
              generalize w7.heap.size = q13 at *
              clear t5 hb67 hb7 s1 s2 s3 s4 s1h s2h s3h s4h
              have r1' := t1
              have hg8 := isRow_lt t1
              have hq8 := isRow_lt t2
              obtain ⟨r1, r2⟩ : isRow (w8.setRow g (clA c7)) g 33 = true ∧ rangeOf (w8.setRow g (clA c7)) g 0 33 = clA c7 := ⟨by simp [go_sem, t1], by simp [go_sem, t1]⟩
              have HBS := Lib.hid (below_setRow HB8.out hge2 (clA c7))
              clear r1'
              cases ov with
              | true =>
                have HE8 := Lib.hid HE7.out
                simp only [if_true] at HE8
                clear HE7
                go_wp2_with fail
                refine (tick_ends c7 (k : Int) we (en + 1) _ HE8.out (by omega) (by omega)).mono ?_
                rintro e w9 ⟨c9, A9, l9, k9, ov9, rfl, hl9, hE9, hb9⟩
                obtain ⟨v1, v2⟩ := row_kept 33 hb9 (isRow_lt r1) r1
                have HB9 := Lib.hid (stepV HBS.out hb9)
                have hg9 := isRow_lt v1
                have hlu : l9 ≤ 1 := by rcases hl9 with rfl | rfl <;> omega
                clear hb9 r1 r2 v2 hl9
                cases ov9 with
                | true =>
                  have HE9 := Lib.hid hE9
                  simp only [if_true] at HE9
                  clear hE9
                  go_wp2_with fail
                  go_round
                  case rel =>
                    refine ⟨k + 1, c9, _, _, by omega, rfl, rfl, by go_num, HE9.out, ?_, ?_, ?_⟩
                    · simp [go_sem, v1, hg9]
                    · simp [go_sem, v1, hg9]
                    · exact (below_setRow HB9.out hge2 _).alloc (by simp; omega) _
                  case measure => simp [intOf]; omega
                | false =>
                  have HE9 := Lib.hid hE9
                  simp only [Bool.false_eq_true, if_false] at HE9
                  clear hE9
                  go_wp2_with fail
                  go_round
                  case rel =>
                    refine ⟨k + 1, c9, _, _, by omega, rfl, rfl, by go_num, HE9.out, ?_, ?_, ?_⟩
                    · simp [go_sem, v1, hg9]
                    · simp [go_sem, v1, hg9]
                    · exact (below_setRow HB9.out hge2 _).alloc (by simp; omega) _
                  case measure => simp [intOf]; omega
              | false =>
                have HE8 := Lib.hid HE7.out
                simp only [Bool.false_eq_true, if_false] at HE8
                clear HE7
                go_wp2_with fail
                refine (tick_ends c7 (k : Int) we en _ HE8.out (by omega) (by omega)).mono ?_
                rintro e w9 ⟨c9, A9, l9, k9, ov9, rfl, hl9, hE9, hb9⟩
                obtain ⟨v1, v2⟩ := row_kept 33 hb9 (isRow_lt r1) r1
                have HB9 := Lib.hid (stepV HBS.out hb9)
                have hg9 := isRow_lt v1
                have hlu : l9 ≤ 1 := by rcases hl9 with rfl | rfl <;> omega
                clear hb9 r1 r2 v2 hl9
                cases ov9 with
                | true =>
                  have HE9 := Lib.hid hE9
                  simp only [if_true] at HE9
                  clear hE9
                  go_wp2_with fail
                  go_round
                  case rel =>
                    refine ⟨k + 1, c9, _, _, by omega, rfl, rfl, by go_num, HE9.out, ?_, ?_, ?_⟩
                    · simp [go_sem, v1, hg9]
                    · simp [go_sem, v1, hg9]
                    · exact (below_setRow HB9.out hge2 _).alloc (by simp; omega) _
                  case measure => simp [intOf]; omega
                | false =>
                  have HE9 := Lib.hid hE9
                  simp only [Bool.false_eq_true, if_false] at HE9
                  clear hE9
                  go_wp2_with fail
                  go_round
                  case rel =>
                    refine ⟨k + 1, c9, _, _, by omega, rfl, rfl, by go_num, HE9.out, ?_, ?_, ?_⟩
                    · simp [go_sem, v1, hg9]
                    · simp [go_sem, v1, hg9]
                    · exact (below_setRow HB9.out hge2 _).alloc (by simp; omega) _
                  case measure => simp [intOf]; omega
            · obtain ⟨t1, -, -, -, t5⟩ := keepE s1h.out s2h.out s3h.out s4h.out hlb6 (below_setRow (stepV (((Below.refl _ _).drew).alloc (Nat.le_refl _) _) hb7) (Nat.le_refl _) (clA c7))
              obtain ⟨t2, t3⟩ : isRow (w7.setRow w6.heap.size (clA c7)) w6.heap.size 33 = true ∧ rangeOf (w7.setRow w6.heap.size (clA c7)) w6.heap.size 0 33 = clA c7 := ⟨by simp [go_sem, hrow], by simp [go_sem, hrow]⟩
              have HB8 := Lib.hid (stepV HB6.out t5)
              have hne : g ≠ w6.heap.size := by have := isRow_lt s1; omega
              generalize w7.setRow w6.heap.size (clA c7) = w8 at *
              generalize w6.heap.size = q13 at *
              clear t5 hb7 hrow s1 s2 s3 s4 s1h s2h s3h s4h
              have r1' := t1
              have hg8 := isRow_lt t1
              have hq8 := isRow_lt t2
              obtain ⟨r1, r2⟩ : isRow (w8.setRow g (clA c7)) g 33 = true ∧ rangeOf (w8.setRow g (clA c7)) g 0 33 = clA c7 := ⟨by simp [go_sem, t1], by simp [go_sem, t1]⟩
              have HBS := Lib.hid (below_setRow HB8.out hge2 (clA c7))
              clear r1'
              cases ov with
              | true =>
                have HE8 := Lib.hid HE7.out
                simp only [if_true] at HE8
                clear HE7
                go_wp2_with fail
                refine (tick_ends c7 (k : Int) we (en + 1) _ HE8.out (by omega) (by omega)).mono ?_
                rintro e w9 ⟨c9, A9, l9, k9, ov9, rfl, hl9, hE9, hb9⟩
                obtain ⟨v1, v2⟩ := row_kept 33 hb9 (isRow_lt r1) r1
                have HB9 := Lib.hid (stepV HBS.out hb9)
                have hg9 := isRow_lt v1
                have hlu : l9 ≤ 1 := by rcases hl9 with rfl | rfl <;> omega
                clear hb9 r1 r2 v2 hl9
                cases ov9 with
                | true =>
                  have HE9 := Lib.hid hE9
                  simp only [if_true] at HE9
                  clear hE9
                  go_wp2_with fail
                  go_round
                  case rel =>
                    refine ⟨k + 1, c9, _, _, by omega, rfl, rfl, by go_num, HE9.out, ?_, ?_, ?_⟩
                    · simp [go_sem, v1, hg9]
                    · simp [go_sem, v1, hg9]
                    · exact (below_setRow HB9.out hge2 _).alloc (by simp; omega) _
                  case measure => simp [intOf]; omega
                | false =>
                  have HE9 := Lib.hid hE9
                  simp only [Bool.false_eq_true, if_false] at HE9
                  clear hE9
                  go_wp2_with fail
                  go_round
                  case rel =>
                    refine ⟨k + 1, c9, _, _, by omega, rfl, rfl, by go_num, HE9.out, ?_, ?_, ?_⟩
                    · simp [go_sem, v1, hg9]
                    · simp [go_sem, v1, hg9]
                    · exact (below_setRow HB9.out hge2 _).alloc (by simp; omega) _
                  case measure => simp [intOf]; omega
              | false =>
                have HE8 := Lib.hid HE7.out
                simp only [Bool.false_eq_true, if_false] at HE8
                clear HE7
                go_wp2_with fail
                refine (tick_ends c7 (k : Int) we en _ HE8.out (by omega) (by omega)).mono ?_
                rintro e w9 ⟨c9, A9, l9, k9, ov9, rfl, hl9, hE9, hb9⟩
                obtain ⟨v1, v2⟩ := row_kept 33 hb9 (isRow_lt r1) r1
                have HB9 := Lib.hid (stepV HBS.out hb9)
                have hg9 := isRow_lt v1
                have hlu : l9 ≤ 1 := by rcases hl9 with rfl | rfl <;> omega
                clear hb9 r1 r2 v2 hl9
                cases ov9 with
                | true =>
                  have HE9 := Lib.hid hE9
                  simp only [if_true] at HE9
                  clear hE9
                  go_wp2_with fail
                  go_round
                  case rel =>
                    refine ⟨k + 1, c9, _, _, by omega, rfl, rfl, by go_num, HE9.out, ?_, ?_, ?_⟩
                    · simp [go_sem, v1, hg9]
                    · simp [go_sem, v1, hg9]
                    · exact (below_setRow HB9.out hge2 _).alloc (by simp; omega) _
                  case measure => simp [intOf]; omega
                | false =>
                  have HE9 := Lib.hid hE9
                  simp only [Bool.false_eq_true, if_false] at HE9
                  clear hE9
                  go_wp2_with fail
                  go_round
                  case rel =>
                    refine ⟨k + 1, c9, _, _, by omega, rfl, rfl, by go_num, HE9.out, ?_, ?_, ?_⟩
                    · simp [go_sem, v1, hg9]
                    · simp [go_sem, v1, hg9]
                    · exact (below_setRow HB9.out hge2 _).alloc (by simp; omega) _
                  case measure => simp [intOf]; omega
        · have hknd : decide ((k : Int) < (n : Int)) = false := by simp; omega
          have r1 := hr1
          have r2 := hr2
          clear hr1
          go_wp2_with fail
          refine (tick_ends c (k : Int) we en _ HE.out (by omega) (by omega)).mono ?_
          rintro e w9 ⟨c9, A9, l9, k9, ov9, rfl, hl9, hE9, hb9⟩
          obtain ⟨v1, v2⟩ := row_kept 33 hb9 (isRow_lt r1) r1
          have HB9 := Lib.hid (stepV HBw.out hb9)
          have hg9 := isRow_lt v1
          have hlu : l9 ≤ 1 := by rcases hl9 with rfl | rfl <;> omega
          clear hb9 r1 r2 v2 hl9
          cases ov9 with
          | true =>
            have HE9 := Lib.hid hE9
            simp only [if_true] at HE9
            clear hE9
            go_wp2_with fail
            go_round
            case rel =>
              refine ⟨k + 1, c9, _, _, by omega, rfl, rfl, by go_num, HE9.out, ?_, ?_, ?_⟩
              · simp [go_sem, v1, hg9]
              · simp [go_sem, v1, hg9]
              · exact (below_setRow HB9.out hge2 _).alloc (by simp; omega) _
            case measure => simp [intOf]; omega
          | false =>
            have HE9 := Lib.hid hE9
            simp only [Bool.false_eq_true, if_false] at HE9
            clear hE9
            go_wp2_with fail
            go_round
            case rel =>
              refine ⟨k + 1, c9, _, _, by omega, rfl, rfl, by go_num, HE9.out, ?_, ?_, ?_⟩
              · simp [go_sem, v1, hg9]
              · simp [go_sem, v1, hg9]
              · exact (below_setRow HB9.out hge2 _).alloc (by simp; omega) _
            case measure => simp [intOf]; omega
      · obtain rfl : k = 40 := by omega
        obtain ⟨f1, rfl, f3, f4⟩ := HE.out.last
        go_wp2_with fail
        go_ret
        exact ⟨rfl, HBw.out⟩
  · have hS := start_large (cl0 I) 3 sa A cap xs 0 a _ (HVh.out.below HB3.out) rfl (by decide) (by decide) (by decide) (by decide) (by decide) (Int.le_refl 0) (by show (0 : Int) ≤ 1000; decide) (bytesIn_below' HBh.out HB3.out) (by omega) HA hC
    clear HA
    refine hS.mono ?_
    clear hS
    rintro e w4 ⟨A4, k4, rfl, hb4⟩
    obtain ⟨q1, q2⟩ := row_kept (b := w2.heap.size) 33 hb4 (isRow_lt p1) p1
    have HB4 := Lib.hid (stepV HB3.out hb4)
    clear hb4 p1 p2 q2 HB3 hC
    generalize hc1 : ({ cl0 I with num := (cl0 I).num + 1, wt := false, rf := false, dn := 0, ans := 6, rq := reqOf (cl0 I) 3 sa xs, qB := A4, qb := k4, qL := none, ql := 0, rp := msg0, pB := none, pb := 0, pL := none, pl := 0 } : Cl) = c1
    have f1 : c1.wt = false := by rw [← hc1]
    have f2 : c1.ans = 6 := by rw [← hc1]
    clear hc1
    go_wp2_with fail
    go_ret
    exact ⟨rfl, below_setRow HB4.out (by omega) _⟩
end Go.Proofs.YtbapkamopelgpaaDoor
