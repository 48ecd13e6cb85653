/- OctetsTake: the walk. -/
import Derived.Test.YtmmiimcodbjnmaaDoorTkC
import Derived.Test.YtmmiimcodbjnmaaDoorOcAl
import Derived.Test.YtmmiimcodbjnmaaDoorRfD
namespace Go.Proofs.YtmmiimcodbjnmaaDoor
open Go.RowKit Go.Stop Go.Extern Go.Ranges Go.Rows2
set_option linter.unusedVariables false
set_option linter.unusedSimpArgs false
set_option maxRecDepth 100000
theorem enter_third (args : Array Value) (w : World) : (callFunc 27 args).run Tryd.prog w = .ok (.enter 27 args) w := by kernel_rfl
theorem enter_broken (args : Array Value) (w : World) : (callFunc 30 args).run Tryd.prog w = .ok (.enter 30 args) w := by kernel_rfl
theorem enter_strange (args : Array Value) (w : World) : (callFunc 31 args).run Tryd.prog w = .ok (.enter 31 args) w := by kernel_rfl
theorem err3_of {w : World} {a : Nat → Addr} (h : Errs w a) : Err3 w a := ⟨h.c 1 (by decide) (by decide), h.c 2 (by decide) (by decide), h.c 7 (by decide) (by decide)⟩
theorem take_third (A : Option Addr) (c : Nat) (xs : List Int) (a : Nat → Addr) (w : World) (hB : Lib.BytesIn w A xs.length xs) (hA : A = none → xs.length = 0) (hb : BytesOk xs) (hL : xs.length ≤ 1000000) (hE : Errs w a) :
    Calls Tryd.prog 26 #[.slice A xs.length c, .func (.func 27) #[] #[]] w (TakeI w a (rdErr tkS.data.toList xs 3) (tkV xs + ((rdLeft tkS.data.toList xs 3).length : Int)) (rdLeft tkS.data.toList xs 3)) :=
  takeI_any 27 _ enter_third _ _ A c xs a w hB hA hL hE fun I T W h he => third_any I T xs a W h hb (err3_of he) hL
theorem take_broken (A : Option Addr) (c : Nat) (xs : List Int) (a : Nat → Addr) (w : World) (hB : Lib.BytesIn w A xs.length xs) (hA : A = none → xs.length = 0) (hb : BytesOk xs) (hL : xs.length ≤ 1000000) (hE : Errs w a) :
    Calls Tryd.prog 26 #[.slice A xs.length c, .func (.func 30) #[] #[]] w fun e w' => e = .returned (.tuple #[.int .i64 0, errV a (if xs.length = 0 then 2 else 19)]) ∧ Below w.heap.size w w' := by
  have h := takeI_any 30 _ enter_broken _ _ A c xs a w hB hA hL hE fun I T W h he => broken_any I T xs a W h hb he
  have hc : tkC (if xs.length = 0 then 2 else 19) [] = (if xs.length = 0 then 2 else 19) := by
    unfold tkC
    split <;> rfl
  have hn : ¬ (if xs.length = 0 then 2 else 19) = 0 := by split <;> decide
  unfold TakeI at h
  rw [hc, if_neg hn] at h
  exact h
theorem take_strange (A : Option Addr) (c : Nat) (xs : List Int) (a : Nat → Addr) (w : World) (hB : Lib.BytesIn w A xs.length xs) (hA : A = none → xs.length = 0) (hL : xs.length ≤ 1000000) (hE : Errs w a) :
    Calls Tryd.prog 26 #[.slice A xs.length c, .func (.func 31) #[] #[]] w fun e w' => e = .returned (.tuple #[.int .i64 0, errV a 7]) ∧ Below w.heap.size w w' :=
  takeI_any 31 _ enter_strange _ _ A c xs a w hB hA hL hE fun I T W h he => strange_any I T xs a W (he.c 7 (by decide) (by decide))
theorem rdC_le (c : UInt8) (xs : List Int) : rdC c xs ≤ 7 := by
  unfold rdC
  split
  · split <;> omega
  · split
    · split
      · omega
      · split <;> omega
    · split
      · omega
      · split
        · omega
        · split <;> omega
theorem rdErr_le (s : List UInt8) (xs : List Int) (k : Nat) : rdErr s xs k ≤ 7 := by
  induction k with
  | zero => exact Nat.zero_le _
  | succ k ih =>
    show (if rdErr s xs k ≠ 0 then rdErr s xs k else rdC (s.getD k 0) (rdLeft s xs k)) ≤ 7
    split
    · exact ih
    · exact rdC_le _ _
theorem rdFB_two {s : List UInt8} {xs : List Int} : True := trivial
theorem rdB_byte {c : UInt8} {xs : List Int} (hb : BytesOk xs) : BytesOk (rdB c xs) := by
  unfold rdB
  split
  · exact hb.take _
  · split
    · exact (hb.drop _).take _
    · exact fun y hy => absurd hy (by simp)
theorem rdFB_byte {s : List UInt8} {xs : List Int} (hb : BytesOk xs) (i : Nat) : 0 ≤ (rdFB s xs i).getD 0 0 ∧ (rdFB s xs i).getD 0 0 < 256 := (rdB_byte (rdLeft_ok hb i)).getD 0
/-- What was read by the three letters is not large. -/
theorem tk_bounds {xs : List Int} (hL : xs.length ≤ 1000000) (hb : BytesOk xs) (h : rdErr tkS.data.toList xs 3 = 0) :
    (0 ≤ rdFN tkS.data.toList xs 0 ∧ rdFN tkS.data.toList xs 0 < 256) ∧ (rdFB tkS.data.toList xs 1).length ≤ 1000000 ∧ (rdFB tkS.data.toList xs 2).length = 32 := by
  have c1 : rdC 98 xs = 0 := by
    have := rdErr_zero h 1 (by decide)
    rwa [tkE1] at this
  have c2 : rdC 116 (xs.drop (rdLen 98 xs)) = 0 := by
    have := rdErr_zero h 2 (by decide)
    rwa [tkE2 xs c1] at this
  rw [tkE3 xs c1 c2] at h
  refine ⟨rdN_byte hb c1, ?_, ?_⟩
  · have h2 : (rdB 116 (xs.drop (rdLen 98 xs))).length ≤ 1000000 := by
      have := rdB_len 116 (xs.drop (rdLen 98 xs))
      rw [List.length_drop] at this
      omega
    exact h2
  · unfold rdC at h
    rw [if_pos rfl] at h
    have h3 : ¬ ((xs.drop (rdLen 98 xs)).drop (rdLen 116 (xs.drop (rdLen 98 xs)))).length < 32 := fun h4 => by
      rw [if_pos h4] at h; cases h
    show (((xs.drop (rdLen 98 xs)).drop (rdLen 116 (xs.drop (rdLen 98 xs)))).take 32).length = 32
    rw [List.length_take]
    omega
set_option maxHeartbeats 8000000 in
theorem octetsTake_walk (A : Option Addr) (c : Nat) (xs : List Int) (a : Nat → Addr) (w : World) (HE : Errs w a) (hB : Lib.BytesIn w A xs.length xs) (hb : BytesOk xs) (hc : xs.length ≤ c) (hcm : c ≤ maxLen) :
    Calls Tryd.prog 7 #[.slice A xs.length c] w fun e w' => e = .returned (.bool true) ∧ Below w.heap.size w w' := by
  have K := Lib.hid (alive02 a w (HE.c 1 (by decide) (by decide)))
  have hA : A = none → xs.length = 0 := fun e => by
    by_cases h0 : xs.length = 0
    · exact h0
    · obtain ⟨b, o, e2, _⟩ := hB (by omega)
      rw [e] at e2
      cases e2
  have HEh := Lib.hid HE
  have HBh := Lib.hid hB
  have HAh := Lib.hid hA
  have HOh := Lib.hid hb
  have HC := Lib.hid hc
  have HCM := Lib.hid hcm
  clear HE hB hA hb hc hcm
  go_enter Tryd.func7, Tryd.ntmps7
  go_wp2_with fail
  refine K.out.mono ?_
  rintro e w1 ⟨rfl, hb1⟩
  have HB1 := Lib.hid hb1
  clear hb1 K
  by_cases h1 : 1000 < xs.length
  · have hd : decide ((1000 : Int) < (xs.length : Int)) = true := by simp; omega
    go_wp2_with fail
    go_ret
    exact ⟨rfl, HB1.out⟩
  have hd : decide ((1000 : Int) < (xs.length : Int)) = false := by simp; omega
  have hL : xs.length ≤ 1000000 := by omega
  have KB := Lib.hid fun (W : World) (h : Below w.heap.size w W) => take_broken A c xs a W (bytesIn_below' HBh.out h) HAh.out HOh.out hL (HEh.out.below h)
  have KS := Lib.hid fun (W : World) (h : Below w.heap.size w W) => take_strange A c xs a W (bytesIn_below' HBh.out h) HAh.out hL (HEh.out.below h)
  have KN := Lib.hid fun (n : Nat) (hn : n ≤ 22) (W : World) (h : Below w.heap.size w W) => num_any a n hn W (HEh.out.below h)
  have KT := Lib.hid (take_third A c xs a w1 (bytesIn_below' HBh.out HB1.out) HAh.out HOh.out hL (HEh.out.below HB1.out))
  have KR := Lib.hid fun (W : World) (h : Below w.heap.size w W) => (show Calls Tryd.prog 28 #[.string tkS, .slice A xs.length c] W (Rest2End W 3 tkS.data.toList xs) from rest02_any A c tkS xs W (bytesIn_below' HBh.out h) HC.out HCM.out HOh.out (by decide) (by decide))
  have hle := rdErr_le tkS.data.toList xs 3
  go_wp2_with fail
  refine KT.out.mono ?_
  rintro e w2 ⟨rfl, hb2⟩
  have HB2 := Lib.hid (stepV HB1.out hb2)
  have KR2 := Lib.hid (KR.out w2 HB2.out)
  clear hb2 KT KR
  by_cases hr : rdErr tkS.data.toList xs 3 = 0
  · have hkc : tkC (rdErr tkS.data.toList xs 3) (rdLeft tkS.data.toList xs 3) = if (rdLeft tkS.data.toList xs 3).length = 0 then 0 else 3 := by
      unfold tkC
      rw [if_neg (fun h => h hr)]
    have HR := Lib.hid hr
    rw [hkc]
    have hv2 := rdFB_two (s := tkS.data.toList) (xs := xs)
    have hbd := tk_bounds hL HOh.out hr
    have htv : tkV xs = rdFN tkS.data.toList xs 0 + ((rdFB tkS.data.toList xs 1).length : Int) + (rdFB tkS.data.toList xs 2).getD 0 0 := rfl
    generalize hlf : rdLeft tkS.data.toList xs 3 = left at *
    have HLF := Lib.hid hlf
    clear hr hkc hlf hle
    by_cases hl : left.length = 0
    · have hd3 : decide ((0 : Int) < (left.length : Int)) = false := by rw [hl]; rfl
      have hd4 : decide (0 < left.length) = false := by rw [hl]; rfl
      have hd5 : ¬ 0 < left.length := by omega
      have hz : tkV xs + (left.length : Int) = tkV xs := by rw [hl]; omega
      obtain ⟨y, hy⟩ : ∃ y, y = tkV xs := ⟨_, rfl⟩
      rw [if_pos hl, if_pos rfl, hz, ← hy]
      have HY := Lib.hid (hy.trans htv)
      clear hy htv
      have HZL := Lib.hid hl
      clear hl hz
      go_wp2_with fail
      refine KR2.out.mono ?_
      rintro e w3 ⟨hok, _⟩
      obtain ⟨v, vs, B, cb, rfl, hG, hB3, hb3⟩ := hok HR.out
      obtain ⟨A3, c3, hv⟩ := own_slice hG.own
      subst hv
      rw [HLF.out]
      have HBZ := Lib.hid (stepV HB2.out hb3)
      obtain ⟨b, o, rfl, hlt, hcl⟩ := hG.fields (by decide)
      obtain ⟨D0, d0, g0, _, _⟩ := hcl 0 (by decide)
      obtain ⟨D1, d1, _, g1, _⟩ := hcl 1 (by decide)
      obtain ⟨D2, d2, _, g2, p2⟩ := hcl 2 (by decide)
      obtain ⟨b2, o2, rfl, hc2⟩ := p2 (by have := hbd.2.2; omega)
      have g3 := hc2 0 (by have := hbd.2.2; omega)
      obtain ⟨hn0, hn1, hn2⟩ := hbd
      have hby := rdFB_byte (s := tkS.data.toList) HOh.out 2
      rw [hn2] at g2
      generalize rdFN tkS.data.toList xs 0 = n0 at *
      generalize (rdFB tkS.data.toList xs 2).getD 0 0 = z at *
      generalize (rdFB tkS.data.toList xs 1).length = m1 at *
      have z1 : IntKind.i64.wrap (n0 + (m1 : Int)) = n0 + (m1 : Int) := by rw [IntKind.wrap_i64]; omega
      have z2 : IntKind.i64.wrap z = z := by rw [IntKind.wrap_i64]; omega
      have z3 : IntKind.i64.wrap (n0 + (m1 : Int) + z) = n0 + (m1 : Int) + z := by rw [IntKind.wrap_i64]; omega
      obtain rfl := HY.out
      simp only [Nat.zero_mul, Nat.one_mul, Nat.add_zero] at g0 g1 g2 g3
      have hsame : (n0 + (m1 : Int) + z != n0 + (m1 : Int) + z) = false := by simp
      clear hok hG hB3 hb3 hcl hc2 p2 hv2 KR2 hby hn0 hn1 hn2
      go_wp2_with fail
      go_quiet (fail)
      go_wp2_with fail
      refine (KN.out 0 (by decide) _ (stepV HBZ.out (below_drewN _ _))).mono ?_
      rintro e w4 ⟨rfl, hb4⟩
      have HBZ := Lib.hid (stepV (stepV HBZ.out (below_drewN _ _)) hb4)
      clear hb4
      go_wp2_with fail
      have hbr := (KB.out _ HBZ.out)
      by_cases h0 : xs.length = 0
      · have q1 : ((xs.length : Int) == 0) = true := by rw [h0]; rfl
        have q2 : decide ((0 : Int) < (xs.length : Int)) = false := by rw [h0]; rfl
        have q3 : decide (0 < xs.length) = false := by rw [h0]; rfl
        have q4 : ¬ 0 < xs.length := by omega
        rw [if_pos h0] at hbr
        have HBR := Lib.hid hbr
        clear hbr h0
        go_wp2_with fail
        refine HBR.out.mono ?_
        rintro e u1 ⟨rfl, hv1⟩
        have HV1 := Lib.hid (stepV HBZ.out hv1)
        clear hv1
        go_wp2_with fail
        refine (KN.out 2 (by decide) _ HV1.out).mono ?_
        rintro e u2 ⟨rfl, hv2⟩
        have HV2 := Lib.hid (stepV HV1.out hv2)
        clear hv2
        go_wp2_with fail
        refine (KS.out _ HV2.out).mono ?_
        rintro e u3 ⟨rfl, hv3⟩
        have HV3 := Lib.hid (stepV HV2.out hv3)
        clear hv3
        go_wp2_with fail
        refine (KN.out 7 (by decide) _ HV3.out).mono ?_
        rintro e u4 ⟨rfl, hv4⟩
        have HV4 := Lib.hid (stepV HV3.out hv4)
        clear hv4
        go_wp2_with fail
        go_ret
        exact ⟨rfl, HV4.out⟩
      · have q1 : ((xs.length : Int) == 0) = false := by rw [beq_eq_false_iff_ne]; omega
        have q2 : decide ((0 : Int) < (xs.length : Int)) = true := by rw [decide_eq_true_eq]; omega
        have q3 : decide (0 < xs.length) = true := by rw [decide_eq_true_eq]; omega
        have q4 : 0 < xs.length := by omega
        rw [if_neg h0] at hbr
        have HBR := Lib.hid hbr
        clear hbr h0
        go_wp2_with fail
        refine HBR.out.mono ?_
        rintro e u1 ⟨rfl, hv1⟩
        have HV1 := Lib.hid (stepV HBZ.out hv1)
        clear hv1
        go_wp2_with fail
        refine (KN.out 19 (by decide) _ HV1.out).mono ?_
        rintro e u2 ⟨rfl, hv2⟩
        have HV2 := Lib.hid (stepV HV1.out hv2)
        clear hv2
        go_wp2_with fail
        refine (KS.out _ HV2.out).mono ?_
        rintro e u3 ⟨rfl, hv3⟩
        have HV3 := Lib.hid (stepV HV2.out hv3)
        clear hv3
        go_wp2_with fail
        refine (KN.out 7 (by decide) _ HV3.out).mono ?_
        rintro e u4 ⟨rfl, hv4⟩
        have HV4 := Lib.hid (stepV HV3.out hv4)
        clear hv4
        go_wp2_with fail
        go_ret
        exact ⟨rfl, HV4.out⟩
    · have hd3 : decide ((0 : Int) < (left.length : Int)) = true := by simp; omega
      have hd4 : decide (0 < left.length) = true := by simp; omega
      have hd5 : 0 < left.length := by omega
      rw [if_neg hl, if_neg (by decide)]
      clear hl
      go_wp2_with fail
      refine KR2.out.mono ?_
      rintro e w3 ⟨hok, _⟩
      obtain ⟨v, vs, B, cb, rfl, hG, hB3, hb3⟩ := hok HR.out
      obtain ⟨A3, c3, hv⟩ := own_slice hG.own
      subst hv
      rw [HLF.out]
      have HBY := Lib.hid (stepV HB2.out hb3)
      clear hok hG hB3 hb3 KR2
      go_wp2_with fail
      refine (KN.out 3 (by decide) _ HBY.out).mono ?_
      rintro e w4 ⟨rfl, hb4⟩
      have HBZ := Lib.hid (stepV HBY.out hb4)
      clear hb4
      go_wp2_with fail
      have hbr := (KB.out _ HBZ.out)
      by_cases h0 : xs.length = 0
      · have q1 : ((xs.length : Int) == 0) = true := by rw [h0]; rfl
        have q2 : decide ((0 : Int) < (xs.length : Int)) = false := by rw [h0]; rfl
        have q3 : decide (0 < xs.length) = false := by rw [h0]; rfl
        have q4 : ¬ 0 < xs.length := by omega
        rw [if_pos h0] at hbr
        have HBR := Lib.hid hbr
        clear hbr h0
        go_wp2_with fail
        refine HBR.out.mono ?_
        rintro e u1 ⟨rfl, hv1⟩
        have HV1 := Lib.hid (stepV HBZ.out hv1)
        clear hv1
        go_wp2_with fail
        refine (KN.out 2 (by decide) _ HV1.out).mono ?_
        rintro e u2 ⟨rfl, hv2⟩
        have HV2 := Lib.hid (stepV HV1.out hv2)
        clear hv2
        go_wp2_with fail
        refine (KS.out _ HV2.out).mono ?_
        rintro e u3 ⟨rfl, hv3⟩
        have HV3 := Lib.hid (stepV HV2.out hv3)
        clear hv3
        go_wp2_with fail
        refine (KN.out 7 (by decide) _ HV3.out).mono ?_
        rintro e u4 ⟨rfl, hv4⟩
        have HV4 := Lib.hid (stepV HV3.out hv4)
        clear hv4
        go_wp2_with fail
        go_ret
        exact ⟨rfl, HV4.out⟩
      · have q1 : ((xs.length : Int) == 0) = false := by rw [beq_eq_false_iff_ne]; omega
        have q2 : decide ((0 : Int) < (xs.length : Int)) = true := by rw [decide_eq_true_eq]; omega
        have q3 : decide (0 < xs.length) = true := by rw [decide_eq_true_eq]; omega
        have q4 : 0 < xs.length := by omega
        rw [if_neg h0] at hbr
        have HBR := Lib.hid hbr
        clear hbr h0
        go_wp2_with fail
        refine HBR.out.mono ?_
        rintro e u1 ⟨rfl, hv1⟩
        have HV1 := Lib.hid (stepV HBZ.out hv1)
        clear hv1
        go_wp2_with fail
        refine (KN.out 19 (by decide) _ HV1.out).mono ?_
        rintro e u2 ⟨rfl, hv2⟩
        have HV2 := Lib.hid (stepV HV1.out hv2)
        clear hv2
        go_wp2_with fail
        refine (KS.out _ HV2.out).mono ?_
        rintro e u3 ⟨rfl, hv3⟩
        have HV3 := Lib.hid (stepV HV2.out hv3)
        clear hv3
        go_wp2_with fail
        refine (KN.out 7 (by decide) _ HV3.out).mono ?_
        rintro e u4 ⟨rfl, hv4⟩
        have HV4 := Lib.hid (stepV HV3.out hv4)
        clear hv4
        go_wp2_with fail
        go_ret
        exact ⟨rfl, HV4.out⟩
  · have hkc : tkC (rdErr tkS.data.toList xs 3) (rdLeft tkS.data.toList xs 3) = rdErr tkS.data.toList xs 3 := by
      unfold tkC
      rw [if_pos hr]
    rw [hkc, if_neg hr]
    have HR := Lib.hid hr
    clear hkc
    go_wp2_with fail
    refine KR2.out.mono ?_
    rintro e w3 ⟨_, hno⟩
    obtain ⟨rfl, hb3⟩ := hno HR.out
    have HBY := Lib.hid (stepV HB2.out hb3)
    generalize rdErr tkS.data.toList xs 3 = n at *
    have hn0 : ((n : Int) == 0) = false := by simp; omega
    have hnn : ((n : Int) != (n : Int)) = false := by simp
    clear hno hb3 KR2 hr
    go_wp2_with fail
    refine (KN.out n (by omega) _ HBY.out).mono ?_
    rintro e w4 ⟨rfl, hb4⟩
    have HBZ := Lib.hid (stepV HBY.out hb4)
    clear hb4
    go_wp2_with fail
    have hbr := (KB.out _ HBZ.out)
    by_cases h0 : xs.length = 0
    · have q1 : ((xs.length : Int) == 0) = true := by rw [h0]; rfl
      have q2 : decide ((0 : Int) < (xs.length : Int)) = false := by rw [h0]; rfl
      have q3 : decide (0 < xs.length) = false := by rw [h0]; rfl
      have q4 : ¬ 0 < xs.length := by omega
      rw [if_pos h0] at hbr
      have HBR := Lib.hid hbr
      clear hbr h0
      go_wp2_with fail
      refine HBR.out.mono ?_
      rintro e u1 ⟨rfl, hv1⟩
      have HV1 := Lib.hid (stepV HBZ.out hv1)
      clear hv1
      go_wp2_with fail
      refine (KN.out 2 (by decide) _ HV1.out).mono ?_
      rintro e u2 ⟨rfl, hv2⟩
      have HV2 := Lib.hid (stepV HV1.out hv2)
      clear hv2
      go_wp2_with fail
      refine (KS.out _ HV2.out).mono ?_
      rintro e u3 ⟨rfl, hv3⟩
      have HV3 := Lib.hid (stepV HV2.out hv3)
      clear hv3
      go_wp2_with fail
      refine (KN.out 7 (by decide) _ HV3.out).mono ?_
      rintro e u4 ⟨rfl, hv4⟩
      have HV4 := Lib.hid (stepV HV3.out hv4)
      clear hv4
      go_wp2_with fail
      go_ret
      exact ⟨rfl, HV4.out⟩
    · have q1 : ((xs.length : Int) == 0) = false := by rw [beq_eq_false_iff_ne]; omega
      have q2 : decide ((0 : Int) < (xs.length : Int)) = true := by rw [decide_eq_true_eq]; omega
      have q3 : decide (0 < xs.length) = true := by rw [decide_eq_true_eq]; omega
      have q4 : 0 < xs.length := by omega
      rw [if_neg h0] at hbr
      have HBR := Lib.hid hbr
      clear hbr h0
      go_wp2_with fail
      refine HBR.out.mono ?_
      rintro e u1 ⟨rfl, hv1⟩
      have HV1 := Lib.hid (stepV HBZ.out hv1)
      clear hv1
      go_wp2_with fail
      refine (KN.out 19 (by decide) _ HV1.out).mono ?_
      rintro e u2 ⟨rfl, hv2⟩
      have HV2 := Lib.hid (stepV HV1.out hv2)
      clear hv2
      go_wp2_with fail
      refine (KS.out _ HV2.out).mono ?_
      rintro e u3 ⟨rfl, hv3⟩
      have HV3 := Lib.hid (stepV HV2.out hv3)
      clear hv3
      go_wp2_with fail
      refine (KN.out 7 (by decide) _ HV3.out).mono ?_
      rintro e u4 ⟨rfl, hv4⟩
      have HV4 := Lib.hid (stepV HV3.out hv4)
      clear hv4
      go_wp2_with fail
      go_ret
      exact ⟨rfl, HV4.out⟩
end Go.Proofs.YtmmiimcodbjnmaaDoor
