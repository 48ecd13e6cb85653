/- octets, reading a number, a text and an object's id by a function. -/
import Derived.Test.YtmmiimcodbjnmaaDoorTkA
namespace Go.Proofs.YtmmiimcodbjnmaaDoor
open Go.RowKit Go.Stop Go.Extern Go.Ranges Go.Rows2
set_option linter.unusedVariables false
set_option linter.unusedSimpArgs false
set_option maxRecDepth 100000
theorem tkE1 (xs : List Int) : rdErr tkS.data.toList xs 1 = rdC 98 xs := by
  show (if (0 : Nat) ≠ 0 then 0 else rdC 98 xs) = _
  rw [if_neg (fun h => h rfl)]
theorem tkE2 (xs : List Int) (h : rdC 98 xs = 0) : rdErr tkS.data.toList xs 2 = rdC 116 (xs.drop (rdLen 98 xs)) := by
  show (if rdErr tkS.data.toList xs 1 ≠ 0 then rdErr tkS.data.toList xs 1 else rdC 116 (xs.drop (rdLen 98 xs))) = _
  rw [tkE1, h, if_neg (fun h => h rfl)]
theorem tkE3 (xs : List Int) (h : rdC 98 xs = 0) (h2 : rdC 116 (xs.drop (rdLen 98 xs)) = 0) : rdErr tkS.data.toList xs 3 = rdC 111 ((xs.drop (rdLen 98 xs)).drop (rdLen 116 (xs.drop (rdLen 98 xs)))) := by
  show (if rdErr tkS.data.toList xs 2 ≠ 0 then rdErr tkS.data.toList xs 2 else rdC 111 ((xs.drop (rdLen 98 xs)).drop (rdLen 116 (xs.drop (rdLen 98 xs))))) = _
  rw [tkE2 xs h, h2, if_neg (fun h => h rfl)]
theorem rdB_len (c : UInt8) (xs : List Int) : (rdB c xs).length ≤ xs.length := by
  unfold rdB
  split
  · rw [List.length_take]; omega
  · split
    · rw [List.length_take, List.length_drop]; omega
    · exact Nat.zero_le _
theorem rdN_byte {xs : List Int} (hb : BytesOk xs) (h : rdC 98 xs = 0) : 0 ≤ rdN 98 xs ∧ rdN 98 xs < 256 := by
  have hbd := rdBE_bd (xs.take 1) (hb.take _)
  have : (xs.take 1).length ≤ 1 := by rw [List.length_take]; omega
  have h2 : (256 : Int) ^ (xs.take 1).length ≤ 256 := by
    have : (xs.take 1).length = 0 ∨ (xs.take 1).length = 1 := by omega
    rcases this with e | e <;> rw [e] <;> decide
  show 0 ≤ rdBE (xs.take 1) ∧ rdBE (xs.take 1) < 256
  omega
theorem ix25 (w : World) (D : Array Value) (i : Nat) (x : Int) (hi : i < 32) (h : D[i]? = some (.int .u8 x)) : (Instr.index 103 (.agg D) (.int .i64 i)).run Tryd.prog w = .ok (.int .u8 x) w := by
  have h2 : (i : Int) < 32 := by omega
  have hz := size_u8 w
  simp [Instr.index, go_sem, Tryd.underlying103, h2, hz, h]
  intro h3
  omega
set_option maxHeartbeats 4000000 in
theorem third_any (I T : Nat) (xs : List Int) (a : Nat → Addr) (w : World) (h : InAt w I T xs) (hb : BytesOk xs) (hE : Err3 w a) (hL : xs.length ≤ 1000000) :
    Calls Tryd.prog 27 #[.pointer (some ⟨I, 0, none⟩)] w (IntEnd w a I T (rdErr tkS.data.toList xs 3) (tkV xs + ((rdLeft tkS.data.toList xs 3).length : Int)) (rdLeft tkS.data.toList xs 3)) := by
  by_cases c1 : rdC 98 xs = 0
  · have K1 := Lib.hid (numR 98 I T xs w (by decide) h hb c1)
    have hn1 := rdN_byte hb c1
    obtain ⟨x1, hx1⟩ : ∃ x1, x1 = xs.drop (rdLen 98 xs) := ⟨_, rfl⟩
    have hb1 : BytesOk x1 := by rw [hx1]; exact hb.drop _
    have hl1 : x1.length ≤ xs.length := by rw [hx1, List.length_drop]; omega
    rw [← hx1] at K1
    by_cases c2 : rdC 116 x1 = 0
    · obtain ⟨x2, hx2⟩ : ∃ x2, x2 = x1.drop (rdLen 116 x1) := ⟨_, rfl⟩
      have hb2 : BytesOk x2 := by rw [hx2]; exact hb1.drop _
      have hl2 : x2.length ≤ x1.length := by rw [hx2, List.length_drop]; omega
      have K2 := Lib.hid fun (W : World) (h : InAt W I T x1) => textR I T x1 W h hb1 c2
      rw [← hx2] at K2
      have hB2 := rdB_len 116 x1
      have hcode : rdErr tkS.data.toList xs 3 = rdC 111 x2 := by rw [tkE3 xs c1 (by rw [← hx1]; exact c2), ← hx1, ← hx2]
      have hleft : rdLeft tkS.data.toList xs 3 = x2.drop 32 := by
        show ((xs.drop (rdLen 98 xs)).drop (rdLen 116 (xs.drop (rdLen 98 xs)))).drop 32 = _
        rw [← hx1, ← hx2]
      have hv : tkV xs = rdN 98 xs + ((rdB 116 x1).length : Int) + (x2.take 32).getD 0 0 := by
        show rdN 98 xs + ((rdB 116 (xs.drop (rdLen 98 xs))).length : Int) + (((xs.drop (rdLen 98 xs)).drop (rdLen 116 (xs.drop (rdLen 98 xs)))).take 32).getD 0 0 = _
        rw [← hx1, ← hx2]
      rw [hcode, hleft, hv]
      have HE1 := Lib.hid fun (W : World) (hc : Chg (fun k => k = I) w W) => hE.chg h hc
      generalize hys : rdB 116 x1 = ys at *
      generalize rdN 98 xs = n1 at *
      clear hys hx1 hx2 c1 c2 hcode hleft hv h hb hE
      by_cases c3 : x2.length < 32
      · have hc : rdC 111 x2 = 2 := by
          unfold rdC
          rw [if_pos rfl, if_pos c3]
        rw [hc]
        clear hc
        have KO := Lib.hid fun (W : World) (h : InAt W I T x2) (he : ErrC W a 2) => oidO_no I T x2 a W c3 h he
        go_enter Tryd.func27, Tryd.ntmps27
        go_wp2_with fail
        refine K1.out.mono ?_
        rintro e w1 ⟨rfl, hI1, hC1⟩
        have HC1 := Lib.hid hC1
        have KK2 := Lib.hid (K2.out w1 hI1)
        clear hI1 hC1
        go_wp2_with fail
        refine KK2.out.mono ?_
        rintro e w2 ⟨A, c, rfl, _, _, _, _, hI2, hC2⟩
        have HC2 := Lib.hid (HC1.out.trans hC2)
        have KK3 := Lib.hid (KO.out w2 hI2 (HE1.out w2 HC2.out).2.1)
        clear hI2 hC2
        go_wp2_with fail
        refine KK3.out.mono ?_
        rintro e w3 ⟨rfl, hC3⟩
        exact ⟨rfl, fun h => absurd h (by decide), fun _ => ⟨rfl, HC2.out.trans hC3⟩⟩
      · have hc : rdC 111 x2 = 0 := by
          unfold rdC
          rw [if_pos rfl, if_neg c3]
        rw [hc]
        clear hc
        have KO := Lib.hid fun (W : World) (h : InAt W I T x2) => oidO_any I T x2 W (by omega) h
        have hby := hb2.getD 0
        have ht0 : (x2.take 32).getD 0 0 = x2.getD 0 0 := by
          simp [List.getD_eq_getElem?_getD, List.getElem?_take]
        rw [ht0]
        generalize hz : x2.getD 0 0 = z at *
        have hz2 := Lib.hid hz
        have hl3 : (x2.drop 32).length ≤ x2.length := by rw [List.length_drop]; omega
        have KL := Lib.hid fun (W : World) (h : InAt W I T (x2.drop 32)) => left_any I T (x2.drop 32) W h
        obtain ⟨x3, hx3⟩ : ∃ x3, x3 = x2.drop 32 := ⟨_, rfl⟩
        rw [← hx3] at KL hl3 ⊢
        have HX3 := Lib.hid hx3
        clear hx3
        have z1 : IntKind.i64.wrap (n1 + (ys.length : Int)) = n1 + (ys.length : Int) := by rw [IntKind.wrap_i64]; omega
        have z2 : IntKind.i64.wrap z = z := by rw [IntKind.wrap_i64]; omega
        have z3 : IntKind.i64.wrap (n1 + (ys.length : Int) + z) = n1 + (ys.length : Int) + z := by rw [IntKind.wrap_i64]; omega
        have z4 : IntKind.i64.wrap (n1 + (ys.length : Int) + z + (x3.length : Int)) = n1 + (ys.length : Int) + z + (x3.length : Int) := by rw [IntKind.wrap_i64]; omega
        clear hz ht0
        go_enter Tryd.func27, Tryd.ntmps27
        go_wp2_with fail
        refine K1.out.mono ?_
        rintro e w1 ⟨rfl, hI1, hC1⟩
        have HC1 := Lib.hid hC1
        have KK2 := Lib.hid (K2.out w1 hI1)
        clear hI1 hC1
        go_wp2_with fail
        refine KK2.out.mono ?_
        rintro e w2 ⟨A, c, rfl, _, _, _, _, hI2, hC2⟩
        have HC2 := Lib.hid (HC1.out.trans hC2)
        have KK3 := Lib.hid (KO.out w2 hI2)
        clear hI2 hC2
        go_wp2_with fail
        refine KK3.out.mono ?_
        rintro e w3 ⟨D, rfl, hDs, hDo, hDj, hI3, hC3⟩
        have hd0 := hDj 0 (by decide)
        rw [hz2.out] at hd0
        rw [← HX3.out] at hI3
        have hix : (Instr.index 103 (.agg D) (.int .i64 0)).run Tryd.prog w3 = .ok (.int .u8 z) w3 := ix25 w3 D 0 z (by decide) hd0
        have HC3 := Lib.hid (HC2.out.trans hC3)
        have HI3 := Lib.hid hI3
        have KK4 := Lib.hid (KL.out w3 hI3)
        clear hDj hI3 hC3
        go_wp2_with fail
        refine KK4.out.mono ?_
        rintro e w4 ⟨rfl, rfl⟩
        go_wp2_with fail
        go_ret
        exact ⟨fun _ => ⟨rfl, HI3.out, HC3.out⟩, fun h => absurd rfl h⟩
    · have hcode : rdErr tkS.data.toList xs 3 = rdC 116 x1 := by
        have h2 : rdErr tkS.data.toList xs 2 = rdC 116 x1 := by rw [tkE2 xs c1, ← hx1]
        rw [rdErr_mono (k := 2) (by rw [h2]; exact c2) 3 (by decide), h2]
      rw [hcode]
      have HE1 := Lib.hid fun (W : World) (hc : Chg (fun k => k = I) w W) => hE.chg h hc
      have K2 := Lib.hid fun (W : World) (h : InAt W I T x1) (he : Err3 W a) => textX I T x1 a W h hb1 he c2
      have HN := Lib.hid c2
      generalize rdC 116 x1 = n at *
      generalize tkV xs + ((rdLeft tkS.data.toList xs 3).length : Int) = v at *
      generalize rdLeft tkS.data.toList xs 3 = lf at *
      clear hcode h hb hE c2
      go_enter Tryd.func27, Tryd.ntmps27
      go_wp2_with fail
      refine K1.out.mono ?_
      rintro e w1 ⟨rfl, hI1, hC1⟩
      have HC1 := Lib.hid hC1
      have KK2 := Lib.hid (K2.out w1 hI1 (HE1.out w1 hC1))
      clear hI1 hC1
      go_wp2_with fail
      refine KK2.out.mono ?_
      rintro e w2 ⟨rfl, hC2⟩
      exact ⟨rfl, fun h => absurd h HN.out, fun _ => ⟨rfl, HC1.out.trans hC2⟩⟩
  · have hcode : rdErr tkS.data.toList xs 3 = rdC 98 xs := by
      rw [rdErr_mono (k := 1) (by rw [tkE1]; exact c1) 3 (by decide), tkE1]
    rw [hcode]
    have K := Lib.hid (numX 98 I T xs a w (by decide) h hb hE c1)
    have HN := Lib.hid c1
    generalize rdC 98 xs = n at *
    generalize tkV xs + ((rdLeft tkS.data.toList xs 3).length : Int) = v at *
    generalize rdLeft tkS.data.toList xs 3 = lf at *
    clear hcode h hb hE c1
    go_enter Tryd.func27, Tryd.ntmps27
    go_wp2_with fail
    refine K.out.mono ?_
    rintro e w1 ⟨rfl, hC1⟩
    exact ⟨rfl, fun h => absurd h HN.out, fun _ => ⟨rfl, hC1⟩⟩
end Go.Proofs.YtmmiimcodbjnmaaDoor
