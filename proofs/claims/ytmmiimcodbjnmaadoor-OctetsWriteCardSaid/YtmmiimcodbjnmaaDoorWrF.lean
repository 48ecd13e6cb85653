/- OctetsWrite: the walk. -/
import Derived.Test.YtmmiimcodbjnmaaDoorWrE
import Derived.Test.YtmmiimcodbjnmaaDoorRdH
import Derived.Test.YtmmiimcodbjnmaaDoorOpenFld
namespace Go.Proofs.YtmmiimcodbjnmaaDoor
open Go.RowKit Go.Stop Go.Extern Go.Ranges Go.Rows2
set_option linter.unusedVariables false
set_option linter.unusedSimpArgs false
set_option maxRecDepth 100000
theorem FieldsAt.under {w w' : World} {A : Option Addr} {n : Nat} {N : Nat → Int} {B : Nat → List Int} (h : FieldsAt w A n N B) (hb : Below w.heap.size w w') : FieldsAt w' A n N B := h.below hb
set_option maxHeartbeats 8000000 in
theorem octetsWrite_walk (s : ByteArray) (A : Option Addr) (n c : Nat) (N : Nat → Int) (B : Nat → List Int) (a : Nat → Addr) (w : World) (HE : Errs w a) (hF : FieldsAt w A n N B) (hby : ∀ i, BytesOk (B i)) (hnm : n ≤ maxLen) :
    Calls Tryd.prog 8 #[.string s, .slice A n c] w fun e w' => e = .returned (.bool true) ∧ Below w.heap.size w w' := by
  have K := Lib.hid (alive02 a w (HE.c 1 (by decide) (by decide)))
  have HEh := Lib.hid HE
  have HFh := Lib.hid hF
  have HBy := Lib.hid hby
  have hnI : (n : Int) ≤ 9223372036854775807 := by unfold maxLen at hnm; omega
  clear HE hF hby hnm
  go_enter Tryd.func8, Tryd.ntmps8
  go_wp2_with fail
  refine K.out.mono ?_
  rintro e w1 ⟨rfl, hb1⟩
  have HB1 := Lib.hid hb1
  clear hb1 K
  by_cases h1 : 60 < s.size
  · have hd : decide ((60 : Int) < (s.size : Int)) = true := by simp; omega
    go_wp2_with fail
    go_ret
    exact ⟨rfl, HB1.out⟩
  have hd : decide ((60 : Int) < (s.size : Int)) = false := by simp; omega
  by_cases h2 : 60 < n
  · have hd2 : decide ((60 : Int) < (n : Int)) = true := by simp; omega
    go_wp2_with fail
    go_ret
    exact ⟨rfl, HB1.out⟩
  have hd2 : decide ((60 : Int) < (n : Int)) = false := by simp; omega
  go_wp2_with fail
  go_loopw [28] (fun x wr => ∃ k : Nat, k ≤ n ∧ x = .int .i64 k ∧ Below w.heap.size w wr ∧ ∀ i, i < k → (B i).length ≤ 300) (fun x _ => n - (intOf x).toNat)
  case atStart => exact ⟨0, Nat.zero_le _, rfl, HB1.out, fun i hi => absurd hi (by omega)⟩
  case round =>
    obtain ⟨k, hk, rfl, hb, hall⟩ := hrel
    have HB := Lib.hid hb
    have HA := Lib.hid hall
    have hsz := hb.size
    clear hb hall
    by_cases hlt : k < n
    · obtain ⟨b, o, rfl, hbl, hc⟩ := HFh.out (by omega)
      obtain ⟨D, cc, h1, h2, h3⟩ := hc k hlt
      have c1 : wr.cell? ⟨b, o + k * 2, none⟩ = some (.int .i64 (N k)) := (HB.out.cell (p := ⟨b, o + k * 2, none⟩) hbl).trans h1
      have c2 : wr.cell? ⟨b, o + k * 2 + 1, none⟩ = some (.slice D (B k).length cc) := (HB.out.cell (p := ⟨b, o + k * 2 + 1, none⟩) hbl).trans h2
      have hk0 : (0 : Int) ≤ (k : Int) := by omega
      have HV := Lib.hid (stepV HB.out (alloc_below wr (.cells #[.int .i64 (N k), .slice D (B k).length cc] 60)))
      clear hc h1 h2 h3
      by_cases hl : 300 < (B k).length
      · have hd3 : decide ((300 : Int) < ((B k).length : Int)) = true := by simp; omega
        go_wp2_with fail
        go_ret
        exact ⟨rfl, HV.out⟩
      · have hd3 : decide ((300 : Int) < ((B k).length : Int)) = false := by simp; omega
        have HLk := Lib.hid hl
        go_wp2_with fail
        go_round
        case rel => exact ⟨k + 1, by omega, by go_num, HV.out, fun i hi => by
          by_cases e : i = k
          · subst e; have := HLk.out; omega
          · exact HA.out i (by omega)⟩
        case measure => simp only [intOf]; omega
    · obtain rfl : k = n := by omega
      have hB5 : ∀ i, i < k → (B i).length ≤ 100000 := fun i hi => by have := HA.out i hi; omega
      have hL5 := ocAll_len (s := s.data.toList) (N := N) (n := k) (m := 300) HA.out k (Nat.le_refl _)
      have KO := Lib.hid fun (W : World) (h : Below w.heap.size w W) => of02_any A k c N B W (FieldsAt.under HFh.out h) (by omega)
      have KW := Lib.hid fun (W : World) (h : Below w.heap.size w W) => ocWrite_any s A k c N B a W ((HEh.out.below h).c 1 (by decide) (by decide)) ((HEh.out.below h).c 7 (by decide) (by decide)) (by omega) (by omega) (FieldsAt.under HFh.out h) hB5
      have KR := Lib.hid fun (A' : Option Addr) (c' : Nat) (W : World) (h : FieldsAt W A' k N B) => refWrite_any s A' k c' N B W (by omega) (by omega) h hB5
      have KN := Lib.hid fun (m : Nat) (hm : m ≤ 22) (W : World) (h : Below w.heap.size w W) => num_any a m hm W (HEh.out.below h)
      have hwl := wrC_le s N B k
      have hmul : k * (300 + 8) ≤ 60 * (300 + 8) := Nat.mul_le_mul_right _ (by omega)
      have hlen : (wrL s N B k).length ≤ 20000 := by
        unfold wrL
        split
        · omega
        · exact Nat.zero_le _
      have hbo : BytesOk (wrL s N B k) := by
        unfold wrL
        split
        · exact ocAll_byte HBy.out k
        · exact fun y hy => absurd hy (by simp)
      have HBO := Lib.hid hbo
      have HLEN := Lib.hid hlen
      clear hB5 hL5 hmul hbo hlen hsz
      have hq := HB.out
      go_wp2_with fail
      refine (KO.out _ HB.out).mono ?_
      rintro e w2 ⟨A2, c2, vs2, rfl, hG2, hb2⟩
      have HB2 := Lib.hid (stepV HB.out hb2)
      have HG2 := Lib.hid hG2.fields
      clear hb2 hG2 hq
      go_wp2_with fail
      refine (KW.out _ HB2.out).mono ?_
      rintro e w3 ⟨A3, c3, rfl, hA3, hc3, hm3, hb3⟩
      have HB3 := Lib.hid (stepV HB2.out hb3)
      have HG3 := Lib.hid (FieldsAt.under HG2.out hb3)
      have HA3 := Lib.hid hA3
      clear hb3 hA3 hc3 hm3 HG2
      go_wp2_with fail
      refine (KR.out _ _ _ HG3.out).mono ?_
      rintro e w4 ⟨A4, c4, rfl, hA4, hc4, hm4, hb4⟩
      have HB4 := Lib.hid (stepV HB3.out hb4)
      have HG4 := Lib.hid (FieldsAt.under HG3.out hb4)
      have HA34 := Lib.hid (bytesIn_below' HA3.out hb4)
      have HA4 := Lib.hid hA4
      have HC4 := Lib.hid (And.intro hc4 hm4)
      clear hb4 hA4 hc4 hm4 HG3 HA3
      go_wp2_with fail
      refine (KN.out _ hwl _ HB4.out).mono ?_
      rintro e w5 ⟨rfl, hb5⟩
      have HB5 := Lib.hid (stepV HB4.out hb5)
      have HG5 := Lib.hid (FieldsAt.under HG4.out hb5)
      have HA35 := Lib.hid (bytesIn_below' HA34.out hb5)
      have HA45 := Lib.hid (bytesIn_below' HA4.out hb5)
      have cv1 := HA35.out.convert (P := Tryd.prog) rfl c3 34 5 9 Tryd.underlying34 Tryd.underlying5 Tryd.underlying9
      have cv2 := HA45.out.convert (P := Tryd.prog) rfl c4 34 5 9 Tryd.underlying34 Tryd.underlying5 Tryd.underlying9
      clear hb5 HG4 HA34 HA4
      have q0 : ((wrC s N B k : Int) != (wrC s N B k : Int)) = false := by simp
      generalize strOfNums (wrL s N B k) = s9 at *
      have q1 : (s9.toList != s9.toList) = false := by simp
      by_cases hz : wrC s N B k = 0
      · have HZ := Lib.hid hz
        obtain ⟨r1, r2, r3, r4⟩ := read_back hz
        obtain ⟨k1, k2, k3⟩ := wrC_zero hz
        subst k2
        have HR1 := Lib.hid r2
        have HR3 := Lib.hid r3
        have HR4 := Lib.hid r4
        have hA3n : A3 = none → (wrL s N B s.size).length = 0 := fun e => by
          by_cases h0 : (wrL s N B s.size).length = 0
          · exact h0
          · obtain ⟨b, o, e2, _⟩ := HA35.out (by omega)
            rw [e] at e2
            cases e2
        have hE3 : Err3 w5 a := ⟨(HEh.out.below HB5.out).c 1 (by decide) (by decide), (HEh.out.below HB5.out).c 2 (by decide) (by decide), (HEh.out.below HB5.out).c 7 (by decide) (by decide)⟩
        have KRD := Lib.hid (read_any A3 c3 s _ a w5 HA35.out hA3n (by have := HLEN.out; omega) HBO.out hE3 ((HEh.out.below HB5.out).c 3 (by decide) (by decide)) (by omega) k1)
        have KRS := Lib.hid fun (W : World) (h : Below w5.heap.size w5 W) => rest02_any A4 c4 s _ W (bytesIn_below' HA45.out h) HC4.out.1 HC4.out.2 HBO.out (by omega) k1
        have KS := Lib.hid fun (A1 A2 : Option Addr) (c1 c2 : Nat) (N' : Nat → Int) (B' : Nat → List Int) (W : World) (h1 : FieldsAt W A1 s.size N' B') (h2 : FieldsAt W A2 s.size N' B') => same02_true A1 A2 s.size c1 c2 N' B' W h1 h2 (by omega)
        have KO2 := Lib.hid fun (A1 : Option Addr) (c1 : Nat) (N' : Nat → Int) (B' : Nat → List Int) (W : World) (h1 : FieldsAt W A1 s.size N' B') => of02_any A1 s.size c1 N' B' W h1 (by omega)
        rw [hz]
        generalize wrL s N B s.size = l at *
        have he0 : errV a 0 = .nilIface := rfl
        clear hz r1 r2 r3 r4 k1 k3 hA3n hE3 hwl q0
        go_wp2_with fail
        refine KRD.out.mono ?_
        rintro e w6 ⟨hok, _⟩
        obtain ⟨v6, vs6, rfl, hF6, hb6⟩ := hok HR4.out
        obtain ⟨A6, c6, hv⟩ := own_slice hF6.own
        subst hv
        have HF6 := Lib.hid hF6.fields
        have HB6 := Lib.hid (stepV HB5.out hb6)
        have HG6 := Lib.hid (FieldsAt.under HG5.out hb6)
        have KRS6 := Lib.hid (KRS.out w6 hb6)
        clear hok hF6 hb6 KRD KRS HG5
        go_wp2_with fail
        refine KRS6.out.mono ?_
        rintro e w7 ⟨hok, _⟩
        obtain ⟨v7, vs7, B7, cb7, rfl, hG7, _, hb7⟩ := hok HR1.out
        obtain ⟨A7, c7, hv⟩ := own_slice hG7.own
        subst hv
        rw [HR3.out]
        have HY7 := Lib.hid hG7.fields
        have HB7 := Lib.hid (stepV HB6.out hb7)
        have HG7 := Lib.hid (FieldsAt.under HG6.out hb7)
        have HF7 := Lib.hid (FieldsAt.under HF6.out hb7)
        clear hok hG7 hb7 KRS6 HG6 HF6
        go_wp2_with fail
        refine (KO2.out _ _ _ _ _ HF7.out).mono ?_
        rintro e w8 ⟨A8, c8, vs8, rfl, hG8, hb8⟩
        have HX8 := Lib.hid hG8.fields
        have HB8 := Lib.hid (stepV HB7.out hb8)
        have HG8 := Lib.hid (FieldsAt.under HG7.out hb8)
        have HY8 := Lib.hid (FieldsAt.under HY7.out hb8)
        clear hG8 hb8 HG7 HF7 HY7
        go_wp2_with fail
        refine (KS.out _ _ _ _ _ _ _ HX8.out HY8.out).mono ?_
        rintro e w9 ⟨rfl, hb9⟩
        have HB9 := Lib.hid (stepV HB8.out hb9)
        have HG9 := Lib.hid (FieldsAt.under HG8.out hb9)
        clear hb9 HG8 HX8 HY8
        go_wp2_with fail
        refine (KO.out _ HB9.out).mono ?_
        rintro e w10 ⟨A10, c10, vs10, rfl, hG10, hb10⟩
        have HX10 := Lib.hid hG10.fields
        have HB10 := Lib.hid (stepV HB9.out hb10)
        have HG10 := Lib.hid (FieldsAt.under HG9.out hb10)
        clear hG10 hb10 HG9
        go_wp2_with fail
        refine (KS.out _ _ _ _ _ _ _ HX10.out HG10.out).mono ?_
        rintro e w11 ⟨rfl, hb11⟩
        have HB11 := Lib.hid (stepV HB10.out hb11)
        clear hb11
        go_wp2_with fail
        go_ret
        exact ⟨rfl, HB11.out⟩
      · have q2 : ((wrC s N B k : Int) != 0) = true := by rw [bne_iff_ne]; omega
        generalize wrC s N B k = m at *
        go_wp2_with fail
        go_ret
        exact ⟨rfl, HB5.out⟩
end Go.Proofs.YtmmiimcodbjnmaaDoor
