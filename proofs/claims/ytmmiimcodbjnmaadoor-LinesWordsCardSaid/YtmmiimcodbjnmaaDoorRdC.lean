/- octets, reading: numbers by letters, texts. -/
import Derived.Test.YtmmiimcodbjnmaaDoorRdB
namespace Go.Proofs.YtmmiimcodbjnmaaDoor
open Go.RowKit Go.Stop Go.Extern Go.Ranges Go.Rows2
set_option linter.unusedVariables false
set_option linter.unusedSimpArgs false
set_option maxRecDepth 20000
theorem num_ok (c : UInt8) (I T : Nat) (xs : List Int) (w : World) (hz : 0 < ocSize c) (hN : ocSize c ≤ xs.length) (h : InAt w I T xs) (hb : BytesOk xs) (hm : rdBE (xs.take (ocSize c)) ≤ 4611686018427387903) :
    Calls Tryd.prog 55 #[.pointer (some ⟨I, 0, none⟩), .int .u8 c.toNat] w (PlainEnd w I T (ocSize c) xs) := by
  have h8 : ocSize c ≤ 8 := ocSize_le c
  have K := Lib.hid (plain_ok I T (ocSize c) xs w (by omega) (by omega) (by simpa using hN) h hb (by simpa using hm))
  have hne : ((ocSize c : Int) == 0) = false := by simp; omega
  clear h hb hm hN
  go_enter Tryd.func55, Tryd.ntmps55
  go_wp2_with fail
  refine (ocWide_any c _).mono ?_
  rintro e w1 ⟨rfl, rfl⟩
  go_wp2_with fail
  refine K.out.mono ?_
  rintro e w1 ⟨rfl, hI, hC⟩
  have HI := Lib.hid hI
  have HC := Lib.hid hC
  clear hI hC K
  go_wp2_with fail
  go_ret
  exact ⟨rfl, HI.out, HC.out⟩
theorem num_halts (c : UInt8) (I : Nat) (xs : List Int) (a : Nat → Addr) (w : World) (n : Nat) (hz : 0 < ocSize c)
    (K0 : Calls Tryd.prog 80 #[.pointer (some ⟨I, 0, none⟩), .int .i64 (ocSize c)] w (Halts w a I n)) :
    Calls Tryd.prog 55 #[.pointer (some ⟨I, 0, none⟩), .int .u8 c.toNat] w (Halts w a I n) := by
  have K := Lib.hid K0
  have hne : ((ocSize c : Int) == 0) = false := by simp; omega
  clear K0
  go_enter Tryd.func55, Tryd.ntmps55
  go_wp2_with fail
  refine (ocWide_any c _).mono ?_
  rintro e w1 ⟨rfl, rfl⟩
  go_wp2_with fail
  refine K.out.mono ?_
  rintro e w1 ⟨rfl, hC⟩
  exact ⟨rfl, rfl, hC⟩
theorem num_short (c : UInt8) (I T : Nat) (xs : List Int) (a : Nat → Addr) (w : World) (hN : xs.length < ocSize c) (h : InAt w I T xs) (hE : ErrC w a 2) :
    Calls Tryd.prog 55 #[.pointer (some ⟨I, 0, none⟩), .int .u8 c.toNat] w (Halts w a I 2) :=
  num_halts c I xs a w 2 (by omega) (plain_short I T (ocSize c) xs a w (by omega) h hE)
theorem num_big (c : UInt8) (I T : Nat) (xs : List Int) (a : Nat → Addr) (w : World) (hz : 0 < ocSize c) (hN : ocSize c ≤ xs.length) (h : InAt w I T xs) (hb : BytesOk xs) (hm : 4611686018427387903 < rdBE (xs.take (ocSize c))) (hE : ErrC w a 1) :
    Calls Tryd.prog 55 #[.pointer (some ⟨I, 0, none⟩), .int .u8 c.toNat] w (Halts w a I 1) :=
  num_halts c I xs a w 1 hz (plain_big I T (ocSize c) xs a w (by omega) (by have := ocSize_le c; omega) (by simpa using hN) h hb (by simpa using hm) hE)
theorem num_kind (c : UInt8) (I : Nat) (a : Nat → Addr) (w : World) (hz : ocSize c = 0) (hE : ErrC w a 7) :
    Calls Tryd.prog 55 #[.pointer (some ⟨I, 0, none⟩), .int .u8 c.toNat] w (Halts w a I 7) := by
  simp only [ErrC, gErr] at hE
  have K := Lib.hid (ocWide_any c w)
  rw [hz] at K
  clear hz
  go_enter Tryd.func55, Tryd.ntmps55
  go_wp2_with fail
  refine K.out.mono ?_
  rintro e w1 ⟨rfl, rfl⟩
  clear K
  go_wp2_with fail
  refine (fail_any _ (a 7) _).mono ?_
  rintro e w2 ⟨rfl, rfl⟩
  exact ⟨rfl, rfl, Chg.refl _ _⟩
/-- A text read. -/
def TextEnd (w : World) (I T : Nat) (ys zs : List Int) (e : Ending) (w' : World) : Prop :=
  ∃ A c, e = .returned (.slice A ys.length c) ∧ Lib.BytesIn w' A ys.length ys ∧ ys.length ≤ c ∧ c ≤ maxLen ∧ (∀ x, A = some x → 0 < ys.length → w.heap.size ≤ x.block ∧ x.block < w'.heap.size) ∧ InAt w' I T zs ∧ Chg (fun k => k = I) w w'
theorem text_ok (I T : Nat) (xs : List Int) (w : World) (h2 : 2 ≤ xs.length) (h : InAt w I T xs) (hb : BytesOk xs) (hk : (rdBE (xs.take 2)).toNat ≤ xs.length - 2) :
    Calls Tryd.prog 56 #[.pointer (some ⟨I, 0, none⟩)] w (TextEnd w I T ((xs.drop 2).take (rdBE (xs.take 2)).toNat) (xs.drop (2 + (rdBE (xs.take 2)).toNat))) := by
  have hbd := rdBE_bd (xs.take 2) (hb.take 2)
  rw [show (xs.take 2).length = 2 by rw [List.length_take]; omega] at hbd
  have hbd1 : rdBE (xs.take 2) < 65536 := hbd.2
  have K := Lib.hid (plain_ok I T 2 xs w (by decide) (by decide) h2 h hb (by show rdBE (xs.take 2) ≤ _; omega))
  have hd0 : 0 ≤ rdBE (xs.take 2) := hbd.1
  have HK : Hid (∀ W, InAt W I T (xs.drop 2) → Calls Tryd.prog 81 #[.pointer (some ⟨I, 0, none⟩), .int .i64 (rdBE (xs.take 2))] W (TakeEnd W I T (rdBE (xs.take 2)).toNat (xs.drop 2))) :=
    Lib.hid fun W hW => take_ok I T _ _ W hd0 (by rw [List.length_drop]; exact hk) hW
  have HL : Hid (((xs.drop 2).take (rdBE (xs.take 2)).toNat).length = (rdBE (xs.take 2)).toNat) := Lib.hid (by rw [List.length_take, List.length_drop]; omega)
  have HD : Hid ((xs.drop 2).drop (rdBE (xs.take 2)).toNat = xs.drop (2 + (rdBE (xs.take 2)).toNat)) := Lib.hid (by rw [List.drop_drop])
  have HT : Hid ((rdBE (xs.take 2)).toNat ≤ 65536) := Lib.hid (by omega)
  clear h hb hk hbd hbd1 hd0
  go_enter Tryd.func56, Tryd.ntmps56
  go_wp2_with fail
  refine K.out.mono ?_
  rintro e w1 ⟨rfl, hI, hC⟩
  have HI := Lib.hid hI
  have HC := Lib.hid hC
  clear hI hC K
  go_wp2_with fail
  refine (HK.out _ HI.out).mono ?_
  rintro e w2 ⟨A2, c2, rfl, hT2, hA2, hI2, hC2⟩
  have HT2 := Lib.hid hT2
  have HA2 := Lib.hid hA2
  have HI2 := Lib.hid hI2
  have HC2 := Lib.hid (HC.out.trans hC2)
  clear hT2 hA2 hI2 hC2 HI HC HK
  go_wp2_with fail
  refine (clone_any A2 _ c2 _ w2 HL.out (by have := HT2.out.at_; rwa [HL.out] at this) (by have := HT.out; omega) HA2.out).mono ?_
  rintro e w3 ⟨v, rfl, ⟨A3, c3, rfl, hB3, hl3, hm3, hs3⟩, hb3⟩
  have HB3 := Lib.hid hB3
  have HS3 := Lib.hid hs3
  have HM3 := Lib.hid (And.intro hl3 hm3)
  have HI3 := Lib.hid (HI2.out.below hb3)
  have HC3 := Lib.hid (HC2.out.trans (Chg.of_below hb3))
  clear hB3 hs3 hl3 hm3 hb3 HI2
  go_wp2_with fail
  go_ret
  exact ⟨A3, c3, congrArg (fun q => Ending.returned (.slice A3 q c3)) (by simp), HB3.out, HM3.out.1, HM3.out.2, fun x e1 e2 => ⟨Nat.le_trans HC2.out.size (HS3.out x e1 e2).2, (HS3.out x e1 e2).1⟩, HD.out ▸ HI3.out, HC3.out⟩
theorem text_short (I T : Nat) (xs : List Int) (a : Nat → Addr) (w : World) (h : InAt w I T xs) (hb : BytesOk xs) (hE : ErrC w a 2) (hk : xs.length < 2 ∨ (2 ≤ xs.length ∧ (xs.length : Int) - 2 < rdBE (xs.take 2))) :
    Calls Tryd.prog 56 #[.pointer (some ⟨I, 0, none⟩)] w (Halts w a I 2) := by
  rcases hk with hk | ⟨h2, hk⟩
  · have K := Lib.hid (plain_short I T 2 xs a w (by omega) h hE)
    clear h hE hb
    go_enter Tryd.func56, Tryd.ntmps56
    go_wp2_with fail
    refine K.out.mono ?_
    rintro e w1 ⟨rfl, hC⟩
    exact ⟨rfl, rfl, hC⟩
  · have hbd := rdBE_bd (xs.take 2) (hb.take 2)
    rw [show (xs.take 2).length = 2 by rw [List.length_take]; omega] at hbd
    have hbd1 : rdBE (xs.take 2) < 65536 := hbd.2
    have K := Lib.hid (plain_ok I T 2 xs w (by decide) (by decide) h2 h hb (by show rdBE (xs.take 2) ≤ _; omega))
    have HK : Hid (∀ W, InAt W I T (xs.drop 2) → Chg (fun k => k = I) w W → Calls Tryd.prog 81 #[.pointer (some ⟨I, 0, none⟩), .int .i64 (rdBE (xs.take 2))] W (Halts W a I 2)) :=
      Lib.hid fun W hW hc => take_no I T _ _ a W (by rw [List.length_drop]; omega) hW (hE.chg h hc)
    clear h hb hk hbd hbd1 hE
    go_enter Tryd.func56, Tryd.ntmps56
    go_wp2_with fail
    refine K.out.mono ?_
    rintro e w1 ⟨rfl, hI, hC⟩
    have HI := Lib.hid hI
    have HC := Lib.hid hC
    clear hI hC K
    go_wp2_with fail
    refine (HK.out _ HI.out HC.out).mono ?_
    rintro e w2 ⟨rfl, hC2⟩
    exact ⟨rfl, rfl, HC.out.trans hC2⟩
end Go.Proofs.YtmmiimcodbjnmaaDoor
