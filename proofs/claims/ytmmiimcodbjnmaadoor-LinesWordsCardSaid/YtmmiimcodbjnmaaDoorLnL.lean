/- LinesWords: the walk. -/
import Derived.Test.YtmmiimcodbjnmaaDoorLnR
namespace Go.Proofs.YtmmiimcodbjnmaaDoor
open Go.RowKit Go.Stop Go.Extern Go.Ranges Go.Rows2
set_option linter.unusedVariables false
set_option linter.unusedSimpArgs false
set_option maxRecDepth 100000
theorem alive32 (w : World) (H : LnV w) : Calls Tryd.prog 11 #[] w fun e w' => e = .returned (.bool true) ∧ Below w.heap.size w w' := by
  have K := Lib.hid (record_al w H)
  have hss : ∀ x : ByteArray, (x.toList == x.toList) = true := fun x => by simp
  unfold recC at K
  clear H
  go_enter Tryd.func11, Tryd.ntmps11
  go_wp2_with fail
  refine K.out.mono ?_
  rintro e w1 ⟨rfl, hb⟩
  go_wp2_with fail
  go_ret
  exact ⟨rfl, hb⟩
/-- What was found ahead of a place. -/
def kxAt (a : Nat) (b : Bool) (i : Nat) : Int := if b = true ∧ a < i then (a : Int) else 0
def kyAt (a : Nat) (b : Bool) (i : Nat) : Bool := b && decide (a < i)
theorem kx_hit {s : ByteArray} {a : Nat} {b : Bool} {i : Nat} (h : IxIs s a b) (hi : i < 11) (hq : sEq s (liW i) = true) : kxAt a b (i + 1) = (i : Int) ∧ kyAt a b (i + 1) = true := by
  rcases h with ⟨rfl, rfl, hn⟩ | ⟨rfl, ha, hy⟩
  · rw [hn i hi] at hq; cases hq
  · have e : a = i := liW_ne a ha i hi ((sEq_iff.1 hy).symm.trans (sEq_iff.1 hq))
    subst e
    unfold kxAt kyAt
    rw [if_pos ⟨rfl, Nat.lt_succ_self _⟩]
    simp
theorem kx_miss {s : ByteArray} {a : Nat} {b : Bool} {i : Nat} (h : IxIs s a b) (hq : sEq s (liW i) = false) : kxAt a b (i + 1) = kxAt a b i ∧ kyAt a b (i + 1) = kyAt a b i := by
  rcases h with ⟨rfl, rfl, hn⟩ | ⟨rfl, ha, hy⟩
  · unfold kxAt kyAt
    simp
  · have e : a ≠ i := fun e => by
      subst e
      rw [hy] at hq; cases hq
    unfold kxAt kyAt
    by_cases h1 : a < i
    · rw [if_pos ⟨rfl, by omega⟩, if_pos ⟨rfl, h1⟩, decide_eq_true h1, decide_eq_true (show a < i + 1 by omega)]
      exact ⟨rfl, rfl⟩
    · rw [if_neg (fun h => by have := h.2; omega), if_neg (fun h => h1 h.2), decide_eq_false h1, decide_eq_false (show ¬ a < i + 1 by omega)]
      exact ⟨rfl, rfl⟩
theorem kx_end {s : ByteArray} {a : Nat} {b : Bool} (h : IxIs s a b) : kxAt a b 11 = (a : Int) ∧ kyAt a b 11 = b := by
  rcases h with ⟨rfl, rfl, hn⟩ | ⟨rfl, ha, hy⟩
  · exact ⟨rfl, rfl⟩
  · unfold kxAt kyAt
    rw [if_pos ⟨rfl, ha⟩, decide_eq_true ha]
    exact ⟨rfl, rfl⟩
theorem kx_zero (a : Nat) (b : Bool) : kxAt a b 0 = 0 ∧ kyAt a b 0 = false := by
  unfold kxAt kyAt
  rw [if_neg (fun h => by have := h.2; omega), decide_eq_false (Nat.not_lt_zero a), Bool.and_false]
  exact ⟨rfl, rfl⟩
set_option maxHeartbeats 4000000 in
theorem linesWords_walk (n : Int) (s : ByteArray) (w : World) (h0 : -9223372036854775808 ≤ n) (h9 : n ≤ 9223372036854775807) (H : LnV w) :
    Calls Tryd.prog 4 #[.int .i64 n, .string s] w fun e w' => e = .returned (.bool true) ∧ Below w.heap.size w w' := by
  have K := Lib.hid (alive32 w H)
  have HV := Lib.hid H
  have KP := Lib.hid fun (W : World) (h : Below w.heap.size w W) => liOp_any n W h0 h9 (HV.out.below h)
  have KQ := Lib.hid fun (W : World) => refOp_any n W h0 h9
  have KA := Lib.hid fun (W : World) (h : Below w.heap.size w W) => answer_any s W (HV.out.below h).words
  have KW := Lib.hid fun (W : World) (h : Below w.heap.size w W) => liWord_any n W (HV.out.below h).words
  have KR := Lib.hid fun (m : Int) (W : World) => refWord_any m W
  clear H h0 h9
  go_enter Tryd.func4, Tryd.ntmps4
  go_wp2_with fail
  refine K.out.mono ?_
  rintro e w1 ⟨rfl, hb1⟩
  have HB1 := Lib.hid hb1
  clear hb1 K
  by_cases h1 : 100 < s.size
  · have hd : decide ((100 : Int) < (s.size : Int)) = true := by rw [decide_eq_true_eq]; omega
    go_wp2_with fail
    go_ret
    exact ⟨rfl, HB1.out⟩
  have hd : decide ((100 : Int) < (s.size : Int)) = false := by rw [decide_eq_false_iff_not]; omega
  have hd2 : ¬ (100 : Int) < (s.size : Int) := by omega
  go_wp2_with fail
  refine (KA.out _ HB1.out).mono ?_
  rintro e w2 ⟨a, b, rfl, rfl, hix⟩
  have HX := Lib.hid hix
  clear hix h1
  go_wp2_with fail
  go_loopw [7, 8, 9] (fun x y z wr => ∃ (i : Nat) (kx : Int) (ky : Bool), i ≤ 11 ∧ x = .int .i64 kx ∧ y = .bool ky ∧ z = .int .i64 i ∧ kx = kxAt a b i ∧ ky = kyAt a b i ∧ Below w.heap.size w wr) (fun x y z wr => 11 - (intOf z).toNat)
  case atStart => exact ⟨0, 0, false, Nat.zero_le _, rfl, rfl, rfl, (kx_zero a b).1.symm, (kx_zero a b).2.symm, HB1.out⟩
  case round =>
    obtain ⟨i, kx, ky, hi, rfl, rfl, rfl, ex, ey, hb⟩ := hrel
    have EX := Lib.hid ex
    have EY := Lib.hid ey
    have HB := Lib.hid hb
    clear ex ey hb
    by_cases hlt : i < 11
    · have hd3 : decide ((i : Int) ≤ 10) = true := by rw [decide_eq_true_eq]; omega
      have hd4 : (i : Int) ≤ 10 := by omega
      have hw : wordV (i : Int) = liW i := by
        unfold wordV
        rw [if_neg (by omega), Int.toNat_natCast]
      have KRi := Lib.hid (KR.out (i : Int) wr)
      rw [hw] at KRi
      obtain ⟨t, ht⟩ : ∃ t, t = liW i := ⟨_, rfl⟩
      rw [← ht] at KRi
      have HT := Lib.hid ht
      have hq0 : ∀ r, sEq s t = r → (t.toList == s.toList) = r := fun r h => (sEq_comm t s).trans h
      clear hw ht
      cases hq : sEq s t with
      | true =>
        have q1 := hq0 _ hq
        have HQ := Lib.hid (show sEq s (liW i) = true by rw [← HT.out]; exact hq)
        clear hq hq0
        go_wp2_with fail
        refine KRi.out.mono ?_
        rintro e w3 ⟨rfl, hb3⟩
        have HB3 := Lib.hid (stepV HB.out hb3)
        clear hb3
        go_wp2_with fail
        go_round
        case rel => exact ⟨i + 1, (i : Int), true, by omega, rfl, rfl, by go_num, (kx_hit HX.out hlt HQ.out).1.symm, (kx_hit HX.out hlt HQ.out).2.symm, HB3.out⟩
        case measure => simp only [intOf]; omega
      | false =>
        have q1 := hq0 _ hq
        have HQ := Lib.hid (show sEq s (liW i) = false by rw [← HT.out]; exact hq)
        clear hq hq0
        go_wp2_with fail
        refine KRi.out.mono ?_
        rintro e w3 ⟨rfl, hb3⟩
        have HB3 := Lib.hid (stepV HB.out hb3)
        clear hb3
        go_wp2_with fail
        go_round
        case rel => exact ⟨i + 1, kx, ky, by omega, rfl, rfl, by go_num, EX.out.trans (kx_miss HX.out HQ.out).1.symm, EY.out.trans (kx_miss HX.out HQ.out).2.symm, HB3.out⟩
        case measure => simp only [intOf]; omega
    · obtain rfl : i = 11 := by omega
      have e1 : kx = (a : Int) := EX.out.trans (kx_end HX.out).1
      have e2 : ky = b := EY.out.trans (kx_end HX.out).2
      subst e1 e2
      have q1 : ((a : Int) == (a : Int)) = true := by simp
      have q2 : (ky == ky) = true := by simp
      have hss : ∀ x : ByteArray, (x.toList == x.toList) = true := fun x => by simp
      have KRn := Lib.hid fun (W : World) => KR.out n W
      generalize wordV n = wn at *
      generalize opV n = on at *
      clear EX EY
      go_wp2_with fail
      refine (KW.out _ HB.out).mono ?_
      rintro e w3 ⟨rfl, rfl⟩
      go_wp2_with fail
      refine (KRn.out _).mono ?_
      rintro e w4 ⟨rfl, hb4⟩
      have HB4 := Lib.hid (stepV HB.out hb4)
      clear hb4
      go_wp2_with fail
      refine (KP.out _ HB4.out).mono ?_
      rintro e w5 ⟨rfl, hb5⟩
      have HB5 := Lib.hid (stepV HB4.out hb5)
      clear hb5
      go_wp2_with fail
      refine (KQ.out _).mono ?_
      rintro e w6 ⟨rfl, hb6⟩
      have HB6 := Lib.hid (stepV HB5.out hb6)
      clear hb6
      go_wp2_with fail
      go_ret
      exact ⟨rfl, HB6.out⟩
end Go.Proofs.YtmmiimcodbjnmaaDoor
