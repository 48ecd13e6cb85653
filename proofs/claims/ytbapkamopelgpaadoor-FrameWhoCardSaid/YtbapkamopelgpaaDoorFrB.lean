/- Frames: the reference's names. -/
import Derived.Test.YtbapkamopelgpaaDoorFrA
namespace Go.Proofs.YtbapkamopelgpaaDoor
open Go.RowKit Go.Stop Go.Extern Go.Ranges Go.Rows2
set_option linter.unusedVariables false
set_option linter.unusedSimpArgs false
set_option maxRecDepth 20000
theorem refWho_any (n : Int) (w : World) : Calls Tryd.prog 39 #[.int .i64 n] w fun e w' => e = .returned (.bool (whoB n)) ∧ w = w' := by
  rcases who_cases n with ⟨rfl, hw⟩ | ⟨rfl, hw⟩ | ⟨⟨h1, h2⟩, hw⟩ | ⟨⟨h1, h2⟩, hw⟩ | ⟨⟨h1, h2, h3, h4⟩, hw⟩
  · rw [hw]
    go_enter Tryd.func39, Tryd.ntmps39
    go_wp2_with fail
    go_ret
    exact ⟨rfl, rfl⟩
  · rw [hw]
    go_enter Tryd.func39, Tryd.ntmps39
    go_wp2_with fail
    go_ret
    exact ⟨rfl, rfl⟩
  · rw [hw]
    have d1 : decide ((0 : Int) ≤ n) = true := by simp; omega
    have d2 : decide (n ≤ (16 : Int)) = true := by simpa using h2
    go_enter Tryd.func39, Tryd.ntmps39
    go_wp2_with fail
    go_ret
    exact ⟨rfl, rfl⟩
  · rw [hw]
    have d1 : decide ((0 : Int) ≤ n) = true := by simp; omega
    have d2 : decide (n ≤ (16 : Int)) = false := by simp; omega
    have d3 : (n == 64) = false := by simp; omega
    have d4 : decide ((128 : Int) ≤ n) = true := by simpa using h1
    have d5 : decide (n ≤ (135 : Int)) = true := by simpa using h2
    go_enter Tryd.func39, Tryd.ntmps39
    go_wp2_with fail
    go_ret
    exact ⟨rfl, rfl⟩
  · rw [hw]
    have d3 : (n == 64) = false := by simpa using h2
    by_cases hz : n < 0
    · have d1 : decide ((0 : Int) ≤ n) = false := by simpa using hz
      have d4 : decide ((128 : Int) ≤ n) = false := by simp; omega
      clear h1 h2 h3 h4 hw
      go_enter Tryd.func39, Tryd.ntmps39
      go_wp2_with fail
      go_ret
      exact ⟨rfl, rfl⟩
    · have d1 : decide ((0 : Int) ≤ n) = true := by simp; omega
      have d2 : decide (n ≤ (16 : Int)) = false := by simp; omega
      by_cases hy : n < 128
      · have d4 : decide ((128 : Int) ≤ n) = false := by simpa using hy
        clear h1 h2 h3 h4 hw hz
        go_enter Tryd.func39, Tryd.ntmps39
        go_wp2_with fail
        go_ret
        exact ⟨rfl, rfl⟩
      · have d4 : decide ((128 : Int) ≤ n) = true := by simp; omega
        have d5 : decide (n ≤ (135 : Int)) = false := by simp; omega
        clear h1 h2 h3 h4 hw hz
        go_enter Tryd.func39, Tryd.ntmps39
        go_wp2_with fail
        go_ret
        exact ⟨rfl, rfl⟩
def figsB : ByteArray := ⟨#[48, 49, 50, 51, 52, 53, 54, 55, 56, 57]⟩
theorem dig1 (i : Nat) (h : i < 10) : figsB.extract i (i + 1) = ⟨(Lib.decDigits i).toArray⟩ := by
  have hd : Lib.decDigits i = [UInt8.ofNat (48 + i)] := by unfold Lib.decDigits; rw [dif_pos h]
  rw [hd]
  have : i = 0 ∨ i = 1 ∨ i = 2 ∨ i = 3 ∨ i = 4 ∨ i = 5 ∨ i = 6 ∨ i = 7 ∨ i = 8 ∨ i = 9 := by omega
  rcases this with rfl | rfl | rfl | rfl | rfl | rfl | rfl | rfl | rfl | rfl <;> rfl
theorem numeral_lo (i : Nat) (w : World) (h : i < 10) : Calls Tryd.prog 67 #[.int .i64 i] w fun e w' => e = .returned (.string ⟨(Lib.decDigits i).toArray⟩) ∧ w = w' := by
  have d1 : decide ((i : Int) < 10) = true := by simp; omega
  have h1 := dig1 i h
  have i0 : (0 : Int) ≤ (i : Int) := by omega
  have i1 : (i : Int) + 1 ≤ 10 := by omega
  unfold figsB at h1
  have H1 := Lib.hid h1
  clear h1
  go_enter Tryd.func67, Tryd.ntmps67
  go_wp2_with fail
  go_ret
  exact ⟨congrArg (fun q => Ending.returned (.string q)) H1.out, rfl⟩
theorem dig2 (i : Nat) (h : 10 ≤ i) (h2 : i < 20) : Lib.decDigits i = [49, UInt8.ofNat (48 + i % 10)] := by
  unfold Lib.decDigits
  rw [dif_neg (by omega)]
  have : i / 10 = 1 := by omega
  rw [this]
  unfold Lib.decDigits
  rw [dif_pos (by decide)]
  rfl
set_option maxHeartbeats 2000000 in
theorem numeral_hi (i : Nat) (w : World) (h : 10 ≤ i) (h2 : i < 20) : Calls Tryd.prog 67 #[.int .i64 i] w fun e w' => e = .returned (.string ⟨(Lib.decDigits i).toArray⟩) ∧ Below w.heap.size w w' := by
  have hd : decide ((i : Int) < 10) = false := by simp; omega
  rw [dig2 i h h2]
  have hi : i = 10 ∨ i = 11 ∨ i = 12 ∨ i = 13 ∨ i = 14 ∨ i = 15 ∨ i = 16 ∨ i = 17 ∨ i = 18 ∨ i = 19 := by omega
  clear h h2
  rcases hi with rfl | rfl | rfl | rfl | rfl | rfl | rfl | rfl | rfl | rfl
  all_goals (
    go_enter Tryd.func67, Tryd.ntmps67
    go_wp2_with fail
    go_quiet (fail)
    go_wp2_with fail
    go_ret
    exact ⟨rfl, below_drewN _ _⟩)
theorem numeral_any (i : Nat) (w : World) (h : i < 20) : Calls Tryd.prog 67 #[.int .i64 i] w fun e w' => e = .returned (.string ⟨(Lib.decDigits i).toArray⟩) ∧ Below w.heap.size w w' := by
  by_cases h1 : i < 10
  · exact (numeral_lo i w h1).mono fun e w' ⟨a, b⟩ => ⟨a, b ▸ Below.refl _ _⟩
  · exact numeral_hi i w (by omega) h
set_option maxHeartbeats 1000000 in
theorem frRefNm_any (n : Int) (w : World) : Calls Tryd.prog 40 #[.int .i64 n] w fun e w' => e = .returned (.string ⟨(frName n).toArray⟩) ∧ Below w.heap.size w w' := by
  have K := Lib.hid fun W => refWho_any n W
  rcases who_cases n with ⟨rfl, hw⟩ | ⟨rfl, hw⟩ | ⟨⟨h1, h2⟩, hw⟩ | ⟨⟨h1, h2⟩, hw⟩ | ⟨⟨h1, h2, h3, h4⟩, hw⟩
  · rw [hw] at K
    clear hw
    go_enter Tryd.func40, Tryd.ntmps40
    go_wp2_with (go_at_call 39; refine (K.out _).mono ?_; rintro e w' ⟨rfl, rfl⟩)
    go_ret
    exact ⟨rfl, Below.refl _ _⟩
  · rw [hw] at K
    clear hw
    go_enter Tryd.func40, Tryd.ntmps40
    go_wp2_with (go_at_call 39; refine (K.out _).mono ?_; rintro e w' ⟨rfl, rfl⟩)
    go_ret
    exact ⟨rfl, Below.refl _ _⟩
  · rw [hw] at K
    have d1 : (n == 0) = false := by simp; omega
    have d2 : (n == 64) = false := by simp; omega
    have d3 : decide (n < (64 : Int)) = true := by simp; omega
    obtain ⟨i, rfl⟩ := Int.eq_ofNat_of_zero_le (show 0 ≤ n by omega)
    have hf : frName (i : Int) = sS ++ Lib.decDigits i := by
      unfold frName
      rw [if_neg (by omega), if_neg (by omega), if_pos ⟨h1, h2⟩, Int.toNat_natCast]
    rw [hf]
    have hds := digits_size i (by omega)
    have KN := Lib.hid fun W => numeral_any i W (by omega)
    clear hw hf
    generalize Lib.decDigits i = ds at *
    have hlen : ¬ (maxLen < 5 + ds.length) := by unfold maxLen; omega
    go_enter Tryd.func40, Tryd.ntmps40
    go_wp2_with (go_at_call 39; refine (K.out _).mono ?_; rintro e w' ⟨rfl, rfl⟩)
    refine (KN.out _).mono ?_
    rintro e w1 ⟨rfl, hb⟩
    have HB := Lib.hid hb
    clear hb
    go_wp2_with fail
    go_ret
    exact ⟨congrArg (fun q => Ending.returned (.string q)) (str_app sS ds), HB.out⟩
  · rw [hw] at K
    have d1 : (n == 0) = false := by simp; omega
    have d2 : (n == 64) = false := by simp; omega
    have d3 : decide (n < (64 : Int)) = false := by simp; omega
    obtain ⟨i, hi0⟩ := Int.eq_ofNat_of_zero_le (show 0 ≤ n - 128 by omega)
    have hf : frName n = sC ++ Lib.decDigits i := by
      unfold frName
      rw [if_neg (by omega), if_neg (by omega), if_neg (by omega), if_pos ⟨h1, h2⟩, hi0, Int.toNat_natCast]
    rw [hf]
    have hds := digits_size i (by omega)
    have KN := Lib.hid fun W => numeral_any i W (by omega)
    have HI := Lib.hid hi0
    clear hw hf hi0
    generalize Lib.decDigits i = ds at *
    have hlen : ¬ (maxLen < 6 + ds.length) := by unfold maxLen; omega
    go_enter Tryd.func40, Tryd.ntmps40
    go_wp2_with (go_at_call 39; refine (K.out _).mono ?_; rintro e w' ⟨rfl, rfl⟩)
    rw [HI.out]
    refine (KN.out _).mono ?_
    rintro e w1 ⟨rfl, hb⟩
    have HB := Lib.hid hb
    clear hb
    go_wp2_with fail
    go_ret
    exact ⟨congrArg (fun q => Ending.returned (.string q)) (str_app sC ds), HB.out⟩
  · rw [hw] at K
    have hf : frName n = [] := by
      unfold frName
      rw [if_neg h1, if_neg h2, if_neg (by omega), if_neg (by omega)]
    rw [hf]
    clear hw h1 h2 h3 h4 hf
    go_enter Tryd.func40, Tryd.ntmps40
    go_wp2_with (go_at_call 39; refine (K.out _).mono ?_; rintro e w' ⟨rfl, rfl⟩)
    go_ret
    exact ⟨rfl, Below.refl _ _⟩
end Go.Proofs.YtbapkamopelgpaaDoor
