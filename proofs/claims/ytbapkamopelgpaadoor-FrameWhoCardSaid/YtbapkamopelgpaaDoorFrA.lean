/- Frames: who there is, and names. -/
import Derived.Test.YtbapkamopelgpaaDoorOctB
import Derived.Test.YtbapkamopelgpaaDoorItoa
namespace Go.Proofs.YtbapkamopelgpaaDoor
open Go.RowKit Go.Stop Go.Extern Go.Ranges Go.Rows2
set_option linter.unusedVariables false
set_option linter.unusedSimpArgs false
set_option maxRecDepth 20000
/-- Is there such a one? -/
def whoB (n : Int) : Bool := decide (n = 0) || decide (n = 64) || (decide (1 ≤ n) && decide (n ≤ 16)) || (decide (128 ≤ n) && decide (n ≤ 135))
def shardN (n : Int) : Int := if 1 ≤ n ∧ n ≤ 16 then n else 0
theorem who_cases (n : Int) : (n = 0 ∧ whoB n = true) ∨ (n = 64 ∧ whoB n = true) ∨ ((1 ≤ n ∧ n ≤ 16) ∧ whoB n = true) ∨ ((128 ≤ n ∧ n ≤ 135) ∧ whoB n = true) ∨ ((n ≠ 0 ∧ n ≠ 64 ∧ (n < 1 ∨ 16 < n) ∧ (n < 128 ∨ 135 < n)) ∧ whoB n = false) := by
  unfold whoB
  by_cases h0 : n = 0
  · left; simp [h0]
  · by_cases h1 : n = 64
    · right; left; simp [h1]
    · by_cases h2 : 1 ≤ n ∧ n ≤ 16
      · right; right; left; simp [h2]
      · by_cases h3 : 128 ≤ n ∧ n ≤ 135
        · right; right; right; left; simp [h3]
        · right; right; right; right
          refine ⟨⟨h0, h1, by omega, by omega⟩, ?_⟩
          simp only [Bool.or_eq_false_iff, decide_eq_false_iff_not, Bool.and_eq_false_iff]
          omega
theorem shard_yes (n : Int) (w : World) (h1 : 1 ≤ n) (h2 : n ≤ 16) : Calls Tryd.prog 38 #[.int .i64 n] w fun e w' => e = .returned (.int .i64 n) ∧ w = w' := by
  have d1 : decide (n < 1) = false := by simp; omega
  have d2 : decide ((16 : Int) < n) = false := by simp; omega
  go_enter Tryd.func38, Tryd.ntmps38
  go_wp2
  go_ret
  exact ⟨rfl, rfl⟩
theorem shard_no (n : Int) (w : World) (h : n < 1 ∨ 16 < n) : Calls Tryd.prog 38 #[.int .i64 n] w fun e w' => e = .returned (.int .i64 0) ∧ w = w' := by
  go_enter Tryd.func38, Tryd.ntmps38
  by_cases h1 : n < 1
  · have d1 : decide (n < 1) = true := by simpa using h1
    go_wp2
    go_ret
    exact ⟨rfl, rfl⟩
  · have d1 : decide (n < 1) = false := by simpa using h1
    have d2 : decide ((16 : Int) < n) = true := by simp; omega
    clear h h1
    go_wp2
    go_ret
    exact ⟨rfl, rfl⟩
theorem shard_any (n : Int) (w : World) : Calls Tryd.prog 38 #[.int .i64 n] w fun e w' => e = .returned (.int .i64 (shardN n)) ∧ w = w' := by
  unfold shardN
  by_cases h : 1 ≤ n ∧ n ≤ 16
  · rw [if_pos h]; exact shard_yes n w h.1 h.2
  · rw [if_neg h]; exact shard_no n w (by omega)
theorem client_yes (n : Int) (w : World) (h1 : 128 ≤ n) (h2 : n ≤ 135) : Calls Tryd.prog 66 #[.int .i64 n] w fun e w' => e = .returned (.bool true) ∧ w = w' := by
  have d1 : decide ((128 : Int) ≤ n) = true := by simpa using h1
  have d2 : decide (n < (136 : Int)) = true := by simp; omega
  go_enter Tryd.func66, Tryd.ntmps66
  go_wp2
  go_ret
  exact ⟨rfl, rfl⟩
theorem client_no (n : Int) (w : World) (h : n < 128 ∨ 135 < n) : Calls Tryd.prog 66 #[.int .i64 n] w fun e w' => e = .returned (.bool false) ∧ w = w' := by
  go_enter Tryd.func66, Tryd.ntmps66
  by_cases h1 : n < 128
  · have d1 : decide ((128 : Int) ≤ n) = false := by simp; omega
    clear h h1
    go_wp2
    go_ret
    exact ⟨rfl, rfl⟩
  · have d1 : decide ((128 : Int) ≤ n) = true := by simp; omega
    have d2 : decide (n < (136 : Int)) = false := by simp; omega
    clear h h1
    go_wp2
    go_ret
    exact ⟨rfl, rfl⟩
theorem who_any (n : Int) (w : World) : Calls Tryd.prog 37 #[.int .i64 n] w fun e w' => e = .returned (.bool (whoB n)) ∧ w = w' := by
  rcases who_cases n with ⟨rfl, hw⟩ | ⟨rfl, hw⟩ | ⟨⟨h1, h2⟩, hw⟩ | ⟨⟨h1, h2⟩, hw⟩ | ⟨⟨h1, h2, h3, h4⟩, hw⟩
  · rw [hw]
    go_enter Tryd.func37, Tryd.ntmps37
    go_wp2_with fail
    go_ret
    exact ⟨rfl, rfl⟩
  · rw [hw]
    go_enter Tryd.func37, Tryd.ntmps37
    go_wp2_with fail
    go_ret
    exact ⟨rfl, rfl⟩
  · rw [hw]
    have d1 : (n == 0) = false := by simp; omega
    have d2 : (n == 64) = false := by simp; omega
    have d3 : decide ((0 : Int) < n) = true := by simp; omega
    clear hw
    go_enter Tryd.func37, Tryd.ntmps37
    go_wp2_with (go_at_call 38; refine (shard_yes n _ h1 h2).mono ?_; rintro e w' ⟨rfl, rfl⟩)
    go_ret
    exact ⟨rfl, rfl⟩
  · rw [hw]
    have d1 : (n == 0) = false := by simp; omega
    have d2 : (n == 64) = false := by simp; omega
    clear hw
    go_enter Tryd.func37, Tryd.ntmps37
    go_wp2_with (first
      | (go_at_call 38; refine (shard_no n _ (by omega)).mono ?_; rintro e w' ⟨rfl, rfl⟩)
      | (go_at_call 66; refine (client_yes n _ h1 h2).mono ?_; rintro e w' ⟨rfl, rfl⟩))
    go_ret
    exact ⟨rfl, rfl⟩
  · rw [hw]
    have d1 : (n == 0) = false := by simpa using h1
    have d2 : (n == 64) = false := by simpa using h2
    have H3 := Lib.hid h3
    have H4 := Lib.hid h4
    clear hw h1 h2 h3 h4
    go_enter Tryd.func37, Tryd.ntmps37
    go_wp2_with (first
      | (go_at_call 38; refine (shard_no n _ H3.out).mono ?_; rintro e w' ⟨rfl, rfl⟩)
      | (go_at_call 66; refine (client_no n _ H4.out).mono ?_; rintro e w' ⟨rfl, rfl⟩))
    go_ret
    exact ⟨rfl, rfl⟩
def sR : List UInt8 := [114, 111, 117, 116, 101, 114]
def sM : List UInt8 := [109, 111, 118, 101, 114]
def sS : List UInt8 := [115, 104, 97, 114, 100]
def sC : List UInt8 := [99, 108, 105, 101, 110, 116]
/-- Who it is. -/
def frName (n : Int) : List UInt8 :=
  if n = 0 then sR else if n = 64 then sM else if 1 ≤ n ∧ n ≤ 16 then sS ++ Lib.decDigits n.toNat else if 128 ≤ n ∧ n ≤ 135 then sC ++ Lib.decDigits (n - 128).toNat else []
theorem str_app (a b : List UInt8) : ((⟨a.toArray⟩ : ByteArray) ++ ⟨b.toArray⟩) = ⟨(a ++ b).toArray⟩ := by
  apply ByteArray.ext
  simp
theorem itoa_any (i : Nat) (hi : i < 100) (w : World) : Calls Tryd.prog 65 #[.int .i64 i] w fun e w' => e = .returned (.string ⟨(Lib.decDigits i).toArray⟩) ∧ w = w' :=
  (Any.strconv_Itoa_small Tryd.lays171 i hi w).mono fun e w' ⟨h1, h2⟩ => ⟨h1, h2.symm⟩
theorem digits_size (i : Nat) (hi : i < 100) : (Lib.decDigits i).length ≤ 2 := by
  unfold Lib.decDigits
  split
  · simp
  · rw [List.length_append]
    unfold Lib.decDigits
    rw [dif_pos (by omega)]
    simp
set_option maxHeartbeats 1000000 in
theorem frNm_any (n : Int) (w : World) : Calls Tryd.prog 36 #[.int .i64 n] w fun e w' => e = .returned (.string ⟨(frName n).toArray⟩) ∧ w = w' := by
  rcases who_cases n with ⟨rfl, hw⟩ | ⟨rfl, hw⟩ | ⟨⟨h1, h2⟩, hw⟩ | ⟨⟨h1, h2⟩, hw⟩ | ⟨⟨h1, h2, h3, h4⟩, hw⟩
  · clear hw
    go_enter Tryd.func36, Tryd.ntmps36
    go_wp2_with fail
    go_ret
    exact ⟨rfl, rfl⟩
  · clear hw
    go_enter Tryd.func36, Tryd.ntmps36
    go_wp2_with fail
    go_ret
    exact ⟨rfl, rfl⟩
  · have d1 : (n == 0) = false := by simp; omega
    have d2 : (n == 64) = false := by simp; omega
    have d3 : decide ((0 : Int) < n) = true := by simp; omega
    obtain ⟨i, rfl⟩ := Int.eq_ofNat_of_zero_le (show 0 ≤ n by omega)
    have hf : frName (i : Int) = sS ++ Lib.decDigits i := by
      unfold frName
      rw [if_neg (by omega), if_neg (by omega), if_pos ⟨h1, h2⟩, Int.toNat_natCast]
    rw [hf]
    have hds := digits_size i (by omega)
    have hi : i < 100 := by omega
    clear hw hf
    generalize hdd : Lib.decDigits i = ds at *
    have HDD := Lib.hid hdd
    clear hdd
    have hlen : ¬ (maxLen < 5 + ds.length) := by unfold maxLen; omega
    go_enter Tryd.func36, Tryd.ntmps36
    go_wp2_with (go_at_call 38; refine (shard_yes _ _ h1 h2).mono ?_; rintro e w' ⟨rfl, rfl⟩)
    refine (itoa_any i hi _).mono ?_
    rintro e w' ⟨rfl, rfl⟩
    rw [HDD.out]
    go_wp2_with fail
    go_ret
    exact ⟨congrArg (fun q => Ending.returned (.string q)) (str_app sS ds), rfl⟩
  · have d1 : (n == 0) = false := by simp; omega
    have d2 : (n == 64) = false := by simp; omega
    obtain ⟨i, hi0⟩ := Int.eq_ofNat_of_zero_le (show 0 ≤ n - 128 by omega)
    have hf : frName n = sC ++ Lib.decDigits i := by
      unfold frName
      rw [if_neg (by omega), if_neg (by omega), if_neg (by omega), if_pos ⟨h1, h2⟩, hi0, Int.toNat_natCast]
    rw [hf]
    have hds := digits_size i (by omega)
    have hi : i < 100 := by omega
    have HI := Lib.hid hi0
    clear hw hf hi0
    generalize hdd : Lib.decDigits i = ds at *
    have HDD := Lib.hid hdd
    clear hdd
    have hlen : ¬ (maxLen < 6 + ds.length) := by unfold maxLen; omega
    go_enter Tryd.func36, Tryd.ntmps36
    go_wp2_with (first
      | (go_at_call 38; refine (shard_no _ _ (by omega)).mono ?_; rintro e w' ⟨rfl, rfl⟩)
      | (go_at_call 66; refine (client_yes _ _ h1 h2).mono ?_; rintro e w' ⟨rfl, rfl⟩))
    rw [HI.out]
    refine (itoa_any i hi _).mono ?_
    rintro e w' ⟨rfl, rfl⟩
    rw [HDD.out]
    go_wp2_with fail
    go_ret
    exact ⟨congrArg (fun q => Ending.returned (.string q)) (str_app sC ds), rfl⟩
  · have d1 : (n == 0) = false := by simpa using h1
    have d2 : (n == 64) = false := by simpa using h2
    have hf : frName n = [] := by
      unfold frName
      rw [if_neg h1, if_neg h2, if_neg (by omega), if_neg (by omega)]
    rw [hf]
    have H3 := Lib.hid h3
    have H4 := Lib.hid h4
    clear hw h1 h2 h3 h4 hf
    go_enter Tryd.func36, Tryd.ntmps36
    go_wp2_with (first
      | (go_at_call 38; refine (shard_no n _ H3.out).mono ?_; rintro e w' ⟨rfl, rfl⟩)
      | (go_at_call 66; refine (client_no n _ H4.out).mono ?_; rintro e w' ⟨rfl, rfl⟩))
    go_ret
    exact ⟨rfl, rfl⟩
end Go.Proofs.YtbapkamopelgpaaDoor
