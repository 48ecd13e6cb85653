/- DERIVED: THE SHELF's CONTRACTS AT THIS DUMP, IN PLAIN WORDS (tools/lay-plain.mjs out of 'YtbapkamopelgpaaDoorItoa.lean', which tools/lay-shelf.mjs wrote): THE SAME DECLARATIONS UNDER THE SAME NAMES: 'import', 'namespace', 'open', 'def', 'theorem' AND NOTHING ELSE: no command of the shelf's: FOR A HAND-IN. Each laying: the table of numbers ('.._ren') and one theorem, a field a fact of the dump's own or the kernel's comparison; each contract: ONE APPLICATION. Frames: who there is, and names. Frames: the reference's names. -/
import Derived.Test.YtbapkamopelgpaaDoorFrameBytesD
import Derived.Shelf.Strconv.Itoa3
import Derived.Ground.NamesProg
import Derived.Test.YtbapkamopelgpaaDoorProg
namespace Go.Proofs
open Go.Shelf
def Tryd.lays171_ren : Go.Shelf.Ren := ⟨fun | 171 => 65 | 243 => 83 | 246 => 96 | 283 => 112 | 284 => 113 | 285 => 114 | 286 => 115 | 129 => 123 | 317 => 122 | 318 => 124 | 319 => 125 | 320 => 126 | 337 => 130 | 338 => 131 | n => n, fun | 3 => 3 | 9 => 9 | 2 => 2 | 4 => 4 | 171 => 171 | 0 => 0 | 53 => 123 | 37 => 22 | 5 => 5 | 173 => 174 | 212 => 185 | 51 => 126 | 20 => 20 | 213 => 186 | 46 => 45 | 232 => 107 | 233 => 197 | n => n, fun | 17 => 25 | 18 => 28 | 19 => 29 | n => n⟩
theorem Tryd.lays171 : Go.Proofs.Lays.n171 Tryd.prog Tryd.lays171_ren := {
  mixed := by kernel_rfl
  f129 := Tryd.func123.trans (congrArg some (by kernel_rfl))
  f171 := Tryd.func65.trans (congrArg some (by kernel_rfl))
  f243 := Tryd.func83.trans (congrArg some (by kernel_rfl))
  f246 := Tryd.func96.trans (congrArg some (by kernel_rfl))
  f283 := Tryd.func112.trans (congrArg some (by kernel_rfl))
  f284 := Tryd.func113.trans (congrArg some (by kernel_rfl))
  f285 := Tryd.func114.trans (congrArg some (by kernel_rfl))
  f286 := Tryd.func115.trans (congrArg some (by kernel_rfl))
  f317 := Tryd.func122.trans (congrArg some (by kernel_rfl))
  f318 := Tryd.func124.trans (congrArg some (by kernel_rfl))
  f319 := Tryd.func125.trans (congrArg some (by kernel_rfl))
  f320 := Tryd.func126.trans (congrArg some (by kernel_rfl))
  f337 := Tryd.func130.trans (congrArg some (by kernel_rfl))
  f338 := Tryd.func131.trans (congrArg some (by kernel_rfl))
  t0 := Tryd.underlying0
  a0 := Tryd.isAgg0
  z0 := Tryd.sizeOf0
  v0 := Tryd.zeroValue0
  t2 := Tryd.underlying2
  a2 := Tryd.isAgg2
  z2 := Tryd.sizeOf2
  v2 := Tryd.zeroValue2
  t3 := Tryd.underlying3
  a3 := Tryd.isAgg3
  z3 := Tryd.sizeOf3
  v3 := Tryd.zeroValue3
  t4 := Tryd.underlying4
  a4 := Tryd.isAgg4
  z4 := Tryd.sizeOf4
  v4 := Tryd.zeroValue4
  t5 := Tryd.underlying5
  a5 := Tryd.isAgg5
  z5 := Tryd.sizeOf5
  v5 := Tryd.zeroValue5
  t9 := Tryd.underlying9
  a9 := Tryd.isAgg9
  z9 := Tryd.sizeOf9
  v9 := Tryd.zeroValue9
  t20 := Tryd.underlying20
  a20 := Tryd.isAgg20
  z20 := Tryd.sizeOf20
  v20 := Tryd.zeroValue20
  t37 := Tryd.underlying22
  a37 := Tryd.isAgg22
  z37 := Tryd.sizeOf22
  v37 := Tryd.zeroValue22
  t46 := Tryd.underlying45
  a46 := Tryd.isAgg45
  z46 := Tryd.sizeOf45
  v46 := Tryd.zeroValue45
  t51 := Tryd.underlying126
  a51 := Tryd.isAgg126
  z51 := Tryd.sizeOf126
  v51 := Tryd.zeroValue126
  t53 := Tryd.underlying123
  a53 := Tryd.isAgg123
  z53 := Tryd.sizeOf123
  v53 := Tryd.zeroValue123
  t171 := Tryd.underlying171
  a171 := Tryd.isAgg171
  z171 := Tryd.sizeOf171
  v171 := Tryd.zeroValue171
  t173 := Tryd.underlying174
  a173 := Tryd.isAgg174
  z173 := Tryd.sizeOf174
  v173 := Tryd.zeroValue174
  t212 := Tryd.underlying185
  a212 := Tryd.isAgg185
  z212 := Tryd.sizeOf185
  v212 := Tryd.zeroValue185
  t213 := Tryd.underlying186
  a213 := Tryd.isAgg186
  z213 := Tryd.sizeOf186
  t232 := Tryd.underlying107
  a232 := Tryd.isAgg107
  z232 := Tryd.sizeOf107
  v232 := Tryd.zeroValue107
  t233 := Tryd.underlying197
  a233 := Tryd.isAgg197
  z233 := Tryd.sizeOf197
  v233 := Tryd.zeroValue197
  g17 := by kernel_rfl
  g18 := by kernel_rfl
  g19 := by kernel_rfl }
end Go.Proofs

namespace Go.Proofs.YtbapkamopelgpaaDoor
open Go.RowKit Go.Stop Go.Extern Go.Ranges Go.Rows2
set_option linter.unusedVariables false
set_option linter.unusedSimpArgs false
set_option maxRecDepth 20000
/-- Is there such a one? -/
def whoB (n : Int) : Bool := decide (n = 0) || decide (n = 64) || (decide (1 ≤ n) && decide (n ≤ 16)) || (decide (128 ≤ n) && decide (n ≤ 135))
def shardN (n : Int) : Int := if 1 ≤ n ∧ n ≤ 16 then n else 0
theorem who_cases (n : Int) : (n = 0 ∧ whoB n = true) ∨ (n = 64 ∧ whoB n = true) ∨ ((1 ≤ n ∧ n ≤ 16) ∧ whoB n = true) ∨ ((128 ≤ n ∧ n ≤ 135) ∧ whoB n = true) ∨ ((n ≠ 0 ∧ n ≠ 64 ∧ (n < 1 ∨ 16 < n) ∧ (n < 128 ∨ 135 < n)) ∧ whoB n = false) := by
  unfold whoB
  by_cases h0 : n = 0
  · left; simp [h0]
  · by_cases h1 : n = 64
    · right; left; simp [h1]
    · by_cases h2 : 1 ≤ n ∧ n ≤ 16
      · right; right; left; simp [h2]
      · by_cases h3 : 128 ≤ n ∧ n ≤ 135
        · right; right; right; left; simp [h3]
        · right; right; right; right
          refine ⟨⟨h0, h1, by omega, by omega⟩, ?_⟩
          simp only [Bool.or_eq_false_iff, decide_eq_false_iff_not, Bool.and_eq_false_iff]
          omega
theorem shard_yes (n : Int) (w : World) (h1 : 1 ≤ n) (h2 : n ≤ 16) : Calls Tryd.prog 38 #[.int .i64 n] w fun e w' => e = .returned (.int .i64 n) ∧ w = w' := by
  have d1 : decide (n < 1) = false := by simp; omega
  have d2 : decide ((16 : Int) < n) = false := by simp; omega
  go_enter Tryd.func38, Tryd.ntmps38
  go_wp2
  go_ret
  exact ⟨rfl, rfl⟩
theorem shard_no (n : Int) (w : World) (h : n < 1 ∨ 16 < n) : Calls Tryd.prog 38 #[.int .i64 n] w fun e w' => e = .returned (.int .i64 0) ∧ w = w' := by
  go_enter Tryd.func38, Tryd.ntmps38
  by_cases h1 : n < 1
  · have d1 : decide (n < 1) = true := by simpa using h1
    go_wp2
    go_ret
    exact ⟨rfl, rfl⟩
  · have d1 : decide (n < 1) = false := by simpa using h1
    have d2 : decide ((16 : Int) < n) = true := by simp; omega
    clear h h1
    go_wp2
    go_ret
    exact ⟨rfl, rfl⟩
theorem shard_any (n : Int) (w : World) : Calls Tryd.prog 38 #[.int .i64 n] w fun e w' => e = .returned (.int .i64 (shardN n)) ∧ w = w' := by
  unfold shardN
  by_cases h : 1 ≤ n ∧ n ≤ 16
  · rw [if_pos h]; exact shard_yes n w h.1 h.2
  · rw [if_neg h]; exact shard_no n w (by omega)
theorem client_yes (n : Int) (w : World) (h1 : 128 ≤ n) (h2 : n ≤ 135) : Calls Tryd.prog 66 #[.int .i64 n] w fun e w' => e = .returned (.bool true) ∧ w = w' := by
  have d1 : decide ((128 : Int) ≤ n) = true := by simpa using h1
  have d2 : decide (n < (136 : Int)) = true := by simp; omega
  go_enter Tryd.func66, Tryd.ntmps66
  go_wp2
  go_ret
  exact ⟨rfl, rfl⟩
theorem client_no (n : Int) (w : World) (h : n < 128 ∨ 135 < n) : Calls Tryd.prog 66 #[.int .i64 n] w fun e w' => e = .returned (.bool false) ∧ w = w' := by
  go_enter Tryd.func66, Tryd.ntmps66
  by_cases h1 : n < 128
  · have d1 : decide ((128 : Int) ≤ n) = false := by simp; omega
    clear h h1
    go_wp2
    go_ret
    exact ⟨rfl, rfl⟩
  · have d1 : decide ((128 : Int) ≤ n) = true := by simp; omega
    have d2 : decide (n < (136 : Int)) = false := by simp; omega
    clear h h1
    go_wp2
    go_ret
    exact ⟨rfl, rfl⟩
theorem who_any (n : Int) (w : World) : Calls Tryd.prog 37 #[.int .i64 n] w fun e w' => e = .returned (.bool (whoB n)) ∧ w = w' := by
  rcases who_cases n with ⟨rfl, hw⟩ | ⟨rfl, hw⟩ | ⟨⟨h1, h2⟩, hw⟩ | ⟨⟨h1, h2⟩, hw⟩ | ⟨⟨h1, h2, h3, h4⟩, hw⟩
  · rw [hw]
    go_enter Tryd.func37, Tryd.ntmps37
    go_wp2_with fail
    go_ret
    exact ⟨rfl, rfl⟩
  · rw [hw]
    go_enter Tryd.func37, Tryd.ntmps37
    go_wp2_with fail
    go_ret
    exact ⟨rfl, rfl⟩
  · rw [hw]
    have d1 : (n == 0) = false := by simp; omega
    have d2 : (n == 64) = false := by simp; omega
    have d3 : decide ((0 : Int) < n) = true := by simp; omega
    clear hw
    go_enter Tryd.func37, Tryd.ntmps37
    go_wp2_with (go_at_call 38; refine (shard_yes n _ h1 h2).mono ?_; rintro e w' ⟨rfl, rfl⟩)
    go_ret
    exact ⟨rfl, rfl⟩
  · rw [hw]
    have d1 : (n == 0) = false := by simp; omega
    have d2 : (n == 64) = false := by simp; omega
    clear hw
    go_enter Tryd.func37, Tryd.ntmps37
    go_wp2_with (first
      | (go_at_call 38; refine (shard_no n _ (by omega)).mono ?_; rintro e w' ⟨rfl, rfl⟩)
      | (go_at_call 66; refine (client_yes n _ h1 h2).mono ?_; rintro e w' ⟨rfl, rfl⟩))
    go_ret
    exact ⟨rfl, rfl⟩
  · rw [hw]
    have d1 : (n == 0) = false := by simpa using h1
    have d2 : (n == 64) = false := by simpa using h2
    have H3 := Lib.hid h3
    have H4 := Lib.hid h4
    clear hw h1 h2 h3 h4
    go_enter Tryd.func37, Tryd.ntmps37
    go_wp2_with (first
      | (go_at_call 38; refine (shard_no n _ H3.out).mono ?_; rintro e w' ⟨rfl, rfl⟩)
      | (go_at_call 66; refine (client_no n _ H4.out).mono ?_; rintro e w' ⟨rfl, rfl⟩))
    go_ret
    exact ⟨rfl, rfl⟩
def sR : List UInt8 := [114, 111, 117, 116, 101, 114]
def sM : List UInt8 := [109, 111, 118, 101, 114]
def sS : List UInt8 := [115, 104, 97, 114, 100]
def sC : List UInt8 := [99, 108, 105, 101, 110, 116]
/-- Who it is. -/
def frName (n : Int) : List UInt8 :=
  if n = 0 then sR else if n = 64 then sM else if 1 ≤ n ∧ n ≤ 16 then sS ++ Lib.decDigits n.toNat else if 128 ≤ n ∧ n ≤ 135 then sC ++ Lib.decDigits (n - 128).toNat else []
theorem str_app (a b : List UInt8) : ((⟨a.toArray⟩ : ByteArray) ++ ⟨b.toArray⟩) = ⟨(a ++ b).toArray⟩ := by
  apply ByteArray.ext
  simp
theorem itoa_any (i : Nat) (hi : i < 100) (w : World) : Calls Tryd.prog 65 #[.int .i64 i] w fun e w' => e = .returned (.string ⟨(Lib.decDigits i).toArray⟩) ∧ w = w' :=
  (Any.strconv_Itoa_small Tryd.lays171 i hi w).mono fun e w' ⟨h1, h2⟩ => ⟨h1, h2.symm⟩
theorem digits_size (i : Nat) (hi : i < 100) : (Lib.decDigits i).length ≤ 2 := by
  unfold Lib.decDigits
  split
  · simp
  · rw [List.length_append]
    unfold Lib.decDigits
    rw [dif_pos (by omega)]
    simp
set_option maxHeartbeats 1000000 in
theorem frNm_any (n : Int) (w : World) : Calls Tryd.prog 36 #[.int .i64 n] w fun e w' => e = .returned (.string ⟨(frName n).toArray⟩) ∧ w = w' := by
  rcases who_cases n with ⟨rfl, hw⟩ | ⟨rfl, hw⟩ | ⟨⟨h1, h2⟩, hw⟩ | ⟨⟨h1, h2⟩, hw⟩ | ⟨⟨h1, h2, h3, h4⟩, hw⟩
  · clear hw
    go_enter Tryd.func36, Tryd.ntmps36
    go_wp2_with fail
    go_ret
    exact ⟨rfl, rfl⟩
  · clear hw
    go_enter Tryd.func36, Tryd.ntmps36
    go_wp2_with fail
    go_ret
    exact ⟨rfl, rfl⟩
  · have d1 : (n == 0) = false := by simp; omega
    have d2 : (n == 64) = false := by simp; omega
    have d3 : decide ((0 : Int) < n) = true := by simp; omega
    obtain ⟨i, rfl⟩ := Int.eq_ofNat_of_zero_le (show 0 ≤ n by omega)
    have hf : frName (i : Int) = sS ++ Lib.decDigits i := by
      unfold frName
      rw [if_neg (by omega), if_neg (by omega), if_pos ⟨h1, h2⟩, Int.toNat_natCast]
    rw [hf]
    have hds := digits_size i (by omega)
    have hi : i < 100 := by omega
    clear hw hf
    generalize hdd : Lib.decDigits i = ds at *
    have HDD := Lib.hid hdd
    clear hdd
    have hlen : ¬ (maxLen < 5 + ds.length) := by unfold maxLen; omega
    go_enter Tryd.func36, Tryd.ntmps36
    go_wp2_with (go_at_call 38; refine (shard_yes _ _ h1 h2).mono ?_; rintro e w' ⟨rfl, rfl⟩)
    refine (itoa_any i hi _).mono ?_
    rintro e w' ⟨rfl, rfl⟩
    rw [HDD.out]
    go_wp2_with fail
    go_ret
    exact ⟨congrArg (fun q => Ending.returned (.string q)) (str_app sS ds), rfl⟩
  · have d1 : (n == 0) = false := by simp; omega
    have d2 : (n == 64) = false := by simp; omega
    obtain ⟨i, hi0⟩ := Int.eq_ofNat_of_zero_le (show 0 ≤ n - 128 by omega)
    have hf : frName n = sC ++ Lib.decDigits i := by
      unfold frName
      rw [if_neg (by omega), if_neg (by omega), if_neg (by omega), if_pos ⟨h1, h2⟩, hi0, Int.toNat_natCast]
    rw [hf]
    have hds := digits_size i (by omega)
    have hi : i < 100 := by omega
    have HI := Lib.hid hi0
    clear hw hf hi0
    generalize hdd : Lib.decDigits i = ds at *
    have HDD := Lib.hid hdd
    clear hdd
    have hlen : ¬ (maxLen < 6 + ds.length) := by unfold maxLen; omega
    go_enter Tryd.func36, Tryd.ntmps36
    go_wp2_with (first
      | (go_at_call 38; refine (shard_no _ _ (by omega)).mono ?_; rintro e w' ⟨rfl, rfl⟩)
      | (go_at_call 66; refine (client_yes _ _ h1 h2).mono ?_; rintro e w' ⟨rfl, rfl⟩))
    rw [HI.out]
    refine (itoa_any i hi _).mono ?_
    rintro e w' ⟨rfl, rfl⟩
    rw [HDD.out]
    go_wp2_with fail
    go_ret
    exact ⟨congrArg (fun q => Ending.returned (.string q)) (str_app sC ds), rfl⟩
  · have d1 : (n == 0) = false := by simpa using h1
    have d2 : (n == 64) = false := by simpa using h2
    have hf : frName n = [] := by
      unfold frName
      rw [if_neg h1, if_neg h2, if_neg (by omega), if_neg (by omega)]
    rw [hf]
    have H3 := Lib.hid h3
    have H4 := Lib.hid h4
    clear hw h1 h2 h3 h4 hf
    go_enter Tryd.func36, Tryd.ntmps36
    go_wp2_with (first
      | (go_at_call 38; refine (shard_no n _ H3.out).mono ?_; rintro e w' ⟨rfl, rfl⟩)
      | (go_at_call 66; refine (client_no n _ H4.out).mono ?_; rintro e w' ⟨rfl, rfl⟩))
    go_ret
    exact ⟨rfl, rfl⟩
end Go.Proofs.YtbapkamopelgpaaDoor

namespace Go.Proofs.YtbapkamopelgpaaDoor
open Go.RowKit Go.Stop Go.Extern Go.Ranges Go.Rows2
set_option linter.unusedVariables false
set_option linter.unusedSimpArgs false
set_option maxRecDepth 20000
theorem refWho_any (n : Int) (w : World) : Calls Tryd.prog 39 #[.int .i64 n] w fun e w' => e = .returned (.bool (whoB n)) ∧ w = w' := by
  rcases who_cases n with ⟨rfl, hw⟩ | ⟨rfl, hw⟩ | ⟨⟨h1, h2⟩, hw⟩ | ⟨⟨h1, h2⟩, hw⟩ | ⟨⟨h1, h2, h3, h4⟩, hw⟩
  · rw [hw]
    go_enter Tryd.func39, Tryd.ntmps39
    go_wp2_with fail
    go_ret
    exact ⟨rfl, rfl⟩
  · rw [hw]
    go_enter Tryd.func39, Tryd.ntmps39
    go_wp2_with fail
    go_ret
    exact ⟨rfl, rfl⟩
  · rw [hw]
    have d1 : decide ((0 : Int) ≤ n) = true := by simp; omega
    have d2 : decide (n ≤ (16 : Int)) = true := by simpa using h2
    go_enter Tryd.func39, Tryd.ntmps39
    go_wp2_with fail
    go_ret
    exact ⟨rfl, rfl⟩
  · rw [hw]
    have d1 : decide ((0 : Int) ≤ n) = true := by simp; omega
    have d2 : decide (n ≤ (16 : Int)) = false := by simp; omega
    have d3 : (n == 64) = false := by simp; omega
    have d4 : decide ((128 : Int) ≤ n) = true := by simpa using h1
    have d5 : decide (n ≤ (135 : Int)) = true := by simpa using h2
    go_enter Tryd.func39, Tryd.ntmps39
    go_wp2_with fail
    go_ret
    exact ⟨rfl, rfl⟩
  · rw [hw]
    have d3 : (n == 64) = false := by simpa using h2
    by_cases hz : n < 0
    · have d1 : decide ((0 : Int) ≤ n) = false := by simpa using hz
      have d4 : decide ((128 : Int) ≤ n) = false := by simp; omega
      clear h1 h2 h3 h4 hw
      go_enter Tryd.func39, Tryd.ntmps39
      go_wp2_with fail
      go_ret
      exact ⟨rfl, rfl⟩
    · have d1 : decide ((0 : Int) ≤ n) = true := by simp; omega
      have d2 : decide (n ≤ (16 : Int)) = false := by simp; omega
      by_cases hy : n < 128
      · have d4 : decide ((128 : Int) ≤ n) = false := by simpa using hy
        clear h1 h2 h3 h4 hw hz
        go_enter Tryd.func39, Tryd.ntmps39
        go_wp2_with fail
        go_ret
        exact ⟨rfl, rfl⟩
      · have d4 : decide ((128 : Int) ≤ n) = true := by simp; omega
        have d5 : decide (n ≤ (135 : Int)) = false := by simp; omega
        clear h1 h2 h3 h4 hw hz
        go_enter Tryd.func39, Tryd.ntmps39
        go_wp2_with fail
        go_ret
        exact ⟨rfl, rfl⟩
def figsB : ByteArray := ⟨#[48, 49, 50, 51, 52, 53, 54, 55, 56, 57]⟩
theorem dig1 (i : Nat) (h : i < 10) : figsB.extract i (i + 1) = ⟨(Lib.decDigits i).toArray⟩ := by
  have hd : Lib.decDigits i = [UInt8.ofNat (48 + i)] := by unfold Lib.decDigits; rw [dif_pos h]
  rw [hd]
  have : i = 0 ∨ i = 1 ∨ i = 2 ∨ i = 3 ∨ i = 4 ∨ i = 5 ∨ i = 6 ∨ i = 7 ∨ i = 8 ∨ i = 9 := by omega
  rcases this with rfl | rfl | rfl | rfl | rfl | rfl | rfl | rfl | rfl | rfl <;> rfl
theorem numeral_lo (i : Nat) (w : World) (h : i < 10) : Calls Tryd.prog 67 #[.int .i64 i] w fun e w' => e = .returned (.string ⟨(Lib.decDigits i).toArray⟩) ∧ w = w' := by
  have d1 : decide ((i : Int) < 10) = true := by simp; omega
  have h1 := dig1 i h
  have i0 : (0 : Int) ≤ (i : Int) := by omega
  have i1 : (i : Int) + 1 ≤ 10 := by omega
  unfold figsB at h1
  have H1 := Lib.hid h1
  clear h1
  go_enter Tryd.func67, Tryd.ntmps67
  go_wp2_with fail
  go_ret
  exact ⟨congrArg (fun q => Ending.returned (.string q)) H1.out, rfl⟩
theorem dig2 (i : Nat) (h : 10 ≤ i) (h2 : i < 20) : Lib.decDigits i = [49, UInt8.ofNat (48 + i % 10)] := by
  unfold Lib.decDigits
  rw [dif_neg (by omega)]
  have : i / 10 = 1 := by omega
  rw [this]
  unfold Lib.decDigits
  rw [dif_pos (by decide)]
  rfl
set_option maxHeartbeats 2000000 in
theorem numeral_hi (i : Nat) (w : World) (h : 10 ≤ i) (h2 : i < 20) : Calls Tryd.prog 67 #[.int .i64 i] w fun e w' => e = .returned (.string ⟨(Lib.decDigits i).toArray⟩) ∧ Below w.heap.size w w' := by
  have hd : decide ((i : Int) < 10) = false := by simp; omega
  rw [dig2 i h h2]
  have hi : i = 10 ∨ i = 11 ∨ i = 12 ∨ i = 13 ∨ i = 14 ∨ i = 15 ∨ i = 16 ∨ i = 17 ∨ i = 18 ∨ i = 19 := by omega
  clear h h2
  rcases hi with rfl | rfl | rfl | rfl | rfl | rfl | rfl | rfl | rfl | rfl
  all_goals (
    go_enter Tryd.func67, Tryd.ntmps67
    go_wp2_with fail
    go_quiet (fail)
    go_wp2_with fail
    go_ret
    exact ⟨rfl, below_drewN _ _⟩)
theorem numeral_any (i : Nat) (w : World) (h : i < 20) : Calls Tryd.prog 67 #[.int .i64 i] w fun e w' => e = .returned (.string ⟨(Lib.decDigits i).toArray⟩) ∧ Below w.heap.size w w' := by
  by_cases h1 : i < 10
  · exact (numeral_lo i w h1).mono fun e w' ⟨a, b⟩ => ⟨a, b ▸ Below.refl _ _⟩
  · exact numeral_hi i w (by omega) h
set_option maxHeartbeats 1000000 in
theorem frRefNm_any (n : Int) (w : World) : Calls Tryd.prog 40 #[.int .i64 n] w fun e w' => e = .returned (.string ⟨(frName n).toArray⟩) ∧ Below w.heap.size w w' := by
  have K := Lib.hid fun W => refWho_any n W
  rcases who_cases n with ⟨rfl, hw⟩ | ⟨rfl, hw⟩ | ⟨⟨h1, h2⟩, hw⟩ | ⟨⟨h1, h2⟩, hw⟩ | ⟨⟨h1, h2, h3, h4⟩, hw⟩
  · rw [hw] at K
    clear hw
    go_enter Tryd.func40, Tryd.ntmps40
    go_wp2_with (go_at_call 39; refine (K.out _).mono ?_; rintro e w' ⟨rfl, rfl⟩)
    go_ret
    exact ⟨rfl, Below.refl _ _⟩
  · rw [hw] at K
    clear hw
    go_enter Tryd.func40, Tryd.ntmps40
    go_wp2_with (go_at_call 39; refine (K.out _).mono ?_; rintro e w' ⟨rfl, rfl⟩)
    go_ret
    exact ⟨rfl, Below.refl _ _⟩
  · rw [hw] at K
    have d1 : (n == 0) = false := by simp; omega
    have d2 : (n == 64) = false := by simp; omega
    have d3 : decide (n < (64 : Int)) = true := by simp; omega
    obtain ⟨i, rfl⟩ := Int.eq_ofNat_of_zero_le (show 0 ≤ n by omega)
    have hf : frName (i : Int) = sS ++ Lib.decDigits i := by
      unfold frName
      rw [if_neg (by omega), if_neg (by omega), if_pos ⟨h1, h2⟩, Int.toNat_natCast]
    rw [hf]
    have hds := digits_size i (by omega)
    have KN := Lib.hid fun W => numeral_any i W (by omega)
    clear hw hf
    generalize Lib.decDigits i = ds at *
    have hlen : ¬ (maxLen < 5 + ds.length) := by unfold maxLen; omega
    go_enter Tryd.func40, Tryd.ntmps40
    go_wp2_with (go_at_call 39; refine (K.out _).mono ?_; rintro e w' ⟨rfl, rfl⟩)
    refine (KN.out _).mono ?_
    rintro e w1 ⟨rfl, hb⟩
    have HB := Lib.hid hb
    clear hb
    go_wp2_with fail
    go_ret
    exact ⟨congrArg (fun q => Ending.returned (.string q)) (str_app sS ds), HB.out⟩
  · rw [hw] at K
    have d1 : (n == 0) = false := by simp; omega
    have d2 : (n == 64) = false := by simp; omega
    have d3 : decide (n < (64 : Int)) = false := by simp; omega
    obtain ⟨i, hi0⟩ := Int.eq_ofNat_of_zero_le (show 0 ≤ n - 128 by omega)
    have hf : frName n = sC ++ Lib.decDigits i := by
      unfold frName
      rw [if_neg (by omega), if_neg (by omega), if_neg (by omega), if_pos ⟨h1, h2⟩, hi0, Int.toNat_natCast]
    rw [hf]
    have hds := digits_size i (by omega)
    have KN := Lib.hid fun W => numeral_any i W (by omega)
    have HI := Lib.hid hi0
    clear hw hf hi0
    generalize Lib.decDigits i = ds at *
    have hlen : ¬ (maxLen < 6 + ds.length) := by unfold maxLen; omega
    go_enter Tryd.func40, Tryd.ntmps40
    go_wp2_with (go_at_call 39; refine (K.out _).mono ?_; rintro e w' ⟨rfl, rfl⟩)
    rw [HI.out]
    refine (KN.out _).mono ?_
    rintro e w1 ⟨rfl, hb⟩
    have HB := Lib.hid hb
    clear hb
    go_wp2_with fail
    go_ret
    exact ⟨congrArg (fun q => Ending.returned (.string q)) (str_app sC ds), HB.out⟩
  · rw [hw] at K
    have hf : frName n = [] := by
      unfold frName
      rw [if_neg h1, if_neg h2, if_neg (by omega), if_neg (by omega)]
    rw [hf]
    clear hw h1 h2 h3 h4 hf
    go_enter Tryd.func40, Tryd.ntmps40
    go_wp2_with (go_at_call 39; refine (K.out _).mono ?_; rintro e w' ⟨rfl, rfl⟩)
    go_ret
    exact ⟨rfl, Below.refl _ _⟩
end Go.Proofs.YtbapkamopelgpaaDoor
