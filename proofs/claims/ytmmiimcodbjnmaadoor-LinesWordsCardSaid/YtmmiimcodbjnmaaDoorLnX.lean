/- Lines: a word's answer; what the chapter's example asks for. -/
import Derived.Test.YtmmiimcodbjnmaaDoorLnW
import Derived.Test.YtmmiimcodbjnmaaDoorJoin
namespace Go.Proofs.YtmmiimcodbjnmaaDoor
open Go.RowKit Go.Stop Go.Extern Go.Ranges Go.Rows2
set_option linter.unusedVariables false
set_option linter.unusedSimpArgs false
set_option maxRecDepth 100000
def sEq (a b : ByteArray) : Bool := a.toList == b.toList
theorem sEq_iff {a b : ByteArray} : sEq a b = true ↔ a.data.toList = b.data.toList := by
  unfold sEq
  rw [beq_iff_eq, ByteArray.toList_eq, ByteArray.toList_eq]
theorem sEq_comm (a b : ByteArray) : sEq a b = sEq b a := by
  unfold sEq
  rw [Bool.eq_iff_iff, beq_iff_eq, beq_iff_eq]
  exact ⟨Eq.symm, Eq.symm⟩
theorem liW_ne : ∀ i, i < 11 → ∀ j, j < 11 → (liW i).data.toList = (liW j).data.toList → i = j := by decide
/-- Which word it is. -/
def IxIs (s : ByteArray) (a : Nat) (b : Bool) : Prop := (b = false ∧ a = 0 ∧ ∀ i, i < 11 → sEq s (liW i) = false) ∨ (b = true ∧ a < 11 ∧ sEq s (liW a) = true)
set_option maxHeartbeats 2000000 in
theorem index_any (s : ByteArray) (w : World) (H : LWords w) :
    Calls Tryd.prog 41 #[.slice (some ⟨0, 0, none⟩) 11 11, .string s] w fun e w' => ∃ r : Int, e = .returned (.int .i64 r) ∧ w = w' ∧ ((r = -1 ∧ ∀ i, i < 11 → sEq s (liW i) = false) ∨ ∃ k : Nat, r = (k : Int) ∧ k < 11 ∧ sEq s (liW k) = true) := by
  have HW := Lib.hid H
  clear H
  go_enter Tryd.func41, Tryd.ntmps41
  go_wp2_with fail
  go_loopw [8] (fun x wr => ∃ k : Nat, k ≤ 11 ∧ x = .int .i64 k ∧ w = wr ∧ ∀ i, i < k → sEq s (liW i) = false) (fun x _ => 11 - (intOf x).toNat)
  case atStart => exact ⟨0, Nat.zero_le _, rfl, rfl, fun i hi => absurd hi (Nat.not_lt_zero i)⟩
  case round =>
    obtain ⟨k, hk, rfl, rfl, hall⟩ := hrel
    have HA := Lib.hid hall
    clear hall
    by_cases hlt : k < 11
    · have hc := HW.out k hlt
      have hk0 : (0 : Int) ≤ (k : Int) := by omega
      have hk1 : (k : Int) < 11 := by omega
      have hq0 : ∀ r, sEq s (liW k) = r → (s.toList == (liW k).toList) = r := fun r h => h
      cases hq : sEq s (liW k) with
      | true =>
        have q1 := hq0 _ hq
        have HQ := Lib.hid hq
        obtain ⟨t, ht⟩ : ∃ t, t = liW k := ⟨_, rfl⟩
        rw [← ht] at hc q1
        clear hq hq0 ht
        go_wp2_with fail
        go_ret
        exact ⟨k, rfl, rfl, .inr ⟨k, rfl, hlt, HQ.out⟩⟩
      | false =>
        have q1 := hq0 _ hq
        have HQ := Lib.hid hq
        obtain ⟨t, ht⟩ : ∃ t, t = liW k := ⟨_, rfl⟩
        rw [← ht] at hc q1
        clear hq hq0 ht
        go_wp2_with fail
        go_round
        case rel => exact ⟨k + 1, by omega, by go_num, by first | rfl | trivial, fun i hi => by
          by_cases e : i = k
          · subst e; exact HQ.out
          · exact HA.out i (by omega)⟩
        case measure => simp only [intOf]; omega
    · obtain rfl : k = 11 := by omega
      go_wp2_with fail
      go_ret
      exact ⟨-1, rfl, rfl, .inl ⟨rfl, HA.out⟩⟩
theorem answer_any (s : ByteArray) (w : World) (H : LWords w) :
    Calls Tryd.prog 14 #[.string s] w fun e w' => ∃ (a : Nat) (b : Bool), e = .returned (.tuple #[.int .i64 a, .bool b]) ∧ w = w' ∧ IxIs s a b := by
  have K := Lib.hid (index_any s w H)
  clear H
  go_enter Tryd.func14, Tryd.ntmps14
  go_wp2_with fail
  refine K.out.mono ?_
  rintro e w1 ⟨r, rfl, rfl, hr⟩
  rcases hr with ⟨rfl, hno⟩ | ⟨k, rfl, hk, hyes⟩
  · have HN := Lib.hid hno
    clear hno
    go_wp2_with fail
    go_ret2
    exact ⟨0, false, rfl, rfl, .inl ⟨rfl, rfl, HN.out⟩⟩
  · have HN := Lib.hid hyes
    have d1 : decide ((0 : Int) ≤ (k : Int)) = true := by rw [decide_eq_true_eq]; omega
    have d2 : (0 : Int) ≤ (k : Int) := by omega
    have d3 : max (k : Int) 0 = (k : Int) := by omega
    clear hyes
    go_wp2_with fail
    go_ret2
    exact ⟨k, true, rfl, rfl, .inr ⟨rfl, hk, HN.out⟩⟩
theorem builderX : Builder.Extra Tryd.prog Tryd.lays156_ren where
  sizeBuilder := by kernel_rfl
  liesBuilder := by kernel_rfl
  t5 := Tryd.underlying5
  a5 := Tryd.isAgg5
  z5 := Tryd.sizeOf5
  v5 := Tryd.zeroValue5
  infoByte := by kernel_rfl
  cellsByte := by kernel_rfl
  sizeByte := by kernel_rfl
  neB5 := by decide
theorem itoa_small (i : Nat) (hi : i < 100) (w : World) : Calls Tryd.prog 43 #[.int .i64 i] w fun e w' => e = .returned (.string ⟨(Lib.decDigits i).toArray⟩) ∧ w = w' :=
  (Any.strconv_Itoa_small Tryd.lays171 i hi w).mono fun e w' ⟨h1, h2⟩ => ⟨h1, h2.symm⟩
theorem itoa_0 (w : World) : Calls Tryd.prog 43 #[.int .i64 0] w fun e w' => e = .returned (.string ⟨#[48]⟩) ∧ w = w' := by
  have h := itoa_small 0 (by decide) w
  rw [dd_small (by decide)] at h
  exact h
theorem itoa_1 (w : World) : Calls Tryd.prog 43 #[.int .i64 1] w fun e w' => e = .returned (.string ⟨#[49]⟩) ∧ w = w' := by
  have h := itoa_small 1 (by decide) w
  rw [dd_small (by decide)] at h
  exact h
theorem shard_128 (w : World) : Calls Tryd.prog 106 #[.int .i64 128] w fun e w' => e = .returned (.int .i64 0) ∧ w = w' := by
  go_enter Tryd.func106, Tryd.ntmps106
  go_wp2
  go_ret
  exact ⟨rfl, rfl⟩
theorem isClient_128 (w : World) : Calls Tryd.prog 107 #[.int .i64 128] w fun e w' => e = .returned (.bool true) ∧ w = w' := by
  go_enter Tryd.func107, Tryd.ntmps107
  go_wp2
  go_ret
  exact ⟨rfl, rfl⟩
def sC0 : ByteArray := ⟨#[99, 108, 105, 101, 110, 116, 48]⟩
theorem name_128 (w : World) : Calls Tryd.prog 92 #[.int .i64 128] w fun e w' => e = .returned (.string sC0) ∧ w = w' := by
  have hsz : ¬ (maxLen < 7) := by decide
  go_enter Tryd.func92, Tryd.ntmps92
  go_wp2_with (first
    | (go_at_call 106; refine (shard_128 _).mono ?_; rintro e w' ⟨rfl, rfl⟩)
    | (go_at_call 107; refine (isClient_128 _).mono ?_; rintro e w' ⟨rfl, rfl⟩)
    | (go_at_call 43; refine (itoa_0 _).mono ?_; rintro e w' ⟨rfl, rfl⟩))
  go_ret
  exact ⟨rfl, rfl⟩
theorem client_0 (w : World) : Calls Tryd.prog 70 #[.int .i64 0] w fun e w' => e = .returned (.string sC0) ∧ Below w.heap.size w w' := by
  go_enter Tryd.func70, Tryd.ntmps70
  go_wp2_with (go_at_call 92; refine (name_128 _).mono ?_; rintro e w' ⟨rfl, rfl⟩)
  go_ret
  exact ⟨rfl, Below.refl _ _⟩
set_option maxHeartbeats 2000000 in
theorem named_a (w : World) : Calls Tryd.prog 71 #[.string ⟨#[97]⟩] w fun e w' => e = .returned (.string ⟨#[97]⟩) ∧ Below w.heap.size w w' := by
  have hcv := Lib.run_convert_string_bytes (P := Tryd.prog) w 9 34 5 ⟨#[97]⟩ (u := .string) Tryd.underlying9 Tryd.underlying34 Tryd.underlying5
  have hb1 := bytesWorld_bel w 5 ⟨#[97]⟩
  have hby := Lib.bytesWorld_cell w 5 ⟨#[97]⟩ 0 (by decide)
  have hne : ((⟨#[97]⟩ : ByteArray).toList == (⟨#[]⟩ : ByteArray).toList) = false := by rw [ByteArray.toList_eq, ByteArray.toList_eq]; decide
  have hs1 : (⟨#[97]⟩ : ByteArray).size = 1 := rfl
  rw [hs1] at hcv
  generalize grownCap w 1 0 5 = gc at *
  generalize Lib.bytesWorld w 5 ⟨#[97]⟩ = W1 at *
  have hc0 : W1.cell? ⟨w.heap.size, 0, none⟩ = some (.int .u8 97) := hby
  have hB : Lib.BytesIn W1 (some ⟨w.heap.size, 0, none⟩) 1 [97] := fun _ => ⟨w.heap.size, 0, rfl, fun i hi => by
    obtain rfl : i = 0 := by omega
    exact hc0⟩
  have cv := hB.convert (P := Tryd.prog) rfl gc 34 5 9 Tryd.underlying34 Tryd.underlying5 Tryd.underlying9
  rw [show strOfNums [97] = ⟨#[97]⟩ from rfl] at cv
  have HB1 := Lib.hid hb1
  clear hby hb1 hB
  go_enter Tryd.func71, Tryd.ntmps71
  go_wp2_with fail
  refine wp_loop_rounds 2 ?_
  rw [rounds_succ]
  go_wp2_with fail
  rw [rounds_succ]
  go_wp2_with fail
  go_ret
  exact ⟨rfl, HB1.out⟩
/-- The five texts of the example's line, joined. -/
theorem join_5 (g : Nat) (w : World) (h : ∀ j x, [sC0, ⟨#[49]⟩, opW 1, ⟨#[97, 58]⟩, liW 0][j]? = some x → w.cell? ⟨g, 0 + j, none⟩ = some (.string x)) (hg : g < w.heap.size) :
    Calls Tryd.prog 69 #[.slice (some ⟨g, 0, none⟩) 5 5, .string ⟨#[32]⟩] w fun e w' => e = .returned (.string ⟨#[99, 108, 105, 101, 110, 116, 48, 32, 49, 32, 99, 114, 101, 97, 116, 101, 32, 97, 58, 32, 111, 107]⟩) ∧ Below w.heap.size w w' := by
  have hj : Lib.join ([sC0, ⟨#[49]⟩, opW 1, ⟨#[97, 58]⟩, liW 0].map (·.data.toList)) (⟨#[32]⟩ : ByteArray).data.toList = [99, 108, 105, 101, 110, 116, 48, 32, 49, 32, 99, 114, 101, 97, 116, 101, 32, 97, 58, 32, 111, 107] := by rfl
  have K := Any.strings_Join Tryd.lays156 builderX g 0 5 [sC0, ⟨#[49]⟩, opW 1, ⟨#[97, 58]⟩, liW 0] ⟨#[32]⟩ w h hg (by decide) (by decide) (by rw [hj]; decide)
  rw [hj] at K
  exact K
end Go.Proofs.YtmmiimcodbjnmaaDoor
