/- Lines: the answers' and the ops' words. -/
import Derived.Test.YtmmiimcodbjnmaaDoorLnN
import Derived.Test.YtmmiimcodbjnmaaDoorItoa
import Derived.Lib.LaidTab
import Derived.Lib.AppendIntMem
namespace Go.Proofs.YtmmiimcodbjnmaaDoor
open Go.RowKit Go.Stop Go.Extern Go.Ranges Go.Rows2
set_option linter.unusedVariables false
set_option linter.unusedSimpArgs false
set_option maxRecDepth 100000
/-- The answers' words. -/
def liW : Nat → ByteArray
  | 0 => ⟨#[111, 107]⟩ | 1 => ⟨#[109, 97, 108, 102, 111, 114, 109, 101, 100]⟩ | 2 => ⟨#[99, 97, 115, 45, 109, 105, 115, 109, 97, 116, 99, 104]⟩ | 3 => ⟨#[109, 105, 115, 115, 105, 110, 103, 45, 111, 98, 106, 101, 99, 116]⟩ | 4 => ⟨#[113, 117, 111, 116, 97, 45, 102, 117, 108, 108]⟩ | 5 => ⟨#[113, 117, 101, 117, 101, 45, 102, 117, 108, 108]⟩ | 6 => ⟨#[116, 111, 111, 45, 108, 97, 114, 103, 101]⟩ | 7 => ⟨#[110, 111, 45, 114, 101, 112, 111]⟩ | 8 => ⟨#[101, 120, 105, 115, 116, 115]⟩ | 9 => ⟨#[117, 110, 97, 118, 97, 105, 108, 97, 98, 108, 101]⟩ | 10 => ⟨#[116, 105, 109, 101, 111, 117, 116]⟩ | _ => ⟨#[]⟩
/-- The ops' words. -/
def opW : Nat → ByteArray
  | 1 => ⟨#[99, 114, 101, 97, 116, 101]⟩ | 2 => ⟨#[100, 101, 108, 101, 116, 101]⟩ | 3 => ⟨#[112, 117, 115, 104]⟩ | 4 => ⟨#[108, 105, 115, 116]⟩ | 5 => ⟨#[102, 101, 116, 99, 104]⟩ | _ => ⟨#[]⟩
def LWords (w : World) : Prop := ∀ i, i < 11 → w.cell? ⟨0, i, none⟩ = some (.string (liW i))
def LOps (w : World) : Prop := ∀ i, i < 6 → w.cell? ⟨1, i, none⟩ = some (.string (opW i))
/-- What the words ask of the world. -/
structure LnV (w : World) : Prop where
  words : LWords w
  ops : LOps w
  tab : Lib.TabIs Tryd.prog w "internal/strconv.uint64pow10" .u64 Lib.pow10Tab
theorem LWords.below {w w' : World} (h : LWords w) (hb : Below w.heap.size w w') : LWords w' := fun i hi => (hb.cell (World.block_lt_of_cell? w _ (h i hi))).trans (h i hi)
theorem LOps.below {w w' : World} (h : LOps w) (hb : Below w.heap.size w w') : LOps w' := fun i hi => (hb.cell (World.block_lt_of_cell? w _ (h i hi))).trans (h i hi)
/-- An answer's word. -/
def wordV (n : Int) : ByteArray := if n < 0 ∨ 10 < n then ⟨#[]⟩ else liW n.toNat
theorem liWord_any (n : Int) (w : World) (H : LWords w) : Calls Tryd.prog 16 #[.int .i64 n] w fun e w' => e = .returned (.string (wordV n)) ∧ w = w' := by
  by_cases h1 : n < 0
  · have e1 : wordV n = ⟨#[]⟩ := if_pos (.inl h1)
    rw [e1]
    go_enter Tryd.func16, Tryd.ntmps16
    go_wp2
    go_ret
    exact ⟨rfl, rfl⟩
  · by_cases h2 : 10 < n
    · have e1 : wordV n = ⟨#[]⟩ := if_pos (.inr h2)
      rw [e1]
      go_enter Tryd.func16, Tryd.ntmps16
      go_wp2
      go_ret
      exact ⟨rfl, rfl⟩
    · have e1 : wordV n = liW n.toNat := if_neg (by omega)
      rw [e1]
      obtain ⟨i, rfl⟩ : ∃ i : Nat, n = i := ⟨n.toNat, by omega⟩
      have hc := H i (by omega)
      rw [Int.toNat_natCast]
      have hi0 : (0 : Int) ≤ (i : Int) := by omega
      have hi11 : (i : Int) < 11 := by omega
      have hi : i < 11 := by omega
      clear H e1
      generalize liW i = s at *
      go_enter Tryd.func16, Tryd.ntmps16
      go_wp2
      go_ret
      exact ⟨rfl, rfl⟩
def wordC : Array Value := #[.string ⟨#[111, 107]⟩, .string ⟨#[109, 97, 108, 102, 111, 114, 109, 101, 100]⟩, .string ⟨#[99, 97, 115, 45, 109, 105, 115, 109, 97, 116, 99, 104]⟩, .string ⟨#[109, 105, 115, 115, 105, 110, 103, 45, 111, 98, 106, 101, 99, 116]⟩, .string ⟨#[113, 117, 111, 116, 97, 45, 102, 117, 108, 108]⟩, .string ⟨#[113, 117, 101, 117, 101, 45, 102, 117, 108, 108]⟩, .string ⟨#[116, 111, 111, 45, 108, 97, 114, 103, 101]⟩, .string ⟨#[110, 111, 45, 114, 101, 112, 111]⟩, .string ⟨#[101, 120, 105, 115, 116, 115]⟩, .string ⟨#[117, 110, 97, 118, 97, 105, 108, 97, 98, 108, 101]⟩, .string ⟨#[116, 105, 109, 101, 111, 117, 116]⟩]
theorem refWords_any (w : World) : Calls Tryd.prog 42 #[] w fun e w' => e = .returned (.slice (some ⟨w.heap.size, 0, none⟩) 11 11) ∧ w' = w.alloc (.cells wordC 9) := by
  unfold wordC
  go_enter Tryd.func42, Tryd.ntmps42
  go_wp2
  go_ret
  exact ⟨rfl, rfl⟩
theorem wordC_at (i : Nat) (h : i < 11) : wordC[i]? = some (.string (liW i)) := by
  match i, h with
  | 0, _ => rfl
  | 1, _ => rfl
  | 2, _ => rfl
  | 3, _ => rfl
  | 4, _ => rfl
  | 5, _ => rfl
  | 6, _ => rfl
  | 7, _ => rfl
  | 8, _ => rfl
  | 9, _ => rfl
  | 10, _ => rfl
  | n + 11, h => exact absurd h (by omega)
theorem refWord_any (n : Int) (w : World) : Calls Tryd.prog 15 #[.int .i64 n] w fun e w' => e = .returned (.string (wordV n)) ∧ Below w.heap.size w w' := by
  by_cases h1 : n < 0
  · have e1 : wordV n = ⟨#[]⟩ := if_pos (.inl h1)
    rw [e1]
    go_enter Tryd.func15, Tryd.ntmps15
    go_wp2
    go_ret
    exact ⟨rfl, Below.refl _ _⟩
  · by_cases h2 : 10 < n
    · have e1 : wordV n = ⟨#[]⟩ := if_pos (.inr h2)
      rw [e1]
      go_enter Tryd.func15, Tryd.ntmps15
      go_wp2
      go_ret
      exact ⟨rfl, Below.refl _ _⟩
    · have e1 : wordV n = liW n.toNat := if_neg (by omega)
      rw [e1]
      obtain ⟨i, rfl⟩ : ∃ i : Nat, n = i := ⟨n.toNat, by omega⟩
      rw [Int.toNat_natCast]
      have hi0 : (0 : Int) ≤ (i : Int) := by omega
      have hi11 : (i : Int) < 11 := by omega
      have hi : i < 11 := by omega
      have hc : (w.alloc (.cells wordC 9)).cell? ⟨w.heap.size, i, none⟩ = some (.string (liW i)) := (cell_of_row _ _ _ _ _ _ (heap_alloc_last w _)).trans (wordC_at i hi)
      have hb := alloc_below w (.cells wordC 9)
      have K := Lib.hid (refWords_any w)
      clear e1
      generalize liW i = s at *
      generalize hW1 : w.alloc (.cells wordC 9) = W1 at *
      have HB := Lib.hid hb
      clear hb hW1
      go_enter Tryd.func15, Tryd.ntmps15
      go_wp2_with fail
      refine K.out.mono ?_
      rintro e w1 ⟨rfl, rfl⟩
      go_wp2_with fail
      go_ret
      exact ⟨rfl, HB.out⟩
/-- An op's word. -/
def opV (n : Int) : ByteArray := if n < 1 ∨ 5 < n then ⟨(Lib.itoa n).toArray⟩ else opW n.toNat
theorem itoa_below (n : Int) (w : World) (h0 : -9223372036854775808 ≤ n) (h1 : n ≤ 9223372036854775807) (h : Lib.TabIs Tryd.prog w "internal/strconv.uint64pow10" .u64 Lib.pow10Tab) :
    Calls Tryd.prog 43 #[.int .i64 n] w fun e w' => e = .returned (.string ⟨(Lib.itoa n).toArray⟩) ∧ Below w.heap.size w w' :=
  (Any.strconv_Itoa Tryd.laysM171 n h0 h1 w h).mono fun e w' ⟨h1, k, os, h2⟩ => ⟨h1, by rw [h2]; exact Lib.below_grow _ w (Nat.le_refl _) k os⟩
theorem liOp_any (n : Int) (w : World) (h0 : -9223372036854775808 ≤ n) (h9 : n ≤ 9223372036854775807) (H : LnV w) : Calls Tryd.prog 17 #[.int .i64 n] w fun e w' => e = .returned (.string (opV n)) ∧ Below w.heap.size w w' := by
  have K := Lib.hid (itoa_below n w h0 h9 H.tab)
  by_cases h1 : n < 1
  · have e1 : opV n = ⟨(Lib.itoa n).toArray⟩ := if_pos (.inl h1)
    rw [e1]
    have d1 : decide (n < 1) = true := by simpa using h1
    clear e1 H
    generalize (⟨(Lib.itoa n).toArray⟩ : ByteArray) = s at *
    go_enter Tryd.func17, Tryd.ntmps17
    go_wp2_with fail
    refine K.out.mono ?_
    rintro e w1 ⟨rfl, hb⟩
    go_wp2_with fail
    go_ret
    exact ⟨rfl, hb⟩
  · have d1 : decide (n < 1) = false := by rw [decide_eq_false_iff_not]; exact h1
    by_cases h2 : 5 < n
    · have e1 : opV n = ⟨(Lib.itoa n).toArray⟩ := if_pos (.inr h2)
      rw [e1]
      have d2 : decide (5 < n) = true := by simpa using h2
      clear e1 H
      generalize (⟨(Lib.itoa n).toArray⟩ : ByteArray) = s at *
      go_enter Tryd.func17, Tryd.ntmps17
      go_wp2_with fail
      refine K.out.mono ?_
      rintro e w1 ⟨rfl, hb⟩
      go_wp2_with fail
      go_ret
      exact ⟨rfl, hb⟩
    · have e1 : opV n = opW n.toNat := if_neg (by omega)
      rw [e1]
      obtain ⟨i, rfl⟩ : ∃ i : Nat, n = i := ⟨n.toNat, by omega⟩
      have hc := H.ops i (by omega)
      rw [Int.toNat_natCast]
      have hi0 : (0 : Int) ≤ (i : Int) := by omega
      have hi11 : (i : Int) < 6 := by omega
      have hi : i < 6 := by omega
      have d2 : decide (5 < (i : Int)) = false := by rw [decide_eq_false_iff_not]; omega
      clear H e1 K
      generalize opW i = s at *
      go_enter Tryd.func17, Tryd.ntmps17
      go_wp2_with fail
      go_ret
      exact ⟨rfl, Below.refl _ _⟩
def opC : Array Value := #[.string ⟨#[99, 114, 101, 97, 116, 101]⟩, .string ⟨#[100, 101, 108, 101, 116, 101]⟩, .string ⟨#[112, 117, 115, 104]⟩, .string ⟨#[108, 105, 115, 116]⟩, .string ⟨#[102, 101, 116, 99, 104]⟩]
theorem refOp_any (n : Int) (w : World) (h0 : -9223372036854775808 ≤ n) (h9 : n ≤ 9223372036854775807) : Calls Tryd.prog 18 #[.int .i64 n] w fun e w' => e = .returned (.string (opV n)) ∧ Below w.heap.size w w' := by
  have K := Lib.hid (numeral_any n w h0 h9)
  by_cases h1 : 0 < n ∧ n < 6
  · have : n = 1 ∨ n = 2 ∨ n = 3 ∨ n = 4 ∨ n = 5 := by omega
    clear K
    rcases this with rfl | rfl | rfl | rfl | rfl
    all_goals
      go_enter Tryd.func18, Tryd.ntmps18
      go_wp2_with fail
      go_ret
      exact ⟨rfl, alloc_below _ _⟩
  · have e1 : opV n = ⟨(Lib.itoa n).toArray⟩ := if_pos (by omega)
    rw [e1]
    by_cases hp : 0 < n
    · have d1 : decide (0 < n) = true := by simpa using hp
      have d2 : decide (n < 6) = false := by rw [decide_eq_false_iff_not]; omega
      clear e1 h1
      generalize (⟨(Lib.itoa n).toArray⟩ : ByteArray) = s at *
      go_enter Tryd.func18, Tryd.ntmps18
      go_wp2_with fail
      refine K.out.mono ?_
      rintro e w1 ⟨rfl, hb⟩
      go_wp2_with fail
      go_ret
      exact ⟨rfl, hb⟩
    · have d1 : decide (0 < n) = false := by rw [decide_eq_false_iff_not]; exact hp
      clear e1 h1
      generalize (⟨(Lib.itoa n).toArray⟩ : ByteArray) = s at *
      go_enter Tryd.func18, Tryd.ntmps18
      go_wp2_with fail
      refine K.out.mono ?_
      rintro e w1 ⟨rfl, hb⟩
      go_wp2_with fail
      go_ret
      exact ⟨rfl, hb⟩
end Go.Proofs.YtmmiimcodbjnmaaDoor
