/- Messages: words, Name, check. -/
import Derived.Test.YtbapkamopelgpaaDoorMsgA
namespace Go.Proofs.YtbapkamopelgpaaDoor
open Go.RowKit Go.Stop Go.Extern Go.Ranges Go.Rows2
set_option linter.unusedVariables false
set_option linter.unusedSimpArgs false
set_option maxRecDepth 20000
/-- The kinds' words. -/
def wordB : Nat → ByteArray
  | 1 => ⟨#[97, 115, 107]⟩ | 2 => ⟨#[112, 97, 115, 115]⟩ | 3 => ⟨#[97, 110, 115, 119, 101, 114]⟩ | 4 => ⟨#[112, 117, 108, 108]⟩ | 5 => ⟨#[112, 117, 108, 108, 101, 100]⟩ | 6 => ⟨#[112, 117, 116]⟩
  | 7 => ⟨#[100, 111, 110, 101]⟩ | 8 => ⟨#[116, 117, 114, 110]⟩ | 9 => ⟨#[100, 101, 99, 105, 100, 101]⟩ | 10 => ⟨#[100, 101, 99, 105, 100, 101, 100]⟩ | _ => ⟨#[]⟩
def Words (w : World) : Prop := ∀ i, i < 11 → w.cell? ⟨0, i, none⟩ = some (.string (wordB i))
theorem Words.below {w w' : World} (h : Words w) (hb : Below w.heap.size w w') : Words w' := fun i hi => (hb.cell (World.block_lt_of_cell? w _ (h i hi))).trans (h i hi)
def nameOf (k : Int) : ByteArray := if k < 1 ∨ 10 < k then ⟨#[]⟩ else wordB k.toNat
theorem word_ne {i : Nat} (h1 : 1 ≤ i) (h2 : i ≤ 10) : wordB i ≠ ⟨#[]⟩ := by
  have : i = 1 ∨ i = 2 ∨ i = 3 ∨ i = 4 ∨ i = 5 ∨ i = 6 ∨ i = 7 ∨ i = 8 ∨ i = 9 ∨ i = 10 := by omega
  rcases this with rfl | rfl | rfl | rfl | rfl | rfl | rfl | rfl | rfl | rfl <;> decide
theorem name_any (k : Int) (w : World) (H : Words w) : Calls Tryd.prog 16 #[.int .i64 k] w fun e w' => e = .returned (.string (nameOf k)) ∧ w = w' := by
  by_cases h1 : k < 1
  · have e1 : nameOf k = ⟨#[]⟩ := if_pos (.inl h1)
    rw [e1]
    go_enter Tryd.func16, Tryd.ntmps16
    go_wp2
    go_ret
    exact ⟨rfl, rfl⟩
  · by_cases h2 : 10 < k
    · have e1 : nameOf k = ⟨#[]⟩ := if_pos (.inr h2)
      rw [e1]
      go_enter Tryd.func16, Tryd.ntmps16
      go_wp2
      go_ret
      exact ⟨rfl, rfl⟩
    · have e1 : nameOf k = wordB k.toNat := if_neg (by omega)
      rw [e1]
      obtain ⟨i, rfl⟩ : ∃ i : Nat, k = i := ⟨k.toNat, by omega⟩
      have hc := H i (by omega)
      rw [Int.toNat_natCast]
      have hi0 : (0 : Int) ≤ (i : Int) := by omega
      have hi11 : (i : Int) < 11 := by omega
      have hi : i < 11 := by omega
      clear H e1
      generalize wordB i = s at *
      go_enter Tryd.func16, Tryd.ntmps16
      go_wp2
      go_ret
      exact ⟨rfl, rfl⟩
/-- What check says. -/
def chkC (M : Msg) : Nat := if M.k < 1 ∨ 10 < M.k then 7 else if 255 < M.repo.size ∨ 64 < M.list.length then 1 else 0
theorem check_any (M : Msg) (B L : Option Addr) (cb cl : Nat) (a : Nat → Addr) (w : World) (HW : Words w) (H1 : ErrC w a 1) (H7 : ErrC w a 7) :
    Calls Tryd.prog 70 #[.agg (msgA M B cb L cl)] w fun e w' => e = .returned (errV a (chkC M)) ∧ Below w.heap.size w w' := by
  have hnm := Lib.hid (fun W (hW : Words W) => name_any M.k W hW)
  have e1 : w.cell? ⟨1, 0, none⟩ = _ := H1
  have e7 : w.cell? ⟨7, 0, none⟩ = _ := H7
  have l1 : 1 < w.heap.size := World.block_lt_of_cell? w _ e1
  have l7 : 7 < w.heap.size := World.block_lt_of_cell? w _ e7
  have HWd := Lib.hid HW
  clear HW H1 H7
  by_cases hk : M.k < 1 ∨ 10 < M.k
  · have e0 : chkC M = 7 := if_pos hk
    have hq : nameOf M.k = ⟨#[]⟩ := if_pos hk
    rw [e0]
    rw [hq] at hnm
    clear hk hq e0
    unfold msgA
    go_enter Tryd.func70, Tryd.ntmps70
    go_wp2_with (go_at_call 16; refine (hnm.out _ (HWd.out.below (alloc_below _ _))).mono ?_; rintro e w' ⟨rfl, rfl⟩)
    go_ret
    exact ⟨rfl, alloc_below _ _⟩
  · have hq : nameOf M.k = wordB M.k.toNat := if_neg hk
    have hne : wordB M.k.toNat ≠ ⟨#[]⟩ := word_ne (by omega) (by omega)
    rw [hq] at hnm
    generalize wordB M.k.toNat = s at *
    obtain ⟨y, ys, rfl⟩ : ∃ y ys, s = ⟨⟨y :: ys⟩⟩ := by
      cases s with
      | mk d =>
        cases d with
        | mk l =>
          cases l with
          | nil => exact absurd rfl hne
          | cons y ys => exact ⟨y, ys, rfl⟩
    clear hq hne
    by_cases hl : 255 < M.repo.size ∨ 64 < M.list.length
    · have e0 : chkC M = 1 := by unfold chkC; rw [if_neg hk, if_pos hl]
      rw [e0]
      clear hk e0
      have hl2 : (255 : Int) < (M.repo.size : Int) ∨ (¬ (255 : Int) < (M.repo.size : Int) ∧ (64 : Int) < (M.list.length : Int)) := by omega
      clear hl
      unfold msgA
      rcases hl2 with h2 | ⟨h2, h3⟩
      · go_enter Tryd.func70, Tryd.ntmps70
        go_wp2_with (go_at_call 16; refine (hnm.out _ (HWd.out.below (alloc_below _ _))).mono ?_; rintro e w' ⟨rfl, rfl⟩)
        go_ret
        exact ⟨rfl, alloc_below _ _⟩
      · go_enter Tryd.func70, Tryd.ntmps70
        go_wp2_with (go_at_call 16; refine (hnm.out _ (HWd.out.below (alloc_below _ _))).mono ?_; rintro e w' ⟨rfl, rfl⟩)
        go_ret
        exact ⟨rfl, alloc_below _ _⟩
    · have e0 : chkC M = 0 := by unfold chkC; rw [if_neg hk, if_neg hl]
      rw [e0]
      have h2 : ¬ (255 : Int) < (M.repo.size : Int) := by omega
      have h3 : ¬ (64 : Int) < (M.list.length : Int) := by omega
      clear hk e0 hl
      unfold msgA
      go_enter Tryd.func70, Tryd.ntmps70
      go_wp2_with (go_at_call 16; refine (hnm.out _ (HWd.out.below (alloc_below _ _))).mono ?_; rintro e w' ⟨rfl, rfl⟩)
      go_ret
      exact ⟨rfl, alloc_below _ _⟩
end Go.Proofs.YtbapkamopelgpaaDoor
