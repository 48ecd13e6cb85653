/- The law ShaTexts, walked. -/
import Derived.Test.YtdpiplllcinieaaDoorTextE
import Derived.Test.YtdpiplllcinieaaDoorShaJ
namespace Go.Proofs.YtdpiplllcinieaaDoor
open Go.RowKit Go.Stop Go.Extern Go.Ranges
set_option linter.unusedVariables false
set_option linter.unusedSimpArgs false
set_option maxRecDepth 20000
theorem fig_back (i : Int) (h0 : 0 ≤ i) (h1 : i < 16) : figT (fig i) = i := by
  have : i = 0 ∨ i = 1 ∨ i = 2 ∨ i = 3 ∨ i = 4 ∨ i = 5 ∨ i = 6 ∨ i = 7 ∨ i = 8 ∨ i = 9 ∨ i = 10 ∨ i = 11 ∨ i = 12 ∨ i = 13 ∨ i = 14 ∨ i = 15 := by omega
  rcases this with rfl | rfl | rfl | rfl | rfl | rfl | rfl | rfl | rfl | rfl | rfl | rfl | rfl | rfl | rfl | rfl <;> rfl
theorem fig_range (i : Int) (h0 : 0 ≤ i) (h1 : i < 16) : 0 ≤ fig i ∧ fig i < 256 := by
  have : i = 0 ∨ i = 1 ∨ i = 2 ∨ i = 3 ∨ i = 4 ∨ i = 5 ∨ i = 6 ∨ i = 7 ∨ i = 8 ∨ i = 9 ∨ i = 10 ∨ i = 11 ∨ i = 12 ∨ i = 13 ∨ i = 14 ∨ i = 15 := by omega
  rcases this with rfl | rfl | rfl | rfl | rfl | rfl | rfl | rfl | rfl | rfl | rfl | rfl | rfl | rfl | rfl | rfl <;> decide
theorem sb_str (xs : List Int) (i : Nat) (hi : i < xs.length) (h : isByte (xs.getD i 0)) : sb (strOfNums xs) i = xs.getD i 0 := by
  unfold sb strOfNums
  have h0 := h.1
  have h1 := h.2
  rw [List.getD_eq_getElem?_getD, List.getD_eq_getElem?_getD] at *
  simp only [List.getElem?_map, List.getElem?_eq_getElem hi, Option.map_some, Option.getD_some, UInt8.toNat_ofNat'] at *
  omega
theorem hex_get : ∀ (xs : List Int) (i : Nat), i < xs.length → (hexNums xs).getD (2 * i) 0 = fig (xs.getD i 0 / 16) ∧ (hexNums xs).getD (2 * i + 1) 0 = fig (xs.getD i 0 % 16)
  | [], i, h => by simp at h
  | x :: xs, 0, _ => ⟨rfl, rfl⟩
  | x :: xs, i + 1, h => by
    have ih := hex_get xs i (by simpa using h)
    have e1 : 2 * (i + 1) = 2 * i + 1 + 1 := by omega
    rw [e1]
    exact ih
theorem hex_good (xs : List Int) (hl : xs.length = 32) (hb : ∀ x ∈ xs, isByte x) : good (strOfNums (hexNums xs)) = true ∧ unh (strOfNums (hexNums xs)) = xs := by
  have hB : ∀ i, i < 32 → isByte (xs.getD i 0) := fun i hi => hb _ (by
    rw [List.getD_eq_getElem?_getD, List.getElem?_eq_getElem (by omega)]
    exact List.getElem_mem _)
  have key : ∀ i, i < 32 → fg (strOfNums (hexNums xs)) (2 * i) = xs.getD i 0 / 16 ∧ fg (strOfNums (hexNums xs)) (2 * i + 1) = xs.getD i 0 % 16 := fun i hi => by
    obtain ⟨g1, g2⟩ := hex_get xs i (by omega)
    obtain ⟨b0, b1⟩ := hB i hi
    have r1 := fig_range (xs.getD i 0 / 16) (by omega) (by omega)
    have r2 := fig_range (xs.getD i 0 % 16) (by omega) (by omega)
    unfold fg
    rw [sb_str _ _ (by rw [hexNums_len]; omega) (by rw [g1]; exact r1), sb_str _ _ (by rw [hexNums_len]; omega) (by rw [g2]; exact r2), g1, g2, fig_back _ (by omega) (by omega), fig_back _ (by omega) (by omega)]
    exact ⟨rfl, rfl⟩
  refine ⟨good_yes (by rw [str_size, hexNums_len]; omega) (fun i hi => ?_), ?_⟩
  · obtain ⟨k1, k2⟩ := key (i / 2) (by omega)
    obtain ⟨b0, b1⟩ := hB (i / 2) (by omega)
    by_cases e : i % 2 = 0
    · rw [show 2 * (i / 2) = i by omega] at k1; rw [k1]; omega
    · rw [show 2 * (i / 2) + 1 = i by omega] at k2; rw [k2]; omega
  · apply List.ext_getElem?
    intro i
    by_cases hi : i < 32
    · obtain ⟨k1, k2⟩ := key i hi
      unfold unh
      rw [List.getElem?_map, List.getElem?_range hi, List.getElem?_eq_getElem (by omega)]
      simp only [Option.map_some, k1, k2]
      rw [List.getD_eq_getElem?_getD, List.getElem?_eq_getElem (by omega)]
      simp only [Option.getD_some]
      congr 1
      omega
    · rw [List.getElem?_eq_none (by simp [unh]; omega), List.getElem?_eq_none (by omega)]
end Go.Proofs.YtdpiplllcinieaaDoor
