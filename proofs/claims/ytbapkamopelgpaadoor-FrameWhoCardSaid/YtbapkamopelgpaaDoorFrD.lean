/- Frames: bytes and their sum's first four behind. -/
import Derived.Test.YtbapkamopelgpaaDoorFrC
namespace Go.Proofs.YtbapkamopelgpaaDoor
open Go.RowKit Go.Stop Go.Extern Go.Ranges Go.Rows2
set_option linter.unusedVariables false
set_option linter.unusedSimpArgs false
set_option maxRecDepth 20000
attribute [-go_sem] loadVar storeVar
attribute [local go_sem] loadVar_one storeVar_one zero32b_lit zero32b_size
attribute [local go_sem] World.setRow_alloc_new
theorem oid_ones {D : Array Value} {xs : List Int} (h : isOid D xs) : ones D = true := by
  unfold ones
  rw [← Array.all_toList, List.all_eq_true]
  intro u hu
  obtain ⟨j, hj, e⟩ := List.getElem_of_mem hu
  have hj' : j < 32 := by rw [← h.size]; simpa using hj
  have h2 := h.at_ j hj'
  rw [← Array.getElem?_toList, List.getElem?_eq_getElem hj, e] at h2
  injection h2 with h2
  rw [h2]
  rfl
theorem oid_four {w1 : World} {D : Array Value} {xs : List Int} (h : isOid D xs) (t : TypeId) (hl : xs.length = 32) : Lib.BytesIn (w1.alloc (.cells D t)) (some ⟨w1.heap.size, 0, none⟩) (xs.take 4).length (xs.take 4) := fun hn => by
  have hl4 : (xs.take 4).length = 4 := by rw [List.length_take]; omega
  refine ⟨w1.heap.size, 0, rfl, fun i hi => ?_⟩
  rw [hl4] at hi
  rw [cell_of_row _ _ _ _ _ _ (heap_alloc_last w1 _), Nat.zero_add, h.at_ i (by omega)]
  simp [List.getD_eq_getElem?_getD, List.getElem?_take, hi]
set_option maxHeartbeats 2000000 in
/-- Bytes, and their sum's first four behind. -/
theorem summed_any {w : World} {base : Nat} {A : Option Addr} {n c : Nat} {xs : List Int} (ho : w.ownsRow base 5 1 (.slice A n c) n (bV xs)) (hb : ∀ x ∈ xs, isByte x) (hbase : base ≤ w.heap.size) (hL : n ≤ 100000) (hG : Grains w) (hS : Start w) :
    Calls Tryd.prog 56 #[.slice A n c] w fun e w' => ∃ A' c', e = .returned (.slice A' (n + 4) c') ∧ w'.ownsRow base 5 1 (.slice A' (n + 4) c') (n + 4) (bV (xs ++ (Sha.sum xs).take 4)) ∧ Chg (fun k => some k = (Value.slice A n c).ownBlock) w w' := by
  have hlen := own_len ho
  have hB := own_bytes ho
  have b0 := alloc_below w (.cells #[.slice A n c] 22)
  have hP : PartsAt (w.alloc (.cells #[.slice A n c] 22)) (some ⟨w.heap.size, 0, none⟩) 1 (fun _ => xs) := fun _ => ⟨w.heap.size, 0, rfl, by simp, fun i hi => ⟨A, c, by
    obtain rfl : i = 0 := by omega
    rw [hlen]; simp [go_sem], by rw [hlen]; exact bytesIn_below' hB b0⟩⟩
  have K := Lib.hid (sum_any (some ⟨w.heap.size, 0, none⟩) 1 1 (fun _ => xs) _ hP (fun _ _ => hb) (by simp [cat]; omega) (by decide) (hG.below b0) (hS.below b0))
  have HO := Lib.hid ho
  clear ho hb hB hP hG hS hlen
  go_enter Tryd.func56, Tryd.ntmps56
  go_wp2_with fail
  refine K.out.mono ?_
  rintro e w1 ⟨D, rfl, hD, hb1⟩
  have hD' : isOid D (Sha.sum xs) := by simpa [cat] using hD
  have s25 := fun (W : World) (b : Nat) (h : isRow W b 32 = true) => st25r W b D h hD'.size (oid_ones hD')
  have HD := Lib.hid hD'
  have hdz := hD'.size
  have hl4 : ((Sha.sum xs).take 4).length = 4 := by rw [List.length_take, sum_len]; rfl
  have b2 : Below w.heap.size w (w1.alloc (.cells D 118)) := (b0.trans (hb1.mono b0.size)).alloc (Nat.le_trans b0.size hb1.size) _
  have hB4 := oid_four (w1 := w1) hD' 118 (sum_len xs)
  obtain ⟨v9, w9, hr9, ho9, hg9⟩ := app_bytes (own_keep HO.out b2) (some ⟨w1.heap.size, 0, none⟩) 4 32 ((Sha.sum xs).take 4) hl4 (by rw [hl4] at hB4; exact hB4) (Nat.le_trans hbase b2.size) (by omega)
  have HO9 := Lib.hid ho9
  have HG9 := Lib.hid hg9
  clear hD hD' ho9 hg9 hB4 hl4
  go_wp2_with (at_builtin; go_loud (refine Lib.wpList_append_run _ rfl (.tmp 7) (.tmp 8) 22 22 rfl _ _ rfl rfl _ _ hr9 ?_))
  obtain ⟨A9, c9, hv⟩ := own_slice HO9.out
  subst hv
  go_ret
  exact ⟨A9, c9, rfl, HO9.out, (Chg.of_below b2).trans (Chg.of_grown HG9.out (fun g hg => hg.symm))⟩
end Go.Proofs.YtbapkamopelgpaaDoor
