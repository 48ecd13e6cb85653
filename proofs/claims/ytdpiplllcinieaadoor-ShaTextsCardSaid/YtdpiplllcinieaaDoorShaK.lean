/- The law ShaSums, walked. -/
import Derived.Test.YtdpiplllcinieaaDoorShaI
import Derived.Test.YtdpiplllcinieaaDoorShaJ
import Derived.Deep.RegionHeld3
namespace Go.Proofs.YtdpiplllcinieaaDoor
open Go.RowKit Go.Stop Go.Extern Go.Ranges
set_option linter.unusedVariables false
set_option linter.unusedSimpArgs false
attribute [-go_sem] loadVar storeVar
attribute [local go_sem] loadVar_one storeVar_one
attribute [local go_sem] zero32b_lit zero32b_size zero32b_one
theorem st25n (w : World) (C C' : Array Value) (g : Nat) (hg : g = w.heap.size) (h1 : C.size = 32) (h2 : C'.size = 32) (h3 : ones C' = true) :
    (storeVar 25 ⟨g, 0, none⟩ (.agg C')).run Tryd.prog (w.alloc (.cells C 25)) = .ok () (w.alloc (.cells C' 25)) :=
  var_new 32 (by kernel_rfl) w C C' g hg h1 h2 h3
theorem oid_ones {C : Array Value} {xs : List Int} (h : isOid C xs) : ones C = true := by
  unfold ones
  rw [Array.all_eq_true]
  intro i hi
  have := h.at_ i (by rw [← h.size]; exact hi)
  rw [Array.getElem?_eq_getElem hi] at this
  injection this with this
  rw [this]; rfl
theorem cat_small {f : Nat → List Int} : ∀ {m : Nat}, (∀ i, i < m → (f i).length ≤ 300) → (cat f m).length ≤ 300 * m
  | 0, _ => by simp [cat]
  | m + 1, h => by
    have h1 := cat_small (f := f) (m := m) (fun i hi => h i (by omega))
    have h2 := h m (by omega)
    simp only [cat, List.length_append]
    omega
set_option maxRecDepth 20000 in
set_option maxHeartbeats 8000000 in
theorem shaSums_walk (A : Option Addr) (m c : Nat) (f : Nat → List Int) (w : World) (hP : PartsAt w A m f) (hb : ∀ i, i < m → ∀ y ∈ f i, isByte y) (hm : m ≤ maxLen) (hG : Grains w) (hS : Start w) :
    Calls Tryd.prog 4 #[.slice A m c] w fun x w' => x = .returned (.bool true) ∧ Below w.heap.size w w' := by
  have KP := Lib.hid hP
  have Kb := Lib.hid hb
  have KG := Lib.hid hG
  have KS := Lib.hid hS
  have Km := Lib.hid hm
  have hm2 : (m : Int) ≤ 9223372036854775807 := by have := hm; unfold maxLen at this; omega
  clear hP hb hG hS hm
  go_enter Tryd.func4, Tryd.ntmps4
  go_wp2_with fail
  refine (alive01 w KG.out KS.out).mono ?_
  rintro x1 w1 ⟨rfl, hb1⟩
  have KB := Lib.hid hb1
  have hsz := hb1.size
  clear hb1
  by_cases h20 : 20 < m
  · have h20' : (20 : Int) < (m : Int) := by omega
    go_wp2_with fail
    go_ret
    exact ⟨rfl, KB.out⟩
  have h20' : ¬ (20 : Int) < (m : Int) := by omega
  go_wp2_with fail
  have ho0 : (w1.alloc (.cells #[] 5)).ownsRow w.heap.size 5 1 (.slice (some ⟨w1.heap.size, 0, none⟩) 0 0) 0 (bV []) :=
    ⟨rfl, .inr ⟨_, 0, #[], rfl, hsz, heap_alloc_last w1 _, Nat.le_refl _, Nat.zero_le _, rfl, rfl⟩⟩
  have KO0 := Lib.hid ho0
  clear ho0
  go_loopw [16, 3] (fun x y wr => ∃ (i : Nat) (v : Value), i ≤ m ∧ x = .int .i64 i ∧ v = y ∧ Below w.heap.size w wr ∧ wr.ownsRow w.heap.size 5 1 v (cat f i).length (bV (cat f i)) ∧ ∀ j, j < i → (f j).length ≤ 300) (fun x _ _ => m - (intOf x).toNat)
  case atStart => exact ⟨0, _, Nat.zero_le _, rfl, rfl, KB.out.alloc hsz _, KO0.out, fun j hj => absurd hj (by omega)⟩
  case round =>
    obtain ⟨i, v, hi, rfl, rfl, hB, hO, hL⟩ := hrel
    have HB := Lib.hid hB
    have HO := Lib.hid hO
    have HL := Lib.hid hL
    have hsz2 := hB.size
    clear hB hO hL
    by_cases hlt : i < m
    · obtain ⟨b, o, rfl, hbl, hc⟩ := KP.out (by omega)
      obtain ⟨B, cc, h1, h2⟩ := hc i hlt
      clear hc
      have h1' : wr.cell? ⟨b, o + i, none⟩ = some (.slice B (f i).length cc) := (HB.out.cell (p := ⟨b, o + i, none⟩) hbl).trans h1
      have hcs := cat_small HL.out
      by_cases h300 : 300 < (f i).length
      · have h300' : (300 : Int) < ((f i).length : Int) := by omega
        go_wp2_with fail
        go_ret
        exact ⟨rfl, HB.out⟩
      · have h300' : ¬ (300 : Int) < ((f i).length : Int) := by omega
        obtain ⟨v', w', hr, ho', hg'⟩ := app_bytes HO.out B (f i).length cc (f i) rfl (bytesIn_below' h2 HB.out) hsz2 (by omega)
        have hs1 : (cat f (i + 1)).length = (cat f i).length + (f i).length := by simp [cat]
        have ho2 : w'.ownsRow w.heap.size 5 1 v' (cat f (i + 1)).length (bV (cat f (i + 1))) := hs1 ▸ ho'
        have K2 := Lib.hid ho2
        have Kg := Lib.hid hg'
        clear ho2 hg' ho' h1 h2 hs1 hcs
        go_wp2_with (at_builtin; go_loud (refine Lib.wpList_append_run _ rfl (.tmp 23) (.tmp 24) 22 22 rfl _ _ rfl rfl _ _ hr ?_))
        go_round
        case rel =>
          refine ⟨i + 1, _, by omega, by go_num, rfl, HB.out.grown Kg.out hsz2 (fun k hk => (HO.out.lt k hk).1), K2.out, fun j hj => ?_⟩
          by_cases e : j = i
          · subst e; omega
          · exact HL.out j (by omega)
        case measure => simp only [intOf]; omega
    · have hie : i = m := by omega
      subst hie
      have hN := cat_small HL.out
      have hcb := Lib.hid (cat_bytes Kb.out)
      obtain ⟨A3, c3, rfl⟩ := own_slice HO.out
      have hby := own_bytes HO.out
      have KBy := Lib.hid hby
      obtain ⟨N, hNe⟩ : ∃ N, N = (cat f i).length := ⟨_, rfl⟩
      rw [← hNe] at HO hN KBy hby ⊢
      have KN := Lib.hid hNe
      have hbA := Lib.hid (bytesAid_any A3 N c3 (cat f i) wr hNe.symm hby (by omega))
      clear hNe hby
      go_wp2_with (go_at_call 17; refine hbA.out.mono ?_; rintro e w2 ⟨g, cap, rfl, hb2, ho2⟩)
      have hb2' : Below w.heap.size w w2 := HB.out.trans (hb2.mono hsz2)
      have hO2 := own_keep HO.out hb2
      refine (refSum_any A3 N c3 (cat f i) w2 KN.out.symm (bytesIn_below' KBy.out hb2) hcb.out (by omega)).mono ?_
      rintro e3 w3 ⟨D, rfl, hD, hb3⟩
      obtain ⟨DL, rfl⟩ : ∃ DL : List Value, D = DL.toArray := ⟨D.toList, by simp⟩
      have hb3' := hb2'.trans (hb3.mono hb2'.size)
      have s25n := fun w C g hg h1 => st25n w C DL.toArray g hg h1 hD.size (oid_ones hD)
      have hO3 := own_keep hO2 hb3
      have hI3 := own_keep ho2 hb3
      go_wp2_with fail
      have hb5 : Below w3.heap.size w3 (w3.alloc (.cells DL.toArray 25)) := (Below.refl _ _).alloc (Nat.le_refl _) _
      have hO5 := own_keep hO3 hb5
      have hI5 := own_keep hI3 hb5
      have hb5' := hb3'.trans (hb5.mono hb3'.size)
      have hr5 : rangeOf (w3.alloc (.cells DL.toArray 25)) w3.heap.size 0 32 = DL.toArray ∧ hasRange (w3.alloc (.cells DL.toArray 25)) w3.heap.size 0 32 = true := by
        refine ⟨?_, has_new _ _ _ _ _ _ _ rfl (by rw [hD.size]; decide)⟩
        rw [range_new _ _ _ _ _ _ _ rfl (by rw [hD.size]; decide), Nat.zero_add]
        have := extract_all DL.toArray 32 hD.size
        exact this
      have hp7 : w3.heap.size < (w3.alloc (.cells DL.toArray 25)).heap.size := by simp
      change Code.wp _ _ _ _ (w3.alloc (.cells DL.toArray 25))
      generalize w3.alloc (.cells DL.toArray 25) = W5 at *
      generalize w3.heap.size = p7 at *
      have hmax : (cat f i).length ≤ 274877906944 := by rw [← KN.out]; omega
      have hS1 : Hid (∀ w', ((rangeOf w' p7 0 32 = DL.toArray ∧ hasRange w' p7 0 32 = true) ∧ Below W5.heap.size W5 w') → Calls Tryd.prog 19 #[.slice A i c] w' fun x w'' => x = .returned (.agg DL.toArray) ∧ Below w'.heap.size w' w'') := fun w' hs => by
        have hbw := hb5'.trans (hs.2.mono hb5'.size)
        refine (sum_any A i c f w' (KP.out.below hbw) Kb.out hmax Km.out (KG.out.below hbw) (KS.out.below hbw)).mono ?_
        rintro x w'' ⟨D2, rfl, hD2, hb6⟩
        exact ⟨by rw [isOid_eq hD2 hD], hb6⟩
      have hS2 : Hid (∀ w' p, ((rangeOf w' p7 0 32 = DL.toArray ∧ hasRange w' p7 0 32 = true) ∧ Below W5.heap.size W5 w') → w'.cell? ⟨p, 0, none⟩ = some (.slice (some ⟨g, 0, none⟩) N cap) → Calls Tryd.prog 19 #[.slice (some ⟨p, 0, none⟩) 1 1] w' fun x w'' => x = .returned (.agg DL.toArray) ∧ Below w'.heap.size w' w'') := fun w' p hs hcell => by
        have hbw := hb5'.trans (hs.2.mono hb5'.size)
        have hin : Lib.BytesIn w' (some ⟨g, 0, none⟩) N (cat f i) := by
          have h6 := bytesIn_below' (own_bytes hI5) hs.2
          intro h0
          obtain ⟨b', o', hbo, hcx⟩ := h6 (by omega)
          refine ⟨b', o', hbo, fun j hj => ?_⟩
          rw [hcx j (by omega), List.getD_eq_getElem?_getD, List.getD_eq_getElem?_getD, List.getElem?_append_left (by rw [← KN.out]; exact hj)]
        have hparts : PartsAt w' (some ⟨p, 0, none⟩) 1 (fun _ => cat f i) := fun _ => ⟨p, 0, rfl, World.block_lt_of_cell? w' _ hcell, fun j hj => by
          obtain rfl : j = 0 := by omega
          exact ⟨some ⟨g, 0, none⟩, cap, by rw [← KN.out]; exact hcell, by rw [← KN.out]; exact hin⟩⟩
        refine (sum_any (some ⟨p, 0, none⟩) 1 1 (fun _ => cat f i) w' hparts (fun _ _ => hcb.out) (by simpa [cat] using hmax) (by unfold maxLen; omega) (KG.out.below hbw) (KS.out.below hbw)).mono ?_
        rintro x w'' ⟨D2, rfl, hD2, hb6⟩
        have e : cat (fun _ => cat f i) 1 = cat f i := by simp [cat]
        rw [e] at hD2
        exact ⟨by rw [isOid_eq hD2 hD], hb6⟩
      obtain ⟨gq, capq, hgq, hgc, hgm, _⟩ := own_form8 hI5 (by omega)
      have hcq : N + 6 ≤ cap ∧ cap ≤ maxLen := by
        injection hgq with h1 h2 h3
        subst h3
        exact ⟨hgc, hgm⟩
      have hS3 : Hid (∀ w', ((rangeOf w' p7 0 32 = DL.toArray ∧ hasRange w' p7 0 32 = true) ∧ Below W5.heap.size W5 w') → Calls Tryd.prog 20 #[.slice (some ⟨g, 0, none⟩) N cap, .slice A3 N c3] w' fun x w'' => x = .returned (.bool true) ∧ Below w'.heap.size w' w'') := fun w' hs =>
        keptAid_any g N cap A3 c3 (cat f i) w' KN.out.symm (bytesIn_below' (own_bytes hI5) hs.2) (bytesIn_below' (own_bytes hO5) hs.2) hcq.1 hcq.2
      have kS : Hid (∀ w' w'', ((rangeOf w' p7 0 32 = DL.toArray ∧ hasRange w' p7 0 32 = true) ∧ Below W5.heap.size W5 w') → Below w'.heap.size w' w'' → (rangeOf w'' p7 0 32 = DL.toArray ∧ hasRange w'' p7 0 32 = true) ∧ Below W5.heap.size W5 w'') := fun w' w'' hs hb => by
        have hb7 := hs.2.trans (hb.mono hs.2.size)
        have k1 := range_of (w := W5) (w' := w'') (b := p7) (o := 0) (n := 32) (hb7.block _ hp7)
        have k2 := has_of (w := W5) (w' := w'') (b := p7) (o := 0) (n := 32) (hb7.block _ hp7)
        exact ⟨⟨k1.trans hr5.1, k2.trans hr5.2⟩, hb7⟩
      have e25 := eq25 9998
      have a25 : ArrEq.arrEq 32 DL.toArray DL.toArray = true := by simp [ArrEq.arrEq]
      have u25 := isOid_u8 hD
      have l25 := ld25s
      have hfin := Lib.hid hb5'
      have pB : Below W5.heap.size W5 W5.drew := (Below.refl _ _).drew
      have F0 := Lib.hid (kS.out W5 W5.drew ⟨hr5, Below.refl _ _⟩ pB)
      have g0 := F0.out.1.1
      have g1 := F0.out.1.2
      clear hb5' hO5 hI5 hb5 hb3' hO3 hI3 hb2' hO2 hr5 hD hb3 hb2 ho2 hgq hgc hgm hcq
      go_wp2_with fail
      go_region_with (first
        | (go_at_call 19
           with_reducible refine (hS1.out _ F0.out).mono ?_
           rintro e w6 ⟨rfl, hb6⟩
           have F6 := Lib.hid (kS.out _ _ F0.out hb6)
           have g2 := F6.out.1.1
           have g3 := F6.out.1.2
           have hp6 : p7 < w6.heap.size := Nat.lt_of_lt_of_le hp7 F6.out.2.size
           clear hb6)
        | (go_at_call 19
           with_reducible refine (hS2.out _ w6.heap.size (kS.out _ _ F6.out ((Below.refl _ w6).alloc (Nat.le_refl _) _)) (cell_of_row _ _ 0 _ _ _ (heap_alloc_last w6 _))).mono ?_
           rintro e w7 ⟨rfl, hb7⟩
           have F7 := Lib.hid (kS.out _ _ (kS.out _ _ F6.out ((Below.refl _ w6).alloc (Nat.le_refl _) _)) hb7)
           have g4 := F7.out.1.1
           have g5 := F7.out.1.2
           clear hb7)
        | (go_at_call 20
           with_reducible refine (hS3.out _ F7.out).mono ?_
           rintro e w8 ⟨rfl, hb8⟩
           have F8 := Lib.hid (kS.out _ _ F7.out hb8)
           clear hb8))
      all_goals
        go_wp2_with fail
        go_ret
        exact ⟨rfl, hfin.out.trans (F8.out.2.mono hfin.out.size)⟩
end Go.Proofs.YtdpiplllcinieaaDoor
