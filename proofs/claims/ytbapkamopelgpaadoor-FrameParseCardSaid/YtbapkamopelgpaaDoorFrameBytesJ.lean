/- A block's words. -/
import Derived.Test.YtbapkamopelgpaaDoorFrameBytesI
import Derived.Deep.RegionHeld3
import Derived.StillTailTactics
namespace Go.Proofs.YtbapkamopelgpaaDoor
open Go.RowKit Go.Stop Go.Extern Go.Ranges
set_option linter.unusedVariables false
set_option linter.unusedSimpArgs false
attribute [-go_sem] loadVar storeVar
attribute [local go_sem] loadVar_one storeVar_one
def zero64 : Array Value := Array.replicate 64 (.int .u32 0)
theorem zero64_lit : (#[.int .u32 0, .int .u32 0, .int .u32 0, .int .u32 0, .int .u32 0, .int .u32 0, .int .u32 0, .int .u32 0, .int .u32 0, .int .u32 0, .int .u32 0, .int .u32 0, .int .u32 0, .int .u32 0, .int .u32 0, .int .u32 0, .int .u32 0, .int .u32 0, .int .u32 0, .int .u32 0, .int .u32 0, .int .u32 0, .int .u32 0, .int .u32 0, .int .u32 0, .int .u32 0, .int .u32 0, .int .u32 0, .int .u32 0, .int .u32 0, .int .u32 0, .int .u32 0, .int .u32 0, .int .u32 0, .int .u32 0, .int .u32 0, .int .u32 0, .int .u32 0, .int .u32 0, .int .u32 0, .int .u32 0, .int .u32 0, .int .u32 0, .int .u32 0, .int .u32 0, .int .u32 0, .int .u32 0, .int .u32 0, .int .u32 0, .int .u32 0, .int .u32 0, .int .u32 0, .int .u32 0, .int .u32 0, .int .u32 0, .int .u32 0, .int .u32 0, .int .u32 0, .int .u32 0, .int .u32 0, .int .u32 0, .int .u32 0, .int .u32 0, .int .u32 0] : Array Value) = zero64 := by kernel_rfl
theorem zero64_size : zero64.size = 64 := by simp [zero64]
attribute [local go_sem] zero64_lit zero64_size
theorem div8 (x : Sha.W) : num x / (8 : Int) = num (x >>> 3) := div_shr x 3 8 (by decide)
theorem div1024 (x : Sha.W) : num x / (1024 : Int) = num (x >>> 10) := div_shr x 10 1024 (by decide)
attribute [local go_sem] mod_add bits_xor bits_and bits_not div8 div1024
theorem ld102 (w : World) (b o : Nat) (h : hasRange w b o 64 = true) : (loadVar 161 ⟨b, o, none⟩).run Tryd.prog w = .ok (.agg (rangeOf w b o 64)) w :=
  var_range 64 Tryd.underlying161 rfl (by kernel_rfl) w b o h
theorem st102 (w : World) (b : Nat) (C : Array Value) (h : isRow w b 64 = true) (h2 : C.size = 64) (h3 : ones C = true) : (storeVar 161 ⟨b, 0, none⟩ (.agg C)).run Tryd.prog w = .ok () (w.setRow b C) :=
  store_row 64 (by kernel_rfl) w b C h h2 h3
theorem st80 (n : Nat) (w : World) (b o : Nat) (x : Int) (ho : o < n) (h : isRow w b n = true) : (storeVar 126 ⟨b, o, none⟩ (.int .u32 x)).run Tryd.prog w = .ok () (w.setCell ⟨b, o, none⟩ (.int .u32 x)) :=
  store_slot (by kernel_rfl) w b o n _ h ho rfl rfl
def nextW (f : Nat → Sha.W) (i : Nat) : Sha.W := if i < 16 then f i else (Sha.sched f i).getD (i - 16) 0 + (Sha.sched f i).getD (i - 7) 0 + Sha.sig0 ((Sha.sched f i).getD (i - 15) 0) + Sha.sig1 ((Sha.sched f i).getD (i - 2) 0)
theorem sched_get (f : Nat → Sha.W) (i j : Nat) : (Sha.sched f (i + 1)).getD j 0 = if j = i then nextW f i else (Sha.sched f i).getD j 0 := by
  have hl := Sha.sched_len f i
  show (Sha.sched f i ++ [nextW f i]).getD j 0 = _
  rw [List.getD_eq_getElem?_getD, List.getD_eq_getElem?_getD]
  by_cases h : j = i
  · subst h
    rw [if_pos rfl, List.getElem?_append_right (by omega), hl, Nat.sub_self]
    rfl
  · rw [if_neg h]
    by_cases h2 : j < i
    · rw [List.getElem?_append_left (by omega)]
    · rw [List.getElem?_append_right (by omega), List.getElem?_eq_none (by simp; omega), List.getElem?_eq_none (by omega)]
/-- A word's cell. -/
def uV (x : Sha.W) : Value := .int .u32 (num x)
theorem sched_put {f : Nat → Sha.W} {i g : Nat} {wr : World} (hi : i < 64) (hR : isRow wr g 64 = true) (hC : ∀ j, j < 64 → wr.cell? ⟨g, j, none⟩ = some (uV ((Sha.sched f i).getD j 0))) {z : Sha.W} (hz : z = nextW f i) :
    ∀ j, j < 64 → (wr.setCell ⟨g, i, none⟩ (.int .u32 (num z))).cell? ⟨g, j, none⟩ = some (uV ((Sha.sched f (i + 1)).getD j 0)) := fun j hj => by
  rw [sched_get]
  by_cases h : j = i
  · subst h
    rw [if_pos rfl, cell_setCell_here hR hi, hz]
    rfl
  · rw [if_neg h, cell_setCell_off _ _ _ _ _ h, hC j hj]
theorem sRot7 (x : Sha.W) (w : World) : Calls Tryd.prog 117 #[.int .u32 (num x), .int .i64 (-7)] w fun e w' => e = .returned (.int .u32 (num (Sha.rr x 7))) ∧ w' = w := (rot7 x w).mono fun _ _ h => ⟨h.1, h.2.symm⟩
theorem sRot18 (x : Sha.W) (w : World) : Calls Tryd.prog 117 #[.int .u32 (num x), .int .i64 (-18)] w fun e w' => e = .returned (.int .u32 (num (Sha.rr x 18))) ∧ w' = w := (rot18 x w).mono fun _ _ h => ⟨h.1, h.2.symm⟩
theorem sRot17 (x : Sha.W) (w : World) : Calls Tryd.prog 117 #[.int .u32 (num x), .int .i64 (-17)] w fun e w' => e = .returned (.int .u32 (num (Sha.rr x 17))) ∧ w' = w := (rot17 x w).mono fun _ _ h => ⟨h.1, h.2.symm⟩
theorem sRot19 (x : Sha.W) (w : World) : Calls Tryd.prog 117 #[.int .u32 (num x), .int .i64 (-19)] w fun e w' => e = .returned (.int .u32 (num (Sha.rr x 19))) ∧ w' = w := (rot19 x w).mono fun _ _ h => ⟨h.1, h.2.symm⟩
theorem ones_range {w : World} {b n : Nat} (h : ∀ j, j < n → ∃ v, w.cell? ⟨b, j, none⟩ = some v ∧ v.oneCell' = true) : ones (rangeOf w b 0 n) = true := by
  unfold ones
  rw [Array.all_eq_true]
  intro i hi
  have hi' : i < n := by rw [size_rangeOf] at hi; exact hi
  obtain ⟨v, h1, h2⟩ := h i hi'
  have := rangeOf_get (w := w) (b := b) (o := 0) hi' (by rw [Nat.zero_add]; exact h1)
  rw [Array.getElem?_eq_getElem hi] at this
  injection this with this
  rw [this]; exact h2
theorem word_be (x0 x1 x2 x3 : Int) : IntKind.u32.wrap (be [x0, x1, x2, x3]) = num (BitVec.ofInt 32 (((x0 * 256 + x1) * 256 + x2) * 256 + x3)) := by
  rw [IntKind.wrap_u32']
  unfold num be
  simp only [List.foldl_cons, List.foldl_nil, BitVec.toNat_ofInt, Int.zero_mul, Int.zero_add]
  omega
set_option maxRecDepth 20000 in
set_option maxHeartbeats 4000000 in
theorem spread_any (b o n c : Nat) (xs : List Int) (w : World) (hn : xs.length = n) (h64 : n = 64) (hc : n ≤ c) (hcm : c ≤ maxLen) (hb : ∀ x ∈ xs, isByte x) (h : Lib.BytesIn w (some ⟨b, o, none⟩) n xs) :
    Calls Tryd.prog 103 #[.slice (some ⟨b, o, none⟩) n c] w fun e w' => ∃ D, e = .returned (.agg D) ∧ D.size = 64 ∧ (∀ j, j < 64 → D[j]? = some (uV ((Sha.spread xs 0).getD j 0))) ∧ Below w.heap.size w w' := by
  subst h64
  have KH := Lib.hid h
  have KX := Lib.hid hb
  have KN := Lib.hid hn
  have KC := Lib.hid hcm
  clear h hb hn hcm
  have s80 := st80 64
  go_enter Tryd.func103, Tryd.ntmps103
  go_wp2_with fail
  have hB0 : Below w.heap.size w ((w.alloc (.cells zero64 161)).alloc (.cells zero64 161)) := (((Below.refl _ _).alloc (Nat.le_refl _) _).alloc (by simp) _)
  have hR0 : isRow ((w.alloc (.cells zero64 161)).alloc (.cells zero64 161)) w.heap.size 64 = true := by simp [go_sem]
  have hR1 : isRow ((w.alloc (.cells zero64 161)).alloc (.cells zero64 161)) (w.heap.size + 1) 64 = true := by simp [go_sem]
  have hz0 : ∀ j, j < 64 → ((w.alloc (.cells zero64 161)).alloc (.cells zero64 161)).cell? ⟨w.heap.size + 1, j, none⟩ = some (uV 0) := fun j hj => by
    have hh := heap_alloc_last (w.alloc (.cells zero64 161)) (.cells zero64 161)
    have h1 : (w.alloc (.cells zero64 161)).heap.size = w.heap.size + 1 := by simp
    rw [h1] at hh
    rw [cell_of_row _ _ _ _ _ _ hh]
    simp [zero64, hj, uV, num]
  generalize hW1 : (w.alloc (.cells zero64 161)).alloc (.cells zero64 161) = W1 at *
  have hsz : W1.heap.size = w.heap.size + 2 := by rw [← hW1]; simp
  clear hW1
  have KB := Lib.hid hB0
  have KR := Lib.hid hR0
  have KZ := Lib.hid hz0
  have KR1 := Lib.hid hR1
  have KS := Lib.hid hsz
  clear hB0 hR0 hz0 hR1 hsz
  go_loopw [7] (fun x wr => ∃ i : Nat, i ≤ 64 ∧ x = .int .i64 i ∧ Below (w.heap.size + 1) W1 wr ∧ isRow wr (w.heap.size + 1) 64 = true ∧ ∀ j, j < 64 → wr.cell? ⟨w.heap.size + 1, j, none⟩ = some (uV ((Sha.sched (fun i => Sha.wordAt xs (0 + 4 * i)) i).getD j 0))) (fun x _ => 64 - (intOf x).toNat)
  case atStart => exact ⟨0, Nat.zero_le _, rfl, Below.refl _ _, KR1.out, fun j hj => KZ.out j hj⟩
  case round =>
    obtain ⟨i, hi, rfl, hB, hR, hC⟩ := hrel
    have HB := Lib.hid hB
    have HC := Lib.hid hC
    have hl1 := isRow_lt hR
    have hfz := fun j => frozen_row hR j
    clear hB hC
    by_cases hlt : i < 64
    · have ci := HC.out i hlt
      have fi := hfz i
      by_cases h16 : i < 16
      · have n1 : (i : Int) < 16 := by omega
        have hL : Lib.BytesIn wr (some ⟨b, o + 4 * i, none⟩) 4 [xs.getD (4 * i) 0, xs.getD (4 * i + 1) 0, xs.getD (4 * i + 2) 0, xs.getD (4 * i + 3) 0] := fun _ => by
          obtain ⟨b', o', hbo, hcx⟩ := KH.out (by decide)
          obtain ⟨rfl, rfl⟩ : b = b' ∧ o = o' := by simpa using hbo
          refine ⟨b, _, rfl, fun j hj => ?_⟩
          have hx := hcx (4 * i + j) (by omega)
          have hlt : b < w.heap.size := World.block_lt_of_cell? w _ hx
          have e : wr.cell? ⟨b, o + (4 * i + j), none⟩ = some (.int .u8 (xs.getD (4 * i + j) 0)) := by
            rw [HB.out.cell (p := ⟨b, o + (4 * i + j), none⟩) (by show b < _; omega), KB.out.cell (p := ⟨b, o + (4 * i + j), none⟩) (by show b < _; exact hlt)]
            exact hx
          rw [Nat.add_assoc, e]
          have : j = 0 ∨ j = 1 ∨ j = 2 ∨ j = 3 := by omega
          rcases this with rfl | rfl | rfl | rfl <;> rfl
        have hbytes : ∀ x ∈ [xs.getD (4 * i) 0, xs.getD (4 * i + 1) 0, xs.getD (4 * i + 2) 0, xs.getD (4 * i + 3) 0], isByte x := by
          have key : ∀ j, j < 64 → isByte (xs.getD j 0) := fun j hj => by
            apply KX.out
            rw [List.getD_eq_getElem?_getD, List.getElem?_eq_getElem (by rw [KN.out]; exact hj)]
            exact List.getElem_mem _
          intro x hx
          simp only [List.mem_cons, List.not_mem_nil, or_false] at hx
          rcases hx with rfl | rfl | rfl | rfl <;> exact key _ (by omega)
        have hw := word_be (xs.getD (4 * i) 0) (xs.getD (4 * i + 1) 0) (xs.getD (4 * i + 2) 0) (xs.getD (4 * i + 3) 0)
        have hnum := Lib.hid (number_any (some ⟨b, o + 4 * i, none⟩) 4 (c - 4 * i) _ wr rfl (by decide) hbytes hL)
        have HW : Hid (BitVec.ofInt 32 (((xs.getD (4 * i) 0 * 256 + xs.getD (4 * i + 1) 0) * 256 + xs.getD (4 * i + 2) 0) * 256 + xs.getD (4 * i + 3) 0) = Sha.wordAt xs (0 + 4 * i)) := by
          show _ = _
          unfold Sha.wordAt
          rw [Nat.zero_add]
        generalize [xs.getD (4 * i) 0, xs.getD (4 * i + 1) 0, xs.getD (4 * i + 2) 0, xs.getD (4 * i + 3) 0] = L at *
        generalize BitVec.ofInt 32 (((xs.getD (4 * i) 0 * 256 + xs.getD (4 * i + 1) 0) * 256 + xs.getD (4 * i + 2) 0) * 256 + xs.getD (4 * i + 3) 0) = z at *
        clear hL hbytes
        go_wp2_with (go_at_call 116; with_reducible refine hnum.out.mono ?_; rintro e w' ⟨rfl, rfl⟩)
        go_round
        case rel => exact ⟨i + 1, by omega, by go_num, HB.out.setCell (Nat.le_refl _) _, isRow_setCell _ _ _ _ _ _ hR, sched_put hlt hR HC.out (by unfold nextW; rw [if_pos h16]; exact HW.out)⟩
        case measure => simp [intOf]; omega
      · have n1 : ¬ (i : Int) < 16 := by omega
        have c15 := HC.out (i - 15) (by omega)
        have c2 := HC.out (i - 2) (by omega)
        have c16 := HC.out (i - 16) (by omega)
        have c7 := HC.out (i - 7) (by omega)
        have l15 : i - 15 < 64 := by omega
        generalize hx15 : (Sha.sched (fun i => Sha.wordAt xs (0 + 4 * i)) i).getD (i - 15) 0 = x15 at *
        generalize hx2 : (Sha.sched (fun i => Sha.wordAt xs (0 + 4 * i)) i).getD (i - 2) 0 = x2 at *
        generalize hx16 : (Sha.sched (fun i => Sha.wordAt xs (0 + 4 * i)) i).getD (i - 16) 0 = x16 at *
        generalize hx7 : (Sha.sched (fun i => Sha.wordAt xs (0 + 4 * i)) i).getD (i - 7) 0 = x7 at *
        replace hx15 := Lib.hid hx15
        replace hx2 := Lib.hid hx2
        replace hx16 := Lib.hid hx16
        replace hx7 := Lib.hid hx7
        unfold uV at c15 c2 c16 c7
        go_wp2_with fail
        go_quiet (fail)
        go_wp2_with fail
        go_region
        have hR2 : isRow ((wr.drewN (nq + 1)).setCell ⟨w.heap.size + 1, i, none⟩ (.int .u32 (num (x16 + x7)))) (w.heap.size + 1) 64 = true := isRow_setCell _ _ _ _ _ _ hR
        have hB2 : Below (w.heap.size + 1) W1 ((wr.drewN (nq + 1)).setCell ⟨w.heap.size + 1, i, none⟩ (.int .u32 (num (x16 + x7)))) := Below.setCell (show Below (w.heap.size + 1) W1 (wr.drewN (nq + 1)) from HB.out.trans ⟨rfl, rfl, rfl, Nat.le_refl _, fun _ _ => rfl⟩) (p := ⟨w.heap.size + 1, i, none⟩) (Nat.le_refl _) _
        have hC2 : ((wr.drewN (nq + 1)).setCell ⟨w.heap.size + 1, i, none⟩ (.int .u32 (num (x16 + x7)))).cell? ⟨w.heap.size + 1, i, none⟩ = some (.int .u32 (num (x16 + x7))) := cell_setCell_here (n := 64) hR hlt
        have hD2 : ∀ j, j < 64 → j ≠ i → ((wr.drewN (nq + 1)).setCell ⟨w.heap.size + 1, i, none⟩ (.int .u32 (num (x16 + x7)))).cell? ⟨w.heap.size + 1, j, none⟩ = some (uV ((Sha.sched (fun i => Sha.wordAt xs (0 + 4 * i)) i).getD j 0)) := fun j hj hne => (cell_setCell_off _ _ _ _ _ hne).trans (HC.out j hj)
        generalize (wr.drewN (nq + 1)).setCell ⟨w.heap.size + 1, i, none⟩ (.int .u32 (num (x16 + x7))) = V at *
        replace hB2 := Lib.hid hB2
        replace hD2 := Lib.hid hD2
        clear ci fi c15 c2 c16 c7
        go_wp2_with fail
        have hR3 : isRow V.drew (w.heap.size + 1) 64 = true := hR2
        have hC3 : V.drew.cell? ⟨w.heap.size + 1, i, none⟩ = some (.int .u32 (num (x16 + x7))) := hC2
        have hB3 := Lib.hid (hB2.out.drew)
        have hD3 : Hid (∀ j, j < 64 → j ≠ i → V.drew.cell? ⟨w.heap.size + 1, j, none⟩ = some (uV ((Sha.sched (fun i => Sha.wordAt xs (0 + 4 * i)) i).getD j 0))) := fun j hj hne => hD2.out j hj hne
        refine wp_region_still_tail 13 (by kernel_rfl) (by kernel_rfl) ?_
        change wpStill _ _ V.drew (fun a => wpList _ _ _ _ a V.drew) _ _
        generalize V.drew = V3 at *
        clear hR2 hC2 hB2 hD2
        simp only [List.take_succ_cons, List.take_zero, List.drop_succ_cons, List.drop_zero]
        repeat still_step
        still_call (sRot7 _ _)
        repeat still_step
        still_call (sRot18 _ _)
        repeat still_step
        refine wpStill_nil ?_
        go_wp2_with fail
        rw [mod_add]
        generalize hx3 : x16 + x7 + (Sha.rr x15 7 ^^^ Sha.rr x15 18 ^^^ x15 >>> 3) = x3
        replace hx3 := Lib.hid hx3
        have hR4 : isRow (V3.setCell ⟨w.heap.size + 1, i, none⟩ (.int .u32 (num x3))) (w.heap.size + 1) 64 = true := isRow_setCell _ _ _ _ _ _ hR3
        have hC4 := cell_setCell_here (u := .int .u32 (num x3)) hR3 hlt
        have hB4 := Lib.hid (Below.setCell hB3.out (p := ⟨w.heap.size + 1, i, none⟩) (Nat.le_refl _) (.int .u32 (num x3)))
        have hD4 : Hid (∀ j, j < 64 → j ≠ i → (V3.setCell ⟨w.heap.size + 1, i, none⟩ (.int .u32 (num x3))).cell? ⟨w.heap.size + 1, j, none⟩ = some (uV ((Sha.sched (fun i => Sha.wordAt xs (0 + 4 * i)) i).getD j 0))) := fun j hj hne => (cell_setCell_off _ _ _ _ _ hne).trans (hD3.out j hj hne)
        clear hR3 hC3 hB3 hD3
        generalize V3.setCell ⟨w.heap.size + 1, i, none⟩ (.int .u32 (num x3)) = V4 at *
        have hR3 : isRow V4.drew (w.heap.size + 1) 64 = true := hR4
        have hC3 : V4.drew.cell? ⟨w.heap.size + 1, i, none⟩ = some (.int .u32 (num x3)) := hC4
        have hB3 := Lib.hid (hB4.out.drew)
        have hD3 : Hid (∀ j, j < 64 → j ≠ i → V4.drew.cell? ⟨w.heap.size + 1, j, none⟩ = some (uV ((Sha.sched (fun i => Sha.wordAt xs (0 + 4 * i)) i).getD j 0))) := fun j hj hne => hD4.out j hj hne
        refine wp_region_still_tail 13 (by kernel_rfl) (by kernel_rfl) ?_
        change wpStill _ _ V4.drew (fun a => wpList _ _ _ _ a V4.drew) _ _
        generalize V4.drew = V5 at *
        clear hR4 hC4 hB4 hD4
        simp only [List.take_succ_cons, List.take_zero, List.drop_succ_cons, List.drop_zero]
        repeat still_step
        still_call (sRot17 _ _)
        repeat still_step
        still_call (sRot19 _ _)
        repeat still_step
        refine wpStill_nil ?_
        go_wp2_with fail
        go_round
        case rel =>
          refine ⟨i + 1, by omega, by go_num, hB3.out.setCell (Nat.le_refl _) _, isRow_setCell _ _ _ _ _ _ hR3, fun j hj => ?_⟩
          rw [sched_get]
          by_cases h : j = i
          · subst h
            rw [if_pos rfl, cell_setCell_here hR3 hlt]
            unfold nextW uV
            rw [if_neg h16, hx15.out, hx2.out, hx16.out, hx7.out, ← hx3.out]
            rfl
          · rw [if_neg h, cell_setCell_off _ _ _ _ _ h, hD3.out j hj h]
        case measure => simp [intOf]; omega
    · have hie : i = 64 := by omega
      subst hie
      have hh : hasRange wr (w.heap.size + 1) 0 64 = true := has_row hR (by omega)
      have s102 := st102
      have l102 := ld102
      have hr1 := size_rangeOf wr (w.heap.size + 1) 0 64
      have hr2 : ones (rangeOf wr (w.heap.size + 1) 0 64) = true := ones_range (fun j hj => ⟨_, HC.out j hj, rfl⟩)
      have hr0 : isRow wr w.heap.size 64 = true := (isRow_of (HB.out.block _ (by omega))).trans KR.out
      go_wp2_with fail
      have hres := range_setRow_all hr0 _ hr1
      have hhas : hasRange (wr.setRow w.heap.size (rangeOf wr (w.heap.size + 1) 0 64)) w.heap.size 0 64 = true := has_row (isRow_setRow _ _ _ _ hr0 hr1) (by omega)
      refine bodyPost_ret (v := .agg (rangeOf wr (w.heap.size + 1) 0 64)) (by simp [results, Tryd.results103, go_sem, l102, hres, hhas]) rfl ⟨_, rfl, hr1, fun j hj => rangeOf_get hj (by rw [Nat.zero_add]; exact HC.out j hj), below_setRow (KB.out.trans (HB.out.mono (by omega))) (Nat.le_refl _) _⟩
end Go.Proofs.YtbapkamopelgpaaDoor
