/- The digest of figures: Unhex. -/
import Derived.Test.YtdpiplllcinieaaDoorTextC
import Derived.Test.YtdpiplllcinieaaDoorNum
import Derived.Deep.RegionHeld3
namespace Go.Proofs.YtdpiplllcinieaaDoor
open Go.RowKit Go.Stop Go.Extern Go.Ranges
set_option linter.unusedVariables false
set_option linter.unusedSimpArgs false
set_option maxRecDepth 20000
/-- What a cell holds behind i pairs of figures. -/
def pu (s : ByteArray) (i j : Nat) : Int := if j < i then fg s (2 * j) * 16 + fg s (2 * j + 1) else 0
theorem unh_pu (s : ByteArray) (j : Nat) (hj : j < 32) : (unh s).getD j 0 = pu s 32 j := by
  unfold unh pu
  rw [if_pos (by omega), List.getD_eq_getElem?_getD, List.getElem?_map, List.getElem?_range hj]
  rfl
theorem keepB {a w w' : World} (h : Below a.heap.size a w) (h2 : Below w.heap.size w w') : Below a.heap.size a w' := h.trans (h2.mono h.size)
theorem shl_or (h l : Int) (h0 : 0 ≤ h) (h1 : h < 16) (l0 : 0 ≤ l) (l1 : l < 16) : bits .or .i64 (h * 16) l = h * 16 + l := by
  have key : ∀ (a b : Fin 16), bits .or .i64 ((a.val : Int) * 16) (b.val : Int) = (a.val : Int) * 16 + (b.val : Int) := by decide +kernel
  have := key ⟨h.toNat, by omega⟩ ⟨l.toNat, by omega⟩
  have e1 : ((h.toNat : Nat) : Int) = h := by omega
  have e2 : ((l.toNat : Nat) : Int) = l := by omega
  simpa [e1, e2] using this
attribute [-go_sem] loadVar storeVar
attribute [local go_sem] loadVar_one storeVar_one
attribute [local go_sem] zero_ext zero_lit zero_size zero_u8 zero_one zero_some
theorem st25q (w : World) (b : Nat) (C : Array Value) (h : isRow w b 32 = true) (h2 : C.size = 32) (h3 : ones C = true) : (storeVar 25 ⟨b, 0, none⟩ (.agg C)).run Tryd.prog w = .ok () (w.setRow b C) :=
  store_row 32 (by kernel_rfl) w b C h h2 h3
theorem res25 (wr : World) (b : Nat) (C : Array Value) (hR : isRow wr b 32 = true) (hC : C.size = 32) : (loadVar 25 ⟨b, 0, none⟩).run Tryd.prog (wr.setRow b C) = .ok (.agg C) (wr.setRow b C) := by
  rw [ld25 _ _ _ (has_row (isRow_setRow _ _ _ _ hR hC) (by decide)), range_setRow_all hR C hC]
theorem cell_setRow_far (w : World) (C : Array Value) (b c o : Nat) (h : c ≠ b) : (w.setRow b C).cell? ⟨c, o, none⟩ = w.cell? ⟨c, o, none⟩ := World.cell?_of_block (a := ⟨c, o, none⟩) (setRow_other w b c C h)
def unE (s : ByteArray) (a : Nat → Addr) : Value := if good s then .nilIface else .iface 163 (.pointer (some (a 4)))
theorem unE_no {s : ByteArray} (a : Nat → Addr) (h : good s = false) : unE s a = .iface 163 (.pointer (some (a 4))) := by simp [unE, h]
theorem unE_yes {s : ByteArray} (a : Nat → Addr) (h : good s = true) : unE s a = .nilIface := by simp [unE, h]
theorem pu_cells {s : ByteArray} {i g : Nat} {wr : World} (hi : i < 32) (hR : isRow wr g 32 = true) (hC : ∀ j, j < 32 → wr.cell? ⟨g, j, none⟩ = some (.int .u8 (pu s i j))) :
    ∀ j, j < 32 → (wr.setCell ⟨g, i, none⟩ (.int .u8 (fg s (2 * i) * 16 + fg s (2 * i + 1)))).cell? ⟨g, j, none⟩ = some (.int .u8 (pu s (i + 1) j)) := fun j hj => by
  by_cases e : j = i
  · subst e
    rw [cell_setCell_here hR hj]
    unfold pu
    rw [if_pos (by omega)]
  · rw [cell_setCell_off _ _ _ _ _ e, hC j hj]
    unfold pu
    by_cases h : j < i
    · rw [if_pos h, if_pos (by omega)]
    · rw [if_neg h, if_neg (by omega)]
theorem pos_next {s : ByteArray} {i : Nat} (h : ∀ j, j < 2 * i → 0 ≤ fg s j) (h1 : ¬ fg s (2 * i) < 0) (h2 : ¬ fg s (2 * i + 1) < 0) : ∀ j, j < 2 * (i + 1) → 0 ≤ fg s j := fun j hj => by
  by_cases e : j = 2 * i
  · subst e; omega
  · by_cases e2 : j = 2 * i + 1
    · subst e2; omega
    · exact h j (by omega)
set_option maxHeartbeats 4000000 in
theorem unhex_any (a : Nat → Addr) (s : ByteArray) (w : World) (hs : s.size ≤ maxLen) (HE : Errs w a) :
    Calls Tryd.prog 22 #[.string s] w fun e w' => ∃ D, e = .returned (.tuple #[.agg D, unE s a]) ∧ isOid D (unhV s) ∧ Below w.heap.size w w' := by
  have hs2 : (s.size : Int) ≤ 9223372036854775807 := by have := hs; unfold maxLen at this; omega
  clear hs
  have l25 := ld25
  have s25r := st25q
  have s5 := st5 32
  have e4 := HE.at 4 (by decide) (by decide)
  have hlt4 := World.block_lt_of_cell? w _ e4
  have e4' : w.cell? ⟨1, 0, none⟩ = _ := e4
  have hlt4' : 1 < w.heap.size := hlt4
  clear e4 hlt4
  by_cases h64 : s.size = 64
  · go_enter Tryd.func22, Tryd.ntmps22
    go_wp2_with fail
    have hB0 : Below w.heap.size w ((w.alloc (.cells zero32 25)).alloc (.cells zero32 25)) := ((Below.refl _ _).alloc (Nat.le_refl _) _).alloc (by simp) _
    have hR0 : isRow ((w.alloc (.cells zero32 25)).alloc (.cells zero32 25)) w.heap.size 32 = true := by simp [go_sem]
    have hR1 : isRow ((w.alloc (.cells zero32 25)).alloc (.cells zero32 25)) (w.heap.size + 1) 32 = true := by simp [go_sem]
    have hz0 : ∀ j, j < 32 → ((w.alloc (.cells zero32 25)).alloc (.cells zero32 25)).cell? ⟨w.heap.size + 1, j, none⟩ = some (.int .u8 0) := fun j hj => by
      rw [cell_of_row _ _ _ _ _ _ (two_heap w _ _).2, isOid_zero.at_ j hj, List.getD_eq_getElem?_getD, List.getElem?_replicate, if_pos hj]
      rfl
    generalize (w.alloc (.cells zero32 25)).alloc (.cells zero32 25) = W0 at *
    have KB0 := Lib.hid hB0
    have KR0 := Lib.hid hR0
    have KR1 := Lib.hid hR1
    have KZ := Lib.hid hz0
    have H64 := Lib.hid h64
    have KE := Lib.hid e4'
    have hl2' := isRow_lt hR1
    clear hB0 hR0 hR1 hz0 e4'
    go_loopw [13] (fun x wr => ∃ i : Nat, i ≤ 32 ∧ x = .int .i64 i ∧ Below w.heap.size w wr ∧ isRow wr w.heap.size 32 = true ∧ isRow wr (w.heap.size + 1) 32 = true ∧ (∀ j, j < 32 → wr.cell? ⟨w.heap.size + 1, j, none⟩ = some (.int .u8 (pu s i j))) ∧ ∀ j, j < 2 * i → 0 ≤ fg s j) (fun x _ => 32 - (intOf x).toNat)
    case atStart => exact ⟨0, Nat.zero_le _, rfl, KB0.out, KR0.out, KR1.out, fun j hj => by rw [KZ.out j hj]; simp [pu], fun j hj => absurd hj (by omega)⟩
    case round =>
      obtain ⟨i, hi, rfl, hB, hR, hR1, hC, hP⟩ := hrel
      have HB := Lib.hid hB
      have HC := Lib.hid hC
      have HP := Lib.hid hP
      have HR := Lib.hid hR
      have HR1 := Lib.hid hR1
      have hl1 := isRow_lt hR
      have hl2 := isRow_lt hR1
      clear hB hC hP hR hR1
      by_cases hlt : i < 32
      · have q1 : IntKind.i64.wrap (2 * (i : Int)) = 2 * (i : Int) := by rw [IntKind.wrap_i64]; omega
        have q2 : IntKind.i64.wrap (2 * (i : Int) + 1) = 2 * (i : Int) + 1 := by rw [IntKind.wrap_i64]; omega
        have q3 : (0 : Int) ≤ 2 * (i : Int) := by omega
        have q4 : (0 : Int) ≤ 2 * (i : Int) + 1 := by omega
        have hix1 : ∀ w, (Instr.index 9 (.string s) (.int .i64 (2 * (i : Int)))).run Tryd.prog w = .ok (.int .u8 (sb s (2 * i))) w := fun w => by
          have := ixs s (2 * i) (by omega) w
          rwa [show (((2 * i : Nat)) : Int) = 2 * (i : Int) by omega] at this
        have hix2 : ∀ w, (Instr.index 9 (.string s) (.int .i64 (2 * (i : Int) + 1))).run Tryd.prog w = .ok (.int .u8 (sb s (2 * i + 1))) w := fun w => by
          have := ixs s (2 * i + 1) (by omega) w
          rwa [show (((2 * i + 1 : Nat)) : Int) = 2 * (i : Int) + 1 by omega] at this
        have HF : Hid (∀ k w, Calls Tryd.prog 47 #[.int .u8 (sb s k)] w fun e w' => e = .returned (.int .i64 (fg s k)) ∧ Below w.heap.size w w') := Lib.hid (fun k w => figure_any (sb s k) w (sb_byte s k))
        have pB := (Below.refl wr.heap.size wr).drew
        have hf1 : Hid (fg s (2 * i) < 16) := (figT_range (sb s (2 * i))).2
        have hf2 : Hid (fg s (2 * i + 1) < 16) := (figT_range (sb s (2 * i + 1))).2
        have hbad1 : fg s (2 * i) < 0 → good s = false := fun h => good_no2 (by omega) h
        have hbad2 : fg s (2 * i + 1) < 0 → good s = false := fun h => good_no2 (by omega) h
        have B1 := Lib.hid hbad1
        have B2 := Lib.hid hbad2
        clear hbad1 hbad2
        go_wp2_with fail
        go_region_held3 (fun w' => Below wr.heap.size wr w')
          (first
            | exact pB
            | assumption
            | exact keepB (by assumption) hb)
          (first
            | (go_at_call 47; (with_reducible refine (HF.out _ _).mono ?_); rintro e w' ⟨rfl, hb⟩))
        all_goals
          have hW : Below wr.heap.size wr w' := by assumption
          have HW := Lib.hid hW
          have r1 : isRow w' w.heap.size 32 = true := (isRow_of (hW.block _ hl1)).trans HR.out
          have r2 : isRow w' (w.heap.size + 1) 32 = true := (isRow_of (hW.block _ hl2)).trans HR1.out
          have cc : Hid (∀ j, j < 32 → w'.cell? ⟨w.heap.size + 1, j, none⟩ = some (.int .u8 (pu s i j))) := Lib.hid (fun j hj => (hW.cell (p := ⟨w.heap.size + 1, j, none⟩) hl2).trans (HC.out j hj))
          have hBw := Lib.hid (HB.out.trans (hW.mono HB.out.size))
          have c4 := ((hBw.out.drew).cell (p := ⟨1, 0, none⟩) hlt4').trans KE.out
          have c4r := (cell_setRow_far w'.drew zero32 w.heap.size 1 0 (by omega)).trans c4
          have l1 := isRow_lt r1
          have l2 := isRow_lt r2
          clear hW pB hix1 hix2
          by_cases n1 : fg s (2 * i) < 0
          · have hg := Lib.hid (B1.out n1)
            go_wp2_with fail
            go_region
            go_wp2_with fail
            refine bodyPost_ret (v := .tuple #[.agg zero32, .iface 163 (.pointer (some (a 4)))]) ?_ rfl ⟨zero32, ?_, ?_, ?_⟩
            · simp [results, Tryd.results22, go_sem, res25 w'.drew _ zero32 r1 zero_size]
            · rw [unE_no _ hg.out]
            · rw [unhV_no hg.out]; exact isOid_zero
            · exact below_setRow hBw.out.drew (Nat.le_refl _) _
          · by_cases n2 : fg s (2 * i + 1) < 0
            · have hg := Lib.hid (B2.out n2)
              go_wp2_with fail
              go_region
              go_wp2_with fail
              refine bodyPost_ret (v := .tuple #[.agg zero32, .iface 163 (.pointer (some (a 4)))]) ?_ rfl ⟨zero32, ?_, ?_, ?_⟩
              · simp [results, Tryd.results22, go_sem, res25 w'.drew _ zero32 r1 zero_size]
              · rw [unE_no _ hg.out]
              · rw [unhV_no hg.out]; exact isOid_zero
              · exact below_setRow hBw.out.drew (Nat.le_refl _) _
            · have ho := shl_or _ _ (Int.not_lt.1 n1) hf1.out (Int.not_lt.1 n2) hf2.out
              have M1 := Lib.hid n1
              have M2 := Lib.hid n2
              have u1 := hf1.out
              have u2 := hf2.out
              go_wp2_with fail
              go_round
              case rel =>
                refine ⟨i + 1, by omega, by go_num, hBw.out.setCell (by simp) _, by simp [go_sem, r1], by simp [go_sem, r2], ?_, ?_⟩
                · exact pu_cells hlt r2 cc.out
                · exact pos_next HP.out M1.out M2.out
              case measure => simp only [intOf]; omega
      · obtain rfl : i = 32 := by omega
        have hg := Lib.hid (good_yes H64.out HP.out)
        have hcell := fun j (hj : j < 32) => (HC.out j hj).trans (by rw [← unh_pu s j hj])
        have hD : isOid (rangeOf wr (w.heap.size + 1) 0 32) (unh s) := ⟨size_rangeOf _ _ _ _, fun j hj => rangeOf_get hj (by rw [Nat.zero_add]; exact hcell j hj)⟩
        have hdo := oid_onesT hD
        have hR := HR.out
        have hhr : hasRange wr (w.heap.size + 1) 0 32 = true := has_row HR1.out (by decide)
        have hsz : (rangeOf wr (w.heap.size + 1) 0 32).size = 32 := size_rangeOf _ _ _ _
        have HD := Lib.hid hD
        clear hD hcell
        go_wp2_with fail
        refine bodyPost_ret (v := .tuple #[.agg (rangeOf wr (w.heap.size + 1) 0 32), .nilIface]) ?_ rfl ⟨rangeOf wr (w.heap.size + 1) 0 32, ?_, ?_, ?_⟩
        · simp [results, Tryd.results22, go_sem, res25 wr _ _ hR hsz]
        · rw [unE_yes _ hg.out]
        · rw [unhV_yes hg.out]; exact HD.out
        · exact below_setRow HB.out (Nat.le_refl _) _
  · have hg := Lib.hid (good_no1 h64)
    go_enter Tryd.func22, Tryd.ntmps22
    go_wp2_with fail
    have hB0 : Below w.heap.size w ((w.alloc (.cells zero32 25)).alloc (.cells zero32 25)) := ((Below.refl _ _).alloc (Nat.le_refl _) _).alloc (by simp) _
    have hR0 : isRow ((w.alloc (.cells zero32 25)).alloc (.cells zero32 25)) w.heap.size 32 = true := by simp [go_sem]
    have c4 := (hB0.cell (p := ⟨1, 0, none⟩) hlt4').trans e4'
    generalize (w.alloc (.cells zero32 25)).alloc (.cells zero32 25) = W0 at *
    have c4r := (cell_setRow_far W0.drew zero32 w.heap.size 1 0 (by omega)).trans c4
    go_region
    go_wp2_with fail
    refine bodyPost_ret (v := .tuple #[.agg zero32, .iface 163 (.pointer (some (a 4)))]) ?_ rfl ⟨zero32, ?_, ?_, ?_⟩
    · simp [results, Tryd.results22, go_sem, res25 W0.drew _ zero32 hR0 zero_size]
    · rw [unE_no _ hg.out]
    · rw [unhV_no hg.out]; exact isOid_zero
    · exact below_setRow hB0.drew (Nat.le_refl _) _
end Go.Proofs.YtdpiplllcinieaaDoor
