/- The reference's Unhex. -/
import Derived.Test.YtdpiplllcinieaaDoorTextB
namespace Go.Proofs.YtdpiplllcinieaaDoor
open Go.RowKit Go.Stop Go.Extern Go.Ranges
set_option linter.unusedVariables false
set_option linter.unusedSimpArgs false
set_option maxRecDepth 20000
/-- A text's byte as a number. -/
def sb (s : ByteArray) (i : Nat) : Int := ((s.data.toList.getD i 0).toNat : Int)
theorem sb_byte (s : ByteArray) (i : Nat) : isByte (sb s i) := ⟨by unfold sb; omega, by unfold sb; have := UInt8.toNat_lt (s.data.toList.getD i 0); omega⟩
theorem ixs (s : ByteArray) (i : Nat) (hi : i < s.size) (w : World) : (Instr.index 9 (.string s) (.int .i64 i)).run Tryd.prog w = .ok (.int .u8 (sb s i)) w := by
  have h : s.data.toList.getD i 0 = s[i] := by
    rw [List.getD_eq_getElem?_getD, List.getElem?_eq_getElem (by simpa using hi)]
    rfl
  simp [Instr.index, go_sem, Tryd.underlying9, hi, sb, h]
  rfl
/-- A figure's number in a text. -/
def fg (s : ByteArray) (i : Nat) : Int := figT (sb s i)
/-- Is a text a digest's figures? -/
def good (s : ByteArray) : Bool := s.size == 64 && (List.range 64).all fun i => decide (0 ≤ fg s i)
def unh (s : ByteArray) : List Int := (List.range 32).map fun i => fg s (2 * i) * 16 + fg s (2 * i + 1)
def unhV (s : ByteArray) : List Int := if good s then unh s else List.replicate 32 0
/-- What a cell holds behind i figures. -/
def pv (s : ByteArray) (i j : Nat) : Int := if 2 * j + 1 < i then fg s (2 * j) * 16 + fg s (2 * j + 1) else if 2 * j < i then fg s (2 * j) else 0
theorem good_no1 {s : ByteArray} (h : s.size ≠ 64) : good s = false := by simp [good, h]
theorem good_no2 {s : ByteArray} {i : Nat} (hi : i < 64) (h : fg s i < 0) : good s = false := by
  unfold good
  rw [Bool.and_eq_false_iff]
  right
  rw [List.all_eq_false]
  exact ⟨i, List.mem_range.2 hi, by simp; omega⟩
theorem good_yes {s : ByteArray} (h0 : s.size = 64) (h : ∀ i, i < 64 → 0 ≤ fg s i) : good s = true := by
  unfold good
  simp only [h0, BEq.rfl, Bool.true_and, List.all_eq_true, List.mem_range, decide_eq_true_eq]
  exact h
theorem isOid_zero : isOid zero32 (List.replicate 32 0) := ⟨zero_size, fun i hi => by
  have h1 : zero32 = (List.replicate 32 (Value.int .u8 0)).toArray := by kernel_rfl
  rw [h1, List.getElem?_toArray, List.getElem?_replicate, if_pos hi, List.getD_eq_getElem?_getD, List.getElem?_replicate, if_pos hi]
  rfl⟩
theorem unh_at (s : ByteArray) (j : Nat) (hj : j < 32) : (unh s).getD j 0 = pv s 64 j := by
  unfold unh pv
  rw [if_pos (by omega), List.getD_eq_getElem?_getD, List.getElem?_map, List.getElem?_range hj]
  rfl
attribute [-go_sem] loadVar storeVar
attribute [local go_sem] loadVar_one storeVar_one
attribute [local go_sem] zero_ext zero_lit zero_size zero_u8 zero_one zero_some
theorem ld24 (w : World) (b o : Nat) (h : hasRange w b o 32 = true) : (loadVar 24 ⟨b, o, none⟩).run Tryd.prog w = .ok (.agg (rangeOf w b o 32)) w :=
  var_range 32 Tryd.underlying24 rfl (by kernel_rfl) w b o h
theorem st24n (w : World) (C C' : Array Value) (g : Nat) (hg : g = w.heap.size) (h1 : C.size = 32) (h2 : C'.size = 32) (h3 : ones C' = true) :
    (storeVar 24 ⟨g, 0, none⟩ (.agg C')).run Tryd.prog (w.alloc (.cells C 24)) = .ok () (w.alloc (.cells C' 24)) :=
  var_new 32 (by kernel_rfl) w C C' g hg h1 h2 h3
theorem st24r (w : World) (b : Nat) (C : Array Value) (h : isRow w b 32 = true) (h2 : C.size = 32) (h3 : ones C = true) : (storeVar 24 ⟨b, 0, none⟩ (.agg C)).run Tryd.prog w = .ok () (w.setRow b C) :=
  store_row 32 (by kernel_rfl) w b C h h2 h3
theorem st5 (n : Nat) (w : World) (b o : Nat) (x : Int) (ho : o < n) (h : isRow w b n = true) : (storeVar 5 ⟨b, o, none⟩ (.int .u8 x)).run Tryd.prog w = .ok () (w.setCell ⟨b, o, none⟩ (.int .u8 x)) :=
  store_slot (by kernel_rfl) w b o n _ h ho rfl rfl
theorem oid_onesT {C : Array Value} {xs : List Int} (h : isOid C xs) : ones C = true := by
  unfold ones
  rw [Array.all_eq_true]
  intro i hi
  have := h.at_ i (by rw [← h.size]; exact hi)
  rw [Array.getElem?_eq_getElem hi] at this
  injection this with this
  rw [this]; rfl
theorem res24 (wr : World) (b : Nat) (C : Array Value) (hR : isRow wr b 32 = true) (hC : C.size = 32) : (loadVar 24 ⟨b, 0, none⟩).run Tryd.prog (wr.setRow b C) = .ok (.agg C) (wr.setRow b C) := by
  rw [ld24 _ _ _ (has_row (isRow_setRow _ _ _ _ hR hC) (by decide)), range_setRow_all hR C hC]
theorem isOid_range {w : World} {b : Nat} {f : Nat → Int} {xs : List Int} (h : ∀ j, j < 32 → w.cell? ⟨b, j, none⟩ = some (.int .u8 (xs.getD j 0))) : isOid (rangeOf w b 0 32) xs :=
  ⟨size_rangeOf _ _ _ _, fun j hj => rangeOf_get hj (by rw [Nat.zero_add]; exact h j hj)⟩
theorem unhV_no {s : ByteArray} (h : good s = false) : unhV s = List.replicate 32 0 := by simp [unhV, h]
theorem unhV_yes {s : ByteArray} (h : good s = true) : unhV s = unh s := by simp [unhV, h]
theorem pv_here {s : ByteArray} {i m b : Nat} (hi : i = 2 * m + b) (hb : b < 2) (hp : ∀ j, j < i → 0 ≤ fg s j) (hn : 0 ≤ fg s i) : (pv s i m * 16 + fg s i) % 256 = pv s (i + 1) m := by
  have f1 : fg s i < 16 := (figT_range (sb s i)).2
  have hbb : b = 0 ∨ b = 1 := by omega
  unfold pv
  rcases hbb with rfl | rfl
  · rw [if_neg (by omega), if_neg (by omega), if_neg (by omega), if_pos (by omega), show 2 * m = i by omega]
    omega
  · have f0 : fg s (2 * m) < 16 := (figT_range (sb s (2 * m))).2
    have f2 := hp (2 * m) (by omega)
    rw [if_neg (by omega), if_pos (by omega), if_pos (by omega), show 2 * m + 1 = i by omega]
    omega
theorem pv_off {s : ByteArray} {i m b j : Nat} (hi : i = 2 * m + b) (hb : b < 2) (hj : j ≠ m) : pv s (i + 1) j = pv s i j := by
  unfold pv
  by_cases h : j < m
  · rw [if_pos (by omega), if_pos (by omega)]
  · rw [if_neg (by omega), if_neg (by omega), if_neg (by omega), if_neg (by omega)]
theorem pv_cells {s : ByteArray} {i m b g : Nat} {wr : World} (hi : i = 2 * m + b) (hb : b < 2) (hm : m < 32) (hR : isRow wr g 32 = true) (hC : ∀ j, j < 32 → wr.cell? ⟨g, j, none⟩ = some (.int .u8 (pv s i j))) (hp : ∀ j, j < i → 0 ≤ fg s j) (hn : 0 ≤ fg s i) :
    ∀ j, j < 32 → (wr.setCell ⟨g, m, none⟩ (.int .u8 ((pv s i m * 16 + fg s i) % 256))).cell? ⟨g, j, none⟩ = some (.int .u8 (pv s (i + 1) j)) := fun j hj => by
  by_cases e : j = m
  · subst e
    rw [cell_setCell_here hR hj, pv_here hi hb hp hn]
  · rw [cell_setCell_off _ _ _ _ _ e, hC j hj, pv_off hi hb e]
theorem pv_range {s : ByteArray} {i m b : Nat} (hi : i = 2 * m + b) (hb : b < 2) (hp : ∀ j, j < i → 0 ≤ fg s j) : 0 ≤ pv s i m ∧ pv s i m < 16 := by
  have hbb : b = 0 ∨ b = 1 := by omega
  unfold pv
  rcases hbb with rfl | rfl
  · rw [if_neg (by omega), if_neg (by omega)]; omega
  · rw [if_neg (by omega), if_pos (by omega)]
    exact ⟨hp _ (by omega), (figT_range (sb s (2 * m))).2⟩
set_option maxHeartbeats 4000000 in
theorem refUnhex_any (s : ByteArray) (w : World) (hs : s.size ≤ maxLen) :
    Calls Tryd.prog 24 #[.string s] w fun e w' => ∃ D, e = .returned (.tuple #[.agg D, .bool (good s)]) ∧ isOid D (unhV s) ∧ Below w.heap.size w w' := by
  have hs2 : (s.size : Int) ≤ 9223372036854775807 := by have := hs; unfold maxLen at this; omega
  clear hs
  have l24 := ld24
  have s24n := st24n
  have s24r := st24r
  have s5 := st5 32
  by_cases h64 : s.size = 64
  · go_enter Tryd.func24, Tryd.ntmps24
    go_wp2_with fail
    have hB0 : Below w.heap.size w ((w.alloc (.cells zero32 24)).alloc (.cells zero32 24)) := ((Below.refl _ _).alloc (Nat.le_refl _) _).alloc (by simp) _
    have hR0 : isRow ((w.alloc (.cells zero32 24)).alloc (.cells zero32 24)) w.heap.size 32 = true := by simp [go_sem]
    have hR1 : isRow ((w.alloc (.cells zero32 24)).alloc (.cells zero32 24)) (w.heap.size + 1) 32 = true := by simp [go_sem]
    have hz0 : ∀ j, j < 32 → ((w.alloc (.cells zero32 24)).alloc (.cells zero32 24)).cell? ⟨w.heap.size + 1, j, none⟩ = some (.int .u8 0) := fun j hj => by
      rw [cell_of_row _ _ _ _ _ _ (two_heap w _ _).2, isOid_zero.at_ j hj, List.getD_eq_getElem?_getD, List.getElem?_replicate, if_pos hj]
      rfl
    generalize (w.alloc (.cells zero32 24)).alloc (.cells zero32 24) = W0 at *
    have KB0 := Lib.hid hB0
    have KR0 := Lib.hid hR0
    have KR1 := Lib.hid hR1
    have KZ := Lib.hid hz0
    have H64 := Lib.hid h64
    clear hB0 hR0 hR1 hz0
    go_loopw [5] (fun x wr => ∃ i : Nat, i ≤ 64 ∧ x = .int .i64 i ∧ Below w.heap.size w wr ∧ isRow wr w.heap.size 32 = true ∧ isRow wr (w.heap.size + 1) 32 = true ∧ (∀ j, j < 32 → wr.cell? ⟨w.heap.size + 1, j, none⟩ = some (.int .u8 (pv s i j))) ∧ ∀ j, j < i → 0 ≤ fg s j) (fun x _ => 64 - (intOf x).toNat)
    case atStart => exact ⟨0, Nat.zero_le _, rfl, KB0.out, KR0.out, KR1.out, fun j hj => by rw [KZ.out j hj]; simp [pv], fun j hj => absurd hj (by omega)⟩
    case round =>
      obtain ⟨i, hi, rfl, hB, hR, hR1, hC, hP⟩ := hrel
      have HB := Lib.hid hB
      have HC := Lib.hid hC
      have HP := Lib.hid hP
      have hl1 := isRow_lt hR
      have hl2 := isRow_lt hR1
      clear hB hC hP
      by_cases hlt : i < 64
      · have hix := ixs s i (by omega)
        have hfg := refFigure_any (sb s i) wr (sb_byte s i)
        have hfr : Hid (-1 ≤ fg s i ∧ fg s i < 16) := figT_range (sb s i)
        have HF : Hid (Calls Tryd.prog 48 #[.int .u8 (sb s i)] wr fun e w' => e = .returned (.int .i64 (fg s i)) ∧ wr = w') := Lib.hid hfg
        clear hfg
        by_cases hneg : fg s i < 0
        · have hg := Lib.hid (good_no2 hlt hneg)
          go_wp2_with (go_at_call 48; refine HF.out.mono ?_; rintro e w1 ⟨rfl, rfl⟩)
          refine bodyPost_ret (v := .tuple #[.agg zero32, .bool false]) ?_ rfl ⟨zero32, ?_, ?_, ?_⟩
          · simp [results, Tryd.results24, go_sem, res24 wr _ zero32 hR zero_size]
          · rw [hg.out]
          · rw [unhV_no hg.out]; exact isOid_zero
          · exact below_setRow HB.out (Nat.le_refl _) _
        · obtain ⟨m, b, hm, hb, hmb⟩ : ∃ m b : Nat, m < 32 ∧ b < 2 ∧ i = 2 * m + b := ⟨i / 2, i % 2, by omega, by omega, by omega⟩
          have hdiv : (i : Int) / 2 = (m : Int) := by omega
          have hcm := HC.out m hm
          have hpv := Lib.hid (pv_range hmb hb HP.out)
          have Hmb := Lib.hid hmb
          have Hb := Lib.hid hb
          clear hmb hb
          go_wp2_with (go_at_call 48; refine HF.out.mono ?_; rintro e w1 ⟨rfl, rfl⟩)
          go_round
          case rel =>
            refine ⟨i + 1, by omega, by go_num, ?_, ?_, ?_, ?_, ?_⟩
            · exact HB.out.setCell (by simp) _
            · simp [go_sem, hR]
            · simp [go_sem, hR1]
            · exact pv_cells Hmb.out Hb.out hm hR1 HC.out HP.out (by omega)
            · intro j hj
              by_cases e : j = i
              · subst e; omega
              · exact HP.out j (by omega)
          case measure => simp only [intOf]; omega
      · obtain rfl : i = 64 := by omega
        have hg := good_yes H64.out HP.out
        have hcell := fun j (hj : j < 32) => (HC.out j hj).trans (by rw [← unh_at s j hj])
        have hD : isOid (rangeOf wr (w.heap.size + 1) 0 32) (unh s) := ⟨size_rangeOf _ _ _ _, fun j hj => rangeOf_get hj (by rw [Nat.zero_add]; exact hcell j hj)⟩
        have hdo := oid_onesT hD
        have hhr : hasRange wr (w.heap.size + 1) 0 32 = true := has_row hR1 (by decide)
        have hsz : (rangeOf wr (w.heap.size + 1) 0 32).size = 32 := size_rangeOf _ _ _ _
        have HD := Lib.hid hD
        clear hD hcell
        go_wp2_with fail
        refine bodyPost_ret (v := .tuple #[.agg (rangeOf wr (w.heap.size + 1) 0 32), .bool true]) ?_ rfl ⟨rangeOf wr (w.heap.size + 1) 0 32, ?_, ?_, ?_⟩
        · simp [results, Tryd.results24, go_sem, res24 wr _ _ hR hsz]
        · rw [hg]
        · rw [unhV_yes hg]; exact HD.out
        · exact below_setRow HB.out (Nat.le_refl _) _
  · have hg := good_no1 h64
    go_enter Tryd.func24, Tryd.ntmps24
    go_wp2_with fail
    refine bodyPost_ret (v := .tuple #[.agg zero32, .bool false]) ?_ rfl ⟨zero32, ?_, ?_, ?_⟩
    · have h2 : isRow ((w.alloc (.cells zero32 24)).alloc (.cells zero32 24)) w.heap.size 32 = true := by simp [go_sem]
      simp [results, Tryd.results24, go_sem, res24 _ _ zero32 h2 zero_size]
    · rw [hg]
    · rw [unhV_no hg]; exact isOid_zero
    · exact below_setRow (((Below.refl _ _).alloc (Nat.le_refl _) _).alloc (by simp) _) (Nat.le_refl _) _
end Go.Proofs.YtdpiplllcinieaaDoor
