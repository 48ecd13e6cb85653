/- Bytes and Kept of the laws' aids; the parts that came in. -/
import Derived.Test.YtdpiplllcinieaaDoorShaH
import Derived.Test.YtdpiplllcinieaaDoorObjB
import Derived.Test.YtdpiplllcinieaaDoorOpenObj
import Derived.StillTailTactics
namespace Go.Proofs.YtdpiplllcinieaaDoor
open Go.RowKit Go.Stop Go.Extern Go.Ranges
set_option linter.unusedVariables false
set_option linter.unusedSimpArgs false
def kept : List Int := [201, 202, 203, 204, 205, 206]
set_option maxRecDepth 20000 in
set_option maxHeartbeats 4000000 in
theorem bytesAid_any (A : Option Addr) (n c : Nat) (xs : List Int) (w : World) (hn : xs.length = n) (hB : Lib.BytesIn w A n xs) (hL : n ≤ 274877906944) :
    Calls Tryd.prog 17 #[.slice A n c] w fun e w' => ∃ g cap, e = .returned (.slice (some ⟨g, 0, none⟩) n cap) ∧ Below w.heap.size w w' ∧ w'.ownsRow w.heap.size 5 1 (.slice (some ⟨g, 0, none⟩) (n + 6) cap) (n + 6) (bV (xs ++ kept)) := by
  have KI := Lib.hid hB
  have KN := Lib.hid hn
  clear hB hn
  obtain ⟨it, j1, j2, j3, j4⟩ := of_row1 row5
  obtain ⟨w0, hr0, ho0, hg0⟩ := run_make_own (P := Tryd.prog) w w.heap.size 22 5 it (.int .u8 0) 1 Tryd.underlying22 j1 j2 j3 .i64 .i64 (n + 6) (by rw [j4]; omega) (by unfold maxLen; omega) (Nat.le_refl _)
  have hb0 : Below w.heap.size w w0 := (Below.refl _ _).grown hg0 (Nat.le_refl _) (fun k hk => by cases hk)
  obtain ⟨v1, w1, hr1, ho1, hg1⟩ := app_bytes (xs := []) ho0 A n c xs KN.out (bytesIn_below' KI.out hb0) hb0.size (by omega)
  rw [Nat.zero_add, List.nil_append] at ho1
  have hb1 : Below w.heap.size w w1 := hb0.grown hg1 hb0.size (fun k hk => (ho0.lt k hk).1)
  have hb2 : Below w.heap.size w (w1.alloc (.cells #[.int .u8 201, .int .u8 202, .int .u8 203, .int .u8 204, .int .u8 205, .int .u8 206] 5)) := hb1.alloc hb1.size _
  obtain ⟨v2, w2, hr2, ho2, hg2⟩ := app_bytes (ho1.alloc (.cells #[.int .u8 201, .int .u8 202, .int .u8 203, .int .u8 204, .int .u8 205, .int .u8 206] 5)) (some ⟨w1.heap.size, 0, none⟩) 6 6 kept rfl (fun _ => ⟨_, 0, rfl, fun i hi => by
    rw [cell_of_row _ _ _ _ _ _ (heap_alloc_last w1 _)]
    have : i = 0 ∨ i = 1 ∨ i = 2 ∨ i = 3 ∨ i = 4 ∨ i = 5 := by omega
    rcases this with rfl | rfl | rfl | rfl | rfl | rfl <;> rfl⟩) hb2.size (by omega)
  have hb3 : Below w.heap.size w w2 := hb2.grown hg2 hb2.size (fun k hk => (ho1.lt k hk).1)
  obtain ⟨g, cap, rfl, hgc, hgm, hgl⟩ := own_form8 ho2 (by omega)
  have KB := Lib.hid hb3
  have KO := Lib.hid ho2
  have mk : (Instr.makeSlice 22 (.int .i64 0) (.int .i64 ((n : Int) + 6))).run Tryd.prog w = .ok (.slice (some ⟨w.heap.size, 0, none⟩) 0 (n + 6)) w0 := hr0
  clear hb0 hb1 hb2 hb3 ho0 ho1 ho2 hg0 hg1 hg2 hr0
  go_enter Tryd.func17, Tryd.ntmps17
  go_wp2_with (first
    | (at_builtin; refine Lib.wpList_append_run _ rfl (.tmp 7) (.tmp 8) 22 22 rfl _ _ rfl rfl _ _ hr1 ?_)
    | (at_builtin; go_loud (refine Lib.wpList_append_run _ rfl (.tmp 9) (.tmp 10) 22 22 rfl _ _ rfl rfl _ _ hr2 ?_)))
  go_ret
  exact ⟨g, cap, rfl, KB.out, KO.out⟩
theorem kept_at (i : Nat) (hi : i < 6) : kept.getD i 0 = 201 + (i : Int) := by
  have : i = 0 ∨ i = 1 ∨ i = 2 ∨ i = 3 ∨ i = 4 ∨ i = 5 := by omega
  rcases this with rfl | rfl | rfl | rfl | rfl | rfl <;> rfl
set_option maxRecDepth 20000 in
set_option maxHeartbeats 4000000 in
theorem keptAid_any (g n cap : Nat) (B : Option Addr) (c : Nat) (xs : List Int) (w : World) (hn : xs.length = n) (h1 : Lib.BytesIn w (some ⟨g, 0, none⟩) (n + 6) (xs ++ kept)) (h2 : Lib.BytesIn w B n xs) (hc : n + 6 ≤ cap) (hm : cap ≤ maxLen) :
    Calls Tryd.prog 20 #[.slice (some ⟨g, 0, none⟩) n cap, .slice B n c] w fun e w' => e = .returned (.bool true) ∧ Below w.heap.size w w' := by
  have hm2 : (cap : Int) ≤ 9223372036854775807 := by have := hm; unfold maxLen at this; omega
  have hp : Lib.BytesIn w (some ⟨g, 0, none⟩) n xs := fun h0 => by
    obtain ⟨b, o, hbo, hcx⟩ := h1 (by omega)
    refine ⟨b, o, hbo, fun i hi => ?_⟩
    rw [hcx i (by omega), List.getD_eq_getElem?_getD, List.getD_eq_getElem?_getD, List.getElem?_append_left (by omega)]
  have hbd : Below w.heap.size w w.drew := (Below.refl _ _).drew
  have c1 := (bytesIn_below' hp hbd).convert (P := Tryd.prog) hn cap 22 5 9 Tryd.underlying22 Tryd.underlying5 Tryd.underlying9
  have c2 := (bytesIn_below' h2 hbd).convert (P := Tryd.prog) hn c 22 5 9 Tryd.underlying22 Tryd.underlying5 Tryd.underlying9
  have K1 := Lib.hid (bytesIn_below' h1 hbd)
  have KN := Lib.hid hn
  have KC := Lib.hid hc
  have KD := Lib.hid hbd
  have hns : ¬ ((cap : Int) < (n : Int) + 6) := by omega
  have hd : decide ((cap : Int) < (n : Int) + 6) = false := decide_eq_false hns
  have hnc : n ≤ cap := by omega
  have hnc2 : (n : Int) ≤ (cap : Int) := by omega
  have hnw : IntKind.i64.wrap ((n : Int) + 6) = (n : Int) + 6 := by rw [IntKind.wrap_i64]; omega
  have hn64 : (n : Int) + 6 ≤ 9223372036854775807 := by omega
  clear h1 h2 hp hbd hn hm
  go_enter Tryd.func20, Tryd.ntmps20
  go_wp2_with fail
  refine wp_region_still_lit (by kernel_rfl) (by kernel_rfl) ?_
  change wpStill _ _ w.drew (fun a' => Exit.then _ _ .normal a' w.drew) _ _
  generalize w.drew = V at *
  repeat still_step
  refine wpStill_nil ?_
  go_wp2_with fail
  clear c1 c2 hd hns hnc hnc2 hnw
  go_loopw [6] (fun x wr => ∃ i : Nat, i ≤ 6 ∧ x = .int .i64 i ∧ Below w.heap.size w wr ∧ Lib.BytesIn wr (some ⟨g, 0, none⟩) (n + 6) (xs ++ kept)) (fun x _ => 6 - (intOf x).toNat)
  case atStart => exact ⟨0, Nat.zero_le _, rfl, KD.out, K1.out⟩
  case round =>
    obtain ⟨i, hi, rfl, hB, hY⟩ := hrel
    have HB := Lib.hid hB
    have HY := Lib.hid hY
    clear hB hY
    by_cases hlt : i < 6
    · obtain ⟨b', o', hbo, hcx⟩ := HY.out (by omega)
      obtain ⟨rfl, rfl⟩ : g = b' ∧ 0 = o' := by simpa using hbo
      have h3 := hcx (n + i) (by omega)
      rw [Nat.zero_add, List.getD_eq_getElem?_getD, List.getElem?_append_right (by rw [KN.out]; omega), KN.out, Nat.add_sub_cancel_left, ← List.getD_eq_getElem?_getD, kept_at i hlt] at h3
      clear hcx hbo
      have q2 := KC.out
      have hic : i = 0 ∨ i = 1 ∨ i = 2 ∨ i = 3 ∨ i = 4 ∨ i = 5 := by omega
      rcases hic with rfl | rfl | rfl | rfl | rfl | rfl
      all_goals
        try simp only [Nat.add_zero, Int.natCast_zero, Int.add_zero] at h3
        have p1 : n < cap := by omega
        have p2 : n + 1 < cap := by omega
        have p3 : n + 2 < cap := by omega
        have p4 : n + 3 < cap := by omega
        have p5 : n + 4 < cap := by omega
        have p6 : n + 5 < cap := by omega
        clear q2
        go_wp2_with fail
        go_round
        case rel => first | exact ⟨1, by omega, rfl, HB.out, HY.out⟩ | exact ⟨2, by omega, rfl, HB.out, HY.out⟩ | exact ⟨3, by omega, rfl, HB.out, HY.out⟩ | exact ⟨4, by omega, rfl, HB.out, HY.out⟩ | exact ⟨5, by omega, rfl, HB.out, HY.out⟩ | exact ⟨6, by omega, rfl, HB.out, HY.out⟩
        case measure => simp only [intOf]; omega
    · have hi6 : i = 6 := by omega
      subst hi6
      go_wp2_with fail
      go_ret
      exact ⟨rfl, HB.out⟩
theorem isOid_eq {C D : Array Value} {xs : List Int} (h1 : isOid C xs) (h2 : isOid D xs) : C = D := by
  apply Array.ext_getElem?
  intro j
  by_cases hj : j < 32
  · rw [h1.at_ j hj, h2.at_ j hj]
  · rw [Array.getElem?_eq_none (by rw [h1.size]; omega), Array.getElem?_eq_none (by rw [h2.size]; omega)]
theorem isOid_u8 {C : Array Value} {xs : List Int} (h : isOid C xs) : ArrEq.u8s 32 C = true := by
  unfold ArrEq.u8s
  simp only [Bool.and_eq_true, beq_iff_eq]
  refine ⟨h.size, ?_⟩
  rw [Array.all_eq_true]
  intro i hi
  have := h.at_ i (by rw [← h.size]; exact hi)
  rw [Array.getElem?_eq_getElem hi] at this
  injection this with this
  rw [this]; rfl
section
variable {H : Type} {enc : TypeId × Value → H} {P : Program} {w : World} {base : Nat} {sp : Nat → Bool} {held : Bool}
/-- A slice of slices of bytes that came in. -/
theorem open_parts {t e e2 : TypeId} {fuel : Nat} {A : Option Addr} {m c : Nat} {x : DataW H × List MemPlace} (ht : P.underlying t = some (.slice e)) (hC : P.cellsOf e = 1) (he : P.underlying e = some (.slice e2)) (he2 : P.underlying e2 = some (.int .u8)) (hC2 : P.cellsOf e2 = 1)
    (h : DataW.trod enc P w base sp held fuel t [.slice A m c] = some x) : ∃ f : Nat → List Int, m ≤ c ∧ c ≤ maxLen ∧ PartsAt w A m f ∧ ∀ i, i < m → ∀ y ∈ f i, isByte y := by
  obtain ⟨F, h1, h2, h3, h4⟩ := open_elems (G := fun C => ∃ B n c2 xs, C[0]? = some (.slice B n c2) ∧ xs.length = n ∧ Lib.BytesIn w B n xs ∧ ∀ y ∈ xs, isByte y) ht hC (by decide) (fun fu cs y hy => by
    obtain ⟨B, n, c2, rfl⟩ := slice_one he hy
    obtain ⟨xs, hx, _, _, hB, hb⟩ := open_bytes he he2 hC2 hy
    exact ⟨B, n, c2, xs, rfl, hx, hB, hb⟩) h
  have each : ∀ i, i < m → ∃ xs : List Int, ∃ B c2, (F i)[0]? = some (.slice B xs.length c2) ∧ Lib.BytesIn w B xs.length xs ∧ ∀ y ∈ xs, isByte y := fun i hi => by
    obtain ⟨B, n, c2, xs, e1, e2, e3, e4⟩ := h4 i hi
    subst e2
    exact ⟨xs, B, c2, e1, e3, e4⟩
  obtain ⟨f, hf⟩ := Deep.choose_lt each
  refine ⟨f, h1, h2, fun hm => ?_, fun i hi => by obtain ⟨B, c2, _, _, hb⟩ := hf i hi; exact hb⟩
  obtain ⟨b, o, rfl, hlt, hc⟩ := h3 hm
  refine ⟨b, o, rfl, hlt, fun i hi => ?_⟩
  obtain ⟨B, c2, e1, e2, _⟩ := hf i hi
  obtain ⟨k1, k2⟩ := hc i hi
  refine ⟨B, c2, ?_, e2⟩
  obtain ⟨v, hv⟩ := has_at k1 (show 0 < 1 by decide)
  rw [← k2, rangeOf_get (by decide) hv] at e1
  injection e1 with e1
  rw [Nat.mul_one, Nat.add_zero] at hv
  rw [hv, e1]
end
end Go.Proofs.YtdpiplllcinieaaDoor
