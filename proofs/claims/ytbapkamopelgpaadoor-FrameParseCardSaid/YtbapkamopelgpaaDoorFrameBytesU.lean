/- Frames: Parse. -/
import Derived.Test.YtbapkamopelgpaaDoorFrameBytesT
namespace Go.Proofs.YtbapkamopelgpaaDoor
open Go.RowKit Go.Stop Go.Extern Go.Ranges Go.Rows2
set_option linter.unusedVariables false
set_option linter.unusedSimpArgs false
set_option maxRecDepth 100000
/-- The box of the result. -/
structure Box4 (w w' : World) : Prop where
  row : w'.heap[w.heap.size]? = some (.cells #[.int .i64 0, .int .i64 0, .int .i64 0, .slice none 0 0] 56)
  below : Below w.heap.size w w'
theorem Box4.step {w w' w2 : World} (h : Box4 w w') (hb : Below w'.heap.size w' w2) : Box4 w w2 :=
  ⟨(hb.block _ (Array.getElem?_eq_some_iff.1 h.row).1).trans h.row, stepV h.below hb⟩
theorem Box4.cells {w w' : World} (h : Box4 w w') : w'.cell? ⟨w.heap.size, 0, none⟩ = some (.int .i64 0) ∧ w'.cell? ⟨w.heap.size, 1, none⟩ = some (.int .i64 0) ∧ w'.cell? ⟨w.heap.size, 2, none⟩ = some (.int .i64 0) ∧ w'.cell? ⟨w.heap.size, 3, none⟩ = some (.slice none 0 0) ∧
    w'.frozen? ⟨w.heap.size, 0, none⟩ = false ∧ w'.frozen? ⟨w.heap.size, 1, none⟩ = false ∧ w'.frozen? ⟨w.heap.size, 2, none⟩ = false ∧ w'.frozen? ⟨w.heap.size, 3, none⟩ = false := by
  refine ⟨?_, ?_, ?_, ?_, ?_, ?_, ?_, ?_⟩
  · exact (cell_of_row _ _ _ _ _ _ h.row).trans rfl
  · exact (cell_of_row _ _ _ _ _ _ h.row).trans rfl
  · exact (cell_of_row _ _ _ _ _ _ h.row).trans rfl
  · exact (cell_of_row _ _ _ _ _ _ h.row).trans rfl
  all_goals (unfold World.frozen?; rw [h.row]; rfl)
theorem Box4.new (w : World) : Box4 w (w.alloc (.cells #[.int .i64 0, .int .i64 0, .int .i64 0, .slice none 0 0] 56)) := ⟨heap_alloc_last _ _, alloc_below _ _⟩
theorem Box4.drew {w w' : World} (h : Box4 w w') : Box4 w w'.drew := h.step (Below.refl _ _).drew
theorem below_box4 {w w' : World} (h : Below w.heap.size w w') (u0 u1 u2 u3 : Value) : Below w.heap.size w ((((w'.setCell ⟨w.heap.size, 0, none⟩ u0).setCell ⟨w.heap.size, 1, none⟩ u1).setCell ⟨w.heap.size, 2, none⟩ u2).setCell ⟨w.heap.size, 3, none⟩ u3) :=
  (((h.setCell (p := ⟨w.heap.size, 0, none⟩) (Nat.le_refl _) _).setCell (p := ⟨w.heap.size, 1, none⟩) (Nat.le_refl _) _).setCell (p := ⟨w.heap.size, 2, none⟩) (Nat.le_refl _) _).setCell (p := ⟨w.heap.size, 3, none⟩) (Nat.le_refl _) _
theorem cut_rest {w : World} {A : Option Addr} {c : Nat} {xs : List Int} (h : Lib.BytesIn w A xs.length xs) (hc : xs.length ≤ c) (k : Nat) (hk : k ≤ xs.length) : Lib.BytesIn w (cutB A k c) (xs.drop k).length (xs.drop k) := fun hn => by
  have hl : (xs.drop k).length = xs.length - k := List.length_drop
  rw [hl] at hn
  obtain ⟨b, o, rfl, hcl⟩ := h (by omega)
  refine ⟨b, o + k, ?_, fun i hi => ?_⟩
  · unfold cutB
    rw [if_neg (by omega)]
    exact congrArg some (Go.WideShapes.add_plain b o k)
  · rw [hl] at hi
    have := hcl (k + i) (by omega)
    rw [Nat.add_assoc, this]
    simp [List.getD_eq_getElem?_getD, List.getElem?_drop]
theorem cut_first {w : World} {A : Option Addr} {c : Nat} {xs : List Int} (h : Lib.BytesIn w A xs.length xs) (hc : xs.length ≤ c) (k : Nat) (hk : k ≤ xs.length) (hp : 0 < xs.length) : ∃ b, cutB A 0 c = some b ∧ Lib.BytesIn w (some b) (xs.take k).length (xs.take k) := by
  obtain ⟨b, o, rfl, hcl⟩ := h hp
  refine ⟨⟨b, o, none⟩, ?_, fun hn => ⟨b, o, rfl, fun i hi => ?_⟩⟩
  · unfold cutB
    rw [if_neg (by omega)]
    rfl
  · have hl : (xs.take k).length = k := by rw [List.length_take]; omega
    rw [hl] at hi
    rw [hcl i (by omega)]
    simp [List.getD_eq_getElem?_getD, List.getElem?_take, hi]
theorem keepG {W w' : World} {g : Nat} {v0 v1 v2 v3 : Option Value} (hlt : g < W.heap.size) (h0 : W.cell? ⟨g, 0, none⟩ = v0) (h1 : W.cell? ⟨g, 2, none⟩ = v1) (h2 : W.cell? ⟨g, 4, none⟩ = v2) (h3 : W.cell? ⟨g, 7, none⟩ = v3) (hb : Below W.heap.size W w') :
    w'.cell? ⟨g, 0, none⟩ = v0 ∧ w'.cell? ⟨g, 2, none⟩ = v1 ∧ w'.cell? ⟨g, 4, none⟩ = v2 ∧ w'.cell? ⟨g, 7, none⟩ = v3 ∧ Below W.heap.size W w' :=
  ⟨(hb.cell (p := ⟨g, 0, none⟩) hlt).trans h0, (hb.cell (p := ⟨g, 2, none⟩) hlt).trans h1, (hb.cell (p := ⟨g, 4, none⟩) hlt).trans h2, (hb.cell (p := ⟨g, 7, none⟩) hlt).trans h3, hb⟩
theorem rdB_len (c : UInt8) (xs : List Int) : (rdB c xs).length ≤ xs.length := by
  unfold rdB
  split
  · rw [List.length_take]; omega
  · split
    · rw [List.length_take, List.length_drop]; omega
    · exact Nat.zero_le _
theorem rdLeft_len (s : List UInt8) (xs : List Int) (k : Nat) : (rdLeft s xs k).length ≤ xs.length := by
  induction k with
  | zero => exact Nat.le_refl _
  | succ k ih =>
    show ((rdLeft s xs k).drop _).length ≤ _
    rw [List.length_drop]; omega
theorem prF_len (xs : List Int) {n : Nat} (h : xs.length ≤ n) : (prF xs).body.length ≤ n := by
  have e : (prF xs).body = rdB (frS5.data.toList.getD 3 0) (rdLeft frS5.data.toList (xs.drop 4) 3) := rfl
  have h1 := rdB_len (frS5.data.toList.getD 3 0) (rdLeft frS5.data.toList (xs.drop 4) 3)
  rw [e]
  have h2 := rdLeft_len frS5.data.toList (xs.drop 4) 3
  have h3 : (xs.drop 4).length = xs.length - 4 := List.length_drop
  omega
theorem RF.fieldsB {w : World} {base : Nat} {A : Option Addr} {n c : Nat} {xs : List Value} {N : Nat → Int} {B : Nat → List Int} (h   : RF w base (.slice A n c) n xs N B) : 0 < n → ∃ b, A = some ⟨b, 0, none⟩ ∧ b < w.heap.size ∧ ∀ i, i < n → ∃ D c, w.cell? ⟨b, 0 + i * 2, none⟩ = some (.int .i64 (N i)) ∧ w.cell? ⟨b, 0 + i * 2 + 1, none⟩ = some (.slice D (B i).length c) ∧ ByteS w (fun k => base ≤ k) D (B i) := fun hn => by
  rcases h.own.2 with ⟨_, h0⟩ | ⟨g, cap, cur, hv, _, hh, _, _, _, htk⟩
  · omega
  · injection hv with e1 _ _
    subst e1
    refine ⟨g, rfl, (Array.getElem?_eq_some_iff.1 hh).1, fun i hi => ?_⟩
    obtain ⟨D, d, h1, h2, h3⟩ := h.el i hi
    have hc : ∀ j, j < 2 * n → w.cell? ⟨g, 0 + j, none⟩ = xs[j]? := fun j hj => by
      rw [cell_of_row _ _ _ _ _ _ hh, Nat.zero_add, ← Array.getElem?_toList, ← htk, List.getElem?_take_of_lt (by omega)]
    refine ⟨D, d, ?_, ?_, h3.mono fun k _ hk => hk.1⟩
    · rw [hc (i * 2) (by omega), Nat.mul_comm]; exact h1
    · rw [Nat.add_assoc, hc (i * 2 + 1) (by omega), Nat.mul_comm]; exact h2
theorem bytes_box4 {w' : World} {b : Nat} {D : Option Addr} {ys : List Int} {base : Nat} (h : ByteS w' (fun k => base ≤ k) D ys) (hb : b < base) (u0 u1 u2 u3 : Value) :
    Lib.BytesIn ((((w'.setCell ⟨b, 0, none⟩ u0).setCell ⟨b, 1, none⟩ u1).setCell ⟨b, 2, none⟩ u2).setCell ⟨b, 3, none⟩ u3) D ys.length ys :=
  (h.chg ((((chg_cell w' b 0 u0).trans (chg_cell _ b 1 u1)).trans (chg_cell _ b 2 u2)).trans (chg_cell _ b 3 u3)) (fun k _ hk e => by have h1 : base ≤ k := hk; omega)).1
set_option maxHeartbeats 8000000 in
theorem frParse_any (A : Option Addr) (c : Nat) (xs : List Int) (a : Nat → Addr) (w : World) (HV : PrV w a) (hB : Lib.BytesIn w A xs.length xs) (hc : xs.length ≤ c) (hcm : c ≤ maxLen) (hb : BytesOk xs) (hL : xs.length ≤ 4000) :
    Calls Tryd.prog 28 #[.slice A xs.length c] w (PrEnd w a xs) := by
  have b0 := Box4.new w
  have HVh := Lib.hid HV
  have HBh := Lib.hid hB
  have HOh := Lib.hid hb
  clear HV hB hb
  by_cases h4 : xs.length < 4
  · have hp : prC xs = 2 := by unfold prC; rw [if_pos h4]
    have HP := Lib.hid hp
    have hd : decide ((xs.length : Int) < 4) = true := by simp; omega
    have e2 := HVh.out.e2
    have e2' := HVh.out.e2.below b0.below
    have hlt := World.block_lt_of_cell? w _ e2
    simp only [ErrC, gErr] at e2 e2' hlt
    have HB0 := Lib.hid b0.below
    clear hp h4 b0
    go_enter Tryd.func28, Tryd.ntmps28
    go_wp2_with fail
    go_region
    go_wp2_with fail
    refine bodyPost_ret (v := .tuple #[.agg (frA frm0 none 0), errV a 2]) (by simp [results, Tryd.results28, go_sem, errV, frA, frm0]) rfl ⟨fun h => absurd (HP.out.symm.trans h) (by decide), fun _ => ⟨by rw [HP.out], ?_⟩⟩
    first | exact HB0.out | exact HB0.out.drew | (repeat (first | exact HB0.out | refine Below.drew ?_ | exact below_box4 HB0.out _ _ _ _ | exact below_box4 HB0.out.drew _ _ _ _ | exact alloc_below _ _))
  · have hd : decide ((xs.length : Int) < 4) = false := by simp; omega
    have hl : (xs.drop 4).length = xs.length - 4 := List.length_drop
    have hz1 : (w.alloc (.cells #[.int .i64 0, .int .i64 0, .int .i64 0, .slice none 0 0] 56)).heap.size = w.heap.size + 1 := by simp
    have kc := Lib.run_convert_bytes_const (P := Tryd.prog) (w.alloc (.cells #[.int .i64 0, .int .i64 0, .int .i64 0, .slice none 0 0] 56)) 22 5 #[.int .u8 99, .int .u8 97, .int .u8 114, .int .u8 116] 4 4 Tryd.underlying22 Tryd.underlying5
    rw [hz1] at kc
    have bm := alloc_below (w.alloc (.cells #[.int .i64 0, .int .i64 0, .int .i64 0, .slice none 0 0] 56)) (.cells #[.int .u8 99, .int .u8 97, .int .u8 114, .int .u8 116] 5 (4, 5))
    have hM : Lib.BytesIn ((w.alloc (.cells #[.int .i64 0, .int .i64 0, .int .i64 0, .slice none 0 0] 56)).alloc (.cells #[.int .u8 99, .int .u8 97, .int .u8 114, .int .u8 116] 5 (4, 5))) (some ⟨w.heap.size + 1, 0, none⟩) 4 magicL := fun _ => ⟨w.heap.size + 1, 0, rfl, fun i hi => by
      have := cell_of_marked (w.alloc (.cells #[.int .i64 0, .int .i64 0, .int .i64 0, .slice none 0 0] 56)) #[.int .u8 99, .int .u8 97, .int .u8 114, .int .u8 116] 5 (0 + i) (4, 5)
      rw [hz1] at this
      rw [this, Nat.zero_add]
      have : i = 0 ∨ i = 1 ∨ i = 2 ∨ i = 3 := by omega
      rcases this with rfl | rfl | rfl | rfl <;> rfl⟩
    have B2 := b0.step bm
    have KP := Lib.hid (hasPrefix4 A (some ⟨w.heap.size + 1, 0, none⟩) xs.length c 4 xs magicL _ rfl (by omega) hc hcm rfl (bytesIn_below' HBh.out B2.below) hM)
    have HB2 := Lib.hid B2
    have HL := Lib.hid hl
    have HCM := Lib.hid hcm
    clear bm hM b0 B2 hz1 hl hcm
    go_enter Tryd.func28, Tryd.ntmps28
    go_wp2_with fail
    refine KP.out.mono ?_
    rintro e w2 ⟨rfl, rfl⟩
    clear KP kc
    generalize (w.alloc (.cells #[.int .i64 0, .int .i64 0, .int .i64 0, .slice none 0 0] 56)).alloc (.cells #[.int .u8 99, .int .u8 97, .int .u8 114, .int .u8 116] 5 (4, 5)) = w2 at *
    cases hq : bytesEq (xs.take 4) magicL with
    | false =>
      have hp : prC xs = 4 := by unfold prC; rw [if_neg h4, if_pos hq]
      have HP := Lib.hid hp
      have e4 := HVh.out.e4.below HB2.out.below
      have hn0 := World.block_lt_of_cell? w _ HVh.out.e4
      have hn1 : (4 : Nat) ≠ w.heap.size := by have : gErr 4 < w.heap.size := hn0; simp only [gErr] at this; omega
      have hn2 : w.heap.size ≠ (4 : Nat) := fun e => hn1 e.symm
      clear hn0
      have hlt := World.block_lt_of_cell? w2 _ e4
      have hlg := World.block_lt_of_cell? w2 _ HB2.out.cells.1
      obtain ⟨c0, c1, c2, c3, f0, f1, f2, f3⟩ := HB2.out.cells
      simp only [ErrC, gErr] at e4 hlt
      clear hp hq
      go_wp2_with fail
      go_region
      go_wp2_with fail
      exact bodyPost_ret (v := .tuple #[.agg (frA frm0 none 0), errV a 4]) (by simp [results, Tryd.results28, go_sem, errV, frA, frm0, c0, c1, c2, c3]) rfl ⟨fun h => absurd (HP.out.symm.trans h) (by decide), fun _ => ⟨by rw [HP.out], (below_box4 HB2.out.below _ _ _ _).drew⟩⟩
    | true =>
      have hr4 : ∀ W, (Instr.slice 22 (.slice A xs.length c) (some (.int .i64 4)) none none).run Tryd.prog W = .ok (.slice (cutB A 4 c) (xs.length - 4) (c - 4)) W := run_rest A xs.length c 4 (by omega)
      have hT : Txt w2 0 (cutB A 4 c) (c - 4) (xs.drop 4) ∨ True := .inr trivial
      have hB4 : Lib.BytesIn w2 (cutB A 4 c) (xs.drop 4).length (xs.drop 4) := cut_rest (bytesIn_below' HBh.out HB2.out.below) hc 4 (by omega)
      have hA4 : cutB A 4 c = none → (xs.drop 4).length = 0 := fun e => by
        by_cases h0 : (xs.drop 4).length = 0
        · exact h0
        · obtain ⟨b, o, h, _⟩ := hB4 (by omega)
          rw [e] at h; cases h
      have KR : Calls Tryd.prog 55 #[.string frS5, .slice (cutB A 4 c) (xs.drop 4).length (c - 4)] w2 (ReadEnd w2 a 5 frS5.data.toList (xs.drop 4)) := read_any (cutB A 4 c) (c - 4) frS5 (xs.drop 4) a w2 hB4 hA4 (by rw [HL.out]; omega) (HOh.out.drop 4) ⟨HVh.out.fr.e1.below HB2.out.below, HVh.out.e2.below HB2.out.below, HVh.out.e7.below HB2.out.below⟩ (HVh.out.e3.below HB2.out.below) (by decide) (by decide) (by decide)
      rw [HL.out] at KR
      have HKR := Lib.hid KR
      have HQ := Lib.hid hq
      clear KR hT hB4 hA4 hq
      generalize cutB A 4 c = A4 at *
      go_wp2_with fail
      by_cases hrc : readC frS5.data.toList (xs.drop 4) 5 = 0
      · have HRC := Lib.hid hrc
        clear hrc
        refine HKR.out.mono ?_
        rintro e w3 ⟨hok, _⟩
        obtain ⟨v, vs, rfl, hF, hb3⟩ := hok HRC.out
        have B3 := HB2.out.step hb3
        have HB3 := Lib.hid B3
        have HF := Lib.hid hF
        obtain ⟨A9, c9, hv⟩ := own_slice hF.own
        subst hv
        clear hok hF hb3 HKR B3
        have hn4 : 4 ≤ xs.length := by omega
        obtain ⟨b8, hb8, hB8⟩ := cut_first (bytesIn_below' HBh.out HB3.out.below) hc (xs.length - 4) (by omega) (by omega)
        have hr8 : ∀ W, (Instr.slice 22 (.slice A xs.length c) none (some (.int .i64 ((xs.length : Int) - 4))) none).run Tryd.prog W = .ok (.slice (some b8) (xs.length - 4) c) W := fun W => by
          have := run_head A xs.length c (xs.length - 4) (by omega) W
          rw [hb8, show (((xs.length - 4 : Nat)) : Int) = (xs.length : Int) - 4 by omega] at this
          exact this
        have hl8 : (xs.take (xs.length - 4)).length = xs.length - 4 := by rw [List.length_take]; omega
        have K8 := Lib.hid (bclone_any b8 (xs.length - 4) c (xs.take (xs.length - 4)) w3 hl8 (by rw [hl8] at hB8; exact hB8) (by omega))
        have HL8 := Lib.hid hl8
        have h54 : xs.length - 4 + 4 = xs.length := by omega
        have H54 := Lib.hid h54
        have H4 := Lib.hid h4
        clear hb8 hB8 hl8 h54 h4
        go_wp2_with fail
        refine K8.out.mono ?_
        rintro e w4 ⟨A5, c5, rfl, ho5, hb4⟩
        have K9 := Lib.hid (summed_any ho5 (fun x hx => HOh.out x (List.mem_of_mem_take hx)) hb4.size (by omega) (HVh.out.fr.g.below (HB3.out.step hb4).below) (HVh.out.fr.s.below (HB3.out.step hb4).below))
        have HB4 := Lib.hid hb4
        have HO5 := Lib.hid ho5
        clear ho5 hb4 K8 hr8
        go_wp2_with fail
        refine K9.out.mono ?_
        rintro e w5 ⟨A6, c6, rfl, ho6, hc6⟩
        have hb5 : Below w3.heap.size w3 w5 := HB4.out.trans (hc6.below HB4.out.size (fun k hk => (HO5.out.lt k hk.symm).1))
        have HB5 := Lib.hid (HB3.out.step hb5)
        rw [H54.out] at ho6
        have K10 := Lib.hid (bytes_any A6 A xs.length xs.length c6 c (sumd (xs.take (xs.length - 4))) xs w5 (own_len ho6) rfl (own_bytes ho6) (bytesIn_below' HBh.out HB5.out.below))
        have HF5 := Lib.hid (HF.out.below hb5)
        clear ho6 hc6 hb5 K9 HO5 HB4 HF
        go_wp2_with fail
        refine K10.out.mono ?_
        rintro e w6 ⟨rfl, rfl⟩
        clear K10
        cases hq : bytesEq (sumd (xs.take (xs.length - 4))) xs with
        | false =>
          have hp : prC xs = 5 := by unfold prC; rw [if_neg H4.out, HQ.out, if_neg (by decide), if_neg (fun h => h HRC.out), if_pos hq]
          have HP := Lib.hid hp
          have e5 := HVh.out.e5.below HB5.out.below
          have hn0 := World.block_lt_of_cell? w _ HVh.out.e5
          have hn1 : (5 : Nat) ≠ w.heap.size := by have : gErr 5 < w.heap.size := hn0; simp only [gErr] at this; omega
          have hn2 : w.heap.size ≠ (5 : Nat) := fun e => hn1 e.symm
          clear hn0
          have hlt := World.block_lt_of_cell? w5 _ e5
          have hlg := World.block_lt_of_cell? w5 _ HB5.out.cells.1
          obtain ⟨c0, c1, c2, c3, f0, f1, f2, f3⟩ := HB5.out.cells
          simp only [ErrC, gErr] at e5 hlt
          clear hp hq
          go_wp2_with fail
          go_region
          go_wp2_with fail
          exact bodyPost_ret (v := .tuple #[.agg (frA frm0 none 0), errV a 5]) (by simp [results, Tryd.results28, go_sem, errV, frA, frm0, c0, c1, c2, c3]) rfl ⟨fun h => absurd (HP.out.symm.trans h) (by decide), fun _ => ⟨by rw [HP.out], (below_box4 HB5.out.below _ _ _ _).drew⟩⟩
        | true =>
          have hp : prC xs = endC (prF xs) := by unfold prC; rw [if_neg H4.out, HQ.out, if_neg (by decide), if_neg (fun h => h HRC.out), hq, if_neg (by decide)]
          have HP := Lib.hid hp
          obtain ⟨g9, hv9, hlt9, hcs⟩ := HF5.out.fieldsB (by decide)
          subst hv9
          obtain ⟨_, _, k0, _, _⟩ := hcs 0 (by decide)
          obtain ⟨_, _, k1, _, _⟩ := hcs 1 (by decide)
          obtain ⟨_, _, k2, _, _⟩ := hcs 2 (by decide)
          obtain ⟨D, cd, _, k3, hD⟩ := hcs 3 (by decide)
          have k0' : w5.cell? ⟨g9, 0, none⟩ = some (.int .i64 (prF xs).k) := k0
          have k1' : w5.cell? ⟨g9, 2, none⟩ = some (.int .i64 (prF xs).f) := k1
          have k2' : w5.cell? ⟨g9, 4, none⟩ = some (.int .i64 (prF xs).t) := k2
          have k3' : w5.cell? ⟨g9, 7, none⟩ = some (.slice D (prF xs).body.length cd) := k3
          have hD' : ByteS w5 (fun k => w2.heap.size ≤ k) D (prF xs).body := hD
          have hbl : (prF xs).body.length ≤ 4000 := prF_len xs hL
          have K0 := Lib.hid k0'
          have K1 := Lib.hid k1'
          have K2 := Lib.hid k2'
          have K3 := Lib.hid k3'
          have HD := Lib.hid hD'
          have HLT9 := Lib.hid hlt9
          clear hp hq hcs hD k0 k1 k2 k3 hlt9 HF5 k0' k1' k2' k3' hD'
          generalize hFq : prF xs = F at *
          have HFQ := Lib.hid hFq
          clear hFq
          go_wp2_with fail
          go_region_held3 (fun W => W.cell? ⟨g9, 0, none⟩ = some (.int .i64 F.k) ∧ W.cell? ⟨g9, 2, none⟩ = some (.int .i64 F.f) ∧ W.cell? ⟨g9, 4, none⟩ = some (.int .i64 F.t) ∧ W.cell? ⟨g9, 7, none⟩ = some (.slice D F.body.length cd) ∧ Below w5.heap.size w5 W)
            (first
              | exact keepG HLT9.out K0.out K1.out K2.out K3.out (Below.refl _ _)
              | exact keepG HLT9.out K0.out K1.out K2.out K3.out (Below.refl _ _).drew
              | exact keepG HLT9.out K0.out K1.out K2.out K3.out (((Below.refl _ _).drew).alloc (Nat.le_refl _) _)
              | assumption
              | fail "")
            (fail "")
          have hb7 := (alloc_below w5 (.cells (frA F D cd) 56)).drew
          have hrow7 : ((w5.alloc (.cells (frA F D cd) 56)).drew).heap[w5.heap.size]? = some (.cells (frA F D cd) 56 (0, 0)) := heap_alloc_last w5 _
          have hE := ends_any F D cd a ((w5.alloc (.cells (frA F D cd) 56)).drew) (HVh.out.fr.e1.below (HB5.out.step hb7).below) (HVh.out.fr.e13.below (HB5.out.step hb7).below) (by unfold maxLen; omega)
          have HB7 := Lib.hid (HB5.out.step hb7)
          have HD7 := Lib.hid (HD.out.below hb7)
          have hwz : w.heap.size < w2.heap.size := World.block_lt_of_cell? w2 _ HB2.out.cells.1
          unfold frA at hE hrow7 HB7 HD7
          have HE := Lib.hid hE
          have HR7 := Lib.hid hrow7
          clear hb7 hE hrow7 HD HLT9 K0 K1 K2 K3 HB5
          by_cases hec : endC F = 0
          · have hp0 : prC xs = 0 := HP.out.trans hec
            rw [hec] at HE
            simp only [show errV a 0 = Value.nilIface from rfl] at HE
            have HP0 := Lib.hid hp0
            clear hp0 hec HP
            go_wp2_with fail
            refine HE.out.mono ?_
            rintro e w8 ⟨rfl, hb8⟩
            have B8 := HB7.out.step hb8
            obtain ⟨m0, m1, m2, m3, _⟩ := keepF HR7.out hb8
            obtain ⟨c0, c1, c2, c3, f0, f1, f2, f3⟩ := B8.cells
            have HB8 := Lib.hid B8
            have HD8 := Lib.hid (HD7.out.below hb8)
            clear hb8 B8 HE HR7
            go_wp2_with fail
            exact bodyPost_ret (v := .tuple #[.agg (frA F D cd), .nilIface]) (by simp [results, Tryd.results28, go_sem, frA, c0, c1, c2, c3]) rfl ⟨fun _ => ⟨D, cd, by rw [HFQ.out], by rw [HFQ.out]; exact bytes_box4 HD8.out hwz _ _ _ _, below_box4 HB8.out.below _ _ _ _⟩, fun h => absurd HP0.out h⟩
          · have hn := hec
            have HP0 := Lib.hid HP.out
            generalize endC F = n at *
            have hev : errV a n = .iface 198 (.pointer (some (a n))) := by unfold errV; rw [if_neg hn]
            rw [hev] at HE
            have HEV := Lib.hid hev
            clear hev hec HP
            go_wp2_with fail
            refine HE.out.mono ?_
            rintro e w8 ⟨rfl, hb8⟩
            have B8 := HB7.out.step hb8
            obtain ⟨c0, c1, c2, c3, f0, f1, f2, f3⟩ := B8.cells
            have HB8 := Lib.hid B8
            clear hb8 B8 HE HR7
            go_wp2_with fail
            exact bodyPost_ret (v := .tuple #[.agg (frA frm0 none 0), errV a n]) (by simp [results, Tryd.results28, go_sem, HEV.out, frA, frm0, c0, c1, c2, c3]) rfl ⟨fun h => absurd (HP0.out.symm.trans h) hn, fun _ => ⟨by rw [HP0.out], below_box4 HB8.out.below _ _ _ _⟩⟩
      · have hp : prC xs = readC frS5.data.toList (xs.drop 4) 5 := by unfold prC; rw [if_neg h4, HQ.out, if_neg (by decide), if_pos hrc]
        refine HKR.out.mono ?_
        rintro e w3 ⟨_, hno⟩
        obtain ⟨rfl, hb3⟩ := hno hrc
        have B3 := HB2.out.step hb3
        have HB3 := Lib.hid B3
        have HP := Lib.hid hp
        have hn := hrc
        obtain ⟨c0, c1, c2, c3, f0, f1, f2, f3⟩ := B3.cells
        clear hno hp hrc hb3 B3 HKR
        generalize readC frS5.data.toList (xs.drop 4) 5 = n at *
        have hev : errV a n = .iface 198 (.pointer (some (a n))) := by unfold errV; rw [if_neg hn]
        rw [hev]
        have HEV := Lib.hid hev
        clear hev
        go_wp2_with fail
        exact bodyPost_ret (v := .tuple #[.agg (frA frm0 none 0), errV a n]) (by simp [results, Tryd.results28, go_sem, HEV.out, frA, frm0, c0, c1, c2, c3]) rfl ⟨fun h => absurd (HP.out.symm.trans h) hn, fun _ => ⟨by rw [HP.out], below_box4 HB3.out.below _ _ _ _⟩⟩
end Go.Proofs.YtbapkamopelgpaaDoor
