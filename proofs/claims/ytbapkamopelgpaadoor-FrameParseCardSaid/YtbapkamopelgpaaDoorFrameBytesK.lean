/- A block changes the words: mix. -/
import Derived.Test.YtbapkamopelgpaaDoorFrameBytesJ
namespace Go.Proofs.YtbapkamopelgpaaDoor
open Go.RowKit Go.Stop Go.Extern Go.Ranges
set_option linter.unusedVariables false
set_option linter.unusedSimpArgs false
attribute [-go_sem] loadVar storeVar
attribute [local go_sem] loadVar_one storeVar_one
attribute [local go_sem] mod_add num_add bits_xor bits_and bits_not
theorem bits_notm (x : Sha.W) : bits .xor .u32 IntKind.u32.max (num x) = num (~~~x) := bits_not x
attribute [local go_sem] bits_notm
theorem quiet_one {P : Program} {f : FuncId} {args : Array Value} {w : World} {n : Nat} {v : Value} (h : Calls P f args (w.drewN n) fun e w' => e = .returned v ∧ w.drewN n = w') :
    Calls P f args (w.drewN n) fun e w'' => e = .returned v ∧ ∃ m, w'' = w.drewN m := h.mono fun _ _ ⟨h1, h2⟩ => ⟨h1, n, h2.symm⟩
def vget (v : Sha.V) (j : Nat) : Sha.W := match j with
  | 0 => v.a | 1 => v.b | 2 => v.c | 3 => v.d | 4 => v.e | 5 => v.f | 6 => v.g | _ => v.h
structure isV (C : Array Value) (v : Sha.V) : Prop where
  size : C.size = 8
  at_ : ∀ j, j < 8 → C[j]? = some (.int .u32 (num (vget v j)))
theorem b85 (x0 x1 x2 x3 x4 x5 x6 x7 : Int) (w : World) : (Instr.build 147 #[(0, .int .u32 x0), (1, .int .u32 x1), (2, .int .u32 x2), (3, .int .u32 x3), (4, .int .u32 x4), (5, .int .u32 x5), (6, .int .u32 x6), (7, .int .u32 x7)]).run Tryd.prog w = .ok (.agg #[.int .u32 x0, .int .u32 x1, .int .u32 x2, .int .u32 x3, .int .u32 x4, .int .u32 x5, .int .u32 x6, .int .u32 x7]) w := by
  simp [Instr.build, go_sem]
theorem built85 (a b c d e f g h : Sha.W) : ∃ C : Array Value, (∀ w, (Instr.build 147 #[(0, .int .u32 (num a)), (1, .int .u32 (num b)), (2, .int .u32 (num c)), (3, .int .u32 (num d)), (4, .int .u32 (num e)), (5, .int .u32 (num f)), (6, .int .u32 (num g)), (7, .int .u32 (num h))]).run Tryd.prog w = .ok (.agg C) w) ∧ isV C ⟨a, b, c, d, e, f, g, h⟩ :=
  ⟨#[.int .u32 (num a), .int .u32 (num b), .int .u32 (num c), .int .u32 (num d), .int .u32 (num e), .int .u32 (num f), .int .u32 (num g), .int .u32 (num h)], fun w => b85 _ _ _ _ _ _ _ _ w, rfl, fun j hj => by
    have : j = 0 ∨ j = 1 ∨ j = 2 ∨ j = 3 ∨ j = 4 ∨ j = 5 ∨ j = 6 ∨ j = 7 := by omega
    rcases this with rfl | rfl | rfl | rfl | rfl | rfl | rfl | rfl <;> rfl⟩
def zero8 : Array Value := Array.replicate 8 (.int .u32 0)
theorem zero8_lit : (#[.int .u32 0, .int .u32 0, .int .u32 0, .int .u32 0, .int .u32 0, .int .u32 0, .int .u32 0, .int .u32 0] : Array Value) = zero8 := by kernel_rfl
theorem zero8_size : zero8.size = 8 := by simp [zero8]
attribute [local go_sem] zero8_lit zero8_size
theorem ld85 (w : World) (b o : Nat) (h : hasRange w b o 8 = true) : (loadVar 147 ⟨b, o, none⟩).run Tryd.prog w = .ok (.agg (rangeOf w b o 8)) w :=
  var_range 8 Tryd.underlying147 rfl (by kernel_rfl) w b o h
theorem st85 (w : World) (b : Nat) (C : Array Value) (h : isRow w b 8 = true) (h2 : C.size = 8) (h3 : ones C = true) : (storeVar 147 ⟨b, 0, none⟩ (.agg C)).run Tryd.prog w = .ok () (w.setRow b C) :=
  store_row 8 (by kernel_rfl) w b C h h2 h3
theorem st85n (w : World) (C C' : Array Value) (g : Nat) (hg : g = w.heap.size) (h1 : C.size = 8) (h2 : C'.size = 8) (h3 : ones C' = true) :
    (storeVar 147 ⟨g, 0, none⟩ (.agg C')).run Tryd.prog (w.alloc (.cells C 147)) = .ok () (w.alloc (.cells C' 147)) :=
  var_new 8 (by kernel_rfl) w C C' g hg h1 h2 h3
theorem extract_all8 (C : Array Value) (h : C.size = 8) : C.extract 0 8 = C := by rw [← h]; simp
theorem isV_ones {C : Array Value} {v : Sha.V} (h : isV C v) : ones C = true := by
  unfold ones
  rw [Array.all_eq_true]
  intro i hi
  have := h.at_ i (by rw [← h.size]; exact hi)
  rw [Array.getElem?_eq_getElem hi] at this
  injection this with this
  rw [this]; rfl
theorem ix102 (w : World) (D : Array Value) (i : Nat) (x : Int) (hi : i < 64) (h : D[i]? = some (.int .u32 x)) : (Instr.index 161 (.agg D) (.int .i64 i)).run Tryd.prog w = .ok (.int .u32 x) w := by
  have h2 : (i : Int) < 64 := by omega
  have hz : (Go.sizeOf 126).run Tryd.prog w = .ok 1 w := by
    obtain ⟨r, hr, hr2⟩ : ∃ r, Tryd.prog.info? 126 = some r ∧ r.size = 1 := by
      have : (Tryd.prog.info? 126).map (·.size) = some 1 := by kernel_rfl
      cases hq : Tryd.prog.info? 126 with
      | none => simp [hq] at this
      | some r => simp [hq] at this; exact ⟨r, rfl, this⟩
    simp [Go.sizeOf, typeInfo, hr, hr2]
  simp [Instr.index, go_sem, Tryd.underlying161, h2, hz, h]
  intro h3
  omega
attribute [-go_sem] Instr.build
/-- The rounds' numbers lie where the program keeps them. -/
structure Grains (w : World) : Prop where
  lt : 24 < w.heap.size
  at_ : ∀ i, i < 64 → w.cell? ⟨24, i, none⟩ = some (.int .u32 (num (Sha.kf i)))
theorem Grains.below {w w' : World} (h : Grains w) (hb : Below w.heap.size w w') : Grains w' :=
  ⟨Nat.lt_of_lt_of_le h.lt hb.size, fun i hi => (hb.cell (p := ⟨24, i, none⟩) h.lt).trans (h.at_ i hi)⟩
set_option maxRecDepth 20000 in
set_option maxHeartbeats 4000000 in
theorem mix_any (C : Array Value) (v0 : Sha.V) (b o n c : Nat) (xs : List Int) (w : World) (hC : isV C v0) (hn : xs.length = n) (h64 : n = 64) (hc : n ≤ c) (hcm : c ≤ maxLen) (hb : ∀ x ∈ xs, isByte x) (h : Lib.BytesIn w (some ⟨b, o, none⟩) n xs) (hG : Grains w) :
    Calls Tryd.prog 92 #[.agg C, .slice (some ⟨b, o, none⟩) n c] w fun e w' => ∃ D, e = .returned (.agg D) ∧ isV D (Sha.mix xs 0 v0) ∧ Below w.heap.size w w' := by
  subst h64
  have KC := Lib.hid hC
  have hsz : 8 ≤ C.size := by rw [hC.size]; decide
  have hE := extract_all8 C hC.size
  have hO := isV_ones hC
  have KH := Lib.hid h
  have KG := Lib.hid hG
  have hsp := Lib.hid (fun w' (hb' : Below w.heap.size w w') => spread_any b o 64 c xs w' hn rfl hc hcm hb (bytesIn_below' h hb'))
  clear hC h hb hn hc hcm hG
  have l85 := ld85
  have s85n := fun w Z g hg h1 => st85n w Z C g hg h1 KC.out.size hO
  go_enter Tryd.func92, Tryd.ntmps92
  go_wp2_with fail
  have hB0 : Below w.heap.size w (((w.alloc (.cells C 147)).alloc (.cells zero8 147)).alloc (.cells C 147)) := ((((Below.refl _ _).alloc (Nat.le_refl _) _).alloc (by simp) _).alloc (by simp; omega) _)
  have hr0 : isRow (((w.alloc (.cells C 147)).alloc (.cells zero8 147)).alloc (.cells C 147)) w.heap.size 8 = true := by simp [go_sem, KC.out.size]
  have hr1 : isRow (((w.alloc (.cells C 147)).alloc (.cells zero8 147)).alloc (.cells C 147)) (w.heap.size + 1) 8 = true := by simp [go_sem]
  have hr2 : isRow (((w.alloc (.cells C 147)).alloc (.cells zero8 147)).alloc (.cells C 147)) (w.heap.size + 1 + 1) 8 = true := by simp [go_sem, KC.out.size]
  have hc0 : ∀ j, j < 8 → (((w.alloc (.cells C 147)).alloc (.cells zero8 147)).alloc (.cells C 147)).cell? ⟨w.heap.size, j, none⟩ = some (.int .u32 (num (vget v0 j))) := fun j hj => by
    have h1 := heap_alloc_last w (.cells C 147)
    have h2 := (Below.heap_alloc (w.alloc (.cells C 147)) (.cells zero8 147) w.heap.size (by simp)).trans h1
    have h3 := (Below.heap_alloc ((w.alloc (.cells C 147)).alloc (.cells zero8 147)) (.cells C 147) w.heap.size (by simp; omega)).trans h2
    rw [cell_of_row _ _ _ _ _ _ h3]
    exact KC.out.at_ j hj
  have hc2 : ∀ j, j < 8 → (((w.alloc (.cells C 147)).alloc (.cells zero8 147)).alloc (.cells C 147)).cell? ⟨w.heap.size + 1 + 1, j, none⟩ = some (.int .u32 (num (vget v0 j))) := fun j hj => by
    have h1 := heap_alloc_last ((w.alloc (.cells C 147)).alloc (.cells zero8 147)) (.cells C 147)
    have e : ((w.alloc (.cells C 147)).alloc (.cells zero8 147)).heap.size = w.heap.size + 1 + 1 := by simp
    rw [e] at h1
    rw [cell_of_row _ _ _ _ _ _ h1]
    exact KC.out.at_ j hj
  have hz : w.heap.size + 3 ≤ (((w.alloc (.cells C 147)).alloc (.cells zero8 147)).alloc (.cells C 147)).heap.size := by simp
  generalize ((w.alloc (.cells C 147)).alloc (.cells zero8 147)).alloc (.cells C 147) = W0 at *
  have hS := hsp.out W0 hB0
  refine hS.mono ?_
  rintro e1 W1 ⟨D, rfl, hD1, hD2, hb1⟩
  have KD := Lib.hid hD2
  have kr0 := Lib.hid ((isRow_of (hb1.block w.heap.size (by omega))).trans hr0)
  have kr1 := Lib.hid ((isRow_of (hb1.block (w.heap.size + 1) (by omega))).trans hr1)
  have kr2 := Lib.hid ((isRow_of (hb1.block (w.heap.size + 1 + 1) (by omega))).trans hr2)
  have kc0 := Lib.hid (fun j hj => (hb1.cell (p := ⟨w.heap.size, j, none⟩) (show w.heap.size < _ by omega)).trans (hc0 j hj))
  have kc2 := Lib.hid (fun j hj => (hb1.cell (p := ⟨w.heap.size + 1 + 1, j, none⟩) (show w.heap.size + 1 + 1 < _ by omega)).trans (hc2 j hj))
  have KB := Lib.hid (hB0.trans (hb1.mono hB0.size))
  have hz1 : w.heap.size + 3 ≤ W1.heap.size := Nat.le_trans hz hb1.size
  clear hB0 hr0 hr1 hr2 hc0 hc2 hz hS hb1 hsp hD2 W0
  obtain ⟨ws, hws⟩ : ∃ ws : Nat → Sha.W, ws = fun i => (Sha.spread xs 0).getD i 0 := ⟨_, rfl⟩
  have KW := Lib.hid hws
  have KD' : Hid (∀ j, j < 64 → D[j]? = some (.int .u32 (num (ws j)))) := fun j hj => by rw [hws]; exact KD.out j hj
  clear hws KD
  go_wp2_with fail
  go_loopw [16] (fun x wr => ∃ i : Nat, i ≤ 64 ∧ x = .int .i64 i ∧ Below (w.heap.size + 1 + 1) W1 wr ∧ isRow wr (w.heap.size + 1 + 1) 8 = true ∧ ∀ j, j < 8 → wr.cell? ⟨w.heap.size + 1 + 1, j, none⟩ = some (.int .u32 (num (vget (Sha.turns Sha.kf ws i v0) j)))) (fun x _ => 64 - (intOf x).toNat)
  case atStart => exact ⟨0, Nat.zero_le _, rfl, Below.refl _ _, kr2.out, fun j hj => kc2.out j hj⟩
  case round =>
    obtain ⟨i, hi, rfl, hB, hR, hCC⟩ := hrel
    have HB := Lib.hid hB
    have HC := Lib.hid hCC
    have hl1 := isRow_lt hR
    clear hB hCC
    by_cases hlt : i < 64
    · have di := KD'.out i hlt
      have ixd := fun w => ix102 w D i _ hlt di
      clear di
      have gi := (HB.out.cell (p := ⟨24, i, none⟩) (by show 24 < _; have := KG.out.lt; omega)).trans ((KG.out.below KB.out).at_ i hlt)
      have ggl : 24 < wr.heap.size := by have := KG.out.lt; omega
      have hu : Hid (Sha.turns Sha.kf ws (i + 1) v0 = Sha.turn (Sha.turns Sha.kf ws i v0) (Sha.kf i) (ws i)) := rfl
      generalize Sha.turns Sha.kf ws i v0 = u at *
      have c0 := HC.out 0 (by decide)
      have c1 := HC.out 1 (by decide)
      have c2 := HC.out 2 (by decide)
      have c3 := HC.out 3 (by decide)
      have c4 := HC.out 4 (by decide)
      have c5 := HC.out 5 (by decide)
      have c6 := HC.out 6 (by decide)
      have c7 := HC.out 7 (by decide)
      simp only [vget] at c0 c1 c2 c3 c4 c5 c6 c7
      go_wp2_with fail
      generalize hch : u.e &&& u.f ^^^ ~~~u.e &&& u.g = ch
      generalize hmo : u.a &&& u.b ^^^ u.a &&& u.c ^^^ u.b &&& u.c = mo
      go_quiet ((go_at_call 104; exact quiet_one (turned6 _ _)))
      have hR1 : isRow (wr.drewN nq) (w.heap.size + 1 + 1) 8 = true := hR
      have HB1 : Hid (Below (w.heap.size + 1 + 1) W1 (wr.drewN nq)) := HB.out.trans ⟨rfl, rfl, rfl, Nat.le_refl _, fun _ _ => rfl⟩
      have HC1 : Hid (∀ j, j < 8 → (wr.drewN nq).cell? ⟨w.heap.size + 1 + 1, j, none⟩ = some (.int .u32 (num (vget u j)))) := fun j hj => HC.out j hj
      clear c0 c1 c2 c3 c4 c5 c6 c7 gi hR hl1 HB HC
      generalize wr.drewN nq = V at *
      have c0 := HC1.out 0 (by decide)
      have c1 := HC1.out 1 (by decide)
      have c2 := HC1.out 2 (by decide)
      have c3 := HC1.out 3 (by decide)
      have c4 := HC1.out 4 (by decide)
      have c5 := HC1.out 5 (by decide)
      have c6 := HC1.out 6 (by decide)
      have c7 := HC1.out 7 (by decide)
      simp only [vget] at c0 c1 c2 c3 c4 c5 c6 c7
      generalize h1 : u.h + (Sha.rr u.e 6 ^^^ Sha.rr u.e 11 ^^^ Sha.rr u.e 25) + ch + Sha.kf i + ws i = y1
      generalize h2 : Sha.rr u.a 2 ^^^ Sha.rr u.a 13 ^^^ Sha.rr u.a 22 = y2
      have ht := turned2 u.a
      rw [h2] at ht
      obtain ⟨C', hbd, hV⟩ := built85 (y1 + (y2 + mo)) u.a u.b u.c (u.d + y1) u.e u.f u.g
      have hV2 : Hid (isV C' (Sha.turn u (Sha.kf i) (ws i))) := by
        subst h1 h2 hch hmo
        exact hV
      have s85 := fun w b h => st85 w b C' h hV.size (isV_ones hV)
      have KT := Lib.hid ht
      replace hch := Lib.hid hch
      replace hmo := Lib.hid hmo
      replace h1 := Lib.hid h1
      replace h2 := Lib.hid h2
      clear hV ht
      go_wp2_with (go_at_call 104; with_reducible refine (KT.out _).mono ?_; rintro e w' ⟨rfl, rfl⟩)
      go_round
      case rel =>
        refine ⟨i + 1, by omega, by go_num, below_setRow HB1.out (Nat.le_refl _) _, isRow_setRow _ _ _ _ hR1 hV2.out.size, fun j hj => ?_⟩
        rw [cell_setRow_n _ _ _ _ hR1, hu.out]
        exact hV2.out.at_ j hj
      case measure => simp [intOf]; omega
    · have hie : i = 64 := by omega
      subst hie
      have hR0 := (isRow_of (HB.out.block w.heap.size (by omega))).trans kr0.out
      have hR4 := Lib.hid ((isRow_of (HB.out.block (w.heap.size + 1) (by omega))).trans kr1.out)
      have hV0 := Lib.hid (fun j hj => (HB.out.cell (p := ⟨w.heap.size, j, none⟩) (show w.heap.size < _ by omega)).trans (kc0.out j hj))
      have HW := Lib.hid (KB.out.trans (HB.out.mono (by omega)))
      have hsz2 : w.heap.size + 3 ≤ wr.heap.size := Nat.le_trans hz1 HB.out.size
      clear HB
      obtain ⟨u, hu⟩ : ∃ u, u = Sha.turns Sha.kf ws 64 v0 := ⟨_, rfl⟩
      rw [← hu] at HC
      have KU := Lib.hid hu
      clear hu
      go_wp2_with fail
      obtain ⟨W2, rfl⟩ : ∃ x, x = wr := ⟨_, rfl⟩
      have KR0 := Lib.hid hR0
      have KR5 := Lib.hid hR
      have KL := Lib.hid hsz2
      clear hR0 hR hl1 hsz2
      go_loopw [89] (fun x wr => ∃ i : Nat, i ≤ 8 ∧ x = .int .i64 i ∧ Below w.heap.size W2 wr ∧ isRow wr w.heap.size 8 = true ∧ isRow wr (w.heap.size + 1) 8 = true ∧ (∀ j, j < 8 → wr.cell? ⟨w.heap.size + 1 + 1, j, none⟩ = some (.int .u32 (num (vget u j)))) ∧ ∀ j, j < 8 → wr.cell? ⟨w.heap.size, j, none⟩ = some (.int .u32 (num (if j < i then vget v0 j + vget u j else vget v0 j)))) (fun x _ => 8 - (intOf x).toNat)
      case atStart => exact ⟨0, Nat.zero_le _, rfl, Below.refl _ _, KR0.out, hR4.out, HC.out, fun j hj => by rw [if_neg (by omega)]; exact hV0.out j hj⟩
      case round =>
        obtain ⟨i, hi, rfl, hB, hR, hR1, hC5, hC0⟩ := hrel
        have HB := Lib.hid hB
        have H5 := Lib.hid hC5
        have H0 := Lib.hid hC0
        have hl1 := isRow_lt hR
        clear hB hC5 hC0
        by_cases hlt : i < 8
        · have a5 := H5.out i hlt
          have a0 := H0.out i hlt
          rw [if_neg (by omega)] at a0
          have fi := frozen_row hR i
          have s80 := st80 8
          go_wp2_with fail
          go_region
          go_wp2_with fail
          go_round
          case rel =>
            refine ⟨i + 1, by omega, by go_num, (Below.setCell HB.out (p := ⟨w.heap.size, i, none⟩) (Nat.le_refl _) _).drew, isRow_setCell _ _ _ _ _ _ hR, isRow_setCell _ _ _ _ _ _ hR1, fun j hj => ?_, fun j hj => ?_⟩
            · rw [World.cell?_drew, World.cell?_of_block (Below.heap_setCell _ ⟨w.heap.size, i, none⟩ _ (w.heap.size + 1 + 1) (by show _ ≠ w.heap.size; omega))]
              exact H5.out j hj
            · rw [World.cell?_drew]
              by_cases h : j = i
              · subst h
                rw [cell_setCell_here (n := 8) hR hj, if_pos (by omega)]
              · rw [cell_setCell_off _ _ _ _ _ h]
                have := H0.out j hj
                rw [show (if j < i + 1 then vget v0 j + vget u j else vget v0 j) = (if j < i then vget v0 j + vget u j else vget v0 j) by
                  by_cases h2 : j < i
                  · rw [if_pos h2, if_pos (by omega)]
                  · rw [if_neg h2, if_neg (by omega)]]
                exact this
          case measure => simp [intOf]; omega
        · have hie : i = 8 := by omega
          subst hie
          have hh : hasRange wr w.heap.size 0 8 = true := has_row hR (by omega)
          have hr1 := size_rangeOf wr w.heap.size 0 8
          have hV : isV (rangeOf wr w.heap.size 0 8) (Sha.mix xs 0 v0) := ⟨hr1, fun j hj => by
            rw [rangeOf_get hj (by rw [Nat.zero_add]; exact H0.out j hj), if_pos hj]
            show _ = some (Value.int .u32 (num (vget (Sha.add v0 (Sha.turns Sha.kf (fun i => (Sha.spread xs 0).getD i 0) 64 v0)) j)))
            rw [← KW.out, ← KU.out]
            have : j = 0 ∨ j = 1 ∨ j = 2 ∨ j = 3 ∨ j = 4 ∨ j = 5 ∨ j = 6 ∨ j = 7 := by omega
            rcases this with rfl | rfl | rfl | rfl | rfl | rfl | rfl | rfl <;> rfl⟩
          have HV := Lib.hid hV
          have s85 := fun w b h => st85 w b _ h hr1 (isV_ones hV)
          have l85 := ld85
          clear hV
          go_wp2_with fail
          have hres := range_setRow_all hR1 _ hr1
          have hhas : hasRange (wr.setRow (w.heap.size + 1) (rangeOf wr w.heap.size 0 8)) (w.heap.size + 1) 0 8 = true := has_row (isRow_setRow _ _ _ _ hR1 hr1) (by omega)
          refine bodyPost_ret (v := .agg (rangeOf wr w.heap.size 0 8)) (by simp [results, Tryd.results92, go_sem, l85, hres, hhas]) rfl ⟨_, rfl, HV.out, below_setRow (HW.out.trans HB.out) (by omega) _⟩
end Go.Proofs.YtbapkamopelgpaaDoor
