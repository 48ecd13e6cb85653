/- The reference's digest. -/
import Derived.Test.YtbapkamopelgpaaDoorFrameBytesV
import Derived.BigRegion
import Derived.StillTailTactics
import Derived.Laws.MakeOwn
namespace Go.Proofs.YtbapkamopelgpaaDoor
open Go.RowKit Go.Stop Go.Extern Go.Ranges
set_option linter.unusedVariables false
set_option linter.unusedSimpArgs false
attribute [-go_sem] loadVar storeVar
attribute [local go_sem] loadVar_one storeVar_one
attribute [local go_sem] zero8_lit zero8_size zero32b_lit zero32b_size
attribute [local go_sem] mod_add num_add bits_xor bits_and bits_not bits_notm div8 div1024
theorem row80 : (Tryd.prog.info? 126).map (fun i => (i.zero, i.size, i.bytes)) = some (some (.int .u32 0), 1, 4) := by kernel_rfl
theorem mk78 (w : World) : (Instr.makeSlice 124 (.int .i64 64) (.int .i64 64)).run Tryd.prog w = .ok (.slice (some ⟨w.heap.size, 0, none⟩) 64 64) (w.alloc (.cells zero64 126)) := by
  obtain ⟨it, j1, j2, j3, j4⟩ := of_row1 row80
  have h := run_make (P := Tryd.prog) w 124 126 it (.int .u32 0) Tryd.underlying124 j1 j2 .i64 .i64 64 64 (by decide) (by decide) (by rw [j4]; decide) (by decide)
  have e : madeCells (Value.int .u32 0).cells ((64 : Int).toNat * it.size) = zero64 := by rw [j3]; kernel_rfl
  rw [e] at h
  exact h
theorem st24n (w : World) (C C' : Array Value) (g : Nat) (hg : g = w.heap.size) (h1 : C.size = 32) (h2 : C'.size = 32) (h3 : ones C' = true) :
    (storeVar 107 ⟨g, 0, none⟩ (.agg C')).run Tryd.prog (w.alloc (.cells C 107)) = .ok () (w.alloc (.cells C' 107)) :=
  var_new 32 (by kernel_rfl) w C C' g hg h1 h2 h3
theorem zero32b_one : ones zero32b = true := by kernel_rfl
attribute [local go_sem] zero32b_one
theorem ld24s (w : World) (b o : Nat) (h : hasRange w b o 32 = true) : (loadVar 107 ⟨b, o, none⟩).run Tryd.prog w = .ok (.agg (rangeOf w b o 32)) w :=
  var_range 32 Tryd.underlying107 rfl (by kernel_rfl) w b o h
theorem st24r (w : World) (b : Nat) (C : Array Value) (h : isRow w b 32 = true) (h2 : C.size = 32) (h3 : ones C = true) : (storeVar 107 ⟨b, 0, none⟩ (.agg C)).run Tryd.prog w = .ok () (w.setRow b C) :=
  store_row 32 (by kernel_rfl) w b C h h2 h3
theorem st5u (w : World) (b o : Nat) (x : Int) (ho : o < 32) (h : isRow w b 32 = true) : (storeVar 5 ⟨b, o, none⟩ (.int .u8 x)).run Tryd.prog w = .ok () (w.setCell ⟨b, o, none⟩ (.int .u8 x)) :=
  store_slot (by kernel_rfl) w b o 32 _ h ho rfl rfl
theorem num_bits (x : Sha.W) (k : Nat) : num x / 2 ^ k % 256 = ((x >>> k).toNat % 256 : Nat) := by
  unfold num
  rw [BitVec.toNat_ushiftRight, Nat.shiftRight_eq_div_pow, Int.natCast_emod, Int.natCast_ediv, Int.natCast_pow]
  rfl
theorem four_at (x : Sha.W) (r : Nat) (hr : r < 4) : (Sha.four x).getD r 0 = num x / 2 ^ (24 - 8 * r) % 256 := by
  rw [num_bits]
  have : r = 0 ∨ r = 1 ∨ r = 2 ∨ r = 3 := by omega
  rcases this with rfl | rfl | rfl | rfl
  · rfl
  · rfl
  · rfl
  · simp [Sha.four]
theorem out_at (u : Sha.V) (i : Nat) (hi : i < 32) : (Sha.out u).getD i 0 = num (vget u (i / 4)) / 2 ^ (24 - 8 * (i % 4)) % 256 := by
  have h4 : i / 4 = 0 ∨ i / 4 = 1 ∨ i / 4 = 2 ∨ i / 4 = 3 ∨ i / 4 = 4 ∨ i / 4 = 5 ∨ i / 4 = 6 ∨ i / 4 = 7 := by omega
  have hr : i % 4 = 0 ∨ i % 4 = 1 ∨ i % 4 = 2 ∨ i % 4 = 3 := by omega
  rw [← four_at _ _ (by omega)]
  have hi2 : i = 4 * (i / 4) + i % 4 := by omega
  rw [hi2]
  generalize i / 4 = q at *
  generalize i % 4 = r at *
  have e1 : (4 * q + r) / 4 = q := by omega
  have e2 : (4 * q + r) % 4 = r := by omega
  rw [e1, e2]
  rcases h4 with rfl | rfl | rfl | rfl | rfl | rfl | rfl | rfl <;> rcases hr with rfl | rfl | rfl | rfl <;> rfl
/-- The number of a message's bytes from a place on. -/
def pw (P : List Int) (o j : Nat) : Int := be ((P.drop o).take j)
theorem pw_succ (P : List Int) (o j : Nat) (h : o + j < P.length) : pw P o (j + 1) = pw P o j * 256 + P.getD (o + j) 0 := by
  unfold pw
  rw [List.take_add_one, List.getElem?_drop, List.getElem?_eq_getElem h, List.getD_eq_getElem?_getD, List.getElem?_eq_getElem h]
  exact be_snoc _ _
theorem pw_lt (P : List Int) (o j : Nat) (hb : ∀ x ∈ P, isByte x) (h : o + j ≤ P.length) : 0 ≤ pw P o j ∧ pw P o j < 256 ^ j := by
  have := be_lt ((P.drop o).take j) (fun x hx => hb x (List.mem_of_mem_drop (List.mem_of_mem_take hx)))
  have hl : ((P.drop o).take j).length = j := by rw [List.length_take, List.length_drop]; omega
  rw [hl] at this
  exact this
theorem pw_four (P : List Int) (o : Nat) (hb : ∀ x ∈ P, isByte x) (h : o + 4 ≤ P.length) : pw P o 4 = num (Sha.wordAt P o) := by
  have hlt := pw_lt P o 4 hb h
  have e : pw P o 4 = be [P.getD o 0, P.getD (o + 1) 0, P.getD (o + 2) 0, P.getD (o + 3) 0] := by
    rw [pw_succ _ _ _ (by omega), pw_succ _ _ _ (by omega), pw_succ _ _ _ (by omega), pw_succ _ _ _ (by omega)]
    simp [pw, be]
  have h2 := word_be (P.getD o 0) (P.getD (o + 1) 0) (P.getD (o + 2) 0) (P.getD (o + 3) 0)
  rw [← e, IntKind.wrap_u32', Int.emod_eq_of_lt hlt.1 (by have := hlt.2; omega)] at h2
  exact h2
set_option maxRecDepth 20000 in
set_option maxHeartbeats 8000000 in
theorem refSum_any (A : Option Addr) (N c : Nat) (L : List Int) (w : World) (hN : L.length = N) (hB : Lib.BytesIn w A N L) (hb : ∀ x ∈ L, isByte x) (hL : N ≤ 274877906944) :
    Calls Tryd.prog 64 #[.slice A N c] w fun e w' => ∃ D, e = .returned (.agg D) ∧ isOid D (Sha.sum L) ∧ Below w.heap.size w w' := by
  have KN := Lib.hid hN
  have KI := Lib.hid hB
  have Kb := Lib.hid hb
  clear hN hB hb
  obtain ⟨it, j1, j2, j3, j4⟩ := of_row1 row5
  go_enter Tryd.func64, Tryd.ntmps64
  have hb0 : Below w.heap.size w ((w.alloc (.cells zero32b 107)).alloc (.cells #[] 5)) := ((Below.refl _ _).alloc (Nat.le_refl _) _).alloc (by simp) _
  have hr0 : isRow ((w.alloc (.cells zero32b 107)).alloc (.cells #[] 5)) w.heap.size 32 = true := by simp [go_sem]
  have ho0 : ((w.alloc (.cells zero32b 107)).alloc (.cells #[] 5)).ownsRow (w.heap.size + 1) 5 1 (.slice (some ⟨w.heap.size + 1, 0, none⟩) 0 0) 0 (bV []) := by
    have h := heap_alloc_last (w.alloc (.cells zero32b 107)) (.cells #[] 5)
    have e : (w.alloc (.cells zero32b 107)).heap.size = w.heap.size + 1 := by simp
    rw [e] at h
    exact ⟨rfl, .inr ⟨_, 0, #[], rfl, Nat.le_refl _, h, Nat.le_refl _, Nat.zero_le _, rfl, rfl⟩⟩
  have T0 : St w _ _ 0 [] := ⟨hb0, hr0, ho0⟩
  obtain ⟨v1, w1, hr1, ho1, hg1⟩ := app_bytes T0.own A N c L KN.out (bytesIn_below' KI.out hb0) T0.lt (by omega)
  rw [Nat.zero_add, List.nil_append] at ho1
  have T1 := T0.app (Below.refl _ _) hg1 ho1
  obtain ⟨A1, c1, rfl⟩ := own_slice T1.own
  have KT1 := Lib.hid T1
  clear hb0 hr0 ho0 T0 T1 ho1 hg1
  go_wp2_with (first
    | (at_builtin; refine Lib.wpList_append_run _ rfl (.tmp 30) (.tmp 31) 22 22 rfl _ _ rfl rfl _ _ hr1 ?_)
    | (at_builtin; go_loud (refine wpList_append_lies _ rfl (.tmp 32) (.tmp 33) 22 rfl (w.heap.size + 1) 5 it (.int .u8 0) 1 1 Tryd.underlying22 j1 j2 j3 j4 rfl (by decide) (.slice A1 N c1) N (bV L) rfl (KT1.out.own.alloc _) ⟨w1.heap.size, 0, none⟩ 1 1 [.int .u8 128] rfl rfl (one_new _ _ _) (one_one _) (by decide) (by unfold maxLen; omega) (by omega) (by have := KT1.out.lt; simp; omega) _ rfl ?_); intro gn cn W2 hown hgrow hat hltn))
  have hst : St w W2 (.slice (some ⟨gn, 0, none⟩) (N + 1) cn) (N + 1) (withZ L 0) :=
    KT1.out.app ((Below.refl _ w1).alloc (Nat.le_refl _) _) hgrow (by
      have e : bV (withZ L 0) = bV L ++ [.int .u8 128] := by simp [withZ, bV]
      rw [e]; exact hown)
  have KT := Lib.hid hst
  clear hst hown hgrow hat hltn KT1 hr1
  go_loopw [3] (fun y wr => ∃ (z : Nat) (g c : Nat), z ≤ Sha.noughts N ∧ .slice (some ⟨g, 0, none⟩) (N + 1 + z) c = y ∧ St w wr (.slice (some ⟨g, 0, none⟩) (N + 1 + z) c) (N + 1 + z) (withZ L z)) (fun y _ => N + 1 + Sha.noughts N - sliceLen y)
  case atStart => exact ⟨0, _, _, Nat.zero_le _, rfl, KT.out⟩
  case round =>
    obtain ⟨z, g, c0, hz, rfl, hst⟩ := hrel
    have HT := Lib.hid hst
    have hlt0 := hst.lt
    clear hst
    by_cases hlt : z < Sha.noughts N
    · have hne := noughts_at N z hlt
      have hne2 : ((((N + 1 + z : Nat) : Int).tmod 64) != 56) = true := by
        rw [Int.tmod_eq_emod_of_nonneg (by omega)]
        simp only [bne_iff_ne, ne_eq]
        omega
      have hN2 : N + 1 + z ≤ 1099511627776 := by unfold Sha.noughts at hz; omega
      go_wp2_with (at_builtin; go_loud (refine wpList_append_lies _ rfl (.tmp 39) (.tmp 40) 22 rfl (w.heap.size + 1) 5 it (.int .u8 0) 1 1 Tryd.underlying22 j1 j2 j3 j4 rfl (by decide) (.slice (some ⟨g, 0, none⟩) (N + 1 + z) c0) (N + 1 + z) (bV (withZ L z)) rfl (HT.out.own.alloc _) ⟨wr.heap.size, 0, none⟩ 1 1 [.int .u8 0] rfl rfl (one_new _ _ _) (one_one _) (by decide) (by unfold maxLen; omega) (by omega) (by simp; omega) _ rfl ?_); intro gn2 cn2 w2 hown hgrow hat hltn)
      go_round
      case rel =>
        refine ⟨z + 1, gn2, cn2, by omega, by first | rfl | trivial, HT.out.app ((Below.refl _ wr).alloc (Nat.le_refl _) _) hgrow ?_⟩
        have e : bV (withZ L (z + 1)) = bV (withZ L z) ++ [.int .u8 0] := by rw [withZ_succ, bV_append]; rfl
        rw [e]
        exact hown
      case measure => simp only [sliceLen]; omega
    · have hze : z = Sha.noughts N := by omega
      subst hze
      have hne := noughts_end N
      have hne2 : ((((N + 1 + Sha.noughts N : Nat) : Int).tmod 64) != 56) = false := by
        rw [Int.tmod_eq_emod_of_nonneg (by omega)]
        simp only [bne_eq_false_iff_eq]
        omega
      obtain ⟨z, hzz⟩ : ∃ z, z = Sha.noughts N := ⟨_, rfl⟩
      rw [← hzz] at hne hne2 HT hz ⊢
      have KZ := Lib.hid hzz
      clear hzz hz hlt
      have hNz : N + 1 + z + 8 ≤ 1099511627776 := by have := KZ.out; unfold Sha.noughts at this; omega
      have hpad : Hid (withZ L z ++ oct ((N : Int) * 8) 8 = Sha.padded L) := by
        show _ = _
        rw [padded_eq, KN.out, ← KZ.out]
      have KE := Lib.hid hne
      go_wp2_with fail
      have hne3 : (((N : Int) + 1 + (z : Int)) % (64 : Int) != 56) = false := by
        simp only [bne_eq_false_iff_eq]
        omega
      rw [hne3]
      clear hne hne2 hne3
      obtain ⟨W3, rfl⟩ : ∃ x, x = wr := ⟨_, rfl⟩
      go_loopw [5, 3] (fun x y wr => ∃ (k : Nat) (v : Value), k ≤ 8 ∧ x = .int .i64 (56 - 8 * (k : Int)) ∧ v = y ∧ St w wr v (N + 1 + z + k) (withZ L z ++ octUp ((N : Int) * 8) 8 k)) (fun x _ _ => (intOf x + 8).toNat)
      case atStart => exact ⟨0, _, Nat.zero_le _, by go_num, rfl, by simpa [octUp] using HT.out⟩
      case round =>
        obtain ⟨k, v, hk, rfl, rfl, hst⟩ := hrel
        have H2 := Lib.hid hst
        have hlt2 := hst.lt
        clear hst
        by_cases hlt : k < 8
        · have hge : (0 : Int) ≤ 56 - 8 * (k : Int) := by omega
          have hnext : Hid (withZ L z ++ octUp ((N : Int) * 8) 8 (k + 1) = (withZ L z ++ octUp ((N : Int) * 8) 8 k) ++ [(N : Int) * 8 / 2 ^ (56 - 8 * k) % 256]) := by
            show _ = _
            rw [octUp_succ, List.append_assoc, show 8 * (8 - 1 - k) = 56 - 8 * k by omega]
          go_wp2_with (at_builtin; go_loud (refine wpList_append_lies _ rfl (.tmp 50) (.tmp 56) 22 rfl (w.heap.size + 1) 5 it (.int .u8 0) 1 1 Tryd.underlying22 j1 j2 j3 j4 rfl (by decide) v (N + 1 + z + k) (bV (withZ L z ++ octUp ((N : Int) * 8) 8 k)) rfl (H2.out.own.alloc _) ⟨wr.heap.size, 0, none⟩ 1 1 [.int .u8 ((N : Int) * 8 / 2 ^ (56 - 8 * k) % 256)] rfl rfl (one_new _ _ _) (one_one _) (by decide) (by unfold maxLen; omega) (by omega) (by simp; omega) _ rfl ?_); intro gn2 cn2 w2 hown hgrow hat hltn)
          go_round
          case rel =>
            refine ⟨k + 1, _, by omega, by go_num, rfl, H2.out.app ((Below.refl _ wr).alloc (Nat.le_refl _) _) hgrow ?_⟩
            rw [hnext.out, bV_append]
            exact hown
          case measure => simp only [intOf]; omega
        · have hke : k = 8 := by omega
          subst hke
          have hge : ¬ (0 : Int) ≤ 56 - 8 * ((8 : Nat) : Int) := by omega
          have H3 : St w wr v (N + 1 + z + 8) (Sha.padded L) := hpad.out ▸ H2.out
          obtain ⟨g3, c3, rfl, hgc, hgm, hgl⟩ := own_form8 H3.own (by omega)
          obtain ⟨P, hP⟩ : ∃ P, P = Sha.padded L := ⟨_, rfl⟩
          have KP3 := Lib.hid hP
          rw [← hP] at H3
          have hPb : Hid (∀ x ∈ P, isByte x) := fun x hx => by
            rw [hP] at hx
            exact padded_bytes Kb.out x hx
          have T3 := Lib.hid H3
          clear hP H3 H2 hpad
          generalize hM : N + 1 + z + 8 = M at *
          have hPl : Hid (P.length = M) := own_len T3.out.own
          have hl3 := T3.out.lt
          obtain ⟨nb, hnb⟩ : ∃ nb, M = 64 * nb := ⟨M / 64, by have := KE.out; omega⟩
          subst hnb
          clear HT hlt0 hNz KE
          go_wp2_with (go_at_call 81; refine (table_any _).mono ?_; rintro e w4 ⟨gt, rfl, hb4, hgt, htb⟩)
          have T4 := T3.out.keep hb4
          have hBy4 := bytesIn_below' (own_bytes T3.out.own) hb4
          have hb5 : Below w4.heap.size w4 (w4.alloc (.cells #[.int .u32 1779033703, .int .u32 3144134277, .int .u32 1013904242, .int .u32 2773480762, .int .u32 1359893119, .int .u32 2600822924, .int .u32 528734635, .int .u32 1541459225] 126)) := (Below.refl _ _).alloc (Nat.le_refl _) _
          have T5 := T4.keep hb5
          have hBy5 := bytesIn_below' hBy4 hb5
          have htb5 := htb.below hb5
          have hgl5 : g3 < (w4.alloc (.cells #[.int .u32 1779033703, .int .u32 3144134277, .int .u32 1013904242, .int .u32 2773480762, .int .u32 1359893119, .int .u32 2600822924, .int .u32 528734635, .int .u32 1541459225] 126)).heap.size := by have := hb4.size; simp; omega
          have hq5 : isRow (w4.alloc (.cells #[.int .u32 1779033703, .int .u32 3144134277, .int .u32 1013904242, .int .u32 2773480762, .int .u32 1359893119, .int .u32 2600822924, .int .u32 528734635, .int .u32 1541459225] 126)) w4.heap.size 8 = true ∧ ∀ j, j < 8 → (w4.alloc (.cells #[.int .u32 1779033703, .int .u32 3144134277, .int .u32 1013904242, .int .u32 2773480762, .int .u32 1359893119, .int .u32 2600822924, .int .u32 528734635, .int .u32 1541459225] 126)).cell? ⟨w4.heap.size, j, none⟩ = some (.int .u32 (num (vget Sha.start j))) := by
            refine ⟨isRow_new _ _ _ _ _ rfl rfl, fun j hj => ?_⟩
            rw [cell_of_row _ _ _ _ _ _ (heap_alloc_last w4 _)]
            have : j = 0 ∨ j = 1 ∨ j = 2 ∨ j = 3 ∨ j = 4 ∨ j = 5 ∨ j = 6 ∨ j = 7 := by omega
            rcases this with rfl | rfl | rfl | rfl | rfl | rfl | rfl | rfl <;> rfl
          have hz5 : (w4.alloc (.cells #[.int .u32 1779033703, .int .u32 3144134277, .int .u32 1013904242, .int .u32 2773480762, .int .u32 1359893119, .int .u32 2600822924, .int .u32 528734635, .int .u32 1541459225] 126)).heap.size = w4.heap.size + 1 := by simp
          have hgt4 : gt < w4.heap.size := htb.1
          have hg34 : g3 < w4.heap.size := by have := hb4.size; omega
          change Code.wp _ _ _ _ (w4.alloc (.cells #[.int .u32 1779033703, .int .u32 3144134277, .int .u32 1013904242, .int .u32 2773480762, .int .u32 1359893119, .int .u32 2600822924, .int .u32 528734635, .int .u32 1541459225] 126))
          generalize w4.alloc (.cells #[.int .u32 1779033703, .int .u32 3144134277, .int .u32 1013904242, .int .u32 2773480762, .int .u32 1359893119, .int .u32 2600822924, .int .u32 528734635, .int .u32 1541459225] 126) = W5 at *
          obtain ⟨qh, hqh⟩ : ∃ q, q = w4.heap.size := ⟨_, rfl⟩
          rw [← hqh] at hq5 hz5 hgt4 hg34 ⊢
          have hHq : w.heap.size < qh := by have := T4.lt; omega
          have K5 := Lib.hid T5
          have KBy := Lib.hid hBy5
          have KTb := Lib.hid htb5
          have KQ := Lib.hid hq5
          have KL := Lib.hid hl3
          clear T5 hBy5 htb5 hq5 T4 hBy4 hb5 hb4 htb hqh T3 KT hgl hgl5 hgt hl3
          go_loopw [8] (fun x wr => ∃ k : Nat, k ≤ nb ∧ x = .int .i64 (64 * (k : Int)) ∧ Below qh W5 wr ∧ isRow wr qh 8 = true ∧ ∀ j, j < 8 → wr.cell? ⟨qh, j, none⟩ = some (.int .u32 (num (vget (Sha.blocks P k Sha.start) j)))) (fun x _ => nb - (intOf x).toNat / 64)
          case atStart => exact ⟨0, Nat.zero_le _, by go_num, Below.refl _ _, KQ.out.1, KQ.out.2⟩
          case round =>
            obtain ⟨k, hk, rfl, hB, hR, hC⟩ := hrel
            have HB := Lib.hid hB
            have HR := Lib.hid hR
            have HC := Lib.hid hC
            have hlq := isRow_lt hR
            clear hB hR hC
            by_cases hlt : k < nb
            · have hlt2 : 64 * (k : Int) < 64 * (nb : Int) := by omega
              have mk := mk78
              go_wp2_with fail
              obtain ⟨Wr, rfl⟩ : ∃ x, x = wr := ⟨_, rfl⟩
              have hz6 : ∀ j, j < 64 → (Wr.alloc (.cells zero64 126)).cell? ⟨Wr.heap.size, j, none⟩ = some (.int .u32 (num ((Sha.sched (fun i => Sha.wordAt P (64 * k + 4 * i)) 0).getD j 0))) := fun j hj => by
                rw [cell_of_row _ _ _ _ _ _ (heap_alloc_last Wr _)]
                simp [zero64, hj, num, Sha.sched]
              have hr6 : isRow (Wr.alloc (.cells zero64 126)) Wr.heap.size 64 = true := by simp [go_sem, zero64_size]
              have hb6 : Below Wr.heap.size Wr (Wr.alloc (.cells zero64 126)) := (Below.refl _ _).alloc (Nat.le_refl _) _
              generalize Wr.alloc (.cells zero64 126) = W6 at *
              have K6 := Lib.hid hb6
              have KZ6 := Lib.hid hz6
              have KR6 := Lib.hid hr6
              clear hb6 hz6 hr6
              generalize hqm : Wr.heap.size = qm at *
              have hbyte : Hid (∀ wx, Below qm W6 wx → ∀ o, o < 64 * nb → wx.cell? ⟨g3, o, none⟩ = some (.int .u8 (P.getD o 0))) := fun wx hbx o ho => by
                obtain ⟨b', o', hbo, hcx⟩ := KBy.out (by omega)
                obtain ⟨rfl, rfl⟩ : g3 = b' ∧ 0 = o' := by simpa using hbo
                have h1 := hcx o ho
                rw [Nat.zero_add] at h1
                rw [hbx.cell (p := ⟨g3, o, none⟩) (show g3 < qm by omega), K6.out.cell (p := ⟨g3, o, none⟩) (show g3 < qm by omega), HB.out.cell (p := ⟨g3, o, none⟩) hg34]
                exact h1
              go_loopw [10] (fun x wr => ∃ i : Nat, i ≤ 16 ∧ x = .int .i64 i ∧ Below qm W6 wr ∧ isRow wr qm 64 = true ∧ ∀ j, j < 64 → wr.cell? ⟨qm, j, none⟩ = some (.int .u32 (num ((Sha.sched (fun i => Sha.wordAt P (64 * k + 4 * i)) i).getD j 0)))) (fun x _ => 16 - (intOf x).toNat)
              case atStart => exact ⟨0, Nat.zero_le _, rfl, Below.refl _ _, KR6.out, KZ6.out⟩
              case round =>
                obtain ⟨i, hi, rfl, hB6, hR6, hC6⟩ := hrel
                have HB6 := Lib.hid hB6
                have HC6 := Lib.hid hC6
                have hlm := isRow_lt hR6
                clear hB6 hC6
                by_cases hl16 : i < 16
                · have hs0 : (Sha.sched (fun i => Sha.wordAt P (64 * k + 4 * i)) i).getD i 0 = 0 := by
                    rw [List.getD_eq_getElem?_getD, List.getElem?_eq_none (by rw [Sha.sched_len]; exact Nat.le_refl _)]
                    rfl
                  go_wp2_with fail
                  obtain ⟨W7, rfl⟩ : ∃ x, x = wr := ⟨_, rfl⟩
                  go_loopw [11] (fun x wr => ∃ j : Nat, j ≤ 4 ∧ x = .int .i64 j ∧ Below qm W6 wr ∧ isRow wr qm 64 = true ∧ wr.cell? ⟨qm, i, none⟩ = some (.int .u32 (pw P (64 * k + 4 * i) j)) ∧ ∀ j', j' < 64 → j' ≠ i → wr.cell? ⟨qm, j', none⟩ = some (.int .u32 (num ((Sha.sched (fun i => Sha.wordAt P (64 * k + 4 * i)) i).getD j' 0)))) (fun x _ => 4 - (intOf x).toNat)
                  case atStart => exact ⟨0, Nat.zero_le _, rfl, HB6.out, hR6, by rw [HC6.out i (by omega), hs0]; rfl, fun j' hj' _ => HC6.out j' hj'⟩
                  case round =>
                    obtain ⟨j, hj, rfl, hB7, hR7, hC7, hD7⟩ := hrel
                    have HB7 := Lib.hid hB7
                    have HD7 := Lib.hid hD7
                    clear hB7 hD7
                    by_cases hl4 : j < 4
                    · have hob : 64 * k + 4 * i + j < 64 * nb := by omega
                      have hcb := hbyte.out wr HB7.out (64 * k + 4 * i + j) hob
                      have hpl := pw_lt P (64 * k + 4 * i) j hPb.out (by rw [hPl.out]; omega)
                      have hp4 : (256 : Int) ^ j ≤ 16777216 := by
                        have : j = 0 ∨ j = 1 ∨ j = 2 ∨ j = 3 := by omega
                        rcases this with rfl | rfl | rfl | rfl <;> decide
                      have hby : isByte (P.getD (64 * k + 4 * i + j) 0) := hPb.out _ (by
                        rw [List.getD_eq_getElem?_getD, List.getElem?_eq_getElem (by rw [hPl.out]; omega)]
                        exact List.getElem_mem _)
                      have hps := Lib.hid (pw_succ P (64 * k + 4 * i) j (by rw [hPl.out]; omega))
                      have fi := frozen_row hR7 i
                      have i64 : i < 64 := by omega
                      generalize pw P (64 * k + 4 * i) j = y at *
                      generalize P.getD (64 * k + 4 * i + j) 0 = b at *
                      have hy1 := hpl.1
                      have hy2 : y < 16777216 := by omega
                      have hb1 := hby.1
                      have hb2 := hby.2
                      clear hpl hp4 hby
                      have s80 := st80 64
                      have q0 : 64 * nb ≤ 9223372036854775807 := by unfold maxLen at hgm; omega
                      have q1 : IntKind.i64.wrap (64 * (k : Int) + 4 * (i : Int)) = 64 * (k : Int) + 4 * (i : Int) := by rw [IntKind.wrap_i64]; omega
                      have q2 : IntKind.i64.wrap (64 * (k : Int) + 4 * (i : Int) + (j : Int)) = 64 * (k : Int) + 4 * (i : Int) + (j : Int) := by rw [IntKind.wrap_i64]; omega
                      have q3 : (64 * (k : Int) + 4 * (i : Int) + (j : Int)).toNat = 64 * k + 4 * i + j := by omega
                      have q4 : (64 * (k : Int) + 4 * (i : Int) + (j : Int)) < 64 * (nb : Int) := by omega
                      have q5 : (0 : Int) ≤ 64 * (k : Int) + 4 * (i : Int) + (j : Int) := by omega
                      go_wp2_with fail
                      go_region
                      go_wp2_with fail
                      go_round
                      case rel =>
                        refine ⟨j + 1, by omega, by go_num, (Below.setCell HB7.out (p := ⟨qm, i, none⟩) (Nat.le_refl _) _).drew, isRow_setCell _ _ _ _ _ _ hR7, ?_, fun j' hj' hne => ?_⟩
                        · rw [World.cell?_drew, cell_setCell_here hR7 i64, hps.out]
                        · rw [World.cell?_drew, cell_setCell_off _ _ _ _ _ hne]
                          exact HD7.out j' hj' hne
                      case measure => simp only [intOf]; omega
                    · have hj4 : j = 4 := by omega
                      subst hj4
                      have hpf := Lib.hid (pw_four P (64 * k + 4 * i) hPb.out (by rw [hPl.out]; omega))
                      go_wp2_with fail
                      go_round
                      case rel =>
                        refine ⟨i + 1, by omega, by go_num, HB7.out, hR7, fun j' hj' => ?_⟩
                        rw [sched_get]
                        by_cases h : j' = i
                        · subst h
                          rw [if_pos rfl, hC7, hpf.out]
                          unfold nextW
                          rw [if_pos hl16]
                        · rw [if_neg h]
                          exact HD7.out j' hj' h
                      case measure => simp only [intOf]; omega
                · have hi16 : i = 16 := by omega
                  subst hi16
                  go_wp2_with fail
                  rw [show ((16 : Nat) : Int) = (16 : Int) from rfl]
                  obtain ⟨W7, rfl⟩ : ∃ x, x = wr := ⟨_, rfl⟩
                  go_loopw [12] (fun x wr => ∃ i : Nat, 16 ≤ i ∧ i ≤ 64 ∧ x = .int .i64 i ∧ Below qm W6 wr ∧ isRow wr qm 64 = true ∧ ∀ j, j < 64 → wr.cell? ⟨qm, j, none⟩ = some (.int .u32 (num ((Sha.sched (fun i => Sha.wordAt P (64 * k + 4 * i)) i).getD j 0)))) (fun x _ => 64 - (intOf x).toNat)
                  case atStart => exact ⟨16, Nat.le_refl _, by omega, rfl, HB6.out, hR6, HC6.out⟩
                  case round =>
                    obtain ⟨i, hi16, hi, rfl, hB7, hR7, hC7⟩ := hrel
                    have HB7 := Lib.hid hB7
                    have HC7 := Lib.hid hC7
                    clear hB7 hC7 HB6 HC6 hR6 hlm
                    by_cases hl64 : i < 64
                    · have c15 := HC7.out (i - 15) (by omega)
                      have c2 := HC7.out (i - 2) (by omega)
                      have c16 := HC7.out (i - 16) (by omega)
                      have c7 := HC7.out (i - 7) (by omega)
                      have l15 : i - 15 < 64 := by omega
                      generalize hx15 : (Sha.sched (fun i => Sha.wordAt P (64 * k + 4 * i)) i).getD (i - 15) 0 = x15 at *
                      generalize hx2 : (Sha.sched (fun i => Sha.wordAt P (64 * k + 4 * i)) i).getD (i - 2) 0 = x2 at *
                      generalize hx16 : (Sha.sched (fun i => Sha.wordAt P (64 * k + 4 * i)) i).getD (i - 16) 0 = x16 at *
                      generalize hx7 : (Sha.sched (fun i => Sha.wordAt P (64 * k + 4 * i)) i).getD (i - 7) 0 = x7 at *
                      replace hx15 := Lib.hid hx15
                      replace hx2 := Lib.hid hx2
                      replace hx16 := Lib.hid hx16
                      replace hx7 := Lib.hid hx7
                      have hn16 : Hid (¬ i < 16) := by show ¬ _; omega
                      have s80 := st80 64
                      go_wp2_with fail
                      go_quiet (fail)
                      go_wp2_with fail
                      have hRV : isRow (wr.drewN nq).drew qm 64 = true := hR7
                      have HBV : Hid (Below qm W6 (wr.drewN nq).drew) := HB7.out.trans ⟨rfl, rfl, rfl, Nat.le_refl _, fun _ _ => rfl⟩
                      have HCV : Hid (∀ j, j < 64 → (wr.drewN nq).drew.cell? ⟨qm, j, none⟩ = some (.int .u32 (num ((Sha.sched (fun i => Sha.wordAt P (64 * k + 4 * i)) i).getD j 0)))) := fun j hj => HC7.out j hj
                      have d16 : (wr.drewN nq).drew.cell? ⟨qm, i - 16, none⟩ = some (.int .u32 (num x16)) := c16
                      have d7 : (wr.drewN nq).drew.cell? ⟨qm, i - 7, none⟩ = some (.int .u32 (num x7)) := c7
                      clear c15 c2 c16 c7 hR7
                      have q16 : IntKind.i64.wrap ((i : Int) - 16) = ((i - 16 : Nat) : Int) := by rw [IntKind.wrap_i64]; omega
                      have q7 : IntKind.i64.wrap ((i : Int) - 7) = ((i - 7 : Nat) : Int) := by rw [IntKind.wrap_i64]; omega
                      have l16 : ((i - 16 : Nat) : Int) < 64 := by omega
                      have l7 : ((i - 7 : Nat) : Int) < 64 := by omega
                      refine wp_region_still_tail 32 (by kernel_rfl) (by kernel_rfl) ?_
                      change wpStill _ _ (wr.drewN nq).drew (fun a => wpList _ _ _ _ a (wr.drewN nq).drew) _ _
                      generalize (wr.drewN nq).drew = V at *
                      simp only [List.take_succ_cons, List.take_zero, List.drop_succ_cons, List.drop_zero]
                      repeat still_step
                      still_call ((right7 _ _).mono fun _ _ h => ⟨h.1, h.2.symm⟩)
                      repeat still_step
                      still_call ((right18 _ _).mono fun _ _ h => ⟨h.1, h.2.symm⟩)
                      repeat still_step
                      still_call ((right17 _ _).mono fun _ _ h => ⟨h.1, h.2.symm⟩)
                      repeat still_step
                      still_call ((right19 _ _).mono fun _ _ h => ⟨h.1, h.2.symm⟩)
                      repeat still_step
                      refine wpStill_nil ?_
                      go_wp2_with fail
                      go_round
                      case rel =>
                        refine ⟨i + 1, by omega, by omega, by go_num, Below.setCell HBV.out (p := ⟨qm, i, none⟩) (Nat.le_refl _) _, isRow_setCell _ _ _ _ _ _ hRV, fun j hj => ?_⟩
                        rw [sched_get]
                        by_cases h : j = i
                        · subst h
                          rw [if_pos rfl, cell_setCell_here hRV hj]
                          unfold nextW
                          rw [if_neg hn16.out, hx15.out, hx2.out, hx16.out, hx7.out]
                          rfl
                        · rw [if_neg h, cell_setCell_off _ _ _ _ _ h]
                          exact HCV.out j hj
                      case measure => simp only [intOf]; omega
                    · have hi64 : i = 64 := by omega
                      subst hi64
                      obtain ⟨f, hf⟩ : ∃ f : Nat → Sha.W, f = fun j => (Sha.spread P (64 * k)).getD j 0 := ⟨_, rfl⟩
                      have KF := Lib.hid hf
                      have HC8 : Hid (∀ j, j < 64 → wr.cell? ⟨qm, j, none⟩ = some (.int .u32 (num (f j)))) := fun j hj => by rw [hf]; exact HC7.out j hj
                      clear hf
                      have hbw : Below qh W5 wr := HB.out.trans ((K6.out.trans HB7.out).mono (by omega))
                      have HBw := Lib.hid hbw
                      have hH8 : Hid (isRow wr qh 8 = true ∧ ∀ j, j < 8 → wr.cell? ⟨qh, j, none⟩ = some (.int .u32 (num (vget (Sha.blocks P k Sha.start) j)))) := by
                        have hkq : wr.heap[qh]? = Wr.heap[qh]? := ((K6.out.trans HB7.out).block qh (by omega))
                        exact ⟨(isRow_of hkq).trans HR.out, fun j hj => (World.cell?_of_block (a := ⟨qh, j, none⟩) hkq).trans (HC.out j hj)⟩
                      have htbw := Lib.hid (fun i hi => (hbw.cell (p := ⟨gt, i, none⟩) hgt4).trans (KTb.out.2 i hi))
                      have hlm7 := isRow_lt hR7
                      have hu : Hid (Sha.blocks P (k + 1) Sha.start = Sha.add (Sha.blocks P k Sha.start) (Sha.turns Sha.kf f 64 (Sha.blocks P k Sha.start))) := by rw [KF.out]; rfl
                      clear hbw HB7 HC7 hbyte
                      generalize hss : Sha.blocks P k Sha.start = s0 at *
                      have a0 := hH8.out.2 0 (by decide)
                      have a1 := hH8.out.2 1 (by decide)
                      have a2 := hH8.out.2 2 (by decide)
                      have a3 := hH8.out.2 3 (by decide)
                      have a4 := hH8.out.2 4 (by decide)
                      have a5 := hH8.out.2 5 (by decide)
                      have a6 := hH8.out.2 6 (by decide)
                      have a7 := hH8.out.2 7 (by decide)
                      simp only [vget] at a0 a1 a2 a3 a4 a5 a6 a7
                      go_wp2_with fail
                      go_quiet (fail)
                      go_wp2_with fail
                      have hB9 : Hid (Below qh W5 (wr.drewN nq)) := HBw.out.trans ⟨rfl, rfl, rfl, Nat.le_refl _, fun _ _ => rfl⟩
                      have hH9 : Hid (isRow (wr.drewN nq) qh 8 = true ∧ ∀ j, j < 8 → (wr.drewN nq).cell? ⟨qh, j, none⟩ = some (.int .u32 (num (vget s0 j)))) := ⟨hH8.out.1, fun j hj => hH8.out.2 j hj⟩
                      have hC9 : Hid (∀ j, j < 64 → (wr.drewN nq).cell? ⟨qm, j, none⟩ = some (.int .u32 (num (f j)))) := fun j hj => HC8.out j hj
                      have hT9 : Hid (∀ i, i < 64 → (wr.drewN nq).cell? ⟨gt, i, none⟩ = some (.int .u32 (num (Sha.kf i)))) := fun i hi => htbw.out i hi
                      have hlm9 : qm < (wr.drewN nq).heap.size := hlm7
                      clear a0 a1 a2 a3 a4 a5 a6 a7 HBw hH8 HC8 htbw hlm7 hR7
                      generalize wr.drewN nq = W9 at *
                      rw [show ((64 : Nat) : Int) = (64 : Int) from rfl]
                      go_loopw [23, 22, 21, 20, 19, 18, 17, 16, 15] (fun x xh xg xf xe xd xc xb xa wr => ∃ i : Nat, i ≤ 64 ∧ x = .int .i64 i ∧ xa = .int .u32 (num (Sha.turns Sha.kf f i s0).a) ∧ xb = .int .u32 (num (Sha.turns Sha.kf f i s0).b) ∧ xc = .int .u32 (num (Sha.turns Sha.kf f i s0).c) ∧ xd = .int .u32 (num (Sha.turns Sha.kf f i s0).d) ∧ xe = .int .u32 (num (Sha.turns Sha.kf f i s0).e) ∧ xf = .int .u32 (num (Sha.turns Sha.kf f i s0).f) ∧ xg = .int .u32 (num (Sha.turns Sha.kf f i s0).g) ∧ xh = .int .u32 (num (Sha.turns Sha.kf f i s0).h) ∧ Below W9.heap.size W9 wr) (fun x _ _ _ _ _ _ _ _ _ => 64 - (intOf x).toNat)
                      case atStart => exact ⟨0, Nat.zero_le _, rfl, rfl, rfl, rfl, rfl, rfl, rfl, rfl, rfl, Below.refl _ _⟩
                      case round =>
                        obtain ⟨i, hi, rfl, rfl, rfl, rfl, rfl, rfl, rfl, rfl, rfl, hB10⟩ := hrel
                        have HB10 := Lib.hid hB10
                        clear hB10
                        by_cases hl64 : i < 64
                        · have gi := (HB10.out.cell (p := ⟨gt, i, none⟩) (show gt < _ by omega)).trans (hT9.out i hl64)
                          have fi := (HB10.out.cell (p := ⟨qm, i, none⟩) hlm9).trans (hC9.out i hl64)
                          have hu1 : Hid (Sha.turns Sha.kf f (i + 1) s0 = Sha.turn (Sha.turns Sha.kf f i s0) (Sha.kf i) (f i)) := rfl
                          generalize Sha.turns Sha.kf f i s0 = u at *
                          go_wp2_with fail
                          have gi1 : wr.drew.cell? ⟨gt, i, none⟩ = some (.int .u32 (num (Sha.kf i))) := gi
                          have fi1 : wr.drew.cell? ⟨qm, i, none⟩ = some (.int .u32 (num (f i))) := fi
                          have HB11 := Lib.hid HB10.out.drew
                          have hl2 : ((i : Nat) : Int) < 64 := by omega
                          clear gi fi HB10
                          refine wp_region_still_lit (by kernel_rfl) (by kernel_rfl) ?_
                          change wpStill _ _ wr.drew (fun a' => Exit.then _ _ .normal a' wr.drew) _ _
                          generalize wr.drew = V at *
                          repeat still_step
                          still_call ((right6 _ _).mono fun _ _ h => ⟨h.1, h.2.symm⟩)
                          repeat still_step
                          still_call ((right11 _ _).mono fun _ _ h => ⟨h.1, h.2.symm⟩)
                          repeat still_step
                          still_call ((right25 _ _).mono fun _ _ h => ⟨h.1, h.2.symm⟩)
                          repeat still_step
                          refine wpStill_nil ?_
                          rw [show (if IntKind.u32.signed = true then (-1 : Int) else IntKind.u32.max) = IntKind.u32.max from rfl, bits_notm, bits_and, bits_xor, num_add, num_add, num_add]
                          generalize hch : u.e &&& u.f ^^^ ~~~u.e &&& u.g = ch
                          generalize hy1 : u.h + (Sha.rr u.e 6 ^^^ Sha.rr u.e 11 ^^^ Sha.rr u.e 25) + ch + Sha.kf i + f i = y1
                          have hy1' := Lib.hid hy1
                          have hch' := Lib.hid hch
                          clear hy1 hch
                          go_wp2_with (first
                            | (go_at_call 82; with_reducible refine (right2 _ _).mono ?_; rintro e w' ⟨rfl, rfl⟩)
                            | (go_at_call 82; with_reducible refine (right13 _ _).mono ?_; rintro e w' ⟨rfl, rfl⟩)
                            | (go_at_call 82; with_reducible refine (right22 _ _).mono ?_; rintro e w' ⟨rfl, rfl⟩))
                          go_round
                          case rel =>
                            refine ⟨i + 1, by omega, by go_num, ?_, ?_, ?_, ?_, ?_, ?_, ?_, ?_, HB11.out⟩ <;> rw [hu1.out] <;> (first | rfl | (rw [← hy1'.out, ← hch'.out]; rfl))
                          case measure => simp only [intOf]; omega
                        · have hi64' : i = 64 := by omega
                          subst hi64'
                          have hcells : Hid (∀ j, j < 8 → (#[.int .u32 (num (Sha.turns Sha.kf f 64 s0).a), .int .u32 (num (Sha.turns Sha.kf f 64 s0).b), .int .u32 (num (Sha.turns Sha.kf f 64 s0).c), .int .u32 (num (Sha.turns Sha.kf f 64 s0).d), .int .u32 (num (Sha.turns Sha.kf f 64 s0).e), .int .u32 (num (Sha.turns Sha.kf f 64 s0).f), .int .u32 (num (Sha.turns Sha.kf f 64 s0).g), .int .u32 (num (Sha.turns Sha.kf f 64 s0).h)] : Array Value)[j]? = some (.int .u32 (num (vget (Sha.turns Sha.kf f 64 s0) j)))) := fun j hj => by
                            have : j = 0 ∨ j = 1 ∨ j = 2 ∨ j = 3 ∨ j = 4 ∨ j = 5 ∨ j = 6 ∨ j = 7 := by omega
                            rcases this with rfl | rfl | rfl | rfl | rfl | rfl | rfl | rfl <;> rfl
                          generalize Sha.turns Sha.kf f 64 s0 = u at *
                          have hB12 := hB9.out.trans (HB10.out.mono (by omega))
                          have hkq : wr.heap[qh]? = W9.heap[qh]? := HB10.out.block qh (by omega)
                          have hR12 : isRow wr qh 8 = true := (isRow_of hkq).trans hH9.out.1
                          have hC12 : ∀ j, j < 8 → wr.cell? ⟨qh, j, none⟩ = some (.int .u32 (num (vget s0 j))) := fun j hj => (World.cell?_of_block (a := ⟨qh, j, none⟩) hkq).trans (hH9.out.2 j hj)
                          have hlq12 := isRow_lt hR12
                          go_wp2_with fail
                          rw [show ((64 : Nat) : Int) = (64 : Int) from rfl]
                          have hx0 : ∀ o : Obj, Below qh W5 (wr.alloc o) := fun o => hB12.trans ((Below.refl _ _).alloc (by omega) o)
                          have hx1 : ∀ o : Obj, isRow (wr.alloc o) qh 8 = true := fun o => (isRow_old _ _ _ _ hlq12).trans hR12
                          have hx2 : ∀ o : Obj, ∀ j, j < 8 → (wr.alloc o).cell? ⟨qh, j, none⟩ = some (.int .u32 (num (vget s0 j))) := fun o j hj => ((Below.refl wr.heap.size wr).alloc (Nat.le_refl _) o).cell (p := ⟨qh, j, none⟩) hlq12 |>.trans (hC12 j hj)
                          have hx3 : ∀ (C : Array Value) (t : TypeId), (∀ j, j < 8 → C[j]? = some (.int .u32 (num (vget u j)))) → ∀ j, j < 8 → (wr.alloc (.cells C t)).cell? ⟨wr.heap.size, j, none⟩ = some (.int .u32 (num (vget u j))) := fun C t h j hj => by
                            rw [cell_of_row _ _ _ _ _ _ (heap_alloc_last wr _)]
                            exact h j hj
                          obtain ⟨W12, rfl⟩ : ∃ x, x = wr := ⟨_, rfl⟩
                          have hx4 := hx3 _ 126 hcells.out
                          have KX0 := Lib.hid hx0
                          have KX1 := Lib.hid hx1
                          have KX2 := Lib.hid hx2
                          have KX4 := Lib.hid hx4
                          clear hx0 hx1 hx2 hx3 hx4 hR12 hC12 hkq hB12
                          go_loopw [239] (fun x wr => ∃ j : Nat, j ≤ 8 ∧ x = .int .i64 j ∧ Below qh W5 wr ∧ isRow wr qh 8 = true ∧ (∀ j', j' < 8 → wr.cell? ⟨W12.heap.size, j', none⟩ = some (.int .u32 (num (vget u j')))) ∧ ∀ j', j' < 8 → wr.cell? ⟨qh, j', none⟩ = some (.int .u32 (num (if j' < j then vget s0 j' + vget u j' else vget s0 j')))) (fun x _ => 8 - (intOf x).toNat)
                          case atStart => exact ⟨0, Nat.zero_le _, rfl, KX0.out _, KX1.out _, KX4.out, fun j' hj' => by rw [if_neg (by omega)]; exact KX2.out _ j' hj'⟩
                          case round =>
                            obtain ⟨j, hj, rfl, hB13, hR13, hU13, hC13⟩ := hrel
                            have HB13 := Lib.hid hB13
                            have HU13 := Lib.hid hU13
                            have HC13 := Lib.hid hC13
                            clear hB13 hU13 hC13
                            by_cases hl8 : j < 8
                            · have e1 := HU13.out j hl8
                              have e2 := HC13.out j hl8
                              rw [if_neg (by omega)] at e2
                              have fz := frozen_row hR13 j
                              have s80 := st80 8
                              go_wp2_with fail
                              go_round
                              case rel =>
                                refine ⟨j + 1, by omega, by go_num, Below.setCell HB13.out (p := ⟨qh, j, none⟩) (Nat.le_refl _) _, isRow_setCell _ _ _ _ _ _ hR13, fun j' hj' => ?_, fun j' hj' => ?_⟩
                                · rw [World.cell?_of_block (Below.heap_setCell _ ⟨qh, j, none⟩ _ W12.heap.size (by show _ ≠ qh; omega))]
                                  exact HU13.out j' hj'
                                · by_cases h : j' = j
                                  · subst h
                                    rw [cell_setCell_here (n := 8) hR13 hj', if_pos (by omega)]
                                  · rw [cell_setCell_off _ _ _ _ _ h, HC13.out j' hj']
                                    by_cases h2 : j' < j
                                    · rw [if_pos h2, if_pos (by omega)]
                                    · rw [if_neg h2, if_neg (by omega)]
                              case measure => simp only [intOf]; omega
                            · have hj8 : j = 8 := by omega
                              subst hj8
                              have hkw : 64 * (k : Int) + 64 ≤ 9223372036854775807 := by unfold maxLen at hgm; omega
                              go_wp2_with fail
                              go_round
                              case rel =>
                                refine ⟨k + 1, by omega, by go_num, HB13.out, hR13, fun j' hj' => ?_⟩
                                rw [HC13.out j' hj', if_pos hj', hu.out]
                                have : j' = 0 ∨ j' = 1 ∨ j' = 2 ∨ j' = 3 ∨ j' = 4 ∨ j' = 5 ∨ j' = 6 ∨ j' = 7 := by omega
                                rcases this with rfl | rfl | rfl | rfl | rfl | rfl | rfl | rfl <;> rfl
                              case measure =>
                                show nb - (64 * (k : Int) + 64).toNat / 64 < nb - (64 * (k : Int)).toNat / 64
                                omega
            · have hke : k = nb := by omega
              subst hke
              have hlt2 : ¬ 64 * (k : Int) < 64 * (k : Int) := by omega
              have hfin : Hid (Sha.sum L = Sha.out (Sha.blocks P k Sha.start)) := by
                show Sha.out (Sha.blocks (Sha.padded L) ((Sha.padded L).length / 64) Sha.start) = _
                rw [← KP3.out, hPl.out, Nat.mul_div_cancel_left _ (by decide)]
              generalize Sha.blocks P k Sha.start = u at *
              have hR14 := Lib.hid ((isRow_of (HB.out.block w.heap.size hHq)).trans K5.out.row)
              have hB14 := Lib.hid (K5.out.below.trans (HB.out.mono (by omega)))
              have s24 := st24n
              go_wp2_with fail
              have hlq2 : qh < wr.heap.size := hlq
              have hHb : w.heap.size < wr.heap.size := by omega
              have hb0 : Below wr.heap.size wr (wr.alloc (.cells zero32b 107)) := (Below.refl _ _).alloc (Nat.le_refl _) _
              have hr0 : isRow (wr.alloc (.cells zero32b 107)) wr.heap.size 32 = true := isRow_new _ _ _ _ _ rfl zero32b_size
              have hc0 : ∀ j, j < 32 → (wr.alloc (.cells zero32b 107)).cell? ⟨wr.heap.size, j, none⟩ = some (.int .u8 0) := fun j hj => by
                rw [cell_of_row _ _ _ _ _ _ (heap_alloc_last wr _)]
                simp [zero32b, hj]
              obtain ⟨Wp, rfl⟩ : ∃ x, x = wr := ⟨_, rfl⟩
              generalize Wp.alloc (.cells zero32b 107) = Wq at *
              have kb0 := Lib.hid hb0
              have kr0 := Lib.hid hr0
              have kc0 := Lib.hid hc0
              clear hb0 hr0 hc0 hlt2
              go_loopw [253] (fun x wr => ∃ i : Nat, i ≤ 32 ∧ x = .int .i64 i ∧ Below Wp.heap.size Wq wr ∧ isRow wr Wp.heap.size 32 = true ∧ ∀ j, j < 32 → wr.cell? ⟨Wp.heap.size, j, none⟩ = some (.int .u8 (if j < i then (Sha.out u).getD j 0 else 0))) (fun x _ => 32 - (intOf x).toNat)
              case atStart => exact ⟨0, Nat.zero_le _, rfl, Below.refl _ _, kr0.out, fun j hj => by rw [if_neg (by omega)]; exact kc0.out j hj⟩
              case round =>
                obtain ⟨i, hi, rfl, hB9, hR9, hC9⟩ := hrel
                have HB9 := Lib.hid hB9
                have HC9 := Lib.hid hC9
                clear hB9 hC9
                by_cases hl32 : i < 32
                · have h4 : i / 4 < 8 := by omega
                  have hh := ((HB9.out.cell (p := ⟨qh, i / 4, none⟩) (show qh < _ by omega)).trans (kb0.out.cell (p := ⟨qh, i / 4, none⟩) (show qh < _ by omega))).trans (HC.out (i / 4) h4)
                  have ci := HC9.out i hl32
                  have fi := frozen_row hR9 i
                  have s5 := st5u
                  have hout : Hid ((Sha.out u).getD i 0 = num (vget u (i / 4)) / 2 ^ (24 - 8 * (i % 4)) % 256) := out_at u i hl32
                  go_wp2_with fail
                  go_round
                  case rel =>
                    refine ⟨i + 1, by omega, by go_num, Below.setCell HB9.out (p := ⟨Wp.heap.size, i, none⟩) (Nat.le_refl _) _, isRow_setCell _ _ _ _ _ _ hR9, fun j hj => ?_⟩
                    by_cases h : j = i
                    · subst h
                      rw [cell_setCell_here hR9 hj, if_pos (by omega), hout.out]
                    · rw [cell_setCell_off _ _ _ _ _ h, HC9.out j hj]
                      by_cases h2 : j < i
                      · rw [if_pos h2, if_pos (by omega)]
                      · rw [if_neg h2, if_neg (by omega)]
                  case measure => simp only [intOf]; omega
                · have hi32 : i = 32 := by omega
                  subst hi32
                  have q1 : hasRange wr Wp.heap.size 0 32 = true := has_row hR9 (by omega)
                  have q2 : Hid (∀ j, j < 32 → (rangeOf wr Wp.heap.size 0 32)[j]? = some (.int .u8 ((Sha.out u).getD j 0))) := fun j hj => by
                    rw [rangeOf_get hj (by rw [Nat.zero_add]; exact HC9.out j hj), if_pos hj]
                  have q4 := size_rangeOf wr Wp.heap.size 0 32
                  have q5 : ones (rangeOf wr Wp.heap.size 0 32) = true := ones_range (fun j hj => ⟨_, HC9.out j hj, rfl⟩)
                  have q3 : isRow wr w.heap.size 32 = true := (isRow_of ((HB9.out.block w.heap.size hHb).trans (kb0.out.block w.heap.size hHb))).trans hR14.out
                  have l24 := ld24s
                  have s24r := fun w b h => st24r w b (rangeOf wr Wp.heap.size 0 32) h q4 q5
                  go_wp2_with fail
                  have hres := range_setRow_all q3 _ q4
                  have hhas : hasRange (wr.setRow w.heap.size (rangeOf wr Wp.heap.size 0 32)) w.heap.size 0 32 = true := has_row (isRow_setRow _ _ _ _ q3 q4) (by omega)
                  refine bodyPost_ret (v := .agg (rangeOf wr Wp.heap.size 0 32)) (by simp [results, Tryd.results64, go_sem, l24, hres, hhas]) rfl ⟨_, rfl, ⟨q4, fun j hj => ?_⟩, below_setRow (hB14.out.trans ((kb0.out.trans HB9.out).mono (by omega))) (Nat.le_refl _) _⟩
                  rw [hfin.out]
                  exact q2.out j hj
end Go.Proofs.YtbapkamopelgpaaDoor
