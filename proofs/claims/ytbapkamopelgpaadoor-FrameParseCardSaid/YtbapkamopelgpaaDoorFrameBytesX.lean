/- Frames: the reference's Bad, Num, Laid. Frames: the reference's Laid. -/
import Derived.Test.YtbapkamopelgpaaDoorFrameBytesW
namespace Go.Proofs.YtbapkamopelgpaaDoor
open Go.RowKit Go.Stop Go.Extern Go.Ranges Go.Rows2
set_option linter.unusedVariables false
set_option linter.unusedSimpArgs false
set_option maxRecDepth 100000
set_option maxHeartbeats 4000000 in
theorem refBad_any (F : Frm) (B : Option Addr) (cb : Nat) (w : World) (hL : F.body.length ≤ maxLen) :
    Calls Tryd.prog 33 #[.agg (frA F B cb)] w fun e w' => e = .returned (.int .i64 (frC F)) ∧ Below w.heap.size w w' := by
  have K1 := Lib.hid fun W => refWho_any F.f W
  have K2 := Lib.hid fun W => refWho_any F.t W
  unfold maxLen at hL
  unfold frC endC frA
  obtain ⟨k, f, t, body⟩ := F
  simp only at *
  by_cases hk : k < 0
  · have hd : decide (k < 0) = true := by simpa using hk
    rw [if_pos (.inl hk)]
    clear hk
    go_enter Tryd.func33, Tryd.ntmps33
    go_wp2_with fail
    go_ret
    exact ⟨rfl, alloc_below _ _⟩
  · have hd : decide (k < 0) = false := by simpa using hk
    by_cases hk2 : 255 < k
    · have hd2 : decide (255 < k) = true := by simpa using hk2
      rw [if_pos (.inr hk2)]
      clear hk hk2
      go_enter Tryd.func33, Tryd.ntmps33
      go_wp2_with fail
      go_ret
      exact ⟨rfl, alloc_below _ _⟩
    · have hd2 : decide (255 < k) = false := by simpa using hk2
      rw [if_neg (by omega)]
      clear hk hk2
      cases hf : whoB f with
      | false =>
        rw [hf] at K1
        rw [if_pos (.inl rfl)]
        clear hf K2
        go_enter Tryd.func33, Tryd.ntmps33
        go_wp2_with fail
        refine (K1.out _).mono ?_
        rintro e w1 ⟨rfl, rfl⟩
        go_wp2_with fail
        go_ret
        exact ⟨rfl, alloc_below _ _⟩
      | true =>
        rw [hf] at K1
        cases ht : whoB t with
        | false =>
          rw [ht] at K2
          rw [if_pos (.inr rfl)]
          clear hf ht
          go_enter Tryd.func33, Tryd.ntmps33
          go_wp2_with fail
          refine (K1.out _).mono ?_
          rintro e w1 ⟨rfl, rfl⟩
          go_wp2_with fail
          refine (K2.out _).mono ?_
          rintro e w1 ⟨rfl, rfl⟩
          go_wp2_with fail
          go_ret
          exact ⟨rfl, alloc_below _ _⟩
        | true =>
          rw [ht] at K2
          clear hf ht
          rw [if_neg (by decide)]
          by_cases hb : 3000 < body.length
          · have hd3 : decide ((3000 : Int) < (body.length : Int)) = true := by simp; omega
            rw [if_pos hb]
            go_enter Tryd.func33, Tryd.ntmps33
            go_wp2_with fail
            refine (K1.out _).mono ?_
            rintro e w1 ⟨rfl, rfl⟩
            go_wp2_with fail
            refine (K2.out _).mono ?_
            rintro e w1 ⟨rfl, rfl⟩
            go_wp2_with fail
            go_ret
            exact ⟨rfl, alloc_below _ _⟩
          · have hd3 : decide ((3000 : Int) < (body.length : Int)) = false := by simp; omega
            rw [if_neg hb]
            go_enter Tryd.func33, Tryd.ntmps33
            go_wp2_with fail
            refine (K1.out _).mono ?_
            rintro e w1 ⟨rfl, rfl⟩
            go_wp2_with fail
            refine (K2.out _).mono ?_
            rintro e w1 ⟨rfl, rfl⟩
            go_wp2_with fail
            go_ret
            exact ⟨rfl, alloc_below _ _⟩
set_option maxHeartbeats 4000000 in
theorem num02_two (n : Int) (w : World) (h0 : 0 ≤ n) (h1 : n ≤ 65535) : Calls Tryd.prog 63 #[.int .i64 n, .int .i64 2] w fun e w' => e = .returned (.slice (some ⟨w.heap.size, 0, none⟩) 2 2) ∧ w' = w.alloc (.cells #[.int .u8 (n / 256 % 256), .int .u8 (n % 256)] 5) := by
  have hmk : ∀ w, (Instr.makeSlice 22 (.int .i64 2) (.int .i64 2)).run Tryd.prog w = .ok (.slice (some ⟨w.heap.size, 0, none⟩) 2 2) (w.alloc (.cells #[.int .u8 0, .int .u8 0] 5)) := fun _ => by kernel_rfl
  have e1 : IntKind.u8.wrap (n % 256) = n % 256 := by show n % 256 % 2 ^ 8 = n % 256; omega
  have e2 : IntKind.u8.wrap (n / 256 % 256) = n / 256 % 256 := by show n / 256 % 256 % 2 ^ 8 = n / 256 % 256; omega
  go_enter Tryd.func63, Tryd.ntmps63
  go_wp2_with fail
  refine wp_loop_rounds 3 ?_
  rw [rounds_succ]
  go_wp2_with fail
  rw [rounds_succ]
  go_wp2_with fail
  rw [rounds_succ]
  go_wp2_with fail
  go_ret
  exact ⟨rfl, rfl⟩
end Go.Proofs.YtbapkamopelgpaaDoor

namespace Go.Proofs.YtbapkamopelgpaaDoor
open Go.RowKit Go.Stop Go.Extern Go.Ranges Go.Rows2
set_option linter.unusedVariables false
set_option linter.unusedSimpArgs false
set_option maxRecDepth 100000
attribute [-go_sem] loadVar storeVar
attribute [local go_sem] loadVar_one storeVar_one zero32b_lit zero32b_size
attribute [local go_sem] World.setRow_alloc_new
theorem oc1 (k : Int) (h0 : 0 ≤ k) (h1 : k ≤ 255) : ocB 98 k [] = [k] := by
  unfold ocB
  rw [if_pos (by decide)]
  show ocNum 1 k = [k]
  rw [ocNum_succ]
  show [] ++ [k % 256] = [k]
  rw [List.nil_append, Int.emod_eq_of_lt h0 (by omega)]
theorem frBase_eq (F : Frm) (hk : 0 ≤ F.k ∧ F.k ≤ 255) (hf : 0 ≤ F.f ∧ F.f ≤ 255) (ht : 0 ≤ F.t ∧ F.t ≤ 255) : frBase F = (([99, 97, 114, 116] ++ [F.k, F.f, F.t]) ++ ocNum 2 (F.body.length : Int)) ++ F.body := by
  have e : ocAll frS.data.toList (frN F) (frF F) 4 = (((([] ++ ocB 98 F.k []) ++ ocB 98 F.f []) ++ ocB 98 F.t []) ++ ocB 116 0 F.body) := rfl
  unfold frBase
  rw [e, oc1 _ hk.1 hk.2, oc1 _ hf.1 hf.2, oc1 _ ht.1 ht.2, show ocB 116 0 F.body = ocNum 2 (F.body.length : Int) ++ F.body from rfl]
  simp
theorem num02_below (n : Int) (w : World) (h0 : 0 ≤ n) (h1 : n ≤ 65535) : Calls Tryd.prog 63 #[.int .i64 n, .int .i64 2] w fun e w' => ∃ g, e = .returned (.slice (some ⟨g, 0, none⟩) 2 2) ∧ Lib.BytesIn w' (some ⟨g, 0, none⟩) 2 (ocNum 2 n) ∧ Below w.heap.size w w' := by
  refine (num02_two n w h0 h1).mono ?_
  rintro e w' ⟨rfl, rfl⟩
  refine ⟨w.heap.size, rfl, fun _ => ⟨w.heap.size, 0, rfl, fun i hi => ?_⟩, alloc_below _ _⟩
  rw [cell_of_row _ _ _ _ _ _ (heap_alloc_last w _), Nat.zero_add]
  have e : ocNum 2 n = [n / 256 % 256, n % 256] := by
    rw [ocNum_succ, ocNum_succ]
    rfl
  rw [e]
  have : i = 0 ∨ i = 1 := by omega
  rcases this with rfl | rfl <;> rfl
theorem keepQ1 {w W W' : World} {v0 : Value} (h : W.cell? ⟨w.heap.size, 3, none⟩ = some v0 ∧ Below w.heap.size w W) (hb : Below W.heap.size W W') : W'.cell? ⟨w.heap.size, 3, none⟩ = some v0 ∧ Below w.heap.size w W' :=
  ⟨(hb.cell (p := ⟨w.heap.size, 3, none⟩) (World.block_lt_of_cell? _ _ h.1)).trans h.1, stepV h.2 hb⟩
theorem keepQ2 {w W W' : World} {v0 : Value} {row : Option Nat} (h : W.cell? ⟨w.heap.size, 3, none⟩ = some v0 ∧ Below w.heap.size w W) (hg : W.grownBy W' row) (hr : ∀ k, row = some k → w.heap.size < k) : W'.cell? ⟨w.heap.size, 3, none⟩ = some v0 ∧ Below w.heap.size w W' :=
  ⟨(hg.cell_far ⟨w.heap.size, 3, none⟩ (World.block_lt_of_cell? _ _ h.1) (fun e => by have := hr _ e.symm; exact absurd this (Nat.lt_irrefl _))).trans h.1, h.2.grown hg h.2.size (fun k hk => Nat.le_of_lt (hr k hk))⟩
set_option maxHeartbeats 8000000 in
theorem refLaid_any (F : Frm) (B : Option Addr) (cb : Nat) (w : World) (hk : 0 ≤ F.k ∧ F.k ≤ 255) (hf : 0 ≤ F.f ∧ F.f ≤ 255) (ht : 0 ≤ F.t ∧ F.t ≤ 255) (hB : Lib.BytesIn w B F.body.length F.body) (hb : ∀ x ∈ F.body, isByte x) (hL : F.body.length ≤ 65535) :
    Calls Tryd.prog 34 #[.agg (frA F B cb)] w fun e w' => ∃ A c, e = .returned (.slice A (frB F).length c) ∧ w'.ownsRow w.heap.size 5 1 (.slice A (frB F).length c) (frB F).length (bV (frB F)) ∧ Below w.heap.size w w' := by
  obtain ⟨it, j1, j2, j3, j4⟩ := of_row1 row5
  have hE := frBase_eq F hk hf ht
  have wk : IntKind.u8.wrap F.k = F.k := by show F.k % 2 ^ 8 = F.k; omega
  have wf : IntKind.u8.wrap F.f = F.f := by show F.f % 2 ^ 8 = F.f; omega
  have wt : IntKind.u8.wrap F.t = F.t := by show F.t % 2 ^ 8 = F.t; omega
  have b0 := alloc_below w (.cells #[.int .i64 F.k, .int .i64 F.f, .int .i64 F.t, .slice B F.body.length cb] 59)
  have hrow0 := heap_alloc_last w (.cells #[.int .i64 F.k, .int .i64 F.f, .int .i64 F.t, .slice B F.body.length cb] 59)
  have hz1 : (w.alloc (.cells #[.int .i64 F.k, .int .i64 F.f, .int .i64 F.t, .slice B F.body.length cb] 59)).heap.size = w.heap.size + 1 := by simp
  have kc := Lib.run_convert_bytes_const (P := Tryd.prog) (w.alloc (.cells #[.int .i64 F.k, .int .i64 F.f, .int .i64 F.t, .slice B F.body.length cb] 59)) 22 5 #[.int .u8 99, .int .u8 97, .int .u8 114, .int .u8 116] 4 4 Tryd.underlying22 Tryd.underlying5
  rw [hz1] at kc
  have bm := alloc_below (w.alloc (.cells #[.int .i64 F.k, .int .i64 F.f, .int .i64 F.t, .slice B F.body.length cb] 59)) (.cells #[.int .u8 99, .int .u8 97, .int .u8 114, .int .u8 116] 5 (4, 5))
  have hm4 := cell_of_marked (w.alloc (.cells #[.int .i64 F.k, .int .i64 F.f, .int .i64 F.t, .slice B F.body.length cb] 59)) #[.int .u8 99, .int .u8 97, .int .u8 114, .int .u8 116] 5
  rw [hz1] at hm4
  have hz2 : ((w.alloc (.cells #[.int .i64 F.k, .int .i64 F.f, .int .i64 F.t, .slice B F.body.length cb] 59)).alloc (.cells #[.int .u8 99, .int .u8 97, .int .u8 114, .int .u8 116] 5 (4, 5))).heap.size = w.heap.size + 1 + 1 := by simp
  have B2 := stepV b0 bm
  have hrow2 := (bm.block _ (Array.getElem?_eq_some_iff.1 hrow0).1).trans hrow0
  have b3 := alloc_below ((w.alloc (.cells #[.int .i64 F.k, .int .i64 F.f, .int .i64 F.t, .slice B F.body.length cb] 59)).alloc (.cells #[.int .u8 99, .int .u8 97, .int .u8 114, .int .u8 116] 5 (4, 5))) (.cells #[.int .u8 F.k, .int .u8 F.f, .int .u8 F.t] 5)
  have hrow3 := (b3.block _ (Array.getElem?_eq_some_iff.1 hrow2).1).trans hrow2
  have hn3 := World.news_of_block (heap_alloc_last ((w.alloc (.cells #[.int .i64 F.k, .int .i64 F.f, .int .i64 F.t, .slice B F.body.length cb] 59)).alloc (.cells #[.int .u8 99, .int .u8 97, .int .u8 114, .int .u8 116] 5 (4, 5))) (.cells #[.int .u8 F.k, .int .u8 F.f, .int .u8 F.t] 5))
  have B3 := stepV B2 b3
  have hm5 : ∀ j u, (bV [99, 97, 114, 116])[j]? = some u → (((w.alloc (.cells #[.int .i64 F.k, .int .i64 F.f, .int .i64 F.t, .slice B F.body.length cb] 59)).alloc (.cells #[.int .u8 99, .int .u8 97, .int .u8 114, .int .u8 116] 5 (4, 5))).alloc (.cells #[.int .u8 F.k, .int .u8 F.f, .int .u8 F.t] 5)).cell? ((⟨w.heap.size + 1, 0, none⟩ : Addr).add j) = some u := fun j u hu => by
    obtain ⟨hj, rfl⟩ := bV_get hu
    rw [Go.WideShapes.add_plain, Nat.zero_add]
    refine (b3.cell (p := ⟨w.heap.size + 1, j, none⟩) (by rw [hz2]; show w.heap.size + 1 < _; omega)).trans ?_
    rw [hm4 j (4, 5), ← Array.getElem?_toList]
    exact hu
  rw [hz2] at hn3
  obtain ⟨v4, w4, hr4, ho4, hg4⟩ := run_append_arg_grows (P := Tryd.prog) (((w.alloc (.cells #[.int .i64 F.k, .int .i64 F.f, .int .i64 F.t, .slice B F.body.length cb] 59)).alloc (.cells #[.int .u8 99, .int .u8 97, .int .u8 114, .int .u8 116] 5 (4, 5))).alloc (.cells #[.int .u8 F.k, .int .u8 F.f, .int .u8 F.t] 5)) 22 22 5 it (.int .u8 0) 1 1 Tryd.underlying22 j1 j2 j3 j4 rfl (by decide)
    ⟨w.heap.size + 1, 0, none⟩ 4 4 (bV [99, 97, 114, 116]) rfl hm5 ⟨w.heap.size + 1 + 1, 0, none⟩ 3 3 (bV [F.k, F.f, F.t]) rfl hn3 (by omega) (by decide) (by decide)
  rw [← bV_append] at ho4
  have B4 : Below w.heap.size w w4 := B3.grown hg4 B3.size (fun k hk => by cases hk)
  have hrow4 : w4.heap[w.heap.size]? = _ := (hg4.block _ (Array.getElem?_eq_some_iff.1 hrow3).1 (by simp)).trans hrow3
  have hc4 : w4.cell? ⟨w.heap.size, 3, none⟩ = some (.slice B F.body.length cb) := (cell_of_row _ _ _ _ _ _ hrow4).trans rfl
  have hlt4 : w.heap.size < w4.heap.size := (Array.getElem?_eq_some_iff.1 hrow4).1
  have hbase1 : w.heap.size + 1 ≤ (((w.alloc (.cells #[.int .i64 F.k, .int .i64 F.f, .int .i64 F.t, .slice B F.body.length cb] 59)).alloc (.cells #[.int .u8 99, .int .u8 97, .int .u8 114, .int .u8 116] 5 (4, 5))).alloc (.cells #[.int .u8 F.k, .int .u8 F.f, .int .u8 F.t] 5)).heap.size := Nat.le_trans (by rw [hz2]; omega) b3.size
  obtain ⟨A4, c4, hv4⟩ := own_slice ho4
  subst hv4
  have HBh := Lib.hid hB
  have HOh := Lib.hid hb
  have HE := Lib.hid hE
  have ho4' := own_mono (show w.heap.size + 1 ≤ _ from hbase1) ho4
  have HO4 := Lib.hid ho4'
  have HQ4 := Lib.hid (And.intro hc4 B4)
  have hrow4' : ∀ k, (Value.slice A4 (4 + 3) c4).ownBlock = some k → w.heap.size < k := fun k hk => (ho4'.lt k hk).1
  have HRW := Lib.hid hrow4'
  have hK := Lib.hid fun (W : World) => num02_below (F.body.length : Int) W (by omega) (by omega)
  have hAll : Below w4.heap.size w4 w4.drew := (Below.refl _ _).drew
  clear hB hb hE ho4 ho4' B4 hc4 hrow4 hrow3 hrow2 hrow0 hm5 hn3 hm4 hbase1 hg4 B3 b3 B2 bm b0 hz2 hz1 hrow4'
  unfold frA
  go_enter Tryd.func34, Tryd.ntmps34
  go_wp2_with (at_builtin; go_loud (refine Lib.wpList_append_run _ rfl (.tmp 6) (.tmp 16) 22 22 rfl _ _ rfl rfl _ _ hr4 ?_))
  clear hr4 kc
  go_region_held3 (fun W => W.cell? ⟨w.heap.size, 3, none⟩ = some (.slice B F.body.length cb) ∧ Below w.heap.size w W)
    (first
      | exact hQ7.out
      | exact hQ6.out
      | exact hQ5.out
      | exact keepQ1 HQ4.out hAll
      | exact HQ4.out
      | assumption
      | fail "")
    (first
      | (go_at_call 63; refine (hK.out _).mono ?_; rintro e w5 ⟨g5, rfl, hN5, hb5⟩; have hQ5 := Lib.hid (keepQ1 HQ4.out (stepV hAll hb5)))
      | (obtain ⟨v6, w6, hr6, ho6, hg6⟩ := app_bytes (own_keep (own_keep HO4.out hAll) hb5) (some ⟨g5, 0, none⟩) 2 2 (ocNum 2 (F.body.length : Int)) rfl hN5 (Nat.lt_of_lt_of_le (World.block_lt_of_cell? _ _ HQ4.out.1) (stepV hAll hb5).size) (by decide)
         have hQ6 := Lib.hid (keepQ2 hQ5.out hg6 HRW.out)
         refine step_append_run (by rfl) (.tmp 18) (.tmp 22) 22 22 (by rfl) _ _ (by rfl) (by rfl) hr6 ?_)
      | (obtain ⟨v7, w7, hr7, ho7, hg7⟩ := app_bytes ho6 B F.body.length cb F.body rfl (bytesIn_below' HBh.out hQ6.out.2) (World.block_lt_of_cell? _ _ hQ6.out.1) (by omega)
         have hQ7 := Lib.hid (keepQ2 hQ6.out hg7 (fun k hk => (ho6.lt k hk).1))
         refine step_append_run (by rfl) (.tmp 23) (.tmp 25) 22 22 (by rfl) _ _ (by rfl) (by rfl) hr7 ?_)
      | fail "")
  rw [← HE.out] at ho7
  have hl7 := own_len ho7
  generalize hn7 : 4 + 3 + 2 + F.body.length = n7 at *
  have hn7' : n7 ≤ 70000 := by omega
  obtain ⟨A7, c7, hv7⟩ := own_slice ho7
  subst hv7
  have hfl : (frB F).length = n7 + 4 := by
    unfold frB
    rw [List.length_append, hl7, four_sum]
  have hbb : ∀ x ∈ frBase F, isByte x := frF_byte HOh.out
  have HS := Lib.hid (refSum_any A7 n7 c7 (frBase F) w7 hl7 (own_bytes ho7) hbb (by omega))
  have HO7 := Lib.hid ho7
  have HFL := Lib.hid hfl
  clear ho7 hg7 hr7 ho6 hg6 hr6 hQ6 hQ5 hN5 hb5 hK hAll HO4 HQ4 HRW hl7 hfl hbb hn7
  go_wp2_with fail
  refine HS.out.mono ?_
  rintro e w8 ⟨D, rfl, hD, hb8⟩
  have s24 := fun (W : World) (b : Nat) (h : isRow W b 32 = true) => st24r W b D h hD.size (oid_ones hD)
  have hdz := hD.size
  have hl4 : ((Sha.sum (frBase F)).take 4).length = 4 := four_sum _
  have hB4 := oid_four (w1 := w8) hD 107 (sum_len _)
  have hb9 : Below w7.heap.size w7 (w8.alloc (.cells D 107)) := stepV hb8 (alloc_below _ _)
  obtain ⟨v9, w9, hr9, ho9, hg9⟩ := app_bytes (own_keep HO7.out hb9) (some ⟨w8.heap.size, 0, none⟩) 4 32 ((Sha.sum (frBase F)).take 4) hl4 (by rw [hl4] at hB4; exact hB4) (Nat.le_trans (World.block_lt_of_cell? _ _ hQ7.out.1) hb9.size) (by omega)
  have HB9 := Lib.hid ((stepV hQ7.out.2 hb9).grown hg9 (stepV hQ7.out.2 hb9).size (fun k hk => Nat.le_of_lt (HO7.out.lt k hk).1))
  have HO9 := Lib.hid ho9
  clear hD hb8 hB4 hb9 ho9 hg9 hl4 HS HO7
  go_wp2_with (at_builtin; go_loud (refine Lib.wpList_append_run _ rfl (.tmp 29) (.tmp 30) 22 22 rfl _ _ rfl rfl _ _ hr9 ?_))
  obtain ⟨A9, c9, hv⟩ := own_slice HO9.out
  subst hv
  go_ret
  refine ⟨A9, c9, by rw [HFL.out]; rfl, ?_, HB9.out⟩
  rw [HFL.out]
  exact own_mono (Nat.le_succ _) HO9.out
end Go.Proofs.YtbapkamopelgpaaDoor
