/- The reference's net: Move. -/
import Derived.Test.YtdglpbjofdipkaaDoorRefC
namespace Go.Proofs.YtdglpbjofdipkaaDoor
open Go.RowKit Go.Stop Go.Extern Go.Ranges Go.Rows2 Go.Sort Go.BigFrame
set_option linter.unusedVariables false
set_option linter.unusedSimpArgs false
set_option maxRecDepth 20000
set_option maxRecDepth 20000 in
theorem refMove_no {w : World} {base q : Nat} {S : NS} {v : Value} {xs : List Value} (h : RefV w base q S v xs) (i tt : Int) (hi : (i < 0 ∨ (S.L.length : Int) ≤ i) ∨ (tt < 0 ∨ (S.L.length : Int) ≤ tt)) :
    Calls Tryd.prog 60 #[.pointer (some ⟨q, 0, none⟩), .int .i64 i, .int .i64 tt] w fun e w' => e = .returned (.int .i64 21) ∧ w = w' := by
  by_cases h1 : i < 0 ∨ (S.L.length : Int) ≤ i
  · have HA := Lib.hid (has_any h i false (by symm; exact decide_eq_false (by omega)))
    clear h hi h1
    go_enter Tryd.func60, Tryd.ntmps60
    go_wp2_with (go_at_call 83; (with_reducible refine HA.out.mono ?_); rintro e w1 ⟨rfl, rfl⟩)
    go_ret
    exact ⟨rfl, rfl⟩
  · have h2 : tt < 0 ∨ (S.L.length : Int) ≤ tt := by omega
    have HA := Lib.hid (has_any h i true (by symm; exact decide_eq_true (by omega)))
    have HB := Lib.hid (has_any h tt false (by symm; exact decide_eq_false (by omega)))
    clear h hi h1 h2
    go_enter Tryd.func60, Tryd.ntmps60
    go_wp2_with fail
    refine HA.out.mono ?_
    rintro e w1 ⟨rfl, rfl⟩
    go_wp2_with fail
    refine HB.out.mono ?_
    rintro e w1 ⟨rfl, rfl⟩
    go_wp2_with fail
    go_ret
    exact ⟨rfl, rfl⟩
theorem rowNew_trans {a b : World} {v v1 v2 : Value} (h1 : rowNew a v v1) (h2 : rowNew b v1 v2) (hs : a.heap.size ≤ b.heap.size) : rowNew a v v2 := by
  rcases h2 with h | h
  · rcases h1 with h' | h'
    · exact .inl (h.trans h')
    · exact .inr (fun k hk => h' k (h ▸ hk))
  · exact .inr (fun k hk => Nat.le_trans hs (h k hk))
theorem slice_to {w1 : World} {base : Nat} {A : Option Addr} {n c : Nat} {xs : List Value} (h : w1.ownsRow base 55 1 (.slice A n c) n xs) (k : Nat) (hk : k ≤ n) (W : World) : (Instr.slice 74 (.slice A n c) none (some (.int .i64 k)) none).run Tryd.prog W = .ok (.slice A k c) W := by
  rcases h.2 with ⟨hv, h0⟩ | ⟨g, cap, cur, hv, _, _, h1, h2, _⟩
  · injection hv with e1 e2 e3
    subst e1; subst e2; subst e3
    obtain rfl : k = 0 := by omega
    kernel_rfl
  · injection hv with e1 e2 e3
    subst e1; subst e3
    have hkc : (k : Int) ≤ (c : Int) := by omega
    have hc : (c : Int) ≤ 9223372036854775807 := by unfold maxLen at h2; omega
    obtain ⟨it, j1, j2, j3, j4⟩ := of_row1 row55
    have h3 : k ≤ c := by omega
    simp [Instr.slice, Instr.sliceBounds, Instr.sliceBound, asIntOf, go_sem, run_underlying Tryd.underlying74, hkc, h3, j1, j3, Go.sizeOf, typeInfo]
theorem slice_from {w1 : World} {base : Nat} {A : Option Addr} {n c : Nat} {xs : List Value} (h : w1.ownsRow base 55 1 (.slice A n c) n xs) (k : Nat) (hk : k ≤ n) : ∃ Ad : Option Addr, (∀ W, (Instr.slice 74 (.slice A n c) (some (.int .i64 k)) none none).run Tryd.prog W = .ok (.slice Ad (n - k) (c - k)) W) ∧ (0 < n - k → ∃ g, A = some ⟨g, 0, none⟩ ∧ Ad = some ⟨g, k, none⟩) := by
  rcases h.2 with ⟨hv, h0⟩ | ⟨g, cap, cur, hv, _, _, h1, h2, _⟩
  · injection hv with e1 e2 e3
    subst e1; subst e2; subst e3
    obtain rfl : k = 0 := by omega
    exact ⟨none, fun W => by kernel_rfl, fun h => by omega⟩
  · injection hv with e1 e2 e3
    subst e1; subst e3
    have hkc : (k : Int) ≤ (n : Int) := by omega
    have hc : (c : Int) ≤ 9223372036854775807 := by unfold maxLen at h2; omega
    obtain ⟨it, j1, j2, j3, j4⟩ := of_row1 row55
    have h3 : k ≤ n := by omega
    have h4 : n ≤ c := h1
    refine ⟨if c = k then some ⟨g, 0, none⟩ else some ⟨g, k, none⟩, fun W => ?_, fun h => ⟨g, rfl, by rw [if_neg (by omega)]⟩⟩
    by_cases hck : c = k
    · subst hck
      simp [Instr.slice, Instr.sliceBounds, Instr.sliceBound, asIntOf, go_sem, run_underlying Tryd.underlying74, hkc, h3, h4, j1, j3, Go.sizeOf, typeInfo]
    · have h5 : ¬ (c - k = 0) := by omega
      simp [Instr.slice, Instr.sliceBounds, Instr.sliceBound, asIntOf, go_sem, run_underlying Tryd.underlying74, hkc, h3, h4, hck, h5, j1, j3, Go.sizeOf, typeInfo]
set_option maxRecDepth 20000 in
set_option maxHeartbeats 8000000 in
theorem refMove_ok {w : World} {base q : Nat} {S : NS} {v : Value} {xs : List Value} (h : RefV w base q S v xs) (i tt : Nat) (hi : i < S.L.length) (htt : tt < S.L.length) (hL : S.L.length ≤ 1000) :
    Calls Tryd.prog 60 #[.pointer (some ⟨q, 0, none⟩), .int .i64 i, .int .i64 tt] w (RefEnd w base q (.int .i64 0) { S with L := moved S.L i tt } v) := by
  have HA := Lib.hid (has_any h i true (by symm; exact decide_eq_true (by omega)))
  have HB := Lib.hid (has_any h tt true (by symm; exact decide_eq_true (by omega)))
  obtain ⟨t, ht⟩ : ∃ t, t = S.L.getD i [] := ⟨_, rfl⟩
  have ho := refOut_ok h i hi hL
  rw [← ht] at ho
  have HO := Lib.hid ho
  have Ht := Lib.hid ht
  have hl : (S.L.eraseIdx i).length = S.L.length - 1 := by rw [List.length_eraseIdx, if_pos hi]
  have Hl := Lib.hid hl
  have HH := Lib.hid h
  clear h ho ht hl
  go_enter Tryd.func60, Tryd.ntmps60
  go_wp2_with fail
  refine HA.out.mono ?_
  rintro e w1 ⟨rfl, rfl⟩
  go_wp2_with fail
  refine HB.out.mono ?_
  rintro e w1 ⟨rfl, rfl⟩
  go_wp2_with fail
  refine HO.out.mono ?_
  rintro e w1 ⟨x, v', xs', rfl, hx, hR, hC, hrn⟩
  obtain ⟨Ax, cx, rfl⟩ := hx.form
  have hlen : xs'.length = S.L.length - 1 := by rw [← Hl.out]; exact hR.len
  have ho' : w1.ownsRow base 55 1 v' (S.L.length - 1) xs' := by
    have h9 : w1.ownsRow base 55 1 v' (S.L.eraseIdx i).length xs' := hR.own
    rw [Hl.out] at h9
    exact h9
  obtain ⟨Av, cv, rfl⟩ := own_slice ho'
  have ca := own_cells ho'
  -- the first part
  obtain ⟨v1, w2, hr1, ho1, hg1⟩ := app_texts (own_none w1 w1.heap.size (Nat.le_refl _)) Av tt cv (xs'.take tt) (by rw [List.length_take, hlen]; omega) (fun h0 => by
    obtain ⟨b, o, rfl, hcl⟩ := ca (by omega)
    refine ⟨b, o, rfl, fun j u hu => ?_⟩
    have hj : j < tt := by have := (List.getElem?_eq_some_iff.1 hu).1; rw [List.length_take] at this; omega
    rw [List.getElem?_take_of_lt hj] at hu
    have h9 := hcl j u hu
    rw [(alloc_below w1 (.cells #[] 55)).cell (p := ⟨b, o + j, none⟩) (World.block_lt_of_cell? w1 _ h9)]
    exact h9) (fun u hu => hR.one u (List.mem_of_mem_take hu)) (by simp) (by omega)
  rw [Nat.zero_add, List.nil_append] at ho1
  have hb1 : Below w1.heap.size w1 w2 := (alloc_below w1 _).grown hg1 (by simp) (fun k hk => by injection hk with hk; have e : w1.heap.size = k := hk; omega)
  -- the text
  have hb1a : Below w1.heap.size w1 (w2.alloc (.cells #[.slice Ax t.length cx] 55)) := hb1.alloc hb1.size _
  obtain ⟨v2, w3, hr2, ho2, hg2⟩ := app_texts (ho1.alloc (.cells #[.slice Ax t.length cx] 55)) (some ⟨w2.heap.size, 0, none⟩) 1 1 [.slice Ax t.length cx] rfl (fun _ => ⟨_, 0, rfl, fun j u hu => by
    have h9 := one_new w2 (.slice Ax t.length cx) 55 j u hu
    rw [Addr.add_mid] at h9
    exact h9⟩) (fun u hu => by simp at hu; subst hu; rfl) (by have := hb1.size; simp; omega) (by omega)
  have hb2 : Below w1.heap.size w1 w3 := hb1a.grown hg2 hb1a.size (fun k hk => (ho1.lt k hk).1)
  -- the rest
  have hs1 := slice_to ho' tt (by omega)
  obtain ⟨Ad, hs2, hAd⟩ := slice_from ho' tt (by omega)
  have hsrc : 0 < S.L.length - 1 - tt → ∃ b o, Ad = some ⟨b, o, none⟩ ∧ ∀ j u, (xs'.drop tt)[j]? = some u → w3.cell? ⟨b, o + j, none⟩ = some u := fun h0 => by
    obtain ⟨g, hg, hd⟩ := hAd h0
    obtain ⟨b, o, hbo, hcl⟩ := ca (by omega)
    rw [hg] at hbo
    injection hbo with hbo; injection hbo with e1 e2; subst e1; subst e2
    refine ⟨g, tt, hd, fun j u hu => ?_⟩
    rw [List.getElem?_drop] at hu
    have h9 := hcl (tt + j) u hu
    rw [Nat.zero_add] at h9
    rw [hb2.cell (p := ⟨g, tt + j, none⟩) (World.block_lt_of_cell? w1 _ h9)]
    exact h9
  obtain ⟨v3, w4, hr3, ho3, hg3⟩ := app_texts ho2 Ad (S.L.length - 1 - tt) (cv - tt) (xs'.drop tt) (by rw [List.length_drop, hlen]) hsrc (fun u hu => hR.one u (List.mem_of_mem_drop hu)) hb2.size (by omega)
  have hb3 : Below w1.heap.size w1 w4 := hb2.grown hg3 hb2.size (fun k hk => (ho2.lt k hk).1)
  have hml : (moved S.L i tt).length = S.L.length := moved_len hi htt
  have hmv : moved S.L i tt = (S.L.eraseIdx i).take tt ++ t :: (S.L.eraseIdx i).drop tt := by unfold moved; rw [Ht.out]
  have hRR := hR.relay (v' := v3) (xs' := xs'.take tt ++ .slice Ax t.length cx :: xs'.drop tt) (L' := moved S.L i tt) hb3 (by
    rw [hml]
    have h9 := ho3
    rw [show tt + 1 + (S.L.length - 1 - tt) = S.L.length by omega, List.append_assoc, List.singleton_append] at h9
    exact h9) (by
    rw [hmv]
    intro j hj
    have hj' : j < (S.L.eraseIdx i).length + 1 := by
      have h8 : ((S.L.eraseIdx i).take tt ++ t :: (S.L.eraseIdx i).drop tt).length = S.L.length := by rw [← hmv]; exact hml
      rw [h8] at hj
      rw [Hl.out]; omega
    exact ins_rel hR.len (by rw [Hl.out]; omega) hR.txt hx j hj')
  have c5 : w1.cell? ⟨q, 1, none⟩ = some (.slice Av (S.L.length - 1) cv) := (ref_cell hR 1).trans rfl
  have c5a : (w1.alloc (.cells #[] 55)).cell? ⟨q, 1, none⟩ = some (.slice Av (S.L.length - 1) cv) := (ref_cell (hR.below (alloc_below w1 _)) 1).trans rfl
  have c53 : w3.cell? ⟨q, 1, none⟩ = some (.slice Av (S.L.length - 1) cv) := (ref_cell (hR.below hb2) 1).trans rfl
  have c54 : w4.cell? ⟨q, 1, none⟩ = some (.slice Av (S.L.length - 1) cv) := (ref_cell (hR.below hb3) 1).trans rfl
  have f54 : w4.frozen? ⟨q, 1, none⟩ = false := ref_frozen (hR.below hb3) 1
  obtain ⟨A1, cc1, hv1⟩ := own_slice ho1
  subst hv1
  obtain ⟨A2, cc2, hv2⟩ := own_slice ho2
  subst hv2
  obtain ⟨A3, cc3, hv3⟩ := own_slice ho3
  subst hv3
  have HRR := Lib.hid hRR
  have HC := Lib.hid hC
  have Hrn := Lib.hid hrn
  clear hRR hb3 hb2 hb1a hb1 ho1 ho2 ho3 hg1 hg2 hg3 hsrc hAd ca ho' hR hC hrn hx hml hmv hlen
  go_wp2_with (first
    | (at_builtin; refine Lib.wpList_append_run _ rfl (.tmp 22) (.tmp 28) 74 74 rfl _ _ rfl rfl _ _ hr1 ?_)
    | (at_builtin; refine Lib.wpList_append_run _ rfl (.tmp 30) (.tmp 32) 74 74 rfl _ _ rfl rfl _ _ hr2 ?_)
    | (at_builtin; refine Lib.wpList_append_run _ rfl (.tmp 35) (.tmp 41) 74 74 rfl _ _ rfl rfl _ _ hr3 ?_))
  go_ret
  exact ⟨_, _, rfl, HRR.out.1, HC.out.trans HRR.out.2.1, rowNew_trans Hrn.out HRR.out.2.2 HC.out.size⟩
end Go.Proofs.YtdglpbjofdipkaaDoor
