/- The walk of the statement on every event on every phase. -/
import Derived.Test.YtdglpbjofdipkaaDoorPhaseRef
import Derived.Test.YtdglpbjofdipkaaDoorPhaseLaws
namespace Go.Proofs.YtdglpbjofdipkaaDoor
open Go.RowKit Go.Stop Go.Extern
set_option linter.unusedVariables false
set_option linter.unusedSimpArgs false
theorem env_events {W : World} (h : laidMetH Tryd.prog Rows.phaseEventsRow.laid W) : ∃ a, Env W a := by
  rw [MakeChecks.laidMetH_plain _ _ _ (by kernel_rfl)] at h
  exact env_of h
theorem doR_le (k s e x : Int) (h0 : 0 ≤ k) (h4 : k ≤ 4) : (doR k s e x).2.2 ≤ 22 := by
  by_cases hx : k < 4 ∧ (x < 1 ∨ maxE < x)
  · rw [doR_range hx.1 h0 hx.2]; show (1 : Nat) ≤ 22; decide
  · have hx' : k = 4 ∨ ¬ (x < 1 ∨ maxE < x) := by
      by_cases h : k = 4
      · exact .inl h
      · exact .inr (fun h' => hx ⟨by omega, h'⟩)
    cases hr : right s e
    · rw [doR_wrong h0 h4 hx' hr]; show (4 : Nat) ≤ 22; decide
    · cases hf : fromR k s
      · rw [doR_state h0 h4 hx' hr hf]; show (19 : Nat) ≤ 22; decide
      · rw [doR_ends h0 h4 hx' hr hf]
        split
        · show (18 : Nat) ≤ 22; decide
        · show (0 : Nat) ≤ 22; decide
theorem ev_bounds (ev : Int) : 0 ≤ wrap64 ((IntKind.u64.wrap ev).tmod 5) ∧ wrap64 ((IntKind.u64.wrap ev).tmod 5) ≤ 4 := by
  have h0 : 0 ≤ IntKind.u64.wrap ev := wrap_u64_nonneg ev
  have h1 : 0 ≤ (IntKind.u64.wrap ev).tmod 5 ∧ (IntKind.u64.wrap ev).tmod 5 ≤ 4 := by
    rw [Int.tmod_eq_emod_of_nonneg h0]; omega
  generalize (IntKind.u64.wrap ev).tmod 5 = m at *
  have : wrap64 m = m := by unfold wrap64; omega
  rw [this]; exact h1
/-- Two phases in a row: cells of four blocks at a world which is below another. -/
theorem keepC {w w' : World} {v : Value} {b o : Nat} (h : w.cell? ⟨b, o, none⟩ = some v) (hbb : b < w.heap.size) (hb : Below w.heap.size w w') : w'.cell? ⟨b, o, none⟩ = some v := by
  rw [(bcell hb).1 b o hbb]; exact h
/-- The six cells which the law's last statement reads, at a world below which nothing has turned. -/
theorem keep6 {W3 w w' : World} {b1 b2 b3 : Nat} {v1 v2 v3 v4 v5 v6 : Value}
    (h : w.cell? ⟨b1, 0, none⟩ = some v1 ∧ w.cell? ⟨b1, 1, none⟩ = some v2 ∧ w.cell? ⟨b2, 0, none⟩ = some v3 ∧ w.cell? ⟨b2, 1, none⟩ = some v4 ∧ w.cell? ⟨b3, 0, none⟩ = some v5 ∧ w.cell? ⟨b3, 1, none⟩ = some v6 ∧ Below W3.heap.size W3 w)
    (hb : Below w.heap.size w w') :
    w'.cell? ⟨b1, 0, none⟩ = some v1 ∧ w'.cell? ⟨b1, 1, none⟩ = some v2 ∧ w'.cell? ⟨b2, 0, none⟩ = some v3 ∧ w'.cell? ⟨b2, 1, none⟩ = some v4 ∧ w'.cell? ⟨b3, 0, none⟩ = some v5 ∧ w'.cell? ⟨b3, 1, none⟩ = some v6 ∧ Below W3.heap.size W3 w' := by
  obtain ⟨h1, h2, h3, h4, h5, h6, h7⟩ := h
  exact ⟨keepC h1 (World.block_lt_of_cell? w _ h1) hb, keepC h2 (World.block_lt_of_cell? w _ h2) hb, keepC h3 (World.block_lt_of_cell? w _ h3) hb, keepC h4 (World.block_lt_of_cell? w _ h4) hb,
    keepC h5 (World.block_lt_of_cell? w _ h5) hb, keepC h6 (World.block_lt_of_cell? w _ h6) hb, h7.trans (hb.mono h7.size)⟩
theorem below6 {W3 w : World} {A B C D E F : Prop} (h : A ∧ B ∧ C ∧ D ∧ E ∧ F ∧ Below W3.heap.size W3 w) : Below W3.heap.size W3 w := h.2.2.2.2.2.2
theorem name_lit {s : Int} (h0 : 0 ≤ s) (h5 : s ≤ 5) : [Value.string { data := #[97, 98, 115, 101, 110, 116] }, Value.string { data := #[115, 116, 97, 103, 105, 110, 103] }, Value.string { data := #[115, 101, 114, 118, 105, 110, 103] }, Value.string { data := #[102, 101, 110, 99, 101, 100] }, Value.string { data := #[116, 111, 109, 98, 101, 100] }, Value.string { data := #[103, 111, 110, 101] }][s.toNat]? = some (.string (nameOf s)) := by
  have hs : s = 0 ∨ s = 1 ∨ s = 2 ∨ s = 3 ∨ s = 4 ∨ s = 5 := by omega
  rcases hs with rfl | rfl | rfl | rfl | rfl | rfl <;> rfl
set_option maxHeartbeats 1000000 in
theorem events_walk (a : Nat → Addr) (s e ev x : Int) (_w0 : (Lit.int .i64 s).wf = true) (_w1 : (Lit.int .i64 e).wf = true) (_w2 : (Lit.int .i64 ev).wf = true) (_w3 : (Lit.int .i64 x).wf = true) (w : World) (E : Env w a) :
    Calls Tryd.prog 3 #[.agg #[.int .i64 s, .int .i64 e], .int .i64 ev, .int .i64 x] w fun x w' => x = .returned (.bool true) ∧ Below w.heap.size w w' := by
  have HE := Lib.hid E
  clear E
  go_enter Tryd.func3, Tryd.ntmps3
  go_wp2_with fail
  refine (alive_any a _ (HE.out.below (ba (Below.refl _ _) _))).mono ?_
  rintro x1 w1 ⟨rfl, hb1⟩
  have q0 : w1.cell? ⟨w.heap.size, 0, none⟩ = some (.int .i64 s) := by rw [(bcell hb1).1 _ _ (by simp)]; simp
  have q1 : w1.cell? ⟨w.heap.size, 1, none⟩ = some (.int .i64 e) := by rw [(bcell hb1).1 _ _ (by simp)]; simp
  have HB1 : Hid (Below w.heap.size w w1) := (ba (Below.refl _ _) _).trans (hb1.mono (by simp))
  have hz1 : w.heap.size < w1.heap.size := by have := hb1.size; simp at this; omega
  clear hb1
  obtain ⟨k0, k4⟩ := ev_bounds ev
  go_wp2_with fail
  generalize wrap64 ((IntKind.u64.wrap ev).tmod 5) = k at *
  have hle := doR_le k s e x k0 k4
  refine (do_any a _ _ _ _ _ (HE.out.below HB1.out) k0 k4).mono ?_
  rintro x2 w2 ⟨rfl, hb2⟩
  unfold PRes
  have hz2 : w.heap.size < w2.heap.size := Nat.lt_of_lt_of_le hz1 hb2.size
  replace q0 := keepC q0 hz1 hb2
  replace q1 := keepC q1 hz1 hb2
  have HB2 : Hid (Below w.heap.size w w2) := HB1.out.trans (hb2.mono (by omega))
  clear hb2
  go_wp2_with fail
  refine (refDo_any _ _ _ _ k0 k4 _).mono ?_
  rintro x3 w3 ⟨rfl, hb3⟩
  unfold RRes
  have hz3 : w2.heap.size < w3.heap.size := by have := hb3.size; simp at this; omega
  replace q0 : w3.cell? ⟨w.heap.size, 0, none⟩ = some (.int .i64 s) := keepC (by simp [go_sem, q0, hz2]) (by simp; omega) hb3
  replace q1 : w3.cell? ⟨w.heap.size, 1, none⟩ = some (.int .i64 e) := keepC (by simp [go_sem, q1, hz2]) (by simp; omega) hb3
  have q2 : w3.cell? ⟨w2.heap.size, 0, none⟩ = some (.int .i64 (doR k s e x).1) := keepC (by simp [go_sem]) (by simp) hb3
  have q3 : w3.cell? ⟨w2.heap.size, 1, none⟩ = some (.int .i64 (doR k s e x).2.1) := keepC (by simp [go_sem]) (by simp) hb3
  have HB3 : Hid (Below w.heap.size w w3) := (ba HB2.out _).trans (hb3.mono (by simp; omega))
  have hz4 : w.heap.size < w3.heap.size := by omega
  clear hb3
  have hz5 : w.heap.size < w3.heap.size + 1 := by omega
  have hz6 : w2.heap.size < w3.heap.size + 1 := by omega
  by_cases hs : 0 ≤ s ∧ s ≤ 5
  · obtain ⟨s0, s5⟩ := hs
    have hn := name_lit s0 s5
    go_wp2_with fail
    have p0 : (((w3.alloc (.cells #[.int .i64 (doR k s e x).1, .int .i64 (doR k s e x).2.1] 30)).alloc (.cells #[Value.string { data := #[97, 98, 115, 101, 110, 116] }, Value.string { data := #[115, 116, 97, 103, 105, 110, 103] }, Value.string { data := #[115, 101, 114, 118, 105, 110, 103] }, Value.string { data := #[102, 101, 110, 99, 101, 100] }, Value.string { data := #[116, 111, 109, 98, 101, 100] }, Value.string { data := #[103, 111, 110, 101] }] 9)).drew).cell? ⟨w.heap.size, 0, none⟩ = some (.int .i64 s) := by simp [go_sem, q0, hz4, hz5]
    have p1 : (((w3.alloc (.cells #[.int .i64 (doR k s e x).1, .int .i64 (doR k s e x).2.1] 30)).alloc (.cells #[Value.string { data := #[97, 98, 115, 101, 110, 116] }, Value.string { data := #[115, 116, 97, 103, 105, 110, 103] }, Value.string { data := #[115, 101, 114, 118, 105, 110, 103] }, Value.string { data := #[102, 101, 110, 99, 101, 100] }, Value.string { data := #[116, 111, 109, 98, 101, 100] }, Value.string { data := #[103, 111, 110, 101] }] 9)).drew).cell? ⟨w.heap.size, 1, none⟩ = some (.int .i64 e) := by simp [go_sem, q1, hz4, hz5]
    have p2 : (((w3.alloc (.cells #[.int .i64 (doR k s e x).1, .int .i64 (doR k s e x).2.1] 30)).alloc (.cells #[Value.string { data := #[97, 98, 115, 101, 110, 116] }, Value.string { data := #[115, 116, 97, 103, 105, 110, 103] }, Value.string { data := #[115, 101, 114, 118, 105, 110, 103] }, Value.string { data := #[102, 101, 110, 99, 101, 100] }, Value.string { data := #[116, 111, 109, 98, 101, 100] }, Value.string { data := #[103, 111, 110, 101] }] 9)).drew).cell? ⟨w2.heap.size, 0, none⟩ = some (.int .i64 (doR k s e x).1) := by simp [go_sem, q2, hz3, hz6]
    have p3 : (((w3.alloc (.cells #[.int .i64 (doR k s e x).1, .int .i64 (doR k s e x).2.1] 30)).alloc (.cells #[Value.string { data := #[97, 98, 115, 101, 110, 116] }, Value.string { data := #[115, 116, 97, 103, 105, 110, 103] }, Value.string { data := #[115, 101, 114, 118, 105, 110, 103] }, Value.string { data := #[102, 101, 110, 99, 101, 100] }, Value.string { data := #[116, 111, 109, 98, 101, 100] }, Value.string { data := #[103, 111, 110, 101] }] 9)).drew).cell? ⟨w2.heap.size, 1, none⟩ = some (.int .i64 (doR k s e x).2.1) := by simp [go_sem, q3, hz3, hz6]
    have p4 : (((w3.alloc (.cells #[.int .i64 (doR k s e x).1, .int .i64 (doR k s e x).2.1] 30)).alloc (.cells #[Value.string { data := #[97, 98, 115, 101, 110, 116] }, Value.string { data := #[115, 116, 97, 103, 105, 110, 103] }, Value.string { data := #[115, 101, 114, 118, 105, 110, 103] }, Value.string { data := #[102, 101, 110, 99, 101, 100] }, Value.string { data := #[116, 111, 109, 98, 101, 100] }, Value.string { data := #[103, 111, 110, 101] }] 9)).drew).cell? ⟨w3.heap.size, 0, none⟩ = some (.int .i64 (doR k s e x).1) := by simp [go_sem]
    have p5 : (((w3.alloc (.cells #[.int .i64 (doR k s e x).1, .int .i64 (doR k s e x).2.1] 30)).alloc (.cells #[Value.string { data := #[97, 98, 115, 101, 110, 116] }, Value.string { data := #[115, 116, 97, 103, 105, 110, 103] }, Value.string { data := #[115, 101, 114, 118, 105, 110, 103] }, Value.string { data := #[102, 101, 110, 99, 101, 100] }, Value.string { data := #[116, 111, 109, 98, 101, 100] }, Value.string { data := #[103, 111, 110, 101] }] 9)).drew).cell? ⟨w3.heap.size, 1, none⟩ = some (.int .i64 (doR k s e x).2.1) := by simp [go_sem]
    have p6 : Below w3.heap.size w3 (((w3.alloc (.cells #[.int .i64 (doR k s e x).1, .int .i64 (doR k s e x).2.1] 30)).alloc (.cells #[Value.string { data := #[97, 98, 115, 101, 110, 116] }, Value.string { data := #[115, 116, 97, 103, 105, 110, 103] }, Value.string { data := #[115, 101, 114, 118, 105, 110, 103] }, Value.string { data := #[102, 101, 110, 99, 101, 100] }, Value.string { data := #[116, 111, 109, 98, 101, 100] }, Value.string { data := #[103, 111, 110, 101] }] 9)).drew) := by repeat (first | exact Below.refl _ _ | apply bd | apply ba)
    go_region_held3 (fun w' => w'.cell? ⟨w.heap.size, 0, none⟩ = some (.int .i64 s) ∧ w'.cell? ⟨w.heap.size, 1, none⟩ = some (.int .i64 e) ∧ w'.cell? ⟨w2.heap.size, 0, none⟩ = some (.int .i64 (doR k s e x).1) ∧ w'.cell? ⟨w2.heap.size, 1, none⟩ = some (.int .i64 (doR k s e x).2.1) ∧ w'.cell? ⟨w3.heap.size, 0, none⟩ = some (.int .i64 (doR k s e x).1) ∧ w'.cell? ⟨w3.heap.size, 1, none⟩ = some (.int .i64 (doR k s e x).2.1) ∧ Below w3.heap.size w3 w')
    (first
      | exact ⟨p0, p1, p2, p3, p4, p5, p6⟩
      | exact keep6 (by assumption) (by assumption)
      | exact keep6 (by assumption) (ba (Below.refl _ _) _)
      | exact keep6 (by assumption) (ba (ba (Below.refl _ _) _) _))
    (first
      | (go_at_call 16; refine (num_any a _ hle _ (HE.out.errs.below (HB3.out.trans (Below.mono (below6 (by assumption)) (by omega))))).mono ?_; rintro e w' ⟨rfl, hb⟩)
      | (go_at_call 17; refine (right_any _ _ _ (HE.out.names.below (HB3.out.trans (Below.mono (below6 (by assumption)) (by omega))))).mono ?_; rintro e w' ⟨rfl, rfl⟩)
      | (go_at_call 18; refine (refRight_any _ _ _).mono ?_; rintro e w' ⟨rfl, rfl⟩)
      | (go_at_call 19; refine (name_any _ _ _ (HE.out.names.below (HB3.out.trans (Below.mono (below6 (by assumption)) (by omega))))).mono ?_; rintro e w' ⟨rfl, rfl⟩)
      | (go_at_call 20; refine (writes_any _ _ _).mono ?_; rintro e w' ⟨rfl, rfl⟩))
    all_goals
      have hB4 := HB3.out.trans (Below.mono (below6 (by assumption)) (show w.heap.size ≤ w3.heap.size by omega))
      go_wp2_with fail
      go_ret
      exact ⟨rfl, hB4⟩
  · have hn : nameOf s = ⟨#[]⟩ := by unfold nameOf; exact if_neg hs
    go_wp2_with fail
    all_goals
      have p0 : ((w3.alloc (.cells #[.int .i64 (doR k s e x).1, .int .i64 (doR k s e x).2.1] 30)).drew).cell? ⟨w.heap.size, 0, none⟩ = some (.int .i64 s) := by simp [go_sem, q0, hz4, hz5]
      have p1 : ((w3.alloc (.cells #[.int .i64 (doR k s e x).1, .int .i64 (doR k s e x).2.1] 30)).drew).cell? ⟨w.heap.size, 1, none⟩ = some (.int .i64 e) := by simp [go_sem, q1, hz4, hz5]
      have p2 : ((w3.alloc (.cells #[.int .i64 (doR k s e x).1, .int .i64 (doR k s e x).2.1] 30)).drew).cell? ⟨w2.heap.size, 0, none⟩ = some (.int .i64 (doR k s e x).1) := by simp [go_sem, q2, hz3, hz6]
      have p3 : ((w3.alloc (.cells #[.int .i64 (doR k s e x).1, .int .i64 (doR k s e x).2.1] 30)).drew).cell? ⟨w2.heap.size, 1, none⟩ = some (.int .i64 (doR k s e x).2.1) := by simp [go_sem, q3, hz3, hz6]
      have p4 : ((w3.alloc (.cells #[.int .i64 (doR k s e x).1, .int .i64 (doR k s e x).2.1] 30)).drew).cell? ⟨w3.heap.size, 0, none⟩ = some (.int .i64 (doR k s e x).1) := by simp [go_sem]
      have p5 : ((w3.alloc (.cells #[.int .i64 (doR k s e x).1, .int .i64 (doR k s e x).2.1] 30)).drew).cell? ⟨w3.heap.size, 1, none⟩ = some (.int .i64 (doR k s e x).2.1) := by simp [go_sem]
      have p6 : Below w3.heap.size w3 ((w3.alloc (.cells #[.int .i64 (doR k s e x).1, .int .i64 (doR k s e x).2.1] 30)).drew) := by repeat (first | exact Below.refl _ _ | apply bd | apply ba)
      go_region_held3 (fun w' => w'.cell? ⟨w.heap.size, 0, none⟩ = some (.int .i64 s) ∧ w'.cell? ⟨w.heap.size, 1, none⟩ = some (.int .i64 e) ∧ w'.cell? ⟨w2.heap.size, 0, none⟩ = some (.int .i64 (doR k s e x).1) ∧ w'.cell? ⟨w2.heap.size, 1, none⟩ = some (.int .i64 (doR k s e x).2.1) ∧ w'.cell? ⟨w3.heap.size, 0, none⟩ = some (.int .i64 (doR k s e x).1) ∧ w'.cell? ⟨w3.heap.size, 1, none⟩ = some (.int .i64 (doR k s e x).2.1) ∧ Below w3.heap.size w3 w')
        (first
      | exact ⟨p0, p1, p2, p3, p4, p5, p6⟩
      | exact keep6 (by assumption) (by assumption)
      | exact keep6 (by assumption) (ba (Below.refl _ _) _)
      | exact keep6 (by assumption) (ba (ba (Below.refl _ _) _) _))
    (first
      | (go_at_call 16; refine (num_any a _ hle _ (HE.out.errs.below (HB3.out.trans (Below.mono (below6 (by assumption)) (by omega))))).mono ?_; rintro e w' ⟨rfl, hb⟩)
      | (go_at_call 17; refine (right_any _ _ _ (HE.out.names.below (HB3.out.trans (Below.mono (below6 (by assumption)) (by omega))))).mono ?_; rintro e w' ⟨rfl, rfl⟩)
      | (go_at_call 18; refine (refRight_any _ _ _).mono ?_; rintro e w' ⟨rfl, rfl⟩)
      | (go_at_call 19; refine (name_any _ _ _ (HE.out.names.below (HB3.out.trans (Below.mono (below6 (by assumption)) (by omega))))).mono ?_; rintro e w' ⟨rfl, rfl⟩)
      | (go_at_call 20; refine (writes_any _ _ _).mono ?_; rintro e w' ⟨rfl, rfl⟩))
      all_goals
        have hB4 := HB3.out.trans (Below.mono (below6 (by assumption)) (show w.heap.size ≤ w3.heap.size by omega))
        go_wp2_with fail
        go_ret
        exact ⟨rfl, hB4⟩
end Go.Proofs.YtdglpbjofdipkaaDoor
