/- The walk of the statement that a fenced or tombed repository never serves with an old epoch. -/
import Derived.Test.YtdglpbjofdipkaaDoorPhaseEv
import Derived.Test.YtdglpbjofdipkaaDoorRowsIn
namespace Go.Proofs.YtdglpbjofdipkaaDoor
open Go.RowKit Go.Stop Go.Extern Go.RowsIn
set_option linter.unusedVariables false
set_option linter.unusedSimpArgs false
theorem env_never {W : World} (h : laidMetH Tryd.prog Rows.phaseNeverRow.laid W) : ∃ a, Env W a := by
  rw [MakeChecks.laidMetH_plain _ _ _ (by kernel_rfl)] at h
  exact env_of h
theorem admit_zero' {s e st : Int} (hr : right s e = true) : admitR s e st = 0 ↔ s = 2 ∧ st = e := by
  rw [admitR_of hr]
  constructor
  · intro h
    by_cases h1 : st < e ∨ (st = e ∧ 4 ≤ s)
    · rw [if_pos h1] at h; cases h
    · rw [if_neg h1] at h
      by_cases h2 : s = 2 ∧ st = e
      · exact h2
      · rw [if_neg h2] at h; cases h
  · rintro ⟨h1, h2⟩
    rw [if_neg (by omega), if_pos ⟨h1, h2⟩]
/-- An event that is not let through leaves all as it was. -/
theorem doR_err {k s e x : Int} (h0 : 0 ≤ k) (h4 : k ≤ 4) (h : (doR k s e x).2.2 ≠ 0) : (doR k s e x).1 = s ∧ (doR k s e x).2.1 = e := by
  by_cases hx : k < 4 ∧ (x < 1 ∨ maxE < x)
  · rw [doR_range hx.1 h0 hx.2]; exact ⟨rfl, rfl⟩
  · have hx' : k = 4 ∨ ¬ (x < 1 ∨ maxE < x) := by
      by_cases h : k = 4
      · exact .inl h
      · exact .inr (fun h' => hx ⟨by omega, h'⟩)
    cases hr : right s e
    · rw [doR_wrong h0 h4 hx' hr]; exact ⟨rfl, rfl⟩
    · cases hf : fromR k s
      · rw [doR_state h0 h4 hx' hr hf]; exact ⟨rfl, rfl⟩
      · rw [doR_ends h0 h4 hx' hr hf] at h ⊢
        split
        · exact ⟨rfl, rfl⟩
        · rename_i hl; rw [if_neg hl] at h; exact absurd rfl h
/-- What an event lets through keeps. -/
theorem doR_ok {k s e x : Int} (h0 : 0 ≤ k) (h4 : k ≤ 4) (hr : right s e = true) (h : (doR k s e x).2.2 = 0) :
    right (doR k s e x).1 (doR k s e x).2.1 = true ∧ e ≤ (doR k s e x).2.1 ∧ ((doR k s e x).1 = 2 → e < (doR k s e x).2.1) := by
  have hR := (right_iff s e).1 hr
  by_cases hx : k < 4 ∧ (x < 1 ∨ maxE < x)
  · rw [doR_range hx.1 h0 hx.2] at h; cases h
  · have hx' : k = 4 ∨ ¬ (x < 1 ∨ maxE < x) := by
      by_cases h : k = 4
      · exact .inl h
      · exact .inr (fun h' => hx ⟨by omega, h'⟩)
    cases hf : fromR k s
    · rw [doR_state h0 h4 hx' hr hf] at h; cases h
    · rw [doR_ends h0 h4 hx' hr hf] at h ⊢
      cases hl : lateR k s e x
      · rw [if_neg (by simp)]
        have hl' := of_decide_eq_false hl
        unfold maxE at hx hx'
        have hF : (k = 0 ∧ s ≠ 2) ∨ (k = 1 ∧ s ≤ 3) ∨ (k = 2 ∧ s = 2) ∨ (k = 3 ∧ 1 ≤ s ∧ s ≤ 4) ∨ (k = 4 ∧ s = 4) := by
          unfold fromR at hf
          simp only [Bool.or_eq_true, Bool.and_eq_true, decide_eq_true_eq] at hf
          omega
        have hn : newE k e x = if k = 0 ∨ k = 1 ∨ k = 3 then x else e := rfl
        show right (k + 1) (newE k e x) = true ∧ e ≤ newE k e x ∧ (k + 1 = 2 → e < newE k e x)
        rw [right_iff, hn]
        split <;> omega
      · rw [hl, if_pos rfl] at h; cases h
theorem add_next (a : Addr) (n : Nat) : a.add (n + 1) = ⟨(a.add n).block, (a.add n).off + 1, none⟩ := by
  unfold Addr.add
  by_cases h : n = 0
  · subst h; simp
  · simp [h, Nat.add_assoc]
structure NevAt (n : Nat) (W0 : World) (b0 : Nat) (v4 v18 : Value) (wr : World) (s e o : Int) (k : Nat) : Prop where
  ov : v4 = .int .i64 o
  iv : v18 = .int .i64 k
  le : k ≤ n
  rt : right s e = true
  pos : 0 ≤ o
  up : o ≤ e
  old : s = 2 → o < e
  c0 : wr.cell? ⟨b0, 0, none⟩ = some (.int .i64 s)
  c1 : wr.cell? ⟨b0, 1, none⟩ = some (.int .i64 e)
  f0 : wr.frozen? ⟨b0, 0, none⟩ = false
  f1 : wr.frozen? ⟨b0, 1, none⟩ = false
  low : Below W0.heap.size W0 wr
set_option maxHeartbeats 4000000 in
theorem never_walk (a : Nat → Addr) (A : Option Addr) (n c : Nat) (f : Nat → Int) (hnc : n ≤ c) (hcm : c ≤ maxLen) (w : World) (hrow : Row w A (n * 2) (fun i => .int .i64 (f i))) (E : Env w a) :
    Calls Tryd.prog 6 #[.slice A n c] w fun x w' => x = .returned (.bool true) ∧ Below w.heap.size w w' := by
  have HE := Lib.hid E
  have HR := Lib.hid hrow
  clear E hrow
  go_enter Tryd.func6, Tryd.ntmps6
  go_wp2_with fail
  refine (alive_any a _ HE.out).mono ?_
  rintro x1 w1 ⟨rfl, hb1⟩
  have HB1 := Lib.hid hb1
  have hz1 : w.heap.size ≤ w1.heap.size := hb1.size
  clear hb1
  by_cases hn : 60 < n
  · go_wp2_with fail
    go_ret
    exact ⟨rfl, HB1.out⟩
  have hn' : ¬ (60 : Int) < (n : Int) := by omega
  go_wp2_with fail
  go_loopw [4, 18] (fun s0 s1 wr => ∃ s e o k, NevAt n w1 w1.heap.size s0 s1 wr s e o k) (fun _ s1 _ => n - (intOf s1).toNat)
  case atStart => exact ⟨0, 0, 0, 0, rfl, rfl, Nat.zero_le _, by decide, by decide, by decide, by decide, by simp, by simp, by simp [go_sem], by simp [go_sem], ba (Below.refl _ _) _⟩
  case round =>
    obtain ⟨s, e, o, k, rfl, rfl, hk, hr, ho, hoe, hold, c0, c1, f0, f1, hlow⟩ := hrel
    have HL := Lib.hid hlow
    have Hr := Lib.hid hr
    have Ho := Lib.hid hold
    clear hlow hr hold
    have hz2 : w1.heap.size < wr.heap.size := lt_of_cell c0
    have hz3 : w.heap.size < wr.heap.size := by omega
    have HB2 : Hid (Below w.heap.size w wr) := HB1.out.trans (HL.out.mono (by omega))
    by_cases hlt : k < n
    · obtain ⟨ad, rfl, d0⟩ := HR.out.at_ (k := k * 2) HB2.out (by omega)
      obtain ⟨ad', h', d1⟩ := HR.out.at_ (k := k * 2 + 1) HB2.out (by omega)
      obtain rfl : ad = ad' := Option.some.inj h'
      clear h'
      rw [add_next] at d1
      obtain ⟨k0, k4⟩ := ev_bounds (f (k * 2))
      go_wp2_with fail
      generalize wrap64 ((IntKind.u64.wrap (f (k * 2))).tmod 5) = ev at *
      generalize wrap64 ((IntKind.u64.wrap (f (k * 2 + 1))).tmod 9) = x at *
      have herr := doR_err (k := ev) (s := s) (e := e) (x := x) k0 k4
      have hok := doR_ok (k := ev) (s := s) (e := e) (x := x) k0 k4 Hr.out
      refine (do_any a _ _ _ _ _ (HE.out.below (ba HB2.out _)) k0 k4).mono ?_
      rintro x2 w2 ⟨rfl, hb2⟩
      unfold PRes
      have hz4 : wr.heap.size < w2.heap.size := by have := hb2.size; simp at this; omega
      have hz5 : w1.heap.size < w2.heap.size := by omega
      have p0 := keepC (keepC c0 hz2 (ba (Below.refl _ _) _)) (by simp; omega) hb2
      have p1 := keepC (keepC c1 hz2 (ba (Below.refl _ _) _)) (by simp; omega) hb2
      have g0 : w2.frozen? ⟨w1.heap.size, 0, none⟩ = false := by rw [(bcell hb2).2 _ _ (by simp; omega)]; simp [go_sem, f0, hz2]
      have g1 : w2.frozen? ⟨w1.heap.size, 1, none⟩ = false := by rw [(bcell hb2).2 _ _ (by simp; omega)]; simp [go_sem, f1, hz2]
      have HB3 : Hid (Below w1.heap.size w1 w2) := (ba HL.out _).trans (hb2.mono (by simp; omega))
      have HB4 : Hid (Below w.heap.size w w2) := HB1.out.trans (HB3.out.mono (by omega))
      clear hb2
      generalize doR ev s e x = r at *
      by_cases hz : r.2.2 = 0
      · obtain ⟨hr2, he2, hs2⟩ := hok hz
        have hv : errV a r.2.2 = .nilIface := by rw [hz]; rfl
        simp only [hv]
        clear hv hz herr hok
        have Hr2 := Lib.hid hr2
        have Hs2 := Lib.hid hs2
        clear hr2 hs2
        have hlt' : ¬ r.2.1 < e := by omega
        have hy1 : w1.heap.size < w2.heap.size + 1 := by omega
        have hy2 : w1.heap.size < w2.heap.size + 1 + 1 := by omega
        have hy3 : w1.heap.size < w2.heap.size + 1 + 1 + 1 := by omega
        have hy4 : w1.heap.size < w2.heap.size + 1 + 1 + 1 + 1 := by omega
        have hRt : Hid (∀ w, Names w → Calls Tryd.prog 17 #[.agg #[.int .i64 r.1, .int .i64 r.2.1]] w (REnd true r.1 r.2.1 w)) := fun w hN => Hr2.out ▸ right_any r.1 r.2.1 w hN
        by_cases h2 : s = 2
        · have ts : (s == 2) = true := by rw [h2]; rfl
          have hoe2 : o < e := Ho.out h2
          have heM := ((right_iff s e).1 Hr.out).2.2.2.1
          by_cases hq : r.1 = 2
          · have tq : (r.1 == 2) = true := by rw [hq]; rfl
            have te : decide (e < r.2.1) = true := decide_eq_true (Hs2.out hq)
            clear h2 hq
            go_wp2_with (first
              | (go_at_call 17; refine (hRt.out _ (HE.out.names.below (ba HB4.out _))).mono ?_; rintro e w' ⟨rfl, rfl⟩)
              | (go_at_call 20; refine (writes_any _ _ _).mono ?_; rintro e w' ⟨rfl, rfl⟩))
            go_loopw [73] (fun s0 wi => ∃ (j : Nat), s0 = .int .i64 j ∧ (j : Int) ≤ e + 1 ∧ wi.cell? ⟨w1.heap.size, 0, none⟩ = some (.int .i64 r.1) ∧ wi.cell? ⟨w1.heap.size, 1, none⟩ = some (.int .i64 r.2.1) ∧ wi.frozen? ⟨w1.heap.size, 0, none⟩ = false ∧ wi.frozen? ⟨w1.heap.size, 1, none⟩ = false ∧ Below w1.heap.size w1 wi) (fun s0 _ => (e + 1 - intOf s0).toNat)
            case atStart => exact ⟨0, rfl, by omega, by simp [go_sem, p0, hz5, hy1, hy2, hy3, hy4], by simp [go_sem, p1, hz5, hy1, hy2, hy3, hy4], by simp [go_sem, g0, hz5, hy1, hy2, hy3, hy4], by simp [go_sem, g1, hz5, hy1, hy2, hy3, hy4], by repeat (first | exact HB3.out | apply bd | apply ba | (refine bs ?_ (by simp) _))⟩
            case round =>
              obtain ⟨j, rfl, hj, m0, m1, n0, n1, hlow⟩ := hrel
              have HI := Lib.hid hlow
              clear hlow
              have hz6 : w1.heap.size < wr.heap.size := lt_of_cell m0
              have HBI : Hid (Below w.heap.size w wr) := HB1.out.trans (HI.out.mono (by omega))
              by_cases hjl : (j : Int) < e + 1
              · go_wp2_with fail
                refine (admit_any a _ _ _ _ (HE.out.below HBI.out)).mono ?_
                rintro x7 w7 ⟨rfl, hb7⟩
                have b0 := keepC m0 hz6 hb7
                have b1 := keepC m1 hz6 hb7
                have d0' : w7.frozen? ⟨w1.heap.size, 0, none⟩ = false := by rw [(bcell hb7).2 _ _ hz6]; exact n0
                have d1' : w7.frozen? ⟨w1.heap.size, 1, none⟩ = false := by rw [(bcell hb7).2 _ _ hz6]; exact n1
                have HB7 : Hid (Below w1.heap.size w1 w7) := HI.out.trans (hb7.mono (by omega))
                clear hb7
                have hv := errV_pos a (admitR r.1 r.2.1 j) (by
                  have : admitR r.1 r.2.1 j ≠ 0 := fun h => by
                    have := (admit_zero' Hr2.out).1 h
                    have h8 := Hs2.out this.1
                    omega
                  omega)
                simp only [hv]
                clear hv
                go_wp2_with fail
                go_round
                case rel => exact ⟨j + 1, by go_num, by omega, b0, b1, d0', d1', HB7.out⟩
                case measure => simp [intOf]; omega
              · go_wp2_with fail
                go_round
                case rel => exact ⟨r.1, r.2.1, e, k + 1, rfl, by go_num, by omega, Hr2.out, by omega, by omega, (fun h => by have h8 := Hs2.out h; omega), m0, m1, n0, n1, HI.out⟩
                case measure => simp [intOf]; omega
          · have tq : (r.1 == 2) = false := by rw [beq_eq_false_iff_ne]; exact hq
            clear h2 hq
            go_wp2_with (first
              | (go_at_call 17; refine (hRt.out _ (HE.out.names.below (ba HB4.out _))).mono ?_; rintro e w' ⟨rfl, rfl⟩)
              | (go_at_call 20; refine (writes_any _ _ _).mono ?_; rintro e w' ⟨rfl, rfl⟩))
            go_loopw [73] (fun s0 wi => ∃ (j : Nat), s0 = .int .i64 j ∧ (j : Int) ≤ e + 1 ∧ wi.cell? ⟨w1.heap.size, 0, none⟩ = some (.int .i64 r.1) ∧ wi.cell? ⟨w1.heap.size, 1, none⟩ = some (.int .i64 r.2.1) ∧ wi.frozen? ⟨w1.heap.size, 0, none⟩ = false ∧ wi.frozen? ⟨w1.heap.size, 1, none⟩ = false ∧ Below w1.heap.size w1 wi) (fun s0 _ => (e + 1 - intOf s0).toNat)
            case atStart => exact ⟨0, rfl, by omega, by simp [go_sem, p0, hz5, hy1, hy2, hy3, hy4], by simp [go_sem, p1, hz5, hy1, hy2, hy3, hy4], by simp [go_sem, g0, hz5, hy1, hy2, hy3, hy4], by simp [go_sem, g1, hz5, hy1, hy2, hy3, hy4], by repeat (first | exact HB3.out | apply bd | apply ba | (refine bs ?_ (by simp) _))⟩
            case round =>
              obtain ⟨j, rfl, hj, m0, m1, n0, n1, hlow⟩ := hrel
              have HI := Lib.hid hlow
              clear hlow
              have hz6 : w1.heap.size < wr.heap.size := lt_of_cell m0
              have HBI : Hid (Below w.heap.size w wr) := HB1.out.trans (HI.out.mono (by omega))
              by_cases hjl : (j : Int) < e + 1
              · go_wp2_with fail
                refine (admit_any a _ _ _ _ (HE.out.below HBI.out)).mono ?_
                rintro x7 w7 ⟨rfl, hb7⟩
                have b0 := keepC m0 hz6 hb7
                have b1 := keepC m1 hz6 hb7
                have d0' : w7.frozen? ⟨w1.heap.size, 0, none⟩ = false := by rw [(bcell hb7).2 _ _ hz6]; exact n0
                have d1' : w7.frozen? ⟨w1.heap.size, 1, none⟩ = false := by rw [(bcell hb7).2 _ _ hz6]; exact n1
                have HB7 : Hid (Below w1.heap.size w1 w7) := HI.out.trans (hb7.mono (by omega))
                clear hb7
                have hv := errV_pos a (admitR r.1 r.2.1 j) (by
                  have : admitR r.1 r.2.1 j ≠ 0 := fun h => by
                    have := (admit_zero' Hr2.out).1 h
                    have h8 := Hs2.out this.1
                    omega
                  omega)
                simp only [hv]
                clear hv
                go_wp2_with fail
                go_round
                case rel => exact ⟨j + 1, by go_num, by omega, b0, b1, d0', d1', HB7.out⟩
                case measure => simp [intOf]; omega
              · go_wp2_with fail
                go_round
                case rel => exact ⟨r.1, r.2.1, e, k + 1, rfl, by go_num, by omega, Hr2.out, by omega, by omega, (fun h => by have h8 := Hs2.out h; omega), m0, m1, n0, n1, HI.out⟩
                case measure => simp [intOf]; omega
        · have ts : (s == 2) = false := by rw [beq_eq_false_iff_ne]; exact h2
          have hoM : o ≤ 1099511627776 := by have := ((right_iff s e).1 Hr.out).2.2.2.1; omega
          clear h2
          go_wp2_with (first
            | (go_at_call 17; refine (hRt.out _ (HE.out.names.below (ba HB4.out _))).mono ?_; rintro e w' ⟨rfl, rfl⟩)
            | (go_at_call 20; refine (writes_any _ _ _).mono ?_; rintro e w' ⟨rfl, rfl⟩))
          go_loopw [73] (fun s0 wi => ∃ (j : Nat), s0 = .int .i64 j ∧ (j : Int) ≤ o + 1 ∧ wi.cell? ⟨w1.heap.size, 0, none⟩ = some (.int .i64 r.1) ∧ wi.cell? ⟨w1.heap.size, 1, none⟩ = some (.int .i64 r.2.1) ∧ wi.frozen? ⟨w1.heap.size, 0, none⟩ = false ∧ wi.frozen? ⟨w1.heap.size, 1, none⟩ = false ∧ Below w1.heap.size w1 wi) (fun s0 _ => (o + 1 - intOf s0).toNat)
          case atStart => exact ⟨0, rfl, by omega, by simp [go_sem, p0, hz5, hy1, hy2, hy3, hy4], by simp [go_sem, p1, hz5, hy1, hy2, hy3, hy4], by simp [go_sem, g0, hz5, hy1, hy2, hy3, hy4], by simp [go_sem, g1, hz5, hy1, hy2, hy3, hy4], by repeat (first | exact HB3.out | apply bd | apply ba | (refine bs ?_ (by simp) _))⟩
          case round =>
            obtain ⟨j, rfl, hj, m0, m1, n0, n1, hlow⟩ := hrel
            have HI := Lib.hid hlow
            clear hlow
            have hz6 : w1.heap.size < wr.heap.size := lt_of_cell m0
            have HBI : Hid (Below w.heap.size w wr) := HB1.out.trans (HI.out.mono (by omega))
            by_cases hjl : (j : Int) < o + 1
            · go_wp2_with fail
              refine (admit_any a _ _ _ _ (HE.out.below HBI.out)).mono ?_
              rintro x7 w7 ⟨rfl, hb7⟩
              have b0 := keepC m0 hz6 hb7
              have b1 := keepC m1 hz6 hb7
              have d0' : w7.frozen? ⟨w1.heap.size, 0, none⟩ = false := by rw [(bcell hb7).2 _ _ hz6]; exact n0
              have d1' : w7.frozen? ⟨w1.heap.size, 1, none⟩ = false := by rw [(bcell hb7).2 _ _ hz6]; exact n1
              have HB7 : Hid (Below w1.heap.size w1 w7) := HI.out.trans (hb7.mono (by omega))
              clear hb7
              have hv := errV_pos a (admitR r.1 r.2.1 j) (by
                have : admitR r.1 r.2.1 j ≠ 0 := fun h => by
                  have := (admit_zero' Hr2.out).1 h
                  have h8 := Hs2.out this.1
                  omega
                omega)
              simp only [hv]
              clear hv
              go_wp2_with fail
              go_round
              case rel => exact ⟨j + 1, by go_num, by omega, b0, b1, d0', d1', HB7.out⟩
              case measure => simp [intOf]; omega
            · go_wp2_with fail
              go_round
              case rel => exact ⟨r.1, r.2.1, o, k + 1, rfl, by go_num, by omega, Hr2.out, by omega, by omega, (fun h => by have h8 := Hs2.out h; omega), m0, m1, n0, n1, HI.out⟩
              case measure => simp [intOf]; omega

      · obtain ⟨e1, e2⟩ := herr hz
        have hv := errV_pos a r.2.2 (by omega)
        simp only [hv]
        rw [e1, e2]
        clear hv hz herr hok e1 e2
        go_wp2_with fail
        go_round
        case rel => exact ⟨s, e, o, k + 1, rfl, by go_num, by omega, Hr.out, ho, hoe, Ho.out, by simp [go_sem, p0, hz5], by simp [go_sem, p1, hz5], by simp [go_sem, g0, hz5], by simp [go_sem, g1, hz5], ba HB3.out _⟩
        case measure => simp [intOf]; omega
    · go_wp2_with fail
      go_ret
      exact ⟨rfl, HB2.out⟩
end Go.Proofs.YtdglpbjofdipkaaDoor
