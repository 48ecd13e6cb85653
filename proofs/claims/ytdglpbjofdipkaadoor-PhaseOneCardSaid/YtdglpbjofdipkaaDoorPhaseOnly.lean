/- The walk of the statement that a phase admits at most one stamp. -/
import Derived.Test.YtdglpbjofdipkaaDoorPhaseEv
import Derived.Test.YtdglpbjofdipkaaDoorRowsIn
namespace Go.Proofs.YtdglpbjofdipkaaDoor
open Go.RowKit Go.Stop Go.Extern Go.RowsIn
set_option linter.unusedVariables false
set_option linter.unusedSimpArgs false
theorem env_one {W : World} (h : laidMetH Tryd.prog Rows.phaseOneRow.laid W) : ∃ a, Env W a := by
  rw [MakeChecks.laidMetH_plain _ _ _ (by kernel_rfl)] at h
  exact env_of h
theorem admit_zero {s e st : Int} : admitR s e st = 0 ↔ right s e = true ∧ s = 2 ∧ st = e := by
  constructor
  · intro h
    cases hr : right s e
    · unfold admitR at h; rw [if_pos hr] at h; cases h
    · rw [admitR_of hr] at h
      refine ⟨rfl, ?_⟩
      by_cases h1 : st < e ∨ (st = e ∧ 4 ≤ s)
      · rw [if_pos h1] at h; cases h
      · rw [if_neg h1] at h
        by_cases h2 : s = 2 ∧ st = e
        · exact h2
        · rw [if_neg h2] at h; cases h
  · rintro ⟨hr, h1, h2⟩
    rw [admitR_of hr, if_neg (by omega), if_pos ⟨h1, h2⟩]
theorem stage_one {s e x : Int} (h : (stageR s e x).2.2 = 0) : (stageR s e x).1 = 1 := by
  have hd : stageR s e x = doR 0 s e x := rfl
  rw [hd] at h ⊢
  by_cases hx : x < 1 ∨ maxE < x
  · rw [doR_range (by decide) (by decide) hx] at h; cases h
  · cases hr : right s e
    · rw [doR_wrong (by decide) (by decide) (.inr hx) hr] at h; cases h
    · cases hf : fromR 0 s
      · rw [doR_state (by decide) (by decide) (.inr hx) hr hf] at h; cases h
      · rw [doR_ends (by decide) (by decide) (.inr hx) hr hf] at h ⊢
        split at h
        · cases h
        · rename_i hl; rw [if_neg hl]; rfl
theorem admit_stage (x y : Int) : admitR 1 x y ≠ 0 := fun h => by
  have := (admit_zero.1 h).2.1
  cases this
theorem admitR_le (s e st : Int) : admitR s e st ≤ 22 := by
  unfold admitR
  repeat' split
  all_goals decide
structure OneAt (e : Int) (n : Nat) (w1 : World) (a o i : Value) (wr : World) (m : Int) (b : Bool) (k : Nat) : Prop where
  a : a = .int .i64 m
  o : o = .bool b
  i : i = .int .i64 k
  le : k ≤ n
  same : b = true → m = e
  low : Below w1.heap.size w1 wr
def VEnd (v : Value) (w : World) (x : Ending) (w2 : World) : Prop := x = .returned v ∧ Below w.heap.size w w2
theorem keep2 {W3 w w' : World} {b1 : Nat} {v1 v2 : Value} (h : w.cell? ⟨b1, 0, none⟩ = some v1 ∧ w.cell? ⟨b1, 1, none⟩ = some v2 ∧ Below W3.heap.size W3 w) (hb : Below w.heap.size w w') :
    w'.cell? ⟨b1, 0, none⟩ = some v1 ∧ w'.cell? ⟨b1, 1, none⟩ = some v2 ∧ Below W3.heap.size W3 w' :=
  ⟨keepC h.1 (lt_of_cell h.1) hb, keepC h.2.1 (lt_of_cell h.2.1) hb, h.2.2.trans (hb.mono h.2.2.size)⟩
set_option maxHeartbeats 8000000 in
theorem one_walk (a : Nat → Addr) (s e : Int) (A : Option Addr) (n c : Nat) (f : Nat → Int) (_w0 : (Lit.int .i64 s).wf = true) (_w1 : (Lit.int .i64 e).wf = true) (hnc : n ≤ c) (hcm : c ≤ maxLen) (w : World) (hrow : Row w A n (fun i => .int .i64 (f i))) (E : Env w a) :
    Calls Tryd.prog 5 #[.agg #[.int .i64 s, .int .i64 e], .slice A n c] w fun x w' => x = .returned (.bool true) ∧ Below w.heap.size w w' := by
  have HE := Lib.hid E
  have HR := Lib.hid hrow
  clear E hrow
  go_enter Tryd.func5, Tryd.ntmps5
  go_wp2_with fail
  refine (alive_any a _ (HE.out.below (ba (Below.refl _ _) _))).mono ?_
  rintro x1 w1 ⟨rfl, hb1⟩
  have q0 : w1.cell? ⟨w.heap.size, 0, none⟩ = some (.int .i64 s) := by rw [(bcell hb1).1 _ _ (by simp)]; simp
  have q1 : w1.cell? ⟨w.heap.size, 1, none⟩ = some (.int .i64 e) := by rw [(bcell hb1).1 _ _ (by simp)]; simp
  have HB1 : Hid (Below w.heap.size w w1) := (ba (Below.refl _ _) _).trans (hb1.mono (by simp))
  have hz1 : w.heap.size < w1.heap.size := by have := hb1.size; simp at this; omega
  clear hb1
  by_cases hn : 60 < n
  · go_wp2_with fail
    go_ret
    exact ⟨rfl, HB1.out⟩
  have hn' : ¬ (60 : Int) < (n : Int) := by omega
  go_wp2_with fail
  go_loopw [5, 6, 18] (fun s0 s1 s2 wr => ∃ m b k, OneAt e n w1 s0 s1 s2 wr m b k) (fun _ _ s2 _ => n - (intOf s2).toNat)
  case atStart => exact ⟨0, false, 0, rfl, rfl, rfl, Nat.zero_le _, (fun h => by cases h), Below.refl _ _⟩
  case round =>
    obtain ⟨m, b, k, rfl, rfl, rfl, hk, hs, hlow⟩ := hrel
    have HL := Lib.hid hlow
    have Hs := Lib.hid hs
    clear hlow hs
    have r0 := keepC q0 hz1 HL.out
    have r1 := keepC q1 hz1 HL.out
    by_cases hlt : k < n
    · obtain ⟨ad, rfl, hc⟩ := HR.out.at_ (HB1.out.trans (HL.out.mono (by omega))) hlt
      go_wp2_with fail
      refine (admit_any a _ _ _ _ (HE.out.below (HB1.out.trans (HL.out.mono (by omega))))).mono ?_
      rintro x2 w2 ⟨rfl, hb2⟩
      have HB2 : Hid (Below w1.heap.size w1 w2) := HL.out.trans (hb2.mono HL.out.size)
      have hz2 : w.heap.size < w2.heap.size := Nat.lt_of_lt_of_le hz1 HB2.out.size
      have p0 := keepC q0 hz1 HB2.out
      have p1 := keepC q1 hz1 HB2.out
      clear hb2 r0 r1
      by_cases hz : admitR s e (f k) = 0
      · obtain ⟨hr, hs2, hfe⟩ := admit_zero.1 hz
        have hv : errV a (admitR s e (f k)) = .nilIface := by rw [hz]; rfl
        subst hs2
        simp only [hv]
        clear hv hz
        have hfm : b = true → (e != m) = false := fun h => by rw [Hs.out h]; simp
        have hfe' : (f k != e) = false := by rw [hfe]; simp
        cases b
        · clear hfm
          go_wp2_with (go_at_call 20; refine (writes_any _ _ _).mono ?_; rintro e w' ⟨rfl, rfl⟩)
          go_round
          case rel => exact ⟨e, true, k + 1, rfl, rfl, by go_num, by omega, fun _ => rfl, ba HB2.out _⟩
          case measure => simp [intOf]; omega
        · have hfm' := hfm rfl
          clear hfm
          go_wp2_with (go_at_call 20; refine (writes_any _ _ _).mono ?_; rintro e w' ⟨rfl, rfl⟩)
          go_round
          case rel => exact ⟨e, true, k + 1, rfl, rfl, by go_num, by omega, fun _ => rfl, ba HB2.out _⟩
          case measure => simp [intOf]; omega
      · have hv := errV_pos a (admitR s e (f k)) (by omega)
        simp only [hv]
        clear hv
        go_wp2_with fail
        go_round
        case rel => exact ⟨m, b, k + 1, rfl, rfl, by go_num, by omega, Hs.out, HB2.out⟩
        case measure => simp [intOf]; omega
    · go_wp2_with fail
      have HBr : Hid (Below w.heap.size w wr) := HB1.out.trans (HL.out.mono (by omega))
      refine (stage_any a _ _ _ _ (HE.out.below HBr.out)).mono ?_
      rintro x2 w2 ⟨rfl, hb2⟩
      have HB2 : Hid (Below w1.heap.size w1 w2) := HL.out.trans (hb2.mono HL.out.size)
      have HB3 : Hid (Below w.heap.size w w2) := HB1.out.trans (HB2.out.mono (by omega))
      have hz2 : w.heap.size < w2.heap.size := Nat.lt_of_lt_of_le hz1 HB2.out.size
      have p0 := keepC q0 hz1 HB2.out
      have p1 := keepC q1 hz1 HB2.out
      clear hb2 r0 r1
      unfold PRes
      have hst := stage_one (s := s) (e := e) (x := 1099511627776)
      generalize stageR s e 1099511627776 = r at *
      have g0 : (w2.alloc (.cells #[.int .i64 r.1, .int .i64 r.2.1] 23)).cell? ⟨w.heap.size, 0, none⟩ = some (.int .i64 s) := keepC p0 hz2 (ba (Below.refl _ _) _)
      have g1 : (w2.alloc (.cells #[.int .i64 r.1, .int .i64 r.2.1] 23)).cell? ⟨w.heap.size, 1, none⟩ = some (.int .i64 e) := keepC p1 hz2 (ba (Below.refl _ _) _)
      by_cases hz : r.2.2 = 0
      · have h1 := hst hz
        have hv0 : errV a r.2.2 = .nilIface := by rw [hz]; rfl
        simp only [hv0]
        rw [h1] at g0 g1 ⊢
        clear hv0 hz hst
        have hv1 := errV_pos a (admitR 1 r.2.1 r.2.1) (by have := admit_stage r.2.1 r.2.1; omega)
        go_wp2_with (go_at_call 20; refine (writes_any _ _ _).mono ?_; rintro e w' ⟨rfl, rfl⟩)
        refine (admit_any a _ _ _ _ (HE.out.below (ba (ba HB3.out _) _))).mono ?_
        rintro x4 w5 ⟨rfl, hb5⟩
        have HB5 : Hid (Below w.heap.size w w5) := (ba (ba HB3.out _) _).trans (hb5.mono (by simp; omega))
        have hz5 : w.heap.size < w5.heap.size := by have := hb5.size; simp at this; omega
        replace p0 := keepC (keepC g0 (by simp; omega) (ba (Below.refl _ _) _)) (by simp; omega) hb5
        replace p1 := keepC (keepC g1 (by simp; omega) (ba (Below.refl _ _) _)) (by simp; omega) hb5
        clear hb5 g0 g1 q0 q1
        simp only [hv1]
        go_wp2_with fail
        have pB : Below w5.heap.size w5 w5.drew := bd (Below.refl _ _)
        replace p0 : w5.drew.cell? ⟨w.heap.size, 0, none⟩ = some (.int .i64 s) := p0
        replace p1 : w5.drew.cell? ⟨w.heap.size, 1, none⟩ = some (.int .i64 e) := p1
        cases hr : right s e
        · have hRt : Hid (∀ w, Names w → Calls Tryd.prog 17 #[.agg #[.int .i64 s, .int .i64 e]] w (REnd false s e w)) := fun w hN => hr ▸ right_any s e w hN
          have hAd := Lib.hid (fun w hE => admit_any a s e e w hE)
          have hWr := Lib.hid (fun w => writes_any s e w)
          first
            | (go_region_with (go_at_call 17; refine (hRt.out _ (HE.out.names.below (bd HB5.out))).mono ?_; rintro e w' ⟨rfl, rfl⟩))
            | fail "region"
          all_goals
            go_wp2_with fail
            go_ret
            exact ⟨rfl, ba (ba (bd HB5.out) _) _⟩
        · by_cases hz : admitR s e e = 0
          · have hs2 : (s == 2) = true := by rw [(admit_zero.1 hz).2.1]; rfl
            have hv : errV a (admitR s e e) = .nilIface := by rw [hz]; rfl
            clear hz
            have hRt : Hid (∀ w, Names w → Calls Tryd.prog 17 #[.agg #[.int .i64 s, .int .i64 e]] w (REnd true s e w)) := fun w hN => hr ▸ right_any s e w hN
            have hWr : Hid (∀ w : World, Calls Tryd.prog 20 #[.agg #[.int .i64 s, .int .i64 e]] w (fun x w' => x = .returned (.bool true) ∧ w.alloc (.cells #[.int .i64 s, .int .i64 e] 23) = w')) := fun w => hs2 ▸ writes_any s e w
            have hAd : Hid (∀ w, Env w a → Calls Tryd.prog 21 #[.agg #[.int .i64 s, .int .i64 e], .int .i64 e] w (VEnd .nilIface w)) := fun w hE => (admit_any a s e e w hE).mono (fun x w' ⟨h1, h2⟩ => ⟨by rw [h1, hv], h2⟩)
            go_region_held3 (fun w' => w'.cell? ⟨w.heap.size, 0, none⟩ = some (.int .i64 s) ∧ w'.cell? ⟨w.heap.size, 1, none⟩ = some (.int .i64 e) ∧ Below w5.heap.size w5 w')
            (first
                | exact ⟨p0, p1, pB⟩
                | exact keep2 (by assumption) (by assumption)
                | exact keep2 (by assumption) (ba (Below.refl _ _) _)
                | exact keep2 (by assumption) (ba (ba (Below.refl _ _) _) _))
              (first
                | (go_at_call 21; refine (hAd.out _ (HE.out.below (HB5.out.trans (Below.mono (And.right (And.right (by assumption))) (by omega))))).mono ?_; rintro e w' ⟨rfl, hb⟩)
                | (go_at_call 17; refine (hRt.out _ (HE.out.names.below (HB5.out.trans (Below.mono (And.right (And.right (by assumption))) (by omega))))).mono ?_; rintro e w' ⟨rfl, rfl⟩)
                | (go_at_call 20; refine (hWr.out _).mono ?_; rintro e w' ⟨rfl, rfl⟩))
            all_goals
              have hB6 := HB5.out.trans (Below.mono (And.right (And.right (by assumption))) (show w.heap.size ≤ w5.heap.size by omega))
              go_wp2_with fail
              go_ret
              exact ⟨rfl, hB6⟩
          · have hs2 : (s == 2) = false := by rw [beq_eq_false_iff_ne]; exact fun h => hz (admit_zero.2 ⟨hr, h, rfl⟩)
            have hv := errV_pos a (admitR s e e) (by omega)
            clear hz
            have hRt : Hid (∀ w, Names w → Calls Tryd.prog 17 #[.agg #[.int .i64 s, .int .i64 e]] w (REnd true s e w)) := fun w hN => hr ▸ right_any s e w hN
            have hWr : Hid (∀ w : World, Calls Tryd.prog 20 #[.agg #[.int .i64 s, .int .i64 e]] w (fun x w' => x = .returned (.bool false) ∧ w.alloc (.cells #[.int .i64 s, .int .i64 e] 23) = w')) := fun w => hs2 ▸ writes_any s e w
            have hAd : Hid (∀ w, Env w a → Calls Tryd.prog 21 #[.agg #[.int .i64 s, .int .i64 e], .int .i64 e] w (VEnd (.iface 143 (.pointer (some (a (admitR s e e))))) w)) := fun w hE => (admit_any a s e e w hE).mono (fun x w' ⟨h1, h2⟩ => ⟨by rw [h1, hv], h2⟩)
            go_region_held3 (fun w' => w'.cell? ⟨w.heap.size, 0, none⟩ = some (.int .i64 s) ∧ w'.cell? ⟨w.heap.size, 1, none⟩ = some (.int .i64 e) ∧ Below w5.heap.size w5 w')
            (first
                | exact ⟨p0, p1, pB⟩
                | exact keep2 (by assumption) (by assumption)
                | exact keep2 (by assumption) (ba (Below.refl _ _) _)
                | exact keep2 (by assumption) (ba (ba (Below.refl _ _) _) _))
              (first
                | (go_at_call 21; refine (hAd.out _ (HE.out.below (HB5.out.trans (Below.mono (And.right (And.right (by assumption))) (by omega))))).mono ?_; rintro e w' ⟨rfl, hb⟩)
                | (go_at_call 17; refine (hRt.out _ (HE.out.names.below (HB5.out.trans (Below.mono (And.right (And.right (by assumption))) (by omega))))).mono ?_; rintro e w' ⟨rfl, rfl⟩)
                | (go_at_call 20; refine (hWr.out _).mono ?_; rintro e w' ⟨rfl, rfl⟩))
            all_goals
              have hB6 := HB5.out.trans (Below.mono (And.right (And.right (by assumption))) (show w.heap.size ≤ w5.heap.size by omega))
              go_wp2_with fail
              go_ret
              exact ⟨rfl, hB6⟩
      · have hv0 := errV_pos a r.2.2 (by omega)
        simp only [hv0]
        clear hv0 hz hst
        go_wp2_with fail
        have HB5 : Hid (Below w.heap.size w _) := ba HB3.out (.cells #[.int .i64 r.1, .int .i64 r.2.1] 23)
        have hz5 : w.heap.size < (w2.alloc (.cells #[.int .i64 r.1, .int .i64 r.2.1] 23)).heap.size := by simp; omega
        replace p0 := g0
        replace p1 := g1
        clear g0 g1 q0 q1
        generalize w2.alloc (.cells #[.int .i64 r.1, .int .i64 r.2.1] 23) = w5 at *
        have pB : Below w5.heap.size w5 w5.drew := bd (Below.refl _ _)
        replace p0 : w5.drew.cell? ⟨w.heap.size, 0, none⟩ = some (.int .i64 s) := p0
        replace p1 : w5.drew.cell? ⟨w.heap.size, 1, none⟩ = some (.int .i64 e) := p1
        cases hr : right s e
        · have hRt : Hid (∀ w, Names w → Calls Tryd.prog 17 #[.agg #[.int .i64 s, .int .i64 e]] w (REnd false s e w)) := fun w hN => hr ▸ right_any s e w hN
          have hAd := Lib.hid (fun w hE => admit_any a s e e w hE)
          have hWr := Lib.hid (fun w => writes_any s e w)
          first
            | (go_region_with (go_at_call 17; refine (hRt.out _ (HE.out.names.below (bd HB5.out))).mono ?_; rintro e w' ⟨rfl, rfl⟩))
            | fail "region"
          all_goals
            go_wp2_with fail
            go_ret
            exact ⟨rfl, ba (ba (bd HB5.out) _) _⟩
        · by_cases hz : admitR s e e = 0
          · have hs2 : (s == 2) = true := by rw [(admit_zero.1 hz).2.1]; rfl
            have hv : errV a (admitR s e e) = .nilIface := by rw [hz]; rfl
            clear hz
            have hRt : Hid (∀ w, Names w → Calls Tryd.prog 17 #[.agg #[.int .i64 s, .int .i64 e]] w (REnd true s e w)) := fun w hN => hr ▸ right_any s e w hN
            have hWr : Hid (∀ w : World, Calls Tryd.prog 20 #[.agg #[.int .i64 s, .int .i64 e]] w (fun x w' => x = .returned (.bool true) ∧ w.alloc (.cells #[.int .i64 s, .int .i64 e] 23) = w')) := fun w => hs2 ▸ writes_any s e w
            have hAd : Hid (∀ w, Env w a → Calls Tryd.prog 21 #[.agg #[.int .i64 s, .int .i64 e], .int .i64 e] w (VEnd .nilIface w)) := fun w hE => (admit_any a s e e w hE).mono (fun x w' ⟨h1, h2⟩ => ⟨by rw [h1, hv], h2⟩)
            go_region_held3 (fun w' => w'.cell? ⟨w.heap.size, 0, none⟩ = some (.int .i64 s) ∧ w'.cell? ⟨w.heap.size, 1, none⟩ = some (.int .i64 e) ∧ Below w5.heap.size w5 w')
            (first
                | exact ⟨p0, p1, pB⟩
                | exact keep2 (by assumption) (by assumption)
                | exact keep2 (by assumption) (ba (Below.refl _ _) _)
                | exact keep2 (by assumption) (ba (ba (Below.refl _ _) _) _))
              (first
                | (go_at_call 21; refine (hAd.out _ (HE.out.below (HB5.out.trans (Below.mono (And.right (And.right (by assumption))) (by omega))))).mono ?_; rintro e w' ⟨rfl, hb⟩)
                | (go_at_call 17; refine (hRt.out _ (HE.out.names.below (HB5.out.trans (Below.mono (And.right (And.right (by assumption))) (by omega))))).mono ?_; rintro e w' ⟨rfl, rfl⟩)
                | (go_at_call 20; refine (hWr.out _).mono ?_; rintro e w' ⟨rfl, rfl⟩))
            all_goals
              have hB6 := HB5.out.trans (Below.mono (And.right (And.right (by assumption))) (show w.heap.size ≤ w5.heap.size by omega))
              go_wp2_with fail
              go_ret
              exact ⟨rfl, hB6⟩
          · have hs2 : (s == 2) = false := by rw [beq_eq_false_iff_ne]; exact fun h => hz (admit_zero.2 ⟨hr, h, rfl⟩)
            have hv := errV_pos a (admitR s e e) (by omega)
            clear hz
            have hRt : Hid (∀ w, Names w → Calls Tryd.prog 17 #[.agg #[.int .i64 s, .int .i64 e]] w (REnd true s e w)) := fun w hN => hr ▸ right_any s e w hN
            have hWr : Hid (∀ w : World, Calls Tryd.prog 20 #[.agg #[.int .i64 s, .int .i64 e]] w (fun x w' => x = .returned (.bool false) ∧ w.alloc (.cells #[.int .i64 s, .int .i64 e] 23) = w')) := fun w => hs2 ▸ writes_any s e w
            have hAd : Hid (∀ w, Env w a → Calls Tryd.prog 21 #[.agg #[.int .i64 s, .int .i64 e], .int .i64 e] w (VEnd (.iface 143 (.pointer (some (a (admitR s e e))))) w)) := fun w hE => (admit_any a s e e w hE).mono (fun x w' ⟨h1, h2⟩ => ⟨by rw [h1, hv], h2⟩)
            go_region_held3 (fun w' => w'.cell? ⟨w.heap.size, 0, none⟩ = some (.int .i64 s) ∧ w'.cell? ⟨w.heap.size, 1, none⟩ = some (.int .i64 e) ∧ Below w5.heap.size w5 w')
            (first
                | exact ⟨p0, p1, pB⟩
                | exact keep2 (by assumption) (by assumption)
                | exact keep2 (by assumption) (ba (Below.refl _ _) _)
                | exact keep2 (by assumption) (ba (ba (Below.refl _ _) _) _))
              (first
                | (go_at_call 21; refine (hAd.out _ (HE.out.below (HB5.out.trans (Below.mono (And.right (And.right (by assumption))) (by omega))))).mono ?_; rintro e w' ⟨rfl, hb⟩)
                | (go_at_call 17; refine (hRt.out _ (HE.out.names.below (HB5.out.trans (Below.mono (And.right (And.right (by assumption))) (by omega))))).mono ?_; rintro e w' ⟨rfl, rfl⟩)
                | (go_at_call 20; refine (hWr.out _).mono ?_; rintro e w' ⟨rfl, rfl⟩))
            all_goals
              have hB6 := HB5.out.trans (Below.mono (And.right (And.right (by assumption))) (show w.heap.size ≤ w5.heap.size by omega))
              go_wp2_with fail
              go_ret
              exact ⟨rfl, hB6⟩
end Go.Proofs.YtdglpbjofdipkaaDoor
