import Derived.Test.YtfhnhjklohfikaaLoadC
import Derived.Deep.LoopGhost
namespace Go.Proofs.Ytfhnhjklohfikaa
open Go.RowKit FloatOrd
set_option linter.unusedVariables false
attribute [local go_sem] call_bits call_frombits ge_sign
/-- Where the reference's first loop stands. -/
structure R1 (x : Nat) (n : Int) (w : World) (s0 s1 : Value) (wr : World) (x' : Nat) (n' : Int) : Prop where
  x0 : s0 = .float .f64 x'
  n0 : s1 = .int .i64 n'
  wd : Wd x'
  lo : -50 ≤ n'
  hi : n' ≤ 50
  st : stepF x' n' = stepF x n
  dr : ∃ k, w.drewN k = wr
structure R2 (x : Nat) (n : Int) (w : World) (s0 s1 : Value) (wr : World) (x' : Nat) (n' : Int) : Prop where
  x0 : s0 = .float .f64 x'
  n0 : s1 = .int .i64 n'
  wd : Wd x'
  lo : -50 ≤ n'
  hi : n' ≤ 50
  st : stepF x' (min n' 0) = stepF x n
  dr : ∃ k, w.drewN k = wr
theorem stepF_nan (x : Nat) (n : Int) (h : isNaN x = true) : stepF x n = x := by unfold stepF; rw [h]; rfl
theorem exit1 {x' : Nat} {n' : Int} (hx : Wd x') (h : n' ≤ 0 ∨ (0 < n' ∧ isNaN x' = true) ∨ (0 < n' ∧ isNaN x' = false ∧ (isInf x' && flt 0 x') = true)) : stepF x' (min n' 0) = stepF x' n' := by
  rcases h with h | ⟨h0, h⟩ | ⟨h0, h, ht⟩
  · rw [Int.min_eq_left h]
  · rw [stepF_nan _ _ h, stepF_nan _ _ h]
  · rw [top_test x' hx h, decide_eq_true_eq] at ht
    rw [Int.min_eq_right (by omega), stepF_zero x' hx, stepF_top x' _ hx h ht (by omega)]
theorem exit2 {x' : Nat} {n' : Int} (hx : Wd x') (h : 0 ≤ n' ∨ (n' < 0 ∧ isNaN x' = true) ∨ (n' < 0 ∧ isNaN x' = false ∧ (isInf x' && flt x' 0) = true)) : stepF x' (min n' 0) = x' := by
  rcases h with h | ⟨h0, h⟩ | ⟨h0, h, ht⟩
  · rw [Int.min_eq_right h, stepF_zero x' hx]
  · rw [stepF_nan _ _ h]
  · rw [bottom_test x' hx h, decide_eq_true_eq] at ht
    rw [Int.min_eq_left (by omega), stepF_bottom x' _ hx h ht (by omega)]
theorem ways1 (x' : Nat) (n' : Int) : (0 < n' ∧ isNaN x' = false ∧ (isInf x' && flt 0 x') = false) ∨ (n' ≤ 0 ∨ (0 < n' ∧ isNaN x' = true) ∨ (0 < n' ∧ isNaN x' = false ∧ (isInf x' && flt 0 x') = true)) := by
  by_cases h : 0 < n'
  · cases h2 : isNaN x'
    · cases h3 : (isInf x' && flt 0 x')
      · exact .inl ⟨h, rfl, rfl⟩
      · exact .inr (.inr (.inr ⟨h, rfl, rfl⟩))
    · exact .inr (.inr (.inl ⟨h, rfl⟩))
  · exact .inr (.inl (by omega))
theorem ways2 (x' : Nat) (n' : Int) : (n' < 0 ∧ isNaN x' = false ∧ (isInf x' && flt x' 0) = false) ∨ (0 ≤ n' ∨ (n' < 0 ∧ isNaN x' = true) ∨ (n' < 0 ∧ isNaN x' = false ∧ (isInf x' && flt x' 0) = true)) := by
  by_cases h : n' < 0
  · cases h2 : isNaN x'
    · cases h3 : (isInf x' && flt x' 0)
      · exact .inl ⟨h, rfl, rfl⟩
      · exact .inr (.inr (.inr ⟨h, rfl, rfl⟩))
    · exact .inr (.inr (.inl ⟨h, rfl⟩))
  · exact .inr (.inl (by omega))
theorem up_step {x' : Nat} {n' : Int} (hx : Wd x') (h0 : 0 < n') (hn : isNaN x' = false) (ht : (isInf x' && flt 0 x') = false) : stepF (upF x') (n' - 1) = stepF x' n' ∧ Wd (upF x') := by
  rw [top_test x' hx hn, decide_eq_false_iff_not] at ht
  have h := stepF_up x' n' hx hn (by have := place_num hn; omega) h0
  exact ⟨h.1, h.2.1⟩
theorem down_step {x' : Nat} {n' : Int} (hx : Wd x') (h0 : n' < 0) (hn : isNaN x' = false) (ht : (isInf x' && flt x' 0) = false) : stepF (downF x') (min (n' + 1) 0) = stepF x' (min n' 0) ∧ Wd (downF x') := by
  rw [bottom_test x' hx hn, decide_eq_false_iff_not] at ht
  have h := stepF_down x' n' hx hn (by have := place_low hn; omega) h0
  rw [Int.min_eq_left (by omega), Int.min_eq_left (by omega)]
  exact ⟨h.1, h.2.1⟩
theorem upF_a {x : Nat} (h : ((x : Int) == 9223372036854775808) = true) : upF x = 0 := by
  have h := beq_iff_eq.1 h
  unfold upF; rw [if_pos (by omega)]
theorem upF_b {x : Nat} (hx : Wd x) (h : ((x : Int) == 9223372036854775808) = false) (hs : neg x = true) : upF x = (IntKind.u64.wrap ((x : Int) - 1)).toNat := by
  have h := beq_eq_false_iff_ne.1 h
  have hx := hx.out
  have hs' := of_decide_eq_true hs
  unfold upF; rw [if_neg (by omega), hs, if_pos rfl, u64_wrap]; omega
theorem upF_c {x : Nat} (hx : Wd x) (h : ((x : Int) == 9223372036854775808) = false) (hs : neg x = false) : upF x = (IntKind.u64.wrap ((x : Int) + 1)).toNat := by
  have h := beq_eq_false_iff_ne.1 h
  have hx := hx.out
  have hs' := of_decide_eq_false hs
  unfold upF; rw [if_neg (by omega), hs, if_neg (by simp), u64_wrap]; omega
theorem downF_a {x : Nat} (h : ((x : Int) == 0) = true) : downF x = 9223372036854775808 := by
  have h := beq_iff_eq.1 h
  unfold downF; rw [if_pos (by omega)]
theorem downF_b {x : Nat} (hx : Wd x) (hd : Wd (downF x)) (h : ((x : Int) == 0) = false) (hs : neg x = true) : downF x = (IntKind.u64.wrap ((x : Int) + 1)).toNat := by
  have h := beq_eq_false_iff_ne.1 h
  have hd := hd.out
  have hx := hx.out
  have hs' := of_decide_eq_true hs
  unfold downF at *; rw [if_neg (by omega), hs, if_pos rfl] at *; rw [u64_wrap]; omega
theorem downF_c {x : Nat} (hx : Wd x) (h : ((x : Int) == 0) = false) (hs : neg x = false) : downF x = (IntKind.u64.wrap ((x : Int) - 1)).toNat := by
  have h := beq_eq_false_iff_ne.1 h
  have hx := hx.out
  unfold downF; rw [if_neg (by omega), hs, if_neg (by simp), u64_wrap]; omega
set_option maxRecDepth 100000 in
theorem refSteps_any (x : Nat) (n : Int) (hx : Wd x) (h1 : -50 ≤ n) (h2 : n ≤ 50) (w : World) :
    Calls Try.prog 21 #[.float .f64 x, .int .i64 n] w fun e w' => e = .returned (.float .f64 (stepF x n)) ∧ ∃ k, w.drewN k = w' := by
  have hz : Wd 0 := by unfold Wd; decide
  go_enter Try.func21, Try.ntmps21
  go_wp2_with fail
  go_loopw [0, 1] (fun s0 s1 wr => ∃ x' n', R1 x n w s0 s1 wr x' n') (fun _ s1 _ => (intOf s1).toNat)
  case atStart => exact ⟨x, n, ⟨rfl, rfl, hx, h1, h2, rfl, 0, rfl⟩⟩
  case round =>
    obtain ⟨x', n', ⟨rfl, rfl, hx', l', u', st, k, rfl⟩⟩ := hrel
    have St := Lib.hid st; clear st
    obtain ⟨r, w1, hq, hr, nd, hw⟩ := run_sub x' x' 22 (w.drewN k)
    subst hw
    have hrd := hr.wd
    have er : (FloatKind.f64.format.order r 0 != some Ordering.eq) = !(feq r 0) := by rw [bne, eq_test r 0 hrd hz]
    have eg := gt_test x' 0 hx' hz
    have hd := Lib.hid (tell_diff x' r hx' hr)
    rcases ways1 x' n' with ⟨hn, hnan, htop⟩ | hex
    · have Us := Lib.hid (up_step hx' hn hnan htop)
      have hd' := hd.out hnan
      rw [hd'] at er
      clear hd'
      have hcase : isInf x' = false ∨ (isInf x' = true ∧ flt 0 x' = false) := by
        cases h1 : isInf x'
        · exact .inl rfl
        · rw [h1] at htop; exact .inr ⟨rfl, htop⟩
      clear htop
      rcases hcase with hi | ⟨hi, ht⟩
      all_goals
        go_wp2_with (first
          | (go_at_call 31; refine (nan_any _ hx' _).mono ?_; rintro e w' ⟨rfl, rfl⟩)
          | (go_at_call 44; refine (minus_any _ hx' _).mono ?_; rintro e w' ⟨rfl, rfl⟩))
        all_goals
          have U := Us.out
          first
            | rw [upF_a (by assumption)] at U
            | rw [upF_b hx' (by assumption) (by assumption)] at U
            | rw [upF_c hx' (by assumption) (by assumption)] at U
          exact ⟨⟨_, _, ⟨rfl, rfl, U.2, by omega, by omega, U.1.trans St.out, _, rfl⟩⟩, by simp [intOf]; omega⟩
    · have E := Lib.hid (exit1 hx' hex)
      have hcase : n' ≤ 0 ∨ (0 < n' ∧ isNaN x' = true) ∨ (0 < n' ∧ isNaN x' = false ∧ isInf x' = true ∧ flt 0 x' = true) := by
        rcases hex with h | h | ⟨h1, h2, h3⟩
        · exact .inl h
        · exact .inr (.inl h)
        · rw [Bool.and_eq_true] at h3
          exact .inr (.inr ⟨h1, h2, h3.1, h3.2⟩)
      clear hex
      have er' := Lib.hid er
      clear er
      rcases hcase with hn | ⟨hn, hnan⟩ | ⟨hn, hnan, hi, ht⟩
      rotate_left 2
      · have er := er'.out
        rw [hd.out hnan] at er
        go_wp2_with (first
          | (go_at_call 31; refine (nan_any _ hx' _).mono ?_; rintro e w' ⟨rfl, rfl⟩))
        all_goals
          clear hq hr hrd eg hd er'
          go_loopw [0, 1] (fun s0 s1 wr => ∃ x' n', R2 x n w s0 s1 wr x' n') (fun _ s1 _ => (- intOf s1).toNat)
          case atStart => exact ⟨x', n', ⟨rfl, rfl, hx', l', u', E.out.trans St.out, _, rfl⟩⟩
          case round =>
            obtain ⟨y, m, ⟨rfl, rfl, hy, ly, uy, st2, k2, rfl⟩⟩ := hrel
            have St2 := Lib.hid st2
            clear st2 St E
            obtain ⟨r2, w2, hq2, hr2, nd2, hw2⟩ := run_sub y y 22 (w.drewN k2)
            subst hw2
            have hrd2 := hr2.wd
            have er2 : (FloatKind.f64.format.order r2 0 != some Ordering.eq) = !(feq r2 0) := by rw [bne, eq_test r2 0 hrd2 hz]
            have el2 := lt_test y 0 hy hz
            have hd2 := Lib.hid (tell_diff y r2 hy hr2)
            rcases ways2 y m with ⟨hm, hnany, htop2⟩ | hex2
            · have Us2 := Lib.hid (down_step hy hm hnany htop2)
              have hd' := hd2.out hnany
              rw [hd'] at er2
              clear hd'
              have hcase2 : isInf y = false ∨ (isInf y = true ∧ flt y 0 = false) := by
                cases h1 : isInf y
                · exact .inl rfl
                · rw [h1] at htop2; exact .inr ⟨rfl, htop2⟩
              clear htop2
              rcases hcase2 with hi2 | ⟨hi2, ht2⟩
              all_goals
                go_wp2_with (first
                  | (go_at_call 31; refine (nan_any _ hy _).mono ?_; rintro e w' ⟨rfl, rfl⟩)
                  | (go_at_call 44; refine (minus_any _ hy _).mono ?_; rintro e w' ⟨rfl, rfl⟩))
                all_goals
                  have U := Us2.out
                  first
                    | rw [downF_a (by assumption)] at U
                    | rw [downF_b hy U.2 (by assumption) (by assumption)] at U
                    | rw [downF_c hy (by assumption) (by assumption)] at U
                  exact ⟨⟨_, _, ⟨rfl, rfl, U.2, by omega, by omega, U.1.trans St2.out, _, rfl⟩⟩, by simp [intOf]; omega⟩
            · have E2 := Lib.hid (exit2 hy hex2)
              have hcase2 : 0 ≤ m ∨ (m < 0 ∧ isNaN y = true) ∨ (m < 0 ∧ isNaN y = false ∧ isInf y = true ∧ flt y 0 = true) := by
                rcases hex2 with h | h | ⟨h1, h2, h3⟩
                · exact .inl h
                · exact .inr (.inl h)
                · rw [Bool.and_eq_true] at h3
                  exact .inr (.inr ⟨h1, h2, h3.1, h3.2⟩)
              clear hex2
              have er2' := Lib.hid er2
              clear er2
              rcases hcase2 with hm | ⟨hm, hnany⟩ | ⟨hm, hnany, hi2, ht2⟩
              rotate_left 2
              · have er2 := er2'.out
                rw [hd2.out hnany] at er2
                go_wp2_with (first
                  | (go_at_call 31; refine (nan_any _ hy _).mono ?_; rintro e w' ⟨rfl, rfl⟩))
                go_ret
                exact ⟨ret_float (E2.out.symm.trans St2.out), _, rfl⟩
              · go_wp2_with fail
                go_ret
                exact ⟨ret_float (E2.out.symm.trans St2.out), _, rfl⟩
              · go_wp2_with (first
                  | (go_at_call 31; refine (nan_any _ hy _).mono ?_; rintro e w' ⟨rfl, rfl⟩))
                go_ret
                exact ⟨ret_float (E2.out.symm.trans St2.out), _, rfl⟩
      · go_wp2_with fail
        all_goals
          clear hq hr hrd eg hd er'
          go_loopw [0, 1] (fun s0 s1 wr => ∃ x' n', R2 x n w s0 s1 wr x' n') (fun _ s1 _ => (- intOf s1).toNat)
          case atStart => exact ⟨x', n', ⟨rfl, rfl, hx', l', u', E.out.trans St.out, _, rfl⟩⟩
          case round =>
            obtain ⟨y, m, ⟨rfl, rfl, hy, ly, uy, st2, k2, rfl⟩⟩ := hrel
            have St2 := Lib.hid st2
            clear st2 St E
            obtain ⟨r2, w2, hq2, hr2, nd2, hw2⟩ := run_sub y y 22 (w.drewN k2)
            subst hw2
            have hrd2 := hr2.wd
            have er2 : (FloatKind.f64.format.order r2 0 != some Ordering.eq) = !(feq r2 0) := by rw [bne, eq_test r2 0 hrd2 hz]
            have el2 := lt_test y 0 hy hz
            have hd2 := Lib.hid (tell_diff y r2 hy hr2)
            rcases ways2 y m with ⟨hm, hnany, htop2⟩ | hex2
            · have Us2 := Lib.hid (down_step hy hm hnany htop2)
              have hd' := hd2.out hnany
              rw [hd'] at er2
              clear hd'
              have hcase2 : isInf y = false ∨ (isInf y = true ∧ flt y 0 = false) := by
                cases h1 : isInf y
                · exact .inl rfl
                · rw [h1] at htop2; exact .inr ⟨rfl, htop2⟩
              clear htop2
              rcases hcase2 with hi2 | ⟨hi2, ht2⟩
              all_goals
                go_wp2_with (first
                  | (go_at_call 31; refine (nan_any _ hy _).mono ?_; rintro e w' ⟨rfl, rfl⟩)
                  | (go_at_call 44; refine (minus_any _ hy _).mono ?_; rintro e w' ⟨rfl, rfl⟩))
                all_goals
                  have U := Us2.out
                  first
                    | rw [downF_a (by assumption)] at U
                    | rw [downF_b hy U.2 (by assumption) (by assumption)] at U
                    | rw [downF_c hy (by assumption) (by assumption)] at U
                  exact ⟨⟨_, _, ⟨rfl, rfl, U.2, by omega, by omega, U.1.trans St2.out, _, rfl⟩⟩, by simp [intOf]; omega⟩
            · have E2 := Lib.hid (exit2 hy hex2)
              have hcase2 : 0 ≤ m ∨ (m < 0 ∧ isNaN y = true) ∨ (m < 0 ∧ isNaN y = false ∧ isInf y = true ∧ flt y 0 = true) := by
                rcases hex2 with h | h | ⟨h1, h2, h3⟩
                · exact .inl h
                · exact .inr (.inl h)
                · rw [Bool.and_eq_true] at h3
                  exact .inr (.inr ⟨h1, h2, h3.1, h3.2⟩)
              clear hex2
              have er2' := Lib.hid er2
              clear er2
              rcases hcase2 with hm | ⟨hm, hnany⟩ | ⟨hm, hnany, hi2, ht2⟩
              rotate_left 2
              · have er2 := er2'.out
                rw [hd2.out hnany] at er2
                go_wp2_with (first
                  | (go_at_call 31; refine (nan_any _ hy _).mono ?_; rintro e w' ⟨rfl, rfl⟩))
                go_ret
                exact ⟨ret_float (E2.out.symm.trans St2.out), _, rfl⟩
              · go_wp2_with fail
                go_ret
                exact ⟨ret_float (E2.out.symm.trans St2.out), _, rfl⟩
              · go_wp2_with (first
                  | (go_at_call 31; refine (nan_any _ hy _).mono ?_; rintro e w' ⟨rfl, rfl⟩))
                go_ret
                exact ⟨ret_float (E2.out.symm.trans St2.out), _, rfl⟩
      · go_wp2_with (first
          | (go_at_call 31; refine (nan_any _ hx' _).mono ?_; rintro e w' ⟨rfl, rfl⟩))
        all_goals
          clear hq hr hrd eg hd er'
          go_loopw [0, 1] (fun s0 s1 wr => ∃ x' n', R2 x n w s0 s1 wr x' n') (fun _ s1 _ => (- intOf s1).toNat)
          case atStart => exact ⟨x', n', ⟨rfl, rfl, hx', l', u', E.out.trans St.out, _, rfl⟩⟩
          case round =>
            obtain ⟨y, m, ⟨rfl, rfl, hy, ly, uy, st2, k2, rfl⟩⟩ := hrel
            have St2 := Lib.hid st2
            clear st2 St E
            obtain ⟨r2, w2, hq2, hr2, nd2, hw2⟩ := run_sub y y 22 (w.drewN k2)
            subst hw2
            have hrd2 := hr2.wd
            have er2 : (FloatKind.f64.format.order r2 0 != some Ordering.eq) = !(feq r2 0) := by rw [bne, eq_test r2 0 hrd2 hz]
            have el2 := lt_test y 0 hy hz
            have hd2 := Lib.hid (tell_diff y r2 hy hr2)
            rcases ways2 y m with ⟨hm, hnany, htop2⟩ | hex2
            · have Us2 := Lib.hid (down_step hy hm hnany htop2)
              have hd' := hd2.out hnany
              rw [hd'] at er2
              clear hd'
              have hcase2 : isInf y = false ∨ (isInf y = true ∧ flt y 0 = false) := by
                cases h1 : isInf y
                · exact .inl rfl
                · rw [h1] at htop2; exact .inr ⟨rfl, htop2⟩
              clear htop2
              rcases hcase2 with hi2 | ⟨hi2, ht2⟩
              all_goals
                go_wp2_with (first
                  | (go_at_call 31; refine (nan_any _ hy _).mono ?_; rintro e w' ⟨rfl, rfl⟩)
                  | (go_at_call 44; refine (minus_any _ hy _).mono ?_; rintro e w' ⟨rfl, rfl⟩))
                all_goals
                  have U := Us2.out
                  first
                    | rw [downF_a (by assumption)] at U
                    | rw [downF_b hy U.2 (by assumption) (by assumption)] at U
                    | rw [downF_c hy (by assumption) (by assumption)] at U
                  exact ⟨⟨_, _, ⟨rfl, rfl, U.2, by omega, by omega, U.1.trans St2.out, _, rfl⟩⟩, by simp [intOf]; omega⟩
            · have E2 := Lib.hid (exit2 hy hex2)
              have hcase2 : 0 ≤ m ∨ (m < 0 ∧ isNaN y = true) ∨ (m < 0 ∧ isNaN y = false ∧ isInf y = true ∧ flt y 0 = true) := by
                rcases hex2 with h | h | ⟨h1, h2, h3⟩
                · exact .inl h
                · exact .inr (.inl h)
                · rw [Bool.and_eq_true] at h3
                  exact .inr (.inr ⟨h1, h2, h3.1, h3.2⟩)
              clear hex2
              have er2' := Lib.hid er2
              clear er2
              rcases hcase2 with hm | ⟨hm, hnany⟩ | ⟨hm, hnany, hi2, ht2⟩
              rotate_left 2
              · have er2 := er2'.out
                rw [hd2.out hnany] at er2
                go_wp2_with (first
                  | (go_at_call 31; refine (nan_any _ hy _).mono ?_; rintro e w' ⟨rfl, rfl⟩))
                go_ret
                exact ⟨ret_float (E2.out.symm.trans St2.out), _, rfl⟩
              · go_wp2_with fail
                go_ret
                exact ⟨ret_float (E2.out.symm.trans St2.out), _, rfl⟩
              · go_wp2_with (first
                  | (go_at_call 31; refine (nan_any _ hy _).mono ?_; rintro e w' ⟨rfl, rfl⟩))
                go_ret
                exact ⟨ret_float (E2.out.symm.trans St2.out), _, rfl⟩
end Go.Proofs.Ytfhnhjklohfikaa
