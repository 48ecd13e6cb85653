/- Scripts: acts in memory; what is more than is asked; acts that are the same. -/
import Derived.Test.YtmmiimcodbjnmaaDoorScA
import Derived.Test.YtmmiimcodbjnmaaDoorBeq
import Derived.BigQuiet
import Derived.Deep.QuietTactic
namespace Go.Proofs.YtmmiimcodbjnmaaDoor
open Go.RowKit Go.Stop Go.Extern Go.Ranges Go.Rows2 Go.Sort
set_option linter.unusedVariables false
set_option linter.unusedSimpArgs false
set_option maxRecDepth 100000
/-- Truths in memory. -/
def BoolsIn (w : World) (K : Option Addr) (n : Nat) (l : List Bool) : Prop := 0 < n → ∃ b o, K = some ⟨b, o, none⟩ ∧ ∀ i, i < n → w.cell? ⟨b, o + i, none⟩ = some (.bool (l.getD i false))
theorem BoolsIn.below {w w' : World} {K : Option Addr} {n : Nat} {l : List Bool} (h : BoolsIn w K n l) (hb : Below w.heap.size w w') : BoolsIn w' K n l := fun hn => by
  obtain ⟨b, o, e, hc⟩ := h hn
  exact ⟨b, o, e, fun i hi => (hb.cell (p := ⟨b, o + i, none⟩) (World.block_lt_of_cell? w _ (hc i hi))).trans (hc i hi)⟩
structure ActIn (w : World) (M : Sact) (B K : Option Addr) : Prop where
  body : Lib.BytesIn w B M.body.length M.body
  keep : BoolsIn w K M.keep.length M.keep
theorem ActIn.below {w w' : World} {M : Sact} {B K : Option Addr} (h : ActIn w M B K) (hb : Below w.heap.size w w') : ActIn w' M B K := ⟨bytesIn_below' h.body hb, h.keep.below hb⟩
def boolsEq (l m : List Bool) : Bool := decide (l.length = m.length) && (List.range l.length).all fun i => l.getD i false == m.getD i false
theorem boolsEq_ne {l m : List Bool} (h : l.length ≠ m.length) : boolsEq l m = false := by unfold boolsEq; rw [decide_eq_false h, Bool.false_and]
theorem boolsEq_all {l m : List Bool} (h0 : l.length = m.length) (h : ∀ i, i < l.length → (l.getD i false == m.getD i false) = true) : boolsEq l m = true := by
  unfold boolsEq
  rw [decide_eq_true h0, Bool.true_and, List.all_eq_true]
  exact fun i hi => h i (List.mem_range.1 hi)
theorem boolsEq_no {l m : List Bool} {k : Nat} (hk : k < l.length) (h : (l.getD k false == m.getD k false) = false) : boolsEq l m = false := by
  cases e : boolsEq l m with
  | false => rfl
  | true =>
    unfold boolsEq at e
    rw [Bool.and_eq_true, List.all_eq_true] at e
    rw [e.2 k (List.mem_range.2 hk)] at h
    cases h
theorem sc_drewN (w : World) (i j : Nat) : (w.drewN i).drewN j = w.drewN (i + j) := by
  induction j with
  | zero => rfl
  | succ j ih =>
    show ((w.drewN i).drewN j).drew = (w.drewN (i + j)).drew
    rw [ih]
set_option maxHeartbeats 2000000 in
theorem eqBools_any (A A' : Option Addr) (n m c d : Nat) (l l' : List Bool) (w : World) (hn : l.length = n) (hm : l'.length = m) (hf : BoolsIn w A n l) (hg : BoolsIn w A' m l') (hx : n ≤ maxLen) :
    Calls Tryd.prog 46 #[.slice A n c, .slice A' m d] w fun e w' => e = .returned (.bool (boolsEq l l')) ∧ Below w.heap.size w w' := by
  have HF := Lib.hid hf
  have HG := Lib.hid hg
  have hn2 : (n : Int) ≤ 9223372036854775807 := by unfold maxLen at hx; omega
  have HN := Lib.hid hn
  have HM := Lib.hid hm
  clear hf hg hx hn hm
  by_cases hnm : n = m
  · subst hnm
    have HLL := Lib.hid (HN.out.trans HM.out.symm)
    go_enter Tryd.func46, Tryd.ntmps46
    go_wp2_with fail
    go_loopw [13] (fun x wr => ∃ k j : Nat, k ≤ n ∧ x = .int .i64 k ∧ wr = w.drewN j ∧ ∀ i, i < k → (l.getD i false == l'.getD i false) = true) (fun x _ => n - (intOf x).toNat)
    case atStart => exact ⟨0, 0, Nat.zero_le _, rfl, rfl, fun i hi => absurd hi (Nat.not_lt_zero i)⟩
    case round =>
      obtain ⟨k, dn, hk, rfl, rfl, hall⟩ := hrel
      have HA := Lib.hid hall
      clear hall
      by_cases hlt : k < n
      · obtain ⟨b, o, rfl, hc⟩ := HF.out (by omega)
        obtain ⟨b', o', rfl, hc'⟩ := HG.out (by omega)
        have h1 := hc k hlt
        have h1' := hc' k hlt
        have hk0 : (0 : Int) ≤ (k : Int) := by omega
        clear hc hc'
        have HHQ := Lib.hid (show (l.getD k false == l'.getD k false) = true → ∀ i, i < k + 1 → (l.getD i false == l'.getD i false) = true from fun h i hi => by
          by_cases e : i = k
          · subst e; exact h
          · exact HA.out i (by omega))
        have HHN := Lib.hid (show (l.getD k false == l'.getD k false) = false → boolsEq l l' = false from fun h => boolsEq_no (by rw [HN.out]; exact hlt) h)
        cases hu : l.getD k false <;> cases hv : l'.getD k false
        all_goals
          rw [hu] at h1
          rw [hv] at h1'
          have HU := Lib.hid hu
          have HVV := Lib.hid hv
          clear hu hv
        · go_wp2_with fail
          go_quiet (fail)
          go_wp2_with fail
          go_round
          case rel => exact ⟨k + 1, dn + _, by omega, by go_num, rfl, HHQ.out (by rw [HU.out, HVV.out]; rfl)⟩
          case measure => simp only [intOf]; omega
        · go_wp2_with fail
          go_quiet (fail)
          go_wp2_with fail
          go_ret
          exact ⟨by rw [HHN.out (by rw [HU.out, HVV.out]; rfl)]; rfl, by rw [sc_drewN]; exact below_drewN _ _⟩
        · go_wp2_with fail
          go_quiet (fail)
          go_wp2_with fail
          go_ret
          exact ⟨by rw [HHN.out (by rw [HU.out, HVV.out]; rfl)]; rfl, by rw [sc_drewN]; exact below_drewN _ _⟩
        · go_wp2_with fail
          go_quiet (fail)
          go_wp2_with fail
          go_round
          case rel => exact ⟨k + 1, dn + _, by omega, by go_num, rfl, HHQ.out (by rw [HU.out, HVV.out]; rfl)⟩
          case measure => simp only [intOf]; omega
      · obtain rfl : k = n := by omega
        go_wp2_with fail
        go_ret
        exact ⟨by rw [boolsEq_all HLL.out (fun i hi => HA.out i (by rw [← HN.out]; exact hi))]; rfl, below_drewN _ _⟩
  · have h1 : ((n : Int) != (m : Int)) = true := by rw [bne_iff_ne]; omega
    have h2 : (n != m) = true := by rw [bne_iff_ne]; exact hnm
    rw [boolsEq_ne (by rw [HN.out, HM.out]; exact hnm)]
    clear hnm
    go_enter Tryd.func46, Tryd.ntmps46
    go_wp2_with fail
    go_ret
    exact ⟨rfl, Below.refl _ _⟩
def LongS (w : World) (M : Sact) (e : Ending) (w' : World) : Prop := ∃ b, e = .returned (.bool b) ∧ Below w.heap.size w w'
theorem long31_any (M : Sact) (B K : Option Addr) (cb ck : Nat) (w : World) : Calls Tryd.prog 20 #[.agg (actA M B cb K ck)] w (LongS w M) := by
  have hb := Lib.hid (alloc_below w (.cells (actA M B cb K ck) 37))
  unfold actA at hb ⊢
  by_cases h1 : 400 < M.repo.size
  · have d1 : decide ((400 : Int) < (M.repo.size : Int)) = true := by rw [decide_eq_true_eq]; omega
    go_enter Tryd.func20, Tryd.ntmps20
    go_wp2_with fail
    go_ret
    exact ⟨_, rfl, hb.out⟩
  · have d1 : decide ((400 : Int) < (M.repo.size : Int)) = false := by rw [decide_eq_false_iff_not]; omega
    by_cases h2 : 3500 < M.body.length
    · have d2 : decide ((3500 : Int) < (M.body.length : Int)) = true := by rw [decide_eq_true_eq]; omega
      go_enter Tryd.func20, Tryd.ntmps20
      go_wp2_with fail
      go_ret
      exact ⟨_, rfl, hb.out⟩
    · have d2 : decide ((3500 : Int) < (M.body.length : Int)) = false := by rw [decide_eq_false_iff_not]; omega
      go_enter Tryd.func20, Tryd.ntmps20
      go_wp2_with fail
      go_ret
      exact ⟨_, rfl, hb.out⟩
/-- Are two acts the same? -/
def sameS (M N : Sact) : Bool := (M.k == N.k) && ((M.who == N.who) && ((M.i == N.i) && ((M.j == N.j) && (strEq M.repo N.repo && (bytesEq M.body N.body && boolsEq M.keep N.keep)))))
set_option maxHeartbeats 4000000 in
theorem scSame_any (M N : Sact) (B K B' K' : Option Addr) (cb ck cb' ck' : Nat) (w : World) (h : ActIn w M B K) (h' : ActIn w N B' K') (hl : M.keep.length ≤ maxLen) :
    Calls Tryd.prog 21 #[.agg (actA M B cb K ck), .agg (actA N B' cb' K' ck')] w fun e w' => e = .returned (.bool (sameS M N)) ∧ Below w.heap.size w w' := by
  have b0 := stepV (alloc_below w (.cells (actA M B cb K ck) 37)) (alloc_below _ (.cells (actA N B' cb' K' ck') 37))
  have KB := Lib.hid (bytes_any B B' M.body.length N.body.length cb cb' M.body N.body _ rfl rfl (bytesIn_below' h.body b0) (bytesIn_below' h'.body b0))
  have KE := Lib.hid (eqBools_any K K' M.keep.length N.keep.length ck ck' M.keep N.keep _ rfl rfl (h.keep.below b0) (h'.keep.below b0) hl)
  have HB := Lib.hid b0
  unfold actA at *
  unfold sameS strEq
  clear h h' b0 hl
  cases hk : (M.k == N.k) with
  | false =>
    go_enter Tryd.func21, Tryd.ntmps21
    go_wp2_with fail
    go_ret
    exact ⟨rfl, HB.out⟩
  | true =>
    cases hwho : (M.who == N.who) with
    | false =>
      go_enter Tryd.func21, Tryd.ntmps21
      go_wp2_with fail
      go_ret
      exact ⟨rfl, HB.out⟩
    | true =>
      cases hi : (M.i == N.i) with
      | false =>
        go_enter Tryd.func21, Tryd.ntmps21
        go_wp2_with fail
        go_ret
        exact ⟨rfl, HB.out⟩
      | true =>
        cases hj : (M.j == N.j) with
        | false =>
          go_enter Tryd.func21, Tryd.ntmps21
          go_wp2_with fail
          go_ret
          exact ⟨rfl, HB.out⟩
        | true =>
          cases hrepo : (M.repo.toList == N.repo.toList) with
          | false =>
            go_enter Tryd.func21, Tryd.ntmps21
            go_wp2_with fail
            go_ret
            exact ⟨rfl, HB.out⟩
          | true =>
            cases hb : bytesEq M.body N.body with
            | false =>
              rw [hb] at KB
              go_enter Tryd.func21, Tryd.ntmps21
              go_wp2_with fail
              refine KB.out.mono ?_
              rintro e w1 ⟨rfl, rfl⟩
              go_wp2_with fail
              go_ret
              exact ⟨rfl, HB.out⟩
            | true =>
              rw [hb] at KB
              generalize boolsEq M.keep N.keep = r at *
              go_enter Tryd.func21, Tryd.ntmps21
              go_wp2_with fail
              refine KB.out.mono ?_
              rintro e w1 ⟨rfl, rfl⟩
              go_wp2_with fail
              refine KE.out.mono ?_
              rintro e w2 ⟨rfl, hb2⟩
              go_wp2_with fail
              go_ret
              exact ⟨rfl, stepV HB.out hb2⟩
end Go.Proofs.YtmmiimcodbjnmaaDoor
