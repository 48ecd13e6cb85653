/- Scripts: the reference's Same. -/
import Derived.Test.YtmmiimcodbjnmaaDoorScD
namespace Go.Proofs.YtmmiimcodbjnmaaDoor
open Go.RowKit Go.Stop Go.Extern Go.Ranges Go.Rows2 Go.Sort
set_option linter.unusedVariables false
set_option linter.unusedSimpArgs false
set_option maxRecDepth 100000
set_option maxHeartbeats 8000000 in
theorem scRefSame_any (M N : Sact) (B K B' K' : Option Addr) (cb ck cb' ck' : Nat) (w : World) (h : ActIn w M B K) (h' : ActIn w N B' K') (hl : M.keep.length ≤ maxLen) :
    Calls Tryd.prog 22 #[.agg (actA M B cb K ck), .agg (actA N B' cb' K' ck')] w fun e w' => e = .returned (.bool (sameS M N)) ∧ Below w.heap.size w w' := by
  have b0 := stepV (alloc_below w (.cells (actA M B cb K ck) 41)) (alloc_below _ (.cells (actA N B' cb' K' ck') 41))
  have cv1 := (bytesIn_below' h.body b0).convert (P := Tryd.prog) rfl cb 34 5 9 Tryd.underlying34 Tryd.underlying5 Tryd.underlying9
  have cv2 := (bytesIn_below' h'.body b0).convert (P := Tryd.prog) rfl cb' 34 5 9 Tryd.underlying34 Tryd.underlying5 Tryd.underlying9
  have HB := Lib.hid b0
  have HK := Lib.hid (h.keep.below b0)
  have HK' := Lib.hid (h'.keep.below b0)
  have hn2 : (M.keep.length : Int) ≤ 9223372036854775807 := by unfold maxLen at hl; omega
  have a6 : ((w.alloc (.cells (actA M B cb K ck) 41)).alloc (.cells (actA N B' cb' K' ck') 41)).cell? ⟨w.heap.size, 6, none⟩ = some (.slice K M.keep.length ck) := (((alloc_below (w.alloc (.cells (actA M B cb K ck) 41)) (.cells (actA N B' cb' K' ck') 41)).cell (p := ⟨w.heap.size, 6, none⟩) (by simp)).trans (cell_of_row _ _ _ _ _ _ (heap_alloc_last w _))).trans rfl
  have b6 : ((w.alloc (.cells (actA M B cb K ck) 41)).alloc (.cells (actA N B' cb' K' ck') 41)).cell? ⟨w.heap.size + 1, 6, none⟩ = some (.slice K' N.keep.length ck') := by
    have := cell_of_row _ _ 6 _ _ _ (heap_alloc_last (w.alloc (.cells (actA M B cb K ck) 41)) (.cells (actA N B' cb' K' ck') 41))
    rw [show (w.alloc (.cells (actA M B cb K ck) 41)).heap.size = w.heap.size + 1 by simp] at this
    exact this.trans rfl
  have HA6 := Lib.hid (And.intro a6 b6)
  unfold actA at *
  unfold sameS strEq bytesEq
  clear h h' b0 hl a6 b6
  cases hk : (M.k == N.k) with
  | false =>
    have gk : (M.k != N.k) = true := by rw [bne, hk]; rfl
    go_enter Tryd.func22, Tryd.ntmps22
    go_wp2_with fail
    go_ret
    exact ⟨rfl, HB.out⟩
  | true =>
    have gk : (M.k != N.k) = false := by rw [bne, hk]; rfl
    cases hwho : (M.who == N.who) with
    | false =>
      have gwho : (M.who != N.who) = true := by rw [bne, hwho]; rfl
      go_enter Tryd.func22, Tryd.ntmps22
      go_wp2_with fail
      go_ret
      exact ⟨rfl, HB.out⟩
    | true =>
      have gwho : (M.who != N.who) = false := by rw [bne, hwho]; rfl
      cases hi : (M.i == N.i) with
      | false =>
        have gi : (M.i != N.i) = true := by rw [bne, hi]; rfl
        go_enter Tryd.func22, Tryd.ntmps22
        go_wp2_with fail
        go_ret
        exact ⟨rfl, HB.out⟩
      | true =>
        have gi : (M.i != N.i) = false := by rw [bne, hi]; rfl
        cases hj : (M.j == N.j) with
        | false =>
          have gj : (M.j != N.j) = true := by rw [bne, hj]; rfl
          go_enter Tryd.func22, Tryd.ntmps22
          go_wp2_with fail
          go_ret
          exact ⟨rfl, HB.out⟩
        | true =>
          have gj : (M.j != N.j) = false := by rw [bne, hj]; rfl
          cases hrepo : (M.repo.toList == N.repo.toList) with
          | false =>
            have grepo : (M.repo.toList != N.repo.toList) = true := by rw [bne, hrepo]; rfl
            go_enter Tryd.func22, Tryd.ntmps22
            go_wp2_with fail
            go_ret
            exact ⟨rfl, HB.out⟩
          | true =>
            have grepo : (M.repo.toList != N.repo.toList) = false := by rw [bne, hrepo]; rfl
            cases hbody : ((strOfNums M.body).toList == (strOfNums N.body).toList) with
            | false =>
              have gbody : ((strOfNums M.body).toList != (strOfNums N.body).toList) = true := by rw [bne, hbody]; rfl
              generalize strOfNums M.body = s1 at *
              generalize strOfNums N.body = s2 at *
              go_enter Tryd.func22, Tryd.ntmps22
              go_wp2_with fail
              go_ret
              exact ⟨rfl, HB.out⟩
            | true =>
              have gbody : ((strOfNums M.body).toList != (strOfNums N.body).toList) = false := by rw [bne, hbody]; rfl
              generalize strOfNums M.body = s1 at *
              generalize strOfNums N.body = s2 at *
              by_cases hnm : M.keep.length = N.keep.length
              · have HNM := Lib.hid hnm
                have d1 : ((M.keep.length : Int) != (N.keep.length : Int)) = false := by rw [hnm]; simp
                have d2 : (M.keep.length != N.keep.length) = false := by rw [hnm]; simp
                generalize hr : boolsEq M.keep N.keep = r
                have HRQ := Lib.hid hr
                clear hr hnm
                go_enter Tryd.func22, Tryd.ntmps22
                go_wp2_with fail
                obtain ⟨a6, b6⟩ := HA6.out
                generalize (w.alloc _).alloc _ = V at *
                clear cv1 cv2 hk gk hwho gwho hi gi hj gj hrepo grepo hbody gbody
                have HN := Lib.hid (rfl : M.keep.length = M.keep.length)
                generalize hn : M.keep.length = n at *
                have HNn := Lib.hid hn
                clear hn
                go_loopw [60] (fun x wr => ∃ k j : Nat, k ≤ n ∧ x = .int .i64 k ∧ wr = V.drewN j ∧ ∀ i, i < k → (M.keep.getD i false == N.keep.getD i false) = true) (fun x _ => n - (intOf x).toNat)
                case atStart => exact ⟨0, 0, Nat.zero_le _, rfl, rfl, fun i hi => absurd hi (Nat.not_lt_zero i)⟩
                case round =>
                  obtain ⟨k, dn, hk, rfl, rfl, hall⟩ := hrel
                  have HA := Lib.hid hall
                  clear hall
                  by_cases hlt : k < n
                  · obtain ⟨b, o, rfl, hc⟩ := HK.out (by omega)
                    obtain ⟨b', o', rfl, hc'⟩ := HK'.out (by rw [← HNM.out]; omega)
                    have h1 := hc k hlt
                    have h1' := hc' k (by rw [← HNM.out]; exact hlt)
                    have hk0 : (0 : Int) ≤ (k : Int) := by omega
                    have hk1 : (k : Int) < (N.keep.length : Int) := by rw [← HNM.out]; omega
                    clear hc hc'
                    have HHQ := Lib.hid (show (M.keep.getD k false == N.keep.getD k false) = true → ∀ i, i < k + 1 → (M.keep.getD i false == N.keep.getD i false) = true from fun h i hi => by
                      by_cases e : i = k
                      · subst e; exact h
                      · exact HA.out i (by omega))
                    have HHN := Lib.hid (show (M.keep.getD k false == N.keep.getD k false) = false → r = false from fun h => by rw [← HRQ.out]; exact boolsEq_no (by rw [HNn.out]; exact hlt) h)
                    cases hu : M.keep.getD k false <;> cases hv : N.keep.getD k false
                    all_goals
                      rw [hu] at h1
                      rw [hv] at h1'
                      have HU := Lib.hid hu
                      have HVV := Lib.hid hv
                      clear hu hv
                    · go_wp2_with fail
                      go_quiet (fail)
                      go_wp2_with fail
                      go_round
                      case rel => exact ⟨k + 1, dn + _, by omega, by go_num, rfl, HHQ.out (by rw [HU.out, HVV.out]; rfl)⟩
                      case measure => simp only [intOf]; omega
                    · go_wp2_with fail
                      go_quiet (fail)
                      go_wp2_with fail
                      go_ret
                      exact ⟨by rw [HHN.out (by rw [HU.out, HVV.out]; rfl)]; rfl, stepV HB.out (by rw [sc_drewN]; exact below_drewN _ _)⟩
                    · go_wp2_with fail
                      go_quiet (fail)
                      go_wp2_with fail
                      go_ret
                      exact ⟨by rw [HHN.out (by rw [HU.out, HVV.out]; rfl)]; rfl, stepV HB.out (by rw [sc_drewN]; exact below_drewN _ _)⟩
                    · go_wp2_with fail
                      go_quiet (fail)
                      go_wp2_with fail
                      go_round
                      case rel => exact ⟨k + 1, dn + _, by omega, by go_num, rfl, HHQ.out (by rw [HU.out, HVV.out]; rfl)⟩
                      case measure => simp only [intOf]; omega
                  · obtain rfl : k = n := by omega
                    go_wp2_with fail
                    go_ret
                    exact ⟨by rw [← HRQ.out, boolsEq_all (HNn.out.trans HNM.out) (fun i hi => HA.out i (by rw [← HNn.out]; exact hi))]; rfl, stepV HB.out (below_drewN _ _)⟩
              · have d1 : ((M.keep.length : Int) != (N.keep.length : Int)) = true := by rw [bne_iff_ne]; omega
                have d2 : (M.keep.length != N.keep.length) = true := by rw [bne_iff_ne]; exact hnm
                rw [boolsEq_ne hnm]
                clear hnm
                go_enter Tryd.func22, Tryd.ntmps22
                go_wp2_with fail
                go_ret
                exact ⟨rfl, HB.out⟩
end Go.Proofs.YtmmiimcodbjnmaaDoor
