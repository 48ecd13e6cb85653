/- Messages: the chapter's example, what is more than is asked. -/
import Derived.Test.YtbapkamopelgpaaDoorMsgT
namespace Go.Proofs.YtbapkamopelgpaaDoor
open Go.RowKit Go.Stop Go.Extern Go.Ranges Go.Rows2 Go.Sort
set_option linter.unusedVariables false
set_option linter.unusedSimpArgs false
set_option maxRecDepth 100000
def msg1 : Msg := ⟨1, 0, 0, 0, ⟨#[]⟩, 0, 0, 0, 0, 0, 0, [], []⟩
theorem msgC_ok {M : Msg} (hk : 1 ≤ M.k ∧ M.k ≤ 10) (hr : M.repo.size ≤ 255) (hl : M.list = []) (hn : numsOK M = true) (hb : M.body.length + M.repo.size ≤ 2950) : msgC M = 0 := by
  have h0 : chkC M = 0 := by
    unfold chkC
    rw [if_neg (by omega), if_neg (by rw [hl]; simp; omega)]
  have hf : msgFit M = true := by rw [msgFit_eq M (by omega) (by rw [hl]; simp) (by omega) (fun i hi => by rw [hl] at hi; exact absurd hi (by simp)), hn]
  unfold msgC
  rw [h0, hf, msgB_len, hl]
  have : sumL [] = 0 := rfl
  rw [this]
  rw [if_neg (by decide), if_neg (by decide), if_neg (by omega)]
set_option maxHeartbeats 2000000 in
theorem alive16 (a : Nat → Addr) (w : World) (HV : MsgV w a) : Calls Tryd.prog 12 #[] w fun x w' => x = .returned (.bool true) ∧ Below w.heap.size w w' := by
  have hB := msgBytes_short msg1 none none 0 0 a w HV ⟨fun h => absurd h (by decide), fun h => absurd h (by decide)⟩ (by decide) (fun i hi => absurd hi (by simp [msg1]))
  have hz : msgC msg1 = 0 := msgC_ok (by decide) (by decide) rfl (by decide) (by decide)
  have hlen : (msgB msg1).length = 50 := by rw [msgB_len]; rfl
  have hC : Calls Tryd.prog 44 #[.agg #[.int .i64 1, .int .i64 0, .int .i64 0, .int .i64 0, .string ⟨#[]⟩, .int .i64 0, .int .i64 0, .int .i64 0, .int .i64 0, .int .i64 0, .int .i64 0, .slice none 0 0, .slice none 0 0]] w fun e w' => ∃ A c, e = .returned (.tuple #[.slice A 50 c, .nilIface]) ∧ Below w.heap.size w w' := by
    refine (show Calls Tryd.prog 44 #[.agg #[.int .i64 1, .int .i64 0, .int .i64 0, .int .i64 0, .string ⟨#[]⟩, .int .i64 0, .int .i64 0, .int .i64 0, .int .i64 0, .int .i64 0, .int .i64 0, .slice none 0 0, .slice none 0 0]] w (MsgEnd w a msg1) from hB).mono ?_
    rintro e w' ⟨hb, h0, _⟩
    obtain ⟨A, c, he, _⟩ := h0 hz
    rw [hlen] at he
    exact ⟨A, c, he, hb⟩
  have HC := Lib.hid hC
  clear hB hz hlen hC HV
  go_enter Tryd.func12, Tryd.ntmps12
  go_wp2_with (go_at_call 44; refine HC.out.mono ?_; rintro e w1 ⟨A, c, rfl, hb1⟩)
  go_ret
  exact ⟨rfl, hb1⟩
def SmallM (M : Msg) : Prop := M.repo.size ≤ 400 ∧ M.body.length ≤ 3500 ∧ M.list.length ≤ 70 ∧ ∀ i, i < M.list.length → (M.list.getD i []).length ≤ 3500
def LongEnd (w : World) (M : Msg) (e : Ending) (w' : World) : Prop := ∃ b, e = .returned (.bool b) ∧ (b = false → SmallM M) ∧ Below w.heap.size w w'
set_option maxHeartbeats 4000000 in
theorem longM_any (M : Msg) (B L : Option Addr) (cb cl : Nat) (w : World) (h : MsgIn w M B L) : Calls Tryd.prog 13 #[.agg (msgA M B cb L cl)] w (LongEnd w M) := by
  have HP := Lib.hid h.list
  have hb := alloc_below w (.cells (msgA M B cb L cl) 25)
  clear h
  have hc : (400 : Int) < (M.repo.size : Int) ∨ (¬ (400 : Int) < (M.repo.size : Int) ∧ (3500 : Int) < (M.body.length : Int)) ∨ (¬ (400 : Int) < (M.repo.size : Int) ∧ ¬ (3500 : Int) < (M.body.length : Int) ∧ (70 : Int) < (M.list.length : Int)) ∨
      (¬ (400 : Int) < (M.repo.size : Int) ∧ ¬ (3500 : Int) < (M.body.length : Int) ∧ ¬ (70 : Int) < (M.list.length : Int)) := by omega
  unfold msgA at hb ⊢
  rcases hc with h1 | ⟨h1, h2⟩ | ⟨h1, h2, h3⟩ | ⟨h1, h2, h3⟩
  · go_enter Tryd.func13, Tryd.ntmps13
    go_wp2_with fail
    go_ret
    exact ⟨true, rfl, (fun h => by cases h), hb⟩
  · go_enter Tryd.func13, Tryd.ntmps13
    go_wp2_with fail
    go_ret
    exact ⟨true, rfl, (fun h => by cases h), hb⟩
  · go_enter Tryd.func13, Tryd.ntmps13
    go_wp2_with fail
    go_ret
    exact ⟨true, rfl, (fun h => by cases h), hb⟩
  · have HS : Hid (M.repo.size ≤ 400 ∧ M.body.length ≤ 3500 ∧ M.list.length ≤ 70) := ⟨by omega, by omega, by omega⟩
    have HB := Lib.hid hb
    have hl70 : M.list.length ≤ 70 := by omega
    clear hb
    go_enter Tryd.func13, Tryd.ntmps13
    go_wp2_with fail
    clear h1 h2
    generalize hV : w.alloc _ = V at *
    go_loopw [25, 3] (fun x y wr => ∃ k n : Nat, k ≤ M.list.length ∧ n ≤ k * 3500 ∧ x = .int .i64 k ∧ y = .int .i64 n ∧ V = wr ∧ ∀ i, i < k → (M.list.getD i []).length ≤ 3500) (fun x _ _ => M.list.length - (intOf x).toNat)
    case atStart => exact ⟨0, 0, Nat.zero_le _, by omega, rfl, rfl, rfl, fun i hi => absurd hi (by omega)⟩
    case round =>
      obtain ⟨k, n, hk, hn, rfl, rfl, rfl, hall⟩ := hrel
      have HA := Lib.hid hall
      clear hall
      by_cases hlt : k < M.list.length
      · obtain ⟨b, o, rfl, hbl, hc⟩ := HP.out (by omega)
        obtain ⟨D, e, c1, _⟩ := hc k hlt
        have c2 : V.cell? ⟨b, o + k, none⟩ = some (.slice D (M.list.getD k []).length e) := (HB.out.cell (p := ⟨b, o + k, none⟩) hbl).trans c1
        clear hc c1
        by_cases h5 : 3500 < (M.list.getD k []).length
        · have h5' : (3500 : Int) < ((M.list.getD k []).length : Int) := by omega
          generalize (M.list.getD k []).length = m at *
          go_wp2_with fail
          go_ret
          exact ⟨true, rfl, (fun h => by cases h), HB.out⟩
        · have h5' : ¬ (3500 : Int) < ((M.list.getD k []).length : Int) := by omega
          have H5 : Hid ((M.list.getD k []).length ≤ 3500) := (by omega : (M.list.getD k []).length ≤ 3500)
          have hnk : n + (M.list.getD k []).length ≤ (k + 1) * 3500 := by omega
          have HN := Lib.hid hnk
          clear hnk
          generalize hm : (M.list.getD k []).length = m at *
          have Hm := Lib.hid hm
          clear hm
          go_wp2_with fail
          go_round
          case rel => exact ⟨k + 1, n + m, by omega, HN.out, by go_num, by go_num, by first | rfl | trivial, fun i hi => by
            by_cases e : i = k
            · subst e; rw [Hm.out]; exact H5.out
            · exact HA.out i (by omega)⟩
          case measure => simp only [intOf]; omega
      · obtain rfl : k = M.list.length := by omega
        have HQ := Lib.hid (show SmallM M from ⟨HS.out.1, HS.out.2.1, HS.out.2.2, HA.out⟩)
        go_wp2_with fail
        go_ret
        exact ⟨_, rfl, fun _ => HQ.out, HB.out⟩
end Go.Proofs.YtbapkamopelgpaaDoor
