/- Messages: Bytes, where a text may be long. -/
import Derived.Test.YtbapkamopelgpaaDoorMsgP
namespace Go.Proofs.YtbapkamopelgpaaDoor
open Go.RowKit Go.Stop Go.Extern Go.Ranges Go.Rows2
set_option linter.unusedVariables false
set_option linter.unusedSimpArgs false
set_option maxRecDepth 100000
/-- The message's variables. -/
structure MsgV (w : World) (a : Nat → Addr) : Prop where
  words : Words w
  e1 : ErrC w a 1
  e7 : ErrC w a 7
  e13 : ErrC w a 13
theorem MsgV.below {w w' : World} {a : Nat → Addr} (h : MsgV w a) (hb : Below w.heap.size w w') : MsgV w' a := ⟨h.words.below hb, h.e1.below hb, h.e7.below hb, h.e13.below hb⟩
theorem chkC_le (M : Msg) (h : chkC M ≠ 0) : chkC M = 7 ∨ chkC M = 1 := by
  unfold chkC at *
  split
  · exact .inl rfl
  · split
    · exact .inr rfl
    · rename_i h1 h2; rw [if_neg h1, if_neg h2] at h; exact absurd rfl h
theorem errV_pos8 (a : Nat → Addr) (n : Nat) (h : n ≠ 0) : errV a n = .iface 198 (.pointer (some (a n))) := if_neg h
theorem msgC_bad {M : Msg} (h : chkC M ≠ 0) : msgC M = chkC M := by unfold msgC; rw [if_pos h]
set_option maxHeartbeats 2000000 in
theorem msgBytes_bad (M : Msg) (B L : Option Addr) (cb cl : Nat) (a : Nat → Addr) (w : World) (HV : MsgV w a) (hck : chkC M ≠ 0) :
    Calls Tryd.prog 44 #[.agg (msgA M B cb L cl)] w (MsgEnd w a M) := by
  have ha := Lib.hid (alloc_below w (.cells (msgA M B cb L cl) 25))
  have hcheck := check_any M B L cb cl a _ (HV.words.below ha.out) (HV.e1.below ha.out) (HV.e7.below ha.out)
  have hz := Lib.hid (msgC_bad hck)
  rw [errV_pos8 a _ hck] at hcheck
  have HC := Lib.hid hcheck
  have Hk := Lib.hid hck
  clear hcheck HV hck
  unfold msgA at HC ha ⊢
  go_enter Tryd.func44, Tryd.ntmps44
  go_wp2_with (first
    | (go_at_call 70
       refine HC.out.mono ?_
       rintro e w2 ⟨rfl, hb2⟩
       have HB2 := Lib.hid (stepV ha.out hb2)
       clear hb2))
  go_ret2
  refine ⟨HB2.out, fun h => ?_, fun h => ?_⟩
  · rw [hz.out] at h; exact absurd h Hk.out
  · rw [hz.out, errV_pos8 a _ Hk.out]; rfl
/-- .. where no text is long. -/
theorem msgBytes_short (M : Msg) (B L : Option Addr) (cb cl : Nat) (a : Nat → Addr) (w : World) (HV : MsgV w a) (hin : MsgIn w M B L) (hbo : M.body.length ≤ 3000) (hli : ∀ i, i < M.list.length → (M.list.getD i []).length ≤ 3000) :
    Calls Tryd.prog 44 #[.agg (msgA M B cb L cl)] w (MsgEnd w a M) := by
  by_cases hck : chkC M = 0
  · exact msgBytes_go M B L cb cl a w HV.words HV.e1 HV.e7 HV.e13 hin hck hbo hli
  · exact msgBytes_bad M B L cb cl a w HV hck
/-- Why a message with a long text has no bytes. -/
def longC (M : Msg) : Nat := if msgC (bare M) = 0 then 13 else msgC (bare M)
theorem bare_any (M : Msg) (a : Nat → Addr) (w : World) (HV : MsgV w a) :
    Calls Tryd.prog 44 #[.agg #[.int .i64 M.k, .int .i64 M.c, .int .i64 M.n, .int .i64 M.o, .string M.repo, .int .i64 M.e, .int .i64 M.s, .int .i64 M.t, .int .i64 M.i, .int .i64 M.sh, .int .i64 M.an, .slice none 0 0, .slice none 0 0]] w (MsgEnd w a (bare M)) :=
  msgBytes_short (bare M) none none 0 0 a w HV ⟨fun h => absurd h (by simp [bare]), fun h => absurd h (by simp [bare])⟩ (Nat.zero_le _) (fun i hi => absurd hi (by simp [bare]))
set_option maxHeartbeats 4000000 in
theorem long_any (M : Msg) (B L : Option Addr) (cb cl : Nat) (a : Nat → Addr) (w : World) (HV : MsgV w a) :
    Calls Tryd.prog 71 #[.agg (msgA M B cb L cl)] w fun e w' => e = .returned (errV a (longC M)) ∧ Below w.heap.size w w' := by
  have ha := Lib.hid (alloc_below w (.cells #[.int .i64 M.k, .int .i64 M.c, .int .i64 M.n, .int .i64 M.o, .string M.repo, .int .i64 M.e, .int .i64 M.s, .int .i64 M.t, .int .i64 M.i, .int .i64 M.sh, .int .i64 M.an, .slice none 0 0, .slice none 0 0] 25))
  have hb := Lib.hid (bare_any M a _ (HV.below ha.out))
  have HVd := Lib.hid HV
  clear HV
  by_cases hz : msgC (bare M) = 0
  · have e1 : longC M = 13 := if_pos hz
    rw [e1]
    have HZ := Lib.hid hz
    clear e1 hz
    unfold msgA
    go_enter Tryd.func71, Tryd.ntmps71
    go_wp2_with (first
      | (go_at_call 44
         refine hb.out.mono ?_
         rintro e w2 ⟨hb2, h0, _⟩
         obtain ⟨A2, c2, rfl, _⟩ := h0 HZ.out
         have HB2 := Lib.hid (stepV ha.out hb2)
         have e13 : w2.cell? ⟨13, 0, none⟩ = _ := HVd.out.e13.below HB2.out
         clear hb2 h0))
    go_ret
    exact ⟨rfl, HB2.out⟩
  · have e1 : longC M = msgC (bare M) := if_neg hz
    rw [e1, errV_pos8 a _ hz]
    have HZ := Lib.hid hz
    clear e1 hz
    unfold msgA
    go_enter Tryd.func71, Tryd.ntmps71
    go_wp2_with (first
      | (go_at_call 44
         refine hb.out.mono ?_
         rintro e w2 ⟨hb2, _, h1⟩
         have h1' := h1 HZ.out
         rw [errV_pos8 a _ HZ.out] at h1'
         subst h1'
         have HB2 := Lib.hid (stepV ha.out hb2)
         clear hb2 h1))
    go_ret
    exact ⟨rfl, HB2.out⟩
set_option maxHeartbeats 4000000 in
/-- .. where the body is long. -/
theorem msgBytes_long (M : Msg) (B L : Option Addr) (cb cl : Nat) (a : Nat → Addr) (w : World) (HV : MsgV w a) (hck : chkC M = 0) (hbo : 3000 < M.body.length) :
    Calls Tryd.prog 44 #[.agg (msgA M B cb L cl)] w fun e w' => e = .returned (.tuple #[.slice none 0 0, errV a (longC M)]) ∧ Below w.heap.size w w' := by
  have ha := Lib.hid (alloc_below w (.cells (msgA M B cb L cl) 25))
  have hV := Lib.hid (heap_alloc_last w (.cells (msgA M B cb L cl) 25))
  have hcheck := check_any M B L cb cl a _ (HV.words.below ha.out) (HV.e1.below ha.out) (HV.e7.below ha.out)
  rw [hck] at hcheck
  have hcheck2 := Lib.hid (show Calls Tryd.prog 70 #[.agg (msgA M B cb L cl)] _ fun e w' => e = .returned .nilIface ∧ _ from hcheck)
  have hb3 : (3000 : Int) < (M.body.length : Int) := by omega
  have HVd := Lib.hid HV
  have hlong := Lib.hid (fun W (hW : MsgV W a) => long_any M B L cb cl a W hW)
  have hne : errV a (longC M) = .iface 198 (.pointer (some (a (longC M)))) := errV_pos8 a _ (by unfold longC; split; decide; assumption)
  rw [hne] at hlong ⊢
  clear hcheck HV hck hbo hne
  unfold msgA at hcheck2 ha hV hlong ⊢
  go_enter Tryd.func44, Tryd.ntmps44
  go_wp2_with (first
    | (go_at_call 70
       refine hcheck2.out.mono ?_
       rintro e w2 ⟨rfl, hb2⟩
       have HB2 := Lib.hid (stepV ha.out hb2)
       obtain ⟨m0, m1, m2, m3, m4, m5, m6, m7, m8, m9, m10, m11, m12, _⟩ := keepM hV.out hb2
       clear hb2)
    | (go_at_call 71
       refine (hlong.out _ (HVd.out.below HB2.out)).mono ?_
       rintro e w3 ⟨rfl, hb3⟩))
  go_ret2
  exact ⟨rfl, stepV HB2.out hb3⟩
/-- A message's Bytes: its list's texts are not long. -/
theorem msgBytes_any (M : Msg) (B L : Option Addr) (cb cl : Nat) (a : Nat → Addr) (w : World) (HV : MsgV w a) (hin : MsgIn w M B L) (hbo : M.body.length ≤ 65535) (hli : ∀ i, i < M.list.length → (M.list.getD i []).length ≤ 3000) :
    Calls Tryd.prog 44 #[.agg (msgA M B cb L cl)] w (MsgEnd w a M) := by
  by_cases hb : M.body.length ≤ 3000
  · exact msgBytes_short M B L cb cl a w HV hin hb hli
  · by_cases hck : chkC M = 0
    · refine (msgBytes_long M B L cb cl a w HV hck (by omega)).mono ?_
      rintro e w' ⟨rfl, hb'⟩
      have h1 := long_C M hck hbo (fun i hi => by have := hli i hi; omega) (by rw [msgB_len]; omega)
      have h2 := bare_C M hck
      have h3 : msgC M = longC M := by
        unfold longC
        rw [h1, h2]
        split <;> rfl
      have h4 : longC M ≠ 0 := by
        unfold longC
        split
        · decide
        · assumption
      refine ⟨hb', fun h => ?_, fun h => ?_⟩
      · rw [h3] at h; exact absurd h h4
      · rw [h3]
    · exact msgBytes_bad M B L cb cl a w HV hck
end Go.Proofs.YtbapkamopelgpaaDoor
