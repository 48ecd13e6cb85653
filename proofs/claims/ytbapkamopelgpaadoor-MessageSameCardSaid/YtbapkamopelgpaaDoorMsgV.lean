/- The law MessageSame, walked. -/
import Derived.Test.YtbapkamopelgpaaDoorMsgU
namespace Go.Proofs.YtbapkamopelgpaaDoor
open Go.RowKit Go.Stop Go.Extern Go.Ranges Go.Rows2 Go.Sort
set_option linter.unusedVariables false
set_option linter.unusedSimpArgs false
set_option maxRecDepth 100000
set_option maxHeartbeats 16000000 in
theorem messageSame_walk (a : Nat → Addr) (M M' : Msg) (B L B' L' : Option Addr) (cb cl cb' cl' : Nat) (w : World) (h : MsgIn w M B L) (h' : MsgIn w M' B' L') (hl : M.list.length ≤ maxLen) (hl' : M'.list.length ≤ maxLen) (HV : MsgV w a) :
    Calls Tryd.prog 3 #[.agg (msgA M B cb L cl), .agg (msgA M' B' cb' L' cl')] w fun x w' => x = .returned (.bool true) ∧ Below w.heap.size w w' := by
  obtain ⟨V, hV⟩ : ∃ V, V = (w.alloc (.cells (msgA M B cb L cl) 25)).alloc (.cells (msgA M' B' cb' L' cl') 25) := ⟨_, rfl⟩
  have hb : Below w.heap.size w V := by rw [hV]; exact stepV (alloc_below _ _) (alloc_below _ _)
  have hV1 : V.heap[w.heap.size]? = some (.cells (msgA M B cb L cl) 25 (0, 0)) := by rw [hV]; exact (two_heap _ _ _).1
  have hV2 : V.heap[w.heap.size + 1]? = some (.cells (msgA M' B' cb' L' cl') 25 (0, 0)) := by rw [hV]; exact (two_heap _ _ _).2
  have HAl := Lib.hid (alive16 a V (HV.below hb))
  have HL1 := Lib.hid (fun W (hW : Below V.heap.size V W) => longM_any M B L cb cl W (h.below (stepV hb hW)))
  have HL2 := Lib.hid (fun W (hW : Below V.heap.size V W) => longM_any M' B' L' cb' cl' W (h'.below (stepV hb hW)))
  have HS1 := Lib.hid (fun W (hW : Below V.heap.size V W) => msgSame_any M M' B L B' L' cb cl cb' cl' W (h.below (stepV hb hW)) (h'.below (stepV hb hW)) hl hl')
  have HS2 := Lib.hid (fun W (hW : Below V.heap.size V W) => refSame_any M M' B L B' L' cb cl cb' cl' W (h.below (stepV hb hW)) (h'.below (stepV hb hW)) hl hl')
  have hs3 := fun W (hW : Below V.heap.size V W) => msgSame_any M M B L B L cb cl cb cl W (h.below (stepV hb hW)) (h.below (stepV hb hW)) hl hl
  rw [sameM_self] at hs3
  have HS3 := Lib.hid hs3
  have HN1 := Lib.hid (fun W (hW : Below V.heap.size V W) => calls_same (name_any M.k W (HV.words.below (stepV hb hW))))
  have HN2 := Lib.hid (fun W => refName_any M.k W)
  have HB := Lib.hid hb
  have K1 := Lib.hid (fun W (hW : Below V.heap.size V W) => keepM hV1 hW)
  have K2 := Lib.hid (fun W (hW : Below V.heap.size V W) => keepM hV2 hW)
  unfold msgA at hV HL1 HL2 HS1 HS2 HS3 ⊢
  have HVq := Lib.hid hV
  clear hb hV1 hV2 hV h h' hl hl' hs3 HV
  generalize sameM M M' = r at *
  generalize nameOf M.k = nm at *
  go_enter Tryd.func3, Tryd.ntmps3
  go_wp2_with fail
  rw [← HVq.out]
  refine HAl.out.mono ?_
  rintro e w1 ⟨rfl, hb1⟩
  have HB1 := Lib.hid hb1
  obtain ⟨a0, a1, a2, a3, a4, a5, a6, a7, a8, a9, a10, a11, a12, _⟩ := K1.out _ hb1
  clear hb1
  go_wp2_with fail
  clear a0 a1 a2 a3 a4 a5 a6 a7 a8 a9 a10 a11 a12
  refine (HL1.out _ HB1.out).mono ?_
  rintro e w2 ⟨x, rfl, _, hb2⟩
  have HB2 := Lib.hid (stepV HB1.out hb2)
  clear hb2
  cases x with
  | true =>
    go_wp2_with fail
    go_ret
    exact ⟨rfl, stepV HB.out HB2.out⟩
  | false =>
    obtain ⟨b0, b1, b2, b3, b4, b5, b6, b7, b8, b9, b10, b11, b12, _⟩ := K2.out _ HB2.out
    go_wp2_with fail
    clear b0 b1 b2 b3 b4 b5 b6 b7 b8 b9 b10 b11 b12
    refine (HL2.out _ HB2.out).mono ?_
    rintro e w3 ⟨y, rfl, _, hb3⟩
    have HB3 := Lib.hid (stepV HB2.out hb3)
    clear hb3
    cases y with
    | true =>
      go_wp2_with fail
      go_ret
      exact ⟨rfl, stepV HB.out HB3.out⟩
    | false =>
      go_wp2_with fail
      have a0 := fun (p : Regrown) => (K1.out _ (stepV HB3.out (below_regrown w3 p.d p.os))).1
      have a1 := fun (p : Regrown) => (K1.out _ (stepV HB3.out (below_regrown w3 p.d p.os))).2.1
      have a2 := fun (p : Regrown) => (K1.out _ (stepV HB3.out (below_regrown w3 p.d p.os))).2.2.1
      have a3 := fun (p : Regrown) => (K1.out _ (stepV HB3.out (below_regrown w3 p.d p.os))).2.2.2.1
      have a4 := fun (p : Regrown) => (K1.out _ (stepV HB3.out (below_regrown w3 p.d p.os))).2.2.2.2.1
      have a5 := fun (p : Regrown) => (K1.out _ (stepV HB3.out (below_regrown w3 p.d p.os))).2.2.2.2.2.1
      have a6 := fun (p : Regrown) => (K1.out _ (stepV HB3.out (below_regrown w3 p.d p.os))).2.2.2.2.2.2.1
      have a7 := fun (p : Regrown) => (K1.out _ (stepV HB3.out (below_regrown w3 p.d p.os))).2.2.2.2.2.2.2.1
      have a8 := fun (p : Regrown) => (K1.out _ (stepV HB3.out (below_regrown w3 p.d p.os))).2.2.2.2.2.2.2.2.1
      have a9 := fun (p : Regrown) => (K1.out _ (stepV HB3.out (below_regrown w3 p.d p.os))).2.2.2.2.2.2.2.2.2.1
      have a10 := fun (p : Regrown) => (K1.out _ (stepV HB3.out (below_regrown w3 p.d p.os))).2.2.2.2.2.2.2.2.2.2.1
      have a11 := fun (p : Regrown) => (K1.out _ (stepV HB3.out (below_regrown w3 p.d p.os))).2.2.2.2.2.2.2.2.2.2.2.1
      have a12 := fun (p : Regrown) => (K1.out _ (stepV HB3.out (below_regrown w3 p.d p.os))).2.2.2.2.2.2.2.2.2.2.2.2.1
      have b0 := fun (p : Regrown) => (K2.out _ (stepV HB3.out (below_regrown w3 p.d p.os))).1
      have b1 := fun (p : Regrown) => (K2.out _ (stepV HB3.out (below_regrown w3 p.d p.os))).2.1
      have b2 := fun (p : Regrown) => (K2.out _ (stepV HB3.out (below_regrown w3 p.d p.os))).2.2.1
      have b3 := fun (p : Regrown) => (K2.out _ (stepV HB3.out (below_regrown w3 p.d p.os))).2.2.2.1
      have b4 := fun (p : Regrown) => (K2.out _ (stepV HB3.out (below_regrown w3 p.d p.os))).2.2.2.2.1
      have b5 := fun (p : Regrown) => (K2.out _ (stepV HB3.out (below_regrown w3 p.d p.os))).2.2.2.2.2.1
      have b6 := fun (p : Regrown) => (K2.out _ (stepV HB3.out (below_regrown w3 p.d p.os))).2.2.2.2.2.2.1
      have b7 := fun (p : Regrown) => (K2.out _ (stepV HB3.out (below_regrown w3 p.d p.os))).2.2.2.2.2.2.2.1
      have b8 := fun (p : Regrown) => (K2.out _ (stepV HB3.out (below_regrown w3 p.d p.os))).2.2.2.2.2.2.2.2.1
      have b9 := fun (p : Regrown) => (K2.out _ (stepV HB3.out (below_regrown w3 p.d p.os))).2.2.2.2.2.2.2.2.2.1
      have b10 := fun (p : Regrown) => (K2.out _ (stepV HB3.out (below_regrown w3 p.d p.os))).2.2.2.2.2.2.2.2.2.2.1
      have b11 := fun (p : Regrown) => (K2.out _ (stepV HB3.out (below_regrown w3 p.d p.os))).2.2.2.2.2.2.2.2.2.2.2.1
      have b12 := fun (p : Regrown) => (K2.out _ (stepV HB3.out (below_regrown w3 p.d p.os))).2.2.2.2.2.2.2.2.2.2.2.2.1
      have hrr : (r == r) = true := by cases r <;> rfl
      have hnn : (nm.toList == nm.toList) = true := by simp
      refine wp_region_quiet_below (by kernel_rfl) (by kernel_rfl) ?_
      repeat (go_big_quiet_step (first
        | (go_at_call 14; first | (with_reducible exact Calls.regrown_of (HS1.out _ (stepV HB3.out (below_regrown w3 _ _)))) | (with_reducible exact Calls.regrown_of (HS3.out _ (stepV HB3.out (below_regrown w3 _ _)))))
        | (go_at_call 15; exact Calls.regrown_of (HS2.out _ (stepV HB3.out (below_regrown w3 _ _))))
        | (go_at_call 16; exact Calls.regrown_of (HN1.out _ (stepV HB3.out (below_regrown w3 _ _))))
        | (go_at_call 17; exact Calls.regrown_of (HN2.out _))))
      refine wpQuiet_nil ?_
      intro W6 hw'
      obtain ⟨pq, hw''⟩ := hw'
      have hB6 := below_regrown w3 pq.d pq.os
      rw [← hw''] at hB6
      have HB6 := Lib.hid (stepV HB3.out hB6)
      clear hw'' hB6 a0 b0 a1 b1 a2 b2 a3 b3 a4 b4 a5 b5 a6 b6 a7 b7 a8 b8 a9 b9 a10 b10 a11 b11 a12 b12
      go_wp2_with fail
      go_ret
      exact ⟨by first | rfl | simp, stepV HB.out HB6.out⟩
end Go.Proofs.YtbapkamopelgpaaDoor
