/- ScriptSame: the walk. -/
import Derived.Test.YtmmiimcodbjnmaaDoorScC
import Derived.Test.YtmmiimcodbjnmaaDoorScE
import Derived.Lib.QuietBelow
namespace Go.Proofs.YtmmiimcodbjnmaaDoor
open Go.RowKit Go.Stop Go.Extern Go.Ranges Go.Rows2 Go.Sort
set_option linter.unusedVariables false
set_option linter.unusedSimpArgs false
set_option maxRecDepth 100000
theorem keepS {W w' : World} {g : Nat} {t : TypeId} {M : Sact} {B K : Option Addr} {cb ck : Nat} (h : W.heap[g]? = some (.cells (actA M B cb K ck) t (0, 0))) (hb : Below W.heap.size W w') : w'.cell? ⟨g, 0, none⟩ = some (.int .i64 M.k) ∧ w'.cell? ⟨g, 1, none⟩ = some (.int .i64 M.who) ∧ w'.cell? ⟨g, 2, none⟩ = some (.int .i64 M.i) ∧ w'.cell? ⟨g, 3, none⟩ = some (.int .i64 M.j) ∧ w'.cell? ⟨g, 4, none⟩ = some (.string M.repo) ∧ w'.cell? ⟨g, 5, none⟩ = some (.slice B M.body.length cb) ∧ w'.cell? ⟨g, 6, none⟩ = some (.slice K M.keep.length ck) := by
  have hc := actCell h hb
  exact ⟨hc 0, hc 1, hc 2, hc 3, hc 4, hc 5, hc 6⟩
set_option maxHeartbeats 8000000 in
theorem scriptSame_walk (a : Nat → Addr) (M N : Sact) (B K B' K' : Option Addr) (cb ck cb' ck' : Nat) (w : World) (h : ActIn w M B K) (h' : ActIn w N B' K') (hl : M.keep.length ≤ maxLen) (HE : ErrC w a 1) :
    Calls Tryd.prog 5 #[.agg (actA M B cb K ck), .agg (actA N B' cb' K' ck')] w fun x w' => x = .returned (.bool true) ∧ Below w.heap.size w w' := by
  obtain ⟨V, hV⟩ : ∃ V, V = (w.alloc (.cells (actA M B cb K ck) 37)).alloc (.cells (actA N B' cb' K' ck') 37) := ⟨_, rfl⟩
  have hb : Below w.heap.size w V := by rw [hV]; exact stepV (alloc_below _ _) (alloc_below _ _)
  have hV1 : V.heap[w.heap.size]? = some (.cells (actA M B cb K ck) 37 (0, 0)) := by rw [hV]; exact (two_heap _ _ _).1
  have hV2 : V.heap[w.heap.size + 1]? = some (.cells (actA N B' cb' K' ck') 37 (0, 0)) := by rw [hV]; exact (two_heap _ _ _).2
  have HAl := Lib.hid (alive31 a V (HE.below hb))
  have HL1 := Lib.hid (fun W => long31_any M B K cb ck W)
  have HL2 := Lib.hid (fun W => long31_any N B' K' cb' ck' W)
  have HS1 := Lib.hid (fun W (hW : Below V.heap.size V W) => scSame_any M N B K B' K' cb ck cb' ck' W (h.below (stepV hb hW)) (h'.below (stepV hb hW)) hl)
  have HS2 := Lib.hid (fun W (hW : Below V.heap.size V W) => scRefSame_any M N B K B' K' cb ck cb' ck' W (h.below (stepV hb hW)) (h'.below (stepV hb hW)) hl)
  have HB := Lib.hid hb
  have K1 := Lib.hid (fun W (hW : Below V.heap.size V W) => keepS hV1 hW)
  have K2 := Lib.hid (fun W (hW : Below V.heap.size V W) => keepS hV2 hW)
  unfold actA at hV HL1 HL2 HS1 HS2 ⊢
  have HVq := Lib.hid hV
  clear hb hV1 hV2 hV h h' hl HE
  generalize sameS M N = r at *
  go_enter Tryd.func5, Tryd.ntmps5
  go_wp2_with fail
  rw [← HVq.out]
  refine HAl.out.mono ?_
  rintro e w1 ⟨rfl, hb1⟩
  have HB1 := Lib.hid hb1
  obtain ⟨a0, a1, a2, a3, a4, a5, a6⟩ := K1.out _ hb1
  clear hb1
  go_wp2_with fail
  clear a0 a1 a2 a3 a4 a5 a6
  refine (HL1.out _).mono ?_
  rintro e w2 ⟨x, rfl, hb2⟩
  have HB2 := Lib.hid (stepV HB1.out hb2)
  clear hb2
  cases x with
  | true =>
    go_wp2_with fail
    go_ret
    exact ⟨rfl, stepV HB.out HB2.out⟩
  | false =>
    obtain ⟨b0, b1, b2, b3, b4, b5, b6⟩ := K2.out _ HB2.out
    go_wp2_with fail
    clear b0 b1 b2 b3 b4 b5 b6
    refine (HL2.out _).mono ?_
    rintro e w3 ⟨y, rfl, hb3⟩
    have HB3 := Lib.hid (stepV HB2.out hb3)
    clear hb3
    cases y with
    | true =>
      go_wp2_with fail
      go_ret
      exact ⟨rfl, stepV HB.out HB3.out⟩
    | false =>
      go_wp2_with fail
      have a0 := fun (p : Regrown) => (K1.out _ (stepV HB3.out (below_regrown w3 p.d p.os))).1
      have a1 := fun (p : Regrown) => (K1.out _ (stepV HB3.out (below_regrown w3 p.d p.os))).2.1
      have a2 := fun (p : Regrown) => (K1.out _ (stepV HB3.out (below_regrown w3 p.d p.os))).2.2.1
      have a3 := fun (p : Regrown) => (K1.out _ (stepV HB3.out (below_regrown w3 p.d p.os))).2.2.2.1
      have a4 := fun (p : Regrown) => (K1.out _ (stepV HB3.out (below_regrown w3 p.d p.os))).2.2.2.2.1
      have a5 := fun (p : Regrown) => (K1.out _ (stepV HB3.out (below_regrown w3 p.d p.os))).2.2.2.2.2.1
      have a6 := fun (p : Regrown) => (K1.out _ (stepV HB3.out (below_regrown w3 p.d p.os))).2.2.2.2.2.2
      have b0 := fun (p : Regrown) => (K2.out _ (stepV HB3.out (below_regrown w3 p.d p.os))).1
      have b1 := fun (p : Regrown) => (K2.out _ (stepV HB3.out (below_regrown w3 p.d p.os))).2.1
      have b2 := fun (p : Regrown) => (K2.out _ (stepV HB3.out (below_regrown w3 p.d p.os))).2.2.1
      have b3 := fun (p : Regrown) => (K2.out _ (stepV HB3.out (below_regrown w3 p.d p.os))).2.2.2.1
      have b4 := fun (p : Regrown) => (K2.out _ (stepV HB3.out (below_regrown w3 p.d p.os))).2.2.2.2.1
      have b5 := fun (p : Regrown) => (K2.out _ (stepV HB3.out (below_regrown w3 p.d p.os))).2.2.2.2.2.1
      have b6 := fun (p : Regrown) => (K2.out _ (stepV HB3.out (below_regrown w3 p.d p.os))).2.2.2.2.2.2
      have hrr : (r == r) = true := by cases r <;> rfl
      refine wp_region_quiet_below (by kernel_rfl) (by kernel_rfl) ?_
      repeat (go_big_quiet_step (first
        | (go_at_call 21; exact Calls.regrown_of (HS1.out _ (stepV HB3.out (below_regrown w3 _ _))))
        | (go_at_call 22; exact Calls.regrown_of (HS2.out _ (stepV HB3.out (below_regrown w3 _ _))))))
      refine wpQuiet_nil ?_
      intro W6 hw'
      obtain ⟨pq, hw''⟩ := hw'
      have hB6 := below_regrown w3 pq.d pq.os
      rw [← hw''] at hB6
      have HB6 := Lib.hid (stepV HB3.out hB6)
      clear hw'' hB6 a0 b0 a1 b1 a2 b2 a3 b3 a4 b4 a5 b5 a6 b6
      go_wp2_with fail
      go_ret
      exact ⟨by first | rfl | simp, stepV HB.out HB6.out⟩
end Go.Proofs.YtmmiimcodbjnmaaDoor
