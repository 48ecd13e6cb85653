/- FrameWho: the walk. -/
import Derived.Test.YtbapkamopelgpaaDoorFrI
namespace Go.Proofs.YtbapkamopelgpaaDoor
open Go.RowKit Go.Stop Go.Extern Go.Ranges Go.Rows2 Go.Sort
set_option linter.unusedVariables false
set_option linter.unusedSimpArgs false
set_option maxRecDepth 100000
theorem calls_sameB {f : FuncId} {args : Array Value} {w : World} {v : Value} (h : Calls Tryd.prog f args w fun e w' => e = .returned v ∧ w = w') : Calls Tryd.prog f args w fun e w' => e = .returned v ∧ Below w.heap.size w w' :=
  h.mono fun e w' ⟨h1, h2⟩ => ⟨h1, h2 ▸ Below.refl _ _⟩
set_option maxHeartbeats 4000000 in
theorem frameWho_walk (n : Int) (F G : Frm) (B D : Option Addr) (cb cd : Nat) (a : Nat → Addr) (w : World) (HV : FrV w a) (hB : Lib.BytesIn w B F.body.length F.body) (hD : Lib.BytesIn w D G.body.length G.body) (hl1 : F.body.length ≤ maxLen) (hl2 : G.body.length ≤ maxLen) :
    Calls Tryd.prog 10 #[.int .i64 n, .agg (frA F B cb), .agg (frA G D cd)] w fun e w' => e = .returned (.bool true) ∧ Below w.heap.size w w' := by
  have b0 := alloc_below w (.cells (frA F B cb) 56)
  have b1 := stepV b0 (alloc_below (w.alloc (.cells (frA F B cb) 56)) (.cells (frA G D cd) 56))
  have K := Lib.hid (alive15 a _ (HV.below b1))
  obtain ⟨o0, o1⟩ := two_heap w (.cells (frA F B cb) 56) (.cells (frA G D cd) 56)
  have HO0 := Lib.hid o0
  have HO1 := Lib.hid o1
  have HB := Lib.hid b1
  have HBF := Lib.hid hB
  have HBG := Lib.hid hD
  unfold maxLen at hl1 hl2
  clear HV b0 b1 o0 o1 hB hD
  unfold frA at HO0 HO1 K ⊢
  go_enter Tryd.func10, Tryd.ntmps10
  go_wp2_with fail
  refine K.out.mono ?_
  rintro e w1 ⟨rfl, hb1⟩
  obtain ⟨m0, m1, m2, m3, _⟩ := keepF HO0.out hb1
  obtain ⟨n0, n1, n2, n3, _⟩ := keepF HO1.out hb1
  have HB1 := Lib.hid (stepV HB.out hb1)
  have hg1 : w.heap.size + 1 < w1.heap.size := by have := hb1.size; simp at this; omega
  have hg0 : w.heap.size < w1.heap.size := by omega
  clear hb1 K HO0 HO1 HB
  by_cases h1 : 3500 < F.body.length
  · have hd : decide ((3500 : Int) < (F.body.length : Int)) = true := by simp; omega
    go_wp2_with fail
    go_ret
    exact ⟨rfl, HB1.out⟩
  by_cases h2 : 3500 < G.body.length
  · have hd : decide ((3500 : Int) < (F.body.length : Int)) = false := by simp; omega
    have hd2 : decide ((3500 : Int) < (G.body.length : Int)) = true := by simp; omega
    go_wp2_with fail
    go_ret
    exact ⟨rfl, HB1.out⟩
  have hd : decide ((3500 : Int) < (F.body.length : Int)) = false := by simp; omega
  have hd2 : decide ((3500 : Int) < (G.body.length : Int)) = false := by simp; omega
  have x0 := fun (p : Regrown) => ((below_regrown w1 p.d p.os).cell (p := ⟨w.heap.size, 0, none⟩) hg0).trans m0
  have x1 := fun (p : Regrown) => ((below_regrown w1 p.d p.os).cell (p := ⟨w.heap.size, 1, none⟩) hg0).trans m1
  have x2 := fun (p : Regrown) => ((below_regrown w1 p.d p.os).cell (p := ⟨w.heap.size, 2, none⟩) hg0).trans m2
  have x3 := fun (p : Regrown) => ((below_regrown w1 p.d p.os).cell (p := ⟨w.heap.size, 3, none⟩) hg0).trans m3
  have y0 := fun (p : Regrown) => ((below_regrown w1 p.d p.os).cell (p := ⟨w.heap.size + 1, 0, none⟩) hg1).trans n0
  have y1 := fun (p : Regrown) => ((below_regrown w1 p.d p.os).cell (p := ⟨w.heap.size + 1, 1, none⟩) hg1).trans n1
  have y2 := fun (p : Regrown) => ((below_regrown w1 p.d p.os).cell (p := ⟨w.heap.size + 1, 2, none⟩) hg1).trans n2
  have y3 := fun (p : Regrown) => ((below_regrown w1 p.d p.os).cell (p := ⟨w.heap.size + 1, 3, none⟩) hg1).trans n3
  have hbb : ∀ b : Bool, (b == b) = true := fun b => by cases b <;> rfl
  have KS := Lib.hid fun (W : World) (h : Below w1.heap.size w1 W) => frSame_any F G B D cb cd W (bytesIn_below' HBF.out (stepV HB1.out h)) (bytesIn_below' HBG.out (stepV HB1.out h))
  have KR := Lib.hid fun (W : World) (h : Below w1.heap.size w1 W) => frRefSame_any F G B D cb cd W (bytesIn_below' HBF.out (stepV HB1.out h)) (bytesIn_below' HBG.out (stepV HB1.out h))
  have KA := Lib.hid fun (W : World) (h : Below w1.heap.size w1 W) => frSame_any F F B B cb cb W (bytesIn_below' HBF.out (stepV HB1.out h)) (bytesIn_below' HBF.out (stepV HB1.out h))
  rw [sameF_self] at KA
  have KW1 := Lib.hid fun W => who_any n W
  have KW2 := Lib.hid fun W => refWho_any n W
  have KN1 := Lib.hid fun W => frNm_any n W
  have KN2 := Lib.hid fun W => frRefNm_any n W
  have KH := Lib.hid fun W => shard_any n W
  unfold frA at KS KR KA
  generalize sameF F G = qs at *
  generalize whoB n = qw at *
  generalize (frName n).toArray = sn at *
  have hpq : ∃ p q, decide ((0 : Int) < n) = p ∧ decide (n < (17 : Int)) = q ∧ ((p = true ∧ q = true ∧ shardN n = n) ∨ (p = false ∧ shardN n = 0) ∨ (p = true ∧ q = false ∧ shardN n = 0)) := by
    refine ⟨_, _, rfl, rfl, ?_⟩
    unfold shardN
    by_cases h : 0 < n
    · by_cases h' : n < 17
      · left; rw [if_pos (by omega)]; simp [h, h']
      · right; right; rw [if_neg (by omega)]; simp [h, h']
    · right; left; rw [if_neg (by omega)]; simp [h]
  clear m0 m1 m2 n0 n1 n2 h1 h2
  obtain ⟨p, q, hp, hq, hc⟩ := hpq
  rcases hc with ⟨rfl, rfl, hs⟩ | ⟨rfl, hs⟩ | ⟨rfl, rfl, hs⟩
  all_goals (
    rw [hs] at KH
    clear hs
    go_wp2_with fail
    refine wp_region_quiet_below (by kernel_rfl) (by kernel_rfl) ?_
    iterate 33 (go_big_quiet_step (first
      | (go_at_call 37; exact Calls.regrown_of (calls_sameB (KW1.out _)))
      | (go_at_call 39; exact Calls.regrown_of (calls_sameB (KW2.out _)))
      | (go_at_call 36; exact Calls.regrown_of (calls_sameB (KN1.out _)))
      | (go_at_call 40; exact Calls.regrown_of (KN2.out _))
      | (go_at_call 38; exact Calls.regrown_of (calls_sameB (KH.out _)))
      | (go_at_call 35; with_reducible exact Calls.regrown_of (KS.out _ (below_regrown _ _ _)))
      | (go_at_call 35; with_reducible exact Calls.regrown_of (KA.out _ (below_regrown _ _ _)))
      | (go_at_call 31; with_reducible exact Calls.regrown_of (KR.out _ (below_regrown _ _ _)))))
    refine wpQuiet_nil ?_
    intro W6 hw'
    obtain ⟨pq, hw''⟩ := hw'
    have hB6 := below_regrown w1 pq.d pq.os
    rw [← hw''] at hB6
    have HB6 := Lib.hid (stepV HB1.out hB6)
    clear hw'' hB6 x0 x1 x2 x3 y0 y1 y2 y3
    go_wp2_with fail
    go_ret
    exact ⟨rfl, HB6.out⟩)
end Go.Proofs.YtbapkamopelgpaaDoor
