/- A net: Take, Lose. -/
import Derived.Test.YtdglpbjofdipkaaDoorNetB
namespace Go.Proofs.YtdglpbjofdipkaaDoor
open Go.RowKit Go.Stop Go.Extern Go.Ranges Go.Rows2 Go.Sort Go.BigFrame
set_option linter.unusedVariables false
set_option linter.unusedSimpArgs false
/-- A count of a net is stored. -/
theorem NetV.count {w : World} {base p : Nat} {X : Nat → Prop} {S S' : NS} {v : Value} {xs : List Value} (h : NetV w base p X S v xs) (j : Nat) (u : Value) (hC : (netC S v).setIfInBounds j u = netC S' v) (hL : S'.L = S.L) : NetV (w.setCell ⟨p, j, none⟩ u) base p X S' v xs := by
  have hc : Chg (fun k => k = p) w (w.setCell ⟨p, j, none⟩ u) := chg_cell _ _ _ _
  refine ⟨?_, ?_, fun i hi => ?_, h.hp, h.xp, fun k hk => Nat.lt_of_lt_of_le (h.xlt k hk) hc.size, h.xg⟩
  · rw [setCell_row (a := ⟨p, j, none⟩) rfl h.blk]
    show some (Obj.cells ((netC S v).setIfInBounds j u) _ _) = _
    rw [hC]
  · rw [hL]
    exact own_chg h.own hc (fun k hk e => h.xg k hk (e ▸ h.xp))
  · rw [hL] at hi
    obtain ⟨x, e, ht⟩ := h.txt i hi
    rw [hL]
    exact ⟨x, e, ht.chg hc (fun k hk ⟨a, b, c⟩ e => b (e ▸ h.xp))⟩
theorem take_no (a : Nat → Addr) {w : World} {base p : Nat} {X : Nat → Prop} {S : NS} {v : Value} {xs : List Value} (h : NetV w base p X S v xs) (i : Int) (hi : i < 0 ∨ (S.L.length : Int) ≤ i) (H : Errs w a) :
    Calls Tryd.prog 50 #[.pointer (some ⟨p, 0, none⟩), .int .i64 i] w fun e w' => e = .returned (.tuple #[.slice none 0 0, .iface 143 (.pointer (some (a 21)))]) ∧ Below w.heap.size w w' := by
  have HO := Lib.hid (out_no a h i hi H)
  clear h hi H
  go_enter Tryd.func50, Tryd.ntmps50
  go_wp2_with (go_at_call 81; (with_reducible refine HO.out.mono ?_); rintro e w1 ⟨rfl, hb⟩)
  go_ret2
  exact ⟨rfl, hb⟩
theorem lose_no (a : Nat → Addr) {w : World} {base p : Nat} {X : Nat → Prop} {S : NS} {v : Value} {xs : List Value} (h : NetV w base p X S v xs) (i : Int) (hi : i < 0 ∨ (S.L.length : Int) ≤ i) (H : Errs w a) :
    Calls Tryd.prog 51 #[.pointer (some ⟨p, 0, none⟩), .int .i64 i] w fun e w' => e = .returned (.iface 143 (.pointer (some (a 21)))) ∧ Below w.heap.size w w' := by
  have HO := Lib.hid (out_no a h i hi H)
  clear h hi H
  go_enter Tryd.func51, Tryd.ntmps51
  go_wp2_with (go_at_call 81; (with_reducible refine HO.out.mono ?_); rintro e w1 ⟨rfl, hb⟩)
  go_ret
  exact ⟨rfl, hb⟩
set_option maxRecDepth 20000 in
set_option maxHeartbeats 2000000 in
theorem take_ok {w : World} {base p : Nat} {X : Nat → Prop} {S : NS} {v : Value} {xs : List Value} (h : NetV w base p X S v xs) (i : Nat) (hi : i < S.L.length) (hL : S.L.length ≤ 1000) (ht0 : 0 ≤ S.t) (ht1 : S.t < 1000000) :
    Calls Tryd.prog 50 #[.pointer (some ⟨p, 0, none⟩), .int .i64 i] w fun e w' => ∃ x v' xs', e = .returned (.tuple #[x, .nilIface]) ∧ TextIs w' (fun k => base ≤ k ∧ ¬ X k ∧ some k ≠ v.ownBlock) x (S.L.getD i []) ∧ NetV w' base p X { S with L := S.L.eraseIdx i, t := S.t + 1 } v' xs' ∧ v'.ownBlock = v.ownBlock ∧ Chg (writes p v) w w' := by
  have HO := Lib.hid (out_ok h i hi hL)
  have hxp := h.xp
  have hxg := Lib.hid h.xg
  clear h
  go_enter Tryd.func50, Tryd.ntmps50
  go_wp2_with (go_at_call 81
               (with_reducible refine HO.out.mono ?_)
               rintro e w1 ⟨x, v', xs', rfl, hx, hN, hv, hC, _⟩
               have d1 : w1.cell? ⟨p, 1, none⟩ = some (.int .i64 S.t) := (net_cell hN 1).trans rfl
               have f1 : w1.frozen? ⟨p, 1, none⟩ = false := net_frozen hN 1
               have HX := Lib.hid hx
               have HN := Lib.hid hN
               have HV := Lib.hid hv
               have HC := Lib.hid hC
               clear hx hN hv hC)
  go_ret2
  refine ⟨x, v', xs', rfl, ?_, HN.out.count 1 _ rfl rfl, HV.out, HC.out.setCell (.inl rfl) _⟩
  exact HX.out.chg (T := fun k => k = p) (chg_cell _ _ _ _) (fun k hk ⟨_, b, _⟩ e => b (e ▸ hxp))
set_option maxRecDepth 20000 in
set_option maxHeartbeats 2000000 in
theorem lose_ok {w : World} {base p : Nat} {X : Nat → Prop} {S : NS} {v : Value} {xs : List Value} (h : NetV w base p X S v xs) (i : Nat) (hi : i < S.L.length) (hL : S.L.length ≤ 1000) (ht0 : 0 ≤ S.l) (ht1 : S.l < 1000000) :
    Calls Tryd.prog 51 #[.pointer (some ⟨p, 0, none⟩), .int .i64 i] w fun e w' => ∃ v' xs', e = .returned .nilIface ∧ NetV w' base p X { S with L := S.L.eraseIdx i, l := S.l + 1 } v' xs' ∧ v'.ownBlock = v.ownBlock ∧ Chg (writes p v) w w' := by
  have HO := Lib.hid (out_ok h i hi hL)
  clear h
  go_enter Tryd.func51, Tryd.ntmps51
  go_wp2_with (go_at_call 81
               (with_reducible refine HO.out.mono ?_)
               rintro e w1 ⟨x, v', xs', rfl, hx, hN, hv, hC, _⟩
               have d1 : w1.cell? ⟨p, 2, none⟩ = some (.int .i64 S.l) := (net_cell hN 2).trans rfl
               have f1 : w1.frozen? ⟨p, 2, none⟩ = false := net_frozen hN 2
               have HN := Lib.hid hN
               have HV := Lib.hid hv
               have HC := Lib.hid hC
               clear hx hN hv hC)
  go_ret
  exact ⟨v', xs', rfl, HN.out.count 2 _ rfl rfl, HV.out, HC.out.setCell (.inl rfl) _⟩
end Go.Proofs.YtdglpbjofdipkaaDoor
