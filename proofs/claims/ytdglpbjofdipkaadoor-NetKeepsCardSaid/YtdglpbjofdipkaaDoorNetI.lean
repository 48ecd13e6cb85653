/- A net: Double. -/
import Derived.Test.YtdglpbjofdipkaaDoorNetH
namespace Go.Proofs.YtdglpbjofdipkaaDoor
open Go.RowKit Go.Stop Go.Extern Go.Ranges Go.Rows2 Go.Sort Go.BigFrame
set_option linter.unusedVariables false
set_option linter.unusedSimpArgs false
set_option maxRecDepth 20000
theorem double_no (a : Nat → Addr) {w : World} {base p : Nat} {X : Nat → Prop} {S : NS} {v : Value} {xs : List Value} (h : NetV w base p X S v xs) (i : Int) (hi : i < 0 ∨ (S.L.length : Int) ≤ i) (H : Errs w a) :
    Calls Tryd.prog 52 #[.pointer (some ⟨p, 0, none⟩), .int .i64 i] w fun e w' => e = .returned (.iface 143 (.pointer (some (a 21)))) ∧ Below w.heap.size w w' := by
  obtain ⟨A, c, hv⟩ := h.slice
  have c5 : w.cell? ⟨p, 5, none⟩ = some v := (net_cell h 5).trans rfl
  rw [hv] at c5
  have e1 : w.cell? ⟨20, 0, none⟩ = _ := H.at 21 (by decide) (by decide)
  clear h hv
  by_cases h0 : i < 0
  · go_enter Tryd.func52, Tryd.ntmps52
    go_wp2_with fail
    go_ret
    exact ⟨rfl, Below.refl _ _⟩
  · have h1 : (S.L.length : Int) ≤ i := by omega
    go_enter Tryd.func52, Tryd.ntmps52
    go_wp2_with fail
    go_ret
    exact ⟨rfl, Below.refl _ _⟩
theorem double_full (a : Nat → Addr) {w : World} {base p : Nat} {X : Nat → Prop} {S : NS} {v : Value} {xs : List Value} (h : NetV w base p X S v xs) (i : Nat) (hi : i < S.L.length) (hr0 : 0 ≤ S.room) (hr : S.room ≤ 64) (hroom : (S.L.length : Int) = S.room) (H : Errs w a) :
    Calls Tryd.prog 52 #[.pointer (some ⟨p, 0, none⟩), .int .i64 i] w fun e w' => e = .returned (.iface 143 (.pointer (some (a 12)))) ∧ Below w.heap.size w w' := by
  have hrm := room_any h hr0 hr (by omega)
  rw [show S.room - (S.L.length : Int) = 0 by omega] at hrm
  have HR := Lib.hid hrm
  obtain ⟨A, c, hv⟩ := h.slice
  have c5 : w.cell? ⟨p, 5, none⟩ = some v := (net_cell h 5).trans rfl
  rw [hv] at c5
  have e1 : w.cell? ⟨11, 0, none⟩ = _ := H.at 12 (by decide) (by decide)
  clear hrm h hroom hv
  go_enter Tryd.func52, Tryd.ntmps52
  go_wp2_with (go_at_call 55; (with_reducible refine HR.out.mono ?_); rintro e w1 ⟨rfl, k1, rfl⟩)
  go_ret
  exact ⟨rfl, below_drewN _ _⟩
/-- How a call of a net ends. -/
def NetEnd (w : World) (base p : Nat) (X : Nat → Prop) (r : Value) (S' : NS) (v : Value) (e : Ending) (w' : World) : Prop := ∃ v' xs', e = .returned r ∧ NetV w' base p X S' v' xs' ∧ rowNew w v v' ∧ Chg (writes p v) w w'
set_option maxHeartbeats 4000000 in
theorem double_ok {w : World} {base p : Nat} {X : Nat → Prop} {S : NS} {v : Value} {xs : List Value} (h : NetV w base p X S v xs) (i : Nat) (hi : i < S.L.length) (hlen : (S.L.getD i []).length ≤ 100000)
    (hr0 : 0 ≤ S.room) (hr : S.room ≤ 64) (hroom : (S.L.length : Int) < S.room) (hs0 : 0 ≤ S.d) (hs1 : S.d < 1000000) (hb : base ≤ w.heap.size) :
    Calls Tryd.prog 52 #[.pointer (some ⟨p, 0, none⟩), .int .i64 i] w (NetEnd w base p X .nilIface { S with L := S.L ++ [S.L.getD i []], d := S.d + 1 } v) := by
  have hrm := room_any h hr0 hr (by omega)
  obtain ⟨it, j1, j2, j3, j4⟩ := of_row1 row55
  obtain ⟨g, c, rfl, hnc, hcm, hgl⟩ := own_form8 h.own (by omega)
  obtain ⟨x, hx, ht⟩ := h.txt i hi
  obtain ⟨Ax, cx, rfl⟩ := ht.form
  have HR := Lib.hid hrm
  have HH := Lib.hid h
  have hq : (S.room - (S.L.length : Int) == 0) = false := by simp; omega
  have hq2 : ¬ (S.room - (S.L.length : Int) = 0) := by omega
  have hlt : (i : Int) < (S.L.length : Int) := by omega
  have gi : w.cell? ⟨g, i, none⟩ = some (.slice Ax (S.L.getD i []).length cx) := by
    obtain ⟨cur, hh, hsz, _, _, _, htk, hxl⟩ := own_open h.own
    rw [cell_of_row _ _ _ _ _ _ hh, ← Array.getElem?_toList, ← hx, ← htk, List.getElem?_take_of_lt hi]
  have hcl : Hid (∀ k, Calls Tryd.prog 80 #[.slice Ax (S.L.getD i []).length cx] (w.drewN k) fun e w' => ∃ v, e = .returned v ∧ TextIs w' (fun j => (w.drewN k).heap.size ≤ j) v (S.L.getD i []) ∧ Below (w.drewN k).heap.size (w.drewN k) w') := Lib.hid (fun k => by
    obtain ⟨A', c', e, hBB, _⟩ := ht
    injection e with e1 e2 e3
    subst e1
    exact clone_any Ax (S.L.getD i []).length cx (S.L.getD i []) (w.drewN k) rfl hBB (by omega) (fun e => by
      subst e
      rcases Nat.eq_zero_or_pos (S.L.getD i []).length with h0 | h0
      · exact h0
      · obtain ⟨_, _, he, _⟩ := hBB h0
        cases he))
  have c5 : w.cell? ⟨p, 5, none⟩ = some (.slice (some ⟨g, 0, none⟩) S.L.length c) := (net_cell h 5).trans rfl
  generalize S.L.getD i [] = t at *
  clear hrm h hx ht
  go_enter Tryd.func52, Tryd.ntmps52
  go_wp2_with (go_at_call 55; (with_reducible refine HR.out.mono ?_); rintro e w1 ⟨rfl, k1, rfl⟩)
  have hN0 : NetV ((w.drewN k1).drew) base p X S (.slice (some ⟨g, 0, none⟩) S.L.length c) xs := HH.out.below ⟨rfl, rfl, rfl, Nat.le_refl _, fun _ _ => rfl⟩
  go_region_law (first
    | (go_simp
       go_at_call 80
       (with_reducible refine (hcl.out (k1 + 1)).mono ?_)
       rintro e w2 ⟨x, rfl, hT2, hb2⟩
       obtain ⟨Ay, cy, rfl⟩ := hT2.form
       have hN2 := HH.out.below (show Below w.heap.size w w2 from (show Below w.heap.size w (w.drewN (k1 + 1)) from ⟨rfl, rfl, rfl, Nat.le_refl _, fun _ _ => rfl⟩).trans hb2)
       have d5 : w2.cell? ⟨p, 5, none⟩ = some (.slice (some ⟨g, 0, none⟩) S.L.length c) := (net_cell hN2 5).trans rfl
       have d5a : (w2.alloc (.cells #[.slice Ay t.length cy] 55)).cell? ⟨p, 5, none⟩ = some (.slice (some ⟨g, 0, none⟩) S.L.length c) := (net_cell (hN2.below (alloc_below w2 _)) 5).trans rfl
       have hsz2 : w.heap.size ≤ w2.heap.size := hb2.size)
    | (go_loud (refine step_append_lies _ rfl (.tmp 27) (.tmp 36) 74 rfl base 55 it (.slice none 0 0) 1 24 Tryd.underlying74 j1 j2 j3 j4 rfl (by decide) (.slice (some ⟨g, 0, none⟩) S.L.length c) S.L.length xs rfl (hN2.own.alloc _) ⟨w2.heap.size, 0, none⟩ 1 1 [.slice Ay t.length cy] rfl rfl (one_new _ _ _) (one_one hT2) (by decide) (by unfold maxLen; omega) (by omega) (by simp; omega) _ rfl ?_)
       intro gn cn w3 hown hgrow hat hltn
       have hN2a := hN2.below (alloc_below w2 (.cells #[.slice Ay t.length cy] 55))
       have hTa : TextIs (w2.alloc (.cells #[.slice Ay t.length cy] 55)) (fun k => base ≤ k ∧ ¬ X k ∧ some k ≠ (Value.slice (some ⟨g, 0, none⟩) S.L.length c).ownBlock) (.slice Ay t.length cy) t := (hT2.below (alloc_below w2 _)).mono (fun k hk hj => ⟨by have : w.heap.size ≤ k := hj; omega, fun hX => by have := HH.out.xlt k hX; have : w.heap.size ≤ k := hj; omega, fun e => by
         injection e with e
         have e' : k = g := e
         have : w.heap.size ≤ k := hj
         omega⟩)
       have hP := hN2a.push hTa hown hgrow hat
       have hb3 : w3.heap[p]? = some (.cells (netC S (.slice (some ⟨g, 0, none⟩) S.L.length c)) 122 (0, 0)) := (hgrow.block p hN2a.plt (fun e => HH.out.xg p e.symm HH.out.xp)).trans hN2a.blk
       have d5' : w3.cell? ⟨p, 5, none⟩ = some (.slice (some ⟨g, 0, none⟩) S.L.length c) := (cell_of_row _ _ _ _ _ _ hb3).trans rfl
       have f5' : w3.frozen? ⟨p, 5, none⟩ = false := by simp [World.frozen?, hb3]
       have d0 : (w3.setCell ⟨p, 5, none⟩ (.slice (some ⟨gn, 0, none⟩) (S.L.length + 1) cn)).cell? ⟨p, 3, none⟩ = some (.int .i64 S.d) := (net_cell hP.1 3).trans rfl
       have f0 : (w3.setCell ⟨p, 5, none⟩ (.slice (some ⟨gn, 0, none⟩) (S.L.length + 1) cn)).frozen? ⟨p, 3, none⟩ = false := net_frozen hP.1 3
       have HP := Lib.hid hP
       have Hat := Lib.hid hat
       have Hb2 := Lib.hid hb2
       clear hP hb3 hat hown hgrow hTa hN2a hN2 hT2 hb2))
  all_goals
    go_wp2_with fail
    go_ret
    refine ⟨_, _, rfl, HP.out.1.count 3 _ rfl rfl, ?_, ?_⟩
    · rcases Hat.out with h1 | h1
      · exact .inl h1.symm
      · refine .inr (fun k hk => ?_)
        injection hk with hk
        have : gn = k := hk
        have h2 := h1
        simp at h2
        omega
    · have hd : Below w.heap.size w (w.drewN (k1 + 1)) := ⟨rfl, rfl, rfl, Nat.le_refl _, fun _ _ => rfl⟩
      have hw2 : Below w.heap.size w w2 := hd.trans Hb2.out
      exact ((Chg.of_below (hw2.trans ((alloc_below w2 _).mono hw2.size))).trans HP.out.2).setCell (.inl rfl) _
end Go.Proofs.YtdglpbjofdipkaaDoor
