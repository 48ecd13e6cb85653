/- A net's texts go out. -/
import Derived.Test.YtdglpbjofdipkaaDoorNetA
namespace Go.Proofs.YtdglpbjofdipkaaDoor
open Go.RowKit Go.Stop Go.Extern Go.Ranges Go.Rows2 Go.Sort Go.BigFrame
set_option linter.unusedVariables false
set_option linter.unusedSimpArgs false
theorem TextIs.one {w : World} {S : Nat → Prop} {x : Value} {t : List Int} (h : TextIs w S x t) : x.oneCell' = true := by
  obtain ⟨A, c, rfl, _⟩ := h
  rfl
theorem NetV.one {w : World} {base p : Nat} {X : Nat → Prop} {S : NS} {v : Value} {xs : List Value} (h : NetV w base p X S v xs) : ∀ u ∈ xs, u.oneCell' = true := fun u hu => by
  obtain ⟨i, hi, rfl⟩ := List.mem_iff_getElem.1 hu
  obtain ⟨x, hx, ht⟩ := h.txt i (by rw [← h.len]; exact hi)
  rw [List.getElem?_eq_getElem hi] at hx
  injection hx with hx
  rw [hx]; exact ht.one
theorem out_no (a : Nat → Addr) {w : World} {base p : Nat} {X : Nat → Prop} {S : NS} {v : Value} {xs : List Value} (h : NetV w base p X S v xs) (i : Int) (hi : i < 0 ∨ (S.L.length : Int) ≤ i) (H : Errs w a) :
    Calls Tryd.prog 81 #[.pointer (some ⟨p, 0, none⟩), .int .i64 i] w fun e w' => e = .returned (.tuple #[.slice none 0 0, .iface 143 (.pointer (some (a 21)))]) ∧ Below w.heap.size w w' := by
  obtain ⟨A, c, hv⟩ := h.slice
  have c5 := net_cell h 5
  rw [show (netC S v)[5]? = some v from rfl, hv] at c5
  have e1 : w.cell? ⟨20, 0, none⟩ = _ := H.at 21 (by decide) (by decide)
  clear h hv
  by_cases h0 : i < 0
  · go_enter Tryd.func81, Tryd.ntmps81
    go_wp2
    go_quiet (fail)
    go_wp2
    go_ret2
    exact ⟨rfl, below_drewN _ _⟩
  · have h1 : (S.L.length : Int) ≤ i := by omega
    go_enter Tryd.func81, Tryd.ntmps81
    go_wp2
    go_quiet (fail)
    go_wp2
    go_ret2
    exact ⟨rfl, below_drewN _ _⟩
/-- The blocks that a net writes. -/
def writes (p : Nat) (v : Value) (k : Nat) : Prop := k = p ∨ some k = v.ownBlock
theorem netC_set (S : NS) (v v' : Value) : (netC S v).setIfInBounds 5 v' = netC S v' := rfl
theorem eraseIdx_getD (l : List (List Int)) (i j : Nat) : (l.eraseIdx i).getD j [] = if j < i then l.getD j [] else l.getD (j + 1) [] := by
  rw [List.getD_eq_getElem?_getD, List.getElem?_eraseIdx]
  split <;> rw [← List.getD_eq_getElem?_getD]
set_option maxRecDepth 20000 in
set_option maxHeartbeats 2000000 in
theorem out_ok {w : World} {base p : Nat} {X : Nat → Prop} {S : NS} {v : Value} {xs : List Value} (h : NetV w base p X S v xs) (i : Nat) (hi : i < S.L.length) (hL : S.L.length ≤ 1000) :
    Calls Tryd.prog 81 #[.pointer (some ⟨p, 0, none⟩), .int .i64 i] w fun e w' => ∃ x v' xs', e = .returned (.tuple #[x, .nilIface]) ∧ TextIs w' (fun k => base ≤ k ∧ ¬ X k ∧ some k ≠ v.ownBlock) x (S.L.getD i []) ∧ NetV w' base p X { S with L := S.L.eraseIdx i } v' xs' ∧ v'.ownBlock = v.ownBlock ∧ Chg (writes p v) w w' ∧
      (∃ g c, v' = .slice (some ⟨g, 0, none⟩) (S.L.length - 1) c ∧ S.L.length ≤ c ∧ c ≤ maxLen) := by
  obtain ⟨g, c, rfl, hnc, hcm, hgl⟩ := own_form8 h.own (by omega)
  have hgp : g ≠ p := fun e => h.xg g rfl (e ▸ h.xp)
  obtain ⟨x, hx, ht⟩ := h.txt i hi
  have c5 : w.cell? ⟨p, 5, none⟩ = some (.slice (some ⟨g, 0, none⟩) S.L.length c) := (net_cell h 5).trans rfl
  have hcg : w.cell? ⟨g, i, none⟩ = some x := by
    obtain ⟨cur, hh, hsz, _, _, _, htk, hxl⟩ := own_open h.own
    rw [cell_of_row _ _ _ _ _ _ hh, ← Array.getElem?_toList, ← hx, ← htk, List.getElem?_take_of_lt hi]
  have hd := delete_any base g S.L.length c i (i + 1) xs w h.own hi rfl h.one
  rw [show (((i + 1 : Nat)) : Int) = (i : Int) + 1 by omega] at hd
  have hlt : (i : Int) < (S.L.length : Int) := by omega
  have hq : IntKind.i64.wrap ((i : Int) + 1) = (i : Int) + 1 := by rw [IntKind.wrap_i64]; omega
  have HD := Lib.hid hd
  have HH := Lib.hid h
  have HT := Lib.hid ht
  have hcm2 : (c : Int) ≤ 9223372036854775807 := by have := hcm; unfold maxLen at this; omega
  clear hd h hx ht
  go_enter Tryd.func81, Tryd.ntmps81
  go_wp2_with (go_at_call 89
               (with_reducible refine HD.out.mono ?_)
               rintro e w1 ⟨rfl, ho1, hg1⟩
               have hb1 : w1.heap[p]? = some (.cells (netC S (.slice (some ⟨g, 0, none⟩) S.L.length c)) 122 (0, 0)) := (hg1.block p HH.out.plt (fun e => hgp (by injection e with e; exact e.symm))).trans HH.out.blk
               have d5 : w1.cell? ⟨p, 5, none⟩ = some (.slice (some ⟨g, 0, none⟩) S.L.length c) := (cell_of_row _ _ _ _ _ _ hb1).trans rfl
               have f5 : w1.frozen? ⟨p, 5, none⟩ = false := by simp [World.frozen?, hb1]
               have HB1 := Lib.hid hb1
               have HO1 := Lib.hid ho1
               have HG1 := Lib.hid hg1
               clear hb1 ho1 hg1)
  go_ret2
  have hC1 : Chg (writes p (.slice (some ⟨g, 0, none⟩) S.L.length c)) w w1 := Chg.of_grown HG1.out (fun k hk => .inr hk.symm)
  have hC2 := hC1.setCell (p := ⟨p, 5, none⟩) (.inl rfl) (.slice (some ⟨g, 0, none⟩) (S.L.length - 1) c)
  have hTw : ∀ k, k < w.heap.size → (base ≤ k ∧ ¬ X k ∧ some k ≠ some g) → ¬ writes p (.slice (some ⟨g, 0, none⟩) S.L.length c) k := fun k hk ⟨a, b, c⟩ hw => by
    rcases hw with rfl | hw
    · exact b HH.out.xp
    · exact c hw
  refine ⟨x, .slice (some ⟨g, 0, none⟩) (S.L.length - 1) c, xs.eraseIdx i, rfl, HT.out.chg hC2 hTw, ⟨?_, ?_, fun j hj => ?_, HH.out.hp, HH.out.xp, fun k hk => Nat.lt_of_lt_of_le (HH.out.xlt k hk) hC2.size, HH.out.xg⟩, rfl, hC2, g, c, rfl, hnc, hcm⟩
  · exact (setCell_row (a := ⟨p, 5, none⟩) rfl HB1.out).trans rfl
  · have hl : (S.L.eraseIdx i).length = S.L.length - 1 := by rw [List.length_eraseIdx, if_pos hi]
    show World.ownsRow _ _ _ _ _ (S.L.eraseIdx i).length _
    rw [hl]
    exact own_chg (T := fun k => k = p) HO1.out (chg_cell _ _ _ _) (fun k hk e => hgp (by injection hk with hk; exact hk.trans e))
  · have hl : (S.L.eraseIdx i).length = S.L.length - 1 := by rw [List.length_eraseIdx, if_pos hi]
    have hj' : j < S.L.length - 1 := by rw [← hl]; exact hj
    show ∃ x, (xs.eraseIdx i)[j]? = some x ∧ TextIs _ _ x ((S.L.eraseIdx i).getD j [])
    rw [List.getElem?_eraseIdx, eraseIdx_getD]
    by_cases hji : j < i
    · obtain ⟨y, hy, hty⟩ := HH.out.txt j (by omega)
      rw [if_pos hji, if_pos hji]
      exact ⟨y, hy, hty.chg hC2 hTw⟩
    · obtain ⟨y, hy, hty⟩ := HH.out.txt (j + 1) (by omega)
      rw [if_neg hji, if_neg hji]
      exact ⟨y, hy, hty.chg hC2 hTw⟩
end Go.Proofs.YtdglpbjofdipkaaDoor
