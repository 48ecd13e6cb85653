/- The reference's net in memory; Has, Send. -/
import Derived.Test.YtdglpbjofdipkaaDoorNetH
namespace Go.Proofs.YtdglpbjofdipkaaDoor
open Go.RowKit Go.Stop Go.Extern Go.Ranges Go.Rows2 Go.Sort Go.BigFrame
set_option linter.unusedVariables false
set_option linter.unusedSimpArgs false
/-- 'append(v, ys...)' of texts' slices, ys whatever: nil, or of no text, too. -/
theorem app_texts {w : World} {base : Nat} {v : Value} {n : Nat} {xs : List Value} (hown : w.ownsRow base 55 1 v n xs) (A : Option Addr) (m c : Nat) (ys : List Value) (hm : ys.length = m)
    (hB : 0 < m → ∃ b o, A = some ⟨b, o, none⟩ ∧ ∀ j u, ys[j]? = some u → w.cell? ⟨b, o + j, none⟩ = some u) (h1 : ∀ u ∈ ys, u.oneCell' = true) (hbase : base ≤ w.heap.size) (hs : n + m ≤ 1000000) :
    ∃ v' w', (Builtin.append_ #[74, 74] 74 #[v, .slice A m c]).run Tryd.prog w = .ok v' w' ∧ w'.ownsRow base 55 1 v' (n + m) (xs ++ ys) ∧ w.grownBy w' v.ownBlock := by
  obtain ⟨it, j1, j2, j3, j4⟩ := of_row1 row55
  by_cases h0 : m = 0
  · subst h0
    obtain rfl := List.eq_nil_of_length_eq_zero hm
    refine ⟨v, w, ?_, by simpa using hown, ⟨rfl, rfl, rfl, Nat.le_refl _, fun _ _ _ => rfl⟩⟩
    rcases hown.2 with ⟨rfl, rfl⟩ | ⟨g, cap, cur, rfl, _, hg, hcap, _⟩
    · cases A <;> simp [Builtin.append_, run_underlying Tryd.underlying74, Go.sizeOf, typeInfo, j1, j3, Builtin.lenOf, Builtin.firstCells, loadCells, loadCellsFrom]
    · cases A <;> simp [Builtin.append_, run_underlying Tryd.underlying74, Go.sizeOf, typeInfo, j1, j3, Builtin.lenOf, Builtin.firstCells, loadCells, loadCellsFrom, hcap, storeCells]
  · obtain ⟨b, o, rfl, hc⟩ := hB (by omega)
    obtain ⟨v', w', hr, ho, hgr, _⟩ := run_append_own_at (P := Tryd.prog) w base 74 74 55 it (.slice none 0 0) 1 24 Tryd.underlying74 j1 j2 j3 j4 rfl (by decide) v n xs hown ⟨b, o, none⟩ m c ys (by rw [hm, Nat.mul_one]) (fun j u hu => by
      rw [Addr.add_mid]
      exact hc j u hu) h1 (by unfold maxLen; omega) (by omega) hbase
    exact ⟨v', w', hr, ho, hgr⟩
/-- A new row of no text. -/
theorem own_none (w : World) (base : Nat) (hb : base ≤ w.heap.size) : (w.alloc (.cells #[] 55)).ownsRow base 55 1 (.slice (some ⟨w.heap.size, 0, none⟩) 0 0) 0 [] :=
  ⟨rfl, .inr ⟨_, 0, #[], rfl, hb, heap_alloc_last w _, Nat.le_refl _, Nat.zero_le _, rfl, rfl⟩⟩
def refC (S : NS) (v : Value) : Array Value := #[.int .i64 S.room, v, .int .i64 S.s, .int .i64 S.t, .int .i64 S.l, .int .i64 S.d]
/-- The reference's net in memory. -/
structure RefV (w : World) (base q : Nat) (S : NS) (v : Value) (xs : List Value) : Prop where
  blk : w.heap[q]? = some (.cells (refC S v) 92 (0, 0))
  own : w.ownsRow base 55 1 v S.L.length xs
  txt : ∀ i, i < S.L.length → ∃ x, xs[i]? = some x ∧ TextIs w (fun k => k < base) x (S.L.getD i [])
  hq : base ≤ q
  vq : ∀ k, v.ownBlock = some k → k ≠ q
theorem RefV.qlt {w : World} {base q : Nat} {S : NS} {v : Value} {xs : List Value} (h : RefV w base q S v xs) : q < w.heap.size := (Array.getElem?_eq_some_iff.1 h.blk).1
theorem RefV.len {w : World} {base q : Nat} {S : NS} {v : Value} {xs : List Value} (h : RefV w base q S v xs) : xs.length = S.L.length := by have := h.own.1; rwa [Nat.mul_one] at this
theorem RefV.base_le {w : World} {base q : Nat} {S : NS} {v : Value} {xs : List Value} (h : RefV w base q S v xs) : base ≤ w.heap.size := by have := h.qlt; have := h.hq; omega
theorem RefV.keep {w w' : World} {base q : Nat} {T : Nat → Prop} {S : NS} {v : Value} {xs : List Value} (h : RefV w base q S v xs) (hc : Chg T w w') (h1 : ¬ T q) (h2 : ∀ k, v.ownBlock = some k → ¬ T k) (h3 : ∀ k, T k → base ≤ k) : RefV w' base q S v xs :=
  ⟨(hc.block q h.qlt h1).trans h.blk, own_chg h.own hc h2, fun i hi => by
    obtain ⟨x, e, ht⟩ := h.txt i hi
    exact ⟨x, e, ht.chg hc (fun k _ hk hT => by have := h3 k hT; have hk' : k < base := hk; omega)⟩, h.hq, h.vq⟩
theorem RefV.below {w w' : World} {base q : Nat} {S : NS} {v : Value} {xs : List Value} (h : RefV w base q S v xs) (hb : Below w.heap.size w w') : RefV w' base q S v xs :=
  h.keep (T := fun _ => False) (Chg.of_below hb) (fun h => h) (fun _ _ h => h) (fun _ h => h.elim)
theorem ref_cell {w : World} {base q : Nat} {S : NS} {v : Value} {xs : List Value} (h : RefV w base q S v xs) (j : Nat) : w.cell? ⟨q, j, none⟩ = (refC S v)[j]? := cell_of_row _ _ _ _ _ _ h.blk
theorem ref_frozen {w : World} {base q : Nat} {S : NS} {v : Value} {xs : List Value} (h : RefV w base q S v xs) (j : Nat) : w.frozen? ⟨q, j, none⟩ = false := by simp [World.frozen?, h.blk]
theorem RefV.count {w : World} {base q : Nat} {S S' : NS} {v : Value} {xs : List Value} (h : RefV w base q S v xs) (j : Nat) (u : Value) (hC : (refC S v).setIfInBounds j u = refC S' v) (hL : S'.L = S.L) : RefV (w.setCell ⟨q, j, none⟩ u) base q S' v xs := by
  have hc := chg_cell w q j u
  refine ⟨?_, ?_, fun i hi => ?_, h.hq, h.vq⟩
  · rw [setCell_row (a := ⟨q, j, none⟩) rfl h.blk]
    show some (Obj.cells ((refC S v).setIfInBounds j u) _ _) = _
    rw [hC]
  · rw [hL]
    exact own_chg h.own hc h.vq
  · rw [hL] at hi
    obtain ⟨x, e, ht⟩ := h.txt i hi
    rw [hL]
    exact ⟨x, e, ht.chg hc (fun k _ hk e => by have := h.hq; have hk' : k < base := hk; have e' : k = q := e; omega)⟩
theorem RefV.list {w : World} {base q : Nat} {S : NS} {v : Value} {xs : List Value} (h : RefV w base q S v xs) : ListIs w (fun _ => True) v S.L := by
  rcases h.own.2 with ⟨rfl, h0⟩ | ⟨g, cap, cur, rfl, hb, hh, h1, h2, h3, h4⟩
  · exact ⟨none, 0, by rw [h0], by omega, Nat.zero_le _, fun hn => by omega⟩
  · refine ⟨_, cap, rfl, h1, h2, fun hn => ⟨g, 0, rfl, (Array.getElem?_eq_some_iff.1 hh).1, trivial, fun i hi => ?_⟩⟩
    obtain ⟨x, e, ht⟩ := h.txt i hi
    refine ⟨x, ?_, ht.mono (fun _ _ _ => trivial)⟩
    rw [cell_of_row _ _ _ _ _ _ hh, Nat.zero_add, ← Array.getElem?_toList]
    rw [Nat.mul_one] at h4
    rw [← e, ← h4, List.getElem?_take_of_lt hi]
/-- The row's cells. -/
theorem own_cells {w : World} {base : Nat} {e : TypeId} {A : Option Addr} {n c : Nat} {xs : List Value} (h : w.ownsRow base e 1 (.slice A n c) n xs) : 0 < n → ∃ b o, A = some ⟨b, o, none⟩ ∧ ∀ j u, xs[j]? = some u → w.cell? ⟨b, o + j, none⟩ = some u := fun hn => by
  rcases h.2 with ⟨_, h0⟩ | ⟨g, cap, cur, hv, _, hh, h1, h2, h3, h4⟩
  · omega
  · injection hv with e1 e2 e3
    subst e1
    refine ⟨g, 0, rfl, fun j u hu => ?_⟩
    have hl : xs.length = n := by have := h.1; rwa [Nat.mul_one] at this
    rw [Nat.mul_one] at h4
    have hj : j < n := by rw [← hl]; exact (List.getElem?_eq_some_iff.1 hu).1
    rw [cell_of_row _ _ _ _ _ _ hh, Nat.zero_add, ← Array.getElem?_toList, ← hu, ← h4, List.getElem?_take_of_lt hj]
theorem RefV.one {w : World} {base q : Nat} {S : NS} {v : Value} {xs : List Value} (h : RefV w base q S v xs) : ∀ u ∈ xs, u.oneCell' = true := fun u hu => by
  obtain ⟨i, hi, rfl⟩ := List.mem_iff_getElem.1 hu
  obtain ⟨x, hx, ht⟩ := h.txt i (by rw [← h.len]; exact hi)
  rw [List.getElem?_eq_getElem hi] at hx
  injection hx with hx
  rw [hx]; exact ht.one
/-- A new row of texts is laid into the reference's net. -/
theorem RefV.relay {w w' : World} {base q : Nat} {S : NS} {v v' : Value} {xs xs' : List Value} {L' : List (List Int)} (h : RefV w base q S v xs) (hb : Below w.heap.size w w') (ho : w'.ownsRow w.heap.size 55 1 v' L'.length xs')
    (hx : ∀ i, i < L'.length → ∃ x, xs'[i]? = some x ∧ TextIs w (fun k => k < base) x (L'.getD i [])) : RefV (w'.setCell ⟨q, 1, none⟩ v') base q { S with L := L' } v' xs' ∧ Chg (fun k => k = q) w (w'.setCell ⟨q, 1, none⟩ v') ∧ rowNew w v v' := by
  have hC : Chg (fun k => k = q) w (w'.setCell ⟨q, 1, none⟩ v') := (Chg.of_below hb).trans (chg_cell _ _ _ _)
  have hnew : ∀ k, v'.ownBlock = some k → w.heap.size ≤ k := fun k hk => by
    rcases ho.2 with ⟨hv, _⟩ | ⟨g, _, _, hv, hg, _⟩
    · rw [hv] at hk; cases hk
    · rw [hv] at hk; injection hk with hk
      have e : g = k := hk
      omega
  have hvq : ∀ k, v'.ownBlock = some k → k ≠ q := fun k hk e => by have := hnew k hk; have := h.qlt; omega
  have ho2 : w'.ownsRow base 55 1 v' L'.length xs' := by
    refine ⟨ho.1, ?_⟩
    rcases ho.2 with h1 | ⟨g, cap, cur, hv, hg, r⟩
    · exact .inl h1
    · exact .inr ⟨g, cap, cur, hv, Nat.le_trans h.base_le hg, r⟩
  refine ⟨⟨?_, own_chg (T := fun k => k = q) ho2 (chg_cell _ _ _ _) hvq, fun i hi => ?_, h.hq, hvq⟩, hC, .inr hnew⟩
  · have hb1 : w'.heap[q]? = some (.cells (refC S v) 92 (0, 0)) := (hb.block q h.qlt).trans h.blk
    exact (setCell_row (a := ⟨q, 1, none⟩) rfl hb1).trans rfl
  · obtain ⟨x, e, ht⟩ := hx i hi
    exact ⟨x, e, ht.chg hC (fun k _ hk e => by have := h.hq; have hk' : k < base := hk; have e' : k = q := e; omega)⟩
set_option maxRecDepth 20000 in
theorem has_any {w : World} {base q : Nat} {S : NS} {v : Value} {xs : List Value} (h : RefV w base q S v xs) (i : Int) (b : Bool) (hb : b = decide (0 ≤ i ∧ i < (S.L.length : Int))) :
    Calls Tryd.prog 83 #[.pointer (some ⟨q, 0, none⟩), .int .i64 i] w fun e w' => e = .returned (.bool b) ∧ w = w' := by
  obtain ⟨A, c, hv⟩ := own_slice h.own
  have c5 : w.cell? ⟨q, 1, none⟩ = some v := (ref_cell h 1).trans rfl
  rw [hv] at c5
  clear h hv
  by_cases h0 : 0 ≤ i
  · by_cases h1 : i < (S.L.length : Int)
    · have HB : Hid (b = true) := by rw [hb]; exact decide_eq_true ⟨h0, h1⟩
      clear hb
      go_enter Tryd.func83, Tryd.ntmps83
      go_wp2_with fail
      go_ret
      exact ⟨by rw [HB.out]; rfl, rfl⟩
    · have HB : Hid (b = false) := by rw [hb]; exact decide_eq_false (fun h => h1 h.2)
      clear hb
      go_enter Tryd.func83, Tryd.ntmps83
      go_wp2_with fail
      go_ret
      exact ⟨by rw [HB.out]; rfl, rfl⟩
  · have HB : Hid (b = false) := by rw [hb]; exact decide_eq_false (fun h => h0 h.1)
    clear hb
    go_enter Tryd.func83, Tryd.ntmps83
    go_wp2_with fail
    go_ret
    exact ⟨by rw [HB.out]; rfl, rfl⟩
end Go.Proofs.YtdglpbjofdipkaaDoor
