/- A net: Take in one form, Copy; what stays of the numbers. -/
import Derived.Test.YtdglpbjofdipkaaDoorNetJ
namespace Go.Proofs.YtdglpbjofdipkaaDoor
open Go.RowKit Go.Stop Go.Extern Go.Ranges Go.Rows2 Go.Sort Go.BigFrame
set_option linter.unusedVariables false
set_option linter.unusedSimpArgs false
set_option maxRecDepth 20000
def takeT (S : NS) (i : Int) : List Int := if S.has i then S.L.getD i.toNat [] else []
theorem TextIs.none (w : World) (P : Nat → Prop) : TextIs w P (.slice none 0 0) [] := ⟨_, 0, rfl, fun h => absurd h (by decide), Nat.le_refl _, Nat.zero_le _, fun a e => by cases e⟩
theorem take_all (a : Nat → Addr) {w : World} {base p : Nat} {X : Nat → Prop} {S : NS} {v : Value} {xs : List Value} {k : Nat} (h : NetV w base p X S v xs) (hS : S.ok k) (hk : k ≤ 1000) (H : Errs w a) (i : Int) :
    Calls Tryd.prog 50 #[.pointer (some ⟨p, 0, none⟩), .int .i64 i] w fun e w' => ∃ x, TextIs w' (fun k => base ≤ k ∧ ¬ X k) x (takeT S i) ∧ NetEnd w base p X (.tuple #[x, errV a (takeC S i)]) (takeS S i) v e w' := by
  obtain ⟨r0, r1, hl, _, hs, _, _, _⟩ := hS
  by_cases h1 : S.has i
  · have e1 : takeC S i = 0 := if_pos h1
    have e2 : takeS S i = { S with L := S.L.eraseIdx i.toNat, t := S.t + 1 } := if_pos h1
    have e3 : takeT S i = S.L.getD i.toNat [] := if_pos h1
    rw [e1, e2, e3]
    obtain ⟨j, rfl⟩ : ∃ j : Nat, i = j := ⟨i.toNat, by have := h1.1; omega⟩
    have hj := h1.2
    refine (take_ok h j (by omega) (by omega) hs.1 (by omega)).mono ?_
    rintro e w' ⟨x, v', xs', rfl, hx, hN, hr, hC⟩
    exact ⟨x, hx.mono (fun k _ hh => ⟨hh.1, hh.2.1⟩), v', xs', rfl, hN, .inl hr, hC⟩
  · have e1 : takeC S i = 21 := if_neg h1
    have e2 : takeS S i = S := if_neg h1
    have e3 : takeT S i = [] := if_neg h1
    rw [e1, e2, e3]
    refine (take_no a h i (by unfold NS.has at h1; omega) H).mono ?_
    rintro e w' ⟨rfl, hb'⟩
    exact ⟨.slice none 0 0, TextIs.none _ _, h.same hb' (by rw [errV_pos a 21 (by decide)])⟩
theorem refTake_all {w : World} {base q : Nat} {S : NS} {v : Value} {xs : List Value} {k : Nat} (h : RefV w base q S v xs) (hS : S.ok k) (hk : k ≤ 1000) (i : Int) :
    Calls Tryd.prog 57 #[.pointer (some ⟨q, 0, none⟩), .int .i64 i] w fun e w' => ∃ x, TextIs w' (fun k => k < base) x (takeT S i) ∧ RefEnd w base q (.tuple #[x, .int .i64 (takeC S i)]) (takeS S i) v e w' := by
  obtain ⟨r0, r1, hl, _, hs, _, _, _⟩ := hS
  by_cases h1 : S.has i
  · have e1 : takeC S i = 0 := if_pos h1
    have e2 : takeS S i = { S with L := S.L.eraseIdx i.toNat, t := S.t + 1 } := if_pos h1
    have e3 : takeT S i = S.L.getD i.toNat [] := if_pos h1
    rw [e1, e2, e3]
    obtain ⟨j, rfl⟩ : ∃ j : Nat, i = j := ⟨i.toNat, by have := h1.1; omega⟩
    have hj := h1.2
    exact refTake_ok h j (by omega) (by omega) hs.1 (by omega)
  · have e1 : takeC S i = 21 := if_neg h1
    have e2 : takeS S i = S := if_neg h1
    have e3 : takeT S i = [] := if_neg h1
    rw [e1, e2, e3]
    refine (refTake_no h i (by unfold NS.has at h1; omega)).mono ?_
    rintro e w' ⟨rfl, rfl⟩
    exact ⟨.slice none 0 0, TextIs.none _ _, h.same (Below.refl _ _) rfl⟩
theorem NS.ok.more {S : NS} {k : Nat} (h : S.ok k) : S.ok (k + 1) := ⟨h.room0, h.room, h.len, ⟨h.s.1, by have := h.s.2; omega⟩, ⟨h.t.1, by have := h.t.2; omega⟩, ⟨h.l.1, by have := h.l.2; omega⟩, ⟨h.d.1, by have := h.d.2; omega⟩, h.short⟩
theorem sendS_ok {S : NS} {k : Nat} (h : S.ok k) (t : List Int) : (sendS S t).ok (k + 1) := by
  unfold sendS
  by_cases e : sendC S t = 0
  · rw [if_pos e]
    have h1 : ¬ 3100 < t.length := fun hh => by unfold sendC at e; rw [if_pos hh] at e; cases e
    have h2 : ¬ S.room ≤ (S.L.length : Int) := fun hh => by unfold sendC at e; rw [if_neg h1, if_pos hh] at e; cases e
    have h3 := h.more
    refine ⟨h3.room0, h3.room, ?_, ⟨?_, ?_⟩, h3.t, h3.l, h3.d, fun u hu => ?_⟩
    · show ((S.L ++ [t]).length : Int) ≤ S.room; simp; omega
    · show 0 ≤ S.s + 1; have := h.s.1; omega
    · show S.s + 1 ≤ ((k + 1 : Nat) : Int); have := h.s.2; omega
    · rcases List.mem_append.1 hu with h4 | h4
      · exact h.short u h4
      · simp at h4; subst h4; omega
  · rw [if_neg e]; exact h.more
theorem erase_ok {S : NS} (i : Int) (h : S.has i) : ((S.L.eraseIdx i.toNat).length : Int) ≤ S.L.length := by
  have := List.length_eraseIdx_le S.L i.toNat
  omega
theorem loseS_ok {S : NS} {k : Nat} (h : S.ok k) (i : Int) : (loseS S i).ok (k + 1) := by
  unfold loseS
  have h3 := h.more
  by_cases e : S.has i
  · rw [if_pos e]
    refine ⟨h3.room0, h3.room, ?_, h3.s, h3.t, ⟨?_, ?_⟩, h3.d, fun u hu => h.short u (List.mem_of_mem_eraseIdx hu)⟩
    · have := erase_ok i e; have := h.len; show ((S.L.eraseIdx i.toNat).length : Int) ≤ S.room; omega
    · show 0 ≤ S.l + 1; have := h.l.1; omega
    · show S.l + 1 ≤ ((k + 1 : Nat) : Int); have := h.l.2; omega
  · rw [if_neg e]; exact h3
theorem takeS_ok {S : NS} {k : Nat} (h : S.ok k) (i : Int) : (takeS S i).ok (k + 1) := by
  unfold takeS
  have h3 := h.more
  by_cases e : S.has i
  · rw [if_pos e]
    refine ⟨h3.room0, h3.room, ?_, h3.s, ⟨?_, ?_⟩, h3.l, h3.d, fun u hu => h.short u (List.mem_of_mem_eraseIdx hu)⟩
    · have := erase_ok i e; have := h.len; show ((S.L.eraseIdx i.toNat).length : Int) ≤ S.room; omega
    · show 0 ≤ S.t + 1; have := h.t.1; omega
    · show S.t + 1 ≤ ((k + 1 : Nat) : Int); have := h.t.2; omega
  · rw [if_neg e]; exact h3
theorem has_mem {S : NS} {i : Int} (h : S.has i) : S.L.getD i.toNat [] ∈ S.L := by
  have h1 := h.1
  have h2 := h.2
  rw [List.getD_eq_getElem?_getD, List.getElem?_eq_getElem (by omega)]
  exact List.getElem_mem _
theorem doubleS_ok {S : NS} {k : Nat} (h : S.ok k) (i : Int) : (doubleS S i).ok (k + 1) := by
  unfold doubleS
  have h3 := h.more
  by_cases e : doubleC S i = 0
  · rw [if_pos e]
    have h1 : S.has i := by
      by_cases hh : S.has i
      · exact hh
      · unfold doubleC at e; rw [if_neg hh] at e; cases e
    have h2 : ¬ S.room ≤ (S.L.length : Int) := fun hh => by unfold doubleC at e; rw [if_pos h1, if_pos hh] at e; cases e
    refine ⟨h3.room0, h3.room, ?_, h3.s, h3.t, h3.l, ⟨?_, ?_⟩, fun u hu => ?_⟩
    · show ((S.L ++ [S.L.getD i.toNat []]).length : Int) ≤ S.room; simp; omega
    · show 0 ≤ S.d + 1; have := h.d.1; omega
    · show S.d + 1 ≤ ((k + 1 : Nat) : Int); have := h.d.2; omega
    · rcases List.mem_append.1 hu with h4 | h4
      · exact h.short u h4
      · rw [List.mem_singleton] at h4; subst h4; exact h.short _ (has_mem h1)
  · rw [if_neg e]; exact h3
theorem moveS_ok {S : NS} {k : Nat} (h : S.ok k) (i j : Int) : (moveS S i j).ok (k + 1) := by
  unfold moveS
  have h3 := h.more
  by_cases e : S.has i ∧ S.has j
  · rw [if_pos e]
    have a1 := e.1.1
    have a2 := e.1.2
    have b1 := e.2.1
    have b2 := e.2.2
    refine ⟨h3.room0, h3.room, ?_, h3.s, h3.t, h3.l, h3.d, fun u hu => ?_⟩
    · show ((moved S.L i.toNat j.toNat).length : Int) ≤ S.room
      rw [moved_len (by omega) (by omega)]; exact h.len
    · have hu' : u ∈ moved S.L i.toNat j.toNat := hu
      unfold moved at hu'
      rcases List.mem_append.1 hu' with h4 | h4
      · exact h.short u (List.mem_of_mem_eraseIdx (List.mem_of_mem_take h4))
      · rcases List.mem_cons.1 h4 with h4 | h4
        · rw [h4]; exact h.short _ (has_mem e.1)
        · exact h.short u (List.mem_of_mem_eraseIdx (List.mem_of_mem_drop h4))
  · rw [if_neg e]; exact h3
theorem room_same (S : NS) (t : List Int) (i j : Int) : (sendS S t).room = S.room ∧ (loseS S i).room = S.room ∧ (takeS S i).room = S.room ∧ (doubleS S i).room = S.room ∧ (moveS S i j).room = S.room := by
  refine ⟨?_, ?_, ?_, ?_, ?_⟩
  · unfold sendS; split <;> rfl
  · unfold loseS; split <;> rfl
  · unfold takeS; split <;> rfl
  · unfold doubleS; split <;> rfl
  · unfold moveS; split <;> rfl
/-- A new net out of a row that was made just now. -/
theorem RT.net {w w2 : World} {base : Nat} {Y : Nat → Prop} {S : NS} {v : Value} {xs : List Value} (hR : RT w2 w.heap.size v xs S.L) (hb : base ≤ w.heap.size) (hs : w.heap.size ≤ w2.heap.size) (hY : ∀ k, Y k → k < w.heap.size) :
    NetV (w2.alloc (.cells (netC S v) 122)) base w2.heap.size (fun k => k = w2.heap.size ∨ Y k) S v xs ∧ ∀ k, v.ownBlock = some k → w.heap.size ≤ k := by
  have hown : ∀ k, v.ownBlock = some k → w.heap.size ≤ k ∧ k < w2.heap.size := fun k hk => by
    rcases hR.own.2 with ⟨hv, _⟩ | ⟨g, _, _, hv, hg, hh, _⟩
    · rw [hv] at hk; cases hk
    · rw [hv] at hk; injection hk with hk
      have e : g = k := hk
      have := (Array.getElem?_eq_some_iff.1 hh).1
      exact ⟨by omega, by omega⟩
  refine ⟨⟨heap_alloc_last w2 _, ?_, fun i hi => ?_, by omega, .inl rfl, fun k hk => ?_, fun k hk hX => ?_⟩, fun k hk => (hown k hk).1⟩
  · have h2 := (hR.below (alloc_below w2 (.cells (netC S v) 122))).own
    refine ⟨h2.1, ?_⟩
    rcases h2.2 with h1 | ⟨g, cap, cur, hv, hg, r⟩
    · exact .inl h1
    · exact .inr ⟨g, cap, cur, hv, Nat.le_trans hb hg, r⟩
  · obtain ⟨x, e, ht⟩ := hR.txt i hi
    refine ⟨x, e, (ht.mono (T := fun k => (base ≤ k ∧ ¬ (k = w2.heap.size ∨ Y k) ∧ some k ≠ v.ownBlock)) (fun k hk hh => ⟨by have := hh.1; omega, fun hX => ?_, hh.2⟩)).below (alloc_below w2 _)⟩
    rcases hX with hX | hX
    · omega
    · have := hY k hX; have := hh.1; omega
  · rcases hk with hk | hk
    · subst hk; simp
    · have := hY k hk; simp; omega
  · rcases hX with hX | hX
    · have := (hown k hk).2; omega
    · have := hY k hX; have := (hown k hk).1; omega
set_option maxHeartbeats 4000000 in
theorem copy_ok {w : World} {base p : Nat} {X Y : Nat → Prop} {S : NS} {v : Value} {xs : List Value} {k : Nat} (h : NetV w base p X S v xs) (hS : S.ok k) (hb : base ≤ w.heap.size) (hY : ∀ k, Y k → k < w.heap.size) :
    Calls Tryd.prog 61 #[.pointer (some ⟨p, 0, none⟩)] w fun e w' => ∃ p' v' xs', e = .returned (.pointer (some ⟨p', 0, none⟩)) ∧ w.heap.size ≤ p' ∧ NetV w' base p' (fun k => k = p' ∨ Y k) S v' xs' ∧ (∀ k, v'.ownBlock = some k → w.heap.size ≤ k) ∧ Below w.heap.size w w' := by
  have HH := Lib.hid h
  have hlen : S.L.length ≤ 1000 := by have := hS.len; have := hS.room; omega
  have hsh : ∀ t ∈ S.L, t.length ≤ 100000 := fun t ht => Nat.le_trans (hS.short t ht) (by decide)
  have HL := Lib.hid (And.intro hlen hsh)
  have c0 : w.cell? ⟨p, 0, none⟩ = some (.int .i64 S.s) := (net_cell h 0).trans rfl
  have c1 : w.cell? ⟨p, 1, none⟩ = some (.int .i64 S.t) := (net_cell h 1).trans rfl
  have c2 : w.cell? ⟨p, 2, none⟩ = some (.int .i64 S.l) := (net_cell h 2).trans rfl
  have c3 : w.cell? ⟨p, 3, none⟩ = some (.int .i64 S.d) := (net_cell h 3).trans rfl
  have c4 : w.cell? ⟨p, 4, none⟩ = some (.int .i64 S.room) := (net_cell h 4).trans rfl
  have HY := Lib.hid hY
  clear h hlen hsh hS hY
  go_enter Tryd.func61, Tryd.ntmps61
  go_wp2_with fail
  go_region_law (first
    | (go_simp
       go_at_call 47
       refine (all_rt (HH.out.below (Below.refl _ _).drew) HL.out.1 HL.out.2).mono ?_
       rintro e w2 ⟨v2, xs2, rfl, hR2, hb2⟩
       have hN2 := HH.out.below ((Below.refl w.heap.size w).drew.trans hb2)
       have d0 : w2.cell? ⟨p, 0, none⟩ = some (.int .i64 S.s) := (net_cell hN2 0).trans rfl
       have d1 : w2.cell? ⟨p, 1, none⟩ = some (.int .i64 S.t) := (net_cell hN2 1).trans rfl
       have d2 : w2.cell? ⟨p, 2, none⟩ = some (.int .i64 S.l) := (net_cell hN2 2).trans rfl
       have d3 : w2.cell? ⟨p, 3, none⟩ = some (.int .i64 S.d) := (net_cell hN2 3).trans rfl
       have d4 : w2.cell? ⟨p, 4, none⟩ = some (.int .i64 S.room) := (net_cell hN2 4).trans rfl
       obtain ⟨A2, cc2, hv2⟩ := own_slice hR2.own
       subst hv2))
  all_goals
    go_wp2_with fail
    go_ret
    obtain ⟨hN, hO⟩ := hR2.net (Y := Y) hb hb2.size HY.out
    have hd : Below w.heap.size w w2 := (Below.refl w.heap.size w).drew.trans hb2
    exact ⟨w2.heap.size, _, _, rfl, hb2.size, hN, hO, hd.alloc hd.size _⟩
end Go.Proofs.YtdglpbjofdipkaaDoor
