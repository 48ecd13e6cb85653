/- A net: Send, Double. -/
import Derived.Test.YtdglpbjofdipkaaDoorNetC
import Derived.Deep.RegionLaw
namespace Go.Proofs.YtdglpbjofdipkaaDoor
open Go.RowKit Go.Stop Go.Extern Go.Ranges Go.Rows2 Go.Sort Go.BigFrame
set_option linter.unusedVariables false
set_option linter.unusedSimpArgs false
theorem TextIs.below {w w' : World} {S : Nat → Prop} {x : Value} {t : List Int} (h : TextIs w S x t) (hb : Below w.heap.size w w') : TextIs w' S x t :=
  h.chg (T := fun _ => False) (Chg.of_below hb) (fun _ _ _ h => h)
/-- A text is appended, and the row laid back. -/
theorem NetV.push {w w' : World} {base p : Nat} {X : Nat → Prop} {S : NS} {v : Value} {xs : List Value} (h : NetV w base p X S v xs) {x : Value} {t : List Int} (ht : TextIs w (fun k => base ≤ k ∧ ¬ X k ∧ some k ≠ v.ownBlock) x t) {g cap : Nat}
    (ho : w'.ownsRow base 55 1 (.slice (some ⟨g, 0, none⟩) (S.L.length + 1) cap) (S.L.length + 1) (xs ++ [x])) (hg : w.grownBy w' v.ownBlock) (hat : v.ownBlock = some g ∨ g = w.heap.size) :
    NetV (w'.setCell ⟨p, 5, none⟩ (.slice (some ⟨g, 0, none⟩) (S.L.length + 1) cap)) base p X { S with L := S.L ++ [t] } (.slice (some ⟨g, 0, none⟩) (S.L.length + 1) cap) (xs ++ [x]) ∧ Chg (writes p v) w (w'.setCell ⟨p, 5, none⟩ (.slice (some ⟨g, 0, none⟩) (S.L.length + 1) cap)) := by
  have hgp : g ≠ p := fun e => by
    rcases hat with h1 | h1
    · exact h.xg g h1 (e ▸ h.xp)
    · have := h.plt; omega
  have hC : Chg (writes p v) w (w'.setCell ⟨p, 5, none⟩ (.slice (some ⟨g, 0, none⟩) (S.L.length + 1) cap)) := (Chg.of_grown hg (fun k hk => .inr hk.symm)).setCell (.inl rfl) _
  have hpv : some p ≠ v.ownBlock := fun e => h.xg p e.symm h.xp
  have hT : ∀ {y : Value} {u : List Int}, TextIs w (fun k => base ≤ k ∧ ¬ X k ∧ some k ≠ v.ownBlock) y u → TextIs (w'.setCell ⟨p, 5, none⟩ (.slice (some ⟨g, 0, none⟩) (S.L.length + 1) cap)) (fun k => base ≤ k ∧ ¬ X k ∧ some k ≠ (Value.slice (some ⟨g, 0, none⟩) (S.L.length + 1) cap).ownBlock) y u := fun hy => by
    have h2 : TextIs w (fun k => (base ≤ k ∧ ¬ X k ∧ some k ≠ v.ownBlock) ∧ some k ≠ some g) _ _ := hy.mono (fun k hk hh => ⟨hh, fun e => by
      injection e with e
      rcases hat with h1 | h1
      · exact hh.2.2 (by rw [h1, e])
      · omega⟩)
    exact (h2.chg hC (fun k hk hh hw => by
      rcases hw with rfl | hw
      · exact hh.1.2.1 h.xp
      · exact hh.1.2.2 hw)).mono (fun k hk hh => ⟨hh.1.1, hh.1.2.1, hh.2⟩)
  have hl : (S.L ++ [t]).length = S.L.length + 1 := by simp
  refine ⟨⟨?_, ?_, fun i hi => ?_, h.hp, h.xp, fun k hk => Nat.lt_of_lt_of_le (h.xlt k hk) hC.size, fun k hk hX => ?_⟩, hC⟩
  · have hb : w'.heap[p]? = some (.cells (netC S v) 122 (0, 0)) := (hg.block p h.plt hpv).trans h.blk
    exact (setCell_row (a := ⟨p, 5, none⟩) rfl hb).trans rfl
  · show World.ownsRow _ _ _ _ _ (S.L ++ [t]).length _
    rw [hl]
    exact own_chg (T := fun k => k = p) ho (chg_cell _ _ _ _) (fun k hk e => hgp (by injection hk with hk; exact hk.trans e))
  · have hi' : i < S.L.length + 1 := by rw [← hl]; exact hi
    show ∃ y, (xs ++ [x])[i]? = some y ∧ TextIs _ _ y ((S.L ++ [t]).getD i [])
    by_cases hin : i < S.L.length
    · obtain ⟨y, hy, hty⟩ := h.txt i hin
      refine ⟨y, by rw [List.getElem?_append_left (by rw [h.len]; exact hin)]; exact hy, ?_⟩
      rw [List.getD_eq_getElem?_getD, List.getElem?_append_left hin, ← List.getD_eq_getElem?_getD]
      exact hT hty
    · obtain rfl : i = S.L.length := by omega
      refine ⟨x, by rw [← h.len, List.getElem?_append_right (Nat.le_refl _), Nat.sub_self]; rfl, ?_⟩
      rw [List.getD_eq_getElem?_getD, List.getElem?_append_right (Nat.le_refl _), Nat.sub_self]
      exact hT ht
  · injection hk with hk
    have hk' : k = g := hk.symm
    subst hk'
    rcases hat with h1 | h1
    · exact h.xg k h1 hX
    · have := h.xlt k hX; omega
/-- Where a net's row lies behind a step: where it lay, or in new memory. -/
def rowNew (w : World) (v v' : Value) : Prop := v'.ownBlock = v.ownBlock ∨ ∀ k, v'.ownBlock = some k → w.heap.size ≤ k
theorem net_room {S : NS} (h : (S.room - (S.L.length : Int) == 0) = false) (h2 : (S.L.length : Int) ≤ S.room) : (S.L.length : Int) < S.room := by
  have : S.room - (S.L.length : Int) ≠ 0 := by simpa using h
  omega
theorem TextIs.form {w : World} {S : Nat → Prop} {x : Value} {t : List Int} (h : TextIs w S x t) : ∃ A c, x = .slice A t.length c := by
  obtain ⟨A, c, h, _⟩ := h
  exact ⟨A, c, h⟩
theorem one_new (w : World) (u : Value) (t : TypeId) : ∀ j z, [u][j]? = some z → (w.alloc (.cells #[u] t)).cell? ((⟨w.heap.size, 0, none⟩ : Addr).add j) = some z :=
  World.news_of_block (heap_alloc_last w (.cells #[u] t))
theorem one_one {w : World} {S : Nat → Prop} {x : Value} {t : List Int} (h : TextIs w S x t) : ∀ u ∈ [x], u.oneCell' = true := fun u hu => by
  simp at hu; subst hu; exact h.one
set_option maxRecDepth 20000 in
set_option maxHeartbeats 4000000 in
theorem send_ok {w : World} {base p : Nat} {X : Nat → Prop} {S : NS} {v : Value} {xs : List Value} (h : NetV w base p X S v xs) (A : Option Addr) (n c : Nat) (t : List Int) (hn : t.length = n) (hB : Lib.BytesIn w A n t) (hA : A = none → n = 0) (hn2 : n ≤ 3100)
    (hr0 : 0 ≤ S.room) (hr : S.room ≤ 64) (hroom : (S.L.length : Int) < S.room) (hs0 : 0 ≤ S.s) (hs1 : S.s < 1000000) (hb : base ≤ w.heap.size) :
    Calls Tryd.prog 46 #[.pointer (some ⟨p, 0, none⟩), .slice A n c] w fun e w' => ∃ v' xs', e = .returned .nilIface ∧ NetV w' base p X { S with L := S.L ++ [t], s := S.s + 1 } v' xs' ∧ rowNew w v v' ∧ Chg (writes p v) w w' := by
  obtain ⟨Ar, cr, hv⟩ := h.slice
  have hrm := room_any h hr0 hr (by omega)
  obtain ⟨it, j1, j2, j3, j4⟩ := of_row1 row55
  have HR := Lib.hid hrm
  have HH := Lib.hid h
  have hq : (S.room - (S.L.length : Int) == 0) = false := by simp; omega
  have hq2 : ¬ (S.room - (S.L.length : Int) = 0) := by omega
  have hcl : Hid (∀ k, Calls Tryd.prog 80 #[.slice A n c] (w.drewN k) fun e w' => ∃ v, e = .returned v ∧ TextIs w' (fun j => (w.drewN k).heap.size ≤ j) v t ∧ Below (w.drewN k).heap.size (w.drewN k) w') := Lib.hid (fun k => clone_any A n c t (w.drewN k) hn hB (by omega) hA)
  have c5 : w.cell? ⟨p, 5, none⟩ = some v := (net_cell h 5).trans rfl
  have n3 : ¬ (3100 : Int) < (n : Int) := by omega
  have hV := Lib.hid hv
  clear hrm h hB hA hn hv
  go_enter Tryd.func46, Tryd.ntmps46
  go_wp2_with (go_at_call 55; (with_reducible refine HR.out.mono ?_); rintro e w1 ⟨rfl, k1, rfl⟩)
  have hN0 : NetV ((w.drewN k1).drew) base p X S v xs := HH.out.below ⟨rfl, rfl, rfl, Nat.le_refl _, fun _ _ => rfl⟩
  go_region_law (first
    | (go_simp
       go_at_call 80
       (with_reducible refine (hcl.out (k1 + 1)).mono ?_)
       rintro e w2 ⟨x, rfl, hT2, hb2⟩
       obtain ⟨Ax, cx, rfl⟩ := hT2.form
       have hN2 := HH.out.below (show Below w.heap.size w w2 from (show Below w.heap.size w (w.drewN (k1 + 1)) from ⟨rfl, rfl, rfl, Nat.le_refl _, fun _ _ => rfl⟩).trans hb2)
       have d5 : w2.cell? ⟨p, 5, none⟩ = some v := (net_cell hN2 5).trans rfl
       have d5a : (w2.alloc (.cells #[.slice Ax t.length cx] 55)).cell? ⟨p, 5, none⟩ = some v := (net_cell (hN2.below (alloc_below w2 _)) 5).trans rfl
       have hsz2 : w.heap.size ≤ w2.heap.size := hb2.size)
    | (go_loud (refine step_append_lies _ rfl (.tmp 19) (.tmp 22) 74 rfl base 55 it (.slice none 0 0) 1 24 Tryd.underlying74 j1 j2 j3 j4 rfl (by decide) v S.L.length xs rfl (hN2.own.alloc _) ⟨w2.heap.size, 0, none⟩ 1 1 [.slice Ax t.length cx] rfl rfl (one_new _ _ _) (one_one hT2) (by decide) (by unfold maxLen; omega) (by omega) (by simp; omega) _ rfl ?_); intro gn cn w3 hown hgrow hat hltn
       have hN2a := hN2.below (alloc_below w2 (.cells #[.slice Ax t.length cx] 55))
       have hTa : TextIs (w2.alloc (.cells #[.slice Ax t.length cx] 55)) (fun k => base ≤ k ∧ ¬ X k ∧ some k ≠ v.ownBlock) (.slice Ax t.length cx) t := (hT2.below (alloc_below w2 _)).mono (fun k hk hj => ⟨by have : w.heap.size ≤ k := hj; omega, fun hX => by have := HH.out.xlt k hX; have : w.heap.size ≤ k := hj; omega, fun e => by
         have := HH.out.own
         rcases this.2 with ⟨hv, _⟩ | ⟨g', _, _, hv, _, hh, _⟩
         · rw [hv] at e; cases e
         · rw [hv] at e; injection e with e
           have h1 := (Array.getElem?_eq_some_iff.1 hh).1
           have : w.heap.size ≤ k := hj
           have e' : k = g' := e
           omega⟩)
       have hP := hN2a.push hTa hown hgrow hat
       have hb3 : w3.heap[p]? = some (.cells (netC S v) 122 (0, 0)) := (hgrow.block p hN2a.plt (fun e => HH.out.xg p e.symm HH.out.xp)).trans hN2a.blk
       have d5' : w3.cell? ⟨p, 5, none⟩ = some v := (cell_of_row _ _ _ _ _ _ hb3).trans rfl
       have f5' : w3.frozen? ⟨p, 5, none⟩ = false := by simp [World.frozen?, hb3]
       have d0 : (w3.setCell ⟨p, 5, none⟩ (.slice (some ⟨gn, 0, none⟩) (S.L.length + 1) cn)).cell? ⟨p, 0, none⟩ = some (.int .i64 S.s) := (net_cell hP.1 0).trans rfl
       have f0 : (w3.setCell ⟨p, 5, none⟩ (.slice (some ⟨gn, 0, none⟩) (S.L.length + 1) cn)).frozen? ⟨p, 0, none⟩ = false := net_frozen hP.1 0
       have HP := Lib.hid hP
       have Hat := Lib.hid hat
       have Hb2 := Lib.hid hb2
       clear hP hb3 hat hown hgrow hTa hN2a hN2 hT2 hb2))
  all_goals
    go_wp2_with fail
    go_ret
    refine ⟨_, _, rfl, HP.out.1.count 0 _ rfl rfl, ?_, ?_⟩
    · rcases Hat.out with h1 | h1
      · exact .inl h1.symm
      · refine .inr (fun k hk => ?_)
        injection hk with hk
        have : gn = k := hk
        have h2 := h1
        simp at h2
        omega
    · have hd : Below w.heap.size w (w.drewN (k1 + 1)) := ⟨rfl, rfl, rfl, Nat.le_refl _, fun _ _ => rfl⟩
      have hw2 : Below w.heap.size w w2 := hd.trans Hb2.out
      exact ((Chg.of_below (hw2.trans ((alloc_below w2 _).mono hw2.size))).trans HP.out.2).setCell (.inl rfl) _
end Go.Proofs.YtdglpbjofdipkaaDoor
