/- Clients: what is heard. -/
import Derived.Test.YtbapkamopelgpaaDoorClA
namespace Go.Proofs.YtbapkamopelgpaaDoor
open Go.RowKit Go.Stop Go.Extern Go.Ranges Go.Rows2 Go.Sort
set_option linter.unusedVariables false
set_option linter.unusedSimpArgs false
set_option maxRecDepth 100000
attribute [-go_sem] loadVar storeVar
attribute [local go_sem] fold13 cl_ne lt_1 lt_2 lt_3 lt_4
attribute [local go_sem] rI33 rB33 rI13 rC rM7 rM20 rM st33 sI33 sB33 sM7 sM20 ones_lit13 ones_new clA_size ones_clA msgA_size ones_msgA cl_get0 cl_get1 cl_get2 cl_get3 cl_get4 cl_get5 cl_get6 cl_el0 cl_el1 cl_el2 cl_el3 cl_el4 cl_el5 cl_el6 msg_el0 msg_el1 msg_el2 msg_el10 cl_set0 cl_set1 cl_set2 cl_set3 cl_set4 cl_set5 cl_set6 msg_get0 msg_get1 msg_get2 msg_get10 cl_req cl_rep cl_patch7 cl_patch20 cl_all msg_all setRow_old setRow_last range_setRow_all lit_cl setRow_drew
attribute [local go_sem ↓] Go.wp_at_zero Go.wp_at_succ
theorem lit_msg0 : (#[.int .i64 0, .int .i64 0, .int .i64 0, .int .i64 0, .string ⟨#[]⟩, .int .i64 0, .int .i64 0, .int .i64 0, .int .i64 0, .int .i64 0, .int .i64 0, .slice none 0 0, .slice none 0 0] : Array Value) = msgA msg0 none 0 none 0 := Eq.trans rfl rfl
theorem fold13b (M : Msg) (B L : Option Addr) (cb cl : Nat) : Array.foldl (fun cs x => cs.setIfInBounds x.snd x.fst) (msgA msg0 none 0 none 0) (msgA M B cb L cl).zipIdx 0 13 = msgA M B cb L cl := fold13 M B L cb cl
attribute [local go_sem] lit_msg0 fold13b
theorem row_kept {W w : World} {b : Nat} (n : Nat) (hb : Below W.heap.size W w) (hlt : b < W.heap.size) (h : isRow W b n = true) : isRow w b n = true ∧ rangeOf w b 0 n = rangeOf W b 0 n :=
  ⟨by rw [isRow_of (hb.block b hlt), h], (range_below hb b 0 n hlt).1⟩
theorem bool_ne_self (b : Bool) : (b != b) = false := by cases b <;> rfl
/-- Is a message the answer that a client waits for? -/
def mine (c : Cl) (M : Msg) : Bool := c.wt && decide (M.k = 3) && decide (M.c = c.id) && decide (M.n = c.num)
set_option maxHeartbeats 4000000 in
theorem hear_no (c : Cl) (M : Msg) (B L : Option Addr) (cb cl : Nat) (w : World) (h : mine c M = false) : Calls Tryd.prog 24 #[.agg (clA c), .agg (msgA M B cb L cl)] w fun e w' =>
    e = .returned (.tuple #[.agg (clA c), .bool false]) ∧ Below w.heap.size w w' := by
  go_enter Tryd.func24, Tryd.ntmps24
  by_cases h1 : c.wt = true
  · by_cases h2 : M.k = 3
    · by_cases h3 : M.c = c.id
      · by_cases h4 : M.n = c.num
        · simp [mine, h1, h2, h3, h4] at h
        · have e4 : (M.n == c.num) = false := by simpa using h4
          go_wp2_with fail
          exact bodyPost_ret (v := .tuple #[.agg (clA c), .bool false]) (by simp [results, Tryd.results24, go_sem, h1]) rfl ⟨rfl, by repeat (first | exact Below.refl _ _ | refine Below.drew ?_ | refine Below.alloc ?_ (by simp; try omega) _)⟩
      · have e3 : (M.c == c.id) = false := by simpa using h3
        go_wp2_with fail
        exact bodyPost_ret (v := .tuple #[.agg (clA c), .bool false]) (by simp [results, Tryd.results24, go_sem, h1]) rfl ⟨rfl, by repeat (first | exact Below.refl _ _ | refine Below.drew ?_ | refine Below.alloc ?_ (by simp; try omega) _)⟩
    · have e2 : (M.k == 3) = false := by simpa using h2
      go_wp2_with fail
      exact bodyPost_ret (v := .tuple #[.agg (clA c), .bool false]) (by simp [results, Tryd.results24, go_sem, h1]) rfl ⟨rfl, by repeat (first | exact Below.refl _ _ | refine Below.drew ?_ | refine Below.alloc ?_ (by simp; try omega) _)⟩
  · have h1' : c.wt = false := by simpa using h1
    clear h1
    have h1 := h1'
    clear h1'
    go_wp2_with fail
    exact bodyPost_ret (v := .tuple #[.agg (clA c), .bool false]) (by simp [results, Tryd.results24, go_sem, h1]) rfl ⟨rfl, by repeat (first | exact Below.refl _ _ | refine Below.drew ?_ | refine Below.alloc ?_ (by simp; try omega) _)⟩
set_option maxHeartbeats 4000000 in
theorem hear_late (c : Cl) (M : Msg) (B L : Option Addr) (cb cl : Nat) (w : World) (h : mine c M = true) (h9 : M.an = 9) (hd : c.dn < 3) : Calls Tryd.prog 24 #[.agg (clA c), .agg (msgA M B cb L cl)] w fun e w' =>
    e = .returned (.tuple #[.agg (clA { c with rf := true }), .bool false]) ∧ Below w.heap.size w w' := by
  simp only [mine, Bool.and_eq_true, decide_eq_true_eq] at h
  obtain ⟨⟨⟨h1, h2⟩, h3⟩, h4⟩ := h
  go_enter Tryd.func24, Tryd.ntmps24
  go_wp2_with fail
  exact bodyPost_ret (v := .tuple #[.agg (clA { c with rf := true }), .bool false]) (by simp [results, Tryd.results24, go_sem, h1]) rfl ⟨rfl, by repeat (first | exact Below.refl _ _ | refine Below.drew ?_ | refine Below.alloc ?_ (by simp; try omega) _)⟩
set_option maxHeartbeats 4000000 in
theorem hear_yes (c : Cl) (M : Msg) (B L : Option Addr) (cb cl : Nat) (w : World) (h : mine c M = true) (hn : ¬ (M.an = 9 ∧ c.dn < 3)) : Calls Tryd.prog 24 #[.agg (clA c), .agg (msgA M B cb L cl)] w fun e w' =>
    e = .returned (.tuple #[.agg (clA { c with wt := false, rf := false, ans := M.an, rp := M, pB := B, pb := cb, pL := L, pl := cl }), .bool true]) ∧ Below w.heap.size w w' := by
  simp only [mine, Bool.and_eq_true, decide_eq_true_eq] at h
  obtain ⟨⟨⟨h1, h2⟩, h3⟩, h4⟩ := h
  by_cases h9 : M.an = 9
  · have hd : ¬ c.dn < 3 := fun q => hn ⟨h9, q⟩
    clear hn
    rw [h9]
    have K := fun W : World => over_any c 9 M B L cb cl W
    go_enter Tryd.func24, Tryd.ntmps24
    go_wp2_with fail
    refine (K _).mono ?_
    rintro e w1 ⟨rfl, hb⟩
    have kp := row_kept (b := w.heap.size + 1 + 1) 33 hb (by simp) (by simp [go_sem])
    obtain ⟨k1, k2⟩ := kp
    have HB := Lib.hid (stepV (w := w) (w1 := ((w.alloc (.cells (clA c) 33)).alloc (.cells (msgA M B cb L cl) 25)).alloc (.cells (clA (cl0 0)) 33)) (by repeat (first | exact Below.refl _ _ | refine Below.drew ?_ | refine Below.alloc ?_ (by simp; try omega) _)) hb)
    clear hb k2
    go_wp2_with fail
    refine bodyPost_ret (v := .tuple #[.agg (clA { c with wt := false, rf := false, ans := 9, rp := M, pB := B, pb := cb, pL := L, pl := cl }), .bool true]) (by simp [results, Tryd.results24, go_sem, k1]) rfl ⟨rfl, below_setRow HB.out (by omega) _⟩
  · have e9 : (M.an == 9) = false := by simpa using h9
    have K := fun W : World => over_any c M.an M B L cb cl W
    go_enter Tryd.func24, Tryd.ntmps24
    clear hn
    go_wp2_with fail
    refine (K _).mono ?_
    rintro e w1 ⟨rfl, hb⟩
    have kp := row_kept (b := w.heap.size + 1 + 1) 33 hb (by simp) (by simp [go_sem])
    obtain ⟨k1, k2⟩ := kp
    have HB := Lib.hid (stepV (w := w) (w1 := ((w.alloc (.cells (clA c) 33)).alloc (.cells (msgA M B cb L cl) 25)).alloc (.cells (clA (cl0 0)) 33)) (by repeat (first | exact Below.refl _ _ | refine Below.drew ?_ | refine Below.alloc ?_ (by simp; try omega) _)) hb)
    clear hb k2
    go_wp2_with fail
    refine bodyPost_ret (v := .tuple #[.agg (clA { c with wt := false, rf := false, ans := M.an, rp := M, pB := B, pb := cb, pL := L, pl := cl }), .bool true]) (by simp [results, Tryd.results24, go_sem, k1]) rfl ⟨rfl, below_setRow HB.out (by omega) _⟩
set_option maxHeartbeats 4000000 in
theorem tick_early (c : Cl) (now : Int) (w : World) (h0 : 0 ≤ now) (h1 : now ≤ 1000) (h : c.wt = false ∨ now < c.due) : Calls Tryd.prog 25 #[.agg (clA c), .int .i64 now] w fun e w' =>
    e = .returned (.tuple #[.agg (clA c), .slice none 0 0, .bool false]) ∧ Below w.heap.size w w' := by
  have K := fun W : World => ticked_yes now W h0 h1
  go_enter Tryd.func25, Tryd.ntmps25
  cases hw : c.wt with
  | false =>
    go_wp2_with fail
    refine (K _).mono ?_
    rintro e w1 ⟨rfl, rfl⟩
    go_wp2_with fail
    exact bodyPost_ret (v := .tuple #[.agg (clA c), .slice none 0 0, .bool false]) (by simp [results, Tryd.results25, go_sem, hw]) rfl ⟨rfl, by repeat (first | exact Below.refl _ _ | refine Below.drew ?_ | refine Below.alloc ?_ (by simp; try omega) _)⟩
  | true =>
    have hl : now < c.due := h.resolve_left (by rw [hw]; decide)
    clear h
    go_wp2_with fail
    refine (K _).mono ?_
    rintro e w1 ⟨rfl, rfl⟩
    go_wp2_with fail
    exact bodyPost_ret (v := .tuple #[.agg (clA c), .slice none 0 0, .bool false]) (by simp [results, Tryd.results25, go_sem, hw]) rfl ⟨rfl, by repeat (first | exact Below.refl _ _ | refine Below.drew ?_ | refine Below.alloc ?_ (by simp; try omega) _)⟩
set_option maxHeartbeats 4000000 in
theorem tick_try (c : Cl) (now : Int) (w : World) (h0 : 0 ≤ now) (h1 : now ≤ 1000) (hw : c.wt = true) (hd : c.due ≤ now) (h2 : 0 ≤ c.dn) (h3 : c.dn < 3) : Calls Tryd.prog 25 #[.agg (clA c), .int .i64 now] w fun e w' =>
    ∃ g k, e = .returned (.tuple #[.agg (clA { c with dn := c.dn + 1, due := now + 8, rf := false }), .slice (some ⟨g, 0, none⟩) 1 k, .bool false]) ∧ Below w.heap.size w w' := by
  have K := fun W : World => ticked_yes now W h0 h1
  have K2 := fun W : World => try_any c now W h0 h1 h2 (by omega)
  have hd' : ¬ now < c.due := by omega
  have hdd : decide (now < c.due) = false := by simpa using hd
  go_enter Tryd.func25, Tryd.ntmps25
  go_wp2_with fail
  refine (K _).mono ?_
  rintro e w1 ⟨rfl, rfl⟩
  go_wp2_with fail
  refine (K2 _).mono ?_
  rintro e w1 ⟨g, k, rfl, _, _, _, hb⟩
  have kp := row_kept (b := w.heap.size + 1) 33 hb (by simp) (by simp [go_sem])
  obtain ⟨k1, k2⟩ := kp
  have kl : w.heap.size + 1 < w1.heap.size := isRow_lt k1
  have kl2 : w.heap.size + 1 ≠ w1.heap.size := by omega
  have HB := Lib.hid (stepV (w := w) (w1 := (w.alloc (.cells (clA c) 33)).alloc (.cells (clA (cl0 0)) 33)) (by repeat (first | exact Below.refl _ _ | refine Below.drew ?_ | refine Below.alloc ?_ (by simp; try omega) _)) hb)
  clear hb k2
  generalize hG : (some ⟨g, 0, none⟩ : Option Addr) = G
  go_wp2_with fail
  subst hG
  refine bodyPost_ret (v := .tuple #[.agg (clA { c with dn := c.dn + 1, due := now + 8, rf := false }), .slice (some ⟨g, 0, none⟩) 1 k, .bool false]) (by simp [results, Tryd.results25, go_sem, k1, kl, kl2, hw]) rfl ⟨g, k, rfl, (below_setRow HB.out (by omega) _).alloc ?_ _⟩
  simp
  omega
set_option maxHeartbeats 4000000 in
theorem tick_over (c : Cl) (now : Int) (w : World) (h0 : 0 ≤ now) (h1 : now ≤ 1000) (hw : c.wt = true) (hd : c.due ≤ now) (h3 : 3 ≤ c.dn) : Calls Tryd.prog 25 #[.agg (clA c), .int .i64 now] w fun e w' =>
    e = .returned (.tuple #[.agg (clA { c with wt := false, rf := false, ans := (if c.rf then 9 else 10), rp := msg0, pB := none, pb := 0, pL := none, pl := 0 }), .slice none 0 0, .bool true]) ∧ Below w.heap.size w w' := by
  have K := fun W : World => ticked_yes now W h0 h1
  have hd' : ¬ now < c.due := by omega
  have hdd : decide (now < c.due) = false := by simpa using hd
  have h3' : ¬ c.dn < 3 := by omega
  have h3d : decide (c.dn < 3) = false := by simpa using h3
  cases hf : c.rf with
  | true =>
    simp only [if_true]
    have K2 := fun W : World => over_any c 9 msg0 none none 0 0 W
    go_enter Tryd.func25, Tryd.ntmps25
    go_wp2_with fail
    refine (K _).mono ?_
    rintro e w1 ⟨rfl, rfl⟩
    go_wp2_with fail
    refine (K2 _).mono ?_
    rintro e w1 ⟨rfl, hb⟩
    have kp := row_kept (b := w.heap.size + 1) 33 hb (by simp) (by simp [go_sem])
    obtain ⟨k1, k2⟩ := kp
    have HB := Lib.hid (stepV (w := w) (w1 := (w.alloc (.cells (clA c) 33)).alloc (.cells (clA (cl0 0)) 33)) (by repeat (first | exact Below.refl _ _ | refine Below.drew ?_ | refine Below.alloc ?_ (by simp; try omega) _)) hb)
    clear hb k2
    go_wp2_with fail
    refine bodyPost_ret (v := .tuple #[.agg (clA { c with wt := false, rf := false, ans := 9, rp := msg0, pB := none, pb := 0, pL := none, pl := 0 }), .slice none 0 0, .bool true]) (by simp [results, Tryd.results25, go_sem, k1]) rfl ⟨rfl, below_setRow HB.out (by omega) _⟩
  | false =>
    simp only [Bool.false_eq_true, if_false]
    have K2 := fun W : World => over_any c 10 msg0 none none 0 0 W
    go_enter Tryd.func25, Tryd.ntmps25
    go_wp2_with fail
    refine (K _).mono ?_
    rintro e w1 ⟨rfl, rfl⟩
    go_wp2_with fail
    refine (K2 _).mono ?_
    rintro e w1 ⟨rfl, hb⟩
    have kp := row_kept (b := w.heap.size + 1) 33 hb (by simp) (by simp [go_sem])
    obtain ⟨k1, k2⟩ := kp
    have HB := Lib.hid (stepV (w := w) (w1 := (w.alloc (.cells (clA c) 33)).alloc (.cells (clA (cl0 0)) 33)) (by repeat (first | exact Below.refl _ _ | refine Below.drew ?_ | refine Below.alloc ?_ (by simp; try omega) _)) hb)
    clear hb k2
    go_wp2_with fail
    refine bodyPost_ret (v := .tuple #[.agg (clA { c with wt := false, rf := false, ans := 10, rp := msg0, pB := none, pb := 0, pL := none, pl := 0 }), .slice none 0 0, .bool true]) (by simp [results, Tryd.results25, go_sem, k1]) rfl ⟨rfl, below_setRow HB.out (by omega) _⟩
end Go.Proofs.YtbapkamopelgpaaDoor
