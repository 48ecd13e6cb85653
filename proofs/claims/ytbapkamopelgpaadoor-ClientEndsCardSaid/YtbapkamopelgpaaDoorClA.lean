/- Clients: New, over, try. -/
import Derived.Test.YtbapkamopelgpaaDoorClB
namespace Go.Proofs.YtbapkamopelgpaaDoor
open Go.RowKit Go.Stop Go.Extern Go.Ranges Go.Rows2 Go.Sort
set_option linter.unusedVariables false
set_option linter.unusedSimpArgs false
set_option maxRecDepth 100000
section
variable (w : World) (b o : Nat)
theorem rI33 (h : isRow w b 33 = true) (ho : o < 33) : (loadVar 3 ⟨b, o, none⟩).run Tryd.prog w = .ok ((rangeOf w b 0 33).getD o .nilIface) w := ld_slot 33 w b o _ (by kernel_rfl) h ho
theorem rB33 (h : isRow w b 33 = true) (ho : o < 33) : (loadVar 4 ⟨b, o, none⟩).run Tryd.prog w = .ok ((rangeOf w b 0 33).getD o .nilIface) w := ld_slot 33 w b o _ (by kernel_rfl) h ho
theorem rI13 (h : isRow w b 13 = true) (ho : o < 13) : (loadVar 3 ⟨b, o, none⟩).run Tryd.prog w = .ok ((rangeOf w b 0 13).getD o .nilIface) w := ld_slot 13 w b o _ (by kernel_rfl) h ho
theorem rC (h : isRow w b 33 = true) : (loadVar 33 ⟨b, 0, none⟩).run Tryd.prog w = .ok (.agg (rangeOf w b 0 33)) w := ld33 w b 0 (has_row h (by decide))
theorem rM7 (h : isRow w b 33 = true) : (loadVar 25 ⟨b, 7, none⟩).run Tryd.prog w = .ok (.agg ((rangeOf w b 0 33).extract 7 20)) w := by
  rw [ld13 w b 7 (has_row h (by decide)), range_part w b 7 h (by decide)]
theorem rM20 (h : isRow w b 33 = true) : (loadVar 25 ⟨b, 20, none⟩).run Tryd.prog w = .ok (.agg ((rangeOf w b 0 33).extract 20 33)) w := by
  rw [ld13 w b 20 (has_row h (by decide)), range_part w b 20 h (by decide)]
theorem rM (h : isRow w b 13 = true) : (loadVar 25 ⟨b, 0, none⟩).run Tryd.prog w = .ok (.agg (rangeOf w b 0 13)) w := ld13 w b 0 (has_row h (by decide))
theorem sI33 (k : IntKind) (x : Int) (h : isRow w b 33 = true) (ho : o < 33) : (storeVar 3 ⟨b, o, none⟩ (.int k x)).run Tryd.prog w = .ok () (w.setRow b ((rangeOf w b 0 33).setIfInBounds o (.int k x))) := by
  rw [store_slot (by kernel_rfl) w b o 33 _ h ho rfl rfl, slotRow w b 33 o _ h ho]
theorem sB33 (x : Bool) (h : isRow w b 33 = true) (ho : o < 33) : (storeVar 4 ⟨b, o, none⟩ (.bool x)).run Tryd.prog w = .ok () (w.setRow b ((rangeOf w b 0 33).setIfInBounds o (.bool x))) := by
  rw [store_slot (by kernel_rfl) w b o 33 _ h ho rfl rfl, slotRow w b 33 o _ h ho]
theorem sM7 (D : Array Value) (h : isRow w b 33 = true) (h2 : D.size = 13) (h3 : ones D = true) : (storeVar 25 ⟨b, 7, none⟩ (.agg D)).run Tryd.prog w = .ok () (w.setRow b (patch 7 (rangeOf w b 0 33) D)) := st13 w b 7 D h h2 h3 (by decide)
theorem sM20 (D : Array Value) (h : isRow w b 33 = true) (h2 : D.size = 13) (h3 : ones D = true) : (storeVar 25 ⟨b, 20, none⟩ (.agg D)).run Tryd.prog w = .ok () (w.setRow b (patch 20 (rangeOf w b 0 33) D)) := st13 w b 20 D h h2 h3 (by decide)
end
/-- A literal row of a message. -/
theorem ones_lit13 (a1 a2 a3 a4 a5 a6 a7 a8 a9 a10 : Int) (s : ByteArray) (B L : Option Addr) (n1 c1 n2 c2 : Nat) : ones #[.int .i64 a1, .int .i64 a2, .int .i64 a3, .int .i64 a4, .string s, .int .i64 a5, .int .i64 a6, .int .i64 a7, .int .i64 a8, .int .i64 a9, .int .i64 a10, .slice B n1 c1, .slice L n2 c2] = true := by unfold ones; rw [List.all_toArray]; rfl
theorem ones_new (id : Int) : ones #[.int .i64 id, .int .i64 0, .bool false, .bool false, .int .i64 0, .int .i64 0, .int .i64 0, .int .i64 0, .int .i64 0, .int .i64 0, .int .i64 0, .string ⟨#[]⟩, .int .i64 0, .int .i64 0, .int .i64 0, .int .i64 0, .int .i64 0, .int .i64 0, .slice none 0 0, .slice none 0 0, .int .i64 0, .int .i64 0, .int .i64 0, .int .i64 0, .string ⟨#[]⟩, .int .i64 0, .int .i64 0, .int .i64 0, .int .i64 0, .int .i64 0, .int .i64 0, .slice none 0 0, .slice none 0 0] = true := ones_clA (cl0 id)
theorem lit_cl (id : Int) : (#[.int .i64 id, .int .i64 0, .bool false, .bool false, .int .i64 0, .int .i64 0, .int .i64 0, .int .i64 0, .int .i64 0, .int .i64 0, .int .i64 0, .string ⟨#[]⟩, .int .i64 0, .int .i64 0, .int .i64 0, .int .i64 0, .int .i64 0, .int .i64 0, .slice none 0 0, .slice none 0 0, .int .i64 0, .int .i64 0, .int .i64 0, .int .i64 0, .string ⟨#[]⟩, .int .i64 0, .int .i64 0, .int .i64 0, .int .i64 0, .int .i64 0, .int .i64 0, .slice none 0 0, .slice none 0 0] : Array Value) = clA (cl0 id) := Eq.trans rfl rfl
theorem setRow_drew (w : World) (b : Nat) (C : Array Value) : w.drew.setRow b C = (w.setRow b C).drew := rfl
theorem cl_ne (c : Cl) : (clA c = #[]) = False := by simp [clA]
theorem setRow_last (w : World) (C C' : Array Value) (t : TypeId) (g : Nat) (hg : g = w.heap.size) : (w.alloc (.cells C t)).setRow g C' = w.alloc (.cells C' t) := by subst hg; exact World.setRow_alloc_new _ _ _ _
theorem fold13 (M : Msg) (B L : Option Addr) (cb cl : Nat) : Array.foldl (fun cs x => cs.setIfInBounds x.snd x.fst) #[.int .i64 0, .int .i64 0, .int .i64 0, .int .i64 0, .string ⟨#[]⟩, .int .i64 0, .int .i64 0, .int .i64 0, .int .i64 0, .int .i64 0, .int .i64 0, .slice none 0 0, .slice none 0 0] (msgA M B cb L cl).zipIdx 0 13 = msgA M B cb L cl := by unfold msgA; simp [List.zipIdx]
theorem lt_1 (x : Nat) : (x < x + 1) = True := by simp
theorem lt_2 (x : Nat) : (x < x + 1 + 1) = True := by simp; omega
theorem lt_3 (x : Nat) : (x < x + 1 + 1 + 1) = True := by simp; omega
theorem lt_4 (x : Nat) : (x < x + 1 + 1 + 1 + 1) = True := by simp; omega
attribute [-go_sem] loadVar storeVar
attribute [local go_sem] fold13 cl_ne lt_1 lt_2 lt_3 lt_4
attribute [local go_sem] rI33 rB33 rI13 rC rM7 rM20 rM st33 sI33 sB33 sM7 sM20 ones_lit13 ones_new clA_size ones_clA msgA_size ones_msgA cl_get0 cl_get1 cl_get2 cl_get3 cl_get4 cl_get5 cl_get6 cl_el0 cl_el1 cl_el2 cl_el3 cl_el4 cl_el5 cl_el6 msg_el0 msg_el1 msg_el2 msg_el10 cl_set0 cl_set1 cl_set2 cl_set3 cl_set4 cl_set5 cl_set6 msg_get0 msg_get1 msg_get2 msg_get10 cl_req cl_rep cl_patch7 cl_patch20 cl_all msg_all setRow_old setRow_last range_setRow_all lit_cl setRow_drew
attribute [local go_sem ↓] Go.wp_at_zero Go.wp_at_succ
theorem ticked_yes (now : Int) (w : World) (h0 : 0 ≤ now) (h1 : now ≤ 1000) : Calls Tryd.prog 50 #[.int .i64 now] w fun e w' => e = .returned (.bool true) ∧ w = w' := by
  have h2 : now ≤ 1099511627776 := by omega
  go_enter Tryd.func50, Tryd.ntmps50
  go_wp2
  go_ret
  exact ⟨rfl, rfl⟩
set_option maxHeartbeats 4000000 in
theorem new_ok (id : Int) (w : World) (h0 : 0 ≤ id) (h1 : id < 8) : Calls Tryd.prog 19 #[.int .i64 id] w fun e w' => e = .returned (.tuple #[.agg (clA (cl0 id)), .nilIface]) ∧ Below w.heap.size w w' := by
  have n0 : ¬ id < 0 := by omega
  have n1 : ¬ 8 ≤ id := by omega
  go_enter Tryd.func19, Tryd.ntmps19
  go_wp2
  exact bodyPost_ret (v := .tuple #[.agg (clA (cl0 id)), .nilIface]) (by simp [results, Tryd.results19, go_sem]; rfl) rfl ⟨rfl, alloc_below _ _⟩
set_option maxHeartbeats 4000000 in
theorem over_any (c : Cl) (ans : Int) (M : Msg) (B L : Option Addr) (cb cl : Nat) (w : World) : Calls Tryd.prog 52 #[.agg (clA c), .int .i64 ans, .agg (msgA M B cb L cl)] w fun e w' =>
    e = .returned (.agg (clA { c with wt := false, rf := false, ans := ans, rp := M, pB := B, pb := cb, pL := L, pl := cl })) ∧ Below w.heap.size w w' := by
  go_enter Tryd.func52, Tryd.ntmps52
  go_wp2
  go_region
  go_wp2
  exact bodyPost_ret (v := .agg (clA { c with wt := false, rf := false, ans := ans, rp := M, pB := B, pb := cb, pL := L, pl := cl })) (by simp [results, Tryd.results52, go_sem]) rfl ⟨rfl, by repeat (first | exact Below.refl _ _ | refine Below.drew ?_ | refine Below.alloc ?_ (by simp; try omega) _)⟩
set_option maxHeartbeats 4000000 in
theorem try_any (c : Cl) (now : Int) (w : World) (h0 : 0 ≤ now) (h1 : now ≤ 1000) (h2 : 0 ≤ c.dn) (h3 : c.dn ≤ 10) : Calls Tryd.prog 53 #[.agg (clA c), .int .i64 now] w fun e w' =>
    ∃ g k, e = .returned (.tuple #[.agg (clA { c with dn := c.dn + 1, due := now + 8, rf := false }), .slice (some ⟨g, 0, none⟩) 1 k]) ∧ w.heap.size ≤ g ∧ rangeOf w' g 0 13 = msgA c.rq c.qB c.qb c.qL c.ql ∧ hasRange w' g 0 13 = true ∧ Below w.heap.size w w' := by
  have e1 : IntKind.i64.wrap (c.dn + 1) = c.dn + 1 := by rw [IntKind.wrap_i64]; omega
  have e2 : IntKind.i64.wrap (now + 8) = now + 8 := by rw [IntKind.wrap_i64]; omega
  go_enter Tryd.func53, Tryd.ntmps53
  go_wp2
  go_region
  go_wp2
  refine bodyPost_ret (v := .tuple #[.agg (clA { c with dn := c.dn + 1, due := now + 8, rf := false }), .slice (some ⟨w.heap.size + 1 + 1, 0, none⟩) 1 1]) (by simp [results, Tryd.results53, go_sem]) rfl ⟨_, _, rfl, by omega, ?_, ?_, by repeat (first | exact Below.refl _ _ | refine Below.drew ?_ | refine Below.alloc ?_ (by simp; try omega) _)⟩
  · simp [go_sem]
  · simp [go_sem]
end Go.Proofs.YtbapkamopelgpaaDoor
