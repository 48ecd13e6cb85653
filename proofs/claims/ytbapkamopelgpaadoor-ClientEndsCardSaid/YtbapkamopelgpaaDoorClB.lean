/- Clients as rows: rules with the row as one letter. -/
import Derived.Test.YtbapkamopelgpaaDoorClK
namespace Go.Proofs.YtbapkamopelgpaaDoor
open Go.RowKit Go.Stop Go.Extern Go.Ranges Go.Rows2 Go.Sort
set_option linter.unusedVariables false
set_option linter.unusedSimpArgs false
set_option maxRecDepth 100000
theorem clA_size (c : Cl) : (clA c).size = 33 := Eq.trans rfl rfl
theorem ones_clA (c : Cl) : ones (clA c) = true := by unfold ones clA; rw [List.all_toArray]; rfl
theorem msgA_size (M : Msg) (B L : Option Addr) (cb cl : Nat) : (msgA M B cb L cl).size = 13 := Eq.trans rfl rfl
theorem ones_msgA (M : Msg) (B L : Option Addr) (cb cl : Nat) : ones (msgA M B cb L cl) = true := by unfold ones msgA; rw [List.all_toArray]; rfl

theorem cl_get0 (c : Cl) (d : Value) : (clA c).getD 0 d = .int .i64 c.id := Eq.trans rfl rfl
theorem cl_el0 (c : Cl) (h : 0 < (clA c).size) : (clA c)[0] = .int .i64 c.id := Eq.trans rfl rfl
theorem cl_set0 (c : Cl) (x : Int) : (clA c).setIfInBounds 0 (.int .i64 x) = clA { c with id := x } := Eq.trans rfl rfl
theorem cl_get1 (c : Cl) (d : Value) : (clA c).getD 1 d = .int .i64 c.num := Eq.trans rfl rfl
theorem cl_el1 (c : Cl) (h : 1 < (clA c).size) : (clA c)[1] = .int .i64 c.num := Eq.trans rfl rfl
theorem cl_set1 (c : Cl) (x : Int) : (clA c).setIfInBounds 1 (.int .i64 x) = clA { c with num := x } := Eq.trans rfl rfl
theorem cl_get2 (c : Cl) (d : Value) : (clA c).getD 2 d = .bool c.wt := Eq.trans rfl rfl
theorem cl_el2 (c : Cl) (h : 2 < (clA c).size) : (clA c)[2] = .bool c.wt := Eq.trans rfl rfl
theorem cl_set2 (c : Cl) (x : Bool) : (clA c).setIfInBounds 2 (.bool x) = clA { c with wt := x } := Eq.trans rfl rfl
theorem cl_get3 (c : Cl) (d : Value) : (clA c).getD 3 d = .bool c.rf := Eq.trans rfl rfl
theorem cl_el3 (c : Cl) (h : 3 < (clA c).size) : (clA c)[3] = .bool c.rf := Eq.trans rfl rfl
theorem cl_set3 (c : Cl) (x : Bool) : (clA c).setIfInBounds 3 (.bool x) = clA { c with rf := x } := Eq.trans rfl rfl
theorem cl_get4 (c : Cl) (d : Value) : (clA c).getD 4 d = .int .i64 c.dn := Eq.trans rfl rfl
theorem cl_el4 (c : Cl) (h : 4 < (clA c).size) : (clA c)[4] = .int .i64 c.dn := Eq.trans rfl rfl
theorem cl_set4 (c : Cl) (x : Int) : (clA c).setIfInBounds 4 (.int .i64 x) = clA { c with dn := x } := Eq.trans rfl rfl
theorem cl_get5 (c : Cl) (d : Value) : (clA c).getD 5 d = .int .i64 c.due := Eq.trans rfl rfl
theorem cl_el5 (c : Cl) (h : 5 < (clA c).size) : (clA c)[5] = .int .i64 c.due := Eq.trans rfl rfl
theorem cl_set5 (c : Cl) (x : Int) : (clA c).setIfInBounds 5 (.int .i64 x) = clA { c with due := x } := Eq.trans rfl rfl
theorem cl_get6 (c : Cl) (d : Value) : (clA c).getD 6 d = .int .i64 c.ans := Eq.trans rfl rfl
theorem cl_el6 (c : Cl) (h : 6 < (clA c).size) : (clA c)[6] = .int .i64 c.ans := Eq.trans rfl rfl
theorem cl_set6 (c : Cl) (x : Int) : (clA c).setIfInBounds 6 (.int .i64 x) = clA { c with ans := x } := Eq.trans rfl rfl
theorem msg_el0 (M : Msg) (B L : Option Addr) (cb cl : Nat) (h : 0 < (msgA M B cb L cl).size) : (msgA M B cb L cl)[0] = .int .i64 M.k := Eq.trans rfl rfl
theorem msg_get0 (M : Msg) (B L : Option Addr) (cb cl : Nat) (d : Value) : (msgA M B cb L cl).getD 0 d = .int .i64 M.k := Eq.trans rfl rfl
theorem msg_el1 (M : Msg) (B L : Option Addr) (cb cl : Nat) (h : 1 < (msgA M B cb L cl).size) : (msgA M B cb L cl)[1] = .int .i64 M.c := Eq.trans rfl rfl
theorem msg_get1 (M : Msg) (B L : Option Addr) (cb cl : Nat) (d : Value) : (msgA M B cb L cl).getD 1 d = .int .i64 M.c := Eq.trans rfl rfl
theorem msg_el2 (M : Msg) (B L : Option Addr) (cb cl : Nat) (h : 2 < (msgA M B cb L cl).size) : (msgA M B cb L cl)[2] = .int .i64 M.n := Eq.trans rfl rfl
theorem msg_get2 (M : Msg) (B L : Option Addr) (cb cl : Nat) (d : Value) : (msgA M B cb L cl).getD 2 d = .int .i64 M.n := Eq.trans rfl rfl
theorem msg_el3 (M : Msg) (B L : Option Addr) (cb cl : Nat) (h : 3 < (msgA M B cb L cl).size) : (msgA M B cb L cl)[3] = .int .i64 M.o := Eq.trans rfl rfl
theorem msg_get3 (M : Msg) (B L : Option Addr) (cb cl : Nat) (d : Value) : (msgA M B cb L cl).getD 3 d = .int .i64 M.o := Eq.trans rfl rfl
theorem msg_el4 (M : Msg) (B L : Option Addr) (cb cl : Nat) (h : 4 < (msgA M B cb L cl).size) : (msgA M B cb L cl)[4] = .string M.repo := Eq.trans rfl rfl
theorem msg_get4 (M : Msg) (B L : Option Addr) (cb cl : Nat) (d : Value) : (msgA M B cb L cl).getD 4 d = .string M.repo := Eq.trans rfl rfl
theorem msg_el5 (M : Msg) (B L : Option Addr) (cb cl : Nat) (h : 5 < (msgA M B cb L cl).size) : (msgA M B cb L cl)[5] = .int .i64 M.e := Eq.trans rfl rfl
theorem msg_get5 (M : Msg) (B L : Option Addr) (cb cl : Nat) (d : Value) : (msgA M B cb L cl).getD 5 d = .int .i64 M.e := Eq.trans rfl rfl
theorem msg_el6 (M : Msg) (B L : Option Addr) (cb cl : Nat) (h : 6 < (msgA M B cb L cl).size) : (msgA M B cb L cl)[6] = .int .i64 M.s := Eq.trans rfl rfl
theorem msg_get6 (M : Msg) (B L : Option Addr) (cb cl : Nat) (d : Value) : (msgA M B cb L cl).getD 6 d = .int .i64 M.s := Eq.trans rfl rfl
theorem msg_el7 (M : Msg) (B L : Option Addr) (cb cl : Nat) (h : 7 < (msgA M B cb L cl).size) : (msgA M B cb L cl)[7] = .int .i64 M.t := Eq.trans rfl rfl
theorem msg_get7 (M : Msg) (B L : Option Addr) (cb cl : Nat) (d : Value) : (msgA M B cb L cl).getD 7 d = .int .i64 M.t := Eq.trans rfl rfl
theorem msg_el8 (M : Msg) (B L : Option Addr) (cb cl : Nat) (h : 8 < (msgA M B cb L cl).size) : (msgA M B cb L cl)[8] = .int .i64 M.i := Eq.trans rfl rfl
theorem msg_get8 (M : Msg) (B L : Option Addr) (cb cl : Nat) (d : Value) : (msgA M B cb L cl).getD 8 d = .int .i64 M.i := Eq.trans rfl rfl
theorem msg_el9 (M : Msg) (B L : Option Addr) (cb cl : Nat) (h : 9 < (msgA M B cb L cl).size) : (msgA M B cb L cl)[9] = .int .i64 M.sh := Eq.trans rfl rfl
theorem msg_get9 (M : Msg) (B L : Option Addr) (cb cl : Nat) (d : Value) : (msgA M B cb L cl).getD 9 d = .int .i64 M.sh := Eq.trans rfl rfl
theorem msg_el10 (M : Msg) (B L : Option Addr) (cb cl : Nat) (h : 10 < (msgA M B cb L cl).size) : (msgA M B cb L cl)[10] = .int .i64 M.an := Eq.trans rfl rfl
theorem msg_get10 (M : Msg) (B L : Option Addr) (cb cl : Nat) (d : Value) : (msgA M B cb L cl).getD 10 d = .int .i64 M.an := Eq.trans rfl rfl
theorem cl_req (c : Cl) : (clA c).extract 7 20 = msgA c.rq c.qB c.qb c.qL c.ql := ext7 _ _ _ _ _ _ _ _ _ _ _ _ _ _ _ _ _ _ _ _ _ _ _ _ _ _ _ _ _ _ _ _ _
theorem cl_rep (c : Cl) : (clA c).extract 20 33 = msgA c.rp c.pB c.pb c.pL c.pl := ext20 _ _ _ _ _ _ _ _ _ _ _ _ _ _ _ _ _ _ _ _ _ _ _ _ _ _ _ _ _ _ _ _ _
theorem cl_patch7 (c : Cl) (M : Msg) (B L : Option Addr) (cb cl : Nat) : patch 7 (clA c) (msgA M B cb L cl) = clA { c with rq := M, qB := B, qb := cb, qL := L, ql := cl } := Eq.trans rfl rfl
theorem cl_patch20 (c : Cl) (M : Msg) (B L : Option Addr) (cb cl : Nat) : patch 20 (clA c) (msgA M B cb L cl) = clA { c with rp := M, pB := B, pb := cb, pL := L, pl := cl } := Eq.trans rfl rfl
theorem cl_all (c : Cl) : (clA c).extract 0 33 = clA c := ext33 _ rfl
theorem msg_all (M : Msg) (B L : Option Addr) (cb cl : Nat) : (msgA M B cb L cl).extract 0 13 = msgA M B cb L cl := ext13 _ rfl
theorem range_part (w : World) (b o : Nat) (h : isRow w b 33 = true) (h2 : o + 13 ≤ 33) : rangeOf w b o 13 = (rangeOf w b 0 33).extract o (o + 13) := by
  rw [rangeOf_extract w b 0 33 o (o + 13) h2, Nat.zero_add, Nat.add_sub_cancel_left]
theorem slotRow (w : World) (b n o : Nat) (u : Value) (h : isRow w b n = true) (ho : o < n) : w.setCell ⟨b, o, none⟩ u = w.setRow b ((rangeOf w b 0 n).setIfInBounds o u) := by
  obtain ⟨C, t, h1, h2⟩ := isRow_has h
  have hlt : b < w.heap.size := (Array.getElem?_eq_some_iff.1 h1).1
  have hv : w.heap[b] = .cells C t (0, 0) := (Array.getElem?_eq_some_iff.1 h1).2
  have hR : rangeOf w b 0 n = C := by
    apply Array.ext_getElem?
    intro j
    by_cases hj : j < n
    · simp only [rangeOf, List.getElem?_toArray, List.getElem?_map, List.getElem?_range hj, Option.map_some]
      rw [cell_of_row _ _ _ _ _ _ h1, Nat.zero_add, Array.getElem?_eq_getElem (by omega)]
      rfl
    · rw [Array.getElem?_eq_none (by rw [size_rangeOf]; omega), Array.getElem?_eq_none (by omega)]
  rw [hR]
  unfold World.setCell World.setRow
  congr 1
  apply Array.ext_getElem?
  intro k
  simp only [Array.getElem?_modify]
  by_cases hk : b = k
  · subst hk
    simp [h1]
  · simp [hk]
theorem ld_slot (n : Nat) (w : World) (b o : Nat) (t : TypeId) (ht : (isAgg t).run Tryd.prog w = .ok false w) (h : isRow w b n = true) (ho : o < n) : (loadVar t ⟨b, o, none⟩).run Tryd.prog w = .ok ((rangeOf w b 0 n).getD o .nilIface) w := by
  obtain ⟨C, e, h1, h2⟩ := isRow_has h
  have hc : w.cell? ⟨b, o, none⟩ = some C[o] := by rw [cell_of_row _ _ _ _ _ _ h1, Array.getElem?_eq_getElem (by omega)]
  have hg : (rangeOf w b 0 n).getD o .nilIface = C[o] := by
    have : (rangeOf w b 0 n)[o]? = some C[o] := rangeOf_get ho (by rw [Nat.zero_add]; exact hc)
    rw [Array.getD_eq_getD_getElem?, this]
    rfl
  rw [loadVar_one w t _ ht, hg, run_load, hc]

end Go.Proofs.YtbapkamopelgpaaDoor