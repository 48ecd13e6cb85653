/- Clients in memory: whole loads and stores. -/
import Derived.Test.YtbapkamopelgpaaDoorMsgU
import Derived.RegionTactic
import Derived.ChangeAlike
import Derived.BigRegion
namespace Go.Proofs.YtbapkamopelgpaaDoor
open Go.RowKit Go.Stop Go.Extern Go.Ranges Go.Rows2 Go.Sort
set_option linter.unusedVariables false
set_option linter.unusedSimpArgs false
set_option maxRecDepth 100000
/-- What a client is, and where its messages' texts lie. -/
structure Cl where
  id : Int
  num : Int
  wt : Bool
  rf : Bool
  dn : Int
  due : Int
  ans : Int
  rq : Msg
  qB : Option Addr
  qb : Nat
  qL : Option Addr
  ql : Nat
  rp : Msg
  pB : Option Addr
  pb : Nat
  pL : Option Addr
  pl : Nat
def clA (c : Cl) : Array Value := #[.int .i64 c.id, .int .i64 c.num, .bool c.wt, .bool c.rf, .int .i64 c.dn, .int .i64 c.due, .int .i64 c.ans, .int .i64 c.rq.k, .int .i64 c.rq.c, .int .i64 c.rq.n, .int .i64 c.rq.o, .string c.rq.repo, .int .i64 c.rq.e, .int .i64 c.rq.s, .int .i64 c.rq.t, .int .i64 c.rq.i, .int .i64 c.rq.sh, .int .i64 c.rq.an, .slice c.qB c.rq.body.length c.qb, .slice c.qL c.rq.list.length c.ql, .int .i64 c.rp.k, .int .i64 c.rp.c, .int .i64 c.rp.n, .int .i64 c.rp.o, .string c.rp.repo, .int .i64 c.rp.e, .int .i64 c.rp.s, .int .i64 c.rp.t, .int .i64 c.rp.i, .int .i64 c.rp.sh, .int .i64 c.rp.an, .slice c.pB c.rp.body.length c.pb, .slice c.pL c.rp.list.length c.pl]
def msg0 : Msg := ⟨0, 0, 0, 0, ⟨#[]⟩, 0, 0, 0, 0, 0, 0, [], []⟩
def cl0 (id : Int) : Cl := ⟨id, 0, false, false, 0, 0, 0, msg0, none, 0, none, 0, msg0, none, 0, none, 0⟩
structure ClIn (w : World) (c : Cl) : Prop where
  rq : MsgIn w c.rq c.qB c.qL
  rp : MsgIn w c.rp c.pB c.pL
theorem ClIn.below {w w' : World} {c : Cl} (h : ClIn w c) (hb : Below w.heap.size w w') : ClIn w' c := ⟨h.rq.below hb, h.rp.below hb⟩
theorem msg0_in (w : World) : MsgIn w msg0 none none := ⟨fun h => absurd h (by decide), fun h => absurd h (by decide)⟩
theorem cl0_in (w : World) (id : Int) : ClIn w (cl0 id) := ⟨msg0_in w, msg0_in w⟩
/-! ### rules -/
theorem ext33 (C : Array Value) (h : C.size = 33) : C.extract 0 33 = C := by rw [← h]; simp
theorem ext13 (C : Array Value) (h : C.size = 13) : C.extract 0 13 = C := by rw [← h]; simp
def patch (o : Nat) (R D : Array Value) : Array Value := (R.toList.take o ++ D.toList ++ R.toList.drop (o + 13)).toArray
variable (x0 x1 x2 x3 x4 x5 x6 x7 x8 x9 x10 x11 x12 x13 x14 x15 x16 x17 x18 x19 x20 x21 x22 x23 x24 x25 x26 x27 x28 x29 x30 x31 x32 y0 y1 y2 y3 y4 y5 y6 y7 y8 y9 y10 y11 y12 : Value)
theorem ext7 : (#[x0, x1, x2, x3, x4, x5, x6, x7, x8, x9, x10, x11, x12, x13, x14, x15, x16, x17, x18, x19, x20, x21, x22, x23, x24, x25, x26, x27, x28, x29, x30, x31, x32] : Array Value).extract 7 20 = #[x7, x8, x9, x10, x11, x12, x13, x14, x15, x16, x17, x18, x19] := rfl
theorem ext20 : (#[x0, x1, x2, x3, x4, x5, x6, x7, x8, x9, x10, x11, x12, x13, x14, x15, x16, x17, x18, x19, x20, x21, x22, x23, x24, x25, x26, x27, x28, x29, x30, x31, x32] : Array Value).extract 20 33 = #[x20, x21, x22, x23, x24, x25, x26, x27, x28, x29, x30, x31, x32] := rfl
theorem patch7 : patch 7 #[x0, x1, x2, x3, x4, x5, x6, x7, x8, x9, x10, x11, x12, x13, x14, x15, x16, x17, x18, x19, x20, x21, x22, x23, x24, x25, x26, x27, x28, x29, x30, x31, x32] #[y0, y1, y2, y3, y4, y5, y6, y7, y8, y9, y10, y11, y12] = #[x0, x1, x2, x3, x4, x5, x6, y0, y1, y2, y3, y4, y5, y6, y7, y8, y9, y10, y11, y12, x20, x21, x22, x23, x24, x25, x26, x27, x28, x29, x30, x31, x32] := rfl
theorem patch20 : patch 20 #[x0, x1, x2, x3, x4, x5, x6, x7, x8, x9, x10, x11, x12, x13, x14, x15, x16, x17, x18, x19, x20, x21, x22, x23, x24, x25, x26, x27, x28, x29, x30, x31, x32] #[y0, y1, y2, y3, y4, y5, y6, y7, y8, y9, y10, y11, y12] = #[x0, x1, x2, x3, x4, x5, x6, x7, x8, x9, x10, x11, x12, x13, x14, x15, x16, x17, x18, x19, y0, y1, y2, y3, y4, y5, y6, y7, y8, y9, y10, y11, y12] := rfl
theorem ones33 (h : ([x0, x1, x2, x3, x4, x5, x6, x7, x8, x9, x10, x11, x12, x13, x14, x15, x16, x17, x18, x19, x20, x21, x22, x23, x24, x25, x26, x27, x28, x29, x30, x31, x32].all fun x => x.oneCell') = true) : ones #[x0, x1, x2, x3, x4, x5, x6, x7, x8, x9, x10, x11, x12, x13, x14, x15, x16, x17, x18, x19, x20, x21, x22, x23, x24, x25, x26, x27, x28, x29, x30, x31, x32] = true := by unfold ones; rw [List.all_toArray]; exact h
theorem ones13 (h : ([y0, y1, y2, y3, y4, y5, y6, y7, y8, y9, y10, y11, y12].all fun x => x.oneCell') = true) : ones #[y0, y1, y2, y3, y4, y5, y6, y7, y8, y9, y10, y11, y12] = true := by unfold ones; rw [List.all_toArray]; exact h
theorem setRow_old (w : World) (ob : Obj) (b : Nat) (C : Array Value) (hb : b < w.heap.size) : (w.alloc ob).setRow b C = (w.setRow b C).alloc ob := by
  have key : ∀ f : Obj → Obj, (w.heap.push ob).modify b f = (w.heap.modify b f).push ob := fun f => by
    apply Array.ext_getElem?
    intro k
    simp only [Array.getElem?_modify, Array.getElem?_push, Array.size_modify]
    by_cases h1 : k = w.heap.size
    · subst h1
      have h2 : ¬ b = w.heap.size := by omega
      simp [h2]
    · simp [h1]
  simp only [World.setRow, World.alloc, key]
theorem ld33 (w : World) (b o : Nat) (h : hasRange w b o 33 = true) : (loadVar 33 ⟨b, o, none⟩).run Tryd.prog w = .ok (.agg (rangeOf w b o 33)) w :=
  var_range 33 Tryd.underlying33 rfl (by kernel_rfl) w b o h
theorem ld13 (w : World) (b o : Nat) (h : hasRange w b o 13 = true) : (loadVar 25 ⟨b, o, none⟩).run Tryd.prog w = .ok (.agg (rangeOf w b o 13)) w :=
  var_range 13 Tryd.underlying25 rfl (by kernel_rfl) w b o h
theorem st33 (w : World) (b : Nat) (C : Array Value) (h : isRow w b 33 = true) (h2 : C.size = 33) (h3 : ones C = true) : (storeVar 33 ⟨b, 0, none⟩ (.agg C)).run Tryd.prog w = .ok () (w.setRow b C) :=
  store_row 33 (by kernel_rfl) w b C h h2 h3
theorem st13 (w : World) (b o : Nat) (D : Array Value) (h : isRow w b 33 = true) (h2 : D.size = 13) (h3 : ones D = true) (ho : o + 13 ≤ 33) : (storeVar 25 ⟨b, o, none⟩ (.agg D)).run Tryd.prog w = .ok () (w.setRow b (patch o (rangeOf w b 0 33) D)) := by
  obtain ⟨C, e, h1, h4⟩ := isRow_has h
  have hR : rangeOf w b 0 33 = C := by
    apply Array.ext_getElem?
    intro j
    by_cases hj : j < 33
    · simp only [rangeOf, List.getElem?_toArray, List.getElem?_map, List.getElem?_range hj, Option.map_some]
      rw [cell_of_row _ _ _ _ _ _ h1, Nat.zero_add, Array.getElem?_eq_getElem (by omega)]
      rfl
    · rw [Array.getElem?_eq_none (by rw [size_rangeOf]; omega), Array.getElem?_eq_none (by omega)]
  have hst := run_storeCells_at Tryd.prog b o e D.toList 0 C w h1 (by simp; omega) (fun v hv => by
    unfold ones at h3
    rw [Array.all_eq_true'] at h3
    exact h3 v (by simpa using hv))
  rw [hR]
  have hi : (Tryd.prog.info? 25).map (·.size) = some D.size := by rw [h2]; kernel_rfl
  have hl : D.toList.length = 13 := by simpa using h2
  cases hq : Tryd.prog.info? 25 with
  | none => simp [hq] at hi
  | some i =>
    simp only [hq, Option.map_some, Option.some.injEq] at hi
    have hz : (Go.sizeOf 25).run Tryd.prog w = .ok D.size w := by simp [Go.sizeOf, typeInfo, hq, hi]
    unfold patch
    rw [Nat.add_zero, hl] at hst
    simp [storeVar, Sem.run_bind, hz, Value.cells, hst, h2]
end Go.Proofs.YtbapkamopelgpaaDoor
