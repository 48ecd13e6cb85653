/- Clients: Start, at a client that does not wait. -/
import Derived.Test.YtbapkamopelgpaaDoorClO
namespace Go.Proofs.YtbapkamopelgpaaDoor
open Go.RowKit Go.Stop Go.Extern Go.Ranges Go.Rows2 Go.Sort
set_option linter.unusedVariables false
set_option linter.unusedSimpArgs false
set_option maxRecDepth 100000
theorem msg_set0 (M : Msg) (B L : Option Addr) (cb cl : Nat) (x : Int) : (msgA M B cb L cl).setIfInBounds 0 (.int .i64 x) = msgA { M with k := x } B cb L cl := Eq.trans rfl rfl
theorem msg_set1 (M : Msg) (B L : Option Addr) (cb cl : Nat) (x : Int) : (msgA M B cb L cl).setIfInBounds 1 (.int .i64 x) = msgA { M with c := x } B cb L cl := Eq.trans rfl rfl
theorem msg_set2 (M : Msg) (B L : Option Addr) (cb cl : Nat) (x : Int) : (msgA M B cb L cl).setIfInBounds 2 (.int .i64 x) = msgA { M with n := x } B cb L cl := Eq.trans rfl rfl
theorem msg_set3 (M : Msg) (B L : Option Addr) (cb cl : Nat) (x : Int) : (msgA M B cb L cl).setIfInBounds 3 (.int .i64 x) = msgA { M with o := x } B cb L cl := Eq.trans rfl rfl
theorem msg_set4 (M : Msg) (B L : Option Addr) (cb cl : Nat) (x : ByteArray) : (msgA M B cb L cl).setIfInBounds 4 (.string x) = msgA { M with repo := x } B cb L cl := Eq.trans rfl rfl
theorem msg_set11 (M : Msg) (B L A : Option Addr) (cb cl c : Nat) (xs : List Int) : (msgA M B cb L cl).setIfInBounds 11 (.slice A xs.length c) = msgA { M with body := xs } A c L cl := Eq.trans rfl rfl
theorem is_nil (b : Addr) (w : World) : Calls Tryd.prog 49 #[.nilIface, .iface 198 (.pointer (some b))] w fun e w' => e = .returned (.bool false) ∧ w = w' := by
  have heq : (binOp .eql 35 .nilIface (.iface 198 (.pointer (some b)))).run Tryd.prog w = .ok (.bool false) w := by
    simp only [binOp]
    have h9 : ∀ d, (Op.equalIn (d + 1) 35 .nilIface (.iface 198 (.pointer (some b)))).run Tryd.prog w = .ok false w := fun d => by
      simp only [Op.equalIn, Sem.run_bind, run_underlying Tryd.underlying35]
      simp
    simp [Op.equal, Op.maxDepth, h9 9999]
  go_enter Tryd.func49, Tryd.ntmps49
  go_wp2
  go_ret
  exact ⟨rfl, rfl⟩
attribute [-go_sem] loadVar storeVar
attribute [local go_sem] lit_msg0 fold13b cl_ne lt_1 lt_2 lt_3 lt_4
attribute [local go_sem] rI33 rB33 rI13 rC rM7 rM20 rM st33 sI33 sB33 sM7 sM20 ones_lit13 ones_new clA_size ones_clA msgA_size ones_msgA cl_get0 cl_get1 cl_get2 cl_get3 cl_get4 cl_get5 cl_get6 cl_el0 cl_el1 cl_el2 cl_el3 cl_el4 cl_el5 cl_el6 msg_el0 msg_el1 msg_el2 msg_el10 cl_set0 cl_set1 cl_set2 cl_set3 cl_set4 cl_set5 cl_set6 msg_get0 msg_get1 msg_get2 msg_get10 cl_req cl_rep cl_patch7 cl_patch20 cl_all msg_all setRow_old setRow_last range_setRow_all lit_cl setRow_drew
attribute [local go_sem ↓] Go.wp_at_zero Go.wp_at_succ
attribute [local go_sem] msg_set0 msg_set1 msg_set2 msg_set3 msg_set4 msg_set11
theorem rE (w : World) (x : Addr) : (loadVar 35 x).run Tryd.prog w = (load x).run Tryd.prog w := loadVar_one w _ x (by kernel_rfl)
attribute [local go_sem] rE
theorem msg_ne (M : Msg) (B L : Option Addr) (cb cl : Nat) : (msgA M B cb L cl = #[]) = False := by simp [msgA]
attribute [local go_sem] msg_ne
theorem setRow_twice (w : World) (b : Nat) (C C' : Array Value) : (w.setRow b C).setRow b C' = w.setRow b C' := by
  simp only [World.setRow]
  congr 1
  apply Array.ext_getElem?
  intro k
  simp only [Array.getElem?_modify]
  by_cases h : b = k
  · subst h
    cases w.heap[b]? with
    | none => simp
    | some ob => cases ob <;> simp
  · simp [h]
attribute [local go_sem] setRow_twice
theorem bytes_setRow {w : World} {A : Option Addr} {n : Nat} {xs : List Int} (g : Nat) (C : Array Value) (h : Lib.BytesIn w A n xs) (hne : ∀ a, A = some a → 0 < n → a.block ≠ g) : Lib.BytesIn (w.setRow g C) A n xs := fun hn => by
  obtain ⟨b, o, rfl, hcl⟩ := h hn
  have h1 : b ≠ g := hne ⟨b, o, none⟩ rfl hn
  exact ⟨b, o, rfl, fun i hi => (World.cell?_of_block (a := ⟨b, o + i, none⟩) (setRow_other _ _ _ _ h1)).trans (hcl i hi)⟩
def reqOf (c : Cl) (op : Int) (s : ByteArray) (xs : List Int) : Msg := ⟨1, c.id, c.num + 1, op, s, 0, 0, 0, 0, 0, 0, xs, []⟩
theorem req_in {w : World} {c : Cl} {op : Int} {s : ByteArray} {xs : List Int} {A : Option Addr} (h : Lib.BytesIn w A xs.length xs) : MsgIn w (reqOf c op s xs) A none := ⟨h, fun h => absurd h (Nat.lt_irrefl 0)⟩
def StartOk (w : World) (c : Cl) (op : Int) (s : ByteArray) (xs : List Int) (now : Int) (e : Ending) (w' : World) : Prop :=
  ∃ A k g kk, e = .returned (.tuple #[.agg (clA { c with num := c.num + 1, wt := true, rf := false, dn := 1, due := now + 8, rq := reqOf c op s xs, qB := A, qb := k, qL := none, ql := 0 }), .slice (some ⟨g, 0, none⟩) 1 kk, .nilIface]) ∧ MsgIn w' (reqOf c op s xs) A none ∧ Below w.heap.size w w'
set_option maxHeartbeats 4000000 in
theorem start_ok (c : Cl) (op : Int) (s : ByteArray) (A : Option Addr) (cap : Nat) (xs : List Int) (now : Int) (a : Nat → Addr) (w : World) (HV : MsgV w a) (hw : c.wt = false) (ho1 : 1 ≤ op) (ho2 : op ≤ 255) (hs : s.size ≤ 255) (h0 : 0 ≤ now) (h1 : now ≤ 1000) (hn0 : 0 ≤ c.num) (hn1 : c.num ≤ 1000) (hB : Lib.BytesIn w A xs.length xs) (hL : xs.length ≤ 3500) (hA : A = none → xs.length = 0) (hC : msgC (reqOf c op s xs) = 0) :
    Calls Tryd.prog 23 #[.agg (clA c), .int .i64 op, .string s, .slice A xs.length cap, .int .i64 now] w (StartOk w c op s xs now) := by
  have K := fun W : World => ticked_yes now W h0 h1
  have hKc := Lib.hid fun (W : World) (hb : Below w.heap.size w W) => clone_any A xs.length cap xs W rfl (bytesIn_below' hB hb) (by omega) hA
  have e1 : IntKind.i64.wrap (c.num + 1) = c.num + 1 := by rw [IntKind.wrap_i64]; omega
  have e2 : ¬ op < 1 := by omega
  have e3 : ¬ 255 < op := by omega
  have e4 : ¬ (255 : Int) < (s.size : Int) := by omega
  have e5 : ¬ (1099511627776 : Int) ≤ c.num := by omega
  have e5d : decide ((1099511627776 : Int) ≤ c.num) = false := by simpa using e5
  have e4d : decide ((255 : Int) < (s.size : Int)) = false := by simpa using e4
  have e3d : decide ((255 : Int) < op) = false := by simpa using e3
  have e2d : decide (op < (1 : Int)) = false := by simpa using e2
  have HVh := Lib.hid HV
  clear HV
  have hBh := Lib.hid hB
  clear hB hA
  go_enter Tryd.func23, Tryd.ntmps23
  go_wp2_with fail
  refine (K _).mono ?_
  rintro e w1 ⟨rfl, rfl⟩
  go_wp2_with fail
  go_region_with (
    go_at_call 51
    go_loud (
    refine (hKc.out _ (by repeat (first | exact Below.refl _ _ | refine Below.drew ?_ | refine Below.alloc ?_ (by simp; try omega) _))).mono ?_
    rintro e w1 ⟨v, rfl, hT, hb⟩
    obtain ⟨A', k', rfl, hBT, _, _, hF⟩ := hT
    have hFF : ∀ x : Addr, A' = some x → 0 < xs.length → x.block ≠ w.heap.size + 1 + 1 ∧ x.block ≠ w.heap.size + 1 := fun x e1 e2 => by have := (hF x e1 e2).2; simp at this; omega
    have HBT := Lib.hid (And.intro hBT hFF)
    clear hBT hFF hF
    obtain ⟨k1, k2⟩ := row_kept (b := w.heap.size) 33 hb (by simp; try omega) (by simp [go_sem])
    obtain ⟨k3, k4⟩ := row_kept (b := w.heap.size + 1) 33 hb (by simp; try omega) (by simp [go_sem])
    obtain ⟨k5, k6⟩ := row_kept (b := w.heap.size + 1 + 1) 33 hb (by simp) (by simp [go_sem])
    have q1 : rangeOf w1 w.heap.size 0 33 = clA c := by rw [k2]; simp [go_sem]
    have q2 : rangeOf w1 (w.heap.size + 1 + 1) 0 33 = clA { c with num := c.num + 1, wt := false } := by rw [k6]; simp [go_sem]
    have HB := Lib.hid (stepV (w := w) (by repeat (first | exact Below.refl _ _ | refine Below.drew ?_ | refine Below.alloc ?_ (by simp; try omega) _)) hb)
    clear hb k2 k4 k6))
  all_goals go_wp2_with fail
  all_goals (
    refine Calls.mono (msgBytes_any (reqOf c op s xs) A' none k' 0 a _ (HVh.out.below (below_setRow HB.out (by omega) _)) (req_in (bytes_setRow _ _ HBT.out.1 fun x e h => (HBT.out.2 x e h).1)) (by show xs.length ≤ 65535; omega) (fun i hi => absurd hi (Nat.not_lt_zero i))) ?_
    rintro e w3 ⟨hb3, hok, _⟩
    obtain ⟨A3, c3, rfl, _⟩ := hok hC
    clear hok
    obtain ⟨r1, r2⟩ := row_kept (b := w.heap.size + 1 + 1) 33 hb3 (by simpa [World.setRow] using isRow_lt k5) (by simp [go_sem, k5])
    obtain ⟨r3, r4⟩ := row_kept (b := w.heap.size + 1) 33 hb3 (by simpa [World.setRow] using isRow_lt k3) (by simp [go_sem, k3])
    simp only [go_sem, k5] at r2
    have HBT3 := Lib.hid (And.intro (bytesIn_below' (bytes_setRow _ _ HBT.out.1 fun x e h => (HBT.out.2 x e h).1) hb3) HBT.out.2)
    have HB3 := Lib.hid (stepV (below_setRow HB.out (by omega) _) hb3)
    clear hb3 r4 HBT HB k1 k3 k5 q1 q2 hKc
    have h13 := HVh.out.e13.below HB3.out
    simp only [ErrC, gErr] at h13
    have K5 := try_any { c with num := c.num + 1, wt := true, dn := 0, rq := reqOf c op s xs, qB := A', qb := k', qL := none, ql := 0 } now w3 h0 h1 (Int.le_refl 0) (by show (0 : Int) ≤ 10; omega)
    go_wp2_with fail
    refine (is_nil _ _).mono ?_
    rintro e w4 ⟨rfl, rfl⟩
    go_wp2_with fail
    refine K5.mono ?_
    rintro e w5 ⟨g5, c5, rfl, _, _, _, hb5⟩
    obtain ⟨s1, s2⟩ := row_kept (b := w.heap.size + 1 + 1) 33 hb5 (isRow_lt r1) r1
    obtain ⟨s3, s4⟩ := row_kept (b := w.heap.size + 1) 33 hb5 (isRow_lt r3) r3
    have HBT5 := Lib.hid (And.intro (bytesIn_below' HBT3.out.1 hb5) HBT3.out.2)
    have HB5 := Lib.hid (stepV HB3.out hb5)
    clear hb5 s2 s4 HBT3 HB3 h13 K5
    have s5 : ∀ C, isRow (w5.setRow (w.heap.size + 1 + 1) C) (w.heap.size + 1) 33 = true := fun C => by rw [isRow_setRow_far _ _ _ _ _ (by omega)]; exact s3
    generalize hG : (some ⟨g5, 0, none⟩ : Option Addr) = G
    go_wp2_with fail
    subst hG
    refine bodyPost_ret (v := .tuple #[.agg (clA { c with num := c.num + 1, wt := true, rf := false, dn := 1, due := now + 8, rq := reqOf c op s xs, qB := A', qb := k', qL := none, ql := 0 }), .slice (some ⟨g5, 0, none⟩) 1 c5, .nilIface]) (by simp [results, Tryd.results23, go_sem, s1, s3, s5]) rfl ⟨A', k', g5, c5, rfl, req_in (bytes_setRow _ _ (bytes_setRow _ _ HBT5.out.1 fun x e h => (HBT5.out.2 x e h).1) fun x e h => (HBT5.out.2 x e h).2), below_setRow (below_setRow HB5.out (by omega) _) (by omega) _⟩)
end Go.Proofs.YtbapkamopelgpaaDoor
