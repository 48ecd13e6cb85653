/- Clients: Start, where the request is too large. -/
import Derived.Test.YtbapkamopelgpaaDoorClV
namespace Go.Proofs.YtbapkamopelgpaaDoor
open Go.RowKit Go.Stop Go.Extern Go.Ranges Go.Rows2 Go.Sort
set_option linter.unusedVariables false
set_option linter.unusedSimpArgs false
set_option maxRecDepth 100000
attribute [-go_sem] loadVar storeVar
attribute [local go_sem] cl_ne lt_1 lt_2 lt_3 lt_4
attribute [local go_sem] rI33 rB33 rI13 rC rM7 rM20 rM st33 sI33 sB33 sM7 sM20 ones_lit13 ones_new clA_size ones_clA msgA_size ones_msgA cl_get0 cl_get1 cl_get2 cl_get3 cl_get4 cl_get5 cl_get6 cl_el0 cl_el1 cl_el2 cl_el3 cl_el4 cl_el5 cl_el6 msg_el0 msg_el1 msg_el2 msg_el10 cl_set0 cl_set1 cl_set2 cl_set3 cl_set4 cl_set5 cl_set6 msg_get0 msg_get1 msg_get2 msg_get10 cl_req cl_rep cl_patch7 cl_patch20 cl_all msg_all setRow_old setRow_last range_setRow_all lit_cl setRow_drew
attribute [local go_sem ↓] Go.wp_at_zero Go.wp_at_succ
attribute [local go_sem] lit_msg0 fold13b setRow_twice rE msg_ne msg_set0 msg_set1 msg_set2 msg_set3 msg_set4 msg_set11
def StartLarge (w : World) (c : Cl) (op : Int) (s : ByteArray) (xs : List Int) (e : Ending) (w' : World) : Prop :=
  ∃ A k, e = .returned (.tuple #[.agg (clA { c with num := c.num + 1, wt := false, rf := false, dn := 0, ans := 6, rq := reqOf c op s xs, qB := A, qb := k, qL := none, ql := 0, rp := msg0, pB := none, pb := 0, pL := none, pl := 0 }), .slice none 0 0, .nilIface]) ∧ Below w.heap.size w w'
set_option maxHeartbeats 4000000 in
theorem start_large (c : Cl) (op : Int) (s : ByteArray) (A : Option Addr) (cap : Nat) (xs : List Int) (now : Int) (a : Nat → Addr) (w : World) (HV : MsgV w a) (hw : c.wt = false) (ho1 : 1 ≤ op) (ho2 : op ≤ 255) (hs : s.size ≤ 255) (h0 : 0 ≤ now) (h1 : now ≤ 1000) (hn0 : 0 ≤ c.num) (hn1 : c.num ≤ 1000) (hB : Lib.BytesIn w A xs.length xs) (hL : xs.length ≤ 3500) (hA : A = none → xs.length = 0) (hC : msgC (reqOf c op s xs) = 13) :
    Calls Tryd.prog 23 #[.agg (clA c), .int .i64 op, .string s, .slice A xs.length cap, .int .i64 now] w (StartLarge w c op s xs) := by
  have K := fun W : World => ticked_yes now W h0 h1
  have hKc := Lib.hid fun (W : World) (hb : Below w.heap.size w W) => clone_any A xs.length cap xs W rfl (bytesIn_below' hB hb) (by omega) hA
  have e1 : IntKind.i64.wrap (c.num + 1) = c.num + 1 := by rw [IntKind.wrap_i64]; omega
  have e2 : ¬ op < 1 := by omega
  have e3 : ¬ 255 < op := by omega
  have e4 : ¬ (255 : Int) < (s.size : Int) := by omega
  have e5 : ¬ (1099511627776 : Int) ≤ c.num := by omega
  have e5d : decide ((1099511627776 : Int) ≤ c.num) = false := by simpa using e5
  have e4d : decide ((255 : Int) < (s.size : Int)) = false := by simpa using e4
  have e3d : decide ((255 : Int) < op) = false := by simpa using e3
  have e2d : decide (op < (1 : Int)) = false := by simpa using e2
  have HVh := Lib.hid HV
  clear HV
  have hBh := Lib.hid hB
  clear hB hA
  go_enter Tryd.func23, Tryd.ntmps23
  go_wp2_with fail
  refine (K _).mono ?_
  rintro e w1 ⟨rfl, rfl⟩
  go_wp2_with fail
  go_region_with (
    go_at_call 51
    go_loud (
    refine (hKc.out _ (by repeat (first | exact Below.refl _ _ | refine Below.drew ?_ | refine Below.alloc ?_ (by simp; try omega) _))).mono ?_
    rintro e w1 ⟨v, rfl, hT, hb⟩
    obtain ⟨A', k', rfl, hBT, _, _, hF⟩ := hT
    have hFF : ∀ x : Addr, A' = some x → 0 < xs.length → x.block ≠ w.heap.size + 1 + 1 ∧ x.block ≠ w.heap.size + 1 := fun x e1 e2 => by have := (hF x e1 e2).2; simp at this; omega
    have HBT := Lib.hid (And.intro hBT hFF)
    clear hBT hFF hF
    obtain ⟨k1, k2⟩ := row_kept (b := w.heap.size) 33 hb (by simp; try omega) (by simp [go_sem])
    obtain ⟨k3, k4⟩ := row_kept (b := w.heap.size + 1) 33 hb (by simp; try omega) (by simp [go_sem])
    obtain ⟨k5, k6⟩ := row_kept (b := w.heap.size + 1 + 1) 33 hb (by simp) (by simp [go_sem])
    have q1 : rangeOf w1 w.heap.size 0 33 = clA c := by rw [k2]; simp [go_sem]
    have q2 : rangeOf w1 (w.heap.size + 1 + 1) 0 33 = clA { c with num := c.num + 1, wt := false } := by rw [k6]; simp [go_sem]
    have HB := Lib.hid (stepV (w := w) (by repeat (first | exact Below.refl _ _ | refine Below.drew ?_ | refine Below.alloc ?_ (by simp; try omega) _)) hb)
    clear hb k2 k4 k6))
  all_goals go_wp2_with fail
  all_goals (
    refine Calls.mono (msgBytes_any (reqOf c op s xs) A' none k' 0 a _ (HVh.out.below (below_setRow HB.out (by omega) _)) (req_in (bytes_setRow _ _ HBT.out.1 fun x e h => (HBT.out.2 x e h).1)) (by show xs.length ≤ 65535; omega) (fun i hi => absurd hi (Nat.not_lt_zero i))) ?_
    rintro e w3 ⟨hb3, _, hno⟩
    obtain rfl := hno (by rw [hC]; decide)
    clear hno
    rw [hC]
    simp only [errV, if_neg (show ¬ (13 : Nat) = 0 by decide)]
    obtain ⟨r1, r2⟩ := row_kept (b := w.heap.size + 1 + 1) 33 hb3 (by simpa [World.setRow] using isRow_lt k5) (by simp [go_sem, k5])
    obtain ⟨r3, r4⟩ := row_kept (b := w.heap.size + 1) 33 hb3 (by simpa [World.setRow] using isRow_lt k3) (by simp [go_sem, k3])
    simp only [go_sem, k5] at r2
    have HBT3 := Lib.hid (And.intro (bytesIn_below' (bytes_setRow _ _ HBT.out.1 fun x e h => (HBT.out.2 x e h).1) hb3) HBT.out.2)
    have HB3 := Lib.hid (stepV (below_setRow HB.out (by omega) _) hb3)
    clear hb3 r4 HBT HB k1 k3 k5 q1 q2 hKc
    have h13 := HVh.out.e13.below HB3.out
    simp only [ErrC, gErr] at h13
    have K5 := over_any { c with num := c.num + 1, wt := true, dn := 0, rq := reqOf c op s xs, qB := A', qb := k', qL := none, ql := 0 } 6 msg0 none none 0 0 w3
    go_wp2_with fail
    refine (is_same _ _).mono ?_
    rintro e w4 ⟨rfl, rfl⟩
    go_wp2_with fail
    refine K5.mono ?_
    rintro e w5 ⟨rfl, hb5⟩
    obtain ⟨s3, s4⟩ := row_kept (b := w.heap.size + 1) 33 hb5 (isRow_lt r3) r3
    have HBT5 := Lib.hid (And.intro (bytesIn_below' HBT3.out.1 hb5) HBT3.out.2)
    have HB5 := Lib.hid (stepV HB3.out hb5)
    clear hb5 s4 HBT3 HB3 h13 K5
    go_wp2_with fail
    refine bodyPost_ret (v := .tuple #[.agg (clA { c with num := c.num + 1, wt := false, rf := false, dn := 0, ans := 6, rq := reqOf c op s xs, qB := A', qb := k', qL := none, ql := 0, rp := msg0, pB := none, pb := 0, pL := none, pl := 0 }), .slice none 0 0, .nilIface]) (by simp [results, Tryd.results23, go_sem, s3]) rfl ⟨A', k', rfl, below_setRow HB5.out (by omega) _⟩)
end Go.Proofs.YtbapkamopelgpaaDoor
