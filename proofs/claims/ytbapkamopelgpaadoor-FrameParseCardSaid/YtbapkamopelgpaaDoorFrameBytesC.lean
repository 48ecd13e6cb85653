/- Rows of one-cell elements that are written in place: append with room, clear. Whatever program. slices.Clone of bytes; a text in memory. Fields as bytes, told plainly. slices.Grow at nil, slices.Concat of bytes. -/
import Derived.Test.YtbapkamopelgpaaDoorFrameBytesB
import Derived.WalkKit
import Derived.Laws.CopyRow
import Derived.Laws.IdiomCopy
import Derived.ArgAppend
import Derived.Lib.SliceRun
import Derived.Lib.Hide
import Derived.Deep.RegionLaw
namespace Go.Rows2
open Go.RowKit Go.Ranges
set_option linter.unusedVariables false
set_option linter.unusedSimpArgs false
section
variable {P : Program}
/-- 'append(s, t...)', there is room: in place. -/
theorem run_append_inplace (w : World) (t ty e : TypeId) (i : TypeInfo) (ht : P.underlying t = some (.slice e)) (hi : P.info? e = some i) (hs : i.size = 1)
    (g n c m cS : Nat) (A : Option Addr) (cur : Array Value) (tt : TypeId) (hg : w.heap[g]? = some (.cells cur tt (0, 0))) (hc : cur.size = c) (news : List Value) (hl : news.length = m)
    (hsrc : 0 < m → ∃ a, A = some a ∧ ∀ j u, news[j]? = some u → w.cell? (a.add j) = some u) (h1 : ∀ u ∈ news, u.oneCell' = true) (hroom : n + m ≤ c) :
    (Builtin.append_ #[t, t] ty #[.slice (some ⟨g, 0, none⟩) n c, .slice A m cS]).run P w = .ok (.slice (some ⟨g, 0, none⟩) (n + m) c) (w.setRow g (cur.toList.take n ++ news ++ cur.toList.drop (n + m)).toArray) := by
  have hst := run_storeCells_at P g n tt news 0 cur w hg (by omega) h1
  have hz : n * i.size = n := by rw [hs, Nat.mul_one]
  rw [Nat.add_zero, hl] at hst
  by_cases h0 : m = 0
  · subst h0
    obtain rfl := List.eq_nil_of_length_eq_zero hl
    rw [Nat.add_zero, List.append_nil, List.take_append_drop, Array.toArray_toList, setRow_self w g cur tt (0, 0) hg]
    have hnc : n ≤ c := by omega
    cases A <;> simp [Builtin.append_, run_underlying ht, sizeOf, typeInfo, hi, Builtin.lenOf, Builtin.firstCells, loadCells, loadCellsFrom, hnc, storeCells]
  · obtain ⟨a, rfl, hnews⟩ := hsrc (by omega)
    have hfc := run_firstCells_some (P := P) w i.size m a m cS news (by rw [hs, Nat.mul_one, hl]) hnews
    simp [Builtin.append_, run_underlying ht, sizeOf, typeInfo, hi, Builtin.lenOf, hroom, hfc, Addr.add_lit, hz, hst]
/-- 'clear(s)'. -/
theorem run_clear_row (w : World) (t e ty : TypeId) (z : Value) (ht : P.underlying t = some (.slice e)) (hv : ∀ w, (zeroValue e).run P w = .ok z w) (hz : z.cells = #[z]) (h1 : z.oneCell' = true) (g o n c : Nat) (hn : 0 < n)
    (cur : Array Value) (tt : TypeId) (hg : w.heap[g]? = some (.cells cur tt (0, 0))) (hfit : o + n ≤ cur.size) :
    (Builtin.clear_ #[t] ty #[.slice (some ⟨g, o, none⟩) n c]).run P w = .ok (.tuple #[]) (w.setRow g (cur.toList.take o ++ List.replicate n z ++ cur.toList.drop (o + n)).toArray) := by
  have hzc : (Builtin.zeroCells z.cells n).toList = List.replicate n z := by
    rw [hz]
    simp [Builtin.zeroCells]
    apply List.ext_getElem
    · simp
    · intro i h1 h2
      simp [Nat.mod_one]
  have hst := run_storeCells_at P g o tt (List.replicate n z) 0 cur w hg (by simp; omega) (by intro v hv'; rw [List.eq_of_mem_replicate hv']; exact h1)
  rw [Nat.add_zero, List.length_replicate] at hst
  obtain ⟨m, rfl⟩ : ∃ m, n = m + 1 := ⟨n - 1, by omega⟩
  simp [Builtin.clear_, run_underlying ht, hv, hzc, hst]
/-- One step of a region that draws: an append, a copy whose run is known by an equation. -/
theorem step_append_run {ops : Array Oper} {o : Oper} {a : Act} {w : World} {K : Act → World → Prop} {Q : Exit → Act → World → Prop} {E : Prop}
    (hg : o.guard = none) (d x : Operand) (dT sT : TypeId) (hop : o.op = Op.call { callee := Callee.builtin Builtin.append, args := #[d, x], argTypes := #[dT, sT] })
    (v u : Value) (hd : a.eval d = v) (hx : a.eval x = u) {v' : Value} {w' : World} (hr : (Builtin.append_ #[dT, sT] o.type #[v, u]).run P w = .ok v' w') (hK : K (a.put o.dst v') w') :
    if Region.wanted o (yielded ops a.tmps) = true then Oper.wp P o a w K Q else E := by
  have hw : Region.wanted o (yielded ops a.tmps) = true := by simp [Region.wanted, hg]
  rw [if_pos hw]
  unfold Oper.wp
  simp [execOp, hop, resolve, invoke, builtin, hd, hx, hr, Result.andThen]
  exact hK
theorem step_copy_run {ops : Array Oper} {o : Oper} {a : Act} {w : World} {K : Act → World → Prop} {Q : Exit → Act → World → Prop} {E : Prop}
    (hg : o.guard = none) (d x : Operand) (dT sT : TypeId) (hop : o.op = Op.call { callee := Callee.builtin Builtin.copy, args := #[d, x], argTypes := #[dT, sT] })
    (v u : Value) (hd : a.eval d = v) (hx : a.eval x = u) {v' : Value} {w' : World} (hr : (Builtin.copy_ #[dT, sT] o.type #[v, u]).run P w = .ok v' w') (hK : K (a.put o.dst v') w') :
    if Region.wanted o (yielded ops a.tmps) = true then Oper.wp P o a w K Q else E := by
  have hw : Region.wanted o (yielded ops a.tmps) = true := by simp [Region.wanted, hg]
  rw [if_pos hw]
  unfold Oper.wp
  simp [execOp, hop, resolve, invoke, builtin, hd, hx, hr, Result.andThen]
  exact hK
theorem wpList_copy_run2 (w : World) {ops : Array Oper} {rest : List Oper} {o : Oper} {a : Act} {Q : Exit → Act → World → Prop} (hgd : o.guard = none) (d s : Operand) (t t' : TypeId)
    (ho : o.op = .call { callee := .builtin .copy, args := #[d, s], argTypes := #[t, t'] }) (v u : Value) (hd : a.eval d = v) (hs : a.eval s = u) {v' : Value} {w' : World}
    (hr : (Builtin.copy_ #[t, t'] o.type #[v, u]).run P w = .ok v' w') (h : wpList P ops Q rest (a.put o.dst v') w') : wpList P ops Q (o :: rest) a w :=
  wpList_plain hgd fun K hK => by
    have h2 := hK _ _ h
    unfold Oper.wp execOp
    simp only [ho, resolve, invoke, builtin, Sem.run_bind, Sem.run_pure, Result.andThen_ok, List.map_toArray, List.map_cons, List.map_nil, hd, hs, hr]
    exact h2
theorem wpList_clear_run (w : World) {ops : Array Oper} {rest : List Oper} {o : Oper} {a : Act} {Q : Exit → Act → World → Prop} (hgd : o.guard = none) (d : Operand) (t : TypeId)
    (ho : o.op = .call { callee := .builtin .clear, args := #[d], argTypes := #[t] }) (v : Value) (hd : a.eval d = v) {v' : Value} {w' : World}
    (hr : (Builtin.clear_ #[t] o.type #[v]).run P w = .ok v' w') (h : wpList P ops Q rest (a.put o.dst v') w') : wpList P ops Q (o :: rest) a w :=
  wpList_plain hgd fun K hK => by
    have h2 := hK _ _ h
    unfold Oper.wp execOp
    simp only [ho, resolve, invoke, builtin, Sem.run_bind, Sem.run_pure, Result.andThen_ok, List.map_toArray, List.map_cons, List.map_nil, hd, hr]
    exact h2
end
/-- What turned: of the blocks that there were, those of S alone. -/
structure Chg (S : Nat → Prop) (w w' : World) : Prop where
  os : w'.os = w.os
  tape : w'.tape = w.tape
  output : w'.output = w.output
  size : w.heap.size ≤ w'.heap.size
  block : ∀ k, k < w.heap.size → ¬ S k → w'.heap[k]? = w.heap[k]?
theorem Chg.of_below {S : Nat → Prop} {w w' : World} (h : Below w.heap.size w w') : Chg S w w' := ⟨h.os, h.tape, h.output, h.size, fun k hk _ => h.block k hk⟩
theorem Chg.refl (S : Nat → Prop) (w : World) : Chg S w w := Chg.of_below (Below.refl _ _)
theorem Chg.trans {S : Nat → Prop} {a b c : World} (h : Chg S a b) (h2 : Chg S b c) : Chg S a c :=
  ⟨h2.os.trans h.os, h2.tape.trans h.tape, h2.output.trans h.output, Nat.le_trans h.size h2.size, fun k hk hs => (h2.block k (Nat.lt_of_lt_of_le hk h.size) hs).trans (h.block k hk hs)⟩
/-- .. what the second step turned besides was not there at first. -/
theorem Chg.trans2 {S T : Nat → Prop} {a b c : World} (h : Chg S a b) (h2 : Chg T b c) (hT : ∀ k, T k → S k ∨ a.heap.size ≤ k) : Chg S a c :=
  ⟨h2.os.trans h.os, h2.tape.trans h.tape, h2.output.trans h.output, Nat.le_trans h.size h2.size, fun k hk hs =>
    (h2.block k (Nat.lt_of_lt_of_le hk h.size) (fun ht => by rcases hT k ht with h | h; exact hs h; omega)).trans (h.block k hk hs)⟩
theorem Chg.mono {S T : Nat → Prop} {a b : World} (h : Chg S a b) (hT : ∀ k, S k → T k) : Chg T a b := ⟨h.os, h.tape, h.output, h.size, fun k hk hs => h.block k hk (fun hh => hs (hT k hh))⟩
theorem Chg.of_grown {S : Nat → Prop} {w w' : World} {row : Option Nat} (h : w.grownBy w' row) (hr : ∀ g, row = some g → S g) : Chg S w w' :=
  ⟨h.os, h.tape, h.output, h.size, fun k hk hs => h.block k hk (fun e => hs (hr k e.symm))⟩
theorem Chg.setRow {S : Nat → Prop} {a w : World} (h : Chg S a w) {b : Nat} (hb : S b) (C : Array Value) : Chg S a (w.setRow b C) :=
  h.trans ⟨rfl, rfl, rfl, by simp, fun k hk hs => setRow_other _ _ _ _ (fun e => hs (e ▸ hb))⟩
theorem Chg.setCell {S : Nat → Prop} {a w : World} (h : Chg S a w) {p : Addr} (hb : S p.block) (u : Value) : Chg S a (w.setCell p u) :=
  h.trans ⟨rfl, rfl, rfl, by simp [World.setCell], fun k hk hs => Below.heap_setCell w p u k (fun e => hs (e ▸ hb))⟩
theorem chg_cell (w : World) (p j : Nat) (u : Value) : Chg (fun k => k = p) w (w.setCell ⟨p, j, none⟩ u) :=
  ⟨rfl, rfl, rfl, by simp [World.setCell], fun k hk hs => Below.heap_setCell w ⟨p, j, none⟩ u k hs⟩
theorem Chg.below {S : Nat → Prop} {B : Nat} {a w : World} (h : Chg S a w) (hB : B ≤ a.heap.size) (hS : ∀ k, S k → B ≤ k) : Below B a w :=
  ⟨h.os, h.tape, h.output, h.size, fun k hk => h.block k (Nat.lt_of_lt_of_le hk hB) (fun hs => by have := hS k hs; omega)⟩
end Go.Rows2

namespace Go.Proofs.YtbapkamopelgpaaDoor
open Go.RowKit Go.Stop Go.Extern Go.Ranges Go.Rows2
set_option linter.unusedVariables false
set_option linter.unusedSimpArgs false
/-- A slice of bytes that reads as a text; its block is one of those that S lets. -/
def TextIs (w : World) (S : Nat → Prop) (x : Value) (t : List Int) : Prop := ∃ A c, x = .slice A t.length c ∧ Lib.BytesIn w A t.length t ∧ t.length ≤ c ∧ c ≤ maxLen ∧ ∀ a, A = some a → 0 < t.length → a.block < w.heap.size ∧ S a.block
theorem TextIs.chg {w w' : World} {S T : Nat → Prop} {x : Value} {t : List Int} (h : TextIs w S x t) (hc : Chg T w w') (hST : ∀ k, k < w.heap.size → S k → ¬ T k) : TextIs w' S x t := by
  obtain ⟨A, c, rfl, hB, h1, h2, hA⟩ := h
  refine ⟨A, c, rfl, fun hn => ?_, h1, h2, fun a e hp => ⟨Nat.lt_of_lt_of_le (hA a e hp).1 hc.size, (hA a e hp).2⟩⟩
  obtain ⟨b, o, rfl, hcl⟩ := hB hn
  obtain ⟨hlt, hS⟩ := hA _ rfl hn
  exact ⟨b, o, rfl, fun i hi => (World.cell?_of_block (a := ⟨b, o + i, none⟩) (hc.block b hlt (hST b hlt hS))).trans (hcl i hi)⟩
theorem TextIs.mono {w : World} {S T : Nat → Prop} {x : Value} {t : List Int} (h : TextIs w S x t) (hST : ∀ k, k < w.heap.size → S k → T k) : TextIs w T x t := by
  obtain ⟨A, c, rfl, hB, h1, h2, hA⟩ := h
  exact ⟨A, c, rfl, hB, h1, h2, fun a e hp => ⟨(hA a e hp).1, hST _ (hA a e hp).1 (hA a e hp).2⟩⟩
set_option maxRecDepth 20000 in
theorem clone_any (A : Option Addr) (n c : Nat) (xs : List Int) (w : World) (hn : xs.length = n) (hB : Lib.BytesIn w A n xs) (hL : n ≤ 274877906944) (hA : A = none → n = 0) :
    Calls Tryd.prog 51 #[.slice A n c] w fun e w' => ∃ v, e = .returned v ∧ TextIs w' (fun k => w.heap.size ≤ k) v xs ∧ Below w.heap.size w w' := by
  have he : ∀ w, (binOp .eql 22 (.slice A n c) (.slice none 0 0)).run Tryd.prog w = .ok (.bool A.isNone) w := fun w => Lib.run_eql_slice_nil w _ _ A n c 0 0 Tryd.underlying22
  cases A with
  | none =>
    obtain rfl := hA rfl
    obtain rfl := List.eq_nil_of_length_eq_zero hn
    clear hA hB
    go_enter Tryd.func51, Tryd.ntmps51
    go_wp2
    go_ret
    exact ⟨_, rfl, ⟨none, 0, rfl, fun h => absurd h (by decide), Nat.le_refl _, Nat.zero_le _, fun a e _ => by cases e⟩, Below.refl _ _⟩
  | some a =>
    have ho0 : (w.alloc (.cells #[] 5)).ownsRow w.heap.size 5 1 (.slice (some ⟨w.heap.size, 0, none⟩) 0 0) 0 (bV []) :=
      ⟨rfl, .inr ⟨_, 0, #[], rfl, Nat.le_refl _, heap_alloc_last w _, Nat.le_refl _, Nat.zero_le _, rfl, rfl⟩⟩
    have hb0 := alloc_below w (.cells #[] 5)
    obtain ⟨v1, w1, hr1, ho1, hg1⟩ := app_bytes (xs := []) ho0 (some a) n c xs hn (bytesIn_below' hB hb0) hb0.size (by omega)
    rw [Nat.zero_add, List.nil_append] at ho1
    have hb1 : Below w.heap.size w w1 := hb0.grown hg1 hb0.size (fun k hk => (ho0.lt k hk).1)
    obtain ⟨A1, c1, rfl⟩ := own_slice ho1
    have hT : TextIs w1 (fun k => w.heap.size ≤ k) (.slice A1 n c1) xs := by
      refine ⟨A1, c1, by rw [hn], by rw [hn]; exact own_bytes ho1, ?_, ?_, fun a e _ => ?_⟩
      · rcases ho1.2 with ⟨hv, h0⟩ | ⟨g, cap, cur, hv, _, _, h1, h2, _⟩
        · omega
        · injection hv with _ _ h3; subst h3; omega
      · rcases ho1.2 with ⟨hv, h0⟩ | ⟨g, cap, cur, hv, _, _, h1, h2, _⟩
        · injection hv with _ _ h3; subst h3; exact Nat.zero_le _
        · injection hv with _ _ h3; subst h3; exact h2
      · rcases ho1.2 with ⟨hv, h0⟩ | ⟨g, cap, cur, hv, hg, hh, h1, h2, _⟩
        · injection hv with h3; rw [h3] at e; cases e
        · injection hv with h3; rw [h3] at e; cases e
          exact ⟨(Array.getElem?_eq_some_iff.1 hh).1, hg⟩
    have KT := Lib.hid hT
    have KB := Lib.hid hb1
    clear hT hb1 ho1 hg1 ho0 hb0 hB hA
    go_enter Tryd.func51, Tryd.ntmps51
    go_wp2_with (at_builtin; go_loud (refine Lib.wpList_append_run _ rfl (.tmp 5) (.tmp 6) 22 22 rfl _ _ rfl rfl _ _ hr1 ?_))
    go_ret
    exact ⟨_, rfl, KT.out, KB.out⟩
end Go.Proofs.YtbapkamopelgpaaDoor

namespace Go.Proofs.YtbapkamopelgpaaDoor
set_option linter.unusedVariables false
set_option linter.unusedSimpArgs false
/-- A number's bytes, the high one first. -/
def ocNum (m : Nat) (N : Int) : List Int := (List.range m).map fun i => N / 2 ^ (8 * (m - 1 - i)) % 256
def ocUp (m : Nat) (N : Int) (k : Nat) : List Int := (List.range k).map fun i => N / 2 ^ (8 * (m - 1 - i)) % 256
theorem ocUp_succ (N : Int) (m k : Nat) : ocUp m N (k + 1) = ocUp m N k ++ [N / 2 ^ (8 * (m - 1 - k)) % 256] := by
  simp [ocUp, List.range_succ]
theorem ocNum_len (m : Nat) (N : Int) : (ocNum m N).length = m := by simp [ocNum]
theorem ocNum_byte (m : Nat) (N : Int) : ∀ x ∈ ocNum m N, isByte x := fun x hx => by
  obtain ⟨i, _, rfl⟩ := List.mem_map.1 hx
  unfold isByte
  omega
/-- How many bytes a number of a letter has. -/
def ocSize (c : UInt8) : Nat := if c = 98 then 1 else if c = 119 then 4 else if c = 113 then 8 else 0
def ocMost (c : UInt8) : Int := if c = 98 then 255 else if c = 119 then 4294967295 else if c = 113 then 4611686018427387903 else 0
def ocKnown (c : UInt8) : Bool := c == 98 || c == 119 || c == 113 || c == 111 || c == 116
/-- May a field be written by a letter? -/
def ocFit (c : UInt8) (N : Int) (B : List Int) : Bool :=
  if 0 < ocSize c then decide (0 ≤ N) && decide (N ≤ ocMost c) else !(c == 111 && decide (B.length ≠ 32)) && decide (B.length ≤ 65535)
def ocB (c : UInt8) (N : Int) (B : List Int) : List Int :=
  if 0 < ocSize c then ocNum (ocSize c) N else if c = 111 then B else ocNum 2 (B.length : Int) ++ B
theorem ocSize_le (c : UInt8) : ocSize c ≤ 8 := by
  unfold ocSize
  split
  · decide
  · split
    · decide
    · split <;> decide
theorem ocB_len (c : UInt8) (N : Int) (B : List Int) : (ocB c N B).length ≤ B.length + 8 := by
  unfold ocB
  have := ocSize_le c
  split
  · rw [ocNum_len]; omega
  · split
    · omega
    · simp [ocNum_len]; omega
end Go.Proofs.YtbapkamopelgpaaDoor

namespace Go.Proofs.YtbapkamopelgpaaDoor
open Go.RowKit Go.Stop Go.Extern Go.Ranges Go.Rows2
set_option linter.unusedVariables false
set_option linter.unusedSimpArgs false
set_option maxRecDepth 20000 in
theorem grow_nil (N : Nat) (hN : N ≤ 1099511627776) (w : World) :
    Calls Tryd.prog 102 #[.slice none 0 0, .int .i64 N] w fun e w' => ∃ v, e = .returned v ∧ Below w.heap.size w w' ∧ w'.ownsRow w.heap.size 5 1 v 0 [] := by
  obtain ⟨it, j1, j2, j3, j4⟩ := of_row1 row5
  by_cases h0 : N = 0
  · subst h0
    go_enter Tryd.func102, Tryd.ntmps102
    go_wp2
    go_ret
    exact ⟨_, rfl, Below.refl _ _, World.ownsRow_nil _ _ _ _⟩
  · have hp : (0 : Int) < N := by omega
    have hn : ¬ ((N : Int) < 0) := by omega
    have hr := Lib.run_append_nil_zeros (P := Tryd.prog) w 22 3 22 5 it (.int .u8 0) .i64 .i64 Tryd.underlying22 Tryd.underlying3 j1 j2 N (by omega) (by omega) (by omega) (by rw [j4]; omega)
    go_enter Tryd.func102, Tryd.ntmps102
    go_wp2_with (at_builtin; go_loud (refine Lib.wpList_append_run _ rfl (.tmp 20) (.tmp 21) 22 3 rfl _ _ rfl rfl _ _ hr ?_))
    have hge := grownCap_ge w N 0 5
    have hle := grownCap_le_maxLen w N 0 5 (by unfold maxLen; omega)
    go_ret
    refine ⟨_, rfl, ((Below.refl _ w).alloc (Nat.le_refl _) _).drew, by simp, .inr ⟨w.heap.size, _, _, rfl, Nat.le_refl _, heap_alloc_last w _, Nat.zero_le _, hle, ?_, by simp⟩⟩
    simp [size_zeroCells]
    omega
set_option maxRecDepth 20000 in
theorem concat_any (A : Option Addr) (m c : Nat) (f : Nat → List Int) (w : World) (hP : PartsAt w A m f) (hL : (cat f m).length ≤ 549755813888) (hm : m ≤ maxLen) :
    Calls Tryd.prog 90 #[.slice A m c] w fun e w' => ∃ v, e = .returned v ∧ Below w.heap.size w w' ∧ w'.ownsRow w.heap.size 5 1 v (cat f m).length (bV (cat f m)) := by
  have KP := Lib.hid hP
  have hm2 : (m : Int) ≤ 9223372036854775807 := by have := hm; unfold maxLen at this; omega
  have hmono := Lib.hid (fun i (hi : i ≤ m) => cat_mono f hi)
  clear hP hm
  go_enter Tryd.func90, Tryd.ntmps90
  go_wp2_with fail
  go_loopw [11, 3] (fun x y wr => ∃ i : Nat, i ≤ m ∧ x = .int .i64 i ∧ y = .int .i64 ((cat f i).length : Nat) ∧ w = wr) (fun x _ _ => m - (intOf x).toNat)
  case atStart => exact ⟨0, Nat.zero_le _, rfl, rfl, rfl⟩
  case round =>
    obtain ⟨i, hi, rfl, rfl, rfl⟩ := hrel
    by_cases hlt : i < m
    · obtain ⟨b, o, rfl, _, hc⟩ := KP.out (by omega)
      obtain ⟨B, cc, h1, _⟩ := hc i hlt
      clear hc
      have hs := hmono.out (i + 1) hlt
      have hs1 : (cat f (i + 1)).length = (cat f i).length + (f i).length := by simp [cat]
      have hs2 : Hid ((cat f (i + 1)).length = (cat f i).length + (f i).length) := hs1
      have hb1 : ((cat f i).length : Int) + ((f i).length : Int) ≤ 9223372036854775807 := by omega
      have hb2 : ¬ (((cat f i).length : Int) + ((f i).length : Int) < 0) := by omega
      clear hs hs1
      go_wp2_with fail
      go_round
      case rel => exact ⟨i + 1, by omega, by go_num, by rw [hs2.out]; go_num, by first | rfl | trivial⟩
      case measure => simp [intOf]; omega
    · have hie : i = m := by omega
      subst hie
      have hgr := grow_nil (cat f i).length (by omega) w
      have KG := Lib.hid hgr
      clear hgr
      go_wp2_with (go_at_call 102; refine KG.out.mono ?_; rintro e w1 ⟨v1, rfl, hb1, ho1⟩)
      have KB := Lib.hid hb1
      have KO := Lib.hid ho1
      have hsz := hb1.size
      clear hb1 ho1
      go_loopw [27, 6] (fun x y wr => ∃ (j : Nat) (v : Value), j ≤ i ∧ x = .int .i64 j ∧ v = y ∧ Below wr.heap.size wr wr ∧ Below w.heap.size w wr ∧ wr.ownsRow w.heap.size 5 1 v (cat f j).length (bV (cat f j))) (fun x _ _ => i - (intOf x).toNat)
      case atStart => exact ⟨0, _, Nat.zero_le _, rfl, rfl, Below.refl _ _, KB.out, KO.out⟩
      case round =>
        obtain ⟨j, v, hj, rfl, rfl, _, hB, hO⟩ := hrel
        have HB := Lib.hid hB
        have HO := Lib.hid hO
        have hsz3 := hB.size
        clear hB hO
        by_cases hlt : j < i
        · obtain ⟨b, o, rfl, hbl, hc⟩ := KP.out (by omega)
          obtain ⟨B, cc, h1, h2⟩ := hc j hlt
          clear hc
          have h1' : wr.cell? ⟨b, o + j, none⟩ = some (.slice B (f j).length cc) := (HB.out.cell (p := ⟨b, o + j, none⟩) hbl).trans h1
          have hs := hmono.out (j + 1) hlt
          have hs1 : (cat f (j + 1)).length = (cat f j).length + (f j).length := by simp [cat]
          obtain ⟨v', w', hr, ho', hg'⟩ := app_bytes HO.out B (f j).length cc (f j) rfl (bytesIn_below' h2 HB.out) hsz3 (by omega)
          have ho2 : w'.ownsRow w.heap.size 5 1 v' (cat f (j + 1)).length (bV (cat f (j + 1))) := hs1 ▸ ho'
          have K2 := Lib.hid ho2
          have Kg := Lib.hid hg'
          clear ho2 hg' ho' h1 h2 hs hs1
          go_wp2_with (at_builtin; go_loud (refine Lib.wpList_append_run _ rfl (.tmp 31) (.tmp 32) 22 22 rfl _ _ rfl rfl _ _ hr ?_))
          go_round
          case rel => exact ⟨j + 1, _, by omega, by go_num, rfl, Below.refl _ _, HB.out.grown Kg.out hsz3 (fun k hk => (HO.out.lt k hk).1), K2.out⟩
          case measure => simp [intOf]; omega
        · have hje : j = i := by omega
          subst hje
          go_wp2_with fail
          go_ret
          exact ⟨v, rfl, HB.out, HO.out⟩
end Go.Proofs.YtbapkamopelgpaaDoor
