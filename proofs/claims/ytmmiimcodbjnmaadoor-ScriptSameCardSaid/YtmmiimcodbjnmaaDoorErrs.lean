/- What the package's errors are in memory, and what errors.Is and Num answer of them. -/
import Derived.Test.YtmmiimcodbjnmaaDoorRows
import Derived.Test.YtmmiimcodbjnmaaDoorErrsGen
import Derived.WalkKit
import Derived.WalkSpells
import Derived.WalkLawsBesides
import Derived.LaidEql
import Derived.Stop.Asserts
import Derived.Laws.Externs
import Derived.LaidLaws
import Derived.Lib.Hide
import Derived.Deep.Light
namespace Go.Proofs.YtmmiimcodbjnmaaDoor
open Go.RowKit Go.Stop Go.Extern
set_option linter.unusedVariables false
set_option linter.unusedSimpArgs false

/-- The package variable of the error with a number. -/
def gErr : Nat → Nat
  | 1 => 3 | 2 => 5 | 3 => 4 | 4 => 6 | 5 => 7 | 6 => 8
  | 7 => 2 | 8 => 9 | 9 => 10 | 10 => 11 | 11 => 12 | 12 => 13
  | 13 => 14 | 14 => 15 | 15 => 16 | 16 => 17 | 17 => 18 | 18 => 19
  | 19 => 20 | 20 => 21 | 21 => 22 | 22 => 23 | _ => 0
/-- The error with a number; 0: none. -/
def errV (a : Nat → Addr) (n : Nat) : Value := if n = 0 then .nilIface else .iface 199 (.pointer (some (a n)))
/-- The errors lie as the initialisers laid them. -/
structure Errs (W : World) (a : Nat → Addr) : Prop where
  cell : ∀ n, 1 ≤ n → n ≤ 22 → W.cell? ⟨gErr n, 0, none⟩ = some (errV a n)
  row : ∀ n, 1 ≤ n → n ≤ 22 → ∃ c t, W.heap[(a n).block]? = some (.cells c t (0, 0))
  ne : ∀ n m, 1 ≤ n → n ≤ 22 → 1 ≤ m → m ≤ 22 → a n = a m → n = m
theorem Errs.below {W W' : World} {a : Nat → Addr} (h : Errs W a) (hb : Below W.heap.size W W') : Errs W' a := by
  refine ⟨fun n h1 h2 => ?_, fun n h1 h2 => ?_, h.ne⟩
  · exact (hb.cell (World.block_lt_of_cell? W _ (h.cell n h1 h2))).trans (h.cell n h1 h2)
  · obtain ⟨c, t, hr⟩ := h.row n h1 h2
    refine ⟨c, t, (hb.block _ ?_).trans hr⟩
    rcases Nat.lt_or_ge (a n).block W.heap.size with h' | h'
    · exact h'
    · simp [Array.getElem?_eq_none h'] at hr
/-- The cell of an error that is used, said outright. -/
theorem Errs.at {W : World} {a : Nat → Addr} (h : Errs W a) (n : Nat) (h1 : 1 ≤ n) (h2 : n ≤ 22) : W.cell? ⟨gErr n, 0, none⟩ = some (.iface 199 (.pointer (some (a n)))) := by
  have := h.cell n h1 h2
  unfold errV at this
  rwa [if_neg (by omega)] at this

/-! ### errors.Is -/
theorem callTypeOf (v : Value) (w : World) : (callFunc 82 #[.iface 199 v]).run Tryd.prog w = .ok (.value (.iface 159 (.agg #[.pointer (some ⟨30, 199, none⟩)]))) w := by
  rw [run_callFunc_extern (e := Extern.ReflectliteType.typeOf) Tryd.func82 (by kernel_rfl) (by kernel_rfl) (by kernel_rfl) (by kernel_rfl)]
  have h : (Extern.ReflectliteType.typeOf #[.iface 199 v]).run Tryd.prog w = .ok (.iface 159 (.agg #[.pointer (some ⟨30, 199, none⟩)])) w := by kernel_rfl
  rw [h]; rfl
theorem callComparable (w : World) : (callFunc 154 #[.agg #[.pointer (some ⟨30, 199, none⟩)]]).run Tryd.prog w = .ok (.value (.bool true)) w := by
  rw [run_callFunc_extern (e := Extern.ReflectliteType.method fun t => do Extern.Rtype.noPackHeld "Comparable" t; pure (.bool (← typeInfo t).comparable)) Tryd.func154 (by kernel_rfl) (by kernel_rfl) (by kernel_rfl) (by kernel_rfl)]
  have h : ((Extern.ReflectliteType.method fun t => do Extern.Rtype.noPackHeld "Comparable" t; pure (.bool (← typeInfo t).comparable)) #[.agg #[.pointer (some ⟨30, 199, none⟩)]]).run Tryd.prog w = .ok (.bool true) w := by kernel_rfl
  rw [h]; rfl
theorem methodComparable (v : Value) (w : World) : (Go.method 332 159 v "Comparable").run Tryd.prog w = .ok (154, v) w := by kernel_rfl
theorem isComp : (Tryd.prog.info? 199).map (·.comparable) = some true := by kernel_rfl
theorem isSize : (Tryd.prog.info? 221).map (·.size) = some 1 := by kernel_rfl
theorem noIsE (v : Value) (xT : TypeId) (w : World) : (Instr.typeAssert (.iface 199 v) xT 161 true).run Tryd.prog w = .ok (.tuple #[.nilIface, .bool false]) w := run_typeAssert_lacksB Tryd.underlying161 (by kernel_rfl) (by kernel_rfl) v xT w
theorem noUnwrapE (v : Value) (xT : TypeId) (w : World) : (Instr.typeAssert (.iface 199 v) xT 164 true).run Tryd.prog w = .ok (.tuple #[.nilIface, .bool false]) w := run_typeAssert_lacksB Tryd.underlying164 (by kernel_rfl) (by kernel_rfl) v xT w
theorem noUnwrapsE (v : Value) (xT : TypeId) (w : World) : (Instr.typeAssert (.iface 199 v) xT 166 true).run Tryd.prog w = .ok (.tuple #[.nilIface, .bool false]) w := run_typeAssert_lacksB Tryd.underlying166 (by kernel_rfl) (by kernel_rfl) v xT w
set_option maxRecDepth 100000 in
theorem is_same (a : Addr) (w : World) :
    Calls Tryd.prog 61 #[.iface 199 (.pointer (some a)), .iface 199 (.pointer (some a))] w fun e w' => e = .returned (.bool true) ∧ w = w' := by
  obtain ⟨i, hi, hcmp⟩ := Option.map_eq_some_iff.1 isComp
  obtain ⟨j, hj, hjs⟩ := Option.map_eq_some_iff.1 isSize
  have tT := callTypeOf
  have cT := callComparable
  have mR := methodComparable
  have heq := run_eql_iface_ptr_same (P := Tryd.prog) w a Tryd.underlying44 Tryd.underlying199 hi hcmp hj
  go_enter Tryd.func61, Tryd.ntmps61
  go_wp2
  refine wp_loop_rounds 1 ?_
  rw [rounds_succ]
  go_wp2
  go_ret
  exact ⟨rfl, rfl⟩
set_option maxRecDepth 100000 in
theorem is_other (a b : Addr) (ca cb : Array Value) (ta tb : TypeId) (w : World) (hne : a ≠ b) (ha : w.heap[a.block]? = some (.cells ca ta (0, 0))) (hb : w.heap[b.block]? = some (.cells cb tb (0, 0))) :
    Calls Tryd.prog 61 #[.iface 199 (.pointer (some a)), .iface 199 (.pointer (some b))] w fun e w' => e = .returned (.bool false) ∧ w = w' := by
  obtain ⟨i, hi, hcmp⟩ := Option.map_eq_some_iff.1 isComp
  obtain ⟨j, hj, hjs⟩ := Option.map_eq_some_iff.1 isSize
  have tT := callTypeOf
  have cT := callComparable
  have mR := methodComparable
  have nE := noIsE
  have uE := noUnwrapE
  have vE := noUnwrapsE
  have heq := run_eql_iface_ptr_other (P := Tryd.prog) w Tryd.underlying44 Tryd.underlying199 hi hcmp hj (by rw [hjs]; decide) hne ha hb
  go_enter Tryd.func61, Tryd.ntmps61
  go_wp2
  refine wp_loop_rounds 1 ?_
  rw [rounds_succ]
  go_wp2
  go_ret
  exact ⟨rfl, rfl⟩
end Go.Proofs.YtmmiimcodbjnmaaDoor
