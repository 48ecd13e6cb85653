/- Whatever program: what a list of sentinels that lie as their initialisers laid them gives: each variable's cell, each pointee's row, and that the pointers are different. What the package's errors are in memory, and what errors.Is and Num answer of them. The number of each error. octets: number, wide, the fields' makers. -/
import Derived.Test.YtbapkamopelgpaaDoorFrameBytesC
import Derived.Stop.LaidErr
import Derived.Test.YtbapkamopelgpaaDoorRows
import Derived.WalkKit
import Derived.WalkSpells
import Derived.WalkLawsBesides
import Derived.LaidEql
import Derived.Stop.Asserts
import Derived.Laws.Externs
import Derived.LaidLaws
import Derived.Lib.Hide
import Derived.Deep.Light
import Derived.Deep.LoopGhost
namespace Go.ErrsGen
open Go.RowKit Go.ChangeShapes

def sent {H : Type} (nm : String) (text : List UInt8) : DataW H := .iface nm (.ptr (.agg [.lit (.string text)]))

section
variable {P : Program} {nm : String} {ti tp te ts : TypeId} {ms : Array (String × TypeId)} {f : Field} {W : World}

theorem core (hi : P.underlying ti = some (.interface ms)) (hrow : ∀ u, P.typeName? 3 u = some nm → u = tp)
    (hp : P.underlying tp = some (.pointer te)) (he : P.underlying te = some (.struct #[f])) (hft : f.type = ts) (hfo : f.offset = 0) (hs : P.underlying ts = some .string) (hc : P.cellsOf te = 1) (hcs : P.cellsOf ts = 1) (r : List (String × DataW Unit)) :
    ∀ (l : List (String × List UInt8 × Nat)), (∀ x ∈ l, P.globalNamed x.1 = some x.2.2 ∧ (P.globals[x.2.2]?).map (·.type) = some ti) →
    ∀ ps, DataW.LaidVars P W (l.map (fun x => (x.1, sent nm x.2.1)) ++ r) ps →
      (∀ b off, MemPlace.cell b off ∈ ps → (∃ c t, W.heap[b]? = some (.cells c t (0, 0))) ∧ ∀ u v, W.cell? ⟨b, off, none⟩ = some (.iface u v) → Value.okWide P W .any 0 u v) →
      ∃ (aas : List Addr) (q : List MemPlace), aas.length = l.length ∧ DataW.LaidVars P W r q ∧ (aas.map (fun a => MemPlace.cell a.block a.off) ++ q).Sublist ps ∧
        (∀ (i : Nat) (x : String × List UInt8 × Nat) (a : Addr), l[i]? = some x → aas[i]? = some a → W.cell? ⟨x.2.2, 0, none⟩ = some (.iface tp (.pointer (some a))) ∧ a.spot = none ∧ ∃ c t, W.heap[a.block]? = some (.cells c t (0, 0)))
  | [], _, ps, h, _ => ⟨[], ps, rfl, h, by simp, fun i x a hx => by simp at hx⟩
  | x :: l, hg, ps, h, hrows => by
    obtain ⟨g0, t0, cs0, f0, p0, q0, hg0, ht0, hv0, hd0, htail, e0⟩ := h
    obtain ⟨hgx, htx⟩ := hg x (by simp)
    obtain rfl := Option.some.inj (hgx.symm.trans hg0)
    obtain rfl := Option.some.inj (htx.symm.trans ht0)
    subst e0
    obtain ⟨l0⟩ := cs0
    have hcell := World.var?_cell hg0 hv0 0
    have ok0 : ∀ u v, l0 = [.iface u v] → Value.okWide P W .any 0 u v := fun u v e => by
      subst e
      exact (hrows x.2.2 0 (by simp [MemPlace.row])).2 u v (by simpa using hcell)
    obtain ⟨a0, s0, rfl, hc0, _, _, rfl⟩ := errorString_of_trod hi hrow hp he hft hfo hs hc hcs hd0 ok0
    obtain ⟨aas, q, hlen, hq, hsub, hat⟩ := core hi hrow hp he hft hfo hs hc hcs r l (fun y hy => hg y (by simp [hy])) q0 htail (fun b off hm => hrows b off (by simp [hm]))
    have hspot : a0.spot = none := by
      unfold World.cell? at hc0
      split at hc0
      · split at hc0
        · cases hc0
        · rename_i hn; simpa using hn
      · cases hc0
    refine ⟨a0 :: aas, q, by simp [hlen], hq, ?_, ?_⟩
    · have e1 : MemPlace.row a0 1 = [MemPlace.cell a0.block a0.off] := by simp [MemPlace.row]
      rw [e1, List.map_cons, List.cons_append, List.append_assoc]
      exact List.Sublist.trans (List.Sublist.cons_cons _ hsub) (List.sublist_append_right _ _)
    · intro i y a hy ha
      cases i with
      | zero =>
        simp only [List.getElem?_cons_zero, Option.some.injEq] at hy ha
        subst hy; subst ha
        refine ⟨by simpa using hcell, hspot, ?_⟩
        exact (hrows a0.block a0.off (by simp [MemPlace.row])).1
      | succ i =>
        simp only [List.getElem?_cons_succ] at hy ha
        exact hat i y a hy ha

theorem sentinels (hi : P.underlying ti = some (.interface ms)) (hrow : ∀ u, P.typeName? 3 u = some nm → u = tp)
    (hp : P.underlying tp = some (.pointer te)) (he : P.underlying te = some (.struct #[f])) (hft : f.type = ts) (hfo : f.offset = 0) (hs : P.underlying ts = some .string) (hc : P.cellsOf te = 1) (hcs : P.cellsOf ts = 1)
    (l : List (String × List UInt8 × Nat)) (hg : ∀ x ∈ l, P.globalNamed x.1 = some x.2.2 ∧ (P.globals[x.2.2]?).map (·.type) = some ti) (r : List (String × DataW Unit)) (h : laidMet P (l.map (fun x => (x.1, sent nm x.2.1)) ++ r) W) :
    ∃ aas : List Addr, aas.length = l.length ∧ laidMet P r W ∧ (∀ (i j : Nat) (a : Addr), aas[i]? = some a → aas[j]? = some a → i = j) ∧
      (∀ (i : Nat) (x : String × List UInt8 × Nat) (a : Addr), l[i]? = some x → aas[i]? = some a → W.cell? ⟨x.2.2, 0, none⟩ = some (.iface tp (.pointer (some a))) ∧ a.spot = none ∧ ∃ c t, W.heap[a.block]? = some (.cells c t (0, 0))) := by
  obtain ⟨ps, hv, hnd, hrows⟩ := h
  obtain ⟨aas, q, hlen, hq, hsub, hat⟩ := core hi hrow hp he hft hfo hs hc hcs r l hg ps hv hrows
  have hnd2 := List.Nodup.sublist hsub hnd
  have hmem : ∀ z ∈ q, z ∈ ps := fun z hz => hsub.subset (by simp [hz])
  refine ⟨aas, hlen, ⟨q, hq, (List.nodup_append.1 hnd2).2.1, fun b off hm => hrows b off (hmem _ hm)⟩, ?_, hat⟩
  have h3 := (List.nodup_append.1 hnd2).1
  intro i j a hi hj
  have h4 : (aas.map (fun a => MemPlace.cell a.block a.off))[i]? = (aas.map (fun a => MemPlace.cell a.block a.off))[j]? := by simp [hi, hj]
  have hil : i < (aas.map (fun a => MemPlace.cell a.block a.off)).length := by
    have := (List.getElem?_eq_some_iff.1 hi).1
    simpa using this
  exact (List.getElem?_inj hil h3).1 h4
end
end Go.ErrsGen

namespace Go.Proofs.YtbapkamopelgpaaDoor
open Go.RowKit Go.Stop Go.Extern
set_option linter.unusedVariables false
set_option linter.unusedSimpArgs false

/-- The package variable of the error with a number. -/
def gErr : Nat → Nat
  | 1 => 1 | 2 => 2 | 3 => 3 | 4 => 4 | 5 => 5 | 6 => 6
  | 7 => 7 | 8 => 8 | 9 => 9 | 10 => 10 | 11 => 11 | 12 => 12
  | 13 => 13 | 14 => 14 | 15 => 15 | 16 => 16 | 17 => 17 | 18 => 18
  | 19 => 19 | 20 => 20 | 21 => 21 | 22 => 22 | _ => 0
/-- The error with a number; 0: none. -/
def errV (a : Nat → Addr) (n : Nat) : Value := if n = 0 then .nilIface else .iface 198 (.pointer (some (a n)))
/-- The errors lie as the initialisers laid them. -/
structure Errs (W : World) (a : Nat → Addr) : Prop where
  cell : ∀ n, 1 ≤ n → n ≤ 22 → W.cell? ⟨gErr n, 0, none⟩ = some (errV a n)
  row : ∀ n, 1 ≤ n → n ≤ 22 → ∃ c t, W.heap[(a n).block]? = some (.cells c t (0, 0))
  ne : ∀ n m, 1 ≤ n → n ≤ 22 → 1 ≤ m → m ≤ 22 → a n = a m → n = m
theorem Errs.below {W W' : World} {a : Nat → Addr} (h : Errs W a) (hb : Below W.heap.size W W') : Errs W' a := by
  refine ⟨fun n h1 h2 => ?_, fun n h1 h2 => ?_, h.ne⟩
  · exact (hb.cell (World.block_lt_of_cell? W _ (h.cell n h1 h2))).trans (h.cell n h1 h2)
  · obtain ⟨c, t, hr⟩ := h.row n h1 h2
    refine ⟨c, t, (hb.block _ ?_).trans hr⟩
    rcases Nat.lt_or_ge (a n).block W.heap.size with h' | h'
    · exact h'
    · simp [Array.getElem?_eq_none h'] at hr
/-- The cell of an error that is used, said outright. -/
theorem Errs.at {W : World} {a : Nat → Addr} (h : Errs W a) (n : Nat) (h1 : 1 ≤ n) (h2 : n ≤ 22) : W.cell? ⟨gErr n, 0, none⟩ = some (.iface 198 (.pointer (some (a n)))) := by
  have := h.cell n h1 h2
  unfold errV at this
  rwa [if_neg (by omega)] at this

/-! ### errors.Is -/
theorem callTypeOf (v : Value) (w : World) : (callFunc 73 #[.iface 198 v]).run Tryd.prog w = .ok (.value (.iface 133 (.agg #[.pointer (some ⟨31, 198, none⟩)]))) w := by
  rw [run_callFunc_extern (e := Extern.ReflectliteType.typeOf) Tryd.func73 (by kernel_rfl) (by kernel_rfl) (by kernel_rfl) (by kernel_rfl)]
  have h : (Extern.ReflectliteType.typeOf #[.iface 198 v]).run Tryd.prog w = .ok (.iface 133 (.agg #[.pointer (some ⟨31, 198, none⟩)])) w := by kernel_rfl
  rw [h]; rfl
theorem callComparable (w : World) : (callFunc 157 #[.agg #[.pointer (some ⟨31, 198, none⟩)]]).run Tryd.prog w = .ok (.value (.bool true)) w := by
  rw [run_callFunc_extern (e := Extern.ReflectliteType.method fun t => do Extern.Rtype.noPackHeld "Comparable" t; pure (.bool (← typeInfo t).comparable)) Tryd.func157 (by kernel_rfl) (by kernel_rfl) (by kernel_rfl) (by kernel_rfl)]
  have h : ((Extern.ReflectliteType.method fun t => do Extern.Rtype.noPackHeld "Comparable" t; pure (.bool (← typeInfo t).comparable)) #[.agg #[.pointer (some ⟨31, 198, none⟩)]]).run Tryd.prog w = .ok (.bool true) w := by kernel_rfl
  rw [h]; rfl
theorem methodComparable (v : Value) (w : World) : (Go.method 335 133 v "Comparable").run Tryd.prog w = .ok (157, v) w := by kernel_rfl
theorem isComp : (Tryd.prog.info? 198).map (·.comparable) = some true := by kernel_rfl
theorem isSize : (Tryd.prog.info? 223).map (·.size) = some 1 := by kernel_rfl
theorem noIsE (v : Value) (xT : TypeId) (w : World) : (Instr.typeAssert (.iface 198 v) xT 135 true).run Tryd.prog w = .ok (.tuple #[.nilIface, .bool false]) w := run_typeAssert_lacksB Tryd.underlying135 (by kernel_rfl) (by kernel_rfl) v xT w
theorem noUnwrapE (v : Value) (xT : TypeId) (w : World) : (Instr.typeAssert (.iface 198 v) xT 138 true).run Tryd.prog w = .ok (.tuple #[.nilIface, .bool false]) w := run_typeAssert_lacksB Tryd.underlying138 (by kernel_rfl) (by kernel_rfl) v xT w
theorem noUnwrapsE (v : Value) (xT : TypeId) (w : World) : (Instr.typeAssert (.iface 198 v) xT 139 true).run Tryd.prog w = .ok (.tuple #[.nilIface, .bool false]) w := run_typeAssert_lacksB Tryd.underlying139 (by kernel_rfl) (by kernel_rfl) v xT w
set_option maxRecDepth 100000 in
theorem is_same (a : Addr) (w : World) :
    Calls Tryd.prog 49 #[.iface 198 (.pointer (some a)), .iface 198 (.pointer (some a))] w fun e w' => e = .returned (.bool true) ∧ w = w' := by
  obtain ⟨i, hi, hcmp⟩ := Option.map_eq_some_iff.1 isComp
  obtain ⟨j, hj, hjs⟩ := Option.map_eq_some_iff.1 isSize
  have tT := callTypeOf
  have cT := callComparable
  have mR := methodComparable
  have heq := run_eql_iface_ptr_same (P := Tryd.prog) w a Tryd.underlying35 Tryd.underlying198 hi hcmp hj
  go_enter Tryd.func49, Tryd.ntmps49
  go_wp2
  refine wp_loop_rounds 1 ?_
  rw [rounds_succ]
  go_wp2
  go_ret
  exact ⟨rfl, rfl⟩
set_option maxRecDepth 100000 in
theorem is_other (a b : Addr) (ca cb : Array Value) (ta tb : TypeId) (w : World) (hne : a ≠ b) (ha : w.heap[a.block]? = some (.cells ca ta (0, 0))) (hb : w.heap[b.block]? = some (.cells cb tb (0, 0))) :
    Calls Tryd.prog 49 #[.iface 198 (.pointer (some a)), .iface 198 (.pointer (some b))] w fun e w' => e = .returned (.bool false) ∧ w = w' := by
  obtain ⟨i, hi, hcmp⟩ := Option.map_eq_some_iff.1 isComp
  obtain ⟨j, hj, hjs⟩ := Option.map_eq_some_iff.1 isSize
  have tT := callTypeOf
  have cT := callComparable
  have mR := methodComparable
  have nE := noIsE
  have uE := noUnwrapE
  have vE := noUnwrapsE
  have heq := run_eql_iface_ptr_other (P := Tryd.prog) w Tryd.underlying35 Tryd.underlying198 hi hcmp hj (by rw [hjs]; decide) hne ha hb
  go_enter Tryd.func49, Tryd.ntmps49
  go_wp2
  refine wp_loop_rounds 1 ?_
  rw [rounds_succ]
  go_wp2
  go_ret
  exact ⟨rfl, rfl⟩
end Go.Proofs.YtbapkamopelgpaaDoor

namespace Go.Proofs.YtbapkamopelgpaaDoor
open Go.RowKit Go.Stop Go.Extern
set_option linter.unusedVariables false
set_option linter.unusedSimpArgs false
def ep (a : Nat → Addr) (n : Nat) : Value := .iface 198 (.pointer (some (a n)))
def listErr (a : Nat → Addr) : Array Value := #[.iface 198 (.pointer (some (a 1))), .iface 198 (.pointer (some (a 2))), .iface 198 (.pointer (some (a 3))), .iface 198 (.pointer (some (a 4))), .iface 198 (.pointer (some (a 5))), .iface 198 (.pointer (some (a 6))), .iface 198 (.pointer (some (a 7))), .iface 198 (.pointer (some (a 8))), .iface 198 (.pointer (some (a 9))), .iface 198 (.pointer (some (a 10))), .iface 198 (.pointer (some (a 11))), .iface 198 (.pointer (some (a 12))), .iface 198 (.pointer (some (a 13))), .iface 198 (.pointer (some (a 14))), .iface 198 (.pointer (some (a 15))), .iface 198 (.pointer (some (a 16))), .iface 198 (.pointer (some (a 17))), .iface 198 (.pointer (some (a 18))), .iface 198 (.pointer (some (a 19))), .iface 198 (.pointer (some (a 20))), .iface 198 (.pointer (some (a 21))), .iface 198 (.pointer (some (a 22)))]
theorem listErr_at (a : Nat → Addr) (k : Nat) (hk : k < 22) : (listErr a)[k]? = some (.iface 198 (.pointer (some (a (k + 1))))) :=
  match k, hk with
  | 0, _ => rfl | 1, _ => rfl | 2, _ => rfl | 3, _ => rfl | 4, _ => rfl | 5, _ => rfl | 6, _ => rfl | 7, _ => rfl | 8, _ => rfl | 9, _ => rfl | 10, _ => rfl
  | 11, _ => rfl | 12, _ => rfl | 13, _ => rfl | 14, _ => rfl | 15, _ => rfl | 16, _ => rfl | 17, _ => rfl | 18, _ => rfl | 19, _ => rfl | 20, _ => rfl | 21, _ => rfl
  | n + 22, h => absurd h (by omega)

theorem num_nil (w : World) : Calls Tryd.prog 20 #[.nilIface] w fun e w' => e = .returned (.int .i64 0) ∧ w = w' := by
  go_enter Tryd.func20, Tryd.ntmps20
  go_wp2
  go_ret
  exact ⟨rfl, rfl⟩
set_option maxRecDepth 100000 in
theorem num_some (a : Nat → Addr) (n : Nat) (h1 : 1 ≤ n) (h2 : n ≤ 22) (w : World) (H : Errs w a) :
    Calls Tryd.prog 20 #[.iface 198 (.pointer (some (a n)))] w fun e w' => e = .returned (.int .i64 n) ∧ Below w.heap.size w w' := by
  have e1 : w.cell? ⟨1, 0, none⟩ = _ := H.at 1 (by decide) (by decide)
  have e2 : w.cell? ⟨2, 0, none⟩ = _ := H.at 2 (by decide) (by decide)
  have e3 : w.cell? ⟨3, 0, none⟩ = _ := H.at 3 (by decide) (by decide)
  have e4 : w.cell? ⟨4, 0, none⟩ = _ := H.at 4 (by decide) (by decide)
  have e5 : w.cell? ⟨5, 0, none⟩ = _ := H.at 5 (by decide) (by decide)
  have e6 : w.cell? ⟨6, 0, none⟩ = _ := H.at 6 (by decide) (by decide)
  have e7 : w.cell? ⟨7, 0, none⟩ = _ := H.at 7 (by decide) (by decide)
  have e8 : w.cell? ⟨8, 0, none⟩ = _ := H.at 8 (by decide) (by decide)
  have e9 : w.cell? ⟨9, 0, none⟩ = _ := H.at 9 (by decide) (by decide)
  have e10 : w.cell? ⟨10, 0, none⟩ = _ := H.at 10 (by decide) (by decide)
  have e11 : w.cell? ⟨11, 0, none⟩ = _ := H.at 11 (by decide) (by decide)
  have e12 : w.cell? ⟨12, 0, none⟩ = _ := H.at 12 (by decide) (by decide)
  have e13 : w.cell? ⟨13, 0, none⟩ = _ := H.at 13 (by decide) (by decide)
  have e14 : w.cell? ⟨14, 0, none⟩ = _ := H.at 14 (by decide) (by decide)
  have e15 : w.cell? ⟨15, 0, none⟩ = _ := H.at 15 (by decide) (by decide)
  have e16 : w.cell? ⟨16, 0, none⟩ = _ := H.at 16 (by decide) (by decide)
  have e17 : w.cell? ⟨17, 0, none⟩ = _ := H.at 17 (by decide) (by decide)
  have e18 : w.cell? ⟨18, 0, none⟩ = _ := H.at 18 (by decide) (by decide)
  have e19 : w.cell? ⟨19, 0, none⟩ = _ := H.at 19 (by decide) (by decide)
  have e20 : w.cell? ⟨20, 0, none⟩ = _ := H.at 20 (by decide) (by decide)
  have e21 : w.cell? ⟨21, 0, none⟩ = _ := H.at 21 (by decide) (by decide)
  have e22 : w.cell? ⟨22, 0, none⟩ = _ := H.at 22 (by decide) (by decide)
  go_enter Tryd.func20, Tryd.ntmps20
  go_wp2_with fail
  clear e1 e2 e3 e4 e5 e6 e7 e8 e9 e10 e11 e12 e13 e14 e15 e16 e17 e18 e19 e20 e21 e22
  have hcell : ∀ k, k < 22 → (w.alloc (.cells (listErr a) 35)).cell? ⟨w.heap.size, k, none⟩ = some (.iface 198 (.pointer (some (a (k + 1))))) := fun k hk => by
    rw [cell_of_row _ _ _ (listErr a) 35 (0, 0) (heap_alloc_new w _)]
    exact listErr_at a k hk
  have hb : Below w.heap.size w (w.alloc (.cells (listErr a) 35)) := (Below.refl _ _).alloc (Nat.le_refl _) _
  have H1 := H.below hb
  unfold listErr at hcell hb H1
  generalize w.alloc _ = W1 at *
  go_loop [33] (fun s => ∃ k : Nat, k < n ∧ s = .int .i64 k) (fun s => 22 - (intOf s).toNat)
  case atStart => exact ⟨0, by omega, rfl⟩
  case round =>
    obtain ⟨k, hk, rfl⟩ := hrel
    have hc := hcell k (by omega)
    have hlt : k < 22 := by omega
    clear hcell
    by_cases hkn : k + 1 = n
    · subst hkn
      go_wp2_with (go_at_call 49; refine (is_same _ _).mono ?_; rintro e w' ⟨rfl, rfl⟩)
      go_ret
      exact ⟨rfl, hb⟩
    · obtain ⟨c1, t1, r1⟩ := H1.row n h1 h2
      obtain ⟨c2, t2, r2⟩ := H1.row (k + 1) (by omega) (by omega)
      have hne : a n ≠ a (k + 1) := fun e => hkn (H1.ne n (k + 1) h1 h2 (by omega) (by omega) e).symm
      go_wp2_with (go_at_call 49; refine (is_other _ _ c1 c2 t1 t2 _ hne r1 r2).mono ?_; rintro e w' ⟨rfl, rfl⟩)
      go_round
      case rel => exact ⟨k + 1, by omega, by go_num⟩
      case measure => simp [intOf]; omega
theorem num_any (a : Nat → Addr) (n : Nat) (h2 : n ≤ 22) (w : World) (H : Errs w a) :
    Calls Tryd.prog 20 #[errV a n] w fun e w' => e = .returned (.int .i64 n) ∧ Below w.heap.size w w' := by
  unfold errV
  by_cases h : n = 0
  · subst h
    rw [if_pos rfl]
    exact (num_nil w).mono fun e w' ⟨h1, h2⟩ => ⟨h1, h2 ▸ Below.refl _ _⟩
  · rw [if_neg h]
    exact num_some a n (by omega) h2 w H
end Go.Proofs.YtbapkamopelgpaaDoor

namespace Go.Proofs.YtbapkamopelgpaaDoor
open Go.RowKit Go.Stop Go.Extern Go.Ranges Go.Rows2
set_option linter.unusedVariables false
set_option linter.unusedSimpArgs false
/-- The variable of an error that is used. -/
def ErrC (w : World) (a : Nat → Addr) (n : Nat) : Prop := w.cell? ⟨gErr n, 0, none⟩ = some (.iface 198 (.pointer (some (a n))))
theorem ErrC.below {w w' : World} {a : Nat → Addr} {n : Nat} (h : ErrC w a n) (hb : Below w.heap.size w w') : ErrC w' a n := (hb.cell (World.block_lt_of_cell? w _ h)).trans h
theorem Errs.c {w : World} {a : Nat → Addr} (h : Errs w a) (n : Nat) (h1 : 1 ≤ n) (h2 : n ≤ 22) : ErrC w a n := h.at n h1 h2
theorem oc_new (w : World) (v : Value) (t : TypeId) : ∀ j u, [v][j]? = some u → (w.alloc (.cells #[v] t)).cell? ((⟨w.heap.size, 0, none⟩ : Addr).add j) = some u :=
  World.news_of_block (heap_alloc_last w (.cells #[v] t))
theorem oc_one (x : Int) {k : IntKind} : ∀ u ∈ [Value.int k x], u.oneCell' = true := fun u hu => by
  rw [List.mem_singleton] at hu
  subst hu; rfl
set_option maxRecDepth 4000 in
theorem ocNumber_any (N : Int) (m : Nat) (hm : m ≤ 8) (hN : 0 ≤ N) (w : World) :
    Calls Tryd.prog 95 #[.int .i64 N, .int .i64 m] w fun e w' => ∃ v, e = .returned v ∧ Below w.heap.size w w' ∧ w'.ownsRow w.heap.size 5 1 v m (bV (ocNum m N)) := by
  obtain ⟨it, j1, j2, j3, j4⟩ := of_row1 row5
  go_enter Tryd.func95, Tryd.ntmps95
  go_wp2
  go_loopw [6, 5] (fun x y wr => ∃ (k : Nat) (v : Value), k ≤ m ∧ x = .int .i64 ((m : Int) - 1 - k) ∧ v = y ∧ Below w.heap.size w wr ∧ wr.ownsRow w.heap.size 5 1 v k (bV (ocUp m N k))) (fun x _ _ => (intOf x + 1).toNat)
  case atStart => exact ⟨0, _, Nat.zero_le _, by go_num, rfl, Below.refl _ _, World.ownsRow_nil _ _ _ _⟩
  case round =>
    obtain ⟨k, v, hk, rfl, rfl, hB, hO⟩ := hrel
    have KB := Lib.hid hB
    have KO := Lib.hid hO
    have hsz := hB.size
    clear hB hO
    by_cases hlt : k < m
    · have hge : (0 : Int) ≤ (m : Int) - 1 - k := by omega
      go_wp2_with (at_builtin; go_loud (refine wpList_append_lies _ rfl (.tmp 13) (.tmp 19) 22 rfl w.heap.size 5 it (.int .u8 0) 1 1 Tryd.underlying22 j1 j2 j3 j4 rfl (by decide) v k (bV (ocUp m N k)) rfl (KO.out.alloc _) ⟨wr.heap.size, 0, none⟩ 1 1 [.int .u8 (N / 2 ^ (8 * (m - 1 - k)) % 256)] rfl rfl (oc_new _ _ _) (oc_one _) (by decide) (by unfold maxLen; omega) (by omega) (by simp; omega) _ rfl ?_); intro gn cn w1 hown hgrow hat hltn)
      go_round
      case rel =>
        refine ⟨k + 1, _, by omega, by go_num, rfl, (KB.out.alloc (by omega) _).grown hgrow (by simp; omega) (fun j hj => (KO.out.lt j hj).1), ?_⟩
        rw [ocUp_succ, bV, List.map_append]
        exact hown
      case measure => simp [intOf]; omega
    · have hke : k = m := by omega
      subst hke
      have hge : ¬ (0 : Int) ≤ (k : Int) - 1 - k := by omega
      go_wp2
      go_ret
      exact ⟨v, rfl, KB.out, KO.out⟩
theorem ocWide_any (c : UInt8) (w : World) : Calls Tryd.prog 94 #[.int .u8 c.toNat] w fun e w' => e = .returned (.tuple #[.int .i64 (ocSize c), .int .i64 (ocMost c)]) ∧ w = w' := by
  have hc : c = 98 ∨ c = 119 ∨ c = 113 ∨ (¬ c = 98 ∧ ¬ c = 119 ∧ ¬ c = 113) := by
    by_cases h1 : c = 98
    · exact .inl h1
    · by_cases h2 : c = 119
      · exact .inr (.inl h2)
      · by_cases h3 : c = 113
        · exact .inr (.inr (.inl h3))
        · exact .inr (.inr (.inr ⟨h1, h2, h3⟩))
  rcases hc with rfl | rfl | rfl | ⟨h1, h2, h3⟩
  · go_enter Tryd.func94, Tryd.ntmps94
    go_wp2
    go_ret2
    exact ⟨rfl, rfl⟩
  · go_enter Tryd.func94, Tryd.ntmps94
    go_wp2
    go_ret2
    exact ⟨rfl, rfl⟩
  · go_enter Tryd.func94, Tryd.ntmps94
    go_wp2
    go_ret2
    exact ⟨rfl, rfl⟩
  · have e1 : ocSize c = 0 := by unfold ocSize; rw [if_neg h1, if_neg h2, if_neg h3]
    have e2 : ocMost c = 0 := by unfold ocMost; rw [if_neg h1, if_neg h2, if_neg h3]
    have n1 : ¬ ((c.toNat : Int) = 98) := fun h => h1 (UInt8.toNat_inj.1 (by show c.toNat = 98; omega))
    have n2 : ¬ ((c.toNat : Int) = 119) := fun h => h2 (UInt8.toNat_inj.1 (by show c.toNat = 119; omega))
    have n3 : ¬ ((c.toNat : Int) = 113) := fun h => h3 (UInt8.toNat_inj.1 (by show c.toNat = 113; omega))
    rw [e1, e2]
    go_enter Tryd.func94, Tryd.ntmps94
    go_wp2
    go_ret2
    exact ⟨rfl, rfl⟩
end Go.Proofs.YtbapkamopelgpaaDoor
