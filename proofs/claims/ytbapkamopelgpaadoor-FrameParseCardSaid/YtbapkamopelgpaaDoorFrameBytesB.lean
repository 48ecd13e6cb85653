/- Whatever program: a law's last step. The call returned, and of what there was when it began nothing has turned: then each argument reads as it read. A slice that came in as a row of whole numbers. Rows of bytes: appended to, cut, handed over; parts; the laws' aids Bytes and Kept. -/
import Derived.Test.YtbapkamopelgpaaDoorFrameBytesA
import Derived.ProofKit
import Derived.OpenShut
import Derived.Carry
import Derived.Below
import Derived.ChangeSame
import Derived.ChangeSlices
import Derived.Test.YtbapkamopelgpaaDoorRows
import Derived.WalkKit
import Derived.WalkSpells
import Derived.WalkLawsBesides
import Derived.Laws.Externs
import Derived.Lib.Hide
import Derived.Deep.Light
import Derived.BigQuiet
import Derived.Deep.QuietTactic
import Derived.Deep.RegionWith
import Derived.BigRegion
import Derived.Lib.SlBytesConst
import Derived.Lib.SlBytesRow
import Derived.Lib.AppendZeros
import Derived.Lib.QuietBelow
import Derived.Maps.AppendAt
import Derived.Deep.AppendLies
import Derived.Deep.Cut
import Derived.Deep.CutRange
import Derived.Shelf.Bytes.SlEqualAll
import Derived.KernelRfl
import Derived.Laws.BytesArg
import Derived.Laws.BitsAllLaws
import Derived.StillTailTactics
namespace Go.FrameGen
open Go.ChangeShapes Go.WideShapes Go.RowKit
section
variable {H : Type} {enc : TypeId × Value → H} {P : Program}
theorem args_stay (hl : laidOutB P = true) {W W' : World} (hb : Below W.heap.size W W') :
    ∀ (ts : List TypeId) (vs : List Value) (ds : List (DataW H)) (ps : List MemPlace), (∀ t ∈ ts, P.readableRec t = true ∧ t < P.types.size) →
      DataW.TrodAll enc P W 0 (fun _ => true) true ts vs ds ps → (∀ x ∈ ps, x.block < W.heap.size) →
      DataW.TrodAll enc P W' 0 (fun b => decide (b < W.heap.size)) true ts vs ds ps := by
  intro ts
  induction ts with
  | nil =>
    intro vs ds ps _ h _
    obtain ⟨rfl, rfl, rfl⟩ := trodAll_nil h
    exact trodAll_mk0
  | cons t ts ih =>
    intro vs ds ps hr h hlt
    obtain ⟨v, vs', d, ds', p, q, rfl, rfl, rfl, hd, hrest⟩ := trodAll_cons h
    obtain ⟨h1, h2⟩ := hr t (by simp)
    exact trodAll_cons_mk (Below.trod hl h1 h2 hd hb (fun x hx => hlt x (by simp [hx]))) (ih vs' ds' q (fun t ht => hr t (by simp [ht])) hrest (fun x hx => hlt x (by simp [hx])))
theorem post_law {f : Func} {s : ChangeSpec} {apart fresh handsOn : Bool} {W W' : World} {args : Array Value} {v : Value} {ds gs : List (DataW H)} {before p q : List MemPlace}
    (hW : DataW.Whole enc P f.params.toList s.vars apart W args.toList ds gs before)
    (hA : DataW.TrodAll enc P W 0 (fun _ => true) true f.params.toList args.toList ds p) (hbef : before = p ++ q) (hq : q = []) (hs : s.vars = []) (hb : Below W.heap.size W W')
    (hl : laidOutB P = true) (hr : ∀ t ∈ f.params.toList, P.readableRec t = true ∧ t < P.types.size)
    (hfa : (s.fn H (ds ++ gs)).args = ds) (hfv : (s.fn H (ds ++ gs)).vars = [])
    (hres : ∀ (b : Nat) (sp : Nat → Bool) (hd : Bool), DataW.TrodAll enc P W' b sp hd f.resultTypes.toList (v.resultList f.resultTypes.size) (s.fn H (ds ++ gs)).results []) :
    s.post enc P f apart fresh handsOn false W args v W' := by
  have hlt : ∀ p ∈ before, p.block < W.heap.size := fun p hp => hW.lt p hp
  subst hq
  rw [List.append_nil] at hbef
  subst hbef
  refine ⟨ds, gs, _, [], before, [], hW, hres _ _ _, ?_, ?_, World.keptBut_mono (fun p hp => ⟨hp, ?_⟩) (hb.frame (· ∈ before)), fun h => by cases h⟩
  · rw [hfa]
    exact args_stay hl hb _ _ _ _ hr hA hlt
  · rw [hfv, hs]; rfl
  · exact Or.inr (Or.inl hp)
end
end Go.FrameGen

namespace Go.RowsIn
open Go.ChangeShapes Go.WideShapes Go.RowKit
set_option linter.unusedVariables false
/-- What a row of n cells reads, one by one, when there is a row. -/
def Row (w : World) (A : Option Addr) (n : Nat) (f : Nat → Value) : Prop := 0 < n → ∃ ad, A = some ad ∧ ad.block < w.heap.size ∧ ∀ k, k < n → w.cell? (ad.add k) = some (f k)
theorem add_block (a : Addr) (n : Nat) : (a.add n).block = a.block := by unfold Addr.add; split <;> rfl
theorem Row.at_ {w w' : World} {A : Option Addr} {n k : Nat} {f : Nat → Value} (h : Row w A n f) (hb : Below w.heap.size w w') (hk : k < n) : ∃ ad, A = some ad ∧ w'.cell? (ad.add k) = some (f k) := by
  obtain ⟨ad, rfl, hlt, hc⟩ := h (by omega)
  exact ⟨ad, rfl, (hb.cell (p := ad.add k) (by rw [add_block]; exact hlt)).trans (hc k hk)⟩
theorem Row.below {w w' : World} {A : Option Addr} {n : Nat} {f : Nat → Value} (h : Row w A n f) (hb : Below w.heap.size w w') : Row w' A n f := fun hn => by
  obtain ⟨ad, rfl, hlt, hc⟩ := h hn
  exact ⟨ad, rfl, Nat.lt_of_lt_of_le hlt hb.size, fun k hk => (hb.cell (p := ad.add k) (by rw [add_block]; exact hlt)).trans (hc k hk)⟩
theorem lt_of_cell {w : World} {p : Addr} {u : Value} (h : w.cell? p = some u) : p.block < w.heap.size := World.block_lt_of_cell? w p h
section
variable {H : Type} {enc : TypeId × Value → H} {P : Program} {w : World}
/-- The argument is a slice of whole numbers: its length and its cells. -/
theorem row_ints {t e : TypeId} {k : IntKind} {A : Option Addr} {n c : Nat} {d : DataW H} {ps : List MemPlace} {base : Nat} {sp : Nat → Bool} {held : Bool} (ht : P.underlying t = some (.slice e)) (he : P.underlying e = some (.int k)) (hc : P.cellsOf e = 1)
    (h : DataW.Trod enc P w base sp held t (.slice A n c) d ps) :
    ∃ (f : Nat → Int), n ≤ c ∧ c ≤ maxLen ∧ Row w A n (fun i => .int k (f i)) ∧ ∀ i, i < n → (Lit.int k (f i)).wf = true := by
  obtain ⟨fuel, h⟩ := h
  rcases open_ints (cs := [.slice A n c]) ht he hc h with ⟨hv, _⟩ | ⟨a, len, cap, zs, hv, hb, hl, hm, hz, _, hcell, hwf⟩
  · simp only [List.cons.injEq, and_true, Value.slice.injEq] at hv
    obtain ⟨rfl, rfl, rfl⟩ := hv
    exact ⟨fun _ => 0, Nat.le_refl _, Nat.zero_le _, fun h => absurd h (by omega), fun i hi => absurd hi (by omega)⟩
  · simp only [List.cons.injEq, and_true, Value.slice.injEq] at hv
    obtain ⟨rfl, rfl, rfl⟩ := hv
    have hlz : n ≤ zs.length := by
      rw [hz]; split <;> omega
    refine ⟨fun i => zs.getD i 0, hl, hm, fun hn => ⟨a, rfl, ?_, fun i hi => hcell i (by omega)⟩, fun i hi => hwf _ ?_⟩
    · have := lt_of_cell (hcell 0 (by omega))
      rwa [add_block] at this
    · have hi' : i < zs.length := by omega
      simp only [List.getD_eq_getElem?_getD, List.getElem?_eq_getElem hi', Option.getD_some]
      exact List.getElem_mem hi'
end
end Go.RowsIn

namespace Go.Proofs.YtbapkamopelgpaaDoor
open Go.RowKit Go.Stop Go.Extern Go.Ranges
set_option linter.unusedVariables false
set_option linter.unusedSimpArgs false
theorem ba {a w : World} (h : Below a.heap.size a w) (o : Obj) : Below a.heap.size a (w.alloc o) := h.alloc h.size o
theorem bd {a w : World} (h : Below a.heap.size a w) : Below a.heap.size a w.drew := h.drew
theorem bs {a w : World} (h : Below a.heap.size a w) {p : Addr} (hp : a.heap.size ≤ p.block) (u : Value) : Below a.heap.size a (w.setCell p u) := h.setCell hp u
theorem ret_b {a b : Bool} (h : a = b) : Ending.returned (.bool b) = .returned (.bool a) := by rw [h]
theorem below_drewN (w : World) (k : Nat) : Below w.heap.size w (w.drewN k) := ⟨rfl, rfl, rfl, Nat.le_refl _, fun _ _ => rfl⟩
theorem below_drewN2 (w : World) (j k : Nat) : Below w.heap.size w ((w.drewN j).drewN k) := ⟨rfl, rfl, rfl, Nat.le_refl _, fun _ _ => rfl⟩
theorem two_heap (w : World) (o1 o2 : Obj) : ((w.alloc o1).alloc o2).heap[w.heap.size]? = some o1 ∧ ((w.alloc o1).alloc o2).heap[w.heap.size + 1]? = some o2 := by
  have e1 : (w.alloc o1).heap.size = w.heap.size + 1 := by simp
  have h2 := heap_alloc_last (w.alloc o1) o2
  rw [e1] at h2
  refine ⟨?_, h2⟩
  rw [Below.heap_alloc _ _ _ (by simp)]
  exact heap_alloc_last w o1
theorem below_drewN3 (w : World) (i j k : Nat) : Below w.heap.size w (((w.drewN i).drewN j).drewN k) := ⟨rfl, rfl, rfl, Nat.le_refl _, fun _ _ => rfl⟩
theorem ret_bool {a b : Bool} (h : a = b) : Ending.returned (.bool a) = .returned (.bool b) := by rw [h]
theorem keepB {a w w' : World} (h : Below a.heap.size a w) (h2 : Below w.heap.size w w') : Below a.heap.size a w' := h.trans (h2.mono h.size)
theorem alloc_below (w : World) (o : Obj) : Below w.heap.size w (w.alloc o) := (Below.refl _ _).alloc (Nat.le_refl _) _
def isByte (x : Int) : Prop := 0 ≤ x ∧ x < 256
/-- Bytes as cells. -/
def bV (xs : List Int) : List Value := xs.map fun x => .int .u8 x
theorem row5 : (Tryd.prog.info? 5).map (fun i => (i.zero, i.size, i.bytes)) = some (some (.int .u8 0), 1, 1) := by kernel_rfl
theorem of_row1 {t : TypeId} {z : Value} {n m : Nat} (h : (Tryd.prog.info? t).map (fun i => (i.zero, i.size, i.bytes)) = some (some z, n, m)) : ∃ i, Tryd.prog.info? t = some i ∧ i.zero = some z ∧ i.size = n ∧ i.bytes = m := by
  cases hq : Tryd.prog.info? t with
  | none => simp [hq] at h
  | some i =>
    simp [hq] at h
    exact ⟨i, rfl, h.1, h.2.1, h.2.2⟩
theorem bytesIn_below' {w w' : World} {p : Option Addr} {n : Nat} {xs : List Int} (h : Lib.BytesIn w p n xs) (hb : Below w.heap.size w w') : Lib.BytesIn w' p n xs := fun hn => by
  obtain ⟨b, o, rfl, hc⟩ := h hn
  exact ⟨b, o, rfl, fun i hi => (hb.cell (p := ⟨b, o + i, none⟩) (World.block_lt_of_cell? w _ (hc i hi))).trans (hc i hi)⟩
theorem size_u8 (w : World) : (Go.sizeOf 5).run Tryd.prog w = .ok 1 w := by
  obtain ⟨it, j1, j2, j3, j4⟩ := of_row1 row5
  simp [Go.sizeOf, typeInfo, j1, j3]
theorem bV_append (xs ys : List Int) : bV (xs ++ ys) = bV xs ++ bV ys := by simp [bV]
theorem bV_len (xs : List Int) : (bV xs).length = xs.length := by simp [bV]
theorem bV_one (xs : List Int) : ∀ u ∈ bV xs, u.oneCell' = true := fun u hu => by
  obtain ⟨x, _, rfl⟩ := List.mem_map.1 hu
  rfl
theorem bV_get {xs : List Int} {j : Nat} {u : Value} (h : (bV xs)[j]? = some u) : j < xs.length ∧ u = .int .u8 (xs.getD j 0) := by
  have hj : j < xs.length := by
    have := (List.getElem?_eq_some_iff.1 h).1
    rwa [bV_len] at this
  refine ⟨hj, ?_⟩
  simp only [bV, List.getElem?_map, List.getElem?_eq_getElem hj, Option.map_some] at h
  injection h with h
  rw [← h, List.getD_eq_getElem?_getD, List.getElem?_eq_getElem hj]
  rfl
/-- 'append(v, ys...)' of bytes, ys whatever: nil, or of no byte, too. -/
theorem app_bytes {w : World} {base : Nat} {v : Value} {n : Nat} {xs : List Int} (hown : w.ownsRow base 5 1 v n (bV xs)) (A : Option Addr) (m c : Nat) (ys : List Int) (hm : ys.length = m) (hB : Lib.BytesIn w A m ys) (hbase : base ≤ w.heap.size) (hs : n + m ≤ 1099511627776) :
    ∃ v' w', (Builtin.append_ #[22, 22] 22 #[v, .slice A m c]).run Tryd.prog w = .ok v' w' ∧ w'.ownsRow base 5 1 v' (n + m) (bV (xs ++ ys)) ∧ w.grownBy w' v.ownBlock := by
  obtain ⟨it, j1, j2, j3, j4⟩ := of_row1 row5
  by_cases h0 : m = 0
  · subst h0
    obtain rfl := List.eq_nil_of_length_eq_zero hm
    refine ⟨v, w, ?_, by simpa using hown, ⟨rfl, rfl, rfl, Nat.le_refl _, fun _ _ _ => rfl⟩⟩
    rcases hown.2 with ⟨rfl, rfl⟩ | ⟨g, cap, cur, rfl, _, hg, hcap, _⟩
    · cases A <;> simp [Builtin.append_, run_underlying Tryd.underlying22, Go.sizeOf, typeInfo, j1, j3, Builtin.lenOf, Builtin.firstCells, loadCells, loadCellsFrom]
    · cases A <;> simp [Builtin.append_, run_underlying Tryd.underlying22, Go.sizeOf, typeInfo, j1, j3, Builtin.lenOf, Builtin.firstCells, loadCells, loadCellsFrom, hcap, storeCells]
  · obtain ⟨b, o, rfl, hc⟩ := hB (by omega)
    obtain ⟨v', w', hr, ho, hgr, _⟩ := run_append_own_at (P := Tryd.prog) w base 22 22 5 it (.int .u8 0) 1 1 Tryd.underlying22 j1 j2 j3 j4 rfl (by decide) v n (bV xs) hown ⟨b, o, none⟩ m c (bV ys) (by rw [bV_len, hm, Nat.mul_one]) (fun j u hu => by
      obtain ⟨hj, rfl⟩ := bV_get hu
      rw [Go.WideShapes.add_plain]
      exact hc j (by omega)) (bV_one ys) (by unfold maxLen; omega) (by omega) hbase
    exact ⟨v', w', hr, by rw [bV_append]; exact ho, hgr⟩
/-- The first i parts, end to end. -/
def cat (f : Nat → List Int) : Nat → List Int
  | 0 => []
  | i + 1 => cat f i ++ f i
theorem cat_mono (f : Nat → List Int) {i m : Nat} (h : i ≤ m) : (cat f i).length ≤ (cat f m).length := by
  induction m with
  | zero => rw [Nat.le_zero.1 h]; exact Nat.le_refl _
  | succ m ih =>
    by_cases e : i = m + 1
    · subst e; exact Nat.le_refl _
    · have := ih (by omega)
      simp only [cat, List.length_append]
      omega
/-- How parts lie: each a slice of bytes. -/
def PartsAt (w : World) (A : Option Addr) (m : Nat) (f : Nat → List Int) : Prop :=
  0 < m → ∃ b o, A = some ⟨b, o, none⟩ ∧ b < w.heap.size ∧ ∀ i, i < m → ∃ B c, w.cell? ⟨b, o + i, none⟩ = some (.slice B (f i).length c) ∧ Lib.BytesIn w B (f i).length (f i)
theorem PartsAt.below {w w' : World} {A : Option Addr} {m : Nat} {f : Nat → List Int} (h : PartsAt w A m f) (hb : Below w.heap.size w w') : PartsAt w' A m f := fun hm => by
  obtain ⟨b, o, rfl, hlt, hc⟩ := h hm
  refine ⟨b, o, rfl, Nat.lt_of_lt_of_le hlt hb.size, fun i hi => ?_⟩
  obtain ⟨B, c, h1, h2⟩ := hc i hi
  exact ⟨B, c, (hb.cell (p := ⟨b, o + i, none⟩) hlt).trans h1, bytesIn_below' h2 hb⟩
theorem own_keep {w w' : World} {base : Nat} {e : TypeId} {m : Nat} {v : Value} {n : Nat} {xs : List Value} (h : w.ownsRow base e m v n xs) (hb : Below w.heap.size w w') : w'.ownsRow base e m v n xs := by
  refine ⟨h.1, ?_⟩
  rcases h.2 with h2 | ⟨g, cap, cur, hv, hg, hh, r⟩
  · exact .inl h2
  · exact .inr ⟨g, cap, cur, hv, hg, (hb.block g (Array.getElem?_eq_some_iff.1 hh).1).trans hh, r⟩
theorem own_slice {w : World} {base : Nat} {e : TypeId} {m : Nat} {v : Value} {n : Nat} {xs : List Value} (h : w.ownsRow base e m v n xs) : ∃ A c, v = .slice A n c := by
  rcases h.2 with ⟨rfl, rfl⟩ | ⟨g, cap, cur, rfl, _⟩
  · exact ⟨_, _, rfl⟩
  · exact ⟨_, _, rfl⟩
theorem own_form8 {w : World} {base : Nat} {e : TypeId} {m : Nat} {v : Value} {n : Nat} {xs : List Value} (h : w.ownsRow base e m v n xs) (hn : 0 < n) : ∃ g c, v = .slice (some ⟨g, 0, none⟩) n c ∧ n ≤ c ∧ c ≤ maxLen ∧ g < w.heap.size := by
  rcases h.2 with ⟨_, h0⟩ | ⟨g, cap, cur, rfl, _, hg, h1, h2, _⟩
  · omega
  · exact ⟨g, cap, rfl, h1, h2, (Array.getElem?_eq_some_iff.1 hg).1⟩
theorem own_bytes {w : World} {base : Nat} {e : TypeId} {A : Option Addr} {n c : Nat} {xs : List Int} (h : w.ownsRow base e 1 (.slice A n c) n (bV xs)) : Lib.BytesIn w A n xs := fun hn => by
  rcases h.2 with ⟨_, h0⟩ | ⟨g, cap, cur, hv, _, hg, hc1, _, hc3, hc4⟩
  · omega
  · injection hv with h1 h2 h3
    subst h1
    refine ⟨g, 0, rfl, fun i hi => ?_⟩
    have hl : xs.length = n := by have := h.1; rw [bV_len, Nat.mul_one] at this; exact this
    rw [cell_of_row _ _ _ _ _ _ hg, Nat.zero_add]
    have : cur.toList[i]? = (bV xs)[i]? := by rw [← hc4, List.getElem?_take_of_lt (by omega)]
    rw [← Array.getElem?_toList, this]
    simp [bV, List.getD, List.getElem?_eq_getElem (show i < xs.length by omega)]
theorem own_len {w : World} {base : Nat} {e : TypeId} {v : Value} {n : Nat} {xs : List Int} (h : w.ownsRow base e 1 v n (bV xs)) : xs.length = n := by have := h.1; rw [bV_len, Nat.mul_one] at this; exact this
def kept : List Int := [201, 202, 203, 204, 205, 206]
set_option maxRecDepth 20000 in
set_option maxHeartbeats 4000000 in
theorem bytesAid_any (A : Option Addr) (n c : Nat) (xs : List Int) (w : World) (hn : xs.length = n) (hB : Lib.BytesIn w A n xs) (hL : n ≤ 274877906944) :
    Calls Tryd.prog 27 #[.slice A n c] w fun e w' => ∃ g cap, e = .returned (.slice (some ⟨g, 0, none⟩) n cap) ∧ Below w.heap.size w w' ∧ w'.ownsRow w.heap.size 5 1 (.slice (some ⟨g, 0, none⟩) (n + 6) cap) (n + 6) (bV (xs ++ kept)) := by
  have KI := Lib.hid hB
  have KN := Lib.hid hn
  clear hB hn
  obtain ⟨it, j1, j2, j3, j4⟩ := of_row1 row5
  obtain ⟨w0, hr0, ho0, hg0⟩ := run_make_own (P := Tryd.prog) w w.heap.size 22 5 it (.int .u8 0) 1 Tryd.underlying22 j1 j2 j3 .i64 .i64 (n + 6) (by rw [j4]; omega) (by unfold maxLen; omega) (Nat.le_refl _)
  have hb0 : Below w.heap.size w w0 := (Below.refl _ _).grown hg0 (Nat.le_refl _) (fun k hk => by cases hk)
  obtain ⟨v1, w1, hr1, ho1, hg1⟩ := app_bytes (xs := []) ho0 A n c xs KN.out (bytesIn_below' KI.out hb0) hb0.size (by omega)
  rw [Nat.zero_add, List.nil_append] at ho1
  have hb1 : Below w.heap.size w w1 := hb0.grown hg1 hb0.size (fun k hk => (ho0.lt k hk).1)
  have hb2 : Below w.heap.size w (w1.alloc (.cells #[.int .u8 201, .int .u8 202, .int .u8 203, .int .u8 204, .int .u8 205, .int .u8 206] 5)) := hb1.alloc hb1.size _
  obtain ⟨v2, w2, hr2, ho2, hg2⟩ := app_bytes (ho1.alloc (.cells #[.int .u8 201, .int .u8 202, .int .u8 203, .int .u8 204, .int .u8 205, .int .u8 206] 5)) (some ⟨w1.heap.size, 0, none⟩) 6 6 kept rfl (fun _ => ⟨_, 0, rfl, fun i hi => by
    rw [cell_of_row _ _ _ _ _ _ (heap_alloc_last w1 _)]
    have : i = 0 ∨ i = 1 ∨ i = 2 ∨ i = 3 ∨ i = 4 ∨ i = 5 := by omega
    rcases this with rfl | rfl | rfl | rfl | rfl | rfl <;> rfl⟩) hb2.size (by omega)
  have hb3 : Below w.heap.size w w2 := hb2.grown hg2 hb2.size (fun k hk => (ho1.lt k hk).1)
  obtain ⟨g, cap, rfl, hgc, hgm, hgl⟩ := own_form8 ho2 (by omega)
  have KB := Lib.hid hb3
  have KO := Lib.hid ho2
  have mk : (Instr.makeSlice 22 (.int .i64 0) (.int .i64 ((n : Int) + 6))).run Tryd.prog w = .ok (.slice (some ⟨w.heap.size, 0, none⟩) 0 (n + 6)) w0 := hr0
  clear hb0 hb1 hb2 hb3 ho0 ho1 ho2 hg0 hg1 hg2 hr0
  go_enter Tryd.func27, Tryd.ntmps27
  go_wp2_with (first
    | (at_builtin; refine Lib.wpList_append_run _ rfl (.tmp 7) (.tmp 8) 22 22 rfl _ _ rfl rfl _ _ hr1 ?_)
    | (at_builtin; go_loud (refine Lib.wpList_append_run _ rfl (.tmp 9) (.tmp 10) 22 22 rfl _ _ rfl rfl _ _ hr2 ?_)))
  go_ret
  exact ⟨g, cap, rfl, KB.out, KO.out⟩
theorem kept_at (i : Nat) (hi : i < 6) : kept.getD i 0 = 201 + (i : Int) := by
  have : i = 0 ∨ i = 1 ∨ i = 2 ∨ i = 3 ∨ i = 4 ∨ i = 5 := by omega
  rcases this with rfl | rfl | rfl | rfl | rfl | rfl <;> rfl
set_option maxRecDepth 20000 in
set_option maxHeartbeats 4000000 in
theorem keptAid_any (g n cap : Nat) (B : Option Addr) (c : Nat) (xs : List Int) (w : World) (hn : xs.length = n) (h1 : Lib.BytesIn w (some ⟨g, 0, none⟩) (n + 6) (xs ++ kept)) (h2 : Lib.BytesIn w B n xs) (hc : n + 6 ≤ cap) (hm : cap ≤ maxLen) :
    Calls Tryd.prog 30 #[.slice (some ⟨g, 0, none⟩) n cap, .slice B n c] w fun e w' => e = .returned (.bool true) ∧ Below w.heap.size w w' := by
  have hm2 : (cap : Int) ≤ 9223372036854775807 := by have := hm; unfold maxLen at this; omega
  have hp : Lib.BytesIn w (some ⟨g, 0, none⟩) n xs := fun h0 => by
    obtain ⟨b, o, hbo, hcx⟩ := h1 (by omega)
    refine ⟨b, o, hbo, fun i hi => ?_⟩
    rw [hcx i (by omega), List.getD_eq_getElem?_getD, List.getD_eq_getElem?_getD, List.getElem?_append_left (by omega)]
  have hbd : Below w.heap.size w w.drew := (Below.refl _ _).drew
  have c1 := (bytesIn_below' hp hbd).convert (P := Tryd.prog) hn cap 22 5 9 Tryd.underlying22 Tryd.underlying5 Tryd.underlying9
  have c2 := (bytesIn_below' h2 hbd).convert (P := Tryd.prog) hn c 22 5 9 Tryd.underlying22 Tryd.underlying5 Tryd.underlying9
  have K1 := Lib.hid (bytesIn_below' h1 hbd)
  have KN := Lib.hid hn
  have KC := Lib.hid hc
  have KD := Lib.hid hbd
  have hns : ¬ ((cap : Int) < (n : Int) + 6) := by omega
  have hd : decide ((cap : Int) < (n : Int) + 6) = false := decide_eq_false hns
  have hnc : n ≤ cap := by omega
  have hnc2 : (n : Int) ≤ (cap : Int) := by omega
  have hnw : IntKind.i64.wrap ((n : Int) + 6) = (n : Int) + 6 := by rw [IntKind.wrap_i64]; omega
  have hn64 : (n : Int) + 6 ≤ 9223372036854775807 := by omega
  clear h1 h2 hp hbd hn hm
  go_enter Tryd.func30, Tryd.ntmps30
  go_wp2_with fail
  refine wp_region_still_lit (by kernel_rfl) (by kernel_rfl) ?_
  change wpStill _ _ w.drew (fun a' => Exit.then _ _ .normal a' w.drew) _ _
  generalize w.drew = V at *
  repeat still_step
  refine wpStill_nil ?_
  go_wp2_with fail
  clear c1 c2 hd hns hnc hnc2 hnw
  go_loopw [6] (fun x wr => ∃ i : Nat, i ≤ 6 ∧ x = .int .i64 i ∧ Below w.heap.size w wr ∧ Lib.BytesIn wr (some ⟨g, 0, none⟩) (n + 6) (xs ++ kept)) (fun x _ => 6 - (intOf x).toNat)
  case atStart => exact ⟨0, Nat.zero_le _, rfl, KD.out, K1.out⟩
  case round =>
    obtain ⟨i, hi, rfl, hB, hY⟩ := hrel
    have HB := Lib.hid hB
    have HY := Lib.hid hY
    clear hB hY
    by_cases hlt : i < 6
    · obtain ⟨b', o', hbo, hcx⟩ := HY.out (by omega)
      obtain ⟨rfl, rfl⟩ : g = b' ∧ 0 = o' := by simpa using hbo
      have h3 := hcx (n + i) (by omega)
      rw [Nat.zero_add, List.getD_eq_getElem?_getD, List.getElem?_append_right (by rw [KN.out]; omega), KN.out, Nat.add_sub_cancel_left, ← List.getD_eq_getElem?_getD, kept_at i hlt] at h3
      clear hcx hbo
      have q2 := KC.out
      have hic : i = 0 ∨ i = 1 ∨ i = 2 ∨ i = 3 ∨ i = 4 ∨ i = 5 := by omega
      rcases hic with rfl | rfl | rfl | rfl | rfl | rfl
      all_goals
        try simp only [Nat.add_zero, Int.natCast_zero, Int.add_zero] at h3
        have p1 : n < cap := by omega
        have p2 : n + 1 < cap := by omega
        have p3 : n + 2 < cap := by omega
        have p4 : n + 3 < cap := by omega
        have p5 : n + 4 < cap := by omega
        have p6 : n + 5 < cap := by omega
        clear q2
        go_wp2_with fail
        go_round
        case rel => first | exact ⟨1, by omega, rfl, HB.out, HY.out⟩ | exact ⟨2, by omega, rfl, HB.out, HY.out⟩ | exact ⟨3, by omega, rfl, HB.out, HY.out⟩ | exact ⟨4, by omega, rfl, HB.out, HY.out⟩ | exact ⟨5, by omega, rfl, HB.out, HY.out⟩ | exact ⟨6, by omega, rfl, HB.out, HY.out⟩
        case measure => simp only [intOf]; omega
    · have hi6 : i = 6 := by omega
      subst hi6
      go_wp2_with fail
      go_ret
      exact ⟨rfl, HB.out⟩
end Go.Proofs.YtbapkamopelgpaaDoor
