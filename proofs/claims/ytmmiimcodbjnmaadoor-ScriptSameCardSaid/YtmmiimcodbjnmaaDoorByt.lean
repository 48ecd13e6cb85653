/- Rows of bytes: appended to, cut, handed over; parts; the laws' aids Bytes and Kept. -/
import Derived.Test.YtmmiimcodbjnmaaDoorRows
import Derived.WalkKit
import Derived.WalkSpells
import Derived.WalkLawsBesides
import Derived.Laws.Externs
import Derived.Lib.Hide
import Derived.Deep.Light
import Derived.BigQuiet
import Derived.Deep.QuietTactic
import Derived.Deep.RegionWith
import Derived.BigRegion
import Derived.Lib.SlBytesConst
import Derived.Lib.SlBytesRow
import Derived.Lib.AppendZeros
import Derived.Lib.QuietBelow
import Derived.Maps.AppendAt
import Derived.Deep.AppendLies
import Derived.Deep.Cut
import Derived.Deep.CutRange
import Derived.Shelf.Bytes.SlEqualAll
import Derived.KernelRfl
import Derived.Laws.BytesArg
import Derived.Laws.BitsAllLaws
import Derived.StillTailTactics
import Derived.Test.YtmmiimcodbjnmaaDoorArrEq
import Derived.Test.YtmmiimcodbjnmaaDoorRanges
import Derived.Test.YtmmiimcodbjnmaaDoorBlocks
import Derived.Test.YtmmiimcodbjnmaaDoorRowsIn
namespace Go.Proofs.YtmmiimcodbjnmaaDoor
open Go.RowKit Go.Stop Go.Extern Go.Ranges
set_option linter.unusedVariables false
set_option linter.unusedSimpArgs false
theorem ba {a w : World} (h : Below a.heap.size a w) (o : Obj) : Below a.heap.size a (w.alloc o) := h.alloc h.size o
theorem bd {a w : World} (h : Below a.heap.size a w) : Below a.heap.size a w.drew := h.drew
theorem bs {a w : World} (h : Below a.heap.size a w) {p : Addr} (hp : a.heap.size ≤ p.block) (u : Value) : Below a.heap.size a (w.setCell p u) := h.setCell hp u
theorem ret_b {a b : Bool} (h : a = b) : Ending.returned (.bool b) = .returned (.bool a) := by rw [h]
theorem below_drewN (w : World) (k : Nat) : Below w.heap.size w (w.drewN k) := ⟨rfl, rfl, rfl, Nat.le_refl _, fun _ _ => rfl⟩
theorem below_drewN2 (w : World) (j k : Nat) : Below w.heap.size w ((w.drewN j).drewN k) := ⟨rfl, rfl, rfl, Nat.le_refl _, fun _ _ => rfl⟩
theorem two_heap (w : World) (o1 o2 : Obj) : ((w.alloc o1).alloc o2).heap[w.heap.size]? = some o1 ∧ ((w.alloc o1).alloc o2).heap[w.heap.size + 1]? = some o2 := by
  have e1 : (w.alloc o1).heap.size = w.heap.size + 1 := by simp
  have h2 := heap_alloc_last (w.alloc o1) o2
  rw [e1] at h2
  refine ⟨?_, h2⟩
  rw [Below.heap_alloc _ _ _ (by simp)]
  exact heap_alloc_last w o1
theorem below_drewN3 (w : World) (i j k : Nat) : Below w.heap.size w (((w.drewN i).drewN j).drewN k) := ⟨rfl, rfl, rfl, Nat.le_refl _, fun _ _ => rfl⟩
theorem ret_bool {a b : Bool} (h : a = b) : Ending.returned (.bool a) = .returned (.bool b) := by rw [h]
theorem keepB {a w w' : World} (h : Below a.heap.size a w) (h2 : Below w.heap.size w w') : Below a.heap.size a w' := h.trans (h2.mono h.size)
theorem alloc_below (w : World) (o : Obj) : Below w.heap.size w (w.alloc o) := (Below.refl _ _).alloc (Nat.le_refl _) _
def isByte (x : Int) : Prop := 0 ≤ x ∧ x < 256
/-- Bytes as cells. -/
def bV (xs : List Int) : List Value := xs.map fun x => .int .u8 x
theorem row5 : (Tryd.prog.info? 5).map (fun i => (i.zero, i.size, i.bytes)) = some (some (.int .u8 0), 1, 1) := by kernel_rfl
theorem of_row1 {t : TypeId} {z : Value} {n m : Nat} (h : (Tryd.prog.info? t).map (fun i => (i.zero, i.size, i.bytes)) = some (some z, n, m)) : ∃ i, Tryd.prog.info? t = some i ∧ i.zero = some z ∧ i.size = n ∧ i.bytes = m := by
  cases hq : Tryd.prog.info? t with
  | none => simp [hq] at h
  | some i =>
    simp [hq] at h
    exact ⟨i, rfl, h.1, h.2.1, h.2.2⟩
theorem bytesIn_below' {w w' : World} {p : Option Addr} {n : Nat} {xs : List Int} (h : Lib.BytesIn w p n xs) (hb : Below w.heap.size w w') : Lib.BytesIn w' p n xs := fun hn => by
  obtain ⟨b, o, rfl, hc⟩ := h hn
  exact ⟨b, o, rfl, fun i hi => (hb.cell (p := ⟨b, o + i, none⟩) (World.block_lt_of_cell? w _ (hc i hi))).trans (hc i hi)⟩
theorem size_u8 (w : World) : (Go.sizeOf 5).run Tryd.prog w = .ok 1 w := by
  obtain ⟨it, j1, j2, j3, j4⟩ := of_row1 row5
  simp [Go.sizeOf, typeInfo, j1, j3]
theorem bV_append (xs ys : List Int) : bV (xs ++ ys) = bV xs ++ bV ys := by simp [bV]
theorem bV_len (xs : List Int) : (bV xs).length = xs.length := by simp [bV]
theorem bV_one (xs : List Int) : ∀ u ∈ bV xs, u.oneCell' = true := fun u hu => by
  obtain ⟨x, _, rfl⟩ := List.mem_map.1 hu
  rfl
theorem bV_get {xs : List Int} {j : Nat} {u : Value} (h : (bV xs)[j]? = some u) : j < xs.length ∧ u = .int .u8 (xs.getD j 0) := by
  have hj : j < xs.length := by
    have := (List.getElem?_eq_some_iff.1 h).1
    rwa [bV_len] at this
  refine ⟨hj, ?_⟩
  simp only [bV, List.getElem?_map, List.getElem?_eq_getElem hj, Option.map_some] at h
  injection h with h
  rw [← h, List.getD_eq_getElem?_getD, List.getElem?_eq_getElem hj]
  rfl
/-- 'append(v, ys...)' of bytes, ys whatever: nil, or of no byte, too. -/
theorem app_bytes {w : World} {base : Nat} {v : Value} {n : Nat} {xs : List Int} (hown : w.ownsRow base 5 1 v n (bV xs)) (A : Option Addr) (m c : Nat) (ys : List Int) (hm : ys.length = m) (hB : Lib.BytesIn w A m ys) (hbase : base ≤ w.heap.size) (hs : n + m ≤ 1099511627776) :
    ∃ v' w', (Builtin.append_ #[34, 34] 34 #[v, .slice A m c]).run Tryd.prog w = .ok v' w' ∧ w'.ownsRow base 5 1 v' (n + m) (bV (xs ++ ys)) ∧ w.grownBy w' v.ownBlock := by
  obtain ⟨it, j1, j2, j3, j4⟩ := of_row1 row5
  by_cases h0 : m = 0
  · subst h0
    obtain rfl := List.eq_nil_of_length_eq_zero hm
    refine ⟨v, w, ?_, by simpa using hown, ⟨rfl, rfl, rfl, Nat.le_refl _, fun _ _ _ => rfl⟩⟩
    rcases hown.2 with ⟨rfl, rfl⟩ | ⟨g, cap, cur, rfl, _, hg, hcap, _⟩
    · cases A <;> simp [Builtin.append_, run_underlying Tryd.underlying34, Go.sizeOf, typeInfo, j1, j3, Builtin.lenOf, Builtin.firstCells, loadCells, loadCellsFrom]
    · cases A <;> simp [Builtin.append_, run_underlying Tryd.underlying34, Go.sizeOf, typeInfo, j1, j3, Builtin.lenOf, Builtin.firstCells, loadCells, loadCellsFrom, hcap, storeCells]
  · obtain ⟨b, o, rfl, hc⟩ := hB (by omega)
    obtain ⟨v', w', hr, ho, hgr, _⟩ := run_append_own_at (P := Tryd.prog) w base 34 34 5 it (.int .u8 0) 1 1 Tryd.underlying34 j1 j2 j3 j4 rfl (by decide) v n (bV xs) hown ⟨b, o, none⟩ m c (bV ys) (by rw [bV_len, hm, Nat.mul_one]) (fun j u hu => by
      obtain ⟨hj, rfl⟩ := bV_get hu
      rw [Go.WideShapes.add_plain]
      exact hc j (by omega)) (bV_one ys) (by unfold maxLen; omega) (by omega) hbase
    exact ⟨v', w', hr, by rw [bV_append]; exact ho, hgr⟩
/-- The first i parts, end to end. -/
def cat (f : Nat → List Int) : Nat → List Int
  | 0 => []
  | i + 1 => cat f i ++ f i
theorem cat_mono (f : Nat → List Int) {i m : Nat} (h : i ≤ m) : (cat f i).length ≤ (cat f m).length := by
  induction m with
  | zero => rw [Nat.le_zero.1 h]; exact Nat.le_refl _
  | succ m ih =>
    by_cases e : i = m + 1
    · subst e; exact Nat.le_refl _
    · have := ih (by omega)
      simp only [cat, List.length_append]
      omega
/-- How parts lie: each a slice of bytes. -/
def PartsAt (w : World) (A : Option Addr) (m : Nat) (f : Nat → List Int) : Prop :=
  0 < m → ∃ b o, A = some ⟨b, o, none⟩ ∧ b < w.heap.size ∧ ∀ i, i < m → ∃ B c, w.cell? ⟨b, o + i, none⟩ = some (.slice B (f i).length c) ∧ Lib.BytesIn w B (f i).length (f i)
theorem PartsAt.below {w w' : World} {A : Option Addr} {m : Nat} {f : Nat → List Int} (h : PartsAt w A m f) (hb : Below w.heap.size w w') : PartsAt w' A m f := fun hm => by
  obtain ⟨b, o, rfl, hlt, hc⟩ := h hm
  refine ⟨b, o, rfl, Nat.lt_of_lt_of_le hlt hb.size, fun i hi => ?_⟩
  obtain ⟨B, c, h1, h2⟩ := hc i hi
  exact ⟨B, c, (hb.cell (p := ⟨b, o + i, none⟩) hlt).trans h1, bytesIn_below' h2 hb⟩
theorem own_keep {w w' : World} {base : Nat} {e : TypeId} {m : Nat} {v : Value} {n : Nat} {xs : List Value} (h : w.ownsRow base e m v n xs) (hb : Below w.heap.size w w') : w'.ownsRow base e m v n xs := by
  refine ⟨h.1, ?_⟩
  rcases h.2 with h2 | ⟨g, cap, cur, hv, hg, hh, r⟩
  · exact .inl h2
  · exact .inr ⟨g, cap, cur, hv, hg, (hb.block g (Array.getElem?_eq_some_iff.1 hh).1).trans hh, r⟩
theorem own_slice {w : World} {base : Nat} {e : TypeId} {m : Nat} {v : Value} {n : Nat} {xs : List Value} (h : w.ownsRow base e m v n xs) : ∃ A c, v = .slice A n c := by
  rcases h.2 with ⟨rfl, rfl⟩ | ⟨g, cap, cur, rfl, _⟩
  · exact ⟨_, _, rfl⟩
  · exact ⟨_, _, rfl⟩
theorem own_form8 {w : World} {base : Nat} {e : TypeId} {m : Nat} {v : Value} {n : Nat} {xs : List Value} (h : w.ownsRow base e m v n xs) (hn : 0 < n) : ∃ g c, v = .slice (some ⟨g, 0, none⟩) n c ∧ n ≤ c ∧ c ≤ maxLen ∧ g < w.heap.size := by
  rcases h.2 with ⟨_, h0⟩ | ⟨g, cap, cur, rfl, _, hg, h1, h2, _⟩
  · omega
  · exact ⟨g, cap, rfl, h1, h2, (Array.getElem?_eq_some_iff.1 hg).1⟩
theorem own_bytes {w : World} {base : Nat} {e : TypeId} {A : Option Addr} {n c : Nat} {xs : List Int} (h : w.ownsRow base e 1 (.slice A n c) n (bV xs)) : Lib.BytesIn w A n xs := fun hn => by
  rcases h.2 with ⟨_, h0⟩ | ⟨g, cap, cur, hv, _, hg, hc1, _, hc3, hc4⟩
  · omega
  · injection hv with h1 h2 h3
    subst h1
    refine ⟨g, 0, rfl, fun i hi => ?_⟩
    have hl : xs.length = n := by have := h.1; rw [bV_len, Nat.mul_one] at this; exact this
    rw [cell_of_row _ _ _ _ _ _ hg, Nat.zero_add]
    have : cur.toList[i]? = (bV xs)[i]? := by rw [← hc4, List.getElem?_take_of_lt (by omega)]
    rw [← Array.getElem?_toList, this]
    simp [bV, List.getD, List.getElem?_eq_getElem (show i < xs.length by omega)]
theorem own_len {w : World} {base : Nat} {e : TypeId} {v : Value} {n : Nat} {xs : List Int} (h : w.ownsRow base e 1 v n (bV xs)) : xs.length = n := by have := h.1; rw [bV_len, Nat.mul_one] at this; exact this
end Go.Proofs.YtmmiimcodbjnmaaDoor
