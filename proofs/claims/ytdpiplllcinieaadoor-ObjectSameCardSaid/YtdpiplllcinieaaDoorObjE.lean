/- An object as of the document: Of. -/
import Derived.Test.YtdpiplllcinieaaDoorObjF
import Derived.Deep.DeepCutAuto
import Derived.Deep.Cut
import Derived.Deep.CutRange
namespace Go.Proofs.YtdpiplllcinieaaDoor
open Go.RowKit Go.Stop Go.Extern Go.Ranges
set_option linter.unusedVariables false
set_option linter.unusedSimpArgs false
attribute [-go_sem] loadVar storeVar
attribute [local go_sem] loadVar_one storeVar_one
def zObj (k : Int) (A : Option Addr) (n c : Nat) : Array Value := #[.int .i64 k, .slice A n c, .slice none 0 0] ++ zero32 ++ #[.slice none 0 0]
set_option maxRecDepth 20000 in
theorem build33 (k : Int) (A : Option Addr) (n c : Nat) (T : Array Value) (hT : T.size = 32) (w : World) :
    (Instr.build 33 #[(0, .int .i64 k), (1, .slice A n c), (3, .agg T)]).run Tryd.prog w = .ok (.agg (T.zipIdx.foldl (fun cs (x : Value × Nat) => cs.setIfInBounds (3 + x.2) x.1) (zObj k A n c))) w := by
  simp [Instr.build, go_sem, hT]
  kernel_rfl
theorem zObj_size (k : Int) (A : Option Addr) (n c : Nat) : (zObj k A n c).size = 36 := by simp [zObj, zero_size]
theorem built33 (k : Int) (A : Option Addr) (n c : Nat) (T : Array Value) (hT : T.size = 32) :
    ∃ D : Array Value, (∀ w, (Instr.build 33 #[(0, .int .i64 k), (1, .slice A n c), (3, .agg T)]).run Tryd.prog w = .ok (.agg D) w) ∧
      D.size = 36 ∧ D[0]? = some (.int .i64 k) ∧ D[1]? = some (.slice A n c) ∧ D[2]? = some (.slice none 0 0) ∧ D.extract 3 35 = T ∧ D[35]? = some (.slice none 0 0) := by
  have hz := zObj_size k A n c
  have hg := fun i => fill_arr T (zObj k A n c) 3 i (by rw [hT, hz]; decide)
  have hs : (T.zipIdx.foldl (fun cs (x : Value × Nat) => cs.setIfInBounds (3 + x.2) x.1) (zObj k A n c)).size = 36 := by
    rw [← Array.foldl_toList, Array.toList_zipIdx, Fill.fill_size, hz]
  refine ⟨_, fun w => build33 k A n c T hT w, hs, ?_, ?_, ?_, ?_, ?_⟩
  · rw [hg 0, if_neg (by omega)]; kernel_rfl
  · rw [hg 1, if_neg (by omega)]; kernel_rfl
  · rw [hg 2, if_neg (by omega)]; kernel_rfl
  · apply Array.ext_getElem?
    intro i
    by_cases hi : i < 32
    · rw [Array.getElem?_extract, if_pos (by rw [hs]; omega), hg (3 + i), if_pos (by omega), Nat.add_sub_cancel_left]
    · rw [Array.getElem?_eq_none (by simp; omega), Array.getElem?_eq_none (by omega)]
  · rw [hg 35, if_neg (by omega)]; kernel_rfl
theorem ones_obj {D T : Array Value} {k : Int} {A B E : Option Addr} {n c m d q r : Nat} (hs : D.size = 36) (h0 : D[0]? = some (.int .i64 k)) (h1 : D[1]? = some (.slice A n c)) (h2 : D[2]? = some (.slice B m d)) (h3 : D.extract 3 35 = T) (hT : ArrEq.u8s 32 T = true) (h4 : D[35]? = some (.slice E q r)) : ones D = true := by
  unfold ones
  rw [Array.all_eq_true]
  intro i hi
  have key : ∀ v, D[i]? = some v → v.oneCell' = true → D[i].oneCell' = true := fun v h h' => by
    rw [Array.getElem?_eq_getElem hi] at h
    injection h with h
    rw [h]; exact h'
  by_cases hm : 3 ≤ i ∧ i < 35
  · have e : D[i]? = T[i - 3]? := by
      rw [← h3, Array.getElem?_extract, if_pos (by omega), show 3 + (i - 3) = i by omega]
    rw [ArrEq.u8s_at hT (show i - 3 < 32 by omega)] at e
    exact key _ e rfl
  · have : i = 0 ∨ i = 1 ∨ i = 2 ∨ i = 35 := by omega
    rcases this with rfl | rfl | rfl | rfl
    · exact key _ h0 rfl
    · exact key _ h1 rfl
    · exact key _ h2 rfl
    · exact key _ h4 rfl
/-- The reference's object of noughts. -/
def zero36 : Array Value := zObj 0 none 0 0
theorem zero36_lit : (#[.int .i64 0, .slice none 0 0, .slice none 0 0, .int .u8 0, .int .u8 0, .int .u8 0, .int .u8 0, .int .u8 0, .int .u8 0, .int .u8 0, .int .u8 0, .int .u8 0, .int .u8 0, .int .u8 0, .int .u8 0, .int .u8 0, .int .u8 0, .int .u8 0, .int .u8 0, .int .u8 0, .int .u8 0, .int .u8 0, .int .u8 0, .int .u8 0, .int .u8 0, .int .u8 0, .int .u8 0, .int .u8 0, .int .u8 0, .int .u8 0, .int .u8 0, .int .u8 0, .int .u8 0, .int .u8 0, .int .u8 0, .slice none 0 0] : Array Value) = zero36 := by kernel_rfl
theorem zero36_size : zero36.size = 36 := zObj_size _ _ _ _
theorem st33 (w : World) (C C' : Array Value) (g : Nat) (hg : g = w.heap.size) (h1 : C.size = 36) (h2 : C'.size = 36) (h3 : ones C' = true) :
    (storeVar 33 ⟨g, 0, none⟩ (.agg C')).run Tryd.prog (w.alloc (.cells C 33)) = .ok () (w.alloc (.cells C' 33)) :=
  var_new 36 (by kernel_rfl) w C C' g hg h1 h2 h3
theorem st33m (w : World) (C Z D D' : Array Value) (g : Nat) (hg : g = w.heap.size + 1) (h1 : Z.size = 36) (h2 : D'.size = 36) (h3 : ones D' = true) :
    (storeVar 33 ⟨g, 0, none⟩ (.agg D')).run Tryd.prog (((w.alloc (.cells C 28)).alloc (.cells Z 33)).alloc (.cells D 33)) = .ok () (((w.alloc (.cells C 28)).alloc (.cells D' 33)).alloc (.cells D 33)) := by
  subst hg
  rw [store_row 36 (by kernel_rfl) _ _ _ (by simp [go_sem, h1]) h2 h3]
  congr 1
  simp only [World.setRow, World.alloc]
  congr 1
  apply Array.ext_getElem?
  intro i
  rw [Array.getElem?_modify]
  by_cases hi : w.heap.size + 1 = i
  · subst hi
    rw [if_pos rfl, Array.getElem?_push, if_neg (by simp), Array.getElem?_push, if_pos (by simp), Array.getElem?_push, if_neg (by simp), Array.getElem?_push, if_pos (by simp)]
    rfl
  · simp [hi, Array.getElem?_push, Ne.symm hi]
theorem ld33 (w : World) (b o : Nat) (h : hasRange w b o 36 = true) : (loadVar 33 ⟨b, o, none⟩).run Tryd.prog w = .ok (.agg (rangeOf w b o 36)) w :=
  var_range 36 Tryd.underlying33 rfl (by kernel_rfl) w b o h
/-- The cells of the first i elements. -/
def flat (f : Nat → Array Value) : Nat → List Value
  | 0 => []
  | i + 1 => flat f i ++ (f i).toList
theorem flat_len (f : Nat → Array Value) (m : Nat) : ∀ n, (∀ i, i < n → (f i).size = m) → (flat f n).length = n * m
  | 0, _ => by simp [flat]
  | n + 1, h => by
    simp only [flat, List.length_append, Array.length_toList]
    rw [flat_len f m n (fun i hi => h i (by omega)), h n (by omega), Nat.succ_mul]
theorem flat_get (f : Nat → Array Value) (m : Nat) : ∀ n i j, (∀ i, i < n → (f i).size = m) → i < n → j < m → (flat f n)[i * m + j]? = (f i)[j]?
  | 0, i, j, _, hi, _ => by omega
  | n + 1, i, j, h, hi, hj => by
    have hl := flat_len f m n (fun i hi => h i (by omega))
    simp only [flat]
    by_cases hn : i < n
    · have : (i + 1) * m ≤ n * m := Nat.mul_le_mul_right m hn
      rw [Nat.succ_mul] at this
      rw [List.getElem?_append_left (by omega)]
      exact flat_get f m n i j (fun i hi => h i (by omega)) hn hj
    · have : i = n := by omega
      subst this
      rw [List.getElem?_append_right (by omega), hl, Nat.add_sub_cancel_left]
      simp
/-- What a call owns as a row, as elements. -/
theorem own_elems {w : World} {base : Nat} {e : TypeId} {m : Nat} {A : Option Addr} {n c : Nat} {f : Nat → Array Value} (h : w.ownsRow base e m (.slice A n c) n (flat f n)) (hf : ∀ i, i < n → (f i).size = m) : Elems w A n m f := fun hn => by
  rcases h.2 with ⟨_, h0⟩ | ⟨g, cap, cur, hv, hb, hg, hc1, hc2, hc3, hc4⟩
  · omega
  · injection hv with h1 h2 h3
    subst h1
    refine ⟨g, 0, rfl, (Array.getElem?_eq_some_iff.1 hg).1, fun i hi => ?_⟩
    have hle : (i + 1) * m ≤ n * m := Nat.mul_le_mul_right m hi
    have hle2 : n * m ≤ cap * m := Nat.mul_le_mul_right m hc1
    rw [Nat.succ_mul] at hle
    have hcell : ∀ j, j < m → w.cell? ⟨g, 0 + i * m + j, none⟩ = (f i)[j]? := fun j hj => by
      rw [cell_of_row _ _ _ _ _ _ hg, ← flat_get f m n i j hf hi hj, ← hc4, List.getElem?_take_of_lt (by omega)]
      simp
    constructor
    · unfold hasRange
      rw [List.all_eq_true]
      intro j hj
      have hj' := List.mem_range.1 hj
      rw [hcell j hj', Array.getElem?_eq_getElem (by rw [hf i hi]; exact hj')]
      rfl
    · apply Array.ext_getElem?
      intro j
      by_cases hj : j < m
      · simp only [rangeOf, List.getElem?_toArray, List.getElem?_map, List.getElem?_range hj, Option.map_some]
        rw [hcell j hj, Array.getElem?_eq_getElem (by rw [hf i hi]; exact hj)]
        rfl
      · rw [Array.getElem?_eq_none (by rw [size_rangeOf]; omega), Array.getElem?_eq_none (by rw [hf i hi]; omega)]
theorem own_setRow {w : World} {base : Nat} {e : TypeId} {m : Nat} {v : Value} {n : Nat} {xs : List Value} (h : w.ownsRow base e m v n xs) {b : Nat} (hb : b < base) (C : Array Value) : (w.setRow b C).ownsRow base e m v n xs := by
  refine ⟨h.1, ?_⟩
  rcases h.2 with h2 | ⟨g, cap, cur, hv, hg, hh, r⟩
  · exact .inl h2
  · exact .inr ⟨g, cap, cur, hv, hg, (setRow_other _ _ _ _ (by omega)).trans hh, r⟩
theorem own_form {w : World} {base : Nat} {e : TypeId} {m : Nat} {v : Value} {n : Nat} {xs : List Value} (h : w.ownsRow base e m v n xs) : ∃ A c, v = .slice A n c := by
  rcases h.2 with ⟨rfl, rfl⟩ | ⟨g, cap, cur, rfl, _⟩
  · exact ⟨_, _, rfl⟩
  · exact ⟨_, _, rfl⟩
theorem id_ones {X : Array Value} (h : ArrEq.u8s 32 X = true) (hs : X.size = 32) : ones X = true := by
  unfold ones
  rw [Array.all_eq_true]
  intro i hi
  have e := ArrEq.u8s_at h (show i < 32 by omega)
  rw [Array.getElem?_eq_getElem hi] at e
  injection e with e
  rw [e]; rfl
theorem Below.range {B : Nat} {W w : World} (hb : Below B W w) (b o n : Nat) (h : b < B) : rangeOf w b o n = rangeOf W b o n ∧ hasRange w b o n = hasRange W b o n :=
  ⟨range_of (hb.block b h), has_of (hb.block b h)⟩
theorem ent_ones {X : Array Value} (h : ArrEq.isEnt X = true) (hs : X.size = 33) : ones X = true := by
  unfold ones
  rw [Array.all_eq_true]
  intro i hi
  have hu : ArrEq.u8s 32 (X.extract 1 33) = true := by unfold ArrEq.isEnt at h; exact (Bool.and_eq_true _ _ ▸ h).2
  by_cases h0 : i = 0
  · subst h0
    have := ArrEq.ent_text h
    rw [Array.getElem?_eq_getElem hi] at this
    injection this with this
    rw [this]; rfl
  · have e : X[i]? = (X.extract 1 33)[i - 1]? := by
      rw [Array.getElem?_extract, if_pos (by omega), show 1 + (i - 1) = i by omega]
    rw [ArrEq.u8s_at hu (show i - 1 < 32 by omega), Array.getElem?_eq_getElem hi] at e
    injection e with e
    rw [e]; rfl
theorem st72 (w : World) (C C' : Array Value) (g : Nat) (hg : g = w.heap.size) (h1 : C.size = 33) (h2 : C'.size = 33) (h3 : ones C' = true) :
    (storeVar 72 ⟨g, 0, none⟩ (.agg C')).run Tryd.prog (w.alloc (.cells C 72)) = .ok () (w.alloc (.cells C' 72)) :=
  var_new 33 (by kernel_rfl) w C C' g hg h1 h2 h3
theorem zEnt_lit : (#[.string ⟨#[]⟩, .int .u8 0, .int .u8 0, .int .u8 0, .int .u8 0, .int .u8 0, .int .u8 0, .int .u8 0, .int .u8 0, .int .u8 0, .int .u8 0, .int .u8 0, .int .u8 0, .int .u8 0, .int .u8 0, .int .u8 0, .int .u8 0, .int .u8 0, .int .u8 0, .int .u8 0, .int .u8 0, .int .u8 0, .int .u8 0, .int .u8 0, .int .u8 0, .int .u8 0, .int .u8 0, .int .u8 0, .int .u8 0, .int .u8 0, .int .u8 0, .int .u8 0, .int .u8 0] : Array Value) = zEnt := by kernel_rfl
theorem st30 (w : World) (b o : Nat) (p : Option Addr) (n c : Nat) (ho : o < 36) (h : isRow w b 36 = true) : (storeVar 30 ⟨b, o, none⟩ (.slice p n c)).run Tryd.prog w = .ok () (w.setCell ⟨b, o, none⟩ (.slice p n c)) :=
  store_slot (by kernel_rfl) w b o 36 _ h ho rfl rfl
theorem st31 (w : World) (b o : Nat) (p : Option Addr) (n c : Nat) (ho : o < 36) (h : isRow w b 36 = true) : (storeVar 31 ⟨b, o, none⟩ (.slice p n c)).run Tryd.prog w = .ok () (w.setCell ⟨b, o, none⟩ (.slice p n c)) :=
  store_slot (by kernel_rfl) w b o 36 _ h ho rfl rfl
theorem st33r (w : World) (b : Nat) (C : Array Value) (h : isRow w b 36 = true) (h2 : C.size = 36) (h3 : ones C = true) : (storeVar 33 ⟨b, 0, none⟩ (.agg C)).run Tryd.prog w = .ok () (w.setRow b C) :=
  store_row 36 (by kernel_rfl) w b C h h2 h3
attribute [-go_sem] Instr.build Instr.buildSlice
attribute [local go_sem] zero36_lit zero36_size zEnt_lit zEnt_size
/-- The new object as it lies in its block while its slices grow. -/
structure Grow (W wr : World) (g : Nat) (k : Int) (A : Option Addr) (n c : Nat) (T : Array Value) (v : Value) (q : Value) : Prop where
  below : Below g W wr
  row : isRow wr g 36 = true
  lt : g < W.heap.size
  c0 : wr.cell? ⟨g, 0, none⟩ = some (.int .i64 k)
  c1 : wr.cell? ⟨g, 1, none⟩ = some (.slice A n c)
  c2 : wr.cell? ⟨g, 2, none⟩ = some v
  r3 : rangeOf wr g 3 32 = T
  c35 : wr.cell? ⟨g, 35, none⟩ = some q
theorem Grow.put2 {W wr : World} {g : Nat} {k : Int} {A : Option Addr} {n c : Nat} {T : Array Value} {v q : Value} (h : Grow W wr g k A n c T v q) {w1 : World} (hb : Below g wr w1) (hk : w1.heap[g]? = wr.heap[g]?) (u : Value) :
    Grow W (w1.setCell ⟨g, 2, none⟩ u) g k A n c T u q := by
  have hr : isRow w1 g 36 = true := (isRow_of hk).trans h.row
  have hc := fun o => World.cell?_of_block (w := wr) (w' := w1) (a := ⟨g, o, none⟩) hk
  refine ⟨(h.below.trans hb).setCell (Nat.le_refl _) _, isRow_setCell _ _ _ _ _ _ hr, h.lt, ?_, ?_, cell_setCell_here hr (by omega), ?_, ?_⟩
  · rw [cell_setCell_off _ _ _ _ _ (by omega), hc]; exact h.c0
  · rw [cell_setCell_off _ _ _ _ _ (by omega), hc]; exact h.c1
  · rw [range_setCell_off _ _ _ _ _ _ (by omega), range_of hk]; exact h.r3
  · rw [cell_setCell_off _ _ _ _ _ (by omega), hc]; exact h.c35
theorem Grow.put35 {W wr : World} {g : Nat} {k : Int} {A : Option Addr} {n c : Nat} {T : Array Value} {v q : Value} (h : Grow W wr g k A n c T v q) {w1 : World} (hb : Below g wr w1) (hk : w1.heap[g]? = wr.heap[g]?) (u : Value) :
    Grow W (w1.setCell ⟨g, 35, none⟩ u) g k A n c T v u := by
  have hr : isRow w1 g 36 = true := (isRow_of hk).trans h.row
  have hc := fun o => World.cell?_of_block (w := wr) (w' := w1) (a := ⟨g, o, none⟩) hk
  refine ⟨(h.below.trans hb).setCell (Nat.le_refl _) _, isRow_setCell _ _ _ _ _ _ hr, h.lt, ?_, ?_, ?_, ?_, cell_setCell_here hr (by omega)⟩
  · rw [cell_setCell_off _ _ _ _ _ (by omega), hc]; exact h.c0
  · rw [cell_setCell_off _ _ _ _ _ (by omega), hc]; exact h.c1
  · rw [cell_setCell_off _ _ _ _ _ (by omega), hc]; exact h.c2
  · rw [range_setCell_off _ _ _ _ _ _ (by omega), range_of hk]; exact h.r3
/-- What Of answers of an object that lies as told. -/
def OfPost (w : World) (C : Array Value) (k : Int) (A : Option Addr) (n c : Nat) (xs : List Int) (ne : Nat) (ef : Nat → Array Value) (np : Nat) (pf : Nat → Array Value) (x : Ending) (w' : World) : Prop :=
  ∃ D b E' ce' Q' cp', x = .returned (.tuple #[.agg D, .bool b]) ∧ (D.size = 36 ∧ ones D = true) ∧ Below w.heap.size w w' ∧ (b = true → ObjAt w' D k A n c xs E' ne ce' ef Q' np cp' pf ∧ D.extract 3 35 = C.extract 3 35) ∧
    (b = false → 400 < n ∨ 20 < ne ∨ 20 < np ∨ ∃ i, i < ne ∧ 100 < (ArrEq.textOf (ef i)).size)
set_option maxRecDepth 20000 in
set_option maxHeartbeats 1000000 in
theorem of_any (C : Array Value) (k : Int) (A : Option Addr) (n c : Nat) (xs : List Int) (E : Option Addr) (ne ce : Nat) (ef : Nat → Array Value) (Q : Option Addr) (np cp : Nat) (pf : Nat → Array Value) (w : World)
    (HC : ObjAt w C k A n c xs E ne ce ef Q np cp pf) :
    Calls Tryd.prog 12 #[.agg C] w (OfPost w C k A n c xs ne ef np pf) := by
  have hC : 35 ≤ C.size := by rw [HC.size]; decide
  obtain ⟨_, h0, h1, h2, u1, h4, _, _, _, _, _, _, _, _⟩ := id HC
  have KC := Lib.hid HC
  clear HC
  rename_i a1 a2 a3 a4 a5 a6 a7 a8 a9
  clear a1 a2 a3 a4 a5 a6 a7 a8 a9
  have l25 := ld25
  obtain ⟨D, hbd, ds, d0, d1, d2, d3, d4⟩ := built33 k A n c (C.extract 3 35) (by rw [Array.size_extract]; omega)
  have dO := ones_obj ds d0 d1 d2 d3 u1 d4
  have s33 := st33
  have sm := st33m
  have l33 := ld33
  have dE := extract_all D 36 ds
  go_enter Tryd.func12, Tryd.ntmps12
  have hB0 : Below w.heap.size w (((w.alloc (.cells C 28)).alloc (.cells D 33)).alloc (.cells D 33)) := ba (ba (ba (Below.refl _ _) _) _) _
  by_cases hn : 400 < n
  · have hn' : (400 : Int) < (n : Int) := by omega
    go_wp2_with fail
    refine bodyPost_ret (v := .tuple #[.agg D, .bool false]) (by simp [results, Tryd.results12, go_sem, l33, ds, dE]) rfl ⟨D, false, E, ce, Q, cp, rfl, ⟨ds, dO⟩, hB0, fun h => absurd h (by decide), fun _ => .inl hn⟩
  have hn1 : ¬ (400 : Int) < (n : Int) := by omega
  by_cases hne : 20 < ne
  · have hne' : (20 : Int) < (ne : Int) := by omega
    go_wp2_with fail
    refine bodyPost_ret (v := .tuple #[.agg D, .bool false]) (by simp [results, Tryd.results12, go_sem, l33, ds, dE]) rfl ⟨D, false, E, ce, Q, cp, rfl, ⟨ds, dO⟩, hB0, fun h => absurd h (by decide), fun _ => .inr (.inl hne)⟩
  have hn2 : ¬ (20 : Int) < (ne : Int) := by omega
  by_cases hnp : 20 < np
  · have hnp' : (20 : Int) < (np : Int) := by omega
    go_wp2_with fail
    refine bodyPost_ret (v := .tuple #[.agg D, .bool false]) (by simp [results, Tryd.results12, go_sem, l33, ds, dE]) rfl ⟨D, false, E, ce, Q, cp, rfl, ⟨ds, dO⟩, hB0, fun h => absurd h (by decide), fun _ => .inr (.inr (.inl hnp))⟩
  have hn3 : ¬ (20 : Int) < (np : Int) := by omega
  go_wp2_with fail
  clear hB0 s33 sm hbd
  generalize hW1 : ((w.alloc (.cells C 28)).alloc (.cells zero36 33)).alloc (.cells D 33) = W1 at *
  have hz : W1.heap.size = w.heap.size + 3 := by rw [← hW1]; simp
  have hB1 : Below w.heap.size w W1 := by rw [← hW1]; exact ba (ba (ba (Below.refl _ _) _) _) _
  have x1 : W1.cell? ⟨w.heap.size, 2, none⟩ = some (.slice E ne ce) := by rw [← hW1]; simp [go_sem, h2]
  have x2 : W1.cell? ⟨w.heap.size, 35, none⟩ = some (.slice Q np cp) := by rw [← hW1]; simp [go_sem, h4]
  have x3 : isRow W1 (w.heap.size + 1) 36 = true := by rw [← hW1]; simp [go_sem]
  have G0 : Grow W1 W1 (w.heap.size + 2) k A n c (C.extract 3 35) (.slice none 0 0) (.slice none 0 0) := by
    have hb : W1.heap[w.heap.size + 2]? = some (.cells D 33 (0, 0)) := by
      rw [← hW1]
      have := heap_alloc_last ((w.alloc (.cells C 28)).alloc (.cells zero36 33)) (.cells D 33)
      simpa using this
    refine ⟨Below.refl _ _, ?_, by omega, ?_, ?_, ?_, ?_, ?_⟩
    · simp [isRow, hb, ds]
    · rw [cell_of_row _ _ _ _ _ _ hb, d0]
    · rw [cell_of_row _ _ _ _ _ _ hb, d1]
    · rw [cell_of_row _ _ _ _ _ _ hb, d2]
    · rw [← hW1]; simp [go_sem, ds, d3]
    · rw [cell_of_row _ _ _ _ _ _ hb, d4]
  have KG0 := Lib.hid G0
  have KW := Lib.hid hW1
  have KB := Lib.hid hB1
  clear hW1 G0 hB1
  go_loopw [36] (fun x wr => ∃ (i : Nat) (v : Value), i ≤ ne ∧ x = .int .i64 i ∧ Grow W1 wr (w.heap.size + 2) k A n c (C.extract 3 35) v (.slice none 0 0) ∧ wr.ownsRow (w.heap.size + 3) 74 33 v i (flat ef i)) (fun x _ => ne - (intOf x).toNat)
  case atStart => exact ⟨0, _, Nat.zero_le _, rfl, KG0.out, World.ownsRow_nil _ _ _ _⟩
  case round =>
    obtain ⟨i, v, hi, rfl, hG, hO⟩ := hrel
    have KG := Lib.hid hG
    have KO := Lib.hid hO
    clear hG hO
    by_cases hlt : i < ne
    · have v1 := KC.out.eok i hlt
      have vt := ArrEq.ent_text v1
      obtain ⟨b, o, rfl, hbl, hac⟩ := KC.out.eat (by omega)
      obtain ⟨a1, a2⟩ := hac i hlt
      have z1 : wr.cell? ⟨w.heap.size, 2, none⟩ = some (.slice (some ⟨b, o, none⟩) ne ce) := (KG.out.below.cell (by show w.heap.size < _; omega)).trans x1
      have hsz : w.heap.size + 3 ≤ wr.heap.size := by have := KG.out.below.size; omega
      have hbB := Below.range KG.out.below b (o + i * 33) 33 (by omega)
      have hbW := Below.range KB.out b (o + i * 33) 33 hbl
      have q1 : rangeOf wr b (o + i * 33) 33 = ef i := by rw [hbB.1, hbW.1, a2]
      have q2 : hasRange wr b (o + i * 33) 33 = true := by rw [hbB.2, hbW.2, a1]
      clear a1 a2 hac hbB hbW
      have g0 : wr.cell? ⟨w.heap.size + 1 + 1, 0, none⟩ = _ := KG.out.c0
      have g1 : wr.cell? ⟨w.heap.size + 1 + 1, 1, none⟩ = _ := KG.out.c1
      have g2 : wr.cell? ⟨w.heap.size + 1 + 1, 2, none⟩ = _ := KG.out.c2
      have g3 : rangeOf wr (w.heap.size + 1 + 1) 3 32 = _ := KG.out.r3
      have g4 : wr.cell? ⟨w.heap.size + 1 + 1, 35, none⟩ = _ := KG.out.c35
      have g5 : isRow wr (w.heap.size + 1 + 1) 36 = true := KG.out.row
      have g6 : hasRange wr (w.heap.size + 1 + 1) 0 36 = true := has_row g5 (by omega)
      have g7 : isRow wr (w.heap.size + 1) 36 = true := (isRow_of (KG.out.below.block _ (by omega))).trans x3
      have hl3 : w.heap.size + 1 + 1 < wr.heap.size := by omega
      have hl4 : w.heap.size + 1 < wr.heap.size := by omega
      have hr1 := size_rangeOf wr (w.heap.size + 1 + 1) 0 36
      have hr2 : ones (rangeOf wr (w.heap.size + 1 + 1) 0 36) = true := by
        obtain ⟨vA, vc, hv⟩ := own_form KO.out
        rw [hv] at g2
        exact ones_obj hr1 (rangeOf_get (by omega) (by rw [Nat.zero_add]; exact g0)) (rangeOf_get (by omega) (by rw [Nat.zero_add]; exact g1)) (rangeOf_get (by omega) (by rw [Nat.zero_add]; exact g2)) (rangeOf_extract _ _ _ _ _ _ (by omega)) (by rw [Nat.zero_add, g3]; exact u1) (rangeOf_get (by omega) (by rw [Nat.zero_add]; exact g4))
      have e33 : (ef i).size = 33 := by rw [← q1, size_rangeOf]
      have eo : ones (ef i) = true := ent_ones v1 e33
      have l72 := ld72
      have s72 := fun w C g hg h1 => st72 w C (ef i) g hg h1 e33 eo
      have e33' : 33 ≤ (ef i).size := by omega
      have e33k := Lib.hid e33
      have bs := bs30 (ef i) e33
      have bb := b74 (ef i) v1 e33
      clear e33
      have s33 := st33r
      have s30 := st30
      have hbl3 : b < wr.heap.size := by omega
      by_cases hbig : 100 < (ArrEq.textOf (ef i)).size
      · have hbig' : (100 : Int) < ((ArrEq.textOf (ef i)).size : Int) := by omega
        go_wp2_with fail
        have hrow : isRow (wr.alloc (.cells (ef i) 72)) (w.heap.size + 1) 36 = true := by rw [isRow_old _ _ _ _ hl4]; exact g7
        have hres := range_setRow_all hrow _ hr1
        have hhas : hasRange ((wr.alloc (.cells (ef i) 72)).setRow (w.heap.size + 1) (rangeOf wr (w.heap.size + 1 + 1) 0 36)) (w.heap.size + 1) 0 36 = true := has_row (isRow_setRow _ _ _ _ hrow hr1) (by omega)
        refine bodyPost_ret (v := .tuple #[.agg (rangeOf wr (w.heap.size + 1 + 1) 0 36), .bool false]) (by simp [results, Tryd.results12, go_sem, l33, hres, hhas]) rfl ⟨_, false, Q, ce, Q, cp, rfl, ⟨hr1, hr2⟩, ?_, fun h => absurd h (by decide), fun _ => .inr (.inr (.inr ⟨i, hlt, hbig⟩))⟩
        exact below_setRow ((KB.out.trans (KG.out.below.mono (by omega))).alloc (by omega) _) (by omega) _
      · have hbig' : ¬ (100 : Int) < ((ArrEq.textOf (ef i)).size : Int) := by omega
        obtain ⟨it, j1, j2, j3, j4⟩ := of_row row74
        have hnw : ∀ j u, (ef i).toList[j]? = some u → ((wr.alloc (.cells (ef i) 72)).alloc (.cells (ef i) 74)).cell? ((⟨wr.heap.size + 1, 0, none⟩ : Addr).add j) = some u :=
          World.news_of_block (by have := heap_alloc_last (wr.alloc (.cells (ef i) 72)) (.cells (ef i) 74); simpa using this)
        have hon : ∀ u ∈ (ef i).toList, u.oneCell' = true := fun u hu => by
          have := eo
          unfold ones at this
          exact Array.all_eq_true_iff_forall_mem.1 this u (by simpa using hu)
        have step : ∀ w1 : World, World.grownBy ((wr.alloc (.cells (ef i) 72)).alloc (.cells (ef i) 74)) w1 v.ownBlock → w1.heap[w.heap.size + 1 + 1]? = wr.heap[w.heap.size + 1 + 1]? ∧ Below (w.heap.size + 2) wr w1 ∧ isRow w1 (w.heap.size + 1 + 1) 36 = true ∧ w1.cell? ⟨w.heap.size + 1 + 1, 2, none⟩ = some v ∧ w1.frozen? ⟨w.heap.size + 1 + 1, 2, none⟩ = false := by
          intro w1 hgrow
          have hob := KO.out.lt
          have hne2 : some (w.heap.size + 1 + 1) ≠ v.ownBlock := fun e => by have := hob _ e.symm; omega
          have hk1 : w1.heap[w.heap.size + 1 + 1]? = wr.heap[w.heap.size + 1 + 1]? := by
            rw [hgrow.block _ (by simp; omega) hne2, Below.heap_alloc _ _ _ (by simp; omega), Below.heap_alloc _ _ _ (by omega)]
          have f1 : isRow w1 (w.heap.size + 1 + 1) 36 = true := (isRow_of hk1).trans g5
          exact ⟨hk1, (((Below.refl _ wr).alloc (by omega) _).alloc (by simp; omega) _).grown hgrow (by simp; omega) (fun k hk => by have := hob k hk; omega), f1, (World.cell?_of_block (w := wr) (w' := w1) (a := ⟨w.heap.size + 1 + 1, 2, none⟩) hk1).trans g2, frozen_row f1 2⟩
        go_wp2_with (at_builtin; go_loud (refine wpList_append_lies _ rfl (.tmp 46) (.tmp 52) 30 rfl (w.heap.size + 3) 74 it (.agg zEnt) 33 48 Tryd.underlying30 j1 j2 j3 j4 zEnt_size (by decide) v i (flat ef i) rfl ((KO.out.alloc _).alloc _) ⟨wr.heap.size + 1, 0, none⟩ 1 1 (ef i).toList rfl (by simpa using e33k.out) hnw hon (by decide) (by unfold maxLen; omega) (by omega) (by simp; omega) _ rfl ?_); intro gn cn w1 hown hgrow hat hltn; obtain ⟨hk1, hb1, f1, f2, f3⟩ := step _ hgrow)
        go_round
        case rel =>
          exact ⟨i + 1, _, by omega, by go_num, KG.out.put2 hb1 hk1 _, ownsRow_setCell_below hown (by show w.heap.size + 1 + 1 < _; omega) _⟩
        case measure => simp [intOf]; omega
    · have hie : i = ne := by omega
      subst hie
      have z2 : wr.cell? ⟨w.heap.size, 35, none⟩ = some (.slice Q np cp) := (KG.out.below.cell (by show w.heap.size < _; omega)).trans x2
      go_wp2_with fail
      obtain ⟨W2, rfl⟩ : ∃ x, x = wr := ⟨_, rfl⟩
      have hW2 : w.heap.size + 3 ≤ W2.heap.size := by have := KG.out.below.size; omega
      have hvb := Lib.hid (fun k hk => (KO.out.lt k hk).2)
      go_loopw [59] (fun x wt => ∃ (j : Nat) (q : Value), j ≤ np ∧ x = .int .i64 j ∧ Grow W1 wt (w.heap.size + 2) k A n c (C.extract 3 35) v q ∧ W2.heap.size ≤ wt.heap.size ∧ wt.ownsRow (w.heap.size + 3) 74 33 v i (flat ef i) ∧ wt.ownsRow W2.heap.size 24 32 q j (flat pf j)) (fun x _ => np - (intOf x).toNat)
      case atStart => exact ⟨0, _, Nat.zero_le _, rfl, KG.out, Nat.le_refl _, KO.out, World.ownsRow_nil _ _ _ _⟩
      case round =>
        obtain ⟨j, q, hj, rfl, hG2, hsz2, hO2, hP2⟩ := hrel
        have KG2 := Lib.hid hG2
        have KO2 := Lib.hid hO2
        have KP2 := Lib.hid hP2
        clear hG2 hO2 hP2
        have hszr : w.heap.size + 3 ≤ wr.heap.size := by have := KG2.out.below.size; omega
        have g0 : wr.cell? ⟨w.heap.size + 1 + 1, 0, none⟩ = _ := KG2.out.c0
        have g1 : wr.cell? ⟨w.heap.size + 1 + 1, 1, none⟩ = _ := KG2.out.c1
        have g2 : wr.cell? ⟨w.heap.size + 1 + 1, 2, none⟩ = _ := KG2.out.c2
        have g3 : rangeOf wr (w.heap.size + 1 + 1) 3 32 = _ := KG2.out.r3
        have g4 : wr.cell? ⟨w.heap.size + 1 + 1, 35, none⟩ = _ := KG2.out.c35
        have g5 : isRow wr (w.heap.size + 1 + 1) 36 = true := KG2.out.row
        have g6 : hasRange wr (w.heap.size + 1 + 1) 0 36 = true := has_row g5 (by omega)
        have g7 : isRow wr (w.heap.size + 1) 36 = true := (isRow_of (KG2.out.below.block _ (by omega))).trans x3
        have hl3 : w.heap.size + 1 + 1 < wr.heap.size := by omega
        have hl4 : w.heap.size + 1 < wr.heap.size := by omega
        have hr1 := size_rangeOf wr (w.heap.size + 1 + 1) 0 36
        obtain ⟨qA, qc, hq⟩ := own_form KP2.out
        obtain ⟨vA, vc, hv⟩ := own_form KO2.out
        have Kq := Lib.hid hq
        have Kv := Lib.hid hv
        clear hq hv
        have hr2 : ones (rangeOf wr (w.heap.size + 1 + 1) 0 36) = true := by
          rw [Kv.out] at g2
          rw [Kq.out] at g4
          exact ones_obj hr1 (rangeOf_get (by omega) (by rw [Nat.zero_add]; exact g0)) (rangeOf_get (by omega) (by rw [Nat.zero_add]; exact g1)) (rangeOf_get (by omega) (by rw [Nat.zero_add]; exact g2)) (rangeOf_extract _ _ _ _ _ _ (by omega)) (by rw [Nat.zero_add, g3]; exact u1) (rangeOf_get (by omega) (by rw [Nat.zero_add]; exact g4))
        by_cases hlt : j < np
        · have v1 := KC.out.qok j hlt
          obtain ⟨b, o, rfl, hbl, hac⟩ := KC.out.qat (by omega)
          obtain ⟨a1, a2⟩ := hac j hlt
          have hbB := Below.range KG2.out.below b (o + j * 32) 32 (by omega)
          have hbW := Below.range KB.out b (o + j * 32) 32 hbl
          have q1 : rangeOf wr b (o + j * 32) 32 = pf j := by rw [hbB.1, hbW.1, a2]
          have q2 : hasRange wr b (o + j * 32) 32 = true := by rw [hbB.2, hbW.2, a1]
          clear a1 a2 hac hbB hbW
          have e32 : (pf j).size = 32 := by rw [← q1, size_rangeOf]
          have eo : ones (pf j) = true := id_ones v1 e32
          have s25 := fun w C g hg h1 => st25 w C (pf j) g hg h1 e32 eo
          have e32k := Lib.hid e32
          have bs := bs31 (pf j) e32
          have s31 := st31
          have hbl3 : b < wr.heap.size := by omega
          obtain ⟨it, j1, j2, j3, j4⟩ := of_row row24
          have hnw : ∀ y u, (pf j).toList[y]? = some u → ((wr.alloc (.cells (pf j) 25)).alloc (.cells (pf j) 24)).cell? ((⟨wr.heap.size + 1, 0, none⟩ : Addr).add y) = some u :=
            World.news_of_block (by have := heap_alloc_last (wr.alloc (.cells (pf j) 25)) (.cells (pf j) 24); simpa using this)
          have hon : ∀ u ∈ (pf j).toList, u.oneCell' = true := fun u hu => by
            have := eo
            unfold ones at this
            exact Array.all_eq_true_iff_forall_mem.1 this u (by simpa using hu)
          have e32' : 32 ≤ (pf j).size := by omega
          have hpe := extract_all (pf j) 32 e32
          have step : ∀ w1 : World, World.grownBy ((wr.alloc (.cells (pf j) 25)).alloc (.cells (pf j) 24)) w1 q.ownBlock → w1.heap[w.heap.size + 1 + 1]? = wr.heap[w.heap.size + 1 + 1]? ∧ Below (w.heap.size + 2) wr w1 ∧ isRow w1 (w.heap.size + 1 + 1) 36 = true ∧ W2.heap.size ≤ w1.heap.size ∧ w1.ownsRow (w.heap.size + 3) 74 33 v i (flat ef i) := by
            intro w1 hgrow
            have hob := KP2.out.lt
            have hne2 : some (w.heap.size + 1 + 1) ≠ q.ownBlock := fun e => by have := hob _ e.symm; omega
            have hk1 : w1.heap[w.heap.size + 1 + 1]? = wr.heap[w.heap.size + 1 + 1]? := by
              rw [hgrow.block _ (by simp; omega) hne2, Below.heap_alloc _ _ _ (by simp; omega), Below.heap_alloc _ _ _ (by omega)]
            have f1 : isRow w1 (w.heap.size + 1 + 1) 36 = true := (isRow_of hk1).trans g5
            refine ⟨hk1, (((Below.refl _ wr).alloc (by omega) _).alloc (by simp; omega) _).grown hgrow (by simp; omega) (fun k hk => by have := hob k hk; omega), f1, ?_, ?_⟩
            · have := hgrow.size; simp at this; omega
            · refine ((KO2.out.alloc _).alloc _).kept hgrow ?_
              cases hvo : v.ownBlock with
              | none => exact .inl rfl
              | some x =>
                right
                intro e
                have h1 := hvb.out x hvo
                have h2 := hob x e.symm
                omega
          clear e32
          go_wp2_with (at_builtin; go_loud (refine wpList_append_lies _ rfl (.tmp 64) (.tmp 66) 31 rfl W2.heap.size 24 it (.agg zero32) 32 32 Tryd.underlying31 j1 j2 j3 j4 zero_size (by decide) q j (flat pf j) rfl ((KP2.out.alloc _).alloc _) ⟨wr.heap.size + 1, 0, none⟩ 1 1 (pf j).toList rfl (by simpa using e32k.out) hnw hon (by decide) (by unfold maxLen; omega) (by omega) (by simp; omega) _ rfl ?_); intro gn cn w1 hown hgrow hat hltn; obtain ⟨hk1, hb1, f1, f4, f5⟩ := step _ hgrow)
          go_round
          case rel =>
            exact ⟨j + 1, _, by omega, by go_num, KG2.out.put35 hb1 hk1 _, by simpa using f4, ownsRow_setCell_below f5 (by show w.heap.size + 1 + 1 < _; omega) _, ownsRow_setCell_below hown (by show w.heap.size + 1 + 1 < _; omega) _⟩
          case measure => simp [intOf]; omega
        · have hje : j = np := by omega
          subst hje
          have s33 := st33r
          go_wp2_with fail
          generalize hDD : rangeOf wr (w.heap.size + 1 + 1) 0 36 = DD at *
          have hres := range_setRow_all g7 DD hr1
          have hhas : hasRange (wr.setRow (w.heap.size + 1) DD) (w.heap.size + 1) 0 36 = true := has_row (isRow_setRow _ _ _ _ g7 hr1) (by omega)
          have hBw : Below w.heap.size w (wr.setRow (w.heap.size + 1) DD) := below_setRow (KB.out.trans (KG2.out.below.mono (by omega))) (by omega) _
          rw [Kv.out] at g2
          rw [Kq.out] at g4
          have ho1 : (wr.setRow (w.heap.size + 1) DD).ownsRow (w.heap.size + 3) 74 33 (.slice vA i vc) i (flat ef i) := Kv.out ▸ own_setRow KO2.out (by omega) _
          have ho2 : (wr.setRow (w.heap.size + 1) DD).ownsRow W2.heap.size 24 32 (.slice qA j qc) j (flat pf j) := Kq.out ▸ own_setRow KP2.out (by omega) _
          refine bodyPost_ret (v := .tuple #[.agg DD, .bool true]) (by simp [results, Tryd.results12, go_sem, l33, hres, hhas]) rfl ⟨DD, true, vA, vc, qA, qc, rfl, ⟨hr1, hr2⟩, hBw, fun _ => ⟨⟨hr1, ?_, ?_, ?_, ?_, ?_, KC.out.len, bytesIn_below KC.out.bytes hBw, own_elems ho1 (fun i hi => ?_), KC.out.eok, own_elems ho2 (fun i hi => ?_), KC.out.qok, KC.out.emax, KC.out.qmax⟩, ?_⟩, fun h => absurd h (by decide)⟩
          · rw [← hDD]; exact rangeOf_get (by omega) (by rw [Nat.zero_add]; exact g0)
          · rw [← hDD]; exact rangeOf_get (by omega) (by rw [Nat.zero_add]; exact g1)
          · rw [← hDD]; exact rangeOf_get (by omega) (by rw [Nat.zero_add]; exact g2)
          · rw [← hDD, rangeOf_extract _ _ _ _ _ _ (by omega), Nat.zero_add, g3]; exact u1
          · rw [← hDD]; exact rangeOf_get (by omega) (by rw [Nat.zero_add]; exact g4)
          · obtain ⟨b, o, _, _, hac⟩ := KC.out.eat (by omega)
            rw [← (hac i hi).2, size_rangeOf]
          · obtain ⟨b, o, _, _, hac⟩ := KC.out.qat (by omega)
            rw [← (hac i hi).2, size_rangeOf]
          · rw [← hDD, rangeOf_extract _ _ _ _ _ _ (by omega), Nat.zero_add, g3]
end Go.Proofs.YtdpiplllcinieaaDoor
