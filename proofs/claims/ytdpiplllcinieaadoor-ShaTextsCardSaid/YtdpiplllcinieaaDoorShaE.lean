/- Bytes appended to bytes; parts laid end to end. -/
import Derived.Test.YtdpiplllcinieaaDoorShaD
import Derived.Lib.AppendZeros
import Derived.Maps.AppendAt
namespace Go.Proofs.YtdpiplllcinieaaDoor
open Go.RowKit Go.Stop Go.Extern Go.Ranges
set_option linter.unusedVariables false
set_option linter.unusedSimpArgs false
theorem bV_append (xs ys : List Int) : bV (xs ++ ys) = bV xs ++ bV ys := by simp [bV]
theorem bV_len (xs : List Int) : (bV xs).length = xs.length := by simp [bV]
theorem bV_one (xs : List Int) : ∀ u ∈ bV xs, u.oneCell' = true := fun u hu => by
  obtain ⟨x, _, rfl⟩ := List.mem_map.1 hu
  rfl
theorem bV_get {xs : List Int} {j : Nat} {u : Value} (h : (bV xs)[j]? = some u) : j < xs.length ∧ u = .int .u8 (xs.getD j 0) := by
  have hj : j < xs.length := by
    have := (List.getElem?_eq_some_iff.1 h).1
    rwa [bV_len] at this
  refine ⟨hj, ?_⟩
  simp only [bV, List.getElem?_map, List.getElem?_eq_getElem hj, Option.map_some] at h
  injection h with h
  rw [← h, List.getD_eq_getElem?_getD, List.getElem?_eq_getElem hj]
  rfl
/-- 'append(v, ys...)' of bytes, ys whatever: nil, or of no byte, too. -/
theorem app_bytes {w : World} {base : Nat} {v : Value} {n : Nat} {xs : List Int} (hown : w.ownsRow base 5 1 v n (bV xs)) (A : Option Addr) (m c : Nat) (ys : List Int) (hm : ys.length = m) (hB : Lib.BytesIn w A m ys) (hbase : base ≤ w.heap.size) (hs : n + m ≤ 1099511627776) :
    ∃ v' w', (Builtin.append_ #[22, 22] 22 #[v, .slice A m c]).run Tryd.prog w = .ok v' w' ∧ w'.ownsRow base 5 1 v' (n + m) (bV (xs ++ ys)) ∧ w.grownBy w' v.ownBlock := by
  obtain ⟨it, j1, j2, j3, j4⟩ := of_row1 row5
  by_cases h0 : m = 0
  · subst h0
    obtain rfl := List.eq_nil_of_length_eq_zero hm
    refine ⟨v, w, ?_, by simpa using hown, ⟨rfl, rfl, rfl, Nat.le_refl _, fun _ _ _ => rfl⟩⟩
    rcases hown.2 with ⟨rfl, rfl⟩ | ⟨g, cap, cur, rfl, _, hg, hcap, _⟩
    · cases A <;> simp [Builtin.append_, run_underlying Tryd.underlying22, Go.sizeOf, typeInfo, j1, j3, Builtin.lenOf, Builtin.firstCells, loadCells, loadCellsFrom]
    · cases A <;> simp [Builtin.append_, run_underlying Tryd.underlying22, Go.sizeOf, typeInfo, j1, j3, Builtin.lenOf, Builtin.firstCells, loadCells, loadCellsFrom, hcap, storeCells]
  · obtain ⟨b, o, rfl, hc⟩ := hB (by omega)
    obtain ⟨v', w', hr, ho, hgr, _⟩ := run_append_own_at (P := Tryd.prog) w base 22 22 5 it (.int .u8 0) 1 1 Tryd.underlying22 j1 j2 j3 j4 rfl (by decide) v n (bV xs) hown ⟨b, o, none⟩ m c (bV ys) (by rw [bV_len, hm, Nat.mul_one]) (fun j u hu => by
      obtain ⟨hj, rfl⟩ := bV_get hu
      rw [Go.WideShapes.add_plain]
      exact hc j (by omega)) (bV_one ys) (by unfold maxLen; omega) (by omega) hbase
    exact ⟨v', w', hr, by rw [bV_append]; exact ho, hgr⟩
/-- The first i parts, end to end. -/
def cat (f : Nat → List Int) : Nat → List Int
  | 0 => []
  | i + 1 => cat f i ++ f i
theorem cat_mono (f : Nat → List Int) {i m : Nat} (h : i ≤ m) : (cat f i).length ≤ (cat f m).length := by
  induction m with
  | zero => rw [Nat.le_zero.1 h]; exact Nat.le_refl _
  | succ m ih =>
    by_cases e : i = m + 1
    · subst e; exact Nat.le_refl _
    · have := ih (by omega)
      simp only [cat, List.length_append]
      omega
/-- How parts lie: each a slice of bytes. -/
def PartsAt (w : World) (A : Option Addr) (m : Nat) (f : Nat → List Int) : Prop :=
  0 < m → ∃ b o, A = some ⟨b, o, none⟩ ∧ b < w.heap.size ∧ ∀ i, i < m → ∃ B c, w.cell? ⟨b, o + i, none⟩ = some (.slice B (f i).length c) ∧ Lib.BytesIn w B (f i).length (f i)
theorem PartsAt.below {w w' : World} {A : Option Addr} {m : Nat} {f : Nat → List Int} (h : PartsAt w A m f) (hb : Below w.heap.size w w') : PartsAt w' A m f := fun hm => by
  obtain ⟨b, o, rfl, hlt, hc⟩ := h hm
  refine ⟨b, o, rfl, Nat.lt_of_lt_of_le hlt hb.size, fun i hi => ?_⟩
  obtain ⟨B, c, h1, h2⟩ := hc i hi
  exact ⟨B, c, (hb.cell (p := ⟨b, o + i, none⟩) hlt).trans h1, bytesIn_below' h2 hb⟩
set_option maxRecDepth 20000 in
theorem grow_nil (N : Nat) (hN : N ≤ 1099511627776) (w : World) :
    Calls Tryd.prog 62 #[.slice none 0 0, .int .i64 N] w fun e w' => ∃ v, e = .returned v ∧ Below w.heap.size w w' ∧ w'.ownsRow w.heap.size 5 1 v 0 [] := by
  obtain ⟨it, j1, j2, j3, j4⟩ := of_row1 row5
  by_cases h0 : N = 0
  · subst h0
    go_enter Tryd.func62, Tryd.ntmps62
    go_wp2
    go_ret
    exact ⟨_, rfl, Below.refl _ _, World.ownsRow_nil _ _ _ _⟩
  · have hp : (0 : Int) < N := by omega
    have hn : ¬ ((N : Int) < 0) := by omega
    have hr := Lib.run_append_nil_zeros (P := Tryd.prog) w 22 3 22 5 it (.int .u8 0) .i64 .i64 Tryd.underlying22 Tryd.underlying3 j1 j2 N (by omega) (by omega) (by omega) (by rw [j4]; omega)
    go_enter Tryd.func62, Tryd.ntmps62
    go_wp2_with (at_builtin; go_loud (refine Lib.wpList_append_run _ rfl (.tmp 20) (.tmp 21) 22 3 rfl _ _ rfl rfl _ _ hr ?_))
    have hge := grownCap_ge w N 0 5
    have hle := grownCap_le_maxLen w N 0 5 (by unfold maxLen; omega)
    go_ret
    refine ⟨_, rfl, ((Below.refl _ w).alloc (Nat.le_refl _) _).drew, by simp, .inr ⟨w.heap.size, _, _, rfl, Nat.le_refl _, heap_alloc_last w _, Nat.zero_le _, hle, ?_, by simp⟩⟩
    simp [size_zeroCells]
    omega
set_option maxRecDepth 20000 in
theorem concat_any (A : Option Addr) (m c : Nat) (f : Nat → List Int) (w : World) (hP : PartsAt w A m f) (hL : (cat f m).length ≤ 549755813888) (hm : m ≤ maxLen) :
    Calls Tryd.prog 42 #[.slice A m c] w fun e w' => ∃ v, e = .returned v ∧ Below w.heap.size w w' ∧ w'.ownsRow w.heap.size 5 1 v (cat f m).length (bV (cat f m)) := by
  have KP := Lib.hid hP
  have hm2 : (m : Int) ≤ 9223372036854775807 := by have := hm; unfold maxLen at this; omega
  have hmono := Lib.hid (fun i (hi : i ≤ m) => cat_mono f hi)
  clear hP hm
  go_enter Tryd.func42, Tryd.ntmps42
  go_wp2_with fail
  go_loopw [11, 3] (fun x y wr => ∃ i : Nat, i ≤ m ∧ x = .int .i64 i ∧ y = .int .i64 ((cat f i).length : Nat) ∧ w = wr) (fun x _ _ => m - (intOf x).toNat)
  case atStart => exact ⟨0, Nat.zero_le _, rfl, rfl, rfl⟩
  case round =>
    obtain ⟨i, hi, rfl, rfl, rfl⟩ := hrel
    by_cases hlt : i < m
    · obtain ⟨b, o, rfl, _, hc⟩ := KP.out (by omega)
      obtain ⟨B, cc, h1, _⟩ := hc i hlt
      clear hc
      have hs := hmono.out (i + 1) hlt
      have hs1 : (cat f (i + 1)).length = (cat f i).length + (f i).length := by simp [cat]
      have hs2 : Hid ((cat f (i + 1)).length = (cat f i).length + (f i).length) := hs1
      have hb1 : ((cat f i).length : Int) + ((f i).length : Int) ≤ 9223372036854775807 := by omega
      have hb2 : ¬ (((cat f i).length : Int) + ((f i).length : Int) < 0) := by omega
      clear hs hs1
      go_wp2_with fail
      go_round
      case rel => exact ⟨i + 1, by omega, by go_num, by rw [hs2.out]; go_num, by first | rfl | trivial⟩
      case measure => simp [intOf]; omega
    · have hie : i = m := by omega
      subst hie
      have hgr := grow_nil (cat f i).length (by omega) w
      have KG := Lib.hid hgr
      clear hgr
      go_wp2_with (go_at_call 62; refine KG.out.mono ?_; rintro e w1 ⟨v1, rfl, hb1, ho1⟩)
      have KB := Lib.hid hb1
      have KO := Lib.hid ho1
      have hsz := hb1.size
      clear hb1 ho1
      go_loopw [27, 6] (fun x y wr => ∃ (j : Nat) (v : Value), j ≤ i ∧ x = .int .i64 j ∧ v = y ∧ Below wr.heap.size wr wr ∧ Below w.heap.size w wr ∧ wr.ownsRow w.heap.size 5 1 v (cat f j).length (bV (cat f j))) (fun x _ _ => i - (intOf x).toNat)
      case atStart => exact ⟨0, _, Nat.zero_le _, rfl, rfl, Below.refl _ _, KB.out, KO.out⟩
      case round =>
        obtain ⟨j, v, hj, rfl, rfl, _, hB, hO⟩ := hrel
        have HB := Lib.hid hB
        have HO := Lib.hid hO
        have hsz3 := hB.size
        clear hB hO
        by_cases hlt : j < i
        · obtain ⟨b, o, rfl, hbl, hc⟩ := KP.out (by omega)
          obtain ⟨B, cc, h1, h2⟩ := hc j hlt
          clear hc
          have h1' : wr.cell? ⟨b, o + j, none⟩ = some (.slice B (f j).length cc) := (HB.out.cell (p := ⟨b, o + j, none⟩) hbl).trans h1
          have hs := hmono.out (j + 1) hlt
          have hs1 : (cat f (j + 1)).length = (cat f j).length + (f j).length := by simp [cat]
          obtain ⟨v', w', hr, ho', hg'⟩ := app_bytes HO.out B (f j).length cc (f j) rfl (bytesIn_below' h2 HB.out) hsz3 (by omega)
          have ho2 : w'.ownsRow w.heap.size 5 1 v' (cat f (j + 1)).length (bV (cat f (j + 1))) := hs1 ▸ ho'
          have K2 := Lib.hid ho2
          have Kg := Lib.hid hg'
          clear ho2 hg' ho' h1 h2 hs hs1
          go_wp2_with (at_builtin; go_loud (refine Lib.wpList_append_run _ rfl (.tmp 31) (.tmp 32) 22 22 rfl _ _ rfl rfl _ _ hr ?_))
          go_round
          case rel => exact ⟨j + 1, _, by omega, by go_num, rfl, Below.refl _ _, HB.out.grown Kg.out hsz3 (fun k hk => (HO.out.lt k hk).1), K2.out⟩
          case measure => simp [intOf]; omega
        · have hje : j = i := by omega
          subst hje
          go_wp2_with fail
          go_ret
          exact ⟨v, rfl, HB.out, HO.out⟩
end Go.Proofs.YtdpiplllcinieaaDoor
