/- Rows of ids and of entries: what slices.Equal answers of two. -/
import Derived.Test.YtdpiplllcinieaaDoorObjA
namespace Go.Proofs.YtdpiplllcinieaaDoor
open Go.RowKit Go.Stop Go.Extern Go.Ranges
set_option linter.unusedVariables false
set_option linter.unusedSimpArgs false
attribute [-go_sem] loadVar storeVar
attribute [local go_sem] loadVar_one storeVar_one
/-- How a slice of arrays or structs lies: each element's cells. -/
def Elems (w : World) (A : Option Addr) (n size : Nat) (f : Nat → Array Value) : Prop :=
  0 < n → ∃ b o, A = some ⟨b, o, none⟩ ∧ b < w.heap.size ∧ ∀ i, i < n → hasRange w b (o + i * size) size = true ∧ rangeOf w b (o + i * size) size = f i
theorem Elems.below {w w' : World} {A : Option Addr} {n size : Nat} {f : Nat → Array Value} (h : Elems w A n size f) (hb : Below w.heap.size w w') : Elems w' A n size f := fun hn => by
  obtain ⟨b, o, rfl, hlt, hc⟩ := h hn
  refine ⟨b, o, rfl, Nat.lt_of_lt_of_le hlt hb.size, fun i hi => ?_⟩
  obtain ⟨k1, k2⟩ := range_below hb b (o + i * size) size hlt
  rw [k1, k2]
  exact hc i hi
/-- Are two rows of ids the same? -/
def sameIds (n m : Nat) (f g : Nat → Array Value) : Bool := n == m && (List.range n).all fun i => ArrEq.arrEq 32 (f i) (g i)
theorem sameIds_no {n m : Nat} {f g : Nat → Array Value} (h : n ≠ m) : sameIds n m f g = false := by simp [sameIds, h]
theorem sameIds_hit {n : Nat} {f g : Nat → Array Value} {k : Nat} (hk : k < n) (h : ArrEq.arrEq 32 (f k) (g k) = false) : sameIds n n f g = false := by
  unfold sameIds
  rw [Bool.and_eq_false_iff]
  right
  rw [List.all_eq_false]
  exact ⟨k, List.mem_range.2 hk, by simp [h]⟩
theorem sameIds_all {n : Nat} {f g : Nat → Array Value} (h : ∀ j, j < n → ArrEq.arrEq 32 (f j) (g j) = true) : sameIds n n f g = true := by
  unfold sameIds
  simp only [BEq.rfl, Bool.true_and, List.all_eq_true, List.mem_range]
  exact h
theorem ret_b {a b : Bool} (h : a = b) : Ending.returned (.bool b) = .returned (.bool a) := by rw [h]
theorem below_drewN (w : World) (k : Nat) : Below w.heap.size w (w.drewN k) := ⟨rfl, rfl, rfl, Nat.le_refl _, fun _ _ => rfl⟩
theorem below_drewN2 (w : World) (j k : Nat) : Below w.heap.size w ((w.drewN j).drewN k) := ⟨rfl, rfl, rfl, Nat.le_refl _, fun _ _ => rfl⟩
theorem ids_any (A B : Option Addr) (n m c d : Nat) (f g : Nat → Array Value) (w : World) (hn : n ≤ maxLen) (hm : m ≤ maxLen) (HA : Elems w A n 32 f) (HB : Elems w B m 32 g) (hf : ∀ i, i < n → ArrEq.u8s 32 (f i) = true) (hg : ∀ i, i < m → ArrEq.u8s 32 (g i) = true) :
    Calls Tryd.prog 39 #[.slice A n c, .slice B m d] w fun x w' => x = .returned (.bool (sameIds n m f g)) ∧ Below w.heap.size w w' := by
  have HA' := Lib.hid HA
  have HB' := Lib.hid HB
  have Hf := Lib.hid hf
  have Hg := Lib.hid hg
  clear HA HB hf hg
  have hn2 : (n : Int) ≤ 9223372036854775807 := by have := hn; unfold maxLen at this; omega
  by_cases hnm : n = m
  · subst hnm
    have l25 := ld25
    have e25 := eq25 9998
    go_enter Tryd.func39, Tryd.ntmps39
    go_wp2_with fail
    go_loopw [13] (fun x wr => ∃ k j : Nat, k ≤ n ∧ x = .int .i64 k ∧ wr = w.drewN j ∧ ∀ j, j < k → ArrEq.arrEq 32 (f j) (g j) = true) (fun x _ => n - (intOf x).toNat)
    case atStart => exact ⟨0, 0, Nat.zero_le _, rfl, rfl, fun j hj => absurd hj (by omega)⟩
    case round =>
      obtain ⟨k, dn, hk, rfl, rfl, hbef⟩ := hrel
      have Hb := Lib.hid hbef
      clear hbef
      by_cases hlt : k < n
      · obtain ⟨b, o, rfl, _, ha⟩ := HA'.out (by omega)
        obtain ⟨b', o', rfl, _, hb⟩ := HB'.out (by omega)
        obtain ⟨a1, a2⟩ := ha k hlt
        obtain ⟨b1, b2⟩ := hb k hlt
        have u1 := Hf.out k hlt
        have u2 := Hg.out k hlt
        clear ha hb
        cases he : ArrEq.arrEq 32 (f k) (g k)
        · have H := Lib.hid (sameIds_hit hlt he)
          go_wp2_with fail
          go_quiet (fail)
          go_wp2_with fail
          go_ret
          exact ⟨ret_b H.out, by repeat (first | exact Below.refl _ _ | exact below_drewN _ _ | exact below_drewN2 _ _ _ | apply bd)⟩
        · go_wp2_with fail
          go_quiet (fail)
          go_wp2_with fail
          go_round
          case rel =>
            refine ⟨k + 1, dn + _, by omega, by go_num, rfl, fun j hj => ?_⟩
            by_cases hjk : j = k
            · subst hjk; exact he
            · exact Hb.out j (by omega)
          case measure => simp [intOf]; omega
      · have H := Lib.hid (sameIds_all (f := f) (g := g) (n := n) (fun j hj => Hb.out j (by omega)))
        go_wp2
        go_ret
        exact ⟨ret_b H.out, by repeat (first | exact Below.refl _ _ | exact below_drewN _ _ | exact below_drewN2 _ _ _ | apply bd)⟩
  · have H := Lib.hid (sameIds_no (f := f) (g := g) hnm)
    have hne : ((n : Int) != (m : Int)) = true := by simp; omega
    go_enter Tryd.func39, Tryd.ntmps39
    go_wp2
    go_ret
    exact ⟨ret_b H.out, by repeat (first | exact Below.refl _ _ | exact below_drewN _ _ | exact below_drewN2 _ _ _ | apply bd)⟩
theorem info25 : ∃ i, Tryd.prog.info? 25 = some i := Option.isSome_iff_exists.1 (by kernel_rfl)
theorem ld72 (w : World) (b o : Nat) (h : hasRange w b o 33 = true) : (loadVar 72 ⟨b, o, none⟩).run Tryd.prog w = .ok (.agg (rangeOf w b o 33)) w :=
  var_range 33 Tryd.underlying72 rfl (by kernel_rfl) w b o h
theorem eq72 (d : Nat) (w : World) (xs ys : Array Value) (hx : ArrEq.isEnt xs = true) (hy : ArrEq.isEnt ys = true) : (Op.equalIn (d + 3) 72 (.agg xs) (.agg ys)).run Tryd.prog w = .ok (ArrEq.entEq xs ys) w :=
  ArrEq.run_equalIn_ent (P := Tryd.prog) w Tryd.underlying72 (by kernel_rfl) (by decide) (by decide) rfl rfl rfl rfl Tryd.underlying9 Tryd.underlying25 info25.choose_spec (by kernel_rfl) info5.choose_spec Tryd.underlying5 (by kernel_rfl) (by kernel_rfl) hx hy
/-- Are two rows of entries the same? -/
def sameEnts (n m : Nat) (f g : Nat → Array Value) : Bool := n == m && (List.range n).all fun i => ArrEq.entEq (f i) (g i)
theorem sameEnts_no {n m : Nat} {f g : Nat → Array Value} (h : n ≠ m) : sameEnts n m f g = false := by simp [sameEnts, h]
theorem sameEnts_hit {n : Nat} {f g : Nat → Array Value} {k : Nat} (hk : k < n) (h : ArrEq.entEq (f k) (g k) = false) : sameEnts n n f g = false := by
  unfold sameEnts
  rw [Bool.and_eq_false_iff]
  right
  rw [List.all_eq_false]
  exact ⟨k, List.mem_range.2 hk, by simp [h]⟩
theorem sameEnts_all {n : Nat} {f g : Nat → Array Value} (h : ∀ j, j < n → ArrEq.entEq (f j) (g j) = true) : sameEnts n n f g = true := by
  unfold sameEnts
  simp only [BEq.rfl, Bool.true_and, List.all_eq_true, List.mem_range]
  exact h
theorem ents_any (A B : Option Addr) (n m c d : Nat) (f g : Nat → Array Value) (w : World) (hn : n ≤ maxLen) (hm : m ≤ maxLen) (HA : Elems w A n 33 f) (HB : Elems w B m 33 g) (hf : ∀ i, i < n → ArrEq.isEnt (f i) = true) (hg : ∀ i, i < m → ArrEq.isEnt (g i) = true) :
    Calls Tryd.prog 38 #[.slice A n c, .slice B m d] w fun x w' => x = .returned (.bool (sameEnts n m f g)) ∧ Below w.heap.size w w' := by
  have HA' := Lib.hid HA
  have HB' := Lib.hid HB
  have Hf := Lib.hid hf
  have Hg := Lib.hid hg
  clear HA HB hf hg
  have hn2 : (n : Int) ≤ 9223372036854775807 := by have := hn; unfold maxLen at this; omega
  by_cases hnm : n = m
  · subst hnm
    have l72 := ld72
    have e72 := eq72 9997
    go_enter Tryd.func38, Tryd.ntmps38
    go_wp2_with fail
    go_loopw [13] (fun x wr => ∃ k j : Nat, k ≤ n ∧ x = .int .i64 k ∧ wr = w.drewN j ∧ ∀ j, j < k → ArrEq.entEq (f j) (g j) = true) (fun x _ => n - (intOf x).toNat)
    case atStart => exact ⟨0, 0, Nat.zero_le _, rfl, rfl, fun j hj => absurd hj (by omega)⟩
    case round =>
      obtain ⟨k, dn, hk, rfl, rfl, hbef⟩ := hrel
      have Hb := Lib.hid hbef
      clear hbef
      by_cases hlt : k < n
      · obtain ⟨b, o, rfl, _, ha⟩ := HA'.out (by omega)
        obtain ⟨b', o', rfl, _, hb⟩ := HB'.out (by omega)
        obtain ⟨a1, a2⟩ := ha k hlt
        obtain ⟨b1, b2⟩ := hb k hlt
        have u1 := Hf.out k hlt
        have u2 := Hg.out k hlt
        clear ha hb
        cases he : ArrEq.entEq (f k) (g k)
        · have H := Lib.hid (sameEnts_hit hlt he)
          go_wp2_with fail
          go_quiet (fail)
          go_wp2_with fail
          go_ret
          exact ⟨ret_b H.out, by repeat (first | exact Below.refl _ _ | exact below_drewN _ _ | exact below_drewN2 _ _ _ | apply bd)⟩
        · go_wp2_with fail
          go_quiet (fail)
          go_wp2_with fail
          go_round
          case rel =>
            refine ⟨k + 1, dn + _, by omega, by go_num, rfl, fun j hj => ?_⟩
            by_cases hjk : j = k
            · subst hjk; exact he
            · exact Hb.out j (by omega)
          case measure => simp [intOf]; omega
      · have H := Lib.hid (sameEnts_all (f := f) (g := g) (n := n) (fun j hj => Hb.out j (by omega)))
        go_wp2
        go_ret
        exact ⟨ret_b H.out, by repeat (first | exact Below.refl _ _ | exact below_drewN _ _ | exact below_drewN2 _ _ _ | apply bd)⟩
  · have H := Lib.hid (sameEnts_no (f := f) (g := g) hnm)
    have hne : ((n : Int) != (m : Int)) = true := by simp; omega
    go_enter Tryd.func38, Tryd.ntmps38
    go_wp2
    go_ret
    exact ⟨ret_b H.out, by repeat (first | exact Below.refl _ _ | exact below_drewN _ _ | exact below_drewN2 _ _ _ | apply bd)⟩
end Go.Proofs.YtdpiplllcinieaaDoor
