/- The first primes. -/
import Derived.Test.YtdpiplllcinieaaDoorRootD
namespace Go.Proofs.YtdpiplllcinieaaDoor
open Go.RowKit Go.Stop Go.Extern Go.Ranges
set_option linter.unusedVariables false
set_option linter.unusedSimpArgs false
attribute [-go_sem] loadVar storeVar
attribute [local go_sem] loadVar_one storeVar_one
def newT (l : List Int) (p : Int) : Nat → Bool
  | 0 => true
  | j + 1 => newT l p j && (p % l.getD j 0 != 0)
def primesT : Nat → List Int
  | 0 => []
  | k + 1 => if newT (primesT k) ((k : Int) + 2) (primesT k).length then primesT k ++ [(k : Int) + 2] else primesT k
def u64V (xs : List Int) : List Value := xs.map (fun x => Value.int .u64 x)
theorem u64V_len (xs : List Int) : (u64V xs).length = xs.length := by simp [u64V]
theorem primesT_pos : ∀ k, ∀ x ∈ primesT k, 2 ≤ x
  | 0 => by simp [primesT]
  | k + 1 => fun x hx => by
    unfold primesT at hx
    split at hx
    · rcases List.mem_append.1 hx with h | h
      · exact primesT_pos k x h
      · rw [List.mem_singleton.1 h]; omega
    · exact primesT_pos k x hx
theorem primesT_get (k j : Nat) (h : j < (primesT k).length) : 2 ≤ (primesT k).getD j 0 := by
  rw [List.getD_eq_getElem?_getD, List.getElem?_eq_getElem h]
  exact primesT_pos k _ (List.getElem_mem h)
theorem primesT_mono {j k : Nat} (h : j ≤ k) : (primesT j).length ≤ (primesT k).length := by
  induction k with
  | zero => rw [Nat.le_zero.1 h]; exact Nat.le_refl _
  | succ k ih =>
    by_cases e : j = k + 1
    · subst e; exact Nat.le_refl _
    · have := ih (by omega)
      have hs : primesT (k + 1) = if newT (primesT k) ((k : Int) + 2) (primesT k).length then primesT k ++ [(k : Int) + 2] else primesT k := rfl
      rw [hs]
      split
      · rw [List.length_append]; omega
      · exact this
theorem own_at {w : World} {base : Nat} {e : TypeId} {v : Value} {n : Nat} {xs : List Int} (h : w.ownsRow base e 1 v n (u64V xs)) (hn : 0 < n) : ∃ g c, v = .slice (some ⟨g, 0, none⟩) n c ∧ base ≤ g ∧ U64At w (some ⟨g, 0, none⟩) n xs := by
  rcases h.2 with ⟨hv, h0⟩ | ⟨g', cap, cur, hv, hb, hg, hc1, _, hc3, hc4⟩
  · omega
  · subst hv
    exact ⟨g', cap, rfl, hb, own_u64 h⟩
set_option maxRecDepth 20000 in
set_option maxHeartbeats 4000000 in
theorem primes_any (h310 : (primesT 310).length = 64) (h309 : (primesT 309).length = 63) (w : World) :
    Calls Tryd.prog 45 #[.int .i64 64] w fun e w' => ∃ g c, e = .returned (.slice (some ⟨g, 0, none⟩) 64 c) ∧ Below w.heap.size w w' ∧ U64At w' (some ⟨g, 0, none⟩) 64 (primesT 310) := by
  obtain ⟨it, j1, j2, j3, j4⟩ := of_row1 row54
  go_enter Tryd.func45, Tryd.ntmps45
  go_wp2_with fail
  have hb0 : Below w.heap.size w (w.alloc (.cells #[] 54)) := (Below.refl _ _).alloc (Nat.le_refl _) _
  have ho0 : (w.alloc (.cells #[] 54)).ownsRow w.heap.size 54 1 (.slice (some ⟨w.heap.size, 0, none⟩) 0 0) 0 (u64V (primesT 0)) :=
    ⟨rfl, .inr ⟨_, 0, #[], rfl, Nat.le_refl _, heap_alloc_last w _, Nat.le_refl _, Nat.zero_le _, rfl, rfl⟩⟩
  have KB0 := Lib.hid hb0
  have KO0 := Lib.hid ho0
  clear hb0 ho0
  generalize w.alloc (.cells #[] 54) = W0 at *
  have H310 := Lib.hid h310
  have H309 := Lib.hid h309
  clear h310 h309
  go_loopw [4, 3] (fun u y wr => ∃ (k : Nat) (v : Value), k ≤ 310 ∧ u = .int .u64 ((k : Int) + 2) ∧ v = y ∧ Below w.heap.size w wr ∧ wr.ownsRow w.heap.size 54 1 v (primesT k).length (u64V (primesT k))) (fun u _ _ => (313 - intOf u).toNat)
  case atStart => exact ⟨0, _, by omega, by go_num, rfl, KB0.out, KO0.out⟩
  case round =>
    obtain ⟨k, v, hk, rfl, rfl, hB, hO⟩ := hrel
    have HB := Lib.hid hB
    have HO := Lib.hid hO
    have hsz := hB.size
    have hsl := own_slice hO
    clear hB hO
    by_cases hlt : k < 310
    · have hl : (primesT k).length < 64 := by
        have := primesT_mono (show k ≤ 309 by omega)
        have := H309.out
        omega
      have hnx : Hid (primesT (k + 1) = if newT (primesT k) ((k : Int) + 2) (primesT k).length then primesT k ++ [(k : Int) + 2] else primesT k) := rfl
      have hpos : Hid (∀ j, j < (primesT k).length → 2 ≤ (primesT k).getD j 0) := primesT_get k
      generalize primesT k = L at *
      generalize hn : L.length = n at *
      have hat : Hid (0 < n → ∃ g c, v = .slice (some ⟨g, 0, none⟩) n c ∧ w.heap.size ≤ g ∧ U64At wr (some ⟨g, 0, none⟩) n L) := fun h => own_at HO.out h
      obtain ⟨A, c, rfl⟩ := hsl
      go_wp2_with fail
      have hmod : Hid (∀ x : Int, 2 ≤ x → x < 18446744073709551616 → 0 ≤ x) := fun x h _ => by omega
      obtain ⟨W1, hW⟩ : ∃ W1, W1 = wr := ⟨_, rfl⟩
      replace hn := Lib.hid hn
      go_loopw [17, 5] (fun u v wr' => ∃ j : Nat, j ≤ n ∧ u = .int .i64 j ∧ v = .bool (newT L ((k : Int) + 2) j) ∧ wr' = W1) (fun u _ _ => n - (intOf u).toNat)
      case atStart => exact ⟨0, Nat.zero_le _, rfl, rfl, hW.symm⟩
      case round =>
        obtain ⟨j, hj, rfl, rfl, rfl⟩ := hrel
        by_cases hjn : j < n
        · obtain ⟨g, c', hv, hbg, hu⟩ := hat.out (by omega)
          injection hv with e1 e2 e3
          subst e1 e3
          subst hW
          obtain ⟨b, o, hbo, _, hcx⟩ := hu (by omega)
          injection hbo with hbo
          injection hbo with hb1 ho1
          subst hb1 ho1
          have hx := hcx j hjn
          rw [Nat.zero_add] at hx
          have hq := hpos.out j hjn
          have hst : Hid (newT L ((k : Int) + 2) (j + 1) = (newT L ((k : Int) + 2) j && (((k : Int) + 2) % L.getD j 0 != 0))) := rfl
          clear hcx hu
          generalize L.getD j 0 = q at *
          generalize newT L ((k : Int) + 2) j = is at *
          have hq0 : q ≠ 0 := by omega
          cases is with
          | true =>
            go_wp2_with fail
            go_round
            case rel => exact ⟨j + 1, by omega, by go_num, by rw [hst.out]; rfl, trivial⟩
            case measure => simp only [intOf]; omega
          | false =>
            go_wp2_with fail
            go_round
            case rel => exact ⟨j + 1, by omega, by go_num, by rw [hst.out]; rfl, trivial⟩
            case measure => simp only [intOf]; omega
        · have hje : j = n := by omega
          subst hje
          subst hW
          replace hl := Lib.hid hl
          cases hnew : newT L ((k : Int) + 2) j with
          | true =>
            have hl64 : (j : Int) < 64 := by have := hl.out; omega
            go_wp2_with (at_builtin; go_loud (refine wpList_append_lies _ rfl (.tmp 30) (.tmp 32) 87 rfl w.heap.size 54 it (.int .u64 0) 1 8 Tryd.underlying87 j1 j2 j3 j4 rfl (by decide) (.slice A j c) j (u64V L) rfl (HO.out.alloc _) ⟨wr.heap.size, 0, none⟩ 1 1 [.int .u64 ((k : Int) + 2)] rfl rfl (one_new _ _ _) (one_one _) (by decide) (by unfold maxLen; omega) (by omega) (by simp; omega) _ rfl ?_); intro gn cn w3 hown hgrow hat hltn)
            go_round
            case rel =>
              refine ⟨k + 1, _, by omega, by go_num, rfl, (HB.out.alloc hsz _).grown hgrow (by simp; omega) (fun j hj => (HO.out.lt j hj).1), ?_⟩
              rw [hnx.out, hnew]
              show w3.ownsRow _ _ 1 _ (L ++ [(k : Int) + 2]).length (u64V (L ++ [(k : Int) + 2]))
              rw [List.length_append, hn.out, u64V, List.map_append]
              exact hown
            case measure => simp only [intOf]; omega
          | false =>
            go_wp2_with fail
            go_round
            case rel =>
              refine ⟨k + 1, _, by omega, by go_num, rfl, HB.out, ?_⟩
              rw [hnx.out, hnew]
              show wr.ownsRow _ _ 1 _ L.length (u64V L)
              rw [hn.out]
              exact HO.out
            case measure => simp only [intOf]; omega
    · have hke : k = 310 := by omega
      subst hke
      have h4 := H310.out
      obtain ⟨g, c, rfl, _, hu⟩ := own_at HO.out (by omega)
      have HU := Lib.hid hu
      clear hu hsl
      rw [h4] at *
      go_wp2_with fail
      go_ret
      exact ⟨g, ⟨c, rfl⟩, HB.out, HU.out⟩
end Go.Proofs.YtdpiplllcinieaaDoor
