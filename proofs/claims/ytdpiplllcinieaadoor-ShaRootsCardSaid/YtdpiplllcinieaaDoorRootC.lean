/- Is a number's power above a prime's multiple? -/
import Derived.Test.YtdpiplllcinieaaDoorRootB
import Derived.Deep.AppendLies
namespace Go.Proofs.YtdpiplllcinieaaDoor
open Go.RowKit Go.Stop Go.Extern Go.Ranges
set_option linter.unusedVariables false
set_option linter.unusedSimpArgs false
attribute [-go_sem] loadVar storeVar
attribute [local go_sem] loadVar_one storeVar_one
theorem one_newg (w : World) (g : Nat) (v : Value) (t : TypeId) (hg : g = w.heap.size) : ∀ j u, [v][j]? = some u → (w.alloc (.cells #[v] t)).cell? ((⟨g, 0, none⟩ : Addr).add j) = some u := by
  subst hg
  exact one_new w v t
theorem own_u64 {w : World} {base : Nat} {e : TypeId} {g n c : Nat} {xs : List Int} (h : w.ownsRow base e 1 (.slice (some ⟨g, 0, none⟩) n c) n (xs.map (fun x => Value.int .u64 x))) : U64At w (some ⟨g, 0, none⟩) n xs := fun hn => by
  rcases h.2 with ⟨hv, _⟩ | ⟨g', cap, cur, hv, _, hg, hc1, _, hc3, hc4⟩
  · cases hv
  · injection hv with e1 e2 e3
    injection e1 with e1
    injection e1 with e1 _ _
    subst e1
    have hl : xs.length = n := by have := h.1; rw [List.length_map, Nat.mul_one] at this; exact this
    refine ⟨g, 0, rfl, (Array.getElem?_eq_some_iff.1 hg).1, fun i hi => ?_⟩
    rw [cell_of_row _ _ _ _ _ _ hg, Nat.zero_add]
    have : cur.toList[i]? = (xs.map (fun x => Value.int .u64 x))[i]? := by rw [← hc4, List.getElem?_take_of_lt (by omega)]
    rw [← Array.getElem?_toList, this]
    simp [List.getD, List.getElem?_eq_getElem (show i < xs.length by omega)]
theorem madeCells_list (n : Nat) : (madeCells #[Value.int .u64 0] n).toList = (List.replicate n 0).map (fun x => Value.int .u64 x) := by
  apply List.ext_getElem?
  intro i
  by_cases hi : i < n
  · rw [Array.getElem?_toList, madeCells_at _ _ hi]
    simp [hi]
  · rw [Array.getElem?_toList, Array.getElem?_eq_none (by rw [size_madeCells]; omega), List.getElem?_eq_none (by simp; omega)]
def powT (a : List Int) : Nat → List Int
  | 0 => a
  | k + 1 => timesT (powT a k) a
/-- Compared from the highest part on: those below i. -/
def cmpT (us vs : List Int) : Nat → Bool
  | 0 => false
  | i + 1 => if us.getD i 0 = vs.getD i 0 then cmpT us vs i else decide (vs.getD i 0 < us.getD i 0)
def aboveT (x : Int) (power : Nat) (p : Int) : Bool := cmpT (powT [x % 4294967296, x / 4294967296] (power - 1)) (List.replicate power 0 ++ [p]) (2 + 3 * (power - 1) + (power + 1) + 1)
theorem timesT_len (xs ys : List Int) : (timesT xs ys).length = xs.length + ys.length + 1 := rowsT_len xs ys _
theorem powT_len (a : List Int) (h : a.length = 2) : ∀ k, (powT a k).length = 2 + 3 * k
  | 0 => h
  | k + 1 => by
    show (timesT (powT a k) a).length = _
    rw [timesT_len, powT_len a h k, h]
    omega
set_option maxRecDepth 20000 in
set_option maxHeartbeats 4000000 in
theorem above_any (x : Int) (power : Nat) (p : Int) (w : World) (h0 : 0 ≤ x) (h1 : x < 18446744073709551616) (hp1 : 1 ≤ power) (hp : power ≤ 10) :
    Calls Tryd.prog 65 #[.int .u64 x, .int .i64 power, .int .u64 p] w fun e w' => e = .returned (.bool (aboveT x power p)) ∧ Below w.heap.size w w' := by
  have ha := and32 x h0 h1
  obtain ⟨it, j1, j2, j3, j4⟩ := of_row1 row54
  have mk := mk87 power (by omega)
  go_enter Tryd.func65, Tryd.ntmps65
  go_wp2_with fail
  have hb0 : Below w.heap.size w (w.alloc (.cells #[.int .u64 (x % 4294967296), .int .u64 (x / 4294967296)] 54)) := (Below.refl _ _).alloc (Nat.le_refl _) _
  have hu0 : U64At (w.alloc (.cells #[.int .u64 (x % 4294967296), .int .u64 (x / 4294967296)] 54)) (some ⟨w.heap.size, 0, none⟩) 2 [x % 4294967296, x / 4294967296] := fun _ => ⟨_, 0, rfl, by simp, fun i hi => by
    rw [cell_of_row _ _ _ _ _ _ (heap_alloc_last w _)]
    have : i = 0 ∨ i = 1 := by omega
    rcases this with rfl | rfl <;> rfl⟩
  have hl0 : w.heap.size < (w.alloc (.cells #[.int .u64 (x % 4294967296), .int .u64 (x / 4294967296)] 54)).heap.size := by simp
  generalize w.alloc (.cells #[.int .u64 (x % 4294967296), .int .u64 (x / 4294967296)] 54) = W0 at *
  obtain ⟨aa, haa⟩ : ∃ aa : List Int, aa = [x % 4294967296, x / 4294967296] := ⟨_, rfl⟩
  rw [← haa] at hu0
  have hal : Hid (aa.length = 2) := by rw [haa]; rfl
  have haT : Hid (aboveT x power p = cmpT (powT aa (power - 1)) (List.replicate power 0 ++ [p]) (2 + 3 * (power - 1) + (power + 1) + 1)) := by rw [haa]; rfl
  have kb0 := Lib.hid hb0
  have ku0 := Lib.hid hu0
  clear hb0 hu0 haa ha
  go_loopw [9, 8] (fun u v wr => ∃ (k g : Nat), k + 1 ≤ power ∧ u = .int .i64 ((k : Int) + 1) ∧ .slice (some ⟨g, 0, none⟩) (2 + 3 * k) (2 + 3 * k) = v ∧ Below w.heap.size w wr ∧ U64At wr (some ⟨w.heap.size, 0, none⟩) 2 aa ∧ U64At wr (some ⟨g, 0, none⟩) (2 + 3 * k) (powT aa k)) (fun u _ _ => power - (intOf u).toNat)
  case atStart => exact ⟨0, w.heap.size, by omega, by go_num, rfl, kb0.out, ku0.out, ku0.out⟩
  case round =>
    obtain ⟨k, g, hk, rfl, rfl, hB, hA, hU⟩ := hrel
    have HB := Lib.hid hB
    have HA := Lib.hid hA
    have HU := Lib.hid hU
    have hsz := hB.size
    clear hB hA hU
    by_cases hlt : k + 1 < power
    · have ht := Lib.hid (times_any (some ⟨g, 0, none⟩) (some ⟨w.heap.size, 0, none⟩) (2 + 3 * k) 2 (2 + 3 * k) 2 (powT aa k) aa wr (powT_len aa hal.out k) hal.out HU.out HA.out (by omega))
      have hlt2 : (k : Int) + 1 < (power : Int) := by omega
      go_wp2_with (go_at_call 82; with_reducible refine ht.out.mono ?_; rintro e w2 ⟨g2, rfl, hb2, hg2, hu2⟩)
      go_round
      case rel => exact ⟨k + 1, g2, by omega, by go_num, by rw [show 2 + 3 * (k + 1) = 2 + 3 * k + 2 + 1 by omega], HB.out.trans (hb2.mono hsz), HA.out.below hb2, by rw [show 2 + 3 * (k + 1) = 2 + 3 * k + 2 + 1 by omega]; exact hu2⟩
      case measure => simp only [intOf]; omega
    · have hlt2 : ¬ (k : Int) + 1 < (power : Int) := by omega
      have hke : Hid (k = power - 1) := by show _ = _; omega
      have mkw := mk wr
      have ho : (wr.alloc (.cells (madeCells #[.int .u64 0] power) 54)).ownsRow w.heap.size 54 1 (.slice (some ⟨wr.heap.size, 0, none⟩) power power) power (madeCells #[.int .u64 0] power).toList :=
        ⟨by simp [size_madeCells], .inr ⟨_, power, _, rfl, hsz, heap_alloc_last wr _, Nat.le_refl _, by unfold maxLen; omega, by rw [size_madeCells, Nat.mul_one], by rw [Nat.mul_one]; exact List.take_of_length_le (by simp [size_madeCells])⟩⟩
      go_wp2_with (at_builtin; go_loud (refine wpList_append_lies _ rfl (.tmp 30) (.tmp 32) 87 rfl w.heap.size 54 it (.int .u64 0) 1 8 Tryd.underlying87 j1 j2 j3 j4 rfl (by decide) (.slice (some ⟨wr.heap.size, 0, none⟩) power power) power (madeCells #[.int .u64 0] power).toList rfl (ho.alloc _) ⟨wr.heap.size + 1, 0, none⟩ 1 1 [.int .u64 p] rfl rfl (one_newg _ _ _ _ (by simp)) (one_one _) (by decide) (by unfold maxLen; omega) (by omega) (by simp; omega) _ rfl ?_); intro gn cn w3 hown hgrow hat hltn)
      have hb3 : Below wr.heap.size wr w3 := (((Below.refl _ wr).alloc (Nat.le_refl _) _).alloc (by simp) _).grown hgrow (by simp; omega) (fun q hq => by
        simp only [Value.ownBlock, Option.some.injEq] at hq
        omega)
      have hV : U64At w3 (some ⟨gn, 0, none⟩) (power + 1) (List.replicate power 0 ++ [p]) := by
        refine own_u64 (base := w.heap.size) (e := 54) (c := cn) ?_
        have e : (madeCells #[Value.int .u64 0] power).toList ++ [Value.int .u64 p] = (List.replicate power 0 ++ [p]).map (fun x => Value.int .u64 x) := by rw [madeCells_list, List.map_append]; rfl
        rw [← e]
        exact hown
      have hU3 := HU.out.below hb3
      have hB3 := HB.out.trans (hb3.mono hsz)
      generalize hus : powT aa k = us at *
      generalize hvs : List.replicate power 0 ++ [p] = vs at *
      have hul : Hid (us.length = 2 + 3 * k) := by show _ = _; rw [← hus]; exact powT_len aa hal.out k
      have hvl : Hid (vs.length = power + 1) := by show _ = _; rw [← hvs]; simp
      have hcv : Hid (aboveT x power p = cmpT us vs (2 + 3 * k + (power + 1) + 1)) := by
        show _ = _
        rw [haT.out, ← hke.out, hus]
      have KU := Lib.hid hU3
      have KV := Lib.hid hV
      have K3 := Lib.hid hB3
      clear hU3 hV hB3 hb3 hown hgrow hat hltn hus hvs mkw ho haT mk HA HU HB hlt2 ku0 kb0
      go_loopw [11] (fun u wr => ∃ i : Nat, i ≤ 2 + 3 * k + (power + 1) + 1 ∧ u = .int .i64 ((i : Int) - 1) ∧ wr = w3 ∧ cmpT us vs (2 + 3 * k + (power + 1) + 1) = cmpT us vs i) (fun u _ => (intOf u + 1).toNat)
      case atStart => exact ⟨_, Nat.le_refl _, by go_num, rfl, rfl⟩
      case round =>
        obtain ⟨i, hi, rfl, rfl, hcm⟩ := hrel
        have HC := Lib.hid hcm
        clear hcm
        cases i with
        | zero =>
          go_wp2_with fail
          go_ret
          exact ⟨by rw [hcv.out, HC.out]; rfl, K3.out⟩
        | succ i =>
          rw [show (((i + 1 : Nat) : Int) - 1) = (i : Int) by omega]
          have hp1' := Lib.hid (part_any (some ⟨g, 0, none⟩) (2 + 3 * k) (2 + 3 * k) us i wr hul.out KU.out)
          have hp2' := Lib.hid (part_any (some ⟨gn, 0, none⟩) (power + 1) cn vs i wr hvl.out KV.out)
          have hstep : Hid (cmpT us vs (i + 1) = if us.getD i 0 = vs.getD i 0 then cmpT us vs i else decide (vs.getD i 0 < us.getD i 0)) := rfl
          generalize us.getD i 0 = uu at *
          generalize vs.getD i 0 = vv at *
          by_cases he : uu = vv
          · subst he
            go_wp2_with (first
              | (go_at_call 83; with_reducible refine hp1'.out.mono ?_; rintro e w' ⟨rfl, rfl⟩)
              | (go_at_call 83; with_reducible refine hp2'.out.mono ?_; rintro e w' ⟨rfl, rfl⟩))
            go_round
            case rel => exact ⟨i, by omega, by go_num, trivial, HC.out.trans (hstep.out.trans (if_pos trivial))⟩
            case measure => simp only [intOf]; omega
          · have hne : (uu != vv) = true := by simp [he]
            go_wp2_with (first
              | (go_at_call 83; with_reducible refine hp1'.out.mono ?_; rintro e w' ⟨rfl, rfl⟩)
              | (go_at_call 83; with_reducible refine hp2'.out.mono ?_; rintro e w' ⟨rfl, rfl⟩))
            go_ret
            refine ⟨?_, K3.out⟩
            rw [hcv.out, HC.out, hstep.out, if_neg he]
            rfl
end Go.Proofs.YtdpiplllcinieaaDoor
