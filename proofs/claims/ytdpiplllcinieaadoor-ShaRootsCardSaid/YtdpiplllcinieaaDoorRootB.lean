/- The product of two numbers of parts. -/
import Derived.Test.YtdpiplllcinieaaDoorRootA
namespace Go.Proofs.YtdpiplllcinieaaDoor
open Go.RowKit Go.Stop Go.Extern Go.Ranges
set_option linter.unusedVariables false
set_option linter.unusedSimpArgs false
attribute [-go_sem] loadVar storeVar
attribute [local go_sem] loadVar_one storeVar_one
theorem row54 : (Tryd.prog.info? 54).map (fun i => (i.zero, i.size, i.bytes)) = some (some (.int .u64 0), 1, 8) := by kernel_rfl
theorem madeCells_at (n j : Nat) (h : j < n) : (madeCells #[Value.int .u64 0] n)[j]? = some (.int .u64 0) := by
  simp [madeCells, h, Nat.mod_one]
theorem mk87 (n : Nat) (hn : n ≤ 1000) (w : World) : (Instr.makeSlice 87 (.int .i64 (n : Int)) (.int .i64 (n : Int))).run Tryd.prog w = .ok (.slice (some ⟨w.heap.size, 0, none⟩) n n) (w.alloc (.cells (madeCells #[.int .u64 0] n) 54)) := by
  obtain ⟨it, j1, j2, j3, j4⟩ := of_row1 row54
  have h := run_make (P := Tryd.prog) w 87 54 it (.int .u64 0) Tryd.underlying87 j1 j2 .i64 .i64 n n (by omega) (by omega) (by rw [j4]; omega) (by omega)
  rw [j3, Nat.mul_one, Int.toNat_natCast] at h
  exact h
theorem st54 (n : Nat) (w : World) (b o : Nat) (x : Int) (ho : o < n) (h : isRow w b n = true) : (storeVar 54 ⟨b, o, none⟩ (.int .u64 x)).run Tryd.prog w = .ok () (w.setCell ⟨b, o, none⟩ (.int .u64 x)) :=
  store_slot (by kernel_rfl) w b o n _ h ho rfl rfl
theorem rowT_len (ys : List Int) (x : Int) (i : Nat) (out : List Int) : ∀ j, (rowT ys x i j out).1.length = out.length
  | 0 => rfl
  | j + 1 => by
    show ((rowT ys x i j out).1.set _ _).length = _
    rw [List.length_set, rowT_len ys x i out j]
theorem rowsT_len (xs ys : List Int) : ∀ i, (rowsT xs ys i).length = xs.length + ys.length + 1
  | 0 => by simp [rowsT]
  | i + 1 => by
    show ((rowT ys _ i ys.length (rowsT xs ys i)).1.set _ _).length = _
    rw [List.length_set, rowT_len, rowsT_len xs ys i]
theorem getD_set (l : List Int) (i j : Nat) (x : Int) (h : i < l.length) : (l.set i x).getD j 0 = if j = i then x else l.getD j 0 := by
  rw [List.getD_eq_getElem?_getD, List.getElem?_set]
  by_cases e : i = j
  · subst e; simp [h]
  · rw [if_neg e, if_neg (Ne.symm e), List.getD_eq_getElem?_getD]
set_option maxRecDepth 20000 in
set_option maxHeartbeats 4000000 in
theorem times_any (A B : Option Addr) (n m c d : Nat) (xs ys : List Int) (w : World) (hn : xs.length = n) (hm : ys.length = m) (hx : U64At w A n xs) (hy : U64At w B m ys) (hs : n + m ≤ 100) :
    Calls Tryd.prog 82 #[.slice A n c, .slice B m d] w fun e w' => ∃ g, e = .returned (.slice (some ⟨g, 0, none⟩) (n + m + 1) (n + m + 1)) ∧ Below w.heap.size w w' ∧ w.heap.size ≤ g ∧ U64At w' (some ⟨g, 0, none⟩) (n + m + 1) (timesT xs ys) := by
  have KX := Lib.hid hx
  have KY := Lib.hid hy
  have Kn := Lib.hid hn
  have Km := Lib.hid hm
  have mk := mk87 (n + m + 1) (by omega) w
  have mk' : (Instr.makeSlice 87 (.int .i64 ((n : Int) + m + 1)) (.int .i64 ((n : Int) + m + 1))).run Tryd.prog w = _ := mk
  clear hx hy hn hm mk
  have q0 : (n : Int) + (m : Int) + 1 ≤ 101 := by omega
  go_enter Tryd.func82, Tryd.ntmps82
  go_wp2_with fail
  have hr0 : isRow (w.alloc (.cells (madeCells #[.int .u64 0] (n + m + 1)) 54)) w.heap.size (n + m + 1) = true := isRow_new _ _ _ _ _ rfl (size_madeCells _ _)
  have hc0 : ∀ j, j < n + m + 1 → (w.alloc (.cells (madeCells #[.int .u64 0] (n + m + 1)) 54)).cell? ⟨w.heap.size, j, none⟩ = some (.int .u64 ((rowsT xs ys 0).getD j 0)) := fun j hj => by
    rw [cell_of_row _ _ _ _ _ _ (heap_alloc_last w _), madeCells_at _ _ hj]
    have : (rowsT xs ys 0).getD j 0 = 0 := by
      simp only [rowsT, List.getD, List.getElem?_replicate]
      split <;> rfl
    rw [this]
  have hb0 : Below w.heap.size w (w.alloc (.cells (madeCells #[.int .u64 0] (n + m + 1)) 54)) := (Below.refl _ _).alloc (Nat.le_refl _) _
  generalize w.alloc (.cells (madeCells #[.int .u64 0] (n + m + 1)) 54) = W0 at *
  have kb0 := Lib.hid hb0
  have kr0 := Lib.hid hr0
  have kc0 := Lib.hid hc0
  clear hb0 hr0 hc0 mk'
  go_loopw [21] (fun x wr => ∃ i : Nat, i ≤ n ∧ x = .int .i64 i ∧ Below w.heap.size w wr ∧ isRow wr w.heap.size (n + m + 1) = true ∧ ∀ j, j < n + m + 1 → wr.cell? ⟨w.heap.size, j, none⟩ = some (.int .u64 ((rowsT xs ys i).getD j 0))) (fun x _ => n - (intOf x).toNat)
  case atStart => exact ⟨0, Nat.zero_le _, rfl, kb0.out, kr0.out, kc0.out⟩
  case round =>
    obtain ⟨i, hi, rfl, hB, hR, hC⟩ := hrel
    have HB := Lib.hid hB
    have HC := Lib.hid hC
    clear hB hC
    by_cases hlt : i < n
    · obtain ⟨b, o, rfl, hbl, hcx⟩ := KX.out (by omega)
      have x1 := (HB.out.cell (p := ⟨b, o + i, none⟩) hbl).trans (hcx i hlt)
      clear hcx
      generalize hxv : xs.getD i 0 = x at *
      have KXV := Lib.hid hxv
      clear hxv
      go_wp2_with fail
      obtain ⟨W1, rfl⟩ : ∃ v, v = wr := ⟨_, rfl⟩
      go_loopw [28, 8] (fun u v wr => ∃ j : Nat, j ≤ m ∧ u = .int .i64 j ∧ v = .int .u64 (rowT ys x i j (rowsT xs ys i)).2 ∧ Below w.heap.size w wr ∧ isRow wr w.heap.size (n + m + 1) = true ∧ ∀ q, q < n + m + 1 → wr.cell? ⟨w.heap.size, q, none⟩ = some (.int .u64 ((rowT ys x i j (rowsT xs ys i)).1.getD q 0))) (fun u _ _ => m - (intOf u).toNat)
      case atStart => exact ⟨0, Nat.zero_le _, rfl, rfl, HB.out, hR, HC.out⟩
      case round =>
        obtain ⟨j, hj, rfl, rfl, hB2, hR2, hC2⟩ := hrel
        have HB2 := Lib.hid hB2
        have HC2 := Lib.hid hC2
        clear hB2 hC2
        by_cases hlt2 : j < m
        · obtain ⟨b2, o2, rfl, hbl2, hcy⟩ := KY.out (by omega)
          have y1 := (HB2.out.cell (p := ⟨b2, o2 + j, none⟩) hbl2).trans (hcy j hlt2)
          clear hcy
          have z1 := HC2.out (i + j) (by omega)
          have hlen : Hid ((rowT ys x i j (rowsT xs ys i)).1.length = n + m + 1) := by show _ = _; rw [rowT_len, rowsT_len, Kn.out, Km.out]
          have hnx : Hid (rowT ys x i (j + 1) (rowsT xs ys i) = ((rowT ys x i j (rowsT xs ys i)).1.set (i + j) (stepT x (ys.getD j 0) ((rowT ys x i j (rowsT xs ys i)).1.getD (i + j) 0) (rowT ys x i j (rowsT xs ys i)).2 % 4294967296), stepT x (ys.getD j 0) ((rowT ys x i j (rowsT xs ys i)).1.getD (i + j) 0) (rowT ys x i j (rowsT xs ys i)).2 / 4294967296)) := rfl
          have hst : Hid (0 ≤ stepT x (ys.getD j 0) ((rowT ys x i j (rowsT xs ys i)).1.getD (i + j) 0) (rowT ys x i j (rowsT xs ys i)).2 ∧ stepT x (ys.getD j 0) ((rowT ys x i j (rowsT xs ys i)).1.getD (i + j) 0) (rowT ys x i j (rowsT xs ys i)).2 < 18446744073709551616) := by
            show _ ∧ _
            unfold stepT
            omega
          generalize ys.getD j 0 = y at *
          generalize hov : (rowT ys x i j (rowsT xs ys i)).1.getD (i + j) 0 = ov at *
          generalize hcv : (rowT ys x i j (rowsT xs ys i)).2 = cv at *
          replace hov := Lib.hid hov
          replace hcv := Lib.hid hcv
          have p1 : i + j < n + m + 1 := by omega
          have p2 : (i : Int) + (j : Int) < (n : Int) + (m : Int) + 1 := by omega
          have fz := frozen_row hR2 (i + j)
          have s54 := st54 (n + m + 1)
          go_wp2_with fail
          have eS : IntKind.u64.wrap (IntKind.u64.wrap (IntKind.u64.wrap (x * y) + ov) + cv) = stepT x y ov cv := by simp only [IntKind.wrap_u64]; rfl
          rw [eS, and32 _ hst.out.1 hst.out.2]
          go_round
          case rel =>
            refine ⟨j + 1, by omega, by go_num, ?_, Below.setCell HB2.out (p := ⟨w.heap.size, i + j, none⟩) (Nat.le_refl _) _, isRow_setCell _ _ _ _ _ _ hR2, fun q hq => ?_⟩
            · rw [hnx.out]
            · rw [hnx.out, getD_set _ _ _ _ (by rw [hlen.out]; exact p1)]
              by_cases h : q = i + j
              · subst h
                rw [cell_setCell_here hR2 p1, if_pos rfl]
              · rw [if_neg h, cell_setCell_off _ _ _ _ _ h]
                exact HC2.out q hq
          case measure => simp only [intOf]; omega
        · have hjm : j = m := by omega
          subst hjm
          have z1 := HC2.out (i + j) (by omega)
          have hlen : Hid ((rowT ys x i j (rowsT xs ys i)).1.length = n + j + 1) := by show _ = _; rw [rowT_len, rowsT_len, Kn.out, Km.out]
          have hnx : Hid (rowsT xs ys (i + 1) = (rowT ys x i j (rowsT xs ys i)).1.set (i + j) (((rowT ys x i j (rowsT xs ys i)).1.getD (i + j) 0 + (rowT ys x i j (rowsT xs ys i)).2) % 18446744073709551616)) := by
            show _ = _
            rw [← KXV.out, ← Km.out]
            rfl
          generalize hov : (rowT ys x i j (rowsT xs ys i)).1.getD (i + j) 0 = ov at *
          generalize hcv : (rowT ys x i j (rowsT xs ys i)).2 = cv at *
          replace hov := Lib.hid hov
          replace hcv := Lib.hid hcv
          have p1 : i + j < n + j + 1 := by omega
          have p2 : (i : Int) + (j : Int) < (n : Int) + (j : Int) + 1 := by omega
          have fz := frozen_row hR2 (i + j)
          have s54 := st54 (n + j + 1)
          go_wp2_with fail
          rw [show IntKind.u64.wrap (ov + cv) = (ov + cv) % 18446744073709551616 from IntKind.wrap_u64 _]
          go_round
          case rel =>
            refine ⟨i + 1, by omega, by go_num, Below.setCell HB2.out (p := ⟨w.heap.size, i + j, none⟩) (Nat.le_refl _) _, isRow_setCell _ _ _ _ _ _ hR2, fun q hq => ?_⟩
            rw [hnx.out, getD_set _ _ _ _ (by rw [hlen.out]; exact p1)]
            by_cases h : q = i + j
            · subst h
              rw [cell_setCell_here hR2 p1, if_pos rfl]
            · rw [if_neg h, cell_setCell_off _ _ _ _ _ h]
              exact HC2.out q hq
          case measure => simp only [intOf]; omega
    · have hie : i = n := by omega
      subst hie
      go_wp2_with fail
      go_ret
      exact ⟨w.heap.size, rfl, HB.out, Nat.le_refl _, fun _ => ⟨_, 0, rfl, isRow_lt hR, fun q hq => by rw [Nat.zero_add]; unfold timesT; rw [Kn.out]; exact HC.out q hq⟩⟩
end Go.Proofs.YtdpiplllcinieaaDoor
