/- slices.Insert at a row of texts that the program itself made, with room: in place. -/
import Derived.Test.YtdglpbjofdipkaaDoorIns
namespace Go.Proofs.YtdglpbjofdipkaaDoor
open Go.RowKit Go.Stop Go.Extern Go.Ranges Go.Rows2
set_option linter.unusedVariables false
set_option linter.unusedSimpArgs false
theorem size55 (w : World) : (Go.sizeOf 55).run Tryd.prog w = .ok 1 w := by
  obtain ⟨it, j1, j2, j3, j4⟩ := of_row1 row55
  simp [Go.sizeOf, typeInfo, j1, j3]
theorem size55i : (Tryd.prog.info? 55).map (·.size) = some 1 := by kernel_rfl
set_option maxHeartbeats 4000000 in
set_option maxRecDepth 100000 in
theorem insert_any (base g n c i vb : Nat) (x : Value) (xs : List Value) (w : World) (h : w.ownsRow base 55 1 (.slice (some ⟨g, 0, none⟩) n c) n xs) (hi : i ≤ n) (hroom : n + 1 ≤ c) (h1 : ∀ u ∈ xs, u.oneCell' = true) (hx1 : x.oneCell' = true)
    (hv : w.heap[vb]? = some (.cells #[x] 55 (0, 0))) (hne : vb ≠ g) :
    Calls Tryd.prog 82 #[.slice (some ⟨g, 0, none⟩) n c, .int .i64 i, .slice (some ⟨vb, 0, none⟩) 1 1] w fun e w' => e = .returned (.slice (some ⟨g, 0, none⟩) (n + 1) c) ∧ w'.ownsRow base 55 1 (.slice (some ⟨g, 0, none⟩) (n + 1) c) (n + 1) (xs.take i ++ x :: xs.drop i) ∧ w.grownBy w' (some g) := by
  obtain ⟨cur, hh, hsz, hnc, hcm, hbg, htk, hxl⟩ := own_open h
  obtain ⟨i0, hi0, hz0, hz1, hz2⟩ := of_row1 row55
  have hcm2 : (c : Int) ≤ 9223372036854775807 := by have := hcm; unfold maxLen at this; omega
  have hvc : ∀ (W : World), W.heap[vb]? = w.heap[vb]? → ∀ j u, [x][j]? = some u → W.cell? ((⟨vb, 0, none⟩ : Addr).add j) = some u := fun W hW j u hu => by
    rw [Addr.add_mid, cell_of_row _ _ _ _ _ _ (hW.trans hv), Nat.zero_add]
    simpa using hu
  by_cases hin : i = n
  · -- at the end
    subst hin
    have hap : ∀ ty, (Builtin.append_ #[74, 74] ty #[.slice (some ⟨g, 0, none⟩) i c, .slice (some ⟨vb, 0, none⟩) 1 1]).run Tryd.prog w = .ok (.slice (some ⟨g, 0, none⟩) (i + 1) c) (w.setRow g (cur.toList.take i ++ [x] ++ cur.toList.drop (i + 1)).toArray) := fun ty =>
      run_append_inplace w 74 ty 55 i0 Tryd.underlying74 hi0 hz1 g i c 1 1 (some ⟨vb, 0, none⟩) cur 55 hh hsz [x] rfl (fun _ => ⟨_, rfl, hvc w rfl⟩) (fun u hu => by simp at hu; subst hu; exact hx1) hroom
    obtain ⟨C1, hC1⟩ : ∃ C1, C1 = (cur.toList.take i ++ [x] ++ cur.toList.drop (i + 1)).toArray := ⟨_, rfl⟩
    have hfin : Hid (C1.size = c ∧ C1.toList.take (i + 1) = xs.take i ++ x :: xs.drop i ∧ (xs.take i ++ x :: xs.drop i).length = i + 1) := by
      have l1 : (cur.toList.take i).length = i := by simp [hsz]; omega
      refine ⟨by rw [hC1]; simp [hsz]; omega, ?_, by simp [hxl]⟩
      rw [hC1]
      show List.take (i + 1) (List.take i cur.toList ++ [x] ++ List.drop (i + 1) cur.toList) = _
      rw [List.take_append_of_le_length (by simp [hsz]; omega), List.take_of_length_le (by simp [hsz]; omega), htk, ← hxl, List.take_length, List.drop_length]
    rw [← hC1] at hap
    have hH := Lib.hid hh
    have hK : Hid (c ≤ maxLen ∧ base ≤ g) := ⟨hcm, hbg⟩
    have s1 := Lib.hid hap
    clear hap h hh htk hC1 hxl hsz h1 hv hvc
    go_enter Tryd.func82, Tryd.ntmps82
    go_wp2_with (at_builtin; go_loud (refine Lib.wpList_append_run _ rfl (.tmp 23) (.tmp 24) 74 74 rfl _ _ rfl rfl _ _ (s1.out _) ?_))
    go_ret
    obtain ⟨k1, k2, k3⟩ := hfin.out
    exact ⟨rfl, own_shut (setRow_heap w g cur C1 55 (0, 0) hH.out) k1 (by omega) hK.out.1 hK.out.2 k2 k3, grown_setRow (w := w) (g := g) C1 0⟩
  · have hlt : i < n := by omega
    have hdl : (xs.drop i).length = n - i := by simp [hxl]
    have hcp1 : ∀ ty dc sc, (Builtin.copy_ #[74, 74] ty #[.slice (some ⟨g, i + 1, none⟩) (n + 1 - (i + 1)) dc, .slice (some ⟨g, i, none⟩) (n + 1 - i) sc]).run Tryd.prog w.drew = .ok (goInt (xs.drop i).length) (w.drew.setRow g (cur.toList.take (i + 1) ++ xs.drop i ++ cur.toList.drop (i + 1 + (xs.drop i).length)).toArray) := fun ty dc sc =>
      run_copy_row Tryd.prog w.drew 74 74 ty 55 g (i + 1) (n + 1 - (i + 1)) dc ⟨g, i, none⟩ (n + 1 - i) sc cur 55 (xs.drop i) Tryd.underlying74 size55i hh (by rw [hdl]; show _ = min _ _; omega) (fun j v hj => by
        rw [Addr.add_mid]
        show w.cell? _ = _
        rw [cell_of_row _ _ _ _ _ _ hh, ← Array.getElem?_toList]
        rw [List.getElem?_drop, ← htk] at hj
        have : i + j < n := by
          have := (List.getElem?_eq_some_iff.1 hj).1
          simp at this; omega
        rwa [List.getElem?_take_of_lt this] at hj) (by rw [hdl]; omega) (fun v hv => h1 v (List.mem_of_mem_drop hv))
    obtain ⟨C1, hC1⟩ : ∃ C1, C1 = (cur.toList.take (i + 1) ++ xs.drop i ++ cur.toList.drop (i + 1 + (xs.drop i).length)).toArray := ⟨_, rfl⟩
    rw [← hC1] at hcp1
    have hg1 := setRow_heap w.drew g cur C1 55 (0, 0) hh
    have hC1s : C1.size = c := by rw [hC1]; simp [hsz, hxl]; omega
    have hcp2 : ∀ ty dc, (Builtin.copy_ #[74, 74] ty #[.slice (some ⟨g, i, none⟩) (n + 1 - i) dc, .slice (some ⟨vb, 0, none⟩) 1 1]).run Tryd.prog (w.drew.setRow g C1) = .ok (goInt [x].length) ((w.drew.setRow g C1).setRow g (C1.toList.take i ++ [x] ++ C1.toList.drop (i + [x].length)).toArray) := fun ty dc =>
      run_copy_row Tryd.prog (w.drew.setRow g C1) 74 74 ty 55 g i (n + 1 - i) dc ⟨vb, 0, none⟩ 1 1 C1 55 [x] Tryd.underlying74 size55i hg1 (by show _ = min _ _; simp; omega) (hvc _ (setRow_other _ _ _ _ hne)) (by simp; omega) (fun v hv => by simp at hv; subst hv; exact hx1)
    obtain ⟨C2, hC2⟩ : ∃ C2, C2 = (C1.toList.take i ++ [x] ++ C1.toList.drop (i + [x].length)).toArray := ⟨_, rfl⟩
    rw [← hC2] at hcp2
    have hfin : Hid (C2.size = c ∧ C2.toList.take (n + 1) = xs.take i ++ x :: xs.drop i ∧ (xs.take i ++ x :: xs.drop i).length = n + 1) := by
      refine ⟨by rw [hC2]; simp [hC1s]; omega, ?_, by simp [hxl]; omega⟩
      have e1 : C1.toList.take i = xs.take i := by
        rw [hC1]
        show List.take i (List.take (i + 1) cur.toList ++ List.drop i xs ++ List.drop (i + 1 + (List.drop i xs).length) cur.toList) = _
        rw [List.append_assoc, List.take_append_of_le_length (by simp [hsz]; omega), List.take_take, Nat.min_eq_left (by omega), ← htk, List.take_take, Nat.min_eq_left (by omega)]
      have e2 : (C1.toList.drop (i + 1)).take (n - i) = xs.drop i := by
        rw [hC1]
        show List.take (n - i) (List.drop (i + 1) (List.take (i + 1) cur.toList ++ List.drop i xs ++ List.drop (i + 1 + (List.drop i xs).length) cur.toList)) = _
        rw [List.append_assoc, List.drop_append_of_le_length (by simp [hsz]; omega), List.drop_of_length_le (by simp [hsz]; omega), List.nil_append, List.take_append_of_le_length (by omega), List.take_of_length_le (by omega)]
      rw [hC2]
      show List.take (n + 1) (List.take i C1.toList ++ [x] ++ List.drop (i + 1) C1.toList) = _
      have l1 : (List.take i C1.toList).length = i := by simp [hC1s]; omega
      rw [List.append_assoc, List.take_append, l1, List.take_of_length_le (by omega), List.singleton_append, show n + 1 - i = (n - i) + 1 by omega, List.take_succ_cons, e2, e1]
    have hsa : w.shape? vb = some (55, 1) := by simp [World.shape?, hv]
    have hsb : w.shape? g = some (55, c) := by simp [World.shape?, hh, hsz]
    have hfa : ∀ o, w.frozen? ⟨vb, o, none⟩ = false := fun o => by simp [World.frozen?, hv]
    have hov : ∀ lb cb, (callFunc 90 #[.slice (some ⟨vb, 0, none⟩) 1 1, .slice (some ⟨g, i + 1, none⟩) lb cb]).run Tryd.prog w = .ok (.value (.bool false)) w := fun lb cb => by
      rw [run_callFunc_extern Tryd.func90 (by kernel_rfl) (by kernel_rfl) (by kernel_rfl) (e := Extern.SlicesOverlaps.overlaps #[74, 74] #[4]) (by kernel_rfl),
        Lib.run_overlaps_apart w 74 4 55 Tryd.underlying74 1 size55 ⟨vb, 0, none⟩ ⟨g, i + 1, none⟩ 1 1 lb cb hne 55 55 1 c hsa hsb (by omega) (hfa 0) (hfa 1)]
      rfl
    have hw1 : IntKind.i64.wrap ((i : Int) + 1) = (i : Int) + 1 := by rw [IntKind.wrap_i64]; omega
    have hw2 : IntKind.i64.wrap ((n : Int) + 1) = (n : Int) + 1 := by rw [IntKind.wrap_i64]; omega
    have t1 : ((i : Int) + 1).toNat = i + 1 := by omega
    have t2 : ((n : Int) + 1).toNat = n + 1 := by omega
    have hb1 : (0 : Int) ≤ (i : Int) + 1 := by omega
    have hb2 : ¬ (c = i + 1) := by omega
    have hb3 : ¬ (c = i) := by omega
    have hb4 : (i : Int) + 1 ≤ (n : Int) + 1 := by omega
    have hb5 : ¬ ((c : Int) < (n : Int) + 1) := by omega
    have hb6 : ¬ ((i : Int) = (n : Int)) := by omega
    have hb7 : (n : Int) + 1 ≤ (c : Int) := by omega
    have hb8 : (i : Int) ≤ (n : Int) + 1 := by omega
    have hb9 : i ≤ n + 1 := by omega
    have hH := Lib.hid hh
    have hK : Hid (c ≤ maxLen ∧ base ≤ g) := ⟨hcm, hbg⟩
    have s1 := Lib.hid hcp1
    have s2 := Lib.hid hcp2
    clear hcp1 hcp2 h hh htk hC1 hC2 hxl hsz h1 hv hvc hsa hsb hfa hg1 hC1s
    go_enter Tryd.func82, Tryd.ntmps82
    go_wp2_with (simp only [hov])
    go_region_law (refine step_copy_run rfl (.tmp 73) (.tmp 76) 74 74 rfl (.slice (some ⟨g, i + 1, none⟩) (n + 1 - (i + 1)) (c - (i + 1))) (.slice (some ⟨g, i, none⟩) (n + 1 - i) (c - i)) (by simp [Act.eval, Act.put]) (by simp [Act.eval, Act.put]) (s1.out _ _ _) ?_)
    have cl := s2.out
    go_wp2_with fail
    go_ret
    obtain ⟨k1, k2, k3⟩ := hfin.out
    refine ⟨rfl, own_shut (setRow_heap _ _ _ _ _ _ (setRow_heap w.drew g cur C1 55 (0, 0) hH.out)) k1 (by omega) hK.out.1 hK.out.2 k2 k3, ?_⟩
    exact ⟨rfl, rfl, rfl, by simp, fun k hk hne => (setRow_other _ _ _ _ (fun e => hne (by rw [e]))).trans ((setRow_other _ _ _ _ (fun e => hne (by rw [e]))).trans rfl)⟩
end Go.Proofs.YtdglpbjofdipkaaDoor
