/- slices.Delete and slices.Insert at a row of texts that the program itself made: in place. -/
import Derived.Test.YtdglpbjofdipkaaDoorClone
import Derived.Deep.RegionLaw
import Derived.Lib.Overlaps
import Derived.Laws.Externs
namespace Go.Proofs.YtdglpbjofdipkaaDoor
open Go.RowKit Go.Stop Go.Extern Go.Ranges Go.Rows2
set_option linter.unusedVariables false
set_option linter.unusedSimpArgs false
theorem row55 : (Tryd.prog.info? 55).map (fun i => (i.zero, i.size, i.bytes)) = some (some (.slice none 0 0), 1, 24) := by kernel_rfl
theorem zero55 (w : World) : (zeroValue 55).run Tryd.prog w = .ok (.slice none 0 0) w := by kernel_rfl
/-- A row that the program made, as its block is. -/
theorem own_open {w : World} {base : Nat} {e : TypeId} {g n c : Nat} {xs : List Value} (h : w.ownsRow base e 1 (.slice (some ⟨g, 0, none⟩) n c) n xs) :
    ∃ cur : Array Value, w.heap[g]? = some (.cells cur e (0, 0)) ∧ cur.size = c ∧ n ≤ c ∧ c ≤ maxLen ∧ base ≤ g ∧ cur.toList.take n = xs ∧ xs.length = n := by
  have hl : xs.length = n := by have := h.1; rwa [Nat.mul_one] at this
  rcases h.2 with ⟨hv, _⟩ | ⟨g', cap, cur, hv, hb, hh, h1, h2, h3, h4⟩
  · cases hv
  · injection hv with e1 e2 e3
    injection e1 with e1
    injection e1 with e1
    subst e1; subst e3
    rw [Nat.mul_one] at h3
    rw [Nat.mul_one] at h4
    exact ⟨cur, hh, h3, h1, h2, hb, h4, hl⟩
theorem own_shut {w : World} {base : Nat} {e : TypeId} {g n c : Nat} {xs : List Value} {cur : Array Value} (hh : w.heap[g]? = some (.cells cur e (0, 0))) (h3 : cur.size = c) (h1 : n ≤ c) (h2 : c ≤ maxLen) (hb : base ≤ g) (h4 : cur.toList.take n = xs) (hl : xs.length = n) :
    w.ownsRow base e 1 (.slice (some ⟨g, 0, none⟩) n c) n xs :=
  ⟨by rw [Nat.mul_one]; exact hl, .inr ⟨g, c, cur, rfl, hb, hh, h1, h2, by rw [Nat.mul_one]; exact h3, by rw [Nat.mul_one]; exact h4⟩⟩
theorem grown_setRow {w : World} {g : Nat} (C : Array Value) (k : Nat) : w.grownBy ((w.drewN k).setRow g C) (some g) :=
  ⟨rfl, rfl, rfl, by simp, fun j hj hne => (setRow_other _ _ _ _ (fun e => hne (by rw [e]))).trans rfl⟩
set_option maxHeartbeats 4000000 in
set_option maxRecDepth 100000 in
theorem delete_any (base g n c i j : Nat) (xs : List Value) (w : World) (h : w.ownsRow base 55 1 (.slice (some ⟨g, 0, none⟩) n c) n xs) (hi : i < n) (hj : j = i + 1) (h1 : ∀ u ∈ xs, u.oneCell' = true) :
    Calls Tryd.prog 89 #[.slice (some ⟨g, 0, none⟩) n c, .int .i64 i, .int .i64 j] w fun e w' => e = .returned (.slice (some ⟨g, 0, none⟩) (n - 1) c) ∧ w'.ownsRow base 55 1 (.slice (some ⟨g, 0, none⟩) (n - 1) c) (n - 1) (xs.eraseIdx i) ∧ w.grownBy w' (some g) := by
  obtain ⟨cur, hh, hsz, hnc, hcm, hbg, htk, hxl⟩ := own_open h
  obtain ⟨i0, hi0, hz0, hz1, hz2⟩ := of_row1 row55
  have hcm2 : (c : Int) ≤ 9223372036854775807 := by have := hcm; unfold maxLen at this; omega
  -- the cells that are moved to the left
  obtain ⟨news, hnews⟩ : ∃ news, news = xs.drop j := ⟨_, rfl⟩
  have hlen : news.length = n - j := by rw [hnews]; simp [hxl]
  obtain ⟨A, hA, hsrc⟩ : ∃ A : Addr, (if c = j then some (⟨g, 0, none⟩ : Addr) else some ⟨g, j, none⟩) = some A ∧ Hid (∀ t u, news[t]? = some u → w.drew.cell? (A.add t) = some u) := by
    by_cases hc : c = j
    · refine ⟨⟨g, 0, none⟩, by simp [hc], fun t u hu => ?_⟩
      have h0 : news.length = 0 := by rw [hlen]; omega
      rw [List.length_eq_zero_iff.1 h0] at hu
      simp at hu
    · refine ⟨⟨g, j, none⟩, by simp [hc], fun t u hu => ?_⟩
      have ht : t < n - j := by
        have := (List.getElem?_eq_some_iff.1 hu).1
        rwa [hlen] at this
      rw [Addr.add_mid]
      show w.cell? _ = _
      rw [cell_of_row _ _ _ _ _ _ hh, ← Array.getElem?_toList]
      rw [hnews, List.getElem?_drop, ← htk, List.getElem?_take_of_lt (by omega)] at hu
      exact hu
  have hap : ∀ ty cS, (Builtin.append_ #[74, 74] ty #[.slice (some ⟨g, 0, none⟩) i c, .slice (some A) (n - j) cS]).run Tryd.prog w.drew = .ok (.slice (some ⟨g, 0, none⟩) (i + (n - j)) c) (w.drew.setRow g (cur.toList.take i ++ news ++ cur.toList.drop (i + (n - j))).toArray) := fun ty cS =>
    run_append_inplace w.drew 74 ty 55 i0 Tryd.underlying74 hi0 hz1 g i c (n - j) cS (some A) cur 55 hh hsz news hlen (fun _ => ⟨A, rfl, hsrc.out⟩) (fun u hu => h1 u (by rw [hnews] at hu; exact List.mem_of_mem_drop hu)) (by omega)
  obtain ⟨C1, hC1⟩ : ∃ C1, C1 = (cur.toList.take i ++ news ++ cur.toList.drop (i + (n - j))).toArray := ⟨_, rfl⟩
  have hC1s : C1.size = c := by rw [hC1]; simp [hlen, hsz]; omega
  rw [← hC1] at hap
  have hg1 := setRow_heap w.drew g cur C1 55 (0, 0) hh
  have hcl : ∀ ty cS, (Builtin.clear_ #[74] ty #[.slice (some ⟨g, i + (n - j), none⟩) (n - (i + (n - j))) cS]).run Tryd.prog (w.drew.setRow g C1) = .ok (.tuple #[]) ((w.drew.setRow g C1).setRow g (C1.toList.take (i + (n - j)) ++ List.replicate (n - (i + (n - j))) (Value.slice none 0 0) ++ C1.toList.drop (i + (n - j) + (n - (i + (n - j))))).toArray) := fun ty cS =>
    run_clear_row (w.drew.setRow g C1) 74 55 ty (.slice none 0 0) Tryd.underlying74 zero55 rfl rfl g (i + (n - j)) (n - (i + (n - j))) cS (by omega) C1 55 hg1 (by omega)
  obtain ⟨C2, hC2⟩ : ∃ C2, C2 = (C1.toList.take (i + (n - j)) ++ List.replicate (n - (i + (n - j))) (Value.slice none 0 0) ++ C1.toList.drop (i + (n - j) + (n - (i + (n - j))))).toArray := ⟨_, rfl⟩
  rw [← hC2] at hcl
  have hC2s : C2.size = c := by rw [hC2]; simp [hC1s]; omega
  have hfin : Hid (C2.toList.take (n - 1) = xs.eraseIdx i) := by
    show _ = _
    have e1 : i + (n - j) = n - 1 := by omega
    have e2 : C1.toList.take (n - 1) = xs.eraseIdx i := by
      rw [hC1, List.eraseIdx_eq_take_drop_succ, hnews, ← hj, ← htk]
      show List.take (n - 1) (List.take i cur.toList ++ List.drop j (List.take n cur.toList) ++ List.drop (i + (n - j)) cur.toList) = _
      have l1 : (cur.toList.take i).length = i := by simp [hsz]; omega
      have l2 : (cur.toList.take i ++ (cur.toList.take n).drop j).length = n - 1 := by simp [hsz]; omega
      rw [List.take_append_of_le_length (by omega), List.take_of_length_le (by omega), List.take_take, Nat.min_eq_left (by omega)]
    rw [hC2, e1]
    show List.take (n - 1) (List.take (n - 1) C1.toList ++ List.replicate (n - (n - 1)) (Value.slice none 0 0) ++ List.drop (n - 1 + (n - (n - 1))) C1.toList) = _
    rw [List.append_assoc, List.take_append_of_le_length (by simp [hC1s]; omega), List.take_take, Nat.min_self, e2]
  have hK : Hid (C2.size = c ∧ c ≤ maxLen ∧ base ≤ g ∧ (xs.eraseIdx i).length = n - 1) := ⟨hC2s, hcm, hbg, by rw [List.length_eraseIdx]; simp [hxl, hi]⟩
  have hH := Lib.hid hh
  have hne : ¬ ((i : Int) = (j : Int)) := by omega
  have hjn : j ≤ n := by omega
  have hij : i ≤ j := by omega
  have hjc : j ≤ c := by omega
  have hic : i ≤ c := by omega
  have hJ := Lib.hid hj
  have hI := Lib.hid hi
  have s1 := Lib.hid hap
  have s2 := Lib.hid hcl
  clear hap hcl h hh hg1 htk hC1 hC2 hnews hlen hxl hC1s hC2s hsz h1 hj
  go_enter Tryd.func89, Tryd.ntmps89
  go_wp2_with fail
  go_region_law (refine step_append_run rfl (.tmp 22) (.tmp 25) 74 74 rfl (.slice (some ⟨g, 0, none⟩) i c) (.slice (some A) (n - j) (c - j)) (by simp [Act.eval, Act.put]) (by simp [Act.eval, Act.put]) (s1.out _ _) ?_)
  have cl := s2.out
  go_wp2_with fail
  go_ret
  obtain ⟨k1, k2, k3, k4⟩ := hK.out
  have e1 : i + (n - j) = n - 1 := by have := hJ.out; omega
  exact ⟨by rw [← e1]; rfl, own_shut (setRow_heap _ _ _ _ _ _ (setRow_heap w.drew g cur C1 55 (0, 0) hH.out)) k1 (by omega) k2 k3 hfin.out k4, by
    have := (grown_setRow (w := w) (g := g) C1 1)
    exact ⟨rfl, rfl, rfl, by simp, fun k hk hne => (setRow_other _ _ _ _ (fun e => hne (by rw [e]))).trans (this.block k hk hne)⟩⟩
end Go.Proofs.YtdglpbjofdipkaaDoor
