/- Fields as bytes and back, plainly. -/
import Derived.Test.YtmmiimcodbjnmaaDoorRdE
namespace Go.Proofs.YtmmiimcodbjnmaaDoor
set_option linter.unusedVariables false
set_option linter.unusedSimpArgs false
theorem ocNum_succ (m : Nat) (N : Int) : ocNum (m + 1) N = ocNum m (N / 256) ++ [N % 256] := by
  unfold ocNum
  rw [List.range_succ, List.map_append]
  congr 1
  · apply List.map_congr_left
    intro i hi
    have hi' := List.mem_range.1 hi
    have e : 8 * (m + 1 - 1 - i) = 8 + 8 * (m - 1 - i) := by omega
    rw [e, Int.pow_add, ← Int.ediv_ediv_of_nonneg (by decide)]
    rfl
  · simp
theorem be_num : ∀ (m : Nat) (N : Int), 0 ≤ N → N < 256 ^ m → rdBE (ocNum m N) = N
  | 0, N, h0, h1 => by
    have : N = 0 := by simp at h1; omega
    subst this; rfl
  | m + 1, N, h0, h1 => by
    have h2 : N / 256 < 256 ^ m := by
      rw [Int.pow_succ] at h1
      exact Int.ediv_lt_of_lt_mul (by decide) h1
    rw [ocNum_succ, rdBE_snoc, be_num m (N / 256) (by omega) h2]
    omega
theorem snoc_of {ys : List Int} {m : Nat} (h : ys.length = m + 1) : ys = ys.take m ++ [ys.getD m 0] := by
  have := take_snocI ys m (by omega)
  rw [← this, List.take_of_length_le (by omega)]
theorem num_be : ∀ (m : Nat) (ys : List Int), ys.length = m → BytesOk ys → ocNum m (rdBE ys) = ys
  | 0, ys, h, _ => by
    rw [List.eq_nil_of_length_eq_zero h]; rfl
  | m + 1, ys, h, hb => by
    have hc := hb.getD m
    have hl : (ys.take m).length = m := by rw [List.length_take]; omega
    have e := snoc_of h
    have e2 : rdBE ys = rdBE (ys.take m) * 256 + ys.getD m 0 := by
      conv => lhs; rw [e]
      exact rdBE_snoc _ _
    have h1 : rdBE ys / 256 = rdBE (ys.take m) := by omega
    have h2 : rdBE ys % 256 = ys.getD m 0 := by omega
    rw [ocNum_succ, h1, h2, num_be m _ hl (hb.take m)]
    exact e.symm
/-- What a field was read of is what it is written as. -/
theorem oc_rd {c : UInt8} {xs : List Int} (hk : ocKnown c = true) (hb : BytesOk xs) (h : rdC c xs = 0) : ocB c (rdN c xs) (rdB c xs) = xs.take (rdLen c xs) ∧ rdLen c xs ≤ xs.length := by
  unfold rdC at h
  unfold ocB rdN rdB rdLen
  by_cases h1 : c = 111
  · subst h1
    rw [if_pos rfl] at h
    rw [if_neg (by decide), if_pos rfl, if_pos rfl, if_pos rfl]
    split at h
    · cases h
    · exact ⟨rfl, by omega⟩
  · rw [if_neg h1] at h
    by_cases h2 : c = 116
    · subst h2
      rw [if_pos rfl] at h
      rw [if_neg (by decide), if_neg (by decide), if_neg (by decide), if_pos rfl, if_neg (by decide), if_pos rfl]
      split at h
      · cases h
      · split at h
        · cases h
        · rename_i h3 h4
          have hl2 : (xs.take 2).length = 2 := by rw [List.length_take]; omega
          have hbd := rdBE_bd (xs.take 2) (hb.take 2)
          rw [hl2] at hbd
          generalize hn : (rdBE (xs.take 2)).toNat = n
          have hnn : rdBE (xs.take 2) = (n : Int) := by omega
          have hl : ((xs.drop 2).take n).length = n := by rw [List.length_take, List.length_drop]; omega
          rw [hl, ← hnn, num_be 2 _ hl2 (hb.take 2)]
          refine ⟨?_, by omega⟩
          rw [← List.take_add]
    · rw [if_neg h2] at h
      split at h
      · cases h
      · split at h
        · cases h
        · split at h
          · cases h
          · rename_i h3 h4 h5
            rw [if_pos (by omega), if_neg (by rintro (e | e); exact h1 e; exact h2 e), if_neg h1, if_neg h2]
            exact ⟨num_be _ _ (by rw [List.length_take]; omega) (hb.take _), by omega⟩
theorem oc_rd_all {s : List UInt8} {xs : List Int} (hb : BytesOk xs) (n : Nat) (hk : ∀ i, i < n → ocKnown (s.getD i 0) = true) (h : rdErr s xs n = 0) : ocAll s (rdFN s xs) (rdFB s xs) n ++ rdLeft s xs n = xs := by
  induction n with
  | zero => rfl
  | succ n ih =>
    have h0 := rdErr_zero h n (by omega)
    have h1 : rdC (s.getD n 0) (rdLeft s xs n) = 0 := by
      have : (if rdErr s xs n ≠ 0 then rdErr s xs n else rdC (s.getD n 0) (rdLeft s xs n)) = 0 := h
      rw [h0, if_neg (fun h => h rfl)] at this
      exact this
    obtain ⟨e1, e2⟩ := oc_rd (hk n (by omega)) (rdLeft_ok hb n) h1
    show (ocAll s (rdFN s xs) (rdFB s xs) n ++ ocB (s.getD n 0) (rdN (s.getD n 0) (rdLeft s xs n)) (rdB (s.getD n 0) (rdLeft s xs n))) ++ (rdLeft s xs n).drop (rdLen (s.getD n 0) (rdLeft s xs n)) = xs
    rw [e1, List.append_assoc, List.take_append_drop]
    exact ih (fun i hi => hk i (by omega)) h0
theorem most_lt (c : UInt8) (N : Int) (h : N ≤ ocMost c) (h0 : 0 ≤ N) (hz : 0 < ocSize c) : N < 256 ^ ocSize c ∧ N ≤ 4611686018427387903 := by
  unfold ocMost ocSize at *
  by_cases h1 : c = 98
  · rw [if_pos h1] at h ⊢; constructor
    · show N < 256; omega
    · omega
  · rw [if_neg h1] at h hz ⊢
    by_cases h2 : c = 119
    · rw [if_pos h2] at h ⊢; constructor
      · show N < 256 ^ 4; omega
      · omega
    · rw [if_neg h2] at h hz ⊢
      by_cases h3 : c = 113
      · rw [if_pos h3] at h ⊢; constructor
        · show N < 256 ^ 8; omega
        · omega
      · rw [if_neg h3] at hz; omega
/-- What a field was written as is what it is read of. -/
theorem rd_oc {c : UInt8} {N : Int} {B : List Int} (t : List Int) (hk : ocKnown c = true) (hf : ocFit c N B = true) :
    rdC c (ocB c N B ++ t) = 0 ∧ rdLen c (ocB c N B ++ t) = (ocB c N B).length ∧ rdN c (ocB c N B ++ t) = (if 0 < ocSize c then N else 0) ∧ rdB c (ocB c N B ++ t) = (if 0 < ocSize c then [] else B) := by
  unfold ocFit at hf
  by_cases hz : 0 < ocSize c
  · rw [if_pos hz] at hf
    simp only [Bool.and_eq_true, decide_eq_true_eq] at hf
    obtain ⟨m1, m2⟩ := most_lt c N hf.2 hf.1 hz
    have h1 : c ≠ 111 := fun e => by subst e; exact absurd hz (by decide)
    have h2 : c ≠ 116 := fun e => by subst e; exact absurd hz (by decide)
    have hB : ocB c N B = ocNum (ocSize c) N := by unfold ocB; rw [if_pos hz]
    have hl : (ocNum (ocSize c) N ++ t).take (ocSize c) = ocNum (ocSize c) N := by
      rw [List.take_append_of_le_length (by rw [ocNum_len]; exact Nat.le_refl _), List.take_of_length_le (by rw [ocNum_len]; exact Nat.le_refl _)]
    have hbe := be_num (ocSize c) N hf.1 m1
    rw [hB]
    refine ⟨?_, ?_, ?_, ?_⟩
    · unfold rdC
      rw [if_neg h1, if_neg h2, if_neg (by omega), if_neg (by rw [List.length_append, ocNum_len]; omega), hl, hbe, if_neg (by omega)]
    · unfold rdLen
      rw [if_neg h1, if_neg h2, ocNum_len]
    · unfold rdN
      rw [if_neg (by rintro (e | e); exact h1 e; exact h2 e), hl, hbe, if_pos hz]
    · unfold rdB
      rw [if_neg h1, if_neg h2, if_pos hz]
  · rw [if_neg hz] at hf
    simp only [Bool.and_eq_true, Bool.not_eq_true', Bool.and_eq_false_iff, decide_eq_true_eq, decide_eq_false_iff_not, beq_eq_false_iff_ne, ne_eq] at hf
    by_cases h1 : c = 111
    · subst h1
      have hl : B.length = 32 := by
        rcases hf.1 with h | h
        · exact absurd rfl h
        · omega
      have hB : ocB 111 N B = B := rfl
      rw [hB]
      unfold rdC rdLen rdN rdB
      rw [if_pos rfl, if_neg (by rw [List.length_append]; omega), if_pos rfl, if_pos (.inl rfl), if_pos rfl, if_neg hz, if_neg hz, List.take_append_of_le_length (by omega), List.take_of_length_le (by omega)]
      exact ⟨rfl, hl.symm, rfl, rfl⟩
    · have h2 : c = 116 := by
        unfold ocKnown at hk
        unfold ocSize at hz
        by_cases e1 : c = 98
        · rw [if_pos e1] at hz; exact absurd (by decide) hz
        · rw [if_neg e1] at hz
          by_cases e2 : c = 119
          · rw [if_pos e2] at hz; exact absurd (by decide) hz
          · rw [if_neg e2] at hz
            by_cases e3 : c = 113
            · rw [if_pos e3] at hz; exact absurd (by decide) hz
            · simp [e1, e2, e3, h1] at hk
              exact hk
      subst h2
      have hB : ocB 116 N B = ocNum 2 (B.length : Int) ++ B := rfl
      have h4 : (ocNum 2 (B.length : Int) ++ B ++ t).take 2 = ocNum 2 (B.length : Int) := by
        rw [List.append_assoc, List.take_append_of_le_length (by rw [ocNum_len]; exact Nat.le_refl _), List.take_of_length_le (by rw [ocNum_len]; exact Nat.le_refl _)]
      have h5 : (ocNum 2 (B.length : Int) ++ B ++ t).drop 2 = B ++ t := by
        rw [List.append_assoc, List.drop_append_of_le_length (by rw [ocNum_len]; exact Nat.le_refl _), List.drop_of_length_le (by rw [ocNum_len]; exact Nat.le_refl _), List.nil_append]
      have hbe := be_num 2 (B.length : Int) (by omega) (by show (B.length : Int) < 65536; omega)
      have hlen : (ocNum 2 (B.length : Int) ++ B ++ t).length = 2 + B.length + t.length := by rw [List.length_append, List.length_append, ocNum_len]
      rw [hB]
      unfold rdC rdLen rdN rdB
      rw [if_neg h1, if_pos rfl, if_neg (by omega), h4, hbe, if_neg (by rw [hlen]; omega), if_neg h1, if_pos rfl, if_pos (.inr rfl), if_neg h1, if_pos rfl, h5, Int.toNat_natCast, if_neg hz, if_neg hz, List.length_append, ocNum_len, List.take_append_of_le_length (Nat.le_refl _), List.take_of_length_le (Nat.le_refl _)]
      exact ⟨rfl, rfl, rfl, rfl⟩
theorem rd_oc_all {s : List UInt8} {N : Nat → Int} {B : Nat → List Int} (n : Nat) (t : List Int) (hk : ∀ i, i < n → ocKnown (s.getD i 0) = true) (hf : ∀ i, i < n → ocFit (s.getD i 0) (N i) (B i) = true) :
    ∀ k, k ≤ n → ∃ u, ocAll s N B n ++ t = ocAll s N B k ++ u ∧ rdLeft s (ocAll s N B n ++ t) k = u ∧ rdErr s (ocAll s N B n ++ t) k = 0 ∧ (k = n → u = t) ∧ (k < n → ∃ v, u = ocB (s.getD k 0) (N k) (B k) ++ v) := by
  have tail : ∀ j k, k + j = n → ∃ u, ocAll s N B n = ocAll s N B k ++ u ∧ (k = n → u = []) ∧ (k < n → ∃ v, u = ocB (s.getD k 0) (N k) (B k) ++ v) := fun j => by
    induction j with
    | zero =>
      intro k hk
      obtain rfl : k = n := by omega
      exact ⟨[], by simp, fun _ => rfl, fun h => absurd h (Nat.lt_irrefl _)⟩
    | succ j ih =>
      intro k hk
      obtain ⟨u, e1, _⟩ := ih (k + 1) (by omega)
      refine ⟨ocB (s.getD k 0) (N k) (B k) ++ u, ?_, fun h => by omega, fun _ => ⟨u, rfl⟩⟩
      rw [e1, ← List.append_assoc]
      rfl
  intro k
  induction k with
  | zero =>
    intro _
    refine ⟨ocAll s N B n ++ t, rfl, rfl, rfl, fun h => by subst h; rfl, fun h => ?_⟩
    obtain ⟨u, e1, _, e3⟩ := tail n 0 (by omega)
    obtain ⟨v, e⟩ := e3 h
    refine ⟨v ++ t, ?_⟩
    rw [e1, e]
    simp only [List.append_assoc]
    rfl
  | succ k ih =>
    intro hk1
    obtain ⟨u, e1, e2, e3, _, e5⟩ := ih (by omega)
    obtain ⟨v, e⟩ := e5 (by omega)
    subst e
    obtain ⟨r1, r2, _, _⟩ := rd_oc v (hk k (by omega)) (hf k (by omega))
    refine ⟨v, ?_, ?_, ?_, fun h => ?_, fun h => ?_⟩
    · rw [e1, ← List.append_assoc]; rfl
    · show (rdLeft s (ocAll s N B n ++ t) k).drop (rdLen (s.getD k 0) (rdLeft s (ocAll s N B n ++ t) k)) = v
      rw [e2, r2, List.drop_append_of_le_length (Nat.le_refl _), List.drop_of_length_le (Nat.le_refl _), List.nil_append]
    · show (if rdErr s (ocAll s N B n ++ t) k ≠ 0 then rdErr s (ocAll s N B n ++ t) k else rdC (s.getD k 0) (rdLeft s (ocAll s N B n ++ t) k)) = 0
      rw [e3, if_neg (fun h => h rfl), e2, r1]
    · subst h
      have : ocAll s N B (k + 1) ++ t = ocAll s N B (k + 1) ++ v := by
        rw [e1, ← List.append_assoc]; rfl
      exact (List.append_cancel_left this).symm
    · obtain ⟨u2, f1, _, f3⟩ := tail (n - (k + 1)) (k + 1) (by omega)
      obtain ⟨v2, f⟩ := f3 h
      refine ⟨v2 ++ t, ?_⟩
      have : ocAll s N B (k + 1) ++ (ocB (s.getD (k + 1) 0) (N (k + 1)) (B (k + 1)) ++ (v2 ++ t)) = ocAll s N B (k + 1) ++ v := by
        have g : ocAll s N B n ++ t = ocAll s N B (k + 1) ++ v := by rw [e1, ← List.append_assoc]; rfl
        rw [← g, f1, f]
        simp only [List.append_assoc]
      exact (List.append_cancel_left this).symm
/-- Fields that were written are read. -/
theorem rd_oc_at {s : List UInt8} {N : Nat → Int} {B : Nat → List Int} (n : Nat) (t : List Int) (hk : ∀ i, i < n → ocKnown (s.getD i 0) = true) (hf : ∀ i, i < n → ocFit (s.getD i 0) (N i) (B i) = true) :
    rdErr s (ocAll s N B n ++ t) n = 0 ∧ rdLeft s (ocAll s N B n ++ t) n = t ∧ ∀ i, i < n → rdFN s (ocAll s N B n ++ t) i = (if 0 < ocSize (s.getD i 0) then N i else 0) ∧ rdFB s (ocAll s N B n ++ t) i = (if 0 < ocSize (s.getD i 0) then [] else B i) := by
  obtain ⟨u, _, e2, e3, e4, _⟩ := rd_oc_all n t hk hf n (Nat.le_refl _)
  refine ⟨e3, by rw [e2]; exact e4 rfl, fun i hi => ?_⟩
  obtain ⟨u, _, e2, _, _, e5⟩ := rd_oc_all n t hk hf i (by omega)
  obtain ⟨v, e⟩ := e5 hi
  obtain ⟨_, _, r3, r4⟩ := rd_oc v (hk i hi) (hf i hi)
  unfold rdFN rdFB
  rw [e2, e]
  exact ⟨r3, r4⟩
end Go.Proofs.YtmmiimcodbjnmaaDoor
