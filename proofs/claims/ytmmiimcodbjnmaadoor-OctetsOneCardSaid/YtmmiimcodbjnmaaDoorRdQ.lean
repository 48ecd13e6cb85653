/- Fields that were read may be written. -/
import Derived.Test.YtmmiimcodbjnmaaDoorRdP
namespace Go.Proofs.YtmmiimcodbjnmaaDoor
set_option linter.unusedVariables false
set_option linter.unusedSimpArgs false
theorem text_most {l : List Int} (h : BytesOk l) : ((l.drop 2).take (rdBE (l.take 2)).toNat).length ≤ 65535 := by
  have h1 := rdBE_bd (l.take 2) (h.take 2)
  have h2 : (l.take 2).length ≤ 2 := by rw [List.length_take]; omega
  have h3 : (256 : Int) ^ (l.take 2).length ≤ 65536 := by
    have : (l.take 2).length = 0 ∨ (l.take 2).length = 1 ∨ (l.take 2).length = 2 := by omega
    rcases this with e | e | e <;> rw [e] <;> decide
  rw [List.length_take]
  omega
theorem rd_fit {c : UInt8} {l : List Int} (hk : ocKnown c = true) (hb : BytesOk l) (h : rdC c l = 0) : ocFit c (rdN c l) (rdB c l) = true := by
  unfold rdC at h
  unfold ocFit rdN rdB
  by_cases h1 : c = 111
  · subst h1
    rw [if_pos rfl] at h
    have h32 : 32 ≤ l.length := by
      split at h
      · cases h
      · omega
    have hl : (l.take 32).length = 32 := by rw [List.length_take]; omega
    rw [if_neg (by decide), if_pos rfl, hl]
    decide
  · by_cases h2 : c = 116
    · subst h2
      have ht := text_most hb
      rw [if_neg (by decide), if_neg (by decide), if_pos rfl]
      simp only [Bool.and_eq_true, Bool.not_eq_true', decide_eq_true_eq]
      exact ⟨rfl, ht⟩
    · rw [if_neg h1, if_neg h2] at h
      by_cases hz : ocSize c = 0
      · rw [if_pos hz] at h; cases h
      · rw [if_neg hz] at h
        by_cases hl : l.length < ocSize c
        · rw [if_pos hl] at h; cases h
        · rw [if_neg hl] at h
          by_cases hm : 4611686018427387903 < rdBE (l.take (ocSize c))
          · rw [if_pos hm] at h; cases h
          · have hbd := rdBE_bd (l.take (ocSize c)) (hb.take _)
            have hlen : (l.take (ocSize c)).length = ocSize c := by rw [List.length_take]; omega
            rw [hlen] at hbd
            rw [if_pos (by omega), if_neg (by rintro (e | e); exact h1 e; exact h2 e)]
            simp only [Bool.and_eq_true, decide_eq_true_eq]
            refine ⟨hbd.1, ?_⟩
            have hs : c = 98 ∨ c = 119 ∨ c = 113 := by
              unfold ocKnown at hk
              simp [h1, h2] at hk
              rcases hk with (e | e) | e
              · exact .inl e
              · exact .inr (.inl e)
              · exact .inr (.inr e)
            rcases hs with e | e | e
            · subst e
              have h3 : rdBE (l.take (ocSize 98)) < 256 ^ 1 := hbd.2
              rw [show (256 : Int) ^ 1 = 256 by decide] at h3
              show _ ≤ (255 : Int)
              omega
            · subst e
              have h3 : rdBE (l.take (ocSize 119)) < 256 ^ 4 := hbd.2
              rw [show (256 : Int) ^ 4 = 4294967296 by decide] at h3
              show _ ≤ (4294967295 : Int)
              omega
            · subst e
              show _ ≤ (4611686018427387903 : Int)
              omega
theorem rd_fits {s : List UInt8} {xs : List Int} (hb : BytesOk xs) (n : Nat) (hk : ∀ i, i < n → ocKnown (s.getD i 0) = true) (h : rdErr s xs n = 0) : ocFits s (rdFN s xs) (rdFB s xs) n = true := by
  rw [ocFits_at]
  intro i hi
  have h1 := rdErr_zero h (i + 1) (by omega)
  have h0 := rdErr_zero h i (by omega)
  have h2 : (if rdErr s xs i ≠ 0 then rdErr s xs i else rdC (s.getD i 0) (rdLeft s xs i)) = 0 := h1
  rw [h0, if_neg (fun h => h rfl)] at h2
  exact rd_fit (hk i hi) (rdLeft_ok hb i) h2
end Go.Proofs.YtmmiimcodbjnmaaDoor
