/- octets, Write and the reference's: what each answers, plainly. -/
import Derived.Test.YtmmiimcodbjnmaaDoorWrC
import Derived.Test.YtmmiimcodbjnmaaDoorWrD
import Derived.Test.YtmmiimcodbjnmaaDoorOcAl
namespace Go.Proofs.YtmmiimcodbjnmaaDoor
open Go.RowKit Go.Stop Go.Extern Go.Ranges Go.Rows2
set_option linter.unusedVariables false
set_option linter.unusedSimpArgs false
set_option maxRecDepth 20000
/-- Why fields are not written; 0: they are. -/
def wrC (s : ByteArray) (N : Nat → Int) (B : Nat → List Int) (n : Nat) : Nat :=
  if s.data.toList.all ocKnown = false then 7 else if s.size ≠ n then 1 else if ocFits s.data.toList N B n = true then 0 else 1
def wrL (s : ByteArray) (N : Nat → Int) (B : Nat → List Int) (n : Nat) : List Int := if wrC s N B n = 0 then ocAll s.data.toList N B n else []
theorem wrC_le (s : ByteArray) (N : Nat → Int) (B : Nat → List Int) (n : Nat) : wrC s N B n ≤ 22 := by
  unfold wrC
  split
  · omega
  · split
    · omega
    · split <;> omega
theorem wrC_zero {s : ByteArray} {N : Nat → Int} {B : Nat → List Int} {n : Nat} (h : wrC s N B n = 0) : s.data.toList.all ocKnown = true ∧ s.size = n ∧ ocFits s.data.toList N B n = true := by
  unfold wrC at h
  by_cases h1 : s.data.toList.all ocKnown = false
  · rw [if_pos h1] at h; cases h
  · rw [if_neg h1] at h
    by_cases h2 : s.size ≠ n
    · rw [if_pos h2] at h; cases h
    · rw [if_neg h2] at h
      by_cases h3 : ocFits s.data.toList N B n = true
      · exact ⟨by simpa using h1, by omega, h3⟩
      · rw [if_neg h3] at h; cases h
theorem ocB_byte {c : UInt8} {N : Int} {B : List Int} (h : BytesOk B) : BytesOk (ocB c N B) := by
  unfold ocB
  split
  · exact fun y hy => ocNum_byte _ _ y hy
  · split
    · exact h
    · intro y hy
      rcases List.mem_append.1 hy with h1 | h1
      · exact ocNum_byte _ _ y h1
      · exact h y h1
theorem ocAll_byte {s : List UInt8} {N : Nat → Int} {B : Nat → List Int} (h : ∀ i, BytesOk (B i)) (k : Nat) : BytesOk (ocAll s N B k) := by
  induction k with
  | zero => exact fun y hy => absurd hy (by simp [ocAll, cat])
  | succ k ih =>
    intro y hy
    have e : ocAll s N B (k + 1) = ocAll s N B k ++ ocB (s.getD k 0) (N k) (B k) := rfl
    rw [e] at hy
    rcases List.mem_append.1 hy with h1 | h1
    · exact ih y h1
    · exact ocB_byte (h k) y h1
theorem own_cap {w : World} {base : Nat} {e : TypeId} {m : Nat} {A : Option Addr} {n c : Nat} {xs : List Value} (h : w.ownsRow base e m (.slice A n c) n xs) : n ≤ c ∧ c ≤ maxLen := by
  rcases h.2 with ⟨hv, h0⟩ | ⟨g, cap, cur, hv, _, _, h1, h2, _⟩
  · injection hv with _ _ h3; subst h3; subst h0; exact ⟨Nat.le_refl _, Nat.zero_le _⟩
  · injection hv with _ _ h3; subst h3; exact ⟨h1, h2⟩
def WrOut (w : World) (l : List Int) (x : Value) (e : Ending) (w' : World) : Prop :=
  ∃ A c, e = .returned (.tuple #[.slice A l.length c, x]) ∧ Lib.BytesIn w' A l.length l ∧ l.length ≤ c ∧ c ≤ maxLen ∧ Below w.heap.size w w'
theorem ocWrite_any (s : ByteArray) (A : Option Addr) (n c : Nat) (N : Nat → Int) (B : Nat → List Int) (a : Nat → Addr) (w : World) (H1 : ErrC w a 1) (H7 : ErrC w a 7) (hs : s.size ≤ 1000) (hn : n ≤ 1000) (hF : FieldsAt w A n N B) (hB : ∀ i, i < n → (B i).length ≤ 100000) :
    Calls Tryd.prog 25 #[.string s, .slice A n c] w (WrOut w (wrL s N B n) (errV a (wrC s N B n))) := by
  unfold wrL wrC
  by_cases hk : s.data.toList.all ocKnown = false
  · rw [if_pos hk, if_neg (by decide)]
    refine (ocWrite_unknown s A n c a w H7 (by unfold maxLen; omega) hk).mono ?_
    rintro e w' ⟨rfl, hb⟩
    exact ⟨none, 0, rfl, fun h => absurd h (by decide), Nat.le_refl _, Nat.zero_le _, hb⟩
  · have hk1 : s.data.toList.all ocKnown = true := by simpa using hk
    rw [if_neg hk]
    by_cases hz : s.size ≠ n
    · rw [if_pos hz, if_neg (by decide)]
      refine (ocWrite_many s A n c a w H1 (by unfold maxLen; omega) hk1 hz).mono ?_
      rintro e w' ⟨rfl, hb⟩
      exact ⟨none, 0, rfl, fun h => absurd h (by decide), Nat.le_refl _, Nat.zero_le _, hb⟩
    · rw [if_neg hz]
      have h := ocWrite_go s A n c N B a w H1 (by omega) hn hk1 hF hB
      by_cases hf : ocFits s.data.toList N B n = true
      · rw [if_pos hf] at h
        rw [if_pos hf, if_pos rfl]
        refine h.mono ?_
        rintro e w' ⟨A', c', rfl, ho, hb⟩
        exact ⟨A', c', rfl, own_bytes ho, (own_cap ho).1, (own_cap ho).2, hb⟩
      · rw [if_neg hf] at h
        rw [if_neg hf, if_neg (by decide)]
        refine h.mono ?_
        rintro e w' ⟨rfl, hb⟩
        exact ⟨none, 0, rfl, fun h => absurd h (by decide), Nat.le_refl _, Nat.zero_le _, hb⟩
theorem refWrite_any (s : ByteArray) (A : Option Addr) (n c : Nat) (N : Nat → Int) (B : Nat → List Int) (w : World) (hs : s.size ≤ 1000) (hn : n ≤ 1000) (hF : FieldsAt w A n N B) (hB : ∀ i, i < n → (B i).length ≤ 100000) :
    Calls Tryd.prog 33 #[.string s, .slice A n c] w (WrOut w (wrL s N B n) (.int .i64 (wrC s N B n))) := by
  unfold wrL wrC
  by_cases hk : s.data.toList.all ocKnown = false
  · rw [if_pos hk, if_neg (by decide)]
    refine (refWrite_unknown s A n c w (by omega) hk).mono ?_
    rintro e w' ⟨rfl, hb⟩
    exact ⟨none, 0, rfl, fun h => absurd h (by decide), Nat.le_refl _, Nat.zero_le _, hb⟩
  · have hk1 : s.data.toList.all ocKnown = true := by simpa using hk
    rw [if_neg hk]
    by_cases hz : s.size ≠ n
    · rw [if_pos hz, if_neg (by decide)]
      refine (refWrite_many s A n c w (by omega) hk1 hz).mono ?_
      rintro e w' ⟨rfl, hb⟩
      exact ⟨none, 0, rfl, fun h => absurd h (by decide), Nat.le_refl _, Nat.zero_le _, hb⟩
    · rw [if_neg hz]
      have h := refWrite_go s A n c N B w (by omega) hn hk1 hF hB
      by_cases hf : ocFits s.data.toList N B n = true
      · rw [if_pos hf] at h
        rw [if_pos hf, if_pos rfl]
        refine h.mono ?_
        rintro e w' ⟨A', c', rfl, ho, hb⟩
        exact ⟨A', c', rfl, own_bytes ho, (own_cap ho).1, (own_cap ho).2, hb⟩
      · rw [if_neg hf] at h
        rw [if_neg hf, if_neg (by decide)]
        refine h.mono ?_
        rintro e w' ⟨rfl, hb⟩
        exact ⟨none, 0, rfl, fun h => absurd h (by decide), Nat.le_refl _, Nat.zero_le _, hb⟩
/-- What was written is read whole. -/
theorem read_back {s : ByteArray} {N : Nat → Int} {B : Nat → List Int} {n : Nat} (h : wrC s N B n = 0) : wrL s N B n = ocAll s.data.toList N B s.size ∧ rdErr s.data.toList (wrL s N B n) s.size = 0 ∧ rdLeft s.data.toList (wrL s N B n) s.size = [] ∧ readC s.data.toList (wrL s N B n) s.size = 0 := by
  obtain ⟨h1, rfl, h3⟩ := wrC_zero h
  have hk : ∀ i, i < s.size → ocKnown (s.data.toList.getD i 0) = true := fun i hi => List.all_eq_true.1 h1 _ (by
    rw [List.getD_eq_getElem?_getD, List.getElem?_eq_getElem (by simpa using hi)]
    exact List.getElem_mem _)
  have e : wrL s N B s.size = ocAll s.data.toList N B s.size := by unfold wrL; rw [if_pos h]
  obtain ⟨r1, r2, _⟩ := rd_oc_at (s := s.data.toList) (N := N) (B := B) s.size [] hk (ocFits_at.1 h3)
  rw [List.append_nil] at r1 r2
  rw [e]
  refine ⟨rfl, r1, r2, ?_⟩
  unfold readC
  rw [if_neg (fun h => h r1), r2]
  rfl
end Go.Proofs.YtmmiimcodbjnmaaDoor
