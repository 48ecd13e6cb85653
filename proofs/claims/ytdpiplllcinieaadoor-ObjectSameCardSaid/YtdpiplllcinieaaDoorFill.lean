/- What a composite literal's filling yields: a run of cells laid into a row. Whatever program. -/
import Derived.Laws.Build
namespace Go.Fill
theorem fill_get : ∀ (T : List Value) (Z : Array Value) (off s i : Nat), off + s + T.length ≤ Z.size →
    ((T.zipIdx s).foldl (fun cs (x : Value × Nat) => cs.setIfInBounds (off + x.2) x.1) Z)[i]? = if off + s ≤ i ∧ i < off + s + T.length then T[i - off - s]? else Z[i]?
  | [], Z, off, s, i, _ => by simp; intro h1 h2; omega
  | v :: T, Z, off, s, i, h => by
    simp only [List.length_cons] at h
    rw [List.zipIdx_cons, List.foldl_cons, fill_get T _ off (s + 1) i (by simp; omega)]
    simp only [List.length_cons]
    by_cases h1 : i = off + s
    · subst h1
      rw [if_neg (by omega), if_pos (by omega)]
      rw [Array.getElem?_setIfInBounds_self_of_lt (by omega), show off + s - off - s = 0 by omega]
      rfl
    · by_cases h2 : off + (s + 1) ≤ i ∧ i < off + (s + 1) + T.length
      · rw [if_pos h2, if_pos (by omega)]
        rw [show i - off - s = (i - off - (s + 1)) + 1 by omega]
        rfl
      · rw [if_neg h2]
        by_cases h3 : off + s ≤ i ∧ i < off + s + (T.length + 1)
        · omega
        · rw [if_neg h3, Array.getElem?_setIfInBounds_ne (by omega)]
theorem fill_size : ∀ (T : List Value) (Z : Array Value) (off s : Nat), ((T.zipIdx s).foldl (fun cs (x : Value × Nat) => cs.setIfInBounds (off + x.2) x.1) Z).size = Z.size
  | [], _, _, _ => rfl
  | v :: T, Z, off, s => by rw [List.zipIdx_cons, List.foldl_cons, fill_size T _ off (s + 1)]; simp
end Go.Fill
