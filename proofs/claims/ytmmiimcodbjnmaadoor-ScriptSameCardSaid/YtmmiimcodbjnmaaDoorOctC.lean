/- octets: known, field. -/
import Derived.Test.YtmmiimcodbjnmaaDoorOctB
import Derived.Test.YtmmiimcodbjnmaaDoorTrim
import Derived.Deep.RegionLaw
namespace Go.Proofs.YtmmiimcodbjnmaaDoor
open Go.RowKit Go.Stop Go.Extern Go.Ranges Go.Rows2
set_option linter.unusedVariables false
set_option linter.unusedSimpArgs false
theorem dw_nil {α : Type} (p : α → Bool) : ∀ l : List α, l.dropWhile p = [] ↔ ∀ x ∈ l, p x = true
  | [] => by simp
  | x :: l => by
    by_cases h : p x = true
    · simp [List.dropWhile_cons, h, dw_nil p l]
    · simp [List.dropWhile_cons, h]
theorem dw_head {α : Type} (p : α → Bool) : ∀ (l : List α) (y : α) (ys : List α), l.dropWhile p = y :: ys → p y = false
  | [], y, ys, h => by cases h
  | x :: l, y, ys, h => by
    by_cases hx : p x = true
    · rw [List.dropWhile_cons, if_pos hx] at h; exact dw_head p l y ys h
    · rw [List.dropWhile_cons, if_neg hx] at h
      injection h with h _
      rw [← h]; simpa using hx
theorem dw_mem {α : Type} (p : α → Bool) : ∀ (l : List α) (x : α), x ∈ l.dropWhile p → x ∈ l
  | [], x, h => h
  | y :: l, x, h => by
    by_cases hy : p y = true
    · rw [List.dropWhile_cons, if_pos hy] at h; exact List.mem_cons_of_mem _ (dw_mem p l x h)
    · rw [List.dropWhile_cons, if_neg hy] at h; exact h
theorem letters_contains (c : UInt8) : ([98, 119, 113, 111, 116] : List UInt8).contains c = ocKnown c := by
  show List.elem c _ = _
  simp only [List.elem, ocKnown]
  cases c == 98 <;> cases c == 119 <;> cases c == 113 <;> cases c == 111 <;> cases c == 116 <;> rfl
theorem trim_letters (l : List UInt8) : Lib.trimS l [98, 119, 113, 111, 116] = [] ↔ l.all ocKnown = true := by
  unfold Lib.trimS Lib.trimLeftS Lib.trimRightS
  simp only [letters_contains]
  rw [dw_nil, List.all_eq_true]
  constructor
  · intro h x hx
    by_cases hk : ocKnown x = true
    · exact hk
    · exfalso
      have hne : (l.reverse.dropWhile fun c => ocKnown c) ≠ [] := fun h0 => hk ((dw_nil _ _).1 h0 x (by simpa using hx))
      obtain ⟨y, ys, hy⟩ := List.exists_cons_of_ne_nil hne
      have h2 := dw_head _ _ _ _ hy
      have h3 := h y (by rw [hy]; simp)
      rw [h2] at h3; cases h3
  · intro h x hx
    have := dw_mem _ _ _ (List.mem_reverse.1 hx)
    exact h x (by simpa using this)
set_option maxRecDepth 20000 in
theorem ocKnown_any (s : ByteArray) (w : World) (hs : s.size ≤ maxLen) :
    Calls Tryd.prog 49 #[.string s] w fun e w' => e = .returned (.bool (s.data.toList.all ocKnown)) ∧ Below w.heap.size w w' := by
  have hcon := Any.strings_Trim_laid Tryd.lays160 (by kernel_rfl) s ⟨#[98, 119, 113, 111, 116]⟩ w (by unfold maxLen at hs; omega) (by decide) (ascii_of_all (by decide))
  change Calls Tryd.prog 74 _ _ (fun e w' => e = .returned (.string ⟨(Lib.trimS s.data.toList [98, 119, 113, 111, 116]).toArray⟩) ∧ Below w.heap.size w w') at hcon
  have ht := trim_letters s.data.toList
  generalize s.data.toList.all ocKnown = r at *
  generalize Lib.trimS s.data.toList [98, 119, 113, 111, 116] = t at *
  cases r with
  | true =>
    have h0 : t = [] := ht.2 rfl
    subst h0
    clear ht
    go_enter Tryd.func49, Tryd.ntmps49
    go_wp2_with (go_at_call 74; refine hcon.mono ?_; rintro e w' ⟨rfl, hB⟩)
    go_ret
    exact ⟨rfl, hB⟩
  | false =>
    have h0 : t ≠ [] := fun h => Bool.false_ne_true (ht.1 h)
    obtain ⟨y, ys, rfl⟩ := List.exists_cons_of_ne_nil h0
    clear ht h0
    go_enter Tryd.func49, Tryd.ntmps49
    go_wp2_with (go_at_call 74; refine hcon.mono ?_; rintro e w' ⟨rfl, hB⟩)
    go_ret
    exact ⟨by simp, hB⟩
end Go.Proofs.YtmmiimcodbjnmaaDoor
