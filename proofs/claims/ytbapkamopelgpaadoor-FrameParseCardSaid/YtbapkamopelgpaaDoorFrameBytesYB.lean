/- A row of fields that the program makes. -/
import Derived.Test.YtbapkamopelgpaaDoorFrameBytesYA
namespace Go.Proofs.YtbapkamopelgpaaDoor
open Go.RowKit Go.Stop Go.Extern Go.Ranges Go.Rows2
set_option linter.unusedVariables false
set_option linter.unusedSimpArgs false
set_option maxRecDepth 20000
/-- A row of fields. -/
structure FR (w : World) (base : Nat) (v : Value) (n : Nat) (xs : List Value) (N : Nat → Int) (B : Nat → List Int) : Prop where
  own : w.ownsRow base 97 2 v n xs
  el : ∀ i, i < n → ∃ D c, xs[2 * i]? = some (.int .i64 (N i)) ∧ xs[2 * i + 1]? = some (.slice D (B i).length c) ∧ ByteS w (fun k => some k ≠ v.ownBlock) D (B i)
theorem FR.below {w w' : World} {base : Nat} {v : Value} {n : Nat} {xs : List Value} {N : Nat → Int} {B : Nat → List Int} (h : FR w base v n xs N B) (hb : Below w.heap.size w w') : FR w' base v n xs N B :=
  ⟨own_keep h.own hb, fun i hi => by
    obtain ⟨D, c, h1, h2, h3⟩ := h.el i hi
    exact ⟨D, c, h1, h2, h3.below hb⟩⟩
theorem FR.len {w : World} {base : Nat} {v : Value} {n : Nat} {xs : List Value} {N : Nat → Int} {B : Nat → List Int} (h : FR w base v n xs N B) : xs.length = 2 * n := by have := h.own.1; omega
theorem FR.push {w w' : World} {base : Nat} {v : Value} {n : Nat} {xs : List Value} {N : Nat → Int} {B : Nat → List Int} (h : FR w base v n xs N B) {D : Option Addr} {c g cap : Nat} (hD : ByteS w (fun k => some k ≠ v.ownBlock) D (B n))
    (ho : w'.ownsRow base 97 2 (.slice (some ⟨g, 0, none⟩) (n + 1) cap) (n + 1) (xs ++ [.int .i64 (N n), .slice D (B n).length c])) (hg : w.grownBy w' v.ownBlock) (hat : v.ownBlock = some g ∨ g = w.heap.size) :
    FR w' base (.slice (some ⟨g, 0, none⟩) (n + 1) cap) (n + 1) (xs ++ [.int .i64 (N n), .slice D (B n).length c]) N B := by
  have hC : Chg (fun k => some k = v.ownBlock) w w' := Chg.of_grown hg (fun k hk => hk.symm)
  have hT : ∀ {E : Option Addr} {l : List Int}, ByteS w (fun k => some k ≠ v.ownBlock) E l → ByteS w' (fun k => some k ≠ (Value.slice (some ⟨g, 0, none⟩) (n + 1) cap).ownBlock) E l := fun {E l} hy => by
    have h1 := hy.chg hC (fun k hk hh hw => hh hw)
    refine ⟨h1.1, fun a e hn hx => ?_⟩
    have h2 := hy.2 a e hn
    have h3 := hy.lt a e hn
    have h4 : a.block = g := by injection hx
    rcases hat with h5 | h5
    · exact h2 (by rw [h4, h5])
    · omega
  have hl := h.len
  refine ⟨ho, fun i hi => ?_⟩
  by_cases hin : i < n
  · obtain ⟨E, d, h1, h2, h3⟩ := h.el i hin
    refine ⟨E, d, ?_, ?_, hT h3⟩
    · rw [List.getElem?_append_left (by omega)]; exact h1
    · rw [List.getElem?_append_left (by omega)]; exact h2
  · obtain rfl : i = n := by omega
    refine ⟨D, c, ?_, ?_, hT hD⟩
    · rw [List.getElem?_append_right (by omega), hl, Nat.sub_self]; rfl
    · rw [List.getElem?_append_right (by omega), hl, Nat.add_sub_cancel_left]; rfl
theorem FR.fields {w : World} {base : Nat} {A : Option Addr} {n c : Nat} {xs : List Value} {N : Nat → Int} {B : Nat → List Int} (h : FR w base (.slice A n c) n xs N B) : FieldsAt w A n N B := fun hn => by
  rcases h.own.2 with ⟨_, h0⟩ | ⟨g, cap, cur, hv, _, hh, _, _, _, htk⟩
  · omega
  · injection hv with e1 _ _
    subst e1
    refine ⟨g, 0, rfl, (Array.getElem?_eq_some_iff.1 hh).1, fun i hi => ?_⟩
    obtain ⟨D, d, h1, h2, h3⟩ := h.el i hi
    have hc : ∀ j, j < 2 * n → w.cell? ⟨g, 0 + j, none⟩ = xs[j]? := fun j hj => by
      rw [cell_of_row _ _ _ _ _ _ hh, Nat.zero_add, ← Array.getElem?_toList, ← htk, List.getElem?_take_of_lt (by omega)]
    refine ⟨D, d, ?_, ?_, h3.1⟩
    · rw [hc (i * 2) (by omega), Nat.mul_comm]; exact h1
    · rw [Nat.add_assoc, hc (i * 2 + 1) (by omega), Nat.mul_comm]; exact h2
/-- The row of the first thirteen. -/
theorem FR.made {w : World} {base : Nat} (hb : base ≤ w.heap.size) (T : TypeId) {C : Array Value} {n : Nat} {N : Nat → Int} {B : Nat → List Int} (hn : n ≤ maxLen) (hC : C.size = n * 2)
    (hel : ∀ i, i < n → ∃ D c, C[2 * i]? = some (.int .i64 (N i)) ∧ C[2 * i + 1]? = some (.slice D (B i).length c) ∧ ByteS w (fun _ => True) D (B i)) :
    FR (w.alloc (.cells C 97)) base (.slice (some ⟨w.heap.size, 0, none⟩) n n) n C.toList N B := by
  refine ⟨⟨by simpa using hC, .inr ⟨w.heap.size, n, C, rfl, hb, heap_alloc_last w _, Nat.le_refl _, hn, hC, by rw [List.take_of_length_le (by simp [hC])]⟩⟩, fun i hi => ?_⟩
  obtain ⟨D, c, h1, h2, h3⟩ := hel i hi
  refine ⟨D, c, by rw [Array.getElem?_toList]; exact h1, by rw [Array.getElem?_toList]; exact h2, ?_⟩
  refine ⟨(h3.below (alloc_below w _)).1, fun a e hl hx => ?_⟩
  have h4 := h3.lt a e hl
  have h5 : a.block = w.heap.size := by injection hx
  omega
end Go.Proofs.YtbapkamopelgpaaDoor
