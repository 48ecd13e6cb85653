/- octets, the reference: rows of its fields; parts of bytes; a number of eight bytes. -/
import Derived.Test.YtmmiimcodbjnmaaDoorRfA
import Derived.Test.YtmmiimcodbjnmaaDoorRdP
namespace Go.Proofs.YtmmiimcodbjnmaaDoor
open Go.RowKit Go.Stop Go.Extern Go.Ranges Go.Rows2
set_option linter.unusedVariables false
set_option linter.unusedSimpArgs false
set_option maxRecDepth 20000
theorem rowField2 : (Tryd.prog.info? 57).map (fun i => (i.zero, i.size, i.bytes)) = some (some (.agg #[.int .i64 0, .slice none 0 0]), 2, 32) := by kernel_rfl
/-- A row of the reference's fields. -/
structure RG (w : World) (base : Nat) (v : Value) (n : Nat) (xs : List Value) (N : Nat → Int) (B : Nat → List Int) : Prop where
  own : w.ownsRow base 57 2 v n xs
  el : ∀ i, i < n → ∃ D c, xs[2 * i]? = some (.int .i64 (N i)) ∧ xs[2 * i + 1]? = some (.slice D (B i).length c) ∧ ByteS w (fun k => k < base ∧ some k ≠ v.ownBlock) D (B i)
theorem RG.below {w w' : World} {base : Nat} {v : Value} {n : Nat} {xs : List Value} {N : Nat → Int} {B : Nat → List Int} (h   : RG w base v n xs N B) (hb : Below w.heap.size w w')   : RG w' base v n xs N B :=
  ⟨own_keep h.own hb, fun i hi => by
    obtain ⟨D, c, h1, h2, h3⟩ := h.el i hi
    exact ⟨D, c, h1, h2, h3.below hb⟩⟩
theorem RG.len {w : World} {base : Nat} {v : Value} {n : Nat} {xs : List Value} {N : Nat → Int} {B : Nat → List Int} (h   : RG w base v n xs N B) : xs.length = 2 * n := by have := h.own.1; omega
theorem RG.push {w w' : World} {base : Nat} {v : Value} {n : Nat} {xs : List Value} {N : Nat → Int} {B : Nat → List Int} (h   : RG w base v n xs N B) {D : Option Addr} {c g cap : Nat} (hD : ByteS w (fun k => k < base ∧ some k ≠ v.ownBlock) D (B n))
    (ho : w'.ownsRow base 57 2 (.slice (some ⟨g, 0, none⟩) (n + 1) cap) (n + 1) (xs ++ [.int .i64 (N n), .slice D (B n).length c])) (hg : w.grownBy w' v.ownBlock) (hat : v.ownBlock = some g ∨ g = w.heap.size) :
    RG w' base (.slice (some ⟨g, 0, none⟩) (n + 1) cap) (n + 1) (xs ++ [.int .i64 (N n), .slice D (B n).length c]) N B := by
  have hC : Chg (fun k => some k = v.ownBlock) w w' := Chg.of_grown hg (fun k hk => hk.symm)
  have hT : ∀ {E : Option Addr} {l : List Int}, ByteS w (fun k => k < base ∧ some k ≠ v.ownBlock) E l → ByteS w' (fun k => k < base ∧ some k ≠ (Value.slice (some ⟨g, 0, none⟩) (n + 1) cap).ownBlock) E l := fun {E l} hy => by
    have h1 := hy.chg hC (fun k hk hh hw => hh.2 hw)
    refine ⟨h1.1, fun a e hn => ⟨(hy.2 a e hn).1, fun hx => ?_⟩⟩
    have h2 := hy.2 a e hn
    have h3 := hy.lt a e hn
    have h4 : a.block = g := by injection hx
    rcases hat with h5 | h5
    · exact h2.2 (by rw [h4, h5])
    · omega
  have hl := h.len
  refine ⟨ho, fun i hi => ?_⟩
  by_cases hin : i < n
  · obtain ⟨E, d, h1, h2, h3⟩ := h.el i hin
    refine ⟨E, d, ?_, ?_, hT h3⟩
    · rw [List.getElem?_append_left (by omega)]; exact h1
    · rw [List.getElem?_append_left (by omega)]; exact h2
  · obtain rfl : i = n := by omega
    refine ⟨D, c, ?_, ?_, hT hD⟩
    · rw [List.getElem?_append_right (by omega), hl, Nat.sub_self]; rfl
    · rw [List.getElem?_append_right (by omega), hl, Nat.add_sub_cancel_left]; rfl
theorem RG.fields {w : World} {base : Nat} {A : Option Addr} {n c : Nat} {xs : List Value} {N : Nat → Int} {B : Nat → List Int} (h   : RG w base (.slice A n c) n xs N B) : FieldsAt w A n N B := fun hn => by
  rcases h.own.2 with ⟨_, h0⟩ | ⟨g, cap, cur, hv, _, hh, _, _, _, htk⟩
  · omega
  · injection hv with e1 _ _
    subst e1
    refine ⟨g, 0, rfl, (Array.getElem?_eq_some_iff.1 hh).1, fun i hi => ?_⟩
    obtain ⟨D, d, h1, h2, h3⟩ := h.el i hi
    have hc : ∀ j, j < 2 * n → w.cell? ⟨g, 0 + j, none⟩ = xs[j]? := fun j hj => by
      rw [cell_of_row _ _ _ _ _ _ hh, Nat.zero_add, ← Array.getElem?_toList, ← htk, List.getElem?_take_of_lt (by omega)]
    refine ⟨D, d, ?_, ?_, h3.1⟩
    · rw [hc (i * 2) (by omega), Nat.mul_comm]; exact h1
    · rw [Nat.add_assoc, hc (i * 2 + 1) (by omega), Nat.mul_comm]; exact h2
theorem RG.new (w : World) (base : Nat) (hb : base ≤ w.heap.size) (N : Nat → Int) (B : Nat → List Int) : RG (w.alloc (.cells #[] 57)) base (.slice (some ⟨w.heap.size, 0, none⟩) 0 0) 0 [] N B :=
  ⟨⟨rfl, .inr ⟨w.heap.size, 0, #[], rfl, hb, heap_alloc_last w _, Nat.le_refl _, Nat.zero_le _, rfl, rfl⟩⟩, fun i hi => absurd hi (Nat.not_lt_zero i)⟩
theorem cutS_rest {w : World} {S : Nat → Prop} {A : Option Addr} {c : Nat} {xs : List Int} (h : ByteS w S A xs) (hc : xs.length ≤ c) (k : Nat) (hk : k ≤ xs.length) : ByteS w S (cutB A k c) (xs.drop k) := by
  have hl : (xs.drop k).length = xs.length - k := List.length_drop
  refine ⟨fun hn => ?_, fun a e hn => ?_⟩
  · rw [hl] at hn
    obtain ⟨b, o, rfl, hcl⟩ := h.1 (by omega)
    refine ⟨b, o + k, ?_, fun i hi => ?_⟩
    · unfold cutB
      rw [if_neg (by omega)]
      exact congrArg some (Go.WideShapes.add_plain b o k)
    · rw [hl] at hi
      have := hcl (k + i) (by omega)
      rw [Nat.add_assoc, this]
      simp [List.getD_eq_getElem?_getD, List.getElem?_drop]
  · rw [hl] at hn
    unfold cutB at e
    rw [if_neg (by omega)] at e
    cases A with
    | none => cases e
    | some a0 =>
      injection e with e
      subst e
      rw [add_block]
      exact h.2 a0 rfl (by omega)
theorem cutS_head {w : World} {S : Nat → Prop} {A : Option Addr} {c : Nat} {xs : List Int} (h : ByteS w S A xs) (hc : xs.length ≤ c) (k : Nat) (hk : k ≤ xs.length) : ByteS w S (cutB A 0 c) (xs.take k) := by
  have hl : (xs.take k).length = k := by rw [List.length_take]; omega
  refine ⟨fun hn => ?_, fun a e hn => ?_⟩
  · rw [hl] at hn
    obtain ⟨b, o, rfl, hcl⟩ := h.1 (by omega)
    refine ⟨b, o, ?_, fun i hi => ?_⟩
    · unfold cutB
      rw [if_neg (by omega)]
      rfl
    · rw [hl] at hi
      rw [hcl i (by omega)]
      simp [List.getD_eq_getElem?_getD, List.getElem?_take, hi]
  · rw [hl] at hn
    unfold cutB at e
    rw [if_neg (by omega)] at e
    cases A with
    | none => cases e
    | some a0 =>
      injection e with e
      subst e
      exact h.2 a0 rfl (by omega)
theorem foldl_be (ys : List Int) (a : Int) : ys.foldl (fun n c => n * 256 + c) a = a * 256 ^ ys.length + rdBE ys := by
  induction ys generalizing a with
  | nil => simp [rdBE]
  | cons y ys ih =>
    have h1 : rdBE (y :: ys) = y * 256 ^ ys.length + rdBE ys := by
      show ys.foldl _ (0 * 256 + y) = _
      rw [ih]
      simp
    rw [h1, List.foldl_cons, ih, List.length_cons, Int.pow_succ, Int.add_mul, Int.mul_assoc, Int.mul_comm 256, Int.add_assoc]
theorem be_cons (y : Int) (ys : List Int) : rdBE (y :: ys) = y * 256 ^ ys.length + rdBE ys := by
  show ys.foldl _ (0 * 256 + y) = _
  rw [foldl_be]
  simp
/-- Eight bytes are more than the most just if the first one is 64 or more. -/
theorem be_big (ys : List Int) (h : ys.length = 8) (hb : BytesOk ys) : 64 ≤ ys.getD 0 0 ↔ 4611686018427387903 < rdBE ys := by
  cases ys with
  | nil => cases h
  | cons y t =>
    have ht : t.length = 7 := by simpa using h
    have hbt : BytesOk t := fun z hz => hb z (by simp [hz])
    have hbd := rdBE_bd t hbt
    rw [ht] at hbd
    rw [be_cons, ht]
    have hp : (256 : Int) ^ 7 = 72057594037927936 := by decide
    rw [hp] at hbd ⊢
    show 64 ≤ y ↔ _
    omega
theorem be_part (ys : List Int) (hb : BytesOk ys) (j : Nat) (hj : j < ys.length) (h8 : ys.length ≤ 8) (hm : rdBE ys ≤ 4611686018427387903) : rdBE (ys.take j) * 256 + ys.getD j 0 = rdBE (ys.take (j + 1)) ∧ 0 ≤ rdBE (ys.take j) ∧ rdBE (ys.take j) * 256 ≤ 4611686018427387903 ∧ rdBE (ys.take (j + 1)) ≤ 4611686018427387903 := by
  have e : rdBE (ys.take (j + 1)) = rdBE (ys.take j) * 256 + ys.getD j 0 := by rw [take_snocI ys j hj, rdBE_snoc]
  have h0 := (rdBE_bd (ys.take j) (hb.take j)).1
  have hc := hb.getD j
  have h1 : rdBE (ys.take (j + 1)) ≤ 4611686018427387903 := by
    by_cases hl : j + 1 = ys.length
    · rw [hl, List.take_of_length_le (Nat.le_refl _)]; exact hm
    · have hbd := (rdBE_bd (ys.take (j + 1)) (hb.take (j + 1))).2
      have hl2 : (ys.take (j + 1)).length = j + 1 := by rw [List.length_take]; omega
      rw [hl2] at hbd
      have := pow_small (j + 1) (by omega)
      omega
  exact ⟨e.symm, h0, by omega, h1⟩
end Go.Proofs.YtmmiimcodbjnmaaDoor
