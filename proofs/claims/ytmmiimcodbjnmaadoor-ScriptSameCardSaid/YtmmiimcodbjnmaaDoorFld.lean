/- Rows of fields, whoever makes them. -/
import Derived.Test.YtmmiimcodbjnmaaDoorOctE
namespace Go.Proofs.YtmmiimcodbjnmaaDoor
open Go.RowKit Go.Stop Go.Extern Go.Ranges Go.Rows2
set_option linter.unusedVariables false
set_option linter.unusedSimpArgs false
set_option maxRecDepth 20000
theorem rowField : (Tryd.prog.info? 60).map (fun i => (i.zero, i.size, i.bytes)) = some (some (.agg #[.int .i64 0, .slice none 0 0]), 2, 32) := by kernel_rfl
theorem two_one (n : Int) (D : Option Addr) (l c : Nat) : ∀ u ∈ [Value.int .i64 n, .slice D l c], u.oneCell' = true := fun u hu => by
  simp only [List.mem_cons, List.not_mem_nil, or_false] at hu
  rcases hu with rfl | rfl <;> rfl
/-- Bytes that lie in a block that S lets. -/
def ByteS (w : World) (S : Nat → Prop) (D : Option Addr) (l : List Int) : Prop := Lib.BytesIn w D l.length l ∧ ∀ a, D = some a → 0 < l.length → S a.block
theorem ByteS.chg {w w' : World} {S T : Nat → Prop} {D : Option Addr} {l : List Int} (h : ByteS w S D l) (hc : Chg T w w') (hST : ∀ k, k < w.heap.size → S k → ¬ T k) : ByteS w' S D l := by
  refine ⟨fun hn => ?_, h.2⟩
  obtain ⟨b, o, rfl, hl⟩ := h.1 hn
  refine ⟨b, o, rfl, fun i hi => ?_⟩
  have hlt : b < w.heap.size := World.block_lt_of_cell? w _ (hl i hi)
  exact (World.cell?_of_block (a := ⟨b, o + i, none⟩) (hc.block b hlt (hST b hlt (h.2 _ rfl hn)))).trans (hl i hi)
theorem ByteS.below {w w' : World} {S : Nat → Prop} {D : Option Addr} {l : List Int} (h : ByteS w S D l) (hb : Below w.heap.size w w') : ByteS w' S D l := ⟨bytesIn_below' h.1 hb, h.2⟩
theorem ByteS.lt {w : World} {S : Nat → Prop} {D : Option Addr} {l : List Int} (h : ByteS w S D l) : ∀ a, D = some a → 0 < l.length → a.block < w.heap.size := fun a e hn => by
  obtain ⟨b, o, rfl, hl⟩ := h.1 hn
  injection e with e
  subst e
  exact World.block_lt_of_cell? w _ (hl 0 hn)
theorem ByteS.mono {w : World} {S T : Nat → Prop} {D : Option Addr} {l : List Int} (h : ByteS w S D l) (hST : ∀ k, k < w.heap.size → S k → T k) : ByteS w T D l := ⟨h.1, fun a e hn => hST _ (h.lt a e hn) (h.2 a e hn)⟩
/-- Bytes that were there before. -/
theorem ByteS.old {w0 w : World} {D : Option Addr} {l : List Int} (h : Lib.BytesIn w0 D l.length l) (hb : Below w0.heap.size w0 w) : ByteS w (fun k => k < w0.heap.size) D l :=
  ⟨bytesIn_below' h hb, fun a e hn => (show ByteS w0 (fun _ => True) D l from ⟨h, fun _ _ _ => trivial⟩).lt a e hn⟩
/-- A row of fields that were read: their texts are new. -/
structure RF (w : World) (base : Nat) (v : Value) (n : Nat) (xs : List Value) (N : Nat → Int) (B : Nat → List Int) : Prop where
  own : w.ownsRow base 60 2 v n xs
  el : ∀ i, i < n → ∃ D c, xs[2 * i]? = some (.int .i64 (N i)) ∧ xs[2 * i + 1]? = some (.slice D (B i).length c) ∧ ByteS w (fun k => base ≤ k ∧ some k ≠ v.ownBlock) D (B i)
theorem RF.below {w w' : World} {base : Nat} {v : Value} {n : Nat} {xs : List Value} {N : Nat → Int} {B : Nat → List Int} (h   : RF w base v n xs N B) (hb : Below w.heap.size w w')   : RF w' base v n xs N B :=
  ⟨own_keep h.own hb, fun i hi => by
    obtain ⟨D, c, h1, h2, h3⟩ := h.el i hi
    exact ⟨D, c, h1, h2, h3.below hb⟩⟩
theorem RF.len {w : World} {base : Nat} {v : Value} {n : Nat} {xs : List Value} {N : Nat → Int} {B : Nat → List Int} (h   : RF w base v n xs N B) : xs.length = 2 * n := by have := h.own.1; omega
theorem RF.push {w w' : World} {base : Nat} {v : Value} {n : Nat} {xs : List Value} {N : Nat → Int} {B : Nat → List Int} (h   : RF w base v n xs N B) {D : Option Addr} {c g cap : Nat} (hD : ByteS w (fun k => base ≤ k ∧ some k ≠ v.ownBlock) D (B n))
    (ho : w'.ownsRow base 60 2 (.slice (some ⟨g, 0, none⟩) (n + 1) cap) (n + 1) (xs ++ [.int .i64 (N n), .slice D (B n).length c])) (hg : w.grownBy w' v.ownBlock) (hat : v.ownBlock = some g ∨ g = w.heap.size) :
    RF w' base (.slice (some ⟨g, 0, none⟩) (n + 1) cap) (n + 1) (xs ++ [.int .i64 (N n), .slice D (B n).length c]) N B := by
  have hC : Chg (fun k => some k = v.ownBlock) w w' := Chg.of_grown hg (fun k hk => hk.symm)
  have hT : ∀ {E : Option Addr} {l : List Int}, ByteS w (fun k => base ≤ k ∧ some k ≠ v.ownBlock) E l → ByteS w' (fun k => base ≤ k ∧ some k ≠ (Value.slice (some ⟨g, 0, none⟩) (n + 1) cap).ownBlock) E l := fun {E l} hy => by
    have h1 := hy.chg hC (fun k hk hh hw => hh.2 hw)
    refine ⟨h1.1, fun a e hn => ⟨(hy.2 a e hn).1, fun hx => ?_⟩⟩
    have h2 := hy.2 a e hn
    have h3 := hy.lt a e hn
    have h4 : a.block = g := by injection hx
    rcases hat with h5 | h5
    · exact h2.2 (by rw [h4, h5])
    · omega
  have hl := h.len
  refine ⟨ho, fun i hi => ?_⟩
  by_cases hin : i < n
  · obtain ⟨E, d, h1, h2, h3⟩ := h.el i hin
    refine ⟨E, d, ?_, ?_, hT h3⟩
    · rw [List.getElem?_append_left (by omega)]; exact h1
    · rw [List.getElem?_append_left (by omega)]; exact h2
  · obtain rfl : i = n := by omega
    refine ⟨D, c, ?_, ?_, hT hD⟩
    · rw [List.getElem?_append_right (by omega), hl, Nat.sub_self]; rfl
    · rw [List.getElem?_append_right (by omega), hl, Nat.add_sub_cancel_left]; rfl
theorem RF.fields {w : World} {base : Nat} {A : Option Addr} {n c : Nat} {xs : List Value} {N : Nat → Int} {B : Nat → List Int} (h   : RF w base (.slice A n c) n xs N B) : FieldsAt w A n N B := fun hn => by
  rcases h.own.2 with ⟨_, h0⟩ | ⟨g, cap, cur, hv, _, hh, _, _, _, htk⟩
  · omega
  · injection hv with e1 _ _
    subst e1
    refine ⟨g, 0, rfl, (Array.getElem?_eq_some_iff.1 hh).1, fun i hi => ?_⟩
    obtain ⟨D, d, h1, h2, h3⟩ := h.el i hi
    have hc : ∀ j, j < 2 * n → w.cell? ⟨g, 0 + j, none⟩ = xs[j]? := fun j hj => by
      rw [cell_of_row _ _ _ _ _ _ hh, Nat.zero_add, ← Array.getElem?_toList, ← htk, List.getElem?_take_of_lt (by omega)]
    refine ⟨D, d, ?_, ?_, h3.1⟩
    · rw [hc (i * 2) (by omega), Nat.mul_comm]; exact h1
    · rw [Nat.add_assoc, hc (i * 2 + 1) (by omega), Nat.mul_comm]; exact h2
theorem RF.nil (w : World) (base : Nat) (N : Nat → Int) (B : Nat → List Int) : RF w base (.slice none 0 0) 0 [] N B := ⟨World.ownsRow_nil _ _ _ _, fun i hi => absurd hi (Nat.not_lt_zero i)⟩
theorem RF.chg {w w' : World} {I base : Nat} {v : Value} {n : Nat} {xs : List Value} {N : Nat → Int} {B : Nat → List Int} (h : RF w base v n xs N B) (hc : Chg (fun k => k = I) w w') (hI : I < base) : RF w' base v n xs N B := by
  refine ⟨⟨h.own.1, ?_⟩, fun i hi => ?_⟩
  · rcases h.own.2 with h2 | ⟨g, cap, cur, hv, hg, hh, r⟩
    · exact .inl h2
    · exact .inr ⟨g, cap, cur, hv, hg, (hc.block g (Array.getElem?_eq_some_iff.1 hh).1 (by show ¬ g = I; omega)).trans hh, r⟩
  · obtain ⟨D, c, h1, h2, h3⟩ := h.el i hi
    exact ⟨D, c, h1, h2, h3.chg hc (fun k hk hh e => by have := hh.1; omega)⟩
end Go.Proofs.YtmmiimcodbjnmaaDoor
