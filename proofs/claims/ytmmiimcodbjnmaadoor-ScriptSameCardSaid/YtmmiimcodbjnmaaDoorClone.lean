/- slices.Clone of bytes; a text in memory. -/
import Derived.Test.YtmmiimcodbjnmaaDoorByt
import Derived.Test.YtmmiimcodbjnmaaDoorRow
namespace Go.Proofs.YtmmiimcodbjnmaaDoor
open Go.RowKit Go.Stop Go.Extern Go.Ranges Go.Rows2
set_option linter.unusedVariables false
set_option linter.unusedSimpArgs false
/-- A slice of bytes that reads as a text; its block is one of those that S lets. -/
def TextIs (w : World) (S : Nat → Prop) (x : Value) (t : List Int) : Prop := ∃ A c, x = .slice A t.length c ∧ Lib.BytesIn w A t.length t ∧ t.length ≤ c ∧ c ≤ maxLen ∧ ∀ a, A = some a → 0 < t.length → a.block < w.heap.size ∧ S a.block
theorem TextIs.chg {w w' : World} {S T : Nat → Prop} {x : Value} {t : List Int} (h : TextIs w S x t) (hc : Chg T w w') (hST : ∀ k, k < w.heap.size → S k → ¬ T k) : TextIs w' S x t := by
  obtain ⟨A, c, rfl, hB, h1, h2, hA⟩ := h
  refine ⟨A, c, rfl, fun hn => ?_, h1, h2, fun a e hp => ⟨Nat.lt_of_lt_of_le (hA a e hp).1 hc.size, (hA a e hp).2⟩⟩
  obtain ⟨b, o, rfl, hcl⟩ := hB hn
  obtain ⟨hlt, hS⟩ := hA _ rfl hn
  exact ⟨b, o, rfl, fun i hi => (World.cell?_of_block (a := ⟨b, o + i, none⟩) (hc.block b hlt (hST b hlt hS))).trans (hcl i hi)⟩
theorem TextIs.mono {w : World} {S T : Nat → Prop} {x : Value} {t : List Int} (h : TextIs w S x t) (hST : ∀ k, k < w.heap.size → S k → T k) : TextIs w T x t := by
  obtain ⟨A, c, rfl, hB, h1, h2, hA⟩ := h
  exact ⟨A, c, rfl, hB, h1, h2, fun a e hp => ⟨(hA a e hp).1, hST _ (hA a e hp).1 (hA a e hp).2⟩⟩
set_option maxRecDepth 20000 in
theorem clone_any (A : Option Addr) (n c : Nat) (xs : List Int) (w : World) (hn : xs.length = n) (hB : Lib.BytesIn w A n xs) (hL : n ≤ 274877906944) (hA : A = none → n = 0) :
    Calls Tryd.prog 75 #[.slice A n c] w fun e w' => ∃ v, e = .returned v ∧ TextIs w' (fun k => w.heap.size ≤ k) v xs ∧ Below w.heap.size w w' := by
  have he : ∀ w, (binOp .eql 34 (.slice A n c) (.slice none 0 0)).run Tryd.prog w = .ok (.bool A.isNone) w := fun w => Lib.run_eql_slice_nil w _ _ A n c 0 0 Tryd.underlying34
  cases A with
  | none =>
    obtain rfl := hA rfl
    obtain rfl := List.eq_nil_of_length_eq_zero hn
    clear hA hB
    go_enter Tryd.func75, Tryd.ntmps75
    go_wp2
    go_ret
    exact ⟨_, rfl, ⟨none, 0, rfl, fun h => absurd h (by decide), Nat.le_refl _, Nat.zero_le _, fun a e _ => by cases e⟩, Below.refl _ _⟩
  | some a =>
    have ho0 : (w.alloc (.cells #[] 5)).ownsRow w.heap.size 5 1 (.slice (some ⟨w.heap.size, 0, none⟩) 0 0) 0 (bV []) :=
      ⟨rfl, .inr ⟨_, 0, #[], rfl, Nat.le_refl _, heap_alloc_last w _, Nat.le_refl _, Nat.zero_le _, rfl, rfl⟩⟩
    have hb0 := alloc_below w (.cells #[] 5)
    obtain ⟨v1, w1, hr1, ho1, hg1⟩ := app_bytes (xs := []) ho0 (some a) n c xs hn (bytesIn_below' hB hb0) hb0.size (by omega)
    rw [Nat.zero_add, List.nil_append] at ho1
    have hb1 : Below w.heap.size w w1 := hb0.grown hg1 hb0.size (fun k hk => (ho0.lt k hk).1)
    obtain ⟨A1, c1, rfl⟩ := own_slice ho1
    have hT : TextIs w1 (fun k => w.heap.size ≤ k) (.slice A1 n c1) xs := by
      refine ⟨A1, c1, by rw [hn], by rw [hn]; exact own_bytes ho1, ?_, ?_, fun a e _ => ?_⟩
      · rcases ho1.2 with ⟨hv, h0⟩ | ⟨g, cap, cur, hv, _, _, h1, h2, _⟩
        · omega
        · injection hv with _ _ h3; subst h3; omega
      · rcases ho1.2 with ⟨hv, h0⟩ | ⟨g, cap, cur, hv, _, _, h1, h2, _⟩
        · injection hv with _ _ h3; subst h3; exact Nat.zero_le _
        · injection hv with _ _ h3; subst h3; exact h2
      · rcases ho1.2 with ⟨hv, h0⟩ | ⟨g, cap, cur, hv, hg, hh, h1, h2, _⟩
        · injection hv with h3; rw [h3] at e; cases e
        · injection hv with h3; rw [h3] at e; cases e
          exact ⟨(Array.getElem?_eq_some_iff.1 hh).1, hg⟩
    have KT := Lib.hid hT
    have KB := Lib.hid hb1
    clear hT hb1 ho1 hg1 ho0 hb0 hB hA
    go_enter Tryd.func75, Tryd.ntmps75
    go_wp2_with (at_builtin; go_loud (refine Lib.wpList_append_run _ rfl (.tmp 5) (.tmp 6) 34 34 rfl _ _ rfl rfl _ _ hr1 ?_))
    go_ret
    exact ⟨_, rfl, KT.out, KB.out⟩
end Go.Proofs.YtmmiimcodbjnmaaDoor
