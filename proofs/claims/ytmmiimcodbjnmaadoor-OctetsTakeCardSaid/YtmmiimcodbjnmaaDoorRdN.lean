/- octets, reading: a number, a text, as the letters say. -/
import Derived.Test.YtmmiimcodbjnmaaDoorRdH
namespace Go.Proofs.YtmmiimcodbjnmaaDoor
open Go.RowKit Go.Stop Go.Extern Go.Ranges Go.Rows2
set_option linter.unusedVariables false
set_option linter.unusedSimpArgs false
set_option maxRecDepth 20000
/-- A number read. -/
theorem numR (c : UInt8) (I T : Nat) (xs : List Int) (w : World) (hz : 0 < ocSize c) (h : InAt w I T xs) (hb : BytesOk xs) (hn : rdC c xs = 0) :
    Calls Tryd.prog 55 #[.pointer (some ⟨I, 0, none⟩), .int .u8 c.toNat] w fun e w' => e = .returned (.int .i64 (rdN c xs)) ∧ InAt w' I T (xs.drop (rdLen c xs)) ∧ Chg (fun k => k = I) w w' := by
  have h1 : c ≠ 111 := fun e => by subst e; exact absurd hz (by decide)
  have h2 : c ≠ 116 := fun e => by subst e; exact absurd hz (by decide)
  unfold rdC at hn
  rw [if_neg h1, if_neg h2, if_neg (by omega)] at hn
  unfold rdN rdLen
  rw [if_neg (by rintro (e | e); exact h1 e; exact h2 e), if_neg h1, if_neg h2]
  by_cases h3 : xs.length < ocSize c
  · rw [if_pos h3] at hn; cases hn
  · rw [if_neg h3] at hn
    by_cases h4 : 4611686018427387903 < rdBE (xs.take (ocSize c))
    · rw [if_pos h4] at hn; cases hn
    · exact num_ok c I T xs w hz (by omega) h hb (by omega)
theorem numX (c : UInt8) (I T : Nat) (xs : List Int) (a : Nat → Addr) (w : World) (hz : 0 < ocSize c) (h : InAt w I T xs) (hb : BytesOk xs) (hE : Err3 w a) (hn : rdC c xs ≠ 0) :
    Calls Tryd.prog 55 #[.pointer (some ⟨I, 0, none⟩), .int .u8 c.toNat] w (Halts w a I (rdC c xs)) := by
  have h1 : c ≠ 111 := fun e => by subst e; exact absurd hz (by decide)
  have h2 : c ≠ 116 := fun e => by subst e; exact absurd hz (by decide)
  unfold rdC at hn ⊢
  rw [if_neg h1, if_neg h2, if_neg (by omega)] at hn ⊢
  by_cases h3 : xs.length < ocSize c
  · rw [if_pos h3]
    exact num_short c I T xs a w h3 h hE.2.1
  · rw [if_neg h3] at hn ⊢
    by_cases h4 : 4611686018427387903 < rdBE (xs.take (ocSize c))
    · rw [if_pos h4]
      exact num_big c I T xs a w hz (by omega) h hb h4 hE.1
    · rw [if_neg h4] at hn; exact absurd rfl hn
theorem textR (I T : Nat) (xs : List Int) (w : World) (h : InAt w I T xs) (hb : BytesOk xs) (hn : rdC 116 xs = 0) :
    Calls Tryd.prog 56 #[.pointer (some ⟨I, 0, none⟩)] w (TextEnd w I T (rdB 116 xs) (xs.drop (rdLen 116 xs))) := by
  unfold rdC at hn
  rw [if_neg (by decide), if_pos rfl] at hn
  by_cases h2 : xs.length < 2
  · rw [if_pos h2] at hn; cases hn
  · rw [if_neg h2] at hn
    by_cases h3 : (xs.length : Int) - 2 < rdBE (xs.take 2)
    · rw [if_pos h3] at hn; cases hn
    · unfold rdB rdLen
      rw [if_neg (by decide), if_pos rfl, if_neg (by decide), if_pos rfl]
      exact text_ok I T xs w (by omega) h hb (by omega)
theorem textX (I T : Nat) (xs : List Int) (a : Nat → Addr) (w : World) (h : InAt w I T xs) (hb : BytesOk xs) (hE : Err3 w a) (hn : rdC 116 xs ≠ 0) :
    Calls Tryd.prog 56 #[.pointer (some ⟨I, 0, none⟩)] w (Halts w a I (rdC 116 xs)) := by
  unfold rdC at hn ⊢
  rw [if_neg (by decide), if_pos rfl] at hn ⊢
  by_cases h2 : xs.length < 2
  · rw [if_pos h2]
    exact text_short I T xs a w h hb hE.2.1 (.inl h2)
  · rw [if_neg h2] at hn ⊢
    by_cases h3 : (xs.length : Int) - 2 < rdBE (xs.take 2)
    · rw [if_pos h3]
      exact text_short I T xs a w h hb hE.2.1 (.inr ⟨by omega, h3⟩)
    · rw [if_neg h3] at hn; exact absurd rfl hn
end Go.Proofs.YtmmiimcodbjnmaaDoor
