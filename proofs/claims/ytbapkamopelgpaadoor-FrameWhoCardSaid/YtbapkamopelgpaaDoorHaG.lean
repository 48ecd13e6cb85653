/- A digest's figures: Hex; the chapter's example. -/
import Derived.Test.YtbapkamopelgpaaDoorHaF
import Derived.Deep.RegionLaw
import Derived.Lib.SlBytesConst
namespace Go.Proofs.YtbapkamopelgpaaDoor
open Go.RowKit Go.Stop Go.Extern Go.Ranges
set_option linter.unusedVariables false
set_option linter.unusedSimpArgs false
attribute [-go_sem] loadVar storeVar
attribute [local go_sem] loadVar_one storeVar_one
theorem sum_len (xs : List Int) : (Sha.sum xs).length = 32 := rfl
theorem four_byte (x : Sha.W) : ∀ y ∈ Sha.four x, isByte y := fun y hy => by
  unfold Sha.four at hy
  simp only [List.mem_cons, List.not_mem_nil, or_false] at hy
  unfold isByte
  rcases hy with rfl | rfl | rfl | rfl <;> omega
theorem sum_byte (xs : List Int) : ∀ y ∈ Sha.sum xs, isByte y := fun y hy => by
  unfold Sha.sum Sha.out at hy
  simp only [List.mem_append] at hy
  rcases hy with ((((((h | h) | h) | h) | h) | h) | h) | h <;> exact four_byte _ y h
end Go.Proofs.YtbapkamopelgpaaDoor
