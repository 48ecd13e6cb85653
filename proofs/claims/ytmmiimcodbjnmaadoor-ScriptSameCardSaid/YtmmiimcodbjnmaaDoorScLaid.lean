/- What the laid row of ScriptSame holds. -/
import Derived.Test.YtmmiimcodbjnmaaDoorErrOn
import Derived.Test.YtmmiimcodbjnmaaDoorOpenSct
namespace Go.Proofs.YtmmiimcodbjnmaaDoor
open Go.RowKit Go.ErrsGen Go.ChangeShapes
set_option maxRecDepth 100000
theorem env_same {W : World} (h : laidMetH Tryd.prog Rows.scriptSameRow.laid W) : ∃ a, ErrC W a 1 := by
  have h2 : laidMet Tryd.prog (("unicode/utf8.acceptRanges", Rows.laid_unicode_utf8_acceptRanges) :: ((errL [1, 7]).map (fun x => (x.1, sent "*errors.errorString" x.2.1)) ++ [("unicode/utf8.first", Rows.laid_unicode_utf8_first)])) W := h
  obtain ⟨⟨a, ha⟩, hr⟩ := errsOn_of_laid [1, 7] (by decide) (by decide) _ (laidMet_tail h2)
  exact ⟨a, ha.cell 1 (by decide)⟩
end Go.Proofs.YtmmiimcodbjnmaaDoor
