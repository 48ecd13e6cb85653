/- What the laid rows of OctetsTake and OctetsWrite hold. -/
import Derived.Test.YtmmiimcodbjnmaaDoorErrOn
namespace Go.Proofs.YtmmiimcodbjnmaaDoor
open Go.RowKit Go.ErrsGen Go.ChangeShapes
set_option maxRecDepth 100000
theorem env_take {W : World} (h : laidMetH Tryd.prog Rows.octetsTakeRow.laid W) : ∃ a, Errs W a := by
  have h2 : laidMet Tryd.prog (("unicode/utf8.acceptRanges", Rows.laid_unicode_utf8_acceptRanges) :: (errList.map (fun x => (x.1, sent "*errors.errorString" x.2.1)) ++ [("unicode/utf8.first", Rows.laid_unicode_utf8_first)])) W := h
  obtain ⟨⟨a, ha⟩, hr⟩ := errs_of_laid _ (laidMet_tail h2)
  exact ⟨a, ha⟩
theorem env_write {W : World} (h : laidMetH Tryd.prog Rows.octetsWriteRow.laid W) : ∃ a, Errs W a := by
  have h2 : laidMet Tryd.prog (("unicode/utf8.acceptRanges", Rows.laid_unicode_utf8_acceptRanges) :: (errList.map (fun x => (x.1, sent "*errors.errorString" x.2.1)) ++ [("unicode/utf8.first", Rows.laid_unicode_utf8_first)])) W := h
  obtain ⟨⟨a, ha⟩, hr⟩ := errs_of_laid _ (laidMet_tail h2)
  exact ⟨a, ha⟩
end Go.Proofs.YtmmiimcodbjnmaaDoor
