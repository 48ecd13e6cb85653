/- What the law FrameWho's laid row holds. -/
import Derived.Test.YtbapkamopelgpaaDoorFrLaid
namespace Go.Proofs.YtbapkamopelgpaaDoor
open Go.RowKit Go.ErrsGen Go.ChangeShapes Go.WideShapes Go.Ranges
set_option maxRecDepth 20000
theorem env_who {W : World} (h : laidMetH Tryd.prog Rows.frameWhoRow.laid W) : ∃ a, FrV W a := by
  have h2 : laidMet Tryd.prog (("math/bits.deBruijn32tab", Rows.laid_math_bits_deBruijn32tab) :: ("math/bits.deBruijn64tab", Rows.laid_math_bits_deBruijn64tab) :: ("internal/strconv.uint64pow10", Rows.laid_internal_strconv_uint64pow10) :: ("unicode/utf8.acceptRanges", Rows.laid_unicode_utf8_acceptRanges) ::
      ((errL [1, 7, 13]).map (fun x => (x.1, sent "*errors.errorString" x.2.1)) ++ (("cartage/sha.grains", Rows.laid_cartage_sha_grains) :: ("cartage/sha.start", Rows.laid_cartage_sha_start) :: [("unicode/utf8.first", Rows.laid_unicode_utf8_first)]))) W := h
  obtain ⟨⟨a, ha⟩, hr⟩ := errsOn_of_laid [1, 7, 13] (by decide) (by decide) _ (laidMet_tail (laidMet_tail (laidMet_tail (laidMet_tail h2))))
  obtain ⟨g, s⟩ := env_shaR hr
  exact ⟨a, ha.cell 1 (by decide), ha.cell 13 (by decide), g, s⟩
end Go.Proofs.YtbapkamopelgpaaDoor
