/- What the client laws' laid rows hold. -/
import Derived.Test.YtbapkamopelgpaaDoorMsgLaid
namespace Go.Proofs.YtbapkamopelgpaaDoor
open Go.RowKit Go.ErrsGen Go.ChangeShapes
set_option maxRecDepth 100000
theorem env_new {W : World} (h : laidMetH Tryd.prog Rows.clientNewRow.laid W) : ∃ a, MsgV W a ∧ Errs W a := by
  have h2 : laidMet Tryd.prog (("unicode/utf8.acceptRanges", Rows.laid_unicode_utf8_acceptRanges) :: (errList.map (fun x => (x.1, sent "*errors.errorString" x.2.1)) ++ [("cartage/message.words", Rows.laid_cartage_message_words), ("unicode/utf8.first", Rows.laid_unicode_utf8_first)])) W := h
  obtain ⟨⟨a, ha⟩, hr⟩ := errs_of_laid _ (laidMet_tail h2)
  exact ⟨a, ⟨words_of_laid _ hr, ha.c 1 (by decide) (by decide), ha.c 7 (by decide) (by decide), ha.c 13 (by decide) (by decide)⟩, ha⟩
theorem env_client {W : World} (h : laidMetH Tryd.prog Rows.clientDeafRow.laid W) : ∃ a, MsgV W a := by
  have h2 : laidMet Tryd.prog (("unicode/utf8.acceptRanges", Rows.laid_unicode_utf8_acceptRanges) :: ((errL [1, 7, 13, 19]).map (fun x => (x.1, sent "*errors.errorString" x.2.1)) ++ [("cartage/message.words", Rows.laid_cartage_message_words), ("unicode/utf8.first", Rows.laid_unicode_utf8_first)])) W := h
  obtain ⟨⟨a, ha⟩, hr⟩ := errsOn_of_laid [1, 7, 13, 19] (by decide) (by decide) _ (laidMet_tail h2)
  exact ⟨a, words_of_laid _ hr, ha.cell 1 (by decide), ha.cell 7 (by decide), ha.cell 13 (by decide)⟩
end Go.Proofs.YtbapkamopelgpaaDoor
