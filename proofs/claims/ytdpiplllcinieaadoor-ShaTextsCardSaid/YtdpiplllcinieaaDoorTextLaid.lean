/- The errors and the digests' numbers, from the row's condition. -/
import Derived.Test.YtdpiplllcinieaaDoorLaid
import Derived.Test.YtdpiplllcinieaaDoorShaLaid
import Derived.Test.YtdpiplllcinieaaDoorOpenOid
namespace Go.Proofs.YtdpiplllcinieaaDoor
open Go.RowKit Go.ErrsGen
structure TextEnv (W : World) (a : Nat → Addr) : Prop where
  errs : Errs W a
  grains : Grains W
  start : Start W
theorem env_texts {W : World} (h : laidMetH Tryd.prog Rows.shaTextsRow.laid W) : ∃ a, TextEnv W a := by
  have h2 : laidMet Tryd.prog (errList.map (fun x => (x.1, sent "*errors.errorString" x.2.1)) ++ [("cartage/sha.grains", Rows.laid_cartage_sha_grains), ("cartage/sha.start", Rows.laid_cartage_sha_start)]) W := h
  obtain ⟨⟨a, ha⟩, hr⟩ := errs_of_laid _ h2
  obtain ⟨hg, hs⟩ := env_sha hr
  exact ⟨a, ha, hg, hs⟩
end Go.Proofs.YtdpiplllcinieaaDoor
