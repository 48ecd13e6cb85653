/- The errors, from the rows' conditions. -/
import Derived.Test.YtdglpbjofdipkaaDoorLaid
import Derived.Test.YtdglpbjofdipkaaDoorOpenK
namespace Go.Proofs.YtdglpbjofdipkaaDoor
open Go.RowKit Go.ErrsGen
theorem env_errs {W : World} (h : laidMetH Tryd.prog (errList.map (fun x => (x.1, sent "*errors.errorString" x.2.1)) ++ []) W) : ∃ a, Errs W a := (errs_of_laid [] h).1
end Go.Proofs.YtdglpbjofdipkaaDoor
