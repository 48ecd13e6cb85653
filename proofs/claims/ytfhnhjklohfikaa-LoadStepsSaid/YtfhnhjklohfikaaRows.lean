/-
  No cell of these rows narrows 'for every input' (looked for: loops, veiled, ifaces, maps, wideKeys, modest, calm, conditions, laid).
  DERIVED. THE GIVEN ROWS OF THIS SEAT. 8 by the template 'for every input the law returns true; each argument reads behind the call as it read before'; 0 by the template 'total and deterministic' (their statements: YtfhnhjklohfikaaTotals.lean).
  GIVEN WITH THE SEED: the statements are not yours to turn. If you find one false, say at which input.
  Laid BY PROGRAM, IN A SANDBOX (cutbox-rows.mjs): the forced cells as the released guide's own fill.sh prints them over the translation fb1ced3bcd693f88… (all of the seat's roots in one cut). By AI agents, Wed Nov 11 2026. No macro, syntax, notation, axiom, sorry.
-/
import Derived.Test.YtfhnhjklohfikaaChecked
import GoSem.Claim
import GoSem.ClaimJoined
import GoSem.ClaimMapViews
import Derived.JoinedTies
import Derived.KernelRfl
namespace Go.Proofs.Ytfhnhjklohfikaa
/- THE CELL 'sum', in the pinned program and in every row, IS THE sha256 OF THE DUMP (.gsa) THAT YtfhnhjklohfikaaProg.lean LOADS. Nothing in Lean hashes anything: it is a label: what it is worth is what the hold of that sum in a sandbox is worth. -/
noncomputable def Try.pinned : Pinned := { name := "ytfhnhjklohfikaa", sum := "fb1ced3bcd693f883958f61ae6fe79c108f5c5beaa2dad1cc66db118f0124f6f", checked := Try.checked }
namespace Rows
def none {H : Type} : Left H := { results := [], args := [] }

/-- 'cartagelaw22.LoadOrder': WHATEVER THE INPUT: true; the input reads as it did. -/
def loadOrderSpec : ChangeSpec := { name := "loadOrder", fn := fun _ => fun
  | [d1, d2, d3] => { results := [.lit (.bool true)], args := [d1, d2, d3] }
  | _ => none }
def loadOrderRow : OpenClaim := { program := "ytfhnhjklohfikaa", sum := "fb1ced3bcd693f883958f61ae6fe79c108f5c5beaa2dad1cc66db118f0124f6f", func := "cartage/cartagelaw22.LoadOrder", spec := "loadOrder", inPlace := ["math.Float64bits", "math.Float64frombits"], apart := false }
def LoadOrderSaid : Prop := loadOrderRow.holds Try.pinned (OpenSpec.ofChange loadOrderSpec)

/-- ITS FALSE NEIGHBOUR: 'it returns false'. Refute it at one input. -/
def loadOrderWrong : ChangeSpec := { name := "loadOrder", fn := fun _ => fun
  | [d1, d2, d3] => { results := [.lit (.bool false)], args := [d1, d2, d3] }
  | _ => none }
def LoadOrderWrongFalsely : Prop := loadOrderRow.holds Try.pinned (OpenSpec.ofChange loadOrderWrong)

/-- 'cartagelaw22.LoadShares': WHATEVER THE INPUT: true; the input reads as it did. -/
def loadSharesSpec : ChangeSpec := { name := "loadShares", fn := fun _ => fun
  | [d1, d2, d3] => { results := [.lit (.bool true)], args := [d1, d2, d3] }
  | _ => none }
def loadSharesRow : OpenClaim := { program := "ytfhnhjklohfikaa", sum := "fb1ced3bcd693f883958f61ae6fe79c108f5c5beaa2dad1cc66db118f0124f6f", func := "cartage/cartagelaw22.LoadShares", spec := "loadShares", inPlace := ["math.Float64bits", "math.Float64frombits"], apart := false }
def LoadSharesSaid : Prop := loadSharesRow.holds Try.pinned (OpenSpec.ofChange loadSharesSpec)

/-- ITS FALSE NEIGHBOUR: 'it returns false'. Refute it at one input. -/
def loadSharesWrong : ChangeSpec := { name := "loadShares", fn := fun _ => fun
  | [d1, d2, d3] => { results := [.lit (.bool false)], args := [d1, d2, d3] }
  | _ => none }
def LoadSharesWrongFalsely : Prop := loadSharesRow.holds Try.pinned (OpenSpec.ofChange loadSharesWrong)

/-- 'cartagelaw22.LoadSteps': WHATEVER THE INPUT: true; the input reads as it did. -/
def loadStepsSpec : ChangeSpec := { name := "loadSteps", fn := fun _ => fun
  | [d1, d2] => { results := [.lit (.bool true)], args := [d1, d2] }
  | _ => none }
def loadStepsRow : OpenClaim := { program := "ytfhnhjklohfikaa", sum := "fb1ced3bcd693f883958f61ae6fe79c108f5c5beaa2dad1cc66db118f0124f6f", func := "cartage/cartagelaw22.LoadSteps", spec := "loadSteps", inPlace := ["math.Float64bits", "math.Float64frombits"], apart := false }
def LoadStepsSaid : Prop := loadStepsRow.holds Try.pinned (OpenSpec.ofChange loadStepsSpec)

/-- ITS FALSE NEIGHBOUR: 'it returns false'. Refute it at one input. -/
def loadStepsWrong : ChangeSpec := { name := "loadSteps", fn := fun _ => fun
  | [d1, d2] => { results := [.lit (.bool false)], args := [d1, d2] }
  | _ => none }
def LoadStepsWrongFalsely : Prop := loadStepsRow.holds Try.pinned (OpenSpec.ofChange loadStepsWrong)

/-- 'cartagelaw22.LoadSorts': WHATEVER THE INPUT: true; the input reads as it did. -/
def loadSortsSpec : ChangeSpec := { name := "loadSorts", fn := fun _ => fun
  | [d] => { results := [.lit (.bool true)], args := [d] }
  | _ => none }
def loadSortsRow : OpenClaim := { program := "ytfhnhjklohfikaa", sum := "fb1ced3bcd693f883958f61ae6fe79c108f5c5beaa2dad1cc66db118f0124f6f", func := "cartage/cartagelaw22.LoadSorts", spec := "loadSorts", inPlace := ["math.Float64bits", "math.Float64frombits"], unfollowed := true, recurses := true, apart := false }
def LoadSortsSaid : Prop := loadSortsRow.holds Try.pinned (OpenSpec.ofChange loadSortsSpec)

/-- ITS FALSE NEIGHBOUR: 'it returns false'. Refute it at one input. -/
def loadSortsWrong : ChangeSpec := { name := "loadSorts", fn := fun _ => fun
  | [d] => { results := [.lit (.bool false)], args := [d] }
  | _ => none }
def LoadSortsWrongFalsely : Prop := loadSortsRow.holds Try.pinned (OpenSpec.ofChange loadSortsWrong)

/-- 'cartagelaw22.LoadBest': WHATEVER THE INPUT: true; the input reads as it did. -/
def loadBestSpec : ChangeSpec := { name := "loadBest", fn := fun _ => fun
  | [d] => { results := [.lit (.bool true)], args := [d] }
  | _ => none }
def loadBestRow : OpenClaim := { program := "ytfhnhjklohfikaa", sum := "fb1ced3bcd693f883958f61ae6fe79c108f5c5beaa2dad1cc66db118f0124f6f", func := "cartage/cartagelaw22.LoadBest", spec := "loadBest", inPlace := ["math.Float64bits", "math.Float64frombits"], unfollowed := true, recurses := true, apart := false }
def LoadBestSaid : Prop := loadBestRow.holds Try.pinned (OpenSpec.ofChange loadBestSpec)

/-- ITS FALSE NEIGHBOUR: 'it returns false'. Refute it at one input. -/
def loadBestWrong : ChangeSpec := { name := "loadBest", fn := fun _ => fun
  | [d] => { results := [.lit (.bool false)], args := [d] }
  | _ => none }
def LoadBestWrongFalsely : Prop := loadBestRow.holds Try.pinned (OpenSpec.ofChange loadBestWrong)

/-- 'cartagelaw23.ChooseNever': WHATEVER THE INPUT: true; the input reads as it did. -/
def chooseNeverSpec : ChangeSpec := { name := "chooseNever", fn := fun _ => fun
  | [d1, d2, d3] => { results := [.lit (.bool true)], args := [d1, d2, d3] }
  | _ => none }
def chooseNeverRow : OpenClaim := { program := "ytfhnhjklohfikaa", sum := "fb1ced3bcd693f883958f61ae6fe79c108f5c5beaa2dad1cc66db118f0124f6f", func := "cartage/cartagelaw23.ChooseNever", spec := "chooseNever", inPlace := ["math.Float64bits", "math.Float64frombits"], unfollowed := true, recurses := true, apart := false }
def ChooseNeverSaid : Prop := chooseNeverRow.holds Try.pinned (OpenSpec.ofChange chooseNeverSpec)

/-- ITS FALSE NEIGHBOUR: 'it returns false'. Refute it at one input. -/
def chooseNeverWrong : ChangeSpec := { name := "chooseNever", fn := fun _ => fun
  | [d1, d2, d3] => { results := [.lit (.bool false)], args := [d1, d2, d3] }
  | _ => none }
def ChooseNeverWrongFalsely : Prop := chooseNeverRow.holds Try.pinned (OpenSpec.ofChange chooseNeverWrong)

/-- 'cartagelaw23.ChooseOrder': WHATEVER THE INPUT: true; the input reads as it did. -/
def chooseOrderSpec : ChangeSpec := { name := "chooseOrder", fn := fun _ => fun
  | [d] => { results := [.lit (.bool true)], args := [d] }
  | _ => none }
def chooseOrderRow : OpenClaim := { program := "ytfhnhjklohfikaa", sum := "fb1ced3bcd693f883958f61ae6fe79c108f5c5beaa2dad1cc66db118f0124f6f", func := "cartage/cartagelaw23.ChooseOrder", spec := "chooseOrder", inPlace := ["math.Float64bits", "math.Float64frombits"], unfollowed := true, recurses := true, apart := false }
def ChooseOrderSaid : Prop := chooseOrderRow.holds Try.pinned (OpenSpec.ofChange chooseOrderSpec)

/-- ITS FALSE NEIGHBOUR: 'it returns false'. Refute it at one input. -/
def chooseOrderWrong : ChangeSpec := { name := "chooseOrder", fn := fun _ => fun
  | [d] => { results := [.lit (.bool false)], args := [d] }
  | _ => none }
def ChooseOrderWrongFalsely : Prop := chooseOrderRow.holds Try.pinned (OpenSpec.ofChange chooseOrderWrong)

/-- 'cartagelaw23.ChooseTells': WHATEVER THE INPUT: true; the input reads as it did. -/
def chooseTellsSpec : ChangeSpec := { name := "chooseTells", fn := fun _ => fun
  | [d1, d2, d3] => { results := [.lit (.bool true)], args := [d1, d2, d3] }
  | _ => none }
def chooseTellsRow : OpenClaim := { program := "ytfhnhjklohfikaa", sum := "fb1ced3bcd693f883958f61ae6fe79c108f5c5beaa2dad1cc66db118f0124f6f", func := "cartage/cartagelaw23.ChooseTells", spec := "chooseTells", inPlace := ["math.Float64bits", "math.Float64frombits"], unfollowed := true, recurses := true, apart := false }
def ChooseTellsSaid : Prop := chooseTellsRow.holds Try.pinned (OpenSpec.ofChange chooseTellsSpec)

/-- ITS FALSE NEIGHBOUR: 'it returns false'. Refute it at one input. -/
def chooseTellsWrong : ChangeSpec := { name := "chooseTells", fn := fun _ => fun
  | [d1, d2, d3] => { results := [.lit (.bool false)], args := [d1, d2, d3] }
  | _ => none }
def ChooseTellsWrongFalsely : Prop := chooseTellsRow.holds Try.pinned (OpenSpec.ofChange chooseTellsWrong)

/- THE SECOND FORM. 'bulk': how many values and letters a reading holds, each counted each time it is reached (what is shared counts as often as it is met; a slice's spare places count too). A statement '..UptoSaid' is the law's where the arguments, and the package variables that the reading takes, are together of bulk at most 1048576: NARROWER than '..Said'. Prove '..Said' where nothing that the law and all that it calls make is longer than what came in: it says more and counts as full. Else prove '..UptoSaid'. A law counts once. -/
mutual
def uptoBulk {H : Type} : DataW H → Nat
  | .lit (.string bytes) => bytes.length + 1
  | .lit _ => 1
  | .nil => 1
  | .ptr d => uptoBulk d + 1
  | .slice elems spare => uptoBulkAll elems + uptoBulkAll spare + 1
  | .agg parts => uptoBulkAll parts + 1
  | .iface _ d => uptoBulk d + 1
  | .map entries => uptoBulkEntries entries + 1
  | .held _ => 1
def uptoBulkAll {H : Type} : List (DataW H) → Nat
  | [] => 0
  | d :: r => uptoBulk d + uptoBulkAll r
def uptoBulkEntries {H : Type} : List (Lit × DataW H) → Nat
  | [] => 0
  | x :: r => uptoBulkEntry x + uptoBulkEntries r
def uptoBulkEntry {H : Type} : Lit × DataW H → Nat
  | (.string bytes, d) => bytes.length + uptoBulk d + 1
  | (_, d) => uptoBulk d + 1
 end
def uptoSmall : (H : Type) → List (DataW H) → Bool := fun _ ds => decide (uptoBulkAll ds ≤ 1048576)
def OpenSpec.upto (s : _root_.Go.ChangeSpec) : _root_.Go.OpenSpec := { _root_.Go.OpenSpec.ofChange s with cond := some uptoSmall }

/-- 'cartagelaw22.LoadOrder', WHERE WHAT IT READS IS OF BULK AT MOST 1048576: true; the input reads as it did. -/
def loadOrderUptoRow : OpenClaim := { program := "ytfhnhjklohfikaa", sum := "fb1ced3bcd693f883958f61ae6fe79c108f5c5beaa2dad1cc66db118f0124f6f", func := "cartage/cartagelaw22.LoadOrder", spec := "loadOrder", inPlace := ["math.Float64bits", "math.Float64frombits"], apart := false, narrowed := true }
def LoadOrderUptoSaid : Prop := loadOrderUptoRow.holds Try.pinned (OpenSpec.upto loadOrderSpec)

/-- 'cartagelaw22.LoadShares', WHERE WHAT IT READS IS OF BULK AT MOST 1048576: true; the input reads as it did. -/
def loadSharesUptoRow : OpenClaim := { program := "ytfhnhjklohfikaa", sum := "fb1ced3bcd693f883958f61ae6fe79c108f5c5beaa2dad1cc66db118f0124f6f", func := "cartage/cartagelaw22.LoadShares", spec := "loadShares", inPlace := ["math.Float64bits", "math.Float64frombits"], apart := false, narrowed := true }
def LoadSharesUptoSaid : Prop := loadSharesUptoRow.holds Try.pinned (OpenSpec.upto loadSharesSpec)

/-- 'cartagelaw22.LoadSteps', WHERE WHAT IT READS IS OF BULK AT MOST 1048576: true; the input reads as it did. -/
def loadStepsUptoRow : OpenClaim := { program := "ytfhnhjklohfikaa", sum := "fb1ced3bcd693f883958f61ae6fe79c108f5c5beaa2dad1cc66db118f0124f6f", func := "cartage/cartagelaw22.LoadSteps", spec := "loadSteps", inPlace := ["math.Float64bits", "math.Float64frombits"], apart := false, narrowed := true }
def LoadStepsUptoSaid : Prop := loadStepsUptoRow.holds Try.pinned (OpenSpec.upto loadStepsSpec)

/-- 'cartagelaw22.LoadSorts', WHERE WHAT IT READS IS OF BULK AT MOST 1048576: true; the input reads as it did. -/
def loadSortsUptoRow : OpenClaim := { program := "ytfhnhjklohfikaa", sum := "fb1ced3bcd693f883958f61ae6fe79c108f5c5beaa2dad1cc66db118f0124f6f", func := "cartage/cartagelaw22.LoadSorts", spec := "loadSorts", inPlace := ["math.Float64bits", "math.Float64frombits"], unfollowed := true, recurses := true, apart := false, narrowed := true }
def LoadSortsUptoSaid : Prop := loadSortsUptoRow.holds Try.pinned (OpenSpec.upto loadSortsSpec)

/-- 'cartagelaw22.LoadBest', WHERE WHAT IT READS IS OF BULK AT MOST 1048576: true; the input reads as it did. -/
def loadBestUptoRow : OpenClaim := { program := "ytfhnhjklohfikaa", sum := "fb1ced3bcd693f883958f61ae6fe79c108f5c5beaa2dad1cc66db118f0124f6f", func := "cartage/cartagelaw22.LoadBest", spec := "loadBest", inPlace := ["math.Float64bits", "math.Float64frombits"], unfollowed := true, recurses := true, apart := false, narrowed := true }
def LoadBestUptoSaid : Prop := loadBestUptoRow.holds Try.pinned (OpenSpec.upto loadBestSpec)

/-- 'cartagelaw23.ChooseNever', WHERE WHAT IT READS IS OF BULK AT MOST 1048576: true; the input reads as it did. -/
def chooseNeverUptoRow : OpenClaim := { program := "ytfhnhjklohfikaa", sum := "fb1ced3bcd693f883958f61ae6fe79c108f5c5beaa2dad1cc66db118f0124f6f", func := "cartage/cartagelaw23.ChooseNever", spec := "chooseNever", inPlace := ["math.Float64bits", "math.Float64frombits"], unfollowed := true, recurses := true, apart := false, narrowed := true }
def ChooseNeverUptoSaid : Prop := chooseNeverUptoRow.holds Try.pinned (OpenSpec.upto chooseNeverSpec)

/-- 'cartagelaw23.ChooseOrder', WHERE WHAT IT READS IS OF BULK AT MOST 1048576: true; the input reads as it did. -/
def chooseOrderUptoRow : OpenClaim := { program := "ytfhnhjklohfikaa", sum := "fb1ced3bcd693f883958f61ae6fe79c108f5c5beaa2dad1cc66db118f0124f6f", func := "cartage/cartagelaw23.ChooseOrder", spec := "chooseOrder", inPlace := ["math.Float64bits", "math.Float64frombits"], unfollowed := true, recurses := true, apart := false, narrowed := true }
def ChooseOrderUptoSaid : Prop := chooseOrderUptoRow.holds Try.pinned (OpenSpec.upto chooseOrderSpec)

/-- 'cartagelaw23.ChooseTells', WHERE WHAT IT READS IS OF BULK AT MOST 1048576: true; the input reads as it did. -/
def chooseTellsUptoRow : OpenClaim := { program := "ytfhnhjklohfikaa", sum := "fb1ced3bcd693f883958f61ae6fe79c108f5c5beaa2dad1cc66db118f0124f6f", func := "cartage/cartagelaw23.ChooseTells", spec := "chooseTells", inPlace := ["math.Float64bits", "math.Float64frombits"], unfollowed := true, recurses := true, apart := false, narrowed := true }
def ChooseTellsUptoSaid : Prop := chooseTellsUptoRow.holds Try.pinned (OpenSpec.upto chooseTellsSpec)

end Rows
end Go.Proofs.Ytfhnhjklohfikaa
