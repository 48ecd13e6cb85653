/-
  DERIVED. GIVEN WITH THE SEED: THE CARDS: each row of YtdglpbjofdipkaaDoorRows.lean that lists a variable, with what it lists TIED to the program's text (the seventh form; the later family's looks); each row that meets fmt, with fmt's text TOLD by the authors' own Lean function (tested against real Go, not proved from fmt's source: count such statements apart). THE CARD IS WHAT COUNTS. Prove the row's statement (the work); the ties are given (YtdglpbjofdipkaaDoorTie.lean); close each card by the builder's one call (the guide's Derived/Test/ToyasCard.lean, 'card_holds'). Laid BY PROGRAM, IN A SANDBOX (cutbox-door.mjs). By AI agents, Wed Nov 11 2026. No macro, syntax, notation, axiom, sorry.
-/
import Derived.Test.YtdglpbjofdipkaaDoorRows
import GoSem.ClaimSeven
namespace Go.Proofs.YtdglpbjofdipkaaDoor
namespace Rows

/-- THE TIED CARD OF 'cartagelaw13.PhaseEvents'. -/
def phaseEventsCard : Claim7 := { stood := { row := phaseEventsRow, standIns := [], harness := (true, "cbaff20a9ccc84255a36cc7248d32f3fc1a81d1f5ed2c3abd335f1b0efb9e522"), looks := true }, kinds := [], alts := [], laidByText := true, laidKinds := [.sentinel, .sentinel, .sentinel, .sentinel, .sentinel, .sentinel, .sentinel, .sentinel, .sentinel, .sentinel, .sentinel, .sentinel, .sentinel, .sentinel, .sentinel, .sentinel, .sentinel, .sentinel, .sentinel, .sentinel, .sentinel, .sentinel, .data], laidTests := true, laidLooks := .later }
def PhaseEventsCardSaid : Prop := Claim7.holds Tryd.pinned (.plain (OpenSpec.ofChange phaseEventsSpec)) phaseEventsCard

/-- THE TIED CARD OF 'cartagelaw13.PhaseAdmits'. -/
def phaseAdmitsCard : Claim7 := { stood := { row := phaseAdmitsRow, standIns := [], harness := (true, "cbaff20a9ccc84255a36cc7248d32f3fc1a81d1f5ed2c3abd335f1b0efb9e522"), looks := true }, kinds := [], alts := [], laidByText := true, laidKinds := [.sentinel, .sentinel, .sentinel, .sentinel, .sentinel, .sentinel, .sentinel, .sentinel, .sentinel, .sentinel, .sentinel, .sentinel, .sentinel, .sentinel, .sentinel, .sentinel, .sentinel, .sentinel, .sentinel, .sentinel, .sentinel, .sentinel, .data], laidTests := true, laidLooks := .later }
def PhaseAdmitsCardSaid : Prop := Claim7.holds Tryd.pinned (.plain (OpenSpec.ofChange phaseAdmitsSpec)) phaseAdmitsCard

/-- THE TIED CARD OF 'cartagelaw13.PhaseOne'. -/
def phaseOneCard : Claim7 := { stood := { row := phaseOneRow, standIns := [], harness := (true, "cbaff20a9ccc84255a36cc7248d32f3fc1a81d1f5ed2c3abd335f1b0efb9e522"), looks := true }, kinds := [], alts := [], laidByText := true, laidKinds := [.sentinel, .sentinel, .sentinel, .sentinel, .sentinel, .sentinel, .sentinel, .sentinel, .sentinel, .sentinel, .sentinel, .sentinel, .sentinel, .sentinel, .sentinel, .sentinel, .sentinel, .sentinel, .sentinel, .sentinel, .sentinel, .sentinel, .data], laidTests := true, laidLooks := .later }
def PhaseOneCardSaid : Prop := Claim7.holds Tryd.pinned (.plain (OpenSpec.ofChange phaseOneSpec)) phaseOneCard

/-- THE TIED CARD OF 'cartagelaw13.PhaseNever'. -/
def phaseNeverCard : Claim7 := { stood := { row := phaseNeverRow, standIns := [], harness := (true, "cbaff20a9ccc84255a36cc7248d32f3fc1a81d1f5ed2c3abd335f1b0efb9e522"), looks := true }, kinds := [], alts := [], laidByText := true, laidKinds := [.sentinel, .sentinel, .sentinel, .sentinel, .sentinel, .sentinel, .sentinel, .sentinel, .sentinel, .sentinel, .sentinel, .sentinel, .sentinel, .sentinel, .sentinel, .sentinel, .sentinel, .sentinel, .sentinel, .sentinel, .sentinel, .sentinel, .data], laidTests := true, laidLooks := .later }
def PhaseNeverCardSaid : Prop := Claim7.holds Tryd.pinned (.plain (OpenSpec.ofChange phaseNeverSpec)) phaseNeverCard

/-- THE TIED CARD OF 'cartagelaw04.DiskDeeds'. -/
def diskDeedsCard : Claim7 := { stood := { row := diskDeedsRow, standIns := [], harness := (true, "cbaff20a9ccc84255a36cc7248d32f3fc1a81d1f5ed2c3abd335f1b0efb9e522"), looks := true }, kinds := [], alts := [], laidByText := true, laidKinds := [.sentinel, .sentinel, .sentinel, .sentinel, .sentinel, .sentinel, .sentinel, .sentinel, .sentinel, .sentinel, .sentinel, .sentinel, .sentinel, .sentinel, .sentinel, .sentinel, .sentinel, .sentinel, .sentinel, .sentinel, .sentinel, .sentinel], laidTests := true, laidLooks := .later }
def DiskDeedsCardSaid : Prop := Claim7.holds Tryd.pinned (.plain (OpenSpec.ofChange diskDeedsSpec)) diskDeedsCard

/-- THE TIED CARD OF 'cartagelaw04.DiskKeeps'. -/
def diskKeepsCard : Claim7 := { stood := { row := diskKeepsRow, standIns := [], harness := (true, "cbaff20a9ccc84255a36cc7248d32f3fc1a81d1f5ed2c3abd335f1b0efb9e522"), looks := true }, kinds := [], alts := [], laidByText := true, laidKinds := [.sentinel, .sentinel, .sentinel, .sentinel, .sentinel, .sentinel, .sentinel, .sentinel, .sentinel, .sentinel, .sentinel, .sentinel, .sentinel, .sentinel, .sentinel, .sentinel, .sentinel, .sentinel, .sentinel, .sentinel, .sentinel, .sentinel], laidTests := true, laidLooks := .later }
def DiskKeepsCardSaid : Prop := Claim7.holds Tryd.pinned (.plain (OpenSpec.ofChange diskKeepsSpec)) diskKeepsCard

/-- THE TIED CARD OF 'cartagelaw04.DiskPlays'. -/
def diskPlaysCard : Claim7 := { stood := { row := diskPlaysRow, standIns := [], harness := (true, "cbaff20a9ccc84255a36cc7248d32f3fc1a81d1f5ed2c3abd335f1b0efb9e522"), looks := true }, kinds := [], alts := [], laidByText := true, laidKinds := [.sentinel, .sentinel, .sentinel, .sentinel, .sentinel, .sentinel, .sentinel, .sentinel, .sentinel, .sentinel, .sentinel, .sentinel, .sentinel, .sentinel, .sentinel, .sentinel, .sentinel, .sentinel, .sentinel, .sentinel, .sentinel, .sentinel], laidTests := true, laidLooks := .later }
def DiskPlaysCardSaid : Prop := Claim7.holds Tryd.pinned (.plain (OpenSpec.ofChange diskPlaysSpec)) diskPlaysCard

/-- THE TIED CARD OF 'cartagelaw17.NetMoves'. -/
def netMovesCard : Claim7 := { stood := { row := netMovesRow, standIns := [], harness := (true, "cbaff20a9ccc84255a36cc7248d32f3fc1a81d1f5ed2c3abd335f1b0efb9e522"), looks := true }, kinds := [], alts := [], laidByText := true, laidKinds := [.sentinel, .sentinel, .sentinel, .sentinel, .sentinel, .sentinel, .sentinel, .sentinel, .sentinel, .sentinel, .sentinel, .sentinel, .sentinel, .sentinel, .sentinel, .sentinel, .sentinel, .sentinel, .sentinel, .sentinel, .sentinel, .sentinel], laidTests := true, laidLooks := .later }
def NetMovesCardSaid : Prop := Claim7.holds Tryd.pinned (.plain (OpenSpec.ofChange netMovesSpec)) netMovesCard

/-- THE TIED CARD OF 'cartagelaw17.NetKeeps'. -/
def netKeepsCard : Claim7 := { stood := { row := netKeepsRow, standIns := [], harness := (true, "cbaff20a9ccc84255a36cc7248d32f3fc1a81d1f5ed2c3abd335f1b0efb9e522"), looks := true }, kinds := [], alts := [], laidByText := true, laidKinds := [.sentinel, .sentinel, .sentinel, .sentinel, .sentinel, .sentinel, .sentinel, .sentinel, .sentinel, .sentinel, .sentinel, .sentinel, .sentinel, .sentinel, .sentinel, .sentinel, .sentinel, .sentinel, .sentinel, .sentinel, .sentinel, .sentinel], laidTests := true, laidLooks := .later }
def NetKeepsCardSaid : Prop := Claim7.holds Tryd.pinned (.plain (OpenSpec.ofChange netKeepsSpec)) netKeepsCard

/-- THE TIED CARD OF 'cartagelaw17.NetPlays'. -/
def netPlaysCard : Claim7 := { stood := { row := netPlaysRow, standIns := [], harness := (true, "cbaff20a9ccc84255a36cc7248d32f3fc1a81d1f5ed2c3abd335f1b0efb9e522"), looks := true }, kinds := [], alts := [], laidByText := true, laidKinds := [.sentinel, .sentinel, .sentinel, .sentinel, .sentinel, .sentinel, .sentinel, .sentinel, .sentinel, .sentinel, .sentinel, .sentinel, .sentinel, .sentinel, .sentinel, .sentinel, .sentinel, .sentinel, .sentinel, .sentinel, .sentinel, .sentinel], laidTests := true, laidLooks := .later }
def NetPlaysCardSaid : Prop := Claim7.holds Tryd.pinned (.plain (OpenSpec.ofChange netPlaysSpec)) netPlaysCard

/-- THE SECOND FORM's CARD OF 'cartagelaw13.PhaseEvents'. -/
def phaseEventsUptoCard : Claim7 := { stood := { row := phaseEventsUptoRow, standIns := [], harness := (true, "cbaff20a9ccc84255a36cc7248d32f3fc1a81d1f5ed2c3abd335f1b0efb9e522"), looks := true }, kinds := [], alts := [], laidByText := true, laidKinds := [.sentinel, .sentinel, .sentinel, .sentinel, .sentinel, .sentinel, .sentinel, .sentinel, .sentinel, .sentinel, .sentinel, .sentinel, .sentinel, .sentinel, .sentinel, .sentinel, .sentinel, .sentinel, .sentinel, .sentinel, .sentinel, .sentinel, .data], laidTests := true, laidLooks := .later }
def PhaseEventsUptoCardSaid : Prop := Claim7.holds Tryd.pinned (.plain (OpenSpec.upto phaseEventsSpec)) phaseEventsUptoCard

/-- THE SECOND FORM's CARD OF 'cartagelaw13.PhaseAdmits'. -/
def phaseAdmitsUptoCard : Claim7 := { stood := { row := phaseAdmitsUptoRow, standIns := [], harness := (true, "cbaff20a9ccc84255a36cc7248d32f3fc1a81d1f5ed2c3abd335f1b0efb9e522"), looks := true }, kinds := [], alts := [], laidByText := true, laidKinds := [.sentinel, .sentinel, .sentinel, .sentinel, .sentinel, .sentinel, .sentinel, .sentinel, .sentinel, .sentinel, .sentinel, .sentinel, .sentinel, .sentinel, .sentinel, .sentinel, .sentinel, .sentinel, .sentinel, .sentinel, .sentinel, .sentinel, .data], laidTests := true, laidLooks := .later }
def PhaseAdmitsUptoCardSaid : Prop := Claim7.holds Tryd.pinned (.plain (OpenSpec.upto phaseAdmitsSpec)) phaseAdmitsUptoCard

/-- THE SECOND FORM's CARD OF 'cartagelaw13.PhaseOne'. -/
def phaseOneUptoCard : Claim7 := { stood := { row := phaseOneUptoRow, standIns := [], harness := (true, "cbaff20a9ccc84255a36cc7248d32f3fc1a81d1f5ed2c3abd335f1b0efb9e522"), looks := true }, kinds := [], alts := [], laidByText := true, laidKinds := [.sentinel, .sentinel, .sentinel, .sentinel, .sentinel, .sentinel, .sentinel, .sentinel, .sentinel, .sentinel, .sentinel, .sentinel, .sentinel, .sentinel, .sentinel, .sentinel, .sentinel, .sentinel, .sentinel, .sentinel, .sentinel, .sentinel, .data], laidTests := true, laidLooks := .later }
def PhaseOneUptoCardSaid : Prop := Claim7.holds Tryd.pinned (.plain (OpenSpec.upto phaseOneSpec)) phaseOneUptoCard

/-- THE SECOND FORM's CARD OF 'cartagelaw13.PhaseNever'. -/
def phaseNeverUptoCard : Claim7 := { stood := { row := phaseNeverUptoRow, standIns := [], harness := (true, "cbaff20a9ccc84255a36cc7248d32f3fc1a81d1f5ed2c3abd335f1b0efb9e522"), looks := true }, kinds := [], alts := [], laidByText := true, laidKinds := [.sentinel, .sentinel, .sentinel, .sentinel, .sentinel, .sentinel, .sentinel, .sentinel, .sentinel, .sentinel, .sentinel, .sentinel, .sentinel, .sentinel, .sentinel, .sentinel, .sentinel, .sentinel, .sentinel, .sentinel, .sentinel, .sentinel, .data], laidTests := true, laidLooks := .later }
def PhaseNeverUptoCardSaid : Prop := Claim7.holds Tryd.pinned (.plain (OpenSpec.upto phaseNeverSpec)) phaseNeverUptoCard

/-- THE SECOND FORM's CARD OF 'cartagelaw04.DiskDeeds'. -/
def diskDeedsUptoCard : Claim7 := { stood := { row := diskDeedsUptoRow, standIns := [], harness := (true, "cbaff20a9ccc84255a36cc7248d32f3fc1a81d1f5ed2c3abd335f1b0efb9e522"), looks := true }, kinds := [], alts := [], laidByText := true, laidKinds := [.sentinel, .sentinel, .sentinel, .sentinel, .sentinel, .sentinel, .sentinel, .sentinel, .sentinel, .sentinel, .sentinel, .sentinel, .sentinel, .sentinel, .sentinel, .sentinel, .sentinel, .sentinel, .sentinel, .sentinel, .sentinel, .sentinel], laidTests := true, laidLooks := .later }
def DiskDeedsUptoCardSaid : Prop := Claim7.holds Tryd.pinned (.plain (OpenSpec.upto diskDeedsSpec)) diskDeedsUptoCard

/-- THE SECOND FORM's CARD OF 'cartagelaw04.DiskKeeps'. -/
def diskKeepsUptoCard : Claim7 := { stood := { row := diskKeepsUptoRow, standIns := [], harness := (true, "cbaff20a9ccc84255a36cc7248d32f3fc1a81d1f5ed2c3abd335f1b0efb9e522"), looks := true }, kinds := [], alts := [], laidByText := true, laidKinds := [.sentinel, .sentinel, .sentinel, .sentinel, .sentinel, .sentinel, .sentinel, .sentinel, .sentinel, .sentinel, .sentinel, .sentinel, .sentinel, .sentinel, .sentinel, .sentinel, .sentinel, .sentinel, .sentinel, .sentinel, .sentinel, .sentinel], laidTests := true, laidLooks := .later }
def DiskKeepsUptoCardSaid : Prop := Claim7.holds Tryd.pinned (.plain (OpenSpec.upto diskKeepsSpec)) diskKeepsUptoCard

/-- THE SECOND FORM's CARD OF 'cartagelaw04.DiskPlays'. -/
def diskPlaysUptoCard : Claim7 := { stood := { row := diskPlaysUptoRow, standIns := [], harness := (true, "cbaff20a9ccc84255a36cc7248d32f3fc1a81d1f5ed2c3abd335f1b0efb9e522"), looks := true }, kinds := [], alts := [], laidByText := true, laidKinds := [.sentinel, .sentinel, .sentinel, .sentinel, .sentinel, .sentinel, .sentinel, .sentinel, .sentinel, .sentinel, .sentinel, .sentinel, .sentinel, .sentinel, .sentinel, .sentinel, .sentinel, .sentinel, .sentinel, .sentinel, .sentinel, .sentinel], laidTests := true, laidLooks := .later }
def DiskPlaysUptoCardSaid : Prop := Claim7.holds Tryd.pinned (.plain (OpenSpec.upto diskPlaysSpec)) diskPlaysUptoCard

/-- THE SECOND FORM's CARD OF 'cartagelaw17.NetMoves'. -/
def netMovesUptoCard : Claim7 := { stood := { row := netMovesUptoRow, standIns := [], harness := (true, "cbaff20a9ccc84255a36cc7248d32f3fc1a81d1f5ed2c3abd335f1b0efb9e522"), looks := true }, kinds := [], alts := [], laidByText := true, laidKinds := [.sentinel, .sentinel, .sentinel, .sentinel, .sentinel, .sentinel, .sentinel, .sentinel, .sentinel, .sentinel, .sentinel, .sentinel, .sentinel, .sentinel, .sentinel, .sentinel, .sentinel, .sentinel, .sentinel, .sentinel, .sentinel, .sentinel], laidTests := true, laidLooks := .later }
def NetMovesUptoCardSaid : Prop := Claim7.holds Tryd.pinned (.plain (OpenSpec.upto netMovesSpec)) netMovesUptoCard

/-- THE SECOND FORM's CARD OF 'cartagelaw17.NetKeeps'. -/
def netKeepsUptoCard : Claim7 := { stood := { row := netKeepsUptoRow, standIns := [], harness := (true, "cbaff20a9ccc84255a36cc7248d32f3fc1a81d1f5ed2c3abd335f1b0efb9e522"), looks := true }, kinds := [], alts := [], laidByText := true, laidKinds := [.sentinel, .sentinel, .sentinel, .sentinel, .sentinel, .sentinel, .sentinel, .sentinel, .sentinel, .sentinel, .sentinel, .sentinel, .sentinel, .sentinel, .sentinel, .sentinel, .sentinel, .sentinel, .sentinel, .sentinel, .sentinel, .sentinel], laidTests := true, laidLooks := .later }
def NetKeepsUptoCardSaid : Prop := Claim7.holds Tryd.pinned (.plain (OpenSpec.upto netKeepsSpec)) netKeepsUptoCard

/-- THE SECOND FORM's CARD OF 'cartagelaw17.NetPlays'. -/
def netPlaysUptoCard : Claim7 := { stood := { row := netPlaysUptoRow, standIns := [], harness := (true, "cbaff20a9ccc84255a36cc7248d32f3fc1a81d1f5ed2c3abd335f1b0efb9e522"), looks := true }, kinds := [], alts := [], laidByText := true, laidKinds := [.sentinel, .sentinel, .sentinel, .sentinel, .sentinel, .sentinel, .sentinel, .sentinel, .sentinel, .sentinel, .sentinel, .sentinel, .sentinel, .sentinel, .sentinel, .sentinel, .sentinel, .sentinel, .sentinel, .sentinel, .sentinel, .sentinel], laidTests := true, laidLooks := .later }
def NetPlaysUptoCardSaid : Prop := Claim7.holds Tryd.pinned (.plain (OpenSpec.upto netPlaysSpec)) netPlaysUptoCard
end Rows
end Go.Proofs.YtdglpbjofdipkaaDoor
