/-
  DERIVED. GIVEN WITH THE SEED: THE CARDS: each row of YtbapkamopelgpaaDoorRows.lean that lists a variable, with what it lists TIED to the program's text (the seventh form; the later family's looks); each row that meets fmt, with fmt's text TOLD by the authors' own Lean function (tested against real Go, not proved from fmt's source: count such statements apart). THE CARD IS WHAT COUNTS. Prove the row's statement (the work); the ties are given (YtbapkamopelgpaaDoorTie.lean); close each card by the builder's one call (the guide's Derived/Test/ToyasCard.lean, 'card_holds'). Laid BY PROGRAM, IN A SANDBOX (cutbox-door.mjs). By AI agents, Wed Nov 11 2026. No macro, syntax, notation, axiom, sorry.
-/
import Derived.Test.YtbapkamopelgpaaDoorRows
import GoSem.ClaimSeven
namespace Go.Proofs.YtbapkamopelgpaaDoor
namespace Rows

/-- THE TIED CARD OF 'cartagelaw16.MessageSame'. -/
def messageSameCard : Claim7 := { stood := { row := messageSameRow, standIns := [], harness := (true, "6ae8ec16f7ee27de2150e29b96ea8bbd99f1bea4d15b17f31938a5a0b124096b"), looks := true }, kinds := [], alts := [], laidByText := true, laidKinds := [.data, .sentinel, .sentinel, .sentinel, .data, .pinned], laidTests := true, laidLooks := .later }
def MessageSameCardSaid : Prop := Claim7.holds Tryd.pinned (.plain (OpenSpec.ofChange messageSameSpec)) messageSameCard

/-- THE TIED CARD OF 'cartagelaw21.ClientNew'. -/
def clientNewCard : Claim7 := { stood := { row := clientNewRow, standIns := [], harness := (true, "6ae8ec16f7ee27de2150e29b96ea8bbd99f1bea4d15b17f31938a5a0b124096b"), looks := true }, kinds := [], alts := [], laidByText := true, laidKinds := [.data, .sentinel, .sentinel, .sentinel, .sentinel, .sentinel, .sentinel, .sentinel, .sentinel, .sentinel, .sentinel, .sentinel, .sentinel, .sentinel, .sentinel, .sentinel, .sentinel, .sentinel, .sentinel, .sentinel, .sentinel, .sentinel, .sentinel, .data, .pinned], laidTests := true, laidLooks := .later }
def ClientNewCardSaid : Prop := Claim7.holds Tryd.pinned (.plain (OpenSpec.ofChange clientNewSpec)) clientNewCard

/-- THE TIED CARD OF 'cartagelaw21.ClientEnds'. -/
def clientEndsCard : Claim7 := { stood := { row := clientEndsRow, standIns := [], harness := (true, "6ae8ec16f7ee27de2150e29b96ea8bbd99f1bea4d15b17f31938a5a0b124096b"), looks := true }, kinds := [], alts := [], laidByText := true, laidKinds := [.data, .sentinel, .sentinel, .sentinel, .sentinel, .data, .pinned], laidTests := true, laidLooks := .later }
def ClientEndsCardSaid : Prop := Claim7.holds Tryd.pinned (.plain (OpenSpec.ofChange clientEndsSpec)) clientEndsCard

/-- THE TIED CARD OF 'cartagelaw21.ClientDeaf'. -/
def clientDeafCard : Claim7 := { stood := { row := clientDeafRow, standIns := [], harness := (true, "6ae8ec16f7ee27de2150e29b96ea8bbd99f1bea4d15b17f31938a5a0b124096b"), looks := true }, kinds := [], alts := [], laidByText := true, laidKinds := [.data, .sentinel, .sentinel, .sentinel, .sentinel, .data, .pinned], laidTests := true, laidLooks := .later }
def ClientDeafCardSaid : Prop := Claim7.holds Tryd.pinned (.plain (OpenSpec.ofChange clientDeafSpec)) clientDeafCard

/-- THE TIED CARD OF 'cartagelaw15.FrameParse'. -/
def frameParseCard : Claim7 := { stood := { row := frameParseRow, standIns := [], harness := (true, "6ae8ec16f7ee27de2150e29b96ea8bbd99f1bea4d15b17f31938a5a0b124096b"), looks := true }, kinds := [], alts := [], laidByText := true, laidKinds := [.data, .sentinel, .sentinel, .sentinel, .sentinel, .sentinel, .sentinel, .sentinel, .sentinel, .sentinel, .sentinel, .sentinel, .sentinel, .sentinel, .sentinel, .sentinel, .sentinel, .sentinel, .sentinel, .sentinel, .sentinel, .sentinel, .sentinel, .data, .data, .pinned], laidTests := true, laidLooks := .later }
def FrameParseCardSaid : Prop := Claim7.holds Tryd.pinned (.plain (OpenSpec.ofChange frameParseSpec)) frameParseCard

/-- THE TIED CARD OF 'cartagelaw15.FrameBytes'. -/
def frameBytesCard : Claim7 := { stood := { row := frameBytesRow, standIns := [], harness := (true, "6ae8ec16f7ee27de2150e29b96ea8bbd99f1bea4d15b17f31938a5a0b124096b"), looks := true }, kinds := [], alts := [], laidByText := true, laidKinds := [.data, .sentinel, .sentinel, .sentinel, .sentinel, .sentinel, .sentinel, .sentinel, .sentinel, .sentinel, .sentinel, .sentinel, .sentinel, .sentinel, .sentinel, .sentinel, .sentinel, .sentinel, .sentinel, .sentinel, .sentinel, .sentinel, .sentinel, .data, .data, .pinned], laidTests := true, laidLooks := .later }
def FrameBytesCardSaid : Prop := Claim7.holds Tryd.pinned (.plain (OpenSpec.ofChange frameBytesSpec)) frameBytesCard

/-- THE TIED CARD OF 'cartagelaw15.FrameNames'. -/
def frameNamesCard : Claim7 := { stood := { row := frameNamesRow, standIns := [], harness := (true, "6ae8ec16f7ee27de2150e29b96ea8bbd99f1bea4d15b17f31938a5a0b124096b"), looks := true }, kinds := [], alts := [], laidByText := true, laidKinds := [.data, .data, .data, .data, .sentinel, .sentinel, .sentinel, .data, .data, .pinned], laidTests := true, laidLooks := .later }
def FrameNamesCardSaid : Prop := Claim7.holds Tryd.pinned (.plain (OpenSpec.ofChange frameNamesSpec)) frameNamesCard

/-- THE TIED CARD OF 'cartagelaw15.FrameWho'. -/
def frameWhoCard : Claim7 := { stood := { row := frameWhoRow, standIns := [], harness := (true, "6ae8ec16f7ee27de2150e29b96ea8bbd99f1bea4d15b17f31938a5a0b124096b"), looks := true }, kinds := [], alts := [], laidByText := true, laidKinds := [.data, .data, .data, .data, .sentinel, .sentinel, .sentinel, .data, .data, .pinned], laidTests := true, laidLooks := .later }
def FrameWhoCardSaid : Prop := Claim7.holds Tryd.pinned (.plain (OpenSpec.ofChange frameWhoSpec)) frameWhoCard

/-- THE TIED CARD OF 'cartagelaw16.MessageFrames'. -/
def messageFramesCard : Claim7 := { stood := { row := messageFramesRow, standIns := [], harness := (true, "6ae8ec16f7ee27de2150e29b96ea8bbd99f1bea4d15b17f31938a5a0b124096b"), looks := true }, kinds := [], alts := [], laidByText := true, laidKinds := [.data, .sentinel, .sentinel, .sentinel, .sentinel, .sentinel, .sentinel, .sentinel, .sentinel, .sentinel, .sentinel, .sentinel, .sentinel, .sentinel, .sentinel, .sentinel, .sentinel, .sentinel, .sentinel, .sentinel, .sentinel, .sentinel, .sentinel, .data, .data, .data, .pinned], laidTests := true, laidLooks := .later }
def MessageFramesCardSaid : Prop := Claim7.holds Tryd.pinned (.plain (OpenSpec.ofChange messageFramesSpec)) messageFramesCard

/-- THE SECOND FORM's CARD OF 'cartagelaw16.MessageSame'. -/
def messageSameUptoCard : Claim7 := { stood := { row := messageSameUptoRow, standIns := [], harness := (true, "6ae8ec16f7ee27de2150e29b96ea8bbd99f1bea4d15b17f31938a5a0b124096b"), looks := true }, kinds := [], alts := [], laidByText := true, laidKinds := [.data, .sentinel, .sentinel, .sentinel, .data, .pinned], laidTests := true, laidLooks := .later }
def MessageSameUptoCardSaid : Prop := Claim7.holds Tryd.pinned (.plain (OpenSpec.upto messageSameSpec)) messageSameUptoCard

/-- THE SECOND FORM's CARD OF 'cartagelaw21.ClientNew'. -/
def clientNewUptoCard : Claim7 := { stood := { row := clientNewUptoRow, standIns := [], harness := (true, "6ae8ec16f7ee27de2150e29b96ea8bbd99f1bea4d15b17f31938a5a0b124096b"), looks := true }, kinds := [], alts := [], laidByText := true, laidKinds := [.data, .sentinel, .sentinel, .sentinel, .sentinel, .sentinel, .sentinel, .sentinel, .sentinel, .sentinel, .sentinel, .sentinel, .sentinel, .sentinel, .sentinel, .sentinel, .sentinel, .sentinel, .sentinel, .sentinel, .sentinel, .sentinel, .sentinel, .data, .pinned], laidTests := true, laidLooks := .later }
def ClientNewUptoCardSaid : Prop := Claim7.holds Tryd.pinned (.plain (OpenSpec.upto clientNewSpec)) clientNewUptoCard

/-- THE SECOND FORM's CARD OF 'cartagelaw21.ClientEnds'. -/
def clientEndsUptoCard : Claim7 := { stood := { row := clientEndsUptoRow, standIns := [], harness := (true, "6ae8ec16f7ee27de2150e29b96ea8bbd99f1bea4d15b17f31938a5a0b124096b"), looks := true }, kinds := [], alts := [], laidByText := true, laidKinds := [.data, .sentinel, .sentinel, .sentinel, .sentinel, .data, .pinned], laidTests := true, laidLooks := .later }
def ClientEndsUptoCardSaid : Prop := Claim7.holds Tryd.pinned (.plain (OpenSpec.upto clientEndsSpec)) clientEndsUptoCard

/-- THE SECOND FORM's CARD OF 'cartagelaw21.ClientDeaf'. -/
def clientDeafUptoCard : Claim7 := { stood := { row := clientDeafUptoRow, standIns := [], harness := (true, "6ae8ec16f7ee27de2150e29b96ea8bbd99f1bea4d15b17f31938a5a0b124096b"), looks := true }, kinds := [], alts := [], laidByText := true, laidKinds := [.data, .sentinel, .sentinel, .sentinel, .sentinel, .data, .pinned], laidTests := true, laidLooks := .later }
def ClientDeafUptoCardSaid : Prop := Claim7.holds Tryd.pinned (.plain (OpenSpec.upto clientDeafSpec)) clientDeafUptoCard

/-- THE SECOND FORM's CARD OF 'cartagelaw15.FrameParse'. -/
def frameParseUptoCard : Claim7 := { stood := { row := frameParseUptoRow, standIns := [], harness := (true, "6ae8ec16f7ee27de2150e29b96ea8bbd99f1bea4d15b17f31938a5a0b124096b"), looks := true }, kinds := [], alts := [], laidByText := true, laidKinds := [.data, .sentinel, .sentinel, .sentinel, .sentinel, .sentinel, .sentinel, .sentinel, .sentinel, .sentinel, .sentinel, .sentinel, .sentinel, .sentinel, .sentinel, .sentinel, .sentinel, .sentinel, .sentinel, .sentinel, .sentinel, .sentinel, .sentinel, .data, .data, .pinned], laidTests := true, laidLooks := .later }
def FrameParseUptoCardSaid : Prop := Claim7.holds Tryd.pinned (.plain (OpenSpec.upto frameParseSpec)) frameParseUptoCard

/-- THE SECOND FORM's CARD OF 'cartagelaw15.FrameBytes'. -/
def frameBytesUptoCard : Claim7 := { stood := { row := frameBytesUptoRow, standIns := [], harness := (true, "6ae8ec16f7ee27de2150e29b96ea8bbd99f1bea4d15b17f31938a5a0b124096b"), looks := true }, kinds := [], alts := [], laidByText := true, laidKinds := [.data, .sentinel, .sentinel, .sentinel, .sentinel, .sentinel, .sentinel, .sentinel, .sentinel, .sentinel, .sentinel, .sentinel, .sentinel, .sentinel, .sentinel, .sentinel, .sentinel, .sentinel, .sentinel, .sentinel, .sentinel, .sentinel, .sentinel, .data, .data, .pinned], laidTests := true, laidLooks := .later }
def FrameBytesUptoCardSaid : Prop := Claim7.holds Tryd.pinned (.plain (OpenSpec.upto frameBytesSpec)) frameBytesUptoCard

/-- THE SECOND FORM's CARD OF 'cartagelaw15.FrameNames'. -/
def frameNamesUptoCard : Claim7 := { stood := { row := frameNamesUptoRow, standIns := [], harness := (true, "6ae8ec16f7ee27de2150e29b96ea8bbd99f1bea4d15b17f31938a5a0b124096b"), looks := true }, kinds := [], alts := [], laidByText := true, laidKinds := [.data, .data, .data, .data, .sentinel, .sentinel, .sentinel, .data, .data, .pinned], laidTests := true, laidLooks := .later }
def FrameNamesUptoCardSaid : Prop := Claim7.holds Tryd.pinned (.plain (OpenSpec.upto frameNamesSpec)) frameNamesUptoCard

/-- THE SECOND FORM's CARD OF 'cartagelaw15.FrameWho'. -/
def frameWhoUptoCard : Claim7 := { stood := { row := frameWhoUptoRow, standIns := [], harness := (true, "6ae8ec16f7ee27de2150e29b96ea8bbd99f1bea4d15b17f31938a5a0b124096b"), looks := true }, kinds := [], alts := [], laidByText := true, laidKinds := [.data, .data, .data, .data, .sentinel, .sentinel, .sentinel, .data, .data, .pinned], laidTests := true, laidLooks := .later }
def FrameWhoUptoCardSaid : Prop := Claim7.holds Tryd.pinned (.plain (OpenSpec.upto frameWhoSpec)) frameWhoUptoCard

/-- THE SECOND FORM's CARD OF 'cartagelaw16.MessageFrames'. -/
def messageFramesUptoCard : Claim7 := { stood := { row := messageFramesUptoRow, standIns := [], harness := (true, "6ae8ec16f7ee27de2150e29b96ea8bbd99f1bea4d15b17f31938a5a0b124096b"), looks := true }, kinds := [], alts := [], laidByText := true, laidKinds := [.data, .sentinel, .sentinel, .sentinel, .sentinel, .sentinel, .sentinel, .sentinel, .sentinel, .sentinel, .sentinel, .sentinel, .sentinel, .sentinel, .sentinel, .sentinel, .sentinel, .sentinel, .sentinel, .sentinel, .sentinel, .sentinel, .sentinel, .data, .data, .data, .pinned], laidTests := true, laidLooks := .later }
def MessageFramesUptoCardSaid : Prop := Claim7.holds Tryd.pinned (.plain (OpenSpec.upto messageFramesSpec)) messageFramesUptoCard
end Rows
end Go.Proofs.YtbapkamopelgpaaDoor
