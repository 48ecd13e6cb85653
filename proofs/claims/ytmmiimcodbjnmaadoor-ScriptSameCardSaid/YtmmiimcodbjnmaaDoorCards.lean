/-
  DERIVED. GIVEN WITH THE SEED: THE CARDS: each row of YtmmiimcodbjnmaaDoorRows.lean that lists a variable, with what it lists TIED to the program's text (the seventh form; the later family's looks); each row that meets fmt, with fmt's text TOLD by the authors' own Lean function (tested against real Go, not proved from fmt's source: count such statements apart). THE CARD IS WHAT COUNTS. Prove the row's statement (the work); the ties are given (YtmmiimcodbjnmaaDoorTie.lean); close each card by the builder's one call (the guide's Derived/Test/ToyasCard.lean, 'card_holds'). Laid BY PROGRAM, IN A SANDBOX (cutbox-door.mjs). By AI agents, Wed Nov 11 2026. No macro, syntax, notation, axiom, sorry.
-/
import Derived.Test.YtmmiimcodbjnmaaDoorRows
import GoSem.ClaimSeven
namespace Go.Proofs.YtmmiimcodbjnmaaDoor
namespace Rows

/-- THE TIED CARD OF 'cartagelaw32.LinesParts'. -/
def linesPartsCard : Claim7 := { stood := { row := linesPartsRow, standIns := [], harness := (true, "7781a93598417739cd8d9d8d26f838e37c67b1923404867d2054ffddb6ccdf65"), looks := true }, kinds := [], alts := [], laidByText := true, laidKinds := [.data, .data, .data, .widerDeep, .data], laidTests := true, laidLooks := .later }
def LinesPartsCardSaid : Prop := Claim7.holds Tryd.pinned (.plain (OpenSpec.ofChange linesPartsSpec)) linesPartsCard

/-- THE TIED CARD OF 'cartagelaw32.LinesWords'. -/
def linesWordsCard : Claim7 := { stood := { row := linesWordsRow, standIns := [], harness := (true, "7781a93598417739cd8d9d8d26f838e37c67b1923404867d2054ffddb6ccdf65"), looks := true }, kinds := [], alts := [], laidByText := true, laidKinds := [.data, .data, .data, .widerDeep, .data], laidTests := true, laidLooks := .later }
def LinesWordsCardSaid : Prop := Claim7.holds Tryd.pinned (.plain (OpenSpec.ofChange linesWordsSpec)) linesWordsCard

/-- THE TIED CARD OF 'cartagelaw31.ScriptSame'. -/
def scriptSameCard : Claim7 := { stood := { row := scriptSameRow, standIns := [], harness := (true, "7781a93598417739cd8d9d8d26f838e37c67b1923404867d2054ffddb6ccdf65"), looks := true }, kinds := [], alts := [], laidByText := true, laidKinds := [.data, .sentinel, .sentinel, .pinned], laidTests := true, laidLooks := .later }
def ScriptSameCardSaid : Prop := Claim7.holds Tryd.pinned (.plain (OpenSpec.ofChange scriptSameSpec)) scriptSameCard

/-- THE TIED CARD OF 'cartagelaw02.OctetsOne'. -/
def octetsOneCard : Claim7 := { stood := { row := octetsOneRow, standIns := [], harness := (true, "7781a93598417739cd8d9d8d26f838e37c67b1923404867d2054ffddb6ccdf65"), looks := true }, kinds := [], alts := [], laidByText := true, laidKinds := [.data, .sentinel, .sentinel, .sentinel, .pinned], laidTests := true, laidLooks := .later }
def OctetsOneCardSaid : Prop := Claim7.holds Tryd.pinned (.plain (OpenSpec.ofChange octetsOneSpec)) octetsOneCard

/-- THE TIED CARD OF 'cartagelaw02.OctetsTake'. -/
def octetsTakeCard : Claim7 := { stood := { row := octetsTakeRow, standIns := [], harness := (true, "7781a93598417739cd8d9d8d26f838e37c67b1923404867d2054ffddb6ccdf65"), looks := true }, kinds := [], alts := [], laidByText := true, laidKinds := [.data, .sentinel, .sentinel, .sentinel, .sentinel, .sentinel, .sentinel, .sentinel, .sentinel, .sentinel, .sentinel, .sentinel, .sentinel, .sentinel, .sentinel, .sentinel, .sentinel, .sentinel, .sentinel, .sentinel, .sentinel, .sentinel, .sentinel, .pinned], laidTests := true, laidLooks := .later }
def OctetsTakeCardSaid : Prop := Claim7.holds Tryd.pinned (.plain (OpenSpec.ofChange octetsTakeSpec)) octetsTakeCard

/-- THE TIED CARD OF 'cartagelaw02.OctetsWrite'. -/
def octetsWriteCard : Claim7 := { stood := { row := octetsWriteRow, standIns := [], harness := (true, "7781a93598417739cd8d9d8d26f838e37c67b1923404867d2054ffddb6ccdf65"), looks := true }, kinds := [], alts := [], laidByText := true, laidKinds := [.data, .sentinel, .sentinel, .sentinel, .sentinel, .sentinel, .sentinel, .sentinel, .sentinel, .sentinel, .sentinel, .sentinel, .sentinel, .sentinel, .sentinel, .sentinel, .sentinel, .sentinel, .sentinel, .sentinel, .sentinel, .sentinel, .sentinel, .pinned], laidTests := true, laidLooks := .later }
def OctetsWriteCardSaid : Prop := Claim7.holds Tryd.pinned (.plain (OpenSpec.ofChange octetsWriteSpec)) octetsWriteCard

/-- THE TIED CARD OF 'cartagelaw31.ScriptDecodes'. -/
def scriptDecodesCard : Claim7 := { stood := { row := scriptDecodesRow, standIns := [], harness := (true, "7781a93598417739cd8d9d8d26f838e37c67b1923404867d2054ffddb6ccdf65"), looks := true }, kinds := [], alts := [], laidByText := true, laidKinds := [.data, .sentinel, .sentinel, .sentinel, .sentinel, .sentinel, .pinned], laidTests := true, laidLooks := .later }
def ScriptDecodesCardSaid : Prop := Claim7.holds Tryd.pinned (.plain (OpenSpec.ofChange scriptDecodesSpec)) scriptDecodesCard

/-- THE TIED CARD OF 'cartagelaw31.ScriptJoin'. -/
def scriptJoinCard : Claim7 := { stood := { row := scriptJoinRow, standIns := [], harness := (true, "7781a93598417739cd8d9d8d26f838e37c67b1923404867d2054ffddb6ccdf65"), looks := true }, kinds := [], alts := [], laidByText := true, laidKinds := [.data, .sentinel, .sentinel, .sentinel, .sentinel, .sentinel, .pinned], laidTests := true, laidLooks := .later }
def ScriptJoinCardSaid : Prop := Claim7.holds Tryd.pinned (.plain (OpenSpec.ofChange scriptJoinSpec)) scriptJoinCard

/-- THE SECOND FORM's CARD OF 'cartagelaw32.LinesParts'. -/
def linesPartsUptoCard : Claim7 := { stood := { row := linesPartsUptoRow, standIns := [], harness := (true, "7781a93598417739cd8d9d8d26f838e37c67b1923404867d2054ffddb6ccdf65"), looks := true }, kinds := [], alts := [], laidByText := true, laidKinds := [.data, .data, .data, .widerDeep, .data], laidTests := true, laidLooks := .later }
def LinesPartsUptoCardSaid : Prop := Claim7.holds Tryd.pinned (.plain (OpenSpec.upto linesPartsSpec)) linesPartsUptoCard

/-- THE SECOND FORM's CARD OF 'cartagelaw32.LinesWords'. -/
def linesWordsUptoCard : Claim7 := { stood := { row := linesWordsUptoRow, standIns := [], harness := (true, "7781a93598417739cd8d9d8d26f838e37c67b1923404867d2054ffddb6ccdf65"), looks := true }, kinds := [], alts := [], laidByText := true, laidKinds := [.data, .data, .data, .widerDeep, .data], laidTests := true, laidLooks := .later }
def LinesWordsUptoCardSaid : Prop := Claim7.holds Tryd.pinned (.plain (OpenSpec.upto linesWordsSpec)) linesWordsUptoCard

/-- THE SECOND FORM's CARD OF 'cartagelaw31.ScriptSame'. -/
def scriptSameUptoCard : Claim7 := { stood := { row := scriptSameUptoRow, standIns := [], harness := (true, "7781a93598417739cd8d9d8d26f838e37c67b1923404867d2054ffddb6ccdf65"), looks := true }, kinds := [], alts := [], laidByText := true, laidKinds := [.data, .sentinel, .sentinel, .pinned], laidTests := true, laidLooks := .later }
def ScriptSameUptoCardSaid : Prop := Claim7.holds Tryd.pinned (.plain (OpenSpec.upto scriptSameSpec)) scriptSameUptoCard

/-- THE SECOND FORM's CARD OF 'cartagelaw02.OctetsOne'. -/
def octetsOneUptoCard : Claim7 := { stood := { row := octetsOneUptoRow, standIns := [], harness := (true, "7781a93598417739cd8d9d8d26f838e37c67b1923404867d2054ffddb6ccdf65"), looks := true }, kinds := [], alts := [], laidByText := true, laidKinds := [.data, .sentinel, .sentinel, .sentinel, .pinned], laidTests := true, laidLooks := .later }
def OctetsOneUptoCardSaid : Prop := Claim7.holds Tryd.pinned (.plain (OpenSpec.upto octetsOneSpec)) octetsOneUptoCard

/-- THE SECOND FORM's CARD OF 'cartagelaw02.OctetsTake'. -/
def octetsTakeUptoCard : Claim7 := { stood := { row := octetsTakeUptoRow, standIns := [], harness := (true, "7781a93598417739cd8d9d8d26f838e37c67b1923404867d2054ffddb6ccdf65"), looks := true }, kinds := [], alts := [], laidByText := true, laidKinds := [.data, .sentinel, .sentinel, .sentinel, .sentinel, .sentinel, .sentinel, .sentinel, .sentinel, .sentinel, .sentinel, .sentinel, .sentinel, .sentinel, .sentinel, .sentinel, .sentinel, .sentinel, .sentinel, .sentinel, .sentinel, .sentinel, .sentinel, .pinned], laidTests := true, laidLooks := .later }
def OctetsTakeUptoCardSaid : Prop := Claim7.holds Tryd.pinned (.plain (OpenSpec.upto octetsTakeSpec)) octetsTakeUptoCard

/-- THE SECOND FORM's CARD OF 'cartagelaw02.OctetsWrite'. -/
def octetsWriteUptoCard : Claim7 := { stood := { row := octetsWriteUptoRow, standIns := [], harness := (true, "7781a93598417739cd8d9d8d26f838e37c67b1923404867d2054ffddb6ccdf65"), looks := true }, kinds := [], alts := [], laidByText := true, laidKinds := [.data, .sentinel, .sentinel, .sentinel, .sentinel, .sentinel, .sentinel, .sentinel, .sentinel, .sentinel, .sentinel, .sentinel, .sentinel, .sentinel, .sentinel, .sentinel, .sentinel, .sentinel, .sentinel, .sentinel, .sentinel, .sentinel, .sentinel, .pinned], laidTests := true, laidLooks := .later }
def OctetsWriteUptoCardSaid : Prop := Claim7.holds Tryd.pinned (.plain (OpenSpec.upto octetsWriteSpec)) octetsWriteUptoCard

/-- THE SECOND FORM's CARD OF 'cartagelaw31.ScriptDecodes'. -/
def scriptDecodesUptoCard : Claim7 := { stood := { row := scriptDecodesUptoRow, standIns := [], harness := (true, "7781a93598417739cd8d9d8d26f838e37c67b1923404867d2054ffddb6ccdf65"), looks := true }, kinds := [], alts := [], laidByText := true, laidKinds := [.data, .sentinel, .sentinel, .sentinel, .sentinel, .sentinel, .pinned], laidTests := true, laidLooks := .later }
def ScriptDecodesUptoCardSaid : Prop := Claim7.holds Tryd.pinned (.plain (OpenSpec.upto scriptDecodesSpec)) scriptDecodesUptoCard

/-- THE SECOND FORM's CARD OF 'cartagelaw31.ScriptJoin'. -/
def scriptJoinUptoCard : Claim7 := { stood := { row := scriptJoinUptoRow, standIns := [], harness := (true, "7781a93598417739cd8d9d8d26f838e37c67b1923404867d2054ffddb6ccdf65"), looks := true }, kinds := [], alts := [], laidByText := true, laidKinds := [.data, .sentinel, .sentinel, .sentinel, .sentinel, .sentinel, .pinned], laidTests := true, laidLooks := .later }
def ScriptJoinUptoCardSaid : Prop := Claim7.holds Tryd.pinned (.plain (OpenSpec.upto scriptJoinSpec)) scriptJoinUptoCard
end Rows
end Go.Proofs.YtmmiimcodbjnmaaDoor
