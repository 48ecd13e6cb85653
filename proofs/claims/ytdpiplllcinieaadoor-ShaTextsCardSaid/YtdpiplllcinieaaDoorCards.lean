/-
  DERIVED. GIVEN WITH THE SEED: THE CARDS: each row of YtdpiplllcinieaaDoorRows.lean that lists a variable, with what it lists TIED to the program's text (the seventh form; the later family's looks); each row that meets fmt, with fmt's text TOLD by the authors' own Lean function (tested against real Go, not proved from fmt's source: count such statements apart). THE CARD IS WHAT COUNTS. Prove the row's statement (the work); the ties are given (YtdpiplllcinieaaDoorTie.lean); close each card by the builder's one call (the guide's Derived/Test/ToyasCard.lean, 'card_holds'). Laid BY PROGRAM, IN A SANDBOX (cutbox-door.mjs). By AI agents, Wed Nov 11 2026. No macro, syntax, notation, axiom, sorry.
-/
import Derived.Test.YtdpiplllcinieaaDoorRows
import GoSem.ClaimSeven
namespace Go.Proofs.YtdpiplllcinieaaDoor
namespace Rows

/-- THE TIED CARD OF 'cartagelaw06.ObjectSame'. -/
def objectSameCard : Claim7 := { stood := { row := objectSameRow, standIns := [], harness := (true, "150cbdd2ed188622fe81195ab0dfa4a49c375cc05039e62729dbefb5d4fbbe13"), looks := true }, kinds := [], alts := [], laidByText := true, laidKinds := [.sentinel], laidTests := true, laidLooks := .later }
def ObjectSameCardSaid : Prop := Claim7.holds Tryd.pinned (.plain (OpenSpec.ofChange objectSameSpec)) objectSameCard

/-- THE TIED CARD OF 'cartagelaw01.ShaSums'. -/
def shaSumsCard : Claim7 := { stood := { row := shaSumsRow, standIns := [], harness := (true, "150cbdd2ed188622fe81195ab0dfa4a49c375cc05039e62729dbefb5d4fbbe13"), looks := true }, kinds := [], alts := [], laidByText := true, laidKinds := [.data, .data], laidTests := true, laidLooks := .later }
def ShaSumsCardSaid : Prop := Claim7.holds Tryd.pinned (.plain (OpenSpec.ofChange shaSumsSpec)) shaSumsCard

/-- THE TIED CARD OF 'cartagelaw01.ShaRoots'. -/
def shaRootsCard : Claim7 := { stood := { row := shaRootsRow, standIns := [], harness := (true, "150cbdd2ed188622fe81195ab0dfa4a49c375cc05039e62729dbefb5d4fbbe13"), looks := true }, kinds := [], alts := [], laidByText := true, laidKinds := [.data, .data], laidTests := true, laidLooks := .later }
def ShaRootsCardSaid : Prop := Claim7.holds Tryd.pinned (.plain (OpenSpec.ofChange shaRootsSpec)) shaRootsCard

/-- THE TIED CARD OF 'cartagelaw01.ShaTexts'. -/
def shaTextsCard : Claim7 := { stood := { row := shaTextsRow, standIns := [], harness := (true, "150cbdd2ed188622fe81195ab0dfa4a49c375cc05039e62729dbefb5d4fbbe13"), looks := true }, kinds := [], alts := [], laidByText := true, laidKinds := [.sentinel, .sentinel, .sentinel, .sentinel, .sentinel, .sentinel, .sentinel, .sentinel, .sentinel, .sentinel, .sentinel, .sentinel, .sentinel, .sentinel, .sentinel, .sentinel, .sentinel, .sentinel, .sentinel, .sentinel, .sentinel, .sentinel, .data, .data], laidTests := true, laidLooks := .later }
def ShaTextsCardSaid : Prop := Claim7.holds Tryd.pinned (.plain (OpenSpec.ofChange shaTextsSpec)) shaTextsCard

/-- THE TIED CARD OF 'cartagelaw06.ObjectParse'. -/
def objectParseCard : Claim7 := { stood := { row := objectParseRow, standIns := [], harness := (true, "150cbdd2ed188622fe81195ab0dfa4a49c375cc05039e62729dbefb5d4fbbe13"), looks := true }, kinds := [], alts := [], laidByText := true, laidKinds := [.sentinel, .sentinel, .sentinel, .sentinel, .sentinel, .sentinel, .sentinel, .sentinel, .sentinel, .sentinel, .sentinel, .sentinel, .sentinel, .sentinel, .sentinel, .sentinel, .sentinel, .sentinel, .sentinel, .sentinel, .sentinel, .sentinel], laidTests := true, laidLooks := .later }
def ObjectParseCardSaid : Prop := Claim7.holds Tryd.pinned (.plain (OpenSpec.ofChange objectParseSpec)) objectParseCard

/-- THE TIED CARD OF 'cartagelaw06.ObjectLinks'. -/
def objectLinksCard : Claim7 := { stood := { row := objectLinksRow, standIns := [], harness := (true, "150cbdd2ed188622fe81195ab0dfa4a49c375cc05039e62729dbefb5d4fbbe13"), looks := true }, kinds := [], alts := [], laidByText := true, laidKinds := [.sentinel, .sentinel, .sentinel, .sentinel, .sentinel, .sentinel, .data, .data], laidTests := true, laidLooks := .later }
def ObjectLinksCardSaid : Prop := Claim7.holds Tryd.pinned (.plain (OpenSpec.ofChange objectLinksSpec)) objectLinksCard

/-- THE TIED CARD OF 'cartagelaw01.ShaSorts'. -/
def shaSortsCard : Claim7 := { stood := { row := shaSortsRow, standIns := [], harness := (true, "150cbdd2ed188622fe81195ab0dfa4a49c375cc05039e62729dbefb5d4fbbe13"), looks := true }, kinds := [], alts := [], laidByText := true, laidKinds := [.data, .data], laidTests := true, laidLooks := .later }
def ShaSortsCardSaid : Prop := Claim7.holds Tryd.pinned (.plain (OpenSpec.ofChange shaSortsSpec)) shaSortsCard

/-- THE TIED CARD OF 'cartagelaw01.ShaOrder'. -/
def shaOrderCard : Claim7 := { stood := { row := shaOrderRow, standIns := [], harness := (true, "150cbdd2ed188622fe81195ab0dfa4a49c375cc05039e62729dbefb5d4fbbe13"), looks := true }, kinds := [], alts := [], laidByText := true, laidKinds := [.data, .data], laidTests := true, laidLooks := .later }
def ShaOrderCardSaid : Prop := Claim7.holds Tryd.pinned (.plain (OpenSpec.ofChange shaOrderSpec)) shaOrderCard

/-- THE SECOND FORM's CARD OF 'cartagelaw06.ObjectSame'. -/
def objectSameUptoCard : Claim7 := { stood := { row := objectSameUptoRow, standIns := [], harness := (true, "150cbdd2ed188622fe81195ab0dfa4a49c375cc05039e62729dbefb5d4fbbe13"), looks := true }, kinds := [], alts := [], laidByText := true, laidKinds := [.sentinel], laidTests := true, laidLooks := .later }
def ObjectSameUptoCardSaid : Prop := Claim7.holds Tryd.pinned (.plain (OpenSpec.upto objectSameSpec)) objectSameUptoCard

/-- THE SECOND FORM's CARD OF 'cartagelaw01.ShaSums'. -/
def shaSumsUptoCard : Claim7 := { stood := { row := shaSumsUptoRow, standIns := [], harness := (true, "150cbdd2ed188622fe81195ab0dfa4a49c375cc05039e62729dbefb5d4fbbe13"), looks := true }, kinds := [], alts := [], laidByText := true, laidKinds := [.data, .data], laidTests := true, laidLooks := .later }
def ShaSumsUptoCardSaid : Prop := Claim7.holds Tryd.pinned (.plain (OpenSpec.upto shaSumsSpec)) shaSumsUptoCard

/-- THE SECOND FORM's CARD OF 'cartagelaw01.ShaRoots'. -/
def shaRootsUptoCard : Claim7 := { stood := { row := shaRootsUptoRow, standIns := [], harness := (true, "150cbdd2ed188622fe81195ab0dfa4a49c375cc05039e62729dbefb5d4fbbe13"), looks := true }, kinds := [], alts := [], laidByText := true, laidKinds := [.data, .data], laidTests := true, laidLooks := .later }
def ShaRootsUptoCardSaid : Prop := Claim7.holds Tryd.pinned (.plain (OpenSpec.upto shaRootsSpec)) shaRootsUptoCard

/-- THE SECOND FORM's CARD OF 'cartagelaw01.ShaTexts'. -/
def shaTextsUptoCard : Claim7 := { stood := { row := shaTextsUptoRow, standIns := [], harness := (true, "150cbdd2ed188622fe81195ab0dfa4a49c375cc05039e62729dbefb5d4fbbe13"), looks := true }, kinds := [], alts := [], laidByText := true, laidKinds := [.sentinel, .sentinel, .sentinel, .sentinel, .sentinel, .sentinel, .sentinel, .sentinel, .sentinel, .sentinel, .sentinel, .sentinel, .sentinel, .sentinel, .sentinel, .sentinel, .sentinel, .sentinel, .sentinel, .sentinel, .sentinel, .sentinel, .data, .data], laidTests := true, laidLooks := .later }
def ShaTextsUptoCardSaid : Prop := Claim7.holds Tryd.pinned (.plain (OpenSpec.upto shaTextsSpec)) shaTextsUptoCard

/-- THE SECOND FORM's CARD OF 'cartagelaw06.ObjectParse'. -/
def objectParseUptoCard : Claim7 := { stood := { row := objectParseUptoRow, standIns := [], harness := (true, "150cbdd2ed188622fe81195ab0dfa4a49c375cc05039e62729dbefb5d4fbbe13"), looks := true }, kinds := [], alts := [], laidByText := true, laidKinds := [.sentinel, .sentinel, .sentinel, .sentinel, .sentinel, .sentinel, .sentinel, .sentinel, .sentinel, .sentinel, .sentinel, .sentinel, .sentinel, .sentinel, .sentinel, .sentinel, .sentinel, .sentinel, .sentinel, .sentinel, .sentinel, .sentinel], laidTests := true, laidLooks := .later }
def ObjectParseUptoCardSaid : Prop := Claim7.holds Tryd.pinned (.plain (OpenSpec.upto objectParseSpec)) objectParseUptoCard

/-- THE SECOND FORM's CARD OF 'cartagelaw06.ObjectLinks'. -/
def objectLinksUptoCard : Claim7 := { stood := { row := objectLinksUptoRow, standIns := [], harness := (true, "150cbdd2ed188622fe81195ab0dfa4a49c375cc05039e62729dbefb5d4fbbe13"), looks := true }, kinds := [], alts := [], laidByText := true, laidKinds := [.sentinel, .sentinel, .sentinel, .sentinel, .sentinel, .sentinel, .data, .data], laidTests := true, laidLooks := .later }
def ObjectLinksUptoCardSaid : Prop := Claim7.holds Tryd.pinned (.plain (OpenSpec.upto objectLinksSpec)) objectLinksUptoCard

/-- THE SECOND FORM's CARD OF 'cartagelaw01.ShaSorts'. -/
def shaSortsUptoCard : Claim7 := { stood := { row := shaSortsUptoRow, standIns := [], harness := (true, "150cbdd2ed188622fe81195ab0dfa4a49c375cc05039e62729dbefb5d4fbbe13"), looks := true }, kinds := [], alts := [], laidByText := true, laidKinds := [.data, .data], laidTests := true, laidLooks := .later }
def ShaSortsUptoCardSaid : Prop := Claim7.holds Tryd.pinned (.plain (OpenSpec.upto shaSortsSpec)) shaSortsUptoCard

/-- THE SECOND FORM's CARD OF 'cartagelaw01.ShaOrder'. -/
def shaOrderUptoCard : Claim7 := { stood := { row := shaOrderUptoRow, standIns := [], harness := (true, "150cbdd2ed188622fe81195ab0dfa4a49c375cc05039e62729dbefb5d4fbbe13"), looks := true }, kinds := [], alts := [], laidByText := true, laidKinds := [.data, .data], laidTests := true, laidLooks := .later }
def ShaOrderUptoCardSaid : Prop := Claim7.holds Tryd.pinned (.plain (OpenSpec.upto shaOrderSpec)) shaOrderUptoCard
end Rows
end Go.Proofs.YtdpiplllcinieaaDoor
