/-
  DERIVED. GIVEN WITH THE SEED: THE CARDS: each row of YtclfiaemjdflbaaDoorRows.lean that lists a variable, with what it lists TIED to the program's text (the seventh form; the later family's looks); each row that meets fmt, with fmt's text TOLD by the authors' own Lean function (tested against real Go, not proved from fmt's source: count such statements apart). THE CARD IS WHAT COUNTS. Prove the row's statement (the work); the ties are given (YtclfiaemjdflbaaDoorTie.lean); close each card by the builder's one call (the guide's Derived/Test/ToyasCard.lean, 'card_holds'). Laid BY PROGRAM, IN A SANDBOX (cutbox-door.mjs). By AI agents, Wed Nov 11 2026. No macro, syntax, notation, axiom, sorry.
-/
import Derived.Test.YtclfiaemjdflbaaDoorRows
import GoSem.ClaimSeven
namespace Go.Proofs.YtclfiaemjdflbaaDoor
namespace Rows

/-- THE TIED CARD OF 'cutroomlaw01.RationalCmp'. -/
def rationalCmpCard : Claim7 := { stood := { row := rationalCmpRow, standIns := [], harness := (true, "286f36b31cb3b6888482c0d9b2da960116e8d7c60adb193a51d4c1815be6859d"), looks := true }, kinds := [], alts := [], laidByText := true, laidKinds := [.data], laidTests := true, laidLooks := .later }
def RationalCmpCardSaid : Prop := Claim7.holds Tryd.pinned (.plain (OpenSpec.ofChange rationalCmpSpec)) rationalCmpCard

/-- THE TIED CARD OF 'cutroomlaw01.RationalOrder'. -/
def rationalOrderCard : Claim7 := { stood := { row := rationalOrderRow, standIns := [], harness := (true, "286f36b31cb3b6888482c0d9b2da960116e8d7c60adb193a51d4c1815be6859d"), looks := true }, kinds := [], alts := [], laidByText := true, laidKinds := [.data], laidTests := true, laidLooks := .later }
def RationalOrderCardSaid : Prop := Claim7.holds Tryd.pinned (.plain (OpenSpec.ofChange rationalOrderSpec)) rationalOrderCard

/-- THE TIED CARD OF 'cutroomlaw01.RationalFormat'. -/
def rationalFormatCard : Claim7 := { stood := { row := rationalFormatRow, standIns := [], harness := (true, "286f36b31cb3b6888482c0d9b2da960116e8d7c60adb193a51d4c1815be6859d"), looks := true }, kinds := [], alts := [], laidByText := true, laidKinds := [.data, .data, .data, .sentinel, .sentinel], laidTests := true, laidLooks := .later }
def RationalFormatCardSaid : Prop := Claim7.holds Tryd.pinned (.plain (OpenSpec.ofChange rationalFormatSpec)) rationalFormatCard

/-- THE TIED CARD OF 'cutroomlaw01.RationalParse'. -/
def rationalParseCard : Claim7 := { stood := { row := rationalParseRow, standIns := [], harness := (true, "286f36b31cb3b6888482c0d9b2da960116e8d7c60adb193a51d4c1815be6859d"), looks := true }, kinds := [], alts := [], laidByText := true, laidKinds := [.data, .data, .data, .sentinel, .sentinel], laidTests := true, laidLooks := .later }
def RationalParseCardSaid : Prop := Claim7.holds Tryd.pinned (.plain (OpenSpec.ofChange rationalParseSpec)) rationalParseCard

/-- THE SECOND FORM's CARD OF 'cutroomlaw01.RationalCmp'. -/
def rationalCmpUptoCard : Claim7 := { stood := { row := rationalCmpUptoRow, standIns := [], harness := (true, "286f36b31cb3b6888482c0d9b2da960116e8d7c60adb193a51d4c1815be6859d"), looks := true }, kinds := [], alts := [], laidByText := true, laidKinds := [.data], laidTests := true, laidLooks := .later }
def RationalCmpUptoCardSaid : Prop := Claim7.holds Tryd.pinned (.plain (OpenSpec.upto rationalCmpSpec)) rationalCmpUptoCard

/-- THE SECOND FORM's CARD OF 'cutroomlaw01.RationalOrder'. -/
def rationalOrderUptoCard : Claim7 := { stood := { row := rationalOrderUptoRow, standIns := [], harness := (true, "286f36b31cb3b6888482c0d9b2da960116e8d7c60adb193a51d4c1815be6859d"), looks := true }, kinds := [], alts := [], laidByText := true, laidKinds := [.data], laidTests := true, laidLooks := .later }
def RationalOrderUptoCardSaid : Prop := Claim7.holds Tryd.pinned (.plain (OpenSpec.upto rationalOrderSpec)) rationalOrderUptoCard

/-- THE SECOND FORM's CARD OF 'cutroomlaw01.RationalFormat'. -/
def rationalFormatUptoCard : Claim7 := { stood := { row := rationalFormatUptoRow, standIns := [], harness := (true, "286f36b31cb3b6888482c0d9b2da960116e8d7c60adb193a51d4c1815be6859d"), looks := true }, kinds := [], alts := [], laidByText := true, laidKinds := [.data, .data, .data, .sentinel, .sentinel], laidTests := true, laidLooks := .later }
def RationalFormatUptoCardSaid : Prop := Claim7.holds Tryd.pinned (.plain (OpenSpec.upto rationalFormatSpec)) rationalFormatUptoCard

/-- THE SECOND FORM's CARD OF 'cutroomlaw01.RationalParse'. -/
def rationalParseUptoCard : Claim7 := { stood := { row := rationalParseUptoRow, standIns := [], harness := (true, "286f36b31cb3b6888482c0d9b2da960116e8d7c60adb193a51d4c1815be6859d"), looks := true }, kinds := [], alts := [], laidByText := true, laidKinds := [.data, .data, .data, .sentinel, .sentinel], laidTests := true, laidLooks := .later }
def RationalParseUptoCardSaid : Prop := Claim7.holds Tryd.pinned (.plain (OpenSpec.upto rationalParseSpec)) rationalParseUptoCard
end Rows
end Go.Proofs.YtclfiaemjdflbaaDoor
