/-
  DERIVED. GIVEN WITH THE SEED: THE CARDS: each row of YtgbiodnfpbhjiaaGreatDoorRows.lean that lists a variable, with what it lists TIED to the program's text (the seventh form; the later family's looks); each row that meets fmt, with fmt's text TOLD by the authors' own Lean function (tested against real Go, not proved from fmt's source: count such statements apart). THE CARD IS WHAT COUNTS. Prove the row's statement (the work); the ties are given (YtgbiodnfpbhjiaaGreatDoorTie.lean); close each card by the builder's one call (the guide's Derived/Test/ToyasCard.lean, 'card_holds'). Laid BY PROGRAM, IN A SANDBOX (cutbox-door.mjs). By AI agents, Wed Nov 11 2026. No macro, syntax, notation, axiom, sorry.
-/
import Derived.Test.YtgbiodnfpbhjiaaGreatDoorRows
import GoSem.ClaimSeven
namespace Go.Proofs.YtgbiodnfpbhjiaaGreatDoor
namespace Rows

/-- THE TIED CARD OF 'cutroomlaw30.EdlValid'. -/
def edlValidCard : Claim7 := { stood := { row := edlValidRow, standIns := [], harness := (true, "37baa4cb2387c2d9fc9beafd219094c12644ed458a2e9541e0f8d911d9ee0100"), looks := true }, kinds := [], alts := [], laidByText := true, laidKinds := [.data, .data, .data], laidTests := true, laidLooks := .later }
def EdlValidCardSaid : Prop := Claim7.holds Tryz.pinned (.plain (OpenSpec.ofChange edlValidSpec)) edlValidCard

/-- THE TIED CARD OF 'cutroomlaw30.EdlTracks'. -/
def edlTracksCard : Claim7 := { stood := { row := edlTracksRow, standIns := [], harness := (true, "37baa4cb2387c2d9fc9beafd219094c12644ed458a2e9541e0f8d911d9ee0100"), looks := true }, kinds := [], alts := [], laidByText := true, laidKinds := [.data, .data, .data], laidTests := true, laidLooks := .later }
def EdlTracksCardSaid : Prop := Claim7.holds Tryz.pinned (.plain (OpenSpec.ofChange edlTracksSpec)) edlTracksCard

/-- THE TIED CARD OF 'cutroomlaw30.EdlLists'. -/
def edlListsCard : Claim7 := { stood := { row := edlListsRow, standIns := [], harness := (true, "37baa4cb2387c2d9fc9beafd219094c12644ed458a2e9541e0f8d911d9ee0100"), looks := true }, kinds := [], alts := [], laidByText := true, laidKinds := [.data, .data, .data], laidTests := true, laidLooks := .later }
def EdlListsCardSaid : Prop := Claim7.holds Tryz.pinned (.plain (OpenSpec.ofChange edlListsSpec)) edlListsCard

/-- THE TIED CARD OF 'cutroomlaw30.EdlInverse'. -/
def edlInverseCard : Claim7 := { stood := { row := edlInverseRow, standIns := [], harness := (true, "37baa4cb2387c2d9fc9beafd219094c12644ed458a2e9541e0f8d911d9ee0100"), looks := true }, kinds := [], alts := [], laidByText := true, laidKinds := [.data, .data, .data], laidTests := true, laidLooks := .later }
def EdlInverseCardSaid : Prop := Claim7.holds Tryz.pinned (.plain (OpenSpec.ofChange edlInverseSpec)) edlInverseCard

/-- THE TIED CARD OF 'cutroomlaw30.EdlLines'. -/
def edlLinesCard : Claim7 := { stood := { row := edlLinesRow, standIns := [], harness := (true, "37baa4cb2387c2d9fc9beafd219094c12644ed458a2e9541e0f8d911d9ee0100"), looks := true }, kinds := [], alts := [], laidByText := true, laidKinds := [.data, .data, .data], laidTests := true, laidLooks := .later }
def EdlLinesCardSaid : Prop := Claim7.holds Tryz.pinned (.plain (OpenSpec.ofChange edlLinesSpec)) edlLinesCard

/-- THE TIED CARD OF 'cutroomlaw30.EdlBack'. -/
def edlBackCard : Claim7 := { stood := { row := edlBackRow, standIns := [], harness := (true, "37baa4cb2387c2d9fc9beafd219094c12644ed458a2e9541e0f8d911d9ee0100"), looks := true }, kinds := [], alts := [], laidByText := true, laidKinds := [.data, .data, .data], laidTests := true, laidLooks := .later }
def EdlBackCardSaid : Prop := Claim7.holds Tryz.pinned (.plain (OpenSpec.ofChange edlBackSpec)) edlBackCard

/-- THE TIED CARD OF 'cutroomlaw30.EdlFormats'. -/
def edlFormatsCard : Claim7 := { stood := { row := edlFormatsRow, standIns := [], harness := (true, "37baa4cb2387c2d9fc9beafd219094c12644ed458a2e9541e0f8d911d9ee0100"), looks := true }, kinds := [], alts := [], laidByText := true, laidKinds := [.data, .data, .data, .data, .sentinel, .sentinel, .pinned], laidTests := true, laidLooks := .later }
def EdlFormatsCardSaid : Prop := Claim7.holds Tryz.pinned (.plain (OpenSpec.ofChange edlFormatsSpec)) edlFormatsCard

/-- THE TIED CARD OF 'cutroomlaw30.EdlParses'. -/
def edlParsesCard : Claim7 := { stood := { row := edlParsesRow, standIns := [], harness := (true, "37baa4cb2387c2d9fc9beafd219094c12644ed458a2e9541e0f8d911d9ee0100"), looks := true }, kinds := [], alts := [], laidByText := true, laidKinds := [.data, .data, .data, .data, .sentinel, .sentinel, .pinned], laidTests := true, laidLooks := .later }
def EdlParsesCardSaid : Prop := Claim7.holds Tryz.pinned (.plain (OpenSpec.ofChange edlParsesSpec)) edlParsesCard

/-- THE TIED CARD OF 'cutroomlaw30.EdlShows'. -/
def edlShowsCard : Claim7 := { stood := { row := edlShowsRow, standIns := [], harness := (true, "37baa4cb2387c2d9fc9beafd219094c12644ed458a2e9541e0f8d911d9ee0100"), looks := true }, kinds := [], alts := [], laidByText := true, laidKinds := [.data, .data, .data], laidTests := true, laidLooks := .later }
def EdlShowsCardSaid : Prop := Claim7.holds Tryz.pinned (.plain (OpenSpec.ofChange edlShowsSpec)) edlShowsCard

/-- THE SECOND FORM's CARD OF 'cutroomlaw30.EdlValid'. -/
def edlValidUptoCard : Claim7 := { stood := { row := edlValidUptoRow, standIns := [], harness := (true, "37baa4cb2387c2d9fc9beafd219094c12644ed458a2e9541e0f8d911d9ee0100"), looks := true }, kinds := [], alts := [], laidByText := true, laidKinds := [.data, .data, .data], laidTests := true, laidLooks := .later }
def EdlValidUptoCardSaid : Prop := Claim7.holds Tryz.pinned (.plain (OpenSpec.upto edlValidSpec)) edlValidUptoCard

/-- THE SECOND FORM's CARD OF 'cutroomlaw30.EdlTracks'. -/
def edlTracksUptoCard : Claim7 := { stood := { row := edlTracksUptoRow, standIns := [], harness := (true, "37baa4cb2387c2d9fc9beafd219094c12644ed458a2e9541e0f8d911d9ee0100"), looks := true }, kinds := [], alts := [], laidByText := true, laidKinds := [.data, .data, .data], laidTests := true, laidLooks := .later }
def EdlTracksUptoCardSaid : Prop := Claim7.holds Tryz.pinned (.plain (OpenSpec.upto edlTracksSpec)) edlTracksUptoCard

/-- THE SECOND FORM's CARD OF 'cutroomlaw30.EdlLists'. -/
def edlListsUptoCard : Claim7 := { stood := { row := edlListsUptoRow, standIns := [], harness := (true, "37baa4cb2387c2d9fc9beafd219094c12644ed458a2e9541e0f8d911d9ee0100"), looks := true }, kinds := [], alts := [], laidByText := true, laidKinds := [.data, .data, .data], laidTests := true, laidLooks := .later }
def EdlListsUptoCardSaid : Prop := Claim7.holds Tryz.pinned (.plain (OpenSpec.upto edlListsSpec)) edlListsUptoCard

/-- THE SECOND FORM's CARD OF 'cutroomlaw30.EdlInverse'. -/
def edlInverseUptoCard : Claim7 := { stood := { row := edlInverseUptoRow, standIns := [], harness := (true, "37baa4cb2387c2d9fc9beafd219094c12644ed458a2e9541e0f8d911d9ee0100"), looks := true }, kinds := [], alts := [], laidByText := true, laidKinds := [.data, .data, .data], laidTests := true, laidLooks := .later }
def EdlInverseUptoCardSaid : Prop := Claim7.holds Tryz.pinned (.plain (OpenSpec.upto edlInverseSpec)) edlInverseUptoCard

/-- THE SECOND FORM's CARD OF 'cutroomlaw30.EdlLines'. -/
def edlLinesUptoCard : Claim7 := { stood := { row := edlLinesUptoRow, standIns := [], harness := (true, "37baa4cb2387c2d9fc9beafd219094c12644ed458a2e9541e0f8d911d9ee0100"), looks := true }, kinds := [], alts := [], laidByText := true, laidKinds := [.data, .data, .data], laidTests := true, laidLooks := .later }
def EdlLinesUptoCardSaid : Prop := Claim7.holds Tryz.pinned (.plain (OpenSpec.upto edlLinesSpec)) edlLinesUptoCard

/-- THE SECOND FORM's CARD OF 'cutroomlaw30.EdlBack'. -/
def edlBackUptoCard : Claim7 := { stood := { row := edlBackUptoRow, standIns := [], harness := (true, "37baa4cb2387c2d9fc9beafd219094c12644ed458a2e9541e0f8d911d9ee0100"), looks := true }, kinds := [], alts := [], laidByText := true, laidKinds := [.data, .data, .data], laidTests := true, laidLooks := .later }
def EdlBackUptoCardSaid : Prop := Claim7.holds Tryz.pinned (.plain (OpenSpec.upto edlBackSpec)) edlBackUptoCard

/-- THE SECOND FORM's CARD OF 'cutroomlaw30.EdlFormats'. -/
def edlFormatsUptoCard : Claim7 := { stood := { row := edlFormatsUptoRow, standIns := [], harness := (true, "37baa4cb2387c2d9fc9beafd219094c12644ed458a2e9541e0f8d911d9ee0100"), looks := true }, kinds := [], alts := [], laidByText := true, laidKinds := [.data, .data, .data, .data, .sentinel, .sentinel, .pinned], laidTests := true, laidLooks := .later }
def EdlFormatsUptoCardSaid : Prop := Claim7.holds Tryz.pinned (.plain (OpenSpec.upto edlFormatsSpec)) edlFormatsUptoCard

/-- THE SECOND FORM's CARD OF 'cutroomlaw30.EdlParses'. -/
def edlParsesUptoCard : Claim7 := { stood := { row := edlParsesUptoRow, standIns := [], harness := (true, "37baa4cb2387c2d9fc9beafd219094c12644ed458a2e9541e0f8d911d9ee0100"), looks := true }, kinds := [], alts := [], laidByText := true, laidKinds := [.data, .data, .data, .data, .sentinel, .sentinel, .pinned], laidTests := true, laidLooks := .later }
def EdlParsesUptoCardSaid : Prop := Claim7.holds Tryz.pinned (.plain (OpenSpec.upto edlParsesSpec)) edlParsesUptoCard

/-- THE SECOND FORM's CARD OF 'cutroomlaw30.EdlShows'. -/
def edlShowsUptoCard : Claim7 := { stood := { row := edlShowsUptoRow, standIns := [], harness := (true, "37baa4cb2387c2d9fc9beafd219094c12644ed458a2e9541e0f8d911d9ee0100"), looks := true }, kinds := [], alts := [], laidByText := true, laidKinds := [.data, .data, .data], laidTests := true, laidLooks := .later }
def EdlShowsUptoCardSaid : Prop := Claim7.holds Tryz.pinned (.plain (OpenSpec.upto edlShowsSpec)) edlShowsUptoCard
end Rows
end Go.Proofs.YtgbiodnfpbhjiaaGreatDoor
