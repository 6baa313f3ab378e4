/-
  DERIVED. GIVEN WITH THE SEED: THE CARDS: each row of YtnginfangeikpaaGreatDoorRows.lean that lists a variable, with what it lists TIED to the program's text (the seventh form; the later family's looks); each row that meets fmt, with fmt's text TOLD by the authors' own Lean function (tested against real Go, not proved from fmt's source: count such statements apart). THE CARD IS WHAT COUNTS. Prove the row's statement (the work); the ties are given (YtnginfangeikpaaGreatDoorTie.lean); close each card by the builder's one call (the guide's Derived/Test/ToyasCard.lean, 'card_holds'). Laid BY PROGRAM, IN A SANDBOX (cutbox-door.mjs). By AI agents, Wed Nov 11 2026. No macro, syntax, notation, axiom, sorry.
-/
import Derived.Test.YtnginfangeikpaaGreatDoorRows
import GoSem.ClaimSeven
namespace Go.Proofs.YtnginfangeikpaaGreatDoor
namespace Rows

/-- THE TIED CARD OF 'cutroomlaw30.EdlShows'. -/
def edlShowsCard : Claim7 := { stood := { row := edlShowsRow, standIns := [], harness := (true, "122a5b375d6dbd450617e43478c708a1d9413131a1505473583ca3cd00a5e420"), looks := false }, kinds := [], alts := [], laidByText := true, laidKinds := [.data, .data, .data], laidTests := true, laidLooks := .later }
def EdlShowsCardSaid : Prop := Claim7.holds Tryz.pinned (.plain (OpenSpec.ofChange edlShowsSpec)) edlShowsCard

/-- THE SECOND FORM's CARD OF 'cutroomlaw30.EdlShows'. -/
def edlShowsUptoCard : Claim7 := { stood := { row := edlShowsUptoRow, standIns := [], harness := (true, "122a5b375d6dbd450617e43478c708a1d9413131a1505473583ca3cd00a5e420"), looks := false }, kinds := [], alts := [], laidByText := true, laidKinds := [.data, .data, .data], laidTests := true, laidLooks := .later }
def EdlShowsUptoCardSaid : Prop := Claim7.holds Tryz.pinned (.plain (OpenSpec.upto edlShowsSpec)) edlShowsUptoCard
end Rows
end Go.Proofs.YtnginfangeikpaaGreatDoor
