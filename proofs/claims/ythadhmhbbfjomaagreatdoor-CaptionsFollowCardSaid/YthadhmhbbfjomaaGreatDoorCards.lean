/-
  DERIVED. GIVEN WITH THE SEED: THE CARDS: each row of YthadhmhbbfjomaaGreatDoorRows.lean that lists a variable, with what it lists TIED to the program's text (the seventh form; the later family's looks); each row that meets fmt, with fmt's text TOLD by the authors' own Lean function (tested against real Go, not proved from fmt's source: count such statements apart). THE CARD IS WHAT COUNTS. Prove the row's statement (the work); the ties are given (YthadhmhbbfjomaaGreatDoorTie.lean); close each card by the builder's one call (the guide's Derived/Test/ToyasCard.lean, 'card_holds'). Laid BY PROGRAM, IN A SANDBOX (cutbox-door.mjs). By AI agents, Wed Nov 11 2026. No macro, syntax, notation, axiom, sorry.
-/
import Derived.Test.YthadhmhbbfjomaaGreatDoorRows
import GoSem.ClaimSeven
namespace Go.Proofs.YthadhmhbbfjomaaGreatDoor
namespace Rows

/-- THE TIED CARD OF 'cutroomlaw29.CaptionsFollow'. -/
def captionsFollowCard : Claim7 := { stood := { row := captionsFollowRow, standIns := [], harness := (true, "485209d94d581712a74a5a10d9b9de24745e94a1a1fe6ff6eab7b8bd1a5b7cd4"), looks := false }, kinds := [], alts := [], laidByText := true, laidKinds := [.data, .data, .data], laidTests := true, laidLooks := .later }
def CaptionsFollowCardSaid : Prop := Claim7.holds Tryz.pinned (.plain (OpenSpec.ofChange captionsFollowSpec)) captionsFollowCard

/-- THE SECOND FORM's CARD OF 'cutroomlaw29.CaptionsFollow'. -/
def captionsFollowUptoCard : Claim7 := { stood := { row := captionsFollowUptoRow, standIns := [], harness := (true, "485209d94d581712a74a5a10d9b9de24745e94a1a1fe6ff6eab7b8bd1a5b7cd4"), looks := false }, kinds := [], alts := [], laidByText := true, laidKinds := [.data, .data, .data], laidTests := true, laidLooks := .later }
def CaptionsFollowUptoCardSaid : Prop := Claim7.holds Tryz.pinned (.plain (OpenSpec.upto captionsFollowSpec)) captionsFollowUptoCard
end Rows
end Go.Proofs.YthadhmhbbfjomaaGreatDoor
