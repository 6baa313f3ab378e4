/-
  DERIVED. GIVEN WITH THE SEED: THE CARDS: each row of YtckmebfgianeoaaDoorRows.lean that lists a variable, with what it lists TIED to the program's text (the seventh form; the later family's looks); each row that meets fmt, with fmt's text TOLD by the authors' own Lean function (tested against real Go, not proved from fmt's source: count such statements apart). THE CARD IS WHAT COUNTS. Prove the row's statement (the work); the ties are given (YtckmebfgianeoaaDoorTie.lean); close each card by the builder's one call (the guide's Derived/Test/ToyasCard.lean, 'card_holds'). Laid BY PROGRAM, IN A SANDBOX (cutbox-door.mjs). By AI agents, Wed Nov 11 2026. No macro, syntax, notation, axiom, sorry.
-/
import Derived.Test.YtckmebfgianeoaaDoorRows
import GoSem.ClaimSeven
namespace Go.Proofs.YtckmebfgianeoaaDoor
namespace Rows

/-- THE TIED CARD OF 'cutroomlaw29.CaptionsCuts'. -/
def captionsCutsCard : Claim7 := { stood := { row := captionsCutsRow, standIns := [], harness := (true, "abad7efdf0acc90188f7680c93ad9f670e8dd2c728bd4ca986510cce8aafa469"), looks := false }, kinds := [], alts := [], laidByText := true, laidKinds := [.data, .data, .data], laidTests := true, laidLooks := .later }
def CaptionsCutsCardSaid : Prop := Claim7.holds Tryd.pinned (.plain (OpenSpec.ofChange captionsCutsSpec)) captionsCutsCard

/-- THE TIED CARD OF 'cutroomlaw29.CaptionsWraps'. -/
def captionsWrapsCard : Claim7 := { stood := { row := captionsWrapsRow, standIns := [], harness := (true, "abad7efdf0acc90188f7680c93ad9f670e8dd2c728bd4ca986510cce8aafa469"), looks := false }, kinds := [], alts := [], laidByText := true, laidKinds := [.data, .data, .data], laidTests := true, laidLooks := .later }
def CaptionsWrapsCardSaid : Prop := Claim7.holds Tryd.pinned (.plain (OpenSpec.ofChange captionsWrapsSpec)) captionsWrapsCard

/-- THE TIED CARD OF 'cutroomlaw29.CaptionsWrapKeeps'. -/
def captionsWrapKeepsCard : Claim7 := { stood := { row := captionsWrapKeepsRow, standIns := [], harness := (true, "abad7efdf0acc90188f7680c93ad9f670e8dd2c728bd4ca986510cce8aafa469"), looks := false }, kinds := [], alts := [], laidByText := true, laidKinds := [.data, .data, .data], laidTests := true, laidLooks := .later }
def CaptionsWrapKeepsCardSaid : Prop := Claim7.holds Tryd.pinned (.plain (OpenSpec.ofChange captionsWrapKeepsSpec)) captionsWrapKeepsCard

/-- THE TIED CARD OF 'cutroomlaw29.CaptionsOrdered'. -/
def captionsOrderedCard : Claim7 := { stood := { row := captionsOrderedRow, standIns := [], harness := (true, "abad7efdf0acc90188f7680c93ad9f670e8dd2c728bd4ca986510cce8aafa469"), looks := false }, kinds := [], alts := [], laidByText := true, laidKinds := [.data, .data, .data], laidTests := true, laidLooks := .later }
def CaptionsOrderedCardSaid : Prop := Claim7.holds Tryd.pinned (.plain (OpenSpec.ofChange captionsOrderedSpec)) captionsOrderedCard

/-- THE TIED CARD OF 'cutroomlaw29.CaptionsCutShows'. -/
def captionsCutShowsCard : Claim7 := { stood := { row := captionsCutShowsRow, standIns := [], harness := (true, "abad7efdf0acc90188f7680c93ad9f670e8dd2c728bd4ca986510cce8aafa469"), looks := false }, kinds := [], alts := [], laidByText := true, laidKinds := [.data, .data, .data], laidTests := true, laidLooks := .later }
def CaptionsCutShowsCardSaid : Prop := Claim7.holds Tryd.pinned (.plain (OpenSpec.ofChange captionsCutShowsSpec)) captionsCutShowsCard

/-- THE TIED CARD OF 'cutroomlaw29.CaptionsFormats'. -/
def captionsFormatsCard : Claim7 := { stood := { row := captionsFormatsRow, standIns := [], harness := (true, "abad7efdf0acc90188f7680c93ad9f670e8dd2c728bd4ca986510cce8aafa469"), looks := false }, kinds := [], alts := [], laidByText := true, laidKinds := [.data, .data, .data], laidTests := true, laidLooks := .later }
def CaptionsFormatsCardSaid : Prop := Claim7.holds Tryd.pinned (.plain (OpenSpec.ofChange captionsFormatsSpec)) captionsFormatsCard

/-- THE TIED CARD OF 'cutroomlaw29.CaptionsParses'. -/
def captionsParsesCard : Claim7 := { stood := { row := captionsParsesRow, standIns := [], harness := (true, "abad7efdf0acc90188f7680c93ad9f670e8dd2c728bd4ca986510cce8aafa469"), looks := false }, kinds := [], alts := [], laidByText := true, laidKinds := [.data, .data, .data], laidTests := true, laidLooks := .later }
def CaptionsParsesCardSaid : Prop := Claim7.holds Tryd.pinned (.plain (OpenSpec.ofChange captionsParsesSpec)) captionsParsesCard

/-- THE TIED CARD OF 'cutroomlaw29.CaptionsRepairs'. -/
def captionsRepairsCard : Claim7 := { stood := { row := captionsRepairsRow, standIns := [], harness := (true, "abad7efdf0acc90188f7680c93ad9f670e8dd2c728bd4ca986510cce8aafa469"), looks := false }, kinds := [], alts := [], laidByText := true, laidKinds := [.data, .data, .data], laidTests := true, laidLooks := .later }
def CaptionsRepairsCardSaid : Prop := Claim7.holds Tryd.pinned (.plain (OpenSpec.ofChange captionsRepairsSpec)) captionsRepairsCard

/-- THE TIED CARD OF 'cutroomlaw29.CaptionsGood'. -/
def captionsGoodCard : Claim7 := { stood := { row := captionsGoodRow, standIns := [], harness := (true, "abad7efdf0acc90188f7680c93ad9f670e8dd2c728bd4ca986510cce8aafa469"), looks := false }, kinds := [], alts := [], laidByText := true, laidKinds := [.data, .data, .data], laidTests := true, laidLooks := .later }
def CaptionsGoodCardSaid : Prop := Claim7.holds Tryd.pinned (.plain (OpenSpec.ofChange captionsGoodSpec)) captionsGoodCard

/-- THE TIED CARD OF 'cutroomlaw29.CaptionsRepaired'. -/
def captionsRepairedCard : Claim7 := { stood := { row := captionsRepairedRow, standIns := [], harness := (true, "abad7efdf0acc90188f7680c93ad9f670e8dd2c728bd4ca986510cce8aafa469"), looks := false }, kinds := [], alts := [], laidByText := true, laidKinds := [.data, .data, .data], laidTests := true, laidLooks := .later }
def CaptionsRepairedCardSaid : Prop := Claim7.holds Tryd.pinned (.plain (OpenSpec.ofChange captionsRepairedSpec)) captionsRepairedCard

/-- THE SECOND FORM's CARD OF 'cutroomlaw29.CaptionsCuts'. -/
def captionsCutsUptoCard : Claim7 := { stood := { row := captionsCutsUptoRow, standIns := [], harness := (true, "abad7efdf0acc90188f7680c93ad9f670e8dd2c728bd4ca986510cce8aafa469"), looks := false }, kinds := [], alts := [], laidByText := true, laidKinds := [.data, .data, .data], laidTests := true, laidLooks := .later }
def CaptionsCutsUptoCardSaid : Prop := Claim7.holds Tryd.pinned (.plain (OpenSpec.upto captionsCutsSpec)) captionsCutsUptoCard

/-- THE SECOND FORM's CARD OF 'cutroomlaw29.CaptionsWraps'. -/
def captionsWrapsUptoCard : Claim7 := { stood := { row := captionsWrapsUptoRow, standIns := [], harness := (true, "abad7efdf0acc90188f7680c93ad9f670e8dd2c728bd4ca986510cce8aafa469"), looks := false }, kinds := [], alts := [], laidByText := true, laidKinds := [.data, .data, .data], laidTests := true, laidLooks := .later }
def CaptionsWrapsUptoCardSaid : Prop := Claim7.holds Tryd.pinned (.plain (OpenSpec.upto captionsWrapsSpec)) captionsWrapsUptoCard

/-- THE SECOND FORM's CARD OF 'cutroomlaw29.CaptionsWrapKeeps'. -/
def captionsWrapKeepsUptoCard : Claim7 := { stood := { row := captionsWrapKeepsUptoRow, standIns := [], harness := (true, "abad7efdf0acc90188f7680c93ad9f670e8dd2c728bd4ca986510cce8aafa469"), looks := false }, kinds := [], alts := [], laidByText := true, laidKinds := [.data, .data, .data], laidTests := true, laidLooks := .later }
def CaptionsWrapKeepsUptoCardSaid : Prop := Claim7.holds Tryd.pinned (.plain (OpenSpec.upto captionsWrapKeepsSpec)) captionsWrapKeepsUptoCard

/-- THE SECOND FORM's CARD OF 'cutroomlaw29.CaptionsOrdered'. -/
def captionsOrderedUptoCard : Claim7 := { stood := { row := captionsOrderedUptoRow, standIns := [], harness := (true, "abad7efdf0acc90188f7680c93ad9f670e8dd2c728bd4ca986510cce8aafa469"), looks := false }, kinds := [], alts := [], laidByText := true, laidKinds := [.data, .data, .data], laidTests := true, laidLooks := .later }
def CaptionsOrderedUptoCardSaid : Prop := Claim7.holds Tryd.pinned (.plain (OpenSpec.upto captionsOrderedSpec)) captionsOrderedUptoCard

/-- THE SECOND FORM's CARD OF 'cutroomlaw29.CaptionsCutShows'. -/
def captionsCutShowsUptoCard : Claim7 := { stood := { row := captionsCutShowsUptoRow, standIns := [], harness := (true, "abad7efdf0acc90188f7680c93ad9f670e8dd2c728bd4ca986510cce8aafa469"), looks := false }, kinds := [], alts := [], laidByText := true, laidKinds := [.data, .data, .data], laidTests := true, laidLooks := .later }
def CaptionsCutShowsUptoCardSaid : Prop := Claim7.holds Tryd.pinned (.plain (OpenSpec.upto captionsCutShowsSpec)) captionsCutShowsUptoCard

/-- THE SECOND FORM's CARD OF 'cutroomlaw29.CaptionsFormats'. -/
def captionsFormatsUptoCard : Claim7 := { stood := { row := captionsFormatsUptoRow, standIns := [], harness := (true, "abad7efdf0acc90188f7680c93ad9f670e8dd2c728bd4ca986510cce8aafa469"), looks := false }, kinds := [], alts := [], laidByText := true, laidKinds := [.data, .data, .data], laidTests := true, laidLooks := .later }
def CaptionsFormatsUptoCardSaid : Prop := Claim7.holds Tryd.pinned (.plain (OpenSpec.upto captionsFormatsSpec)) captionsFormatsUptoCard

/-- THE SECOND FORM's CARD OF 'cutroomlaw29.CaptionsParses'. -/
def captionsParsesUptoCard : Claim7 := { stood := { row := captionsParsesUptoRow, standIns := [], harness := (true, "abad7efdf0acc90188f7680c93ad9f670e8dd2c728bd4ca986510cce8aafa469"), looks := false }, kinds := [], alts := [], laidByText := true, laidKinds := [.data, .data, .data], laidTests := true, laidLooks := .later }
def CaptionsParsesUptoCardSaid : Prop := Claim7.holds Tryd.pinned (.plain (OpenSpec.upto captionsParsesSpec)) captionsParsesUptoCard

/-- THE SECOND FORM's CARD OF 'cutroomlaw29.CaptionsRepairs'. -/
def captionsRepairsUptoCard : Claim7 := { stood := { row := captionsRepairsUptoRow, standIns := [], harness := (true, "abad7efdf0acc90188f7680c93ad9f670e8dd2c728bd4ca986510cce8aafa469"), looks := false }, kinds := [], alts := [], laidByText := true, laidKinds := [.data, .data, .data], laidTests := true, laidLooks := .later }
def CaptionsRepairsUptoCardSaid : Prop := Claim7.holds Tryd.pinned (.plain (OpenSpec.upto captionsRepairsSpec)) captionsRepairsUptoCard

/-- THE SECOND FORM's CARD OF 'cutroomlaw29.CaptionsGood'. -/
def captionsGoodUptoCard : Claim7 := { stood := { row := captionsGoodUptoRow, standIns := [], harness := (true, "abad7efdf0acc90188f7680c93ad9f670e8dd2c728bd4ca986510cce8aafa469"), looks := false }, kinds := [], alts := [], laidByText := true, laidKinds := [.data, .data, .data], laidTests := true, laidLooks := .later }
def CaptionsGoodUptoCardSaid : Prop := Claim7.holds Tryd.pinned (.plain (OpenSpec.upto captionsGoodSpec)) captionsGoodUptoCard

/-- THE SECOND FORM's CARD OF 'cutroomlaw29.CaptionsRepaired'. -/
def captionsRepairedUptoCard : Claim7 := { stood := { row := captionsRepairedUptoRow, standIns := [], harness := (true, "abad7efdf0acc90188f7680c93ad9f670e8dd2c728bd4ca986510cce8aafa469"), looks := false }, kinds := [], alts := [], laidByText := true, laidKinds := [.data, .data, .data], laidTests := true, laidLooks := .later }
def CaptionsRepairedUptoCardSaid : Prop := Claim7.holds Tryd.pinned (.plain (OpenSpec.upto captionsRepairedSpec)) captionsRepairedUptoCard
end Rows
end Go.Proofs.YtckmebfgianeoaaDoor
