/-
  NARROWER THAN 'FOR EVERY INPUT', by the rows' own cells (each row's printed sentence says how): CaptionsCuts: laid · CaptionsWraps: laid · CaptionsWrapKeeps: laid · CaptionsOrdered: laid · CaptionsCutShows: laid · CaptionsFormats: laid · CaptionsParses: laid · CaptionsRepairs: laid · CaptionsGood: laid · CaptionsRepaired: laid.
  DERIVED. THE GIVEN ROWS OF THIS SEAT. 10 by the template 'for every input the law returns true; each argument reads behind the call as it read before'; 0 by the template 'total and deterministic' (their statements: YtckmebfgianeoaaDoorTotals.lean).
  GIVEN WITH THE SEED: the statements are not yours to turn. If you find one false, say at which input.
  Laid BY PROGRAM, IN A SANDBOX (cutbox-rows.mjs): the forced cells as the released guide's own fill.sh prints them over the translation 2734319354f8f519… (all of the seat's roots in one cut). By AI agents, Wed Nov 11 2026. No macro, syntax, notation, axiom, sorry.
-/
import Derived.Test.YtckmebfgianeoaaDoorChecked
import GoSem.Claim
import GoSem.ClaimJoined
import GoSem.ClaimMapViews
import Derived.JoinedTies
import Derived.KernelRfl
namespace Go.Proofs.YtckmebfgianeoaaDoor
/- THE CELL 'sum', in the pinned program and in every row, IS THE sha256 OF THE DUMP (.gsa) THAT YtckmebfgianeoaaDoorProg.lean LOADS. Nothing in Lean hashes anything: it is a label: what it is worth is what the hold of that sum in a sandbox is worth. -/
noncomputable def Tryd.pinned : Pinned := { name := "ytckmebfgianeoaadoor", sum := "2734319354f8f5196695fb68ac6336a815af3656eeca4367a939eb1648f4d17b", checked := Tryd.checked }
namespace Rows
def none {H : Type} : Left H := { results := [], args := [] }

/- WHAT THE LISTED PACKAGE-LEVEL VARIABLES READ AS WHEN THE CALL BEGINS. Each datum BY PROGRAM (the guide's laid-datum.mjs) off the statement by which the dump's own 'gosem.cut.vars' lays the variable. In a bare row this is a premise. The card (YtckmebfgianeoaaDoorCards.lean) ties it to the program's text. -/
def laid_math_bits_deBruijn32tab {H : Type} : DataW H := .agg [.lit (.int .u8 0), .lit (.int .u8 1), .lit (.int .u8 28), .lit (.int .u8 2), .lit (.int .u8 29), .lit (.int .u8 14), .lit (.int .u8 24), .lit (.int .u8 3), .lit (.int .u8 30), .lit (.int .u8 22), .lit (.int .u8 20), .lit (.int .u8 15), .lit (.int .u8 25), .lit (.int .u8 17), .lit (.int .u8 4), .lit (.int .u8 8), .lit (.int .u8 31), .lit (.int .u8 27), .lit (.int .u8 13), .lit (.int .u8 23), .lit (.int .u8 21), .lit (.int .u8 19), .lit (.int .u8 16), .lit (.int .u8 7), .lit (.int .u8 26), .lit (.int .u8 12), .lit (.int .u8 18), .lit (.int .u8 6), .lit (.int .u8 11), .lit (.int .u8 5), .lit (.int .u8 10), .lit (.int .u8 9)]
def laid_math_bits_deBruijn64tab {H : Type} : DataW H := .agg [.lit (.int .u8 0), .lit (.int .u8 1), .lit (.int .u8 56), .lit (.int .u8 2), .lit (.int .u8 57), .lit (.int .u8 49), .lit (.int .u8 28), .lit (.int .u8 3), .lit (.int .u8 61), .lit (.int .u8 58), .lit (.int .u8 42), .lit (.int .u8 50), .lit (.int .u8 38), .lit (.int .u8 29), .lit (.int .u8 17), .lit (.int .u8 4), .lit (.int .u8 62), .lit (.int .u8 47), .lit (.int .u8 59), .lit (.int .u8 36), .lit (.int .u8 45), .lit (.int .u8 43), .lit (.int .u8 51), .lit (.int .u8 22), .lit (.int .u8 53), .lit (.int .u8 39), .lit (.int .u8 33), .lit (.int .u8 30), .lit (.int .u8 24), .lit (.int .u8 18), .lit (.int .u8 12), .lit (.int .u8 5), .lit (.int .u8 63), .lit (.int .u8 55), .lit (.int .u8 48), .lit (.int .u8 27), .lit (.int .u8 60), .lit (.int .u8 41), .lit (.int .u8 37), .lit (.int .u8 16), .lit (.int .u8 46), .lit (.int .u8 35), .lit (.int .u8 44), .lit (.int .u8 21), .lit (.int .u8 52), .lit (.int .u8 32), .lit (.int .u8 23), .lit (.int .u8 11), .lit (.int .u8 54), .lit (.int .u8 26), .lit (.int .u8 40), .lit (.int .u8 15), .lit (.int .u8 34), .lit (.int .u8 20), .lit (.int .u8 31), .lit (.int .u8 10), .lit (.int .u8 25), .lit (.int .u8 14), .lit (.int .u8 19), .lit (.int .u8 9), .lit (.int .u8 13), .lit (.int .u8 8), .lit (.int .u8 7), .lit (.int .u8 6)]
def laid_internal_strconv_uint64pow10 {H : Type} : DataW H := .agg [.lit (.int .u64 1), .lit (.int .u64 10), .lit (.int .u64 100), .lit (.int .u64 1000), .lit (.int .u64 10000), .lit (.int .u64 100000), .lit (.int .u64 1000000), .lit (.int .u64 10000000), .lit (.int .u64 100000000), .lit (.int .u64 1000000000), .lit (.int .u64 10000000000), .lit (.int .u64 100000000000), .lit (.int .u64 1000000000000), .lit (.int .u64 10000000000000), .lit (.int .u64 100000000000000), .lit (.int .u64 1000000000000000), .lit (.int .u64 10000000000000000), .lit (.int .u64 100000000000000000), .lit (.int .u64 1000000000000000000), .lit (.int .u64 10000000000000000000)]

/-- 'cutroomlaw29.CaptionsCuts': WHATEVER THE INPUT: true; the input reads as it did. -/
def captionsCutsSpec : ChangeSpec := { name := "captionsCuts", fn := fun _ => fun
  | [d1, d2, d3, d4] => { results := [.lit (.bool true)], args := [d1, d2, d3, d4] }
  | _ => none }
def captionsCutsRow : OpenClaim := { program := "ytckmebfgianeoaadoor", sum := "2734319354f8f5196695fb68ac6336a815af3656eeca4367a939eb1648f4d17b", func := "cutroom/cutroomlaw29.CaptionsCuts", spec := "captionsCuts", inPlace := ["math/bits.Add64", "math/bits.Sub64", "internal/abi.NoEscape", "internal/bytealg.MakeNoZero"], unfollowed := true, recurses := true, named := ["math/bits.divideError", "math/bits.overflowError", "internal/strconv.uint64pow10", "math/bits.deBruijn32tab", "math/bits.deBruijn64tab"], apart := false, laid := [("math/bits.deBruijn32tab", laid_math_bits_deBruijn32tab), ("math/bits.deBruijn64tab", laid_math_bits_deBruijn64tab), ("internal/strconv.uint64pow10", laid_internal_strconv_uint64pow10)] }
def CaptionsCutsSaid : Prop := captionsCutsRow.holds Tryd.pinned (OpenSpec.ofChange captionsCutsSpec)

/-- ITS FALSE NEIGHBOUR: 'it returns false'. Refute it at one input. -/
def captionsCutsWrong : ChangeSpec := { name := "captionsCuts", fn := fun _ => fun
  | [d1, d2, d3, d4] => { results := [.lit (.bool false)], args := [d1, d2, d3, d4] }
  | _ => none }
def CaptionsCutsWrongFalsely : Prop := captionsCutsRow.holds Tryd.pinned (OpenSpec.ofChange captionsCutsWrong)

/-- 'cutroomlaw29.CaptionsWraps': WHATEVER THE INPUT: true; the input reads as it did. -/
def captionsWrapsSpec : ChangeSpec := { name := "captionsWraps", fn := fun _ => fun
  | [d1, d2] => { results := [.lit (.bool true)], args := [d1, d2] }
  | _ => none }
def captionsWrapsRow : OpenClaim := { program := "ytckmebfgianeoaadoor", sum := "2734319354f8f5196695fb68ac6336a815af3656eeca4367a939eb1648f4d17b", func := "cutroom/cutroomlaw29.CaptionsWraps", spec := "captionsWraps", inPlace := ["internal/abi.NoEscape", "math/bits.Add64", "math/bits.Sub64", "internal/bytealg.MakeNoZero"], unfollowed := true, recurses := true, named := ["math/bits.divideError", "math/bits.overflowError", "internal/strconv.uint64pow10", "math/bits.deBruijn32tab", "math/bits.deBruijn64tab"], apart := false, laid := [("math/bits.deBruijn32tab", laid_math_bits_deBruijn32tab), ("math/bits.deBruijn64tab", laid_math_bits_deBruijn64tab), ("internal/strconv.uint64pow10", laid_internal_strconv_uint64pow10)] }
def CaptionsWrapsSaid : Prop := captionsWrapsRow.holds Tryd.pinned (OpenSpec.ofChange captionsWrapsSpec)

/-- ITS FALSE NEIGHBOUR: 'it returns false'. Refute it at one input. -/
def captionsWrapsWrong : ChangeSpec := { name := "captionsWraps", fn := fun _ => fun
  | [d1, d2] => { results := [.lit (.bool false)], args := [d1, d2] }
  | _ => none }
def CaptionsWrapsWrongFalsely : Prop := captionsWrapsRow.holds Tryd.pinned (OpenSpec.ofChange captionsWrapsWrong)

/-- 'cutroomlaw29.CaptionsWrapKeeps': WHATEVER THE INPUT: true; the input reads as it did. -/
def captionsWrapKeepsSpec : ChangeSpec := { name := "captionsWrapKeeps", fn := fun _ => fun
  | [d1, d2] => { results := [.lit (.bool true)], args := [d1, d2] }
  | _ => none }
def captionsWrapKeepsRow : OpenClaim := { program := "ytckmebfgianeoaadoor", sum := "2734319354f8f5196695fb68ac6336a815af3656eeca4367a939eb1648f4d17b", func := "cutroom/cutroomlaw29.CaptionsWrapKeeps", spec := "captionsWrapKeeps", inPlace := ["internal/abi.NoEscape", "math/bits.Add64", "math/bits.Sub64", "internal/bytealg.MakeNoZero"], unfollowed := true, recurses := true, named := ["math/bits.divideError", "math/bits.overflowError", "internal/strconv.uint64pow10", "math/bits.deBruijn32tab", "math/bits.deBruijn64tab"], apart := false, laid := [("math/bits.deBruijn32tab", laid_math_bits_deBruijn32tab), ("math/bits.deBruijn64tab", laid_math_bits_deBruijn64tab), ("internal/strconv.uint64pow10", laid_internal_strconv_uint64pow10)] }
def CaptionsWrapKeepsSaid : Prop := captionsWrapKeepsRow.holds Tryd.pinned (OpenSpec.ofChange captionsWrapKeepsSpec)

/-- ITS FALSE NEIGHBOUR: 'it returns false'. Refute it at one input. -/
def captionsWrapKeepsWrong : ChangeSpec := { name := "captionsWrapKeeps", fn := fun _ => fun
  | [d1, d2] => { results := [.lit (.bool false)], args := [d1, d2] }
  | _ => none }
def CaptionsWrapKeepsWrongFalsely : Prop := captionsWrapKeepsRow.holds Tryd.pinned (OpenSpec.ofChange captionsWrapKeepsWrong)

/-- 'cutroomlaw29.CaptionsOrdered': WHATEVER THE INPUT: true; the input reads as it did. -/
def captionsOrderedSpec : ChangeSpec := { name := "captionsOrdered", fn := fun _ => fun
  | [d1, d2, d3] => { results := [.lit (.bool true)], args := [d1, d2, d3] }
  | _ => none }
def captionsOrderedRow : OpenClaim := { program := "ytckmebfgianeoaadoor", sum := "2734319354f8f5196695fb68ac6336a815af3656eeca4367a939eb1648f4d17b", func := "cutroom/cutroomlaw29.CaptionsOrdered", spec := "captionsOrdered", inPlace := ["math/bits.Add64", "math/bits.Sub64", "internal/abi.NoEscape", "internal/bytealg.MakeNoZero"], unfollowed := true, recurses := true, named := ["math/bits.divideError", "math/bits.overflowError", "internal/strconv.uint64pow10", "math/bits.deBruijn32tab", "math/bits.deBruijn64tab"], apart := false, laid := [("math/bits.deBruijn32tab", laid_math_bits_deBruijn32tab), ("math/bits.deBruijn64tab", laid_math_bits_deBruijn64tab), ("internal/strconv.uint64pow10", laid_internal_strconv_uint64pow10)] }
def CaptionsOrderedSaid : Prop := captionsOrderedRow.holds Tryd.pinned (OpenSpec.ofChange captionsOrderedSpec)

/-- ITS FALSE NEIGHBOUR: 'it returns false'. Refute it at one input. -/
def captionsOrderedWrong : ChangeSpec := { name := "captionsOrdered", fn := fun _ => fun
  | [d1, d2, d3] => { results := [.lit (.bool false)], args := [d1, d2, d3] }
  | _ => none }
def CaptionsOrderedWrongFalsely : Prop := captionsOrderedRow.holds Tryd.pinned (OpenSpec.ofChange captionsOrderedWrong)

/-- 'cutroomlaw29.CaptionsCutShows': WHATEVER THE INPUT: true; the input reads as it did. -/
def captionsCutShowsSpec : ChangeSpec := { name := "captionsCutShows", fn := fun _ => fun
  | [d1, d2, d3] => { results := [.lit (.bool true)], args := [d1, d2, d3] }
  | _ => none }
def captionsCutShowsRow : OpenClaim := { program := "ytckmebfgianeoaadoor", sum := "2734319354f8f5196695fb68ac6336a815af3656eeca4367a939eb1648f4d17b", func := "cutroom/cutroomlaw29.CaptionsCutShows", spec := "captionsCutShows", inPlace := ["math/bits.Add64", "math/bits.Sub64", "internal/abi.NoEscape", "internal/bytealg.MakeNoZero"], unfollowed := true, recurses := true, named := ["math/bits.divideError", "math/bits.overflowError", "internal/strconv.uint64pow10", "math/bits.deBruijn32tab", "math/bits.deBruijn64tab"], apart := false, laid := [("math/bits.deBruijn32tab", laid_math_bits_deBruijn32tab), ("math/bits.deBruijn64tab", laid_math_bits_deBruijn64tab), ("internal/strconv.uint64pow10", laid_internal_strconv_uint64pow10)] }
def CaptionsCutShowsSaid : Prop := captionsCutShowsRow.holds Tryd.pinned (OpenSpec.ofChange captionsCutShowsSpec)

/-- ITS FALSE NEIGHBOUR: 'it returns false'. Refute it at one input. -/
def captionsCutShowsWrong : ChangeSpec := { name := "captionsCutShows", fn := fun _ => fun
  | [d1, d2, d3] => { results := [.lit (.bool false)], args := [d1, d2, d3] }
  | _ => none }
def CaptionsCutShowsWrongFalsely : Prop := captionsCutShowsRow.holds Tryd.pinned (OpenSpec.ofChange captionsCutShowsWrong)

/-- 'cutroomlaw29.CaptionsFormats': WHATEVER THE INPUT: true; the input reads as it did. -/
def captionsFormatsSpec : ChangeSpec := { name := "captionsFormats", fn := fun _ => fun
  | [d1, d2, d3, d4] => { results := [.lit (.bool true)], args := [d1, d2, d3, d4] }
  | _ => none }
def captionsFormatsRow : OpenClaim := { program := "ytckmebfgianeoaadoor", sum := "2734319354f8f5196695fb68ac6336a815af3656eeca4367a939eb1648f4d17b", func := "cutroom/cutroomlaw29.CaptionsFormats", spec := "captionsFormats", inPlace := ["math/bits.Add64", "math/bits.Sub64", "internal/abi.NoEscape", "internal/bytealg.MakeNoZero", "internal/bytealg.IndexByteString", "internal/bytealg.IndexString"], unfollowed := true, recurses := true, named := ["math/bits.divideError", "math/bits.overflowError", "internal/strconv.uint64pow10", "math/bits.deBruijn32tab", "math/bits.deBruijn64tab", "internal/bytealg.MaxLen"], apart := false, laid := [("math/bits.deBruijn32tab", laid_math_bits_deBruijn32tab), ("math/bits.deBruijn64tab", laid_math_bits_deBruijn64tab), ("internal/strconv.uint64pow10", laid_internal_strconv_uint64pow10)] }
def CaptionsFormatsSaid : Prop := captionsFormatsRow.holds Tryd.pinned (OpenSpec.ofChange captionsFormatsSpec)

/-- ITS FALSE NEIGHBOUR: 'it returns false'. Refute it at one input. -/
def captionsFormatsWrong : ChangeSpec := { name := "captionsFormats", fn := fun _ => fun
  | [d1, d2, d3, d4] => { results := [.lit (.bool false)], args := [d1, d2, d3, d4] }
  | _ => none }
def CaptionsFormatsWrongFalsely : Prop := captionsFormatsRow.holds Tryd.pinned (OpenSpec.ofChange captionsFormatsWrong)

/-- 'cutroomlaw29.CaptionsParses': WHATEVER THE INPUT: true; the input reads as it did. -/
def captionsParsesSpec : ChangeSpec := { name := "captionsParses", fn := fun _ => fun
  | [d1, d2, d3, d4, d5] => { results := [.lit (.bool true)], args := [d1, d2, d3, d4, d5] }
  | _ => none }
def captionsParsesRow : OpenClaim := { program := "ytckmebfgianeoaadoor", sum := "2734319354f8f5196695fb68ac6336a815af3656eeca4367a939eb1648f4d17b", func := "cutroom/cutroomlaw29.CaptionsParses", spec := "captionsParses", inPlace := ["math/bits.Add64", "math/bits.Sub64", "internal/abi.NoEscape", "internal/bytealg.MakeNoZero", "internal/bytealg.IndexByteString", "internal/bytealg.IndexString"], unfollowed := true, recurses := true, named := ["math/bits.divideError", "math/bits.overflowError", "internal/strconv.uint64pow10", "math/bits.deBruijn32tab", "math/bits.deBruijn64tab", "internal/bytealg.MaxLen"], apart := false, laid := [("math/bits.deBruijn32tab", laid_math_bits_deBruijn32tab), ("math/bits.deBruijn64tab", laid_math_bits_deBruijn64tab), ("internal/strconv.uint64pow10", laid_internal_strconv_uint64pow10)] }
def CaptionsParsesSaid : Prop := captionsParsesRow.holds Tryd.pinned (OpenSpec.ofChange captionsParsesSpec)

/-- ITS FALSE NEIGHBOUR: 'it returns false'. Refute it at one input. -/
def captionsParsesWrong : ChangeSpec := { name := "captionsParses", fn := fun _ => fun
  | [d1, d2, d3, d4, d5] => { results := [.lit (.bool false)], args := [d1, d2, d3, d4, d5] }
  | _ => none }
def CaptionsParsesWrongFalsely : Prop := captionsParsesRow.holds Tryd.pinned (OpenSpec.ofChange captionsParsesWrong)

/-- 'cutroomlaw29.CaptionsRepairs': WHATEVER THE INPUT: true; the input reads as it did. -/
def captionsRepairsSpec : ChangeSpec := { name := "captionsRepairs", fn := fun _ => fun
  | [d1, d2, d3, d4] => { results := [.lit (.bool true)], args := [d1, d2, d3, d4] }
  | _ => none }
def captionsRepairsRow : OpenClaim := { program := "ytckmebfgianeoaadoor", sum := "2734319354f8f5196695fb68ac6336a815af3656eeca4367a939eb1648f4d17b", func := "cutroom/cutroomlaw29.CaptionsRepairs", spec := "captionsRepairs", inPlace := ["internal/abi.NoEscape", "math/bits.Add64", "math/bits.Sub64", "internal/bytealg.MakeNoZero"], unfollowed := true, recurses := true, named := ["math/bits.divideError", "math/bits.overflowError", "internal/strconv.uint64pow10", "math/bits.deBruijn32tab", "math/bits.deBruijn64tab"], apart := false, laid := [("math/bits.deBruijn32tab", laid_math_bits_deBruijn32tab), ("math/bits.deBruijn64tab", laid_math_bits_deBruijn64tab), ("internal/strconv.uint64pow10", laid_internal_strconv_uint64pow10)] }
def CaptionsRepairsSaid : Prop := captionsRepairsRow.holds Tryd.pinned (OpenSpec.ofChange captionsRepairsSpec)

/-- ITS FALSE NEIGHBOUR: 'it returns false'. Refute it at one input. -/
def captionsRepairsWrong : ChangeSpec := { name := "captionsRepairs", fn := fun _ => fun
  | [d1, d2, d3, d4] => { results := [.lit (.bool false)], args := [d1, d2, d3, d4] }
  | _ => none }
def CaptionsRepairsWrongFalsely : Prop := captionsRepairsRow.holds Tryd.pinned (OpenSpec.ofChange captionsRepairsWrong)

/-- 'cutroomlaw29.CaptionsGood': WHATEVER THE INPUT: true; the input reads as it did. -/
def captionsGoodSpec : ChangeSpec := { name := "captionsGood", fn := fun _ => fun
  | [d1, d2] => { results := [.lit (.bool true)], args := [d1, d2] }
  | _ => none }
def captionsGoodRow : OpenClaim := { program := "ytckmebfgianeoaadoor", sum := "2734319354f8f5196695fb68ac6336a815af3656eeca4367a939eb1648f4d17b", func := "cutroom/cutroomlaw29.CaptionsGood", spec := "captionsGood", inPlace := ["internal/abi.NoEscape", "math/bits.Add64", "math/bits.Sub64", "internal/bytealg.MakeNoZero"], unfollowed := true, recurses := true, named := ["math/bits.divideError", "math/bits.overflowError", "internal/strconv.uint64pow10", "math/bits.deBruijn32tab", "math/bits.deBruijn64tab"], apart := false, laid := [("math/bits.deBruijn32tab", laid_math_bits_deBruijn32tab), ("math/bits.deBruijn64tab", laid_math_bits_deBruijn64tab), ("internal/strconv.uint64pow10", laid_internal_strconv_uint64pow10)] }
def CaptionsGoodSaid : Prop := captionsGoodRow.holds Tryd.pinned (OpenSpec.ofChange captionsGoodSpec)

/-- ITS FALSE NEIGHBOUR: 'it returns false'. Refute it at one input. -/
def captionsGoodWrong : ChangeSpec := { name := "captionsGood", fn := fun _ => fun
  | [d1, d2] => { results := [.lit (.bool false)], args := [d1, d2] }
  | _ => none }
def CaptionsGoodWrongFalsely : Prop := captionsGoodRow.holds Tryd.pinned (OpenSpec.ofChange captionsGoodWrong)

/-- 'cutroomlaw29.CaptionsRepaired': WHATEVER THE INPUT: true; the input reads as it did. -/
def captionsRepairedSpec : ChangeSpec := { name := "captionsRepaired", fn := fun _ => fun
  | [d1, d2, d3, d4, d5, d6] => { results := [.lit (.bool true)], args := [d1, d2, d3, d4, d5, d6] }
  | _ => none }
def captionsRepairedRow : OpenClaim := { program := "ytckmebfgianeoaadoor", sum := "2734319354f8f5196695fb68ac6336a815af3656eeca4367a939eb1648f4d17b", func := "cutroom/cutroomlaw29.CaptionsRepaired", spec := "captionsRepaired", inPlace := ["internal/abi.NoEscape", "math/bits.Add64", "math/bits.Sub64", "internal/bytealg.MakeNoZero"], unfollowed := true, recurses := true, named := ["math/bits.divideError", "math/bits.overflowError", "internal/strconv.uint64pow10", "math/bits.deBruijn32tab", "math/bits.deBruijn64tab"], apart := false, laid := [("math/bits.deBruijn32tab", laid_math_bits_deBruijn32tab), ("math/bits.deBruijn64tab", laid_math_bits_deBruijn64tab), ("internal/strconv.uint64pow10", laid_internal_strconv_uint64pow10)] }
def CaptionsRepairedSaid : Prop := captionsRepairedRow.holds Tryd.pinned (OpenSpec.ofChange captionsRepairedSpec)

/-- ITS FALSE NEIGHBOUR: 'it returns false'. Refute it at one input. -/
def captionsRepairedWrong : ChangeSpec := { name := "captionsRepaired", fn := fun _ => fun
  | [d1, d2, d3, d4, d5, d6] => { results := [.lit (.bool false)], args := [d1, d2, d3, d4, d5, d6] }
  | _ => none }
def CaptionsRepairedWrongFalsely : Prop := captionsRepairedRow.holds Tryd.pinned (OpenSpec.ofChange captionsRepairedWrong)

/- THE SECOND FORM. 'bulk': how many values and letters a reading holds, each counted each time it is reached (what is shared counts as often as it is met; a slice's spare places count too). A statement '..UptoSaid' is the law's where the arguments, and the package variables that the reading takes, are together of bulk at most 1048576: NARROWER than '..Said'. Prove '..Said' where nothing that the law and all that it calls make is longer than what came in: it says more and counts as full. Else prove '..UptoSaid'. A law counts once. -/
mutual
def uptoBulk {H : Type} : DataW H → Nat
  | .lit (.string bytes) => bytes.length + 1
  | .lit _ => 1
  | .nil => 1
  | .ptr d => uptoBulk d + 1
  | .slice elems spare => uptoBulkAll elems + uptoBulkAll spare + 1
  | .agg parts => uptoBulkAll parts + 1
  | .iface _ d => uptoBulk d + 1
  | .map entries => uptoBulkEntries entries + 1
  | .held _ => 1
def uptoBulkAll {H : Type} : List (DataW H) → Nat
  | [] => 0
  | d :: r => uptoBulk d + uptoBulkAll r
def uptoBulkEntries {H : Type} : List (Lit × DataW H) → Nat
  | [] => 0
  | x :: r => uptoBulkEntry x + uptoBulkEntries r
def uptoBulkEntry {H : Type} : Lit × DataW H → Nat
  | (.string bytes, d) => bytes.length + uptoBulk d + 1
  | (_, d) => uptoBulk d + 1
 end
def uptoSmall : (H : Type) → List (DataW H) → Bool := fun _ ds => decide (uptoBulkAll ds ≤ 1048576)
def OpenSpec.upto (s : _root_.Go.ChangeSpec) : _root_.Go.OpenSpec := { _root_.Go.OpenSpec.ofChange s with cond := some uptoSmall }

/-- 'cutroomlaw29.CaptionsCuts', WHERE WHAT IT READS IS OF BULK AT MOST 1048576: true; the input reads as it did. -/
def captionsCutsUptoRow : OpenClaim := { program := "ytckmebfgianeoaadoor", sum := "2734319354f8f5196695fb68ac6336a815af3656eeca4367a939eb1648f4d17b", func := "cutroom/cutroomlaw29.CaptionsCuts", spec := "captionsCuts", inPlace := ["math/bits.Add64", "math/bits.Sub64", "internal/abi.NoEscape", "internal/bytealg.MakeNoZero"], unfollowed := true, recurses := true, named := ["math/bits.divideError", "math/bits.overflowError", "internal/strconv.uint64pow10", "math/bits.deBruijn32tab", "math/bits.deBruijn64tab"], apart := false, laid := [("math/bits.deBruijn32tab", laid_math_bits_deBruijn32tab), ("math/bits.deBruijn64tab", laid_math_bits_deBruijn64tab), ("internal/strconv.uint64pow10", laid_internal_strconv_uint64pow10)], narrowed := true }
def CaptionsCutsUptoSaid : Prop := captionsCutsUptoRow.holds Tryd.pinned (OpenSpec.upto captionsCutsSpec)

/-- 'cutroomlaw29.CaptionsWraps', WHERE WHAT IT READS IS OF BULK AT MOST 1048576: true; the input reads as it did. -/
def captionsWrapsUptoRow : OpenClaim := { program := "ytckmebfgianeoaadoor", sum := "2734319354f8f5196695fb68ac6336a815af3656eeca4367a939eb1648f4d17b", func := "cutroom/cutroomlaw29.CaptionsWraps", spec := "captionsWraps", inPlace := ["internal/abi.NoEscape", "math/bits.Add64", "math/bits.Sub64", "internal/bytealg.MakeNoZero"], unfollowed := true, recurses := true, named := ["math/bits.divideError", "math/bits.overflowError", "internal/strconv.uint64pow10", "math/bits.deBruijn32tab", "math/bits.deBruijn64tab"], apart := false, laid := [("math/bits.deBruijn32tab", laid_math_bits_deBruijn32tab), ("math/bits.deBruijn64tab", laid_math_bits_deBruijn64tab), ("internal/strconv.uint64pow10", laid_internal_strconv_uint64pow10)], narrowed := true }
def CaptionsWrapsUptoSaid : Prop := captionsWrapsUptoRow.holds Tryd.pinned (OpenSpec.upto captionsWrapsSpec)

/-- 'cutroomlaw29.CaptionsWrapKeeps', WHERE WHAT IT READS IS OF BULK AT MOST 1048576: true; the input reads as it did. -/
def captionsWrapKeepsUptoRow : OpenClaim := { program := "ytckmebfgianeoaadoor", sum := "2734319354f8f5196695fb68ac6336a815af3656eeca4367a939eb1648f4d17b", func := "cutroom/cutroomlaw29.CaptionsWrapKeeps", spec := "captionsWrapKeeps", inPlace := ["internal/abi.NoEscape", "math/bits.Add64", "math/bits.Sub64", "internal/bytealg.MakeNoZero"], unfollowed := true, recurses := true, named := ["math/bits.divideError", "math/bits.overflowError", "internal/strconv.uint64pow10", "math/bits.deBruijn32tab", "math/bits.deBruijn64tab"], apart := false, laid := [("math/bits.deBruijn32tab", laid_math_bits_deBruijn32tab), ("math/bits.deBruijn64tab", laid_math_bits_deBruijn64tab), ("internal/strconv.uint64pow10", laid_internal_strconv_uint64pow10)], narrowed := true }
def CaptionsWrapKeepsUptoSaid : Prop := captionsWrapKeepsUptoRow.holds Tryd.pinned (OpenSpec.upto captionsWrapKeepsSpec)

/-- 'cutroomlaw29.CaptionsOrdered', WHERE WHAT IT READS IS OF BULK AT MOST 1048576: true; the input reads as it did. -/
def captionsOrderedUptoRow : OpenClaim := { program := "ytckmebfgianeoaadoor", sum := "2734319354f8f5196695fb68ac6336a815af3656eeca4367a939eb1648f4d17b", func := "cutroom/cutroomlaw29.CaptionsOrdered", spec := "captionsOrdered", inPlace := ["math/bits.Add64", "math/bits.Sub64", "internal/abi.NoEscape", "internal/bytealg.MakeNoZero"], unfollowed := true, recurses := true, named := ["math/bits.divideError", "math/bits.overflowError", "internal/strconv.uint64pow10", "math/bits.deBruijn32tab", "math/bits.deBruijn64tab"], apart := false, laid := [("math/bits.deBruijn32tab", laid_math_bits_deBruijn32tab), ("math/bits.deBruijn64tab", laid_math_bits_deBruijn64tab), ("internal/strconv.uint64pow10", laid_internal_strconv_uint64pow10)], narrowed := true }
def CaptionsOrderedUptoSaid : Prop := captionsOrderedUptoRow.holds Tryd.pinned (OpenSpec.upto captionsOrderedSpec)

/-- 'cutroomlaw29.CaptionsCutShows', WHERE WHAT IT READS IS OF BULK AT MOST 1048576: true; the input reads as it did. -/
def captionsCutShowsUptoRow : OpenClaim := { program := "ytckmebfgianeoaadoor", sum := "2734319354f8f5196695fb68ac6336a815af3656eeca4367a939eb1648f4d17b", func := "cutroom/cutroomlaw29.CaptionsCutShows", spec := "captionsCutShows", inPlace := ["math/bits.Add64", "math/bits.Sub64", "internal/abi.NoEscape", "internal/bytealg.MakeNoZero"], unfollowed := true, recurses := true, named := ["math/bits.divideError", "math/bits.overflowError", "internal/strconv.uint64pow10", "math/bits.deBruijn32tab", "math/bits.deBruijn64tab"], apart := false, laid := [("math/bits.deBruijn32tab", laid_math_bits_deBruijn32tab), ("math/bits.deBruijn64tab", laid_math_bits_deBruijn64tab), ("internal/strconv.uint64pow10", laid_internal_strconv_uint64pow10)], narrowed := true }
def CaptionsCutShowsUptoSaid : Prop := captionsCutShowsUptoRow.holds Tryd.pinned (OpenSpec.upto captionsCutShowsSpec)

/-- 'cutroomlaw29.CaptionsFormats', WHERE WHAT IT READS IS OF BULK AT MOST 1048576: true; the input reads as it did. -/
def captionsFormatsUptoRow : OpenClaim := { program := "ytckmebfgianeoaadoor", sum := "2734319354f8f5196695fb68ac6336a815af3656eeca4367a939eb1648f4d17b", func := "cutroom/cutroomlaw29.CaptionsFormats", spec := "captionsFormats", inPlace := ["math/bits.Add64", "math/bits.Sub64", "internal/abi.NoEscape", "internal/bytealg.MakeNoZero", "internal/bytealg.IndexByteString", "internal/bytealg.IndexString"], unfollowed := true, recurses := true, named := ["math/bits.divideError", "math/bits.overflowError", "internal/strconv.uint64pow10", "math/bits.deBruijn32tab", "math/bits.deBruijn64tab", "internal/bytealg.MaxLen"], apart := false, laid := [("math/bits.deBruijn32tab", laid_math_bits_deBruijn32tab), ("math/bits.deBruijn64tab", laid_math_bits_deBruijn64tab), ("internal/strconv.uint64pow10", laid_internal_strconv_uint64pow10)], narrowed := true }
def CaptionsFormatsUptoSaid : Prop := captionsFormatsUptoRow.holds Tryd.pinned (OpenSpec.upto captionsFormatsSpec)

/-- 'cutroomlaw29.CaptionsParses', WHERE WHAT IT READS IS OF BULK AT MOST 1048576: true; the input reads as it did. -/
def captionsParsesUptoRow : OpenClaim := { program := "ytckmebfgianeoaadoor", sum := "2734319354f8f5196695fb68ac6336a815af3656eeca4367a939eb1648f4d17b", func := "cutroom/cutroomlaw29.CaptionsParses", spec := "captionsParses", inPlace := ["math/bits.Add64", "math/bits.Sub64", "internal/abi.NoEscape", "internal/bytealg.MakeNoZero", "internal/bytealg.IndexByteString", "internal/bytealg.IndexString"], unfollowed := true, recurses := true, named := ["math/bits.divideError", "math/bits.overflowError", "internal/strconv.uint64pow10", "math/bits.deBruijn32tab", "math/bits.deBruijn64tab", "internal/bytealg.MaxLen"], apart := false, laid := [("math/bits.deBruijn32tab", laid_math_bits_deBruijn32tab), ("math/bits.deBruijn64tab", laid_math_bits_deBruijn64tab), ("internal/strconv.uint64pow10", laid_internal_strconv_uint64pow10)], narrowed := true }
def CaptionsParsesUptoSaid : Prop := captionsParsesUptoRow.holds Tryd.pinned (OpenSpec.upto captionsParsesSpec)

/-- 'cutroomlaw29.CaptionsRepairs', WHERE WHAT IT READS IS OF BULK AT MOST 1048576: true; the input reads as it did. -/
def captionsRepairsUptoRow : OpenClaim := { program := "ytckmebfgianeoaadoor", sum := "2734319354f8f5196695fb68ac6336a815af3656eeca4367a939eb1648f4d17b", func := "cutroom/cutroomlaw29.CaptionsRepairs", spec := "captionsRepairs", inPlace := ["internal/abi.NoEscape", "math/bits.Add64", "math/bits.Sub64", "internal/bytealg.MakeNoZero"], unfollowed := true, recurses := true, named := ["math/bits.divideError", "math/bits.overflowError", "internal/strconv.uint64pow10", "math/bits.deBruijn32tab", "math/bits.deBruijn64tab"], apart := false, laid := [("math/bits.deBruijn32tab", laid_math_bits_deBruijn32tab), ("math/bits.deBruijn64tab", laid_math_bits_deBruijn64tab), ("internal/strconv.uint64pow10", laid_internal_strconv_uint64pow10)], narrowed := true }
def CaptionsRepairsUptoSaid : Prop := captionsRepairsUptoRow.holds Tryd.pinned (OpenSpec.upto captionsRepairsSpec)

/-- 'cutroomlaw29.CaptionsGood', WHERE WHAT IT READS IS OF BULK AT MOST 1048576: true; the input reads as it did. -/
def captionsGoodUptoRow : OpenClaim := { program := "ytckmebfgianeoaadoor", sum := "2734319354f8f5196695fb68ac6336a815af3656eeca4367a939eb1648f4d17b", func := "cutroom/cutroomlaw29.CaptionsGood", spec := "captionsGood", inPlace := ["internal/abi.NoEscape", "math/bits.Add64", "math/bits.Sub64", "internal/bytealg.MakeNoZero"], unfollowed := true, recurses := true, named := ["math/bits.divideError", "math/bits.overflowError", "internal/strconv.uint64pow10", "math/bits.deBruijn32tab", "math/bits.deBruijn64tab"], apart := false, laid := [("math/bits.deBruijn32tab", laid_math_bits_deBruijn32tab), ("math/bits.deBruijn64tab", laid_math_bits_deBruijn64tab), ("internal/strconv.uint64pow10", laid_internal_strconv_uint64pow10)], narrowed := true }
def CaptionsGoodUptoSaid : Prop := captionsGoodUptoRow.holds Tryd.pinned (OpenSpec.upto captionsGoodSpec)

/-- 'cutroomlaw29.CaptionsRepaired', WHERE WHAT IT READS IS OF BULK AT MOST 1048576: true; the input reads as it did. -/
def captionsRepairedUptoRow : OpenClaim := { program := "ytckmebfgianeoaadoor", sum := "2734319354f8f5196695fb68ac6336a815af3656eeca4367a939eb1648f4d17b", func := "cutroom/cutroomlaw29.CaptionsRepaired", spec := "captionsRepaired", inPlace := ["internal/abi.NoEscape", "math/bits.Add64", "math/bits.Sub64", "internal/bytealg.MakeNoZero"], unfollowed := true, recurses := true, named := ["math/bits.divideError", "math/bits.overflowError", "internal/strconv.uint64pow10", "math/bits.deBruijn32tab", "math/bits.deBruijn64tab"], apart := false, laid := [("math/bits.deBruijn32tab", laid_math_bits_deBruijn32tab), ("math/bits.deBruijn64tab", laid_math_bits_deBruijn64tab), ("internal/strconv.uint64pow10", laid_internal_strconv_uint64pow10)], narrowed := true }
def CaptionsRepairedUptoSaid : Prop := captionsRepairedUptoRow.holds Tryd.pinned (OpenSpec.upto captionsRepairedSpec)

end Rows
end Go.Proofs.YtckmebfgianeoaaDoor
