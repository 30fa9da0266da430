/-
  NARROWER THAN 'FOR EVERY INPUT', by the rows' own cells (each row's printed sentence says how): FrontCorners: laid · FrontInside: laid · LevelStarts: laid · LevelSteady: laid · LevelReasons: laid · LevelNext: laid · LevelRaises: laid · LevelMoves: laid.
  DERIVED. THE GIVEN ROWS OF THIS SEAT. 8 by the template 'for every input the law returns true; each argument reads behind the call as it read before'; 0 by the template 'total and deterministic' (their statements: YtlagebbefnnnnaaGreatDoorTotals.lean).
  GIVEN WITH THE SEED: the statements are not yours to turn. If you find one false, say at which input.
  Laid BY PROGRAM, IN A SANDBOX (cutbox-rows.mjs): the forced cells as the released guide's own fill.sh prints them over the translation 425ed6b689854bad… (all of the seat's roots in one cut). By AI agents, Wed Nov 11 2026. No macro, syntax, notation, axiom, sorry.
-/
import Derived.Test.YtlagebbefnnnnaaGreatDoorChecked
import GoSem.PinnedTables
import GoSem.Claim
import GoSem.ClaimJoined
import GoSem.ClaimMapViews
import Derived.JoinedTies
import Derived.KernelRfl
namespace Go.Proofs.YtlagebbefnnnnaaGreatDoor
/- THE CELL 'sum', in the pinned program and in every row, IS THE sha256 OF THE DUMP (.gsa) THAT YtlagebbefnnnnaaGreatDoorProg.lean LOADS. Nothing in Lean hashes anything: it is a label: what it is worth is what the hold of that sum in a sandbox is worth. -/
noncomputable def Tryz.pinned : Pinned := { name := "ytlagebbefnnnnaagreatdoor", sum := "425ed6b689854bad7ff34c9bd75e3cac6995deab92c741b3f0c82b6c371a1a56", checked := Tryz.checked }
namespace Rows
def none {H : Type} : Left H := { results := [], args := [] }

/- WHAT THE LISTED PACKAGE-LEVEL VARIABLES READ AS WHEN THE CALL BEGINS. Each datum BY PROGRAM (the guide's laid-datum.mjs) off the statement by which the dump's own 'gosem.cut.vars' lays the variable. In a bare row this is a premise. The card (YtlagebbefnnnnaaGreatDoorCards.lean) ties it to the program's text. -/
def laid_math_bits_deBruijn32tab {H : Type} : DataW H := .agg [.lit (.int .u8 0), .lit (.int .u8 1), .lit (.int .u8 28), .lit (.int .u8 2), .lit (.int .u8 29), .lit (.int .u8 14), .lit (.int .u8 24), .lit (.int .u8 3), .lit (.int .u8 30), .lit (.int .u8 22), .lit (.int .u8 20), .lit (.int .u8 15), .lit (.int .u8 25), .lit (.int .u8 17), .lit (.int .u8 4), .lit (.int .u8 8), .lit (.int .u8 31), .lit (.int .u8 27), .lit (.int .u8 13), .lit (.int .u8 23), .lit (.int .u8 21), .lit (.int .u8 19), .lit (.int .u8 16), .lit (.int .u8 7), .lit (.int .u8 26), .lit (.int .u8 12), .lit (.int .u8 18), .lit (.int .u8 6), .lit (.int .u8 11), .lit (.int .u8 5), .lit (.int .u8 10), .lit (.int .u8 9)]
def laid_math_bits_deBruijn64tab {H : Type} : DataW H := .agg [.lit (.int .u8 0), .lit (.int .u8 1), .lit (.int .u8 56), .lit (.int .u8 2), .lit (.int .u8 57), .lit (.int .u8 49), .lit (.int .u8 28), .lit (.int .u8 3), .lit (.int .u8 61), .lit (.int .u8 58), .lit (.int .u8 42), .lit (.int .u8 50), .lit (.int .u8 38), .lit (.int .u8 29), .lit (.int .u8 17), .lit (.int .u8 4), .lit (.int .u8 62), .lit (.int .u8 47), .lit (.int .u8 59), .lit (.int .u8 36), .lit (.int .u8 45), .lit (.int .u8 43), .lit (.int .u8 51), .lit (.int .u8 22), .lit (.int .u8 53), .lit (.int .u8 39), .lit (.int .u8 33), .lit (.int .u8 30), .lit (.int .u8 24), .lit (.int .u8 18), .lit (.int .u8 12), .lit (.int .u8 5), .lit (.int .u8 63), .lit (.int .u8 55), .lit (.int .u8 48), .lit (.int .u8 27), .lit (.int .u8 60), .lit (.int .u8 41), .lit (.int .u8 37), .lit (.int .u8 16), .lit (.int .u8 46), .lit (.int .u8 35), .lit (.int .u8 44), .lit (.int .u8 21), .lit (.int .u8 52), .lit (.int .u8 32), .lit (.int .u8 23), .lit (.int .u8 11), .lit (.int .u8 54), .lit (.int .u8 26), .lit (.int .u8 40), .lit (.int .u8 15), .lit (.int .u8 34), .lit (.int .u8 20), .lit (.int .u8 31), .lit (.int .u8 10), .lit (.int .u8 25), .lit (.int .u8 14), .lit (.int .u8 19), .lit (.int .u8 9), .lit (.int .u8 13), .lit (.int .u8 8), .lit (.int .u8 7), .lit (.int .u8 6)]
def laid_internal_strconv_uint64pow10 {H : Type} : DataW H := .agg [.lit (.int .u64 1), .lit (.int .u64 10), .lit (.int .u64 100), .lit (.int .u64 1000), .lit (.int .u64 10000), .lit (.int .u64 100000), .lit (.int .u64 1000000), .lit (.int .u64 10000000), .lit (.int .u64 100000000), .lit (.int .u64 1000000000), .lit (.int .u64 10000000000), .lit (.int .u64 100000000000), .lit (.int .u64 1000000000000), .lit (.int .u64 10000000000000), .lit (.int .u64 100000000000000), .lit (.int .u64 1000000000000000), .lit (.int .u64 10000000000000000), .lit (.int .u64 100000000000000000), .lit (.int .u64 1000000000000000000), .lit (.int .u64 10000000000000000000)]
def laid_unicode_utf8_acceptRanges {H : Type} : DataW H := .agg [.agg [.lit (.int .u8 128), .lit (.int .u8 191)], .agg [.lit (.int .u8 160), .lit (.int .u8 191)], .agg [.lit (.int .u8 128), .lit (.int .u8 159)], .agg [.lit (.int .u8 144), .lit (.int .u8 191)], .agg [.lit (.int .u8 128), .lit (.int .u8 143)], .agg [.lit (.int .u8 0), .lit (.int .u8 0)], .agg [.lit (.int .u8 0), .lit (.int .u8 0)], .agg [.lit (.int .u8 0), .lit (.int .u8 0)], .agg [.lit (.int .u8 0), .lit (.int .u8 0)], .agg [.lit (.int .u8 0), .lit (.int .u8 0)], .agg [.lit (.int .u8 0), .lit (.int .u8 0)], .agg [.lit (.int .u8 0), .lit (.int .u8 0)], .agg [.lit (.int .u8 0), .lit (.int .u8 0)], .agg [.lit (.int .u8 0), .lit (.int .u8 0)], .agg [.lit (.int .u8 0), .lit (.int .u8 0)], .agg [.lit (.int .u8 0), .lit (.int .u8 0)]]
def laid_strconv_ErrRange {H : Type} : DataW H := .iface "*errors.errorString" (.ptr (.agg [.lit (.string [118, 97, 108, 117, 101, 32, 111, 117, 116, 32, 111, 102, 32, 114, 97, 110, 103, 101])]))
def laid_strconv_ErrSyntax {H : Type} : DataW H := .iface "*errors.errorString" (.ptr (.agg [.lit (.string [105, 110, 118, 97, 108, 105, 100, 32, 115, 121, 110, 116, 97, 120])]))
def laid_kingpost_front_directions {H : Type} : DataW H := .agg [.agg [.lit (.bool false), .lit (.int .i64 1)], .agg [.lit (.bool true), .lit (.int .i64 (-1))], .agg [.lit (.bool false), .lit (.int .i64 (-1))], .agg [.lit (.bool true), .lit (.int .i64 1)]]
/-- One of Go's own tables, pinned by name: the form's constant. -/
def laid_unicode_utf8_first : DataW Unit := Go.Pinned.utf8First

/-- 'kingpostlaw16.FrontCorners': WHATEVER THE INPUT: true; the input reads as it did. -/
def frontCornersSpec : ChangeSpec := { name := "frontCorners", fn := fun _ => fun
  | [d1, d2] => { results := [.lit (.bool true)], args := [d1, d2] }
  | _ => none }
def frontCornersRow : OpenClaim := { program := "ytlagebbefnnnnaagreatdoor", sum := "425ed6b689854bad7ff34c9bd75e3cac6995deab92c741b3f0c82b6c371a1a56", func := "kingpost/kingpostlaw16.FrontCorners", spec := "frontCorners", inPlace := ["internal/bytealg.IndexByteString", "internal/bytealg.IndexString", "internal/abi.NoEscape", "internal/bytealg.MakeNoZero"], unfollowed := true, recurses := true, named := ["internal/bytealg.MaxLen", "unicode/utf8.first", "unicode/utf8.acceptRanges", "strconv.ErrSyntax", "strconv.ErrRange", "internal/strconv.uint64pow10", "math/bits.deBruijn32tab", "math/bits.deBruijn64tab", "kingpost/front.directions"], apart := false, laid := [("math/bits.deBruijn32tab", laid_math_bits_deBruijn32tab), ("math/bits.deBruijn64tab", laid_math_bits_deBruijn64tab), ("internal/strconv.uint64pow10", laid_internal_strconv_uint64pow10), ("unicode/utf8.acceptRanges", laid_unicode_utf8_acceptRanges), ("strconv.ErrRange", laid_strconv_ErrRange), ("strconv.ErrSyntax", laid_strconv_ErrSyntax), ("kingpost/front.directions", laid_kingpost_front_directions), ("unicode/utf8.first", laid_unicode_utf8_first)] }
def FrontCornersSaid : Prop := frontCornersRow.holds Tryz.pinned (OpenSpec.ofChange frontCornersSpec)

/-- ITS FALSE NEIGHBOUR: 'it returns false'. Refute it at one input. -/
def frontCornersWrong : ChangeSpec := { name := "frontCorners", fn := fun _ => fun
  | [d1, d2] => { results := [.lit (.bool false)], args := [d1, d2] }
  | _ => none }
def FrontCornersWrongFalsely : Prop := frontCornersRow.holds Tryz.pinned (OpenSpec.ofChange frontCornersWrong)

/-- 'kingpostlaw16.FrontInside': WHATEVER THE INPUT: true; the input reads as it did. -/
def frontInsideSpec : ChangeSpec := { name := "frontInside", fn := fun _ => fun
  | [d1, d2] => { results := [.lit (.bool true)], args := [d1, d2] }
  | _ => none }
def frontInsideRow : OpenClaim := { program := "ytlagebbefnnnnaagreatdoor", sum := "425ed6b689854bad7ff34c9bd75e3cac6995deab92c741b3f0c82b6c371a1a56", func := "kingpost/kingpostlaw16.FrontInside", spec := "frontInside", inPlace := ["internal/bytealg.IndexByteString", "internal/bytealg.IndexString", "internal/abi.NoEscape", "internal/bytealg.MakeNoZero"], unfollowed := true, recurses := true, named := ["internal/bytealg.MaxLen", "unicode/utf8.first", "unicode/utf8.acceptRanges", "strconv.ErrSyntax", "strconv.ErrRange", "internal/strconv.uint64pow10", "math/bits.deBruijn32tab", "math/bits.deBruijn64tab", "kingpost/front.directions"], apart := false, laid := [("math/bits.deBruijn32tab", laid_math_bits_deBruijn32tab), ("math/bits.deBruijn64tab", laid_math_bits_deBruijn64tab), ("internal/strconv.uint64pow10", laid_internal_strconv_uint64pow10), ("unicode/utf8.acceptRanges", laid_unicode_utf8_acceptRanges), ("strconv.ErrRange", laid_strconv_ErrRange), ("strconv.ErrSyntax", laid_strconv_ErrSyntax), ("kingpost/front.directions", laid_kingpost_front_directions), ("unicode/utf8.first", laid_unicode_utf8_first)] }
def FrontInsideSaid : Prop := frontInsideRow.holds Tryz.pinned (OpenSpec.ofChange frontInsideSpec)

/-- ITS FALSE NEIGHBOUR: 'it returns false'. Refute it at one input. -/
def frontInsideWrong : ChangeSpec := { name := "frontInside", fn := fun _ => fun
  | [d1, d2] => { results := [.lit (.bool false)], args := [d1, d2] }
  | _ => none }
def FrontInsideWrongFalsely : Prop := frontInsideRow.holds Tryz.pinned (OpenSpec.ofChange frontInsideWrong)

/-- 'kingpostlaw17.LevelStarts': WHATEVER THE INPUT: true; the input reads as it did. -/
def levelStartsSpec : ChangeSpec := { name := "levelStarts", fn := fun _ => fun
  | [d] => { results := [.lit (.bool true)], args := [d] }
  | _ => none }
def levelStartsRow : OpenClaim := { program := "ytlagebbefnnnnaagreatdoor", sum := "425ed6b689854bad7ff34c9bd75e3cac6995deab92c741b3f0c82b6c371a1a56", func := "kingpost/kingpostlaw17.LevelStarts", spec := "levelStarts", inPlace := ["internal/bytealg.IndexByteString", "internal/bytealg.IndexString", "internal/abi.NoEscape", "internal/bytealg.MakeNoZero", "slices.overlaps[kingpost/api.Num]"], unfollowed := true, recurses := true, named := ["kingpost/front.directions", "internal/strconv.uint64pow10", "math/bits.deBruijn32tab", "math/bits.deBruijn64tab", "unicode/utf8.first", "unicode/utf8.acceptRanges", "strconv.ErrSyntax", "strconv.ErrRange", "internal/bytealg.MaxLen"], apart := false, laid := [("math/bits.deBruijn32tab", laid_math_bits_deBruijn32tab), ("math/bits.deBruijn64tab", laid_math_bits_deBruijn64tab), ("internal/strconv.uint64pow10", laid_internal_strconv_uint64pow10), ("unicode/utf8.acceptRanges", laid_unicode_utf8_acceptRanges), ("strconv.ErrRange", laid_strconv_ErrRange), ("strconv.ErrSyntax", laid_strconv_ErrSyntax), ("kingpost/front.directions", laid_kingpost_front_directions), ("unicode/utf8.first", laid_unicode_utf8_first)] }
def LevelStartsSaid : Prop := levelStartsRow.holds Tryz.pinned (OpenSpec.ofChange levelStartsSpec)

/-- ITS FALSE NEIGHBOUR: 'it returns false'. Refute it at one input. -/
def levelStartsWrong : ChangeSpec := { name := "levelStarts", fn := fun _ => fun
  | [d] => { results := [.lit (.bool false)], args := [d] }
  | _ => none }
def LevelStartsWrongFalsely : Prop := levelStartsRow.holds Tryz.pinned (OpenSpec.ofChange levelStartsWrong)

/-- 'kingpostlaw17.LevelSteady': WHATEVER THE INPUT: true; the input reads as it did. -/
def levelSteadySpec : ChangeSpec := { name := "levelSteady", fn := fun _ => fun
  | [d1, d2, d3] => { results := [.lit (.bool true)], args := [d1, d2, d3] }
  | _ => none }
def levelSteadyRow : OpenClaim := { program := "ytlagebbefnnnnaagreatdoor", sum := "425ed6b689854bad7ff34c9bd75e3cac6995deab92c741b3f0c82b6c371a1a56", func := "kingpost/kingpostlaw17.LevelSteady", spec := "levelSteady", inPlace := ["internal/bytealg.IndexByteString", "internal/bytealg.IndexString", "internal/abi.NoEscape", "internal/bytealg.MakeNoZero", "slices.overlaps[kingpost/api.Num]"], unfollowed := true, recurses := true, named := ["kingpost/front.directions", "internal/strconv.uint64pow10", "math/bits.deBruijn32tab", "math/bits.deBruijn64tab", "unicode/utf8.first", "unicode/utf8.acceptRanges", "strconv.ErrSyntax", "strconv.ErrRange", "internal/bytealg.MaxLen"], apart := false, laid := [("math/bits.deBruijn32tab", laid_math_bits_deBruijn32tab), ("math/bits.deBruijn64tab", laid_math_bits_deBruijn64tab), ("internal/strconv.uint64pow10", laid_internal_strconv_uint64pow10), ("unicode/utf8.acceptRanges", laid_unicode_utf8_acceptRanges), ("strconv.ErrRange", laid_strconv_ErrRange), ("strconv.ErrSyntax", laid_strconv_ErrSyntax), ("kingpost/front.directions", laid_kingpost_front_directions), ("unicode/utf8.first", laid_unicode_utf8_first)] }
def LevelSteadySaid : Prop := levelSteadyRow.holds Tryz.pinned (OpenSpec.ofChange levelSteadySpec)

/-- ITS FALSE NEIGHBOUR: 'it returns false'. Refute it at one input. -/
def levelSteadyWrong : ChangeSpec := { name := "levelSteady", fn := fun _ => fun
  | [d1, d2, d3] => { results := [.lit (.bool false)], args := [d1, d2, d3] }
  | _ => none }
def LevelSteadyWrongFalsely : Prop := levelSteadyRow.holds Tryz.pinned (OpenSpec.ofChange levelSteadyWrong)

/-- 'kingpostlaw17.LevelReasons': WHATEVER THE INPUT: true; the input reads as it did. -/
def levelReasonsSpec : ChangeSpec := { name := "levelReasons", fn := fun _ => fun
  | [d1, d2] => { results := [.lit (.bool true)], args := [d1, d2] }
  | _ => none }
def levelReasonsRow : OpenClaim := { program := "ytlagebbefnnnnaagreatdoor", sum := "425ed6b689854bad7ff34c9bd75e3cac6995deab92c741b3f0c82b6c371a1a56", func := "kingpost/kingpostlaw17.LevelReasons", spec := "levelReasons", inPlace := ["internal/bytealg.IndexByteString", "internal/bytealg.IndexString", "internal/abi.NoEscape", "internal/bytealg.MakeNoZero", "slices.overlaps[kingpost/api.Num]"], unfollowed := true, recurses := true, named := ["kingpost/front.directions", "internal/strconv.uint64pow10", "math/bits.deBruijn32tab", "math/bits.deBruijn64tab", "unicode/utf8.first", "unicode/utf8.acceptRanges", "strconv.ErrSyntax", "strconv.ErrRange", "internal/bytealg.MaxLen"], apart := false, laid := [("math/bits.deBruijn32tab", laid_math_bits_deBruijn32tab), ("math/bits.deBruijn64tab", laid_math_bits_deBruijn64tab), ("internal/strconv.uint64pow10", laid_internal_strconv_uint64pow10), ("unicode/utf8.acceptRanges", laid_unicode_utf8_acceptRanges), ("strconv.ErrRange", laid_strconv_ErrRange), ("strconv.ErrSyntax", laid_strconv_ErrSyntax), ("kingpost/front.directions", laid_kingpost_front_directions), ("unicode/utf8.first", laid_unicode_utf8_first)] }
def LevelReasonsSaid : Prop := levelReasonsRow.holds Tryz.pinned (OpenSpec.ofChange levelReasonsSpec)

/-- ITS FALSE NEIGHBOUR: 'it returns false'. Refute it at one input. -/
def levelReasonsWrong : ChangeSpec := { name := "levelReasons", fn := fun _ => fun
  | [d1, d2] => { results := [.lit (.bool false)], args := [d1, d2] }
  | _ => none }
def LevelReasonsWrongFalsely : Prop := levelReasonsRow.holds Tryz.pinned (OpenSpec.ofChange levelReasonsWrong)

/-- 'kingpostlaw17.LevelNext': WHATEVER THE INPUT: true; the input reads as it did. -/
def levelNextSpec : ChangeSpec := { name := "levelNext", fn := fun _ => fun
  | [d] => { results := [.lit (.bool true)], args := [d] }
  | _ => none }
def levelNextRow : OpenClaim := { program := "ytlagebbefnnnnaagreatdoor", sum := "425ed6b689854bad7ff34c9bd75e3cac6995deab92c741b3f0c82b6c371a1a56", func := "kingpost/kingpostlaw17.LevelNext", spec := "levelNext", inPlace := ["internal/bytealg.IndexByteString", "internal/bytealg.IndexString", "internal/abi.NoEscape", "internal/bytealg.MakeNoZero", "slices.overlaps[kingpost/api.Num]"], unfollowed := true, recurses := true, named := ["kingpost/front.directions", "internal/strconv.uint64pow10", "math/bits.deBruijn32tab", "math/bits.deBruijn64tab", "unicode/utf8.first", "unicode/utf8.acceptRanges", "strconv.ErrSyntax", "strconv.ErrRange", "internal/bytealg.MaxLen"], apart := false, laid := [("math/bits.deBruijn32tab", laid_math_bits_deBruijn32tab), ("math/bits.deBruijn64tab", laid_math_bits_deBruijn64tab), ("internal/strconv.uint64pow10", laid_internal_strconv_uint64pow10), ("unicode/utf8.acceptRanges", laid_unicode_utf8_acceptRanges), ("strconv.ErrRange", laid_strconv_ErrRange), ("strconv.ErrSyntax", laid_strconv_ErrSyntax), ("kingpost/front.directions", laid_kingpost_front_directions), ("unicode/utf8.first", laid_unicode_utf8_first)] }
def LevelNextSaid : Prop := levelNextRow.holds Tryz.pinned (OpenSpec.ofChange levelNextSpec)

/-- ITS FALSE NEIGHBOUR: 'it returns false'. Refute it at one input. -/
def levelNextWrong : ChangeSpec := { name := "levelNext", fn := fun _ => fun
  | [d] => { results := [.lit (.bool false)], args := [d] }
  | _ => none }
def LevelNextWrongFalsely : Prop := levelNextRow.holds Tryz.pinned (OpenSpec.ofChange levelNextWrong)

/-- 'kingpostlaw17.LevelRaises': WHATEVER THE INPUT: true; the input reads as it did. -/
def levelRaisesSpec : ChangeSpec := { name := "levelRaises", fn := fun _ => fun
  | [d1, d2] => { results := [.lit (.bool true)], args := [d1, d2] }
  | _ => none }
def levelRaisesRow : OpenClaim := { program := "ytlagebbefnnnnaagreatdoor", sum := "425ed6b689854bad7ff34c9bd75e3cac6995deab92c741b3f0c82b6c371a1a56", func := "kingpost/kingpostlaw17.LevelRaises", spec := "levelRaises", inPlace := ["internal/bytealg.IndexByteString", "internal/bytealg.IndexString", "internal/abi.NoEscape", "internal/bytealg.MakeNoZero", "slices.overlaps[kingpost/api.Num]"], unfollowed := true, recurses := true, named := ["kingpost/front.directions", "internal/strconv.uint64pow10", "math/bits.deBruijn32tab", "math/bits.deBruijn64tab", "unicode/utf8.first", "unicode/utf8.acceptRanges", "strconv.ErrSyntax", "strconv.ErrRange", "internal/bytealg.MaxLen"], apart := false, laid := [("math/bits.deBruijn32tab", laid_math_bits_deBruijn32tab), ("math/bits.deBruijn64tab", laid_math_bits_deBruijn64tab), ("internal/strconv.uint64pow10", laid_internal_strconv_uint64pow10), ("unicode/utf8.acceptRanges", laid_unicode_utf8_acceptRanges), ("strconv.ErrRange", laid_strconv_ErrRange), ("strconv.ErrSyntax", laid_strconv_ErrSyntax), ("kingpost/front.directions", laid_kingpost_front_directions), ("unicode/utf8.first", laid_unicode_utf8_first)] }
def LevelRaisesSaid : Prop := levelRaisesRow.holds Tryz.pinned (OpenSpec.ofChange levelRaisesSpec)

/-- ITS FALSE NEIGHBOUR: 'it returns false'. Refute it at one input. -/
def levelRaisesWrong : ChangeSpec := { name := "levelRaises", fn := fun _ => fun
  | [d1, d2] => { results := [.lit (.bool false)], args := [d1, d2] }
  | _ => none }
def LevelRaisesWrongFalsely : Prop := levelRaisesRow.holds Tryz.pinned (OpenSpec.ofChange levelRaisesWrong)

/-- 'kingpostlaw17.LevelMoves': WHATEVER THE INPUT: true; the input reads as it did. -/
def levelMovesSpec : ChangeSpec := { name := "levelMoves", fn := fun _ => fun
  | [d1, d2, d3, d4] => { results := [.lit (.bool true)], args := [d1, d2, d3, d4] }
  | _ => none }
def levelMovesRow : OpenClaim := { program := "ytlagebbefnnnnaagreatdoor", sum := "425ed6b689854bad7ff34c9bd75e3cac6995deab92c741b3f0c82b6c371a1a56", func := "kingpost/kingpostlaw17.LevelMoves", spec := "levelMoves", inPlace := ["internal/bytealg.IndexByteString", "internal/bytealg.IndexString", "internal/abi.NoEscape", "internal/bytealg.MakeNoZero", "slices.overlaps[kingpost/api.Num]"], unfollowed := true, recurses := true, named := ["kingpost/front.directions", "internal/strconv.uint64pow10", "math/bits.deBruijn32tab", "math/bits.deBruijn64tab", "unicode/utf8.first", "unicode/utf8.acceptRanges", "strconv.ErrSyntax", "strconv.ErrRange", "internal/bytealg.MaxLen"], apart := false, laid := [("math/bits.deBruijn32tab", laid_math_bits_deBruijn32tab), ("math/bits.deBruijn64tab", laid_math_bits_deBruijn64tab), ("internal/strconv.uint64pow10", laid_internal_strconv_uint64pow10), ("unicode/utf8.acceptRanges", laid_unicode_utf8_acceptRanges), ("strconv.ErrRange", laid_strconv_ErrRange), ("strconv.ErrSyntax", laid_strconv_ErrSyntax), ("kingpost/front.directions", laid_kingpost_front_directions), ("unicode/utf8.first", laid_unicode_utf8_first)] }
def LevelMovesSaid : Prop := levelMovesRow.holds Tryz.pinned (OpenSpec.ofChange levelMovesSpec)

/-- ITS FALSE NEIGHBOUR: 'it returns false'. Refute it at one input. -/
def levelMovesWrong : ChangeSpec := { name := "levelMoves", fn := fun _ => fun
  | [d1, d2, d3, d4] => { results := [.lit (.bool false)], args := [d1, d2, d3, d4] }
  | _ => none }
def LevelMovesWrongFalsely : Prop := levelMovesRow.holds Tryz.pinned (OpenSpec.ofChange levelMovesWrong)

/- THE SECOND FORM. 'bulk': how many values and letters a reading holds, each counted each time it is reached (what is shared counts as often as it is met; a slice's spare places count too). A statement '..UptoSaid' is the law's where the arguments, and the package variables that the reading takes, are together of bulk at most 1048576: NARROWER than '..Said'. Prove '..Said' where nothing that the law and all that it calls make is longer than what came in: it says more and counts as full. Else prove '..UptoSaid'. A law counts once. -/
mutual
def uptoBulk {H : Type} : DataW H → Nat
  | .lit (.string bytes) => bytes.length + 1
  | .lit _ => 1
  | .nil => 1
  | .ptr d => uptoBulk d + 1
  | .slice elems spare => uptoBulkAll elems + uptoBulkAll spare + 1
  | .agg parts => uptoBulkAll parts + 1
  | .iface _ d => uptoBulk d + 1
  | .map entries => uptoBulkEntries entries + 1
  | .held _ => 1
def uptoBulkAll {H : Type} : List (DataW H) → Nat
  | [] => 0
  | d :: r => uptoBulk d + uptoBulkAll r
def uptoBulkEntries {H : Type} : List (Lit × DataW H) → Nat
  | [] => 0
  | x :: r => uptoBulkEntry x + uptoBulkEntries r
def uptoBulkEntry {H : Type} : Lit × DataW H → Nat
  | (.string bytes, d) => bytes.length + uptoBulk d + 1
  | (_, d) => uptoBulk d + 1
 end
def uptoSmall : (H : Type) → List (DataW H) → Bool := fun _ ds => decide (uptoBulkAll ds ≤ 1048576)
def OpenSpec.upto (s : _root_.Go.ChangeSpec) : _root_.Go.OpenSpec := { _root_.Go.OpenSpec.ofChange s with cond := some uptoSmall }

/-- 'kingpostlaw16.FrontCorners', WHERE WHAT IT READS IS OF BULK AT MOST 1048576: true; the input reads as it did. -/
def frontCornersUptoRow : OpenClaim := { program := "ytlagebbefnnnnaagreatdoor", sum := "425ed6b689854bad7ff34c9bd75e3cac6995deab92c741b3f0c82b6c371a1a56", func := "kingpost/kingpostlaw16.FrontCorners", spec := "frontCorners", inPlace := ["internal/bytealg.IndexByteString", "internal/bytealg.IndexString", "internal/abi.NoEscape", "internal/bytealg.MakeNoZero"], unfollowed := true, recurses := true, named := ["internal/bytealg.MaxLen", "unicode/utf8.first", "unicode/utf8.acceptRanges", "strconv.ErrSyntax", "strconv.ErrRange", "internal/strconv.uint64pow10", "math/bits.deBruijn32tab", "math/bits.deBruijn64tab", "kingpost/front.directions"], apart := false, laid := [("math/bits.deBruijn32tab", laid_math_bits_deBruijn32tab), ("math/bits.deBruijn64tab", laid_math_bits_deBruijn64tab), ("internal/strconv.uint64pow10", laid_internal_strconv_uint64pow10), ("unicode/utf8.acceptRanges", laid_unicode_utf8_acceptRanges), ("strconv.ErrRange", laid_strconv_ErrRange), ("strconv.ErrSyntax", laid_strconv_ErrSyntax), ("kingpost/front.directions", laid_kingpost_front_directions), ("unicode/utf8.first", laid_unicode_utf8_first)], narrowed := true }
def FrontCornersUptoSaid : Prop := frontCornersUptoRow.holds Tryz.pinned (OpenSpec.upto frontCornersSpec)

/-- 'kingpostlaw16.FrontInside', WHERE WHAT IT READS IS OF BULK AT MOST 1048576: true; the input reads as it did. -/
def frontInsideUptoRow : OpenClaim := { program := "ytlagebbefnnnnaagreatdoor", sum := "425ed6b689854bad7ff34c9bd75e3cac6995deab92c741b3f0c82b6c371a1a56", func := "kingpost/kingpostlaw16.FrontInside", spec := "frontInside", inPlace := ["internal/bytealg.IndexByteString", "internal/bytealg.IndexString", "internal/abi.NoEscape", "internal/bytealg.MakeNoZero"], unfollowed := true, recurses := true, named := ["internal/bytealg.MaxLen", "unicode/utf8.first", "unicode/utf8.acceptRanges", "strconv.ErrSyntax", "strconv.ErrRange", "internal/strconv.uint64pow10", "math/bits.deBruijn32tab", "math/bits.deBruijn64tab", "kingpost/front.directions"], apart := false, laid := [("math/bits.deBruijn32tab", laid_math_bits_deBruijn32tab), ("math/bits.deBruijn64tab", laid_math_bits_deBruijn64tab), ("internal/strconv.uint64pow10", laid_internal_strconv_uint64pow10), ("unicode/utf8.acceptRanges", laid_unicode_utf8_acceptRanges), ("strconv.ErrRange", laid_strconv_ErrRange), ("strconv.ErrSyntax", laid_strconv_ErrSyntax), ("kingpost/front.directions", laid_kingpost_front_directions), ("unicode/utf8.first", laid_unicode_utf8_first)], narrowed := true }
def FrontInsideUptoSaid : Prop := frontInsideUptoRow.holds Tryz.pinned (OpenSpec.upto frontInsideSpec)

/-- 'kingpostlaw17.LevelStarts', WHERE WHAT IT READS IS OF BULK AT MOST 1048576: true; the input reads as it did. -/
def levelStartsUptoRow : OpenClaim := { program := "ytlagebbefnnnnaagreatdoor", sum := "425ed6b689854bad7ff34c9bd75e3cac6995deab92c741b3f0c82b6c371a1a56", func := "kingpost/kingpostlaw17.LevelStarts", spec := "levelStarts", inPlace := ["internal/bytealg.IndexByteString", "internal/bytealg.IndexString", "internal/abi.NoEscape", "internal/bytealg.MakeNoZero", "slices.overlaps[kingpost/api.Num]"], unfollowed := true, recurses := true, named := ["kingpost/front.directions", "internal/strconv.uint64pow10", "math/bits.deBruijn32tab", "math/bits.deBruijn64tab", "unicode/utf8.first", "unicode/utf8.acceptRanges", "strconv.ErrSyntax", "strconv.ErrRange", "internal/bytealg.MaxLen"], apart := false, laid := [("math/bits.deBruijn32tab", laid_math_bits_deBruijn32tab), ("math/bits.deBruijn64tab", laid_math_bits_deBruijn64tab), ("internal/strconv.uint64pow10", laid_internal_strconv_uint64pow10), ("unicode/utf8.acceptRanges", laid_unicode_utf8_acceptRanges), ("strconv.ErrRange", laid_strconv_ErrRange), ("strconv.ErrSyntax", laid_strconv_ErrSyntax), ("kingpost/front.directions", laid_kingpost_front_directions), ("unicode/utf8.first", laid_unicode_utf8_first)], narrowed := true }
def LevelStartsUptoSaid : Prop := levelStartsUptoRow.holds Tryz.pinned (OpenSpec.upto levelStartsSpec)

/-- 'kingpostlaw17.LevelSteady', WHERE WHAT IT READS IS OF BULK AT MOST 1048576: true; the input reads as it did. -/
def levelSteadyUptoRow : OpenClaim := { program := "ytlagebbefnnnnaagreatdoor", sum := "425ed6b689854bad7ff34c9bd75e3cac6995deab92c741b3f0c82b6c371a1a56", func := "kingpost/kingpostlaw17.LevelSteady", spec := "levelSteady", inPlace := ["internal/bytealg.IndexByteString", "internal/bytealg.IndexString", "internal/abi.NoEscape", "internal/bytealg.MakeNoZero", "slices.overlaps[kingpost/api.Num]"], unfollowed := true, recurses := true, named := ["kingpost/front.directions", "internal/strconv.uint64pow10", "math/bits.deBruijn32tab", "math/bits.deBruijn64tab", "unicode/utf8.first", "unicode/utf8.acceptRanges", "strconv.ErrSyntax", "strconv.ErrRange", "internal/bytealg.MaxLen"], apart := false, laid := [("math/bits.deBruijn32tab", laid_math_bits_deBruijn32tab), ("math/bits.deBruijn64tab", laid_math_bits_deBruijn64tab), ("internal/strconv.uint64pow10", laid_internal_strconv_uint64pow10), ("unicode/utf8.acceptRanges", laid_unicode_utf8_acceptRanges), ("strconv.ErrRange", laid_strconv_ErrRange), ("strconv.ErrSyntax", laid_strconv_ErrSyntax), ("kingpost/front.directions", laid_kingpost_front_directions), ("unicode/utf8.first", laid_unicode_utf8_first)], narrowed := true }
def LevelSteadyUptoSaid : Prop := levelSteadyUptoRow.holds Tryz.pinned (OpenSpec.upto levelSteadySpec)

/-- 'kingpostlaw17.LevelReasons', WHERE WHAT IT READS IS OF BULK AT MOST 1048576: true; the input reads as it did. -/
def levelReasonsUptoRow : OpenClaim := { program := "ytlagebbefnnnnaagreatdoor", sum := "425ed6b689854bad7ff34c9bd75e3cac6995deab92c741b3f0c82b6c371a1a56", func := "kingpost/kingpostlaw17.LevelReasons", spec := "levelReasons", inPlace := ["internal/bytealg.IndexByteString", "internal/bytealg.IndexString", "internal/abi.NoEscape", "internal/bytealg.MakeNoZero", "slices.overlaps[kingpost/api.Num]"], unfollowed := true, recurses := true, named := ["kingpost/front.directions", "internal/strconv.uint64pow10", "math/bits.deBruijn32tab", "math/bits.deBruijn64tab", "unicode/utf8.first", "unicode/utf8.acceptRanges", "strconv.ErrSyntax", "strconv.ErrRange", "internal/bytealg.MaxLen"], apart := false, laid := [("math/bits.deBruijn32tab", laid_math_bits_deBruijn32tab), ("math/bits.deBruijn64tab", laid_math_bits_deBruijn64tab), ("internal/strconv.uint64pow10", laid_internal_strconv_uint64pow10), ("unicode/utf8.acceptRanges", laid_unicode_utf8_acceptRanges), ("strconv.ErrRange", laid_strconv_ErrRange), ("strconv.ErrSyntax", laid_strconv_ErrSyntax), ("kingpost/front.directions", laid_kingpost_front_directions), ("unicode/utf8.first", laid_unicode_utf8_first)], narrowed := true }
def LevelReasonsUptoSaid : Prop := levelReasonsUptoRow.holds Tryz.pinned (OpenSpec.upto levelReasonsSpec)

/-- 'kingpostlaw17.LevelNext', WHERE WHAT IT READS IS OF BULK AT MOST 1048576: true; the input reads as it did. -/
def levelNextUptoRow : OpenClaim := { program := "ytlagebbefnnnnaagreatdoor", sum := "425ed6b689854bad7ff34c9bd75e3cac6995deab92c741b3f0c82b6c371a1a56", func := "kingpost/kingpostlaw17.LevelNext", spec := "levelNext", inPlace := ["internal/bytealg.IndexByteString", "internal/bytealg.IndexString", "internal/abi.NoEscape", "internal/bytealg.MakeNoZero", "slices.overlaps[kingpost/api.Num]"], unfollowed := true, recurses := true, named := ["kingpost/front.directions", "internal/strconv.uint64pow10", "math/bits.deBruijn32tab", "math/bits.deBruijn64tab", "unicode/utf8.first", "unicode/utf8.acceptRanges", "strconv.ErrSyntax", "strconv.ErrRange", "internal/bytealg.MaxLen"], apart := false, laid := [("math/bits.deBruijn32tab", laid_math_bits_deBruijn32tab), ("math/bits.deBruijn64tab", laid_math_bits_deBruijn64tab), ("internal/strconv.uint64pow10", laid_internal_strconv_uint64pow10), ("unicode/utf8.acceptRanges", laid_unicode_utf8_acceptRanges), ("strconv.ErrRange", laid_strconv_ErrRange), ("strconv.ErrSyntax", laid_strconv_ErrSyntax), ("kingpost/front.directions", laid_kingpost_front_directions), ("unicode/utf8.first", laid_unicode_utf8_first)], narrowed := true }
def LevelNextUptoSaid : Prop := levelNextUptoRow.holds Tryz.pinned (OpenSpec.upto levelNextSpec)

/-- 'kingpostlaw17.LevelRaises', WHERE WHAT IT READS IS OF BULK AT MOST 1048576: true; the input reads as it did. -/
def levelRaisesUptoRow : OpenClaim := { program := "ytlagebbefnnnnaagreatdoor", sum := "425ed6b689854bad7ff34c9bd75e3cac6995deab92c741b3f0c82b6c371a1a56", func := "kingpost/kingpostlaw17.LevelRaises", spec := "levelRaises", inPlace := ["internal/bytealg.IndexByteString", "internal/bytealg.IndexString", "internal/abi.NoEscape", "internal/bytealg.MakeNoZero", "slices.overlaps[kingpost/api.Num]"], unfollowed := true, recurses := true, named := ["kingpost/front.directions", "internal/strconv.uint64pow10", "math/bits.deBruijn32tab", "math/bits.deBruijn64tab", "unicode/utf8.first", "unicode/utf8.acceptRanges", "strconv.ErrSyntax", "strconv.ErrRange", "internal/bytealg.MaxLen"], apart := false, laid := [("math/bits.deBruijn32tab", laid_math_bits_deBruijn32tab), ("math/bits.deBruijn64tab", laid_math_bits_deBruijn64tab), ("internal/strconv.uint64pow10", laid_internal_strconv_uint64pow10), ("unicode/utf8.acceptRanges", laid_unicode_utf8_acceptRanges), ("strconv.ErrRange", laid_strconv_ErrRange), ("strconv.ErrSyntax", laid_strconv_ErrSyntax), ("kingpost/front.directions", laid_kingpost_front_directions), ("unicode/utf8.first", laid_unicode_utf8_first)], narrowed := true }
def LevelRaisesUptoSaid : Prop := levelRaisesUptoRow.holds Tryz.pinned (OpenSpec.upto levelRaisesSpec)

/-- 'kingpostlaw17.LevelMoves', WHERE WHAT IT READS IS OF BULK AT MOST 1048576: true; the input reads as it did. -/
def levelMovesUptoRow : OpenClaim := { program := "ytlagebbefnnnnaagreatdoor", sum := "425ed6b689854bad7ff34c9bd75e3cac6995deab92c741b3f0c82b6c371a1a56", func := "kingpost/kingpostlaw17.LevelMoves", spec := "levelMoves", inPlace := ["internal/bytealg.IndexByteString", "internal/bytealg.IndexString", "internal/abi.NoEscape", "internal/bytealg.MakeNoZero", "slices.overlaps[kingpost/api.Num]"], unfollowed := true, recurses := true, named := ["kingpost/front.directions", "internal/strconv.uint64pow10", "math/bits.deBruijn32tab", "math/bits.deBruijn64tab", "unicode/utf8.first", "unicode/utf8.acceptRanges", "strconv.ErrSyntax", "strconv.ErrRange", "internal/bytealg.MaxLen"], apart := false, laid := [("math/bits.deBruijn32tab", laid_math_bits_deBruijn32tab), ("math/bits.deBruijn64tab", laid_math_bits_deBruijn64tab), ("internal/strconv.uint64pow10", laid_internal_strconv_uint64pow10), ("unicode/utf8.acceptRanges", laid_unicode_utf8_acceptRanges), ("strconv.ErrRange", laid_strconv_ErrRange), ("strconv.ErrSyntax", laid_strconv_ErrSyntax), ("kingpost/front.directions", laid_kingpost_front_directions), ("unicode/utf8.first", laid_unicode_utf8_first)], narrowed := true }
def LevelMovesUptoSaid : Prop := levelMovesUptoRow.holds Tryz.pinned (OpenSpec.upto levelMovesSpec)

end Rows
end Go.Proofs.YtlagebbefnnnnaaGreatDoor
