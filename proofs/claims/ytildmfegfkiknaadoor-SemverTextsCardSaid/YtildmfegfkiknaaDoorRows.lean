/-
  NARROWER THAN 'FOR EVERY INPUT', by the rows' own cells (each row's printed sentence says how): IdentRows: laid · IdentOrders: laid · IdentLonger: laid · PrecEnds: laid · SemverParses: laid · SemverPlaces: laid · PrecOrders: laid · PrecBuilds: laid · IdentGood: laid · SemverTexts: laid · SemverBack: laid.
  DERIVED. THE GIVEN ROWS OF THIS SEAT. 11 by the template 'for every input the law returns true; each argument reads behind the call as it read before'; 0 by the template 'total and deterministic' (their statements: YtildmfegfkiknaaDoorTotals.lean).
  GIVEN WITH THE SEED: the statements are not yours to turn. If you find one false, say at which input.
  Laid BY PROGRAM, IN A SANDBOX (cutbox-rows.mjs): the forced cells as the released guide's own fill.sh prints them over the translation 0367590837c19701… (all of the seat's roots in one cut). By AI agents, Wed Nov 11 2026. No macro, syntax, notation, axiom, sorry.
-/
import Derived.Test.YtildmfegfkiknaaDoorChecked
import GoSem.PinnedTables
import GoSem.Claim
import GoSem.ClaimJoined
import GoSem.ClaimMapViews
import Derived.JoinedTies
import Derived.KernelRfl
namespace Go.Proofs.YtildmfegfkiknaaDoor
/- THE CELL 'sum', in the pinned program and in every row, IS THE sha256 OF THE DUMP (.gsa) THAT YtildmfegfkiknaaDoorProg.lean LOADS. Nothing in Lean hashes anything: it is a label: what it is worth is what the hold of that sum in a sandbox is worth. -/
noncomputable def Tryd.pinned : Pinned := { name := "ytildmfegfkiknaadoor", sum := "0367590837c1970178cdde2e1b98b4a825133f2365cd8509a2787c64d07e9ff2", checked := Tryd.checked }
namespace Rows
def none {H : Type} : Left H := { results := [], args := [] }

/- WHAT THE LISTED PACKAGE-LEVEL VARIABLES READ AS WHEN THE CALL BEGINS. Each datum BY PROGRAM (the guide's laid-datum.mjs) off the statement by which the dump's own 'gosem.cut.vars' lays the variable. In a bare row this is a premise. The card (YtildmfegfkiknaaDoorCards.lean) ties it to the program's text. -/
def laid_unicode_utf8_acceptRanges {H : Type} : DataW H := .agg [.agg [.lit (.int .u8 128), .lit (.int .u8 191)], .agg [.lit (.int .u8 160), .lit (.int .u8 191)], .agg [.lit (.int .u8 128), .lit (.int .u8 159)], .agg [.lit (.int .u8 144), .lit (.int .u8 191)], .agg [.lit (.int .u8 128), .lit (.int .u8 143)], .agg [.lit (.int .u8 0), .lit (.int .u8 0)], .agg [.lit (.int .u8 0), .lit (.int .u8 0)], .agg [.lit (.int .u8 0), .lit (.int .u8 0)], .agg [.lit (.int .u8 0), .lit (.int .u8 0)], .agg [.lit (.int .u8 0), .lit (.int .u8 0)], .agg [.lit (.int .u8 0), .lit (.int .u8 0)], .agg [.lit (.int .u8 0), .lit (.int .u8 0)], .agg [.lit (.int .u8 0), .lit (.int .u8 0)], .agg [.lit (.int .u8 0), .lit (.int .u8 0)], .agg [.lit (.int .u8 0), .lit (.int .u8 0)], .agg [.lit (.int .u8 0), .lit (.int .u8 0)]]
/-- One of Go's own tables, pinned by name: the form's constant. -/
def laid_unicode_utf8_first : DataW Unit := Go.Pinned.utf8First
def laid_math_bits_deBruijn32tab {H : Type} : DataW H := .agg [.lit (.int .u8 0), .lit (.int .u8 1), .lit (.int .u8 28), .lit (.int .u8 2), .lit (.int .u8 29), .lit (.int .u8 14), .lit (.int .u8 24), .lit (.int .u8 3), .lit (.int .u8 30), .lit (.int .u8 22), .lit (.int .u8 20), .lit (.int .u8 15), .lit (.int .u8 25), .lit (.int .u8 17), .lit (.int .u8 4), .lit (.int .u8 8), .lit (.int .u8 31), .lit (.int .u8 27), .lit (.int .u8 13), .lit (.int .u8 23), .lit (.int .u8 21), .lit (.int .u8 19), .lit (.int .u8 16), .lit (.int .u8 7), .lit (.int .u8 26), .lit (.int .u8 12), .lit (.int .u8 18), .lit (.int .u8 6), .lit (.int .u8 11), .lit (.int .u8 5), .lit (.int .u8 10), .lit (.int .u8 9)]
def laid_math_bits_deBruijn64tab {H : Type} : DataW H := .agg [.lit (.int .u8 0), .lit (.int .u8 1), .lit (.int .u8 56), .lit (.int .u8 2), .lit (.int .u8 57), .lit (.int .u8 49), .lit (.int .u8 28), .lit (.int .u8 3), .lit (.int .u8 61), .lit (.int .u8 58), .lit (.int .u8 42), .lit (.int .u8 50), .lit (.int .u8 38), .lit (.int .u8 29), .lit (.int .u8 17), .lit (.int .u8 4), .lit (.int .u8 62), .lit (.int .u8 47), .lit (.int .u8 59), .lit (.int .u8 36), .lit (.int .u8 45), .lit (.int .u8 43), .lit (.int .u8 51), .lit (.int .u8 22), .lit (.int .u8 53), .lit (.int .u8 39), .lit (.int .u8 33), .lit (.int .u8 30), .lit (.int .u8 24), .lit (.int .u8 18), .lit (.int .u8 12), .lit (.int .u8 5), .lit (.int .u8 63), .lit (.int .u8 55), .lit (.int .u8 48), .lit (.int .u8 27), .lit (.int .u8 60), .lit (.int .u8 41), .lit (.int .u8 37), .lit (.int .u8 16), .lit (.int .u8 46), .lit (.int .u8 35), .lit (.int .u8 44), .lit (.int .u8 21), .lit (.int .u8 52), .lit (.int .u8 32), .lit (.int .u8 23), .lit (.int .u8 11), .lit (.int .u8 54), .lit (.int .u8 26), .lit (.int .u8 40), .lit (.int .u8 15), .lit (.int .u8 34), .lit (.int .u8 20), .lit (.int .u8 31), .lit (.int .u8 10), .lit (.int .u8 25), .lit (.int .u8 14), .lit (.int .u8 19), .lit (.int .u8 9), .lit (.int .u8 13), .lit (.int .u8 8), .lit (.int .u8 7), .lit (.int .u8 6)]
def laid_internal_strconv_uint64pow10 {H : Type} : DataW H := .agg [.lit (.int .u64 1), .lit (.int .u64 10), .lit (.int .u64 100), .lit (.int .u64 1000), .lit (.int .u64 10000), .lit (.int .u64 100000), .lit (.int .u64 1000000), .lit (.int .u64 10000000), .lit (.int .u64 100000000), .lit (.int .u64 1000000000), .lit (.int .u64 10000000000), .lit (.int .u64 100000000000), .lit (.int .u64 1000000000000), .lit (.int .u64 10000000000000), .lit (.int .u64 100000000000000), .lit (.int .u64 1000000000000000), .lit (.int .u64 10000000000000000), .lit (.int .u64 100000000000000000), .lit (.int .u64 1000000000000000000), .lit (.int .u64 10000000000000000000)]

/-- 'ferrulelaw02.IdentRows': WHATEVER THE INPUT: true; the input reads as it did. -/
def identRowsSpec : ChangeSpec := { name := "identRows", fn := fun _ => fun
  | [d1, d2, d3] => { results := [.lit (.bool true)], args := [d1, d2, d3] }
  | _ => none }
def identRowsRow : OpenClaim := { program := "ytildmfegfkiknaadoor", sum := "0367590837c1970178cdde2e1b98b4a825133f2365cd8509a2787c64d07e9ff2", func := "ferrule/ferrulelaw02.IdentRows", spec := "identRows", inPlace := ["internal/bytealg.IndexByteString", "internal/bytealg.IndexString", "internal/bytealg.abigen_runtime_cmpstring"], named := ["unicode/utf8.first", "unicode/utf8.acceptRanges", "internal/bytealg.MaxLen"], apart := false, laid := [("unicode/utf8.acceptRanges", laid_unicode_utf8_acceptRanges), ("unicode/utf8.first", laid_unicode_utf8_first)] }
def IdentRowsSaid : Prop := identRowsRow.holds Tryd.pinned (OpenSpec.ofChange identRowsSpec)

/-- ITS FALSE NEIGHBOUR: 'it returns false'. Refute it at one input. -/
def identRowsWrong : ChangeSpec := { name := "identRows", fn := fun _ => fun
  | [d1, d2, d3] => { results := [.lit (.bool false)], args := [d1, d2, d3] }
  | _ => none }
def IdentRowsWrongFalsely : Prop := identRowsRow.holds Tryd.pinned (OpenSpec.ofChange identRowsWrong)

/-- 'ferrulelaw02.IdentOrders': WHATEVER THE INPUT: true; the input reads as it did. -/
def identOrdersSpec : ChangeSpec := { name := "identOrders", fn := fun _ => fun
  | [d1, d2, d3] => { results := [.lit (.bool true)], args := [d1, d2, d3] }
  | _ => none }
def identOrdersRow : OpenClaim := { program := "ytildmfegfkiknaadoor", sum := "0367590837c1970178cdde2e1b98b4a825133f2365cd8509a2787c64d07e9ff2", func := "ferrule/ferrulelaw02.IdentOrders", spec := "identOrders", inPlace := ["internal/bytealg.IndexByteString", "internal/bytealg.IndexString", "internal/bytealg.abigen_runtime_cmpstring"], named := ["unicode/utf8.first", "unicode/utf8.acceptRanges", "internal/bytealg.MaxLen"], apart := false, laid := [("unicode/utf8.acceptRanges", laid_unicode_utf8_acceptRanges), ("unicode/utf8.first", laid_unicode_utf8_first)] }
def IdentOrdersSaid : Prop := identOrdersRow.holds Tryd.pinned (OpenSpec.ofChange identOrdersSpec)

/-- ITS FALSE NEIGHBOUR: 'it returns false'. Refute it at one input. -/
def identOrdersWrong : ChangeSpec := { name := "identOrders", fn := fun _ => fun
  | [d1, d2, d3] => { results := [.lit (.bool false)], args := [d1, d2, d3] }
  | _ => none }
def IdentOrdersWrongFalsely : Prop := identOrdersRow.holds Tryd.pinned (OpenSpec.ofChange identOrdersWrong)

/-- 'ferrulelaw02.IdentLonger': WHATEVER THE INPUT: true; the input reads as it did. -/
def identLongerSpec : ChangeSpec := { name := "identLonger", fn := fun _ => fun
  | [d1, d2, d3] => { results := [.lit (.bool true)], args := [d1, d2, d3] }
  | _ => none }
def identLongerRow : OpenClaim := { program := "ytildmfegfkiknaadoor", sum := "0367590837c1970178cdde2e1b98b4a825133f2365cd8509a2787c64d07e9ff2", func := "ferrule/ferrulelaw02.IdentLonger", spec := "identLonger", inPlace := ["internal/bytealg.IndexByteString", "internal/bytealg.IndexString", "internal/bytealg.abigen_runtime_cmpstring"], unfollowed := true, recurses := true, named := ["unicode/utf8.first", "unicode/utf8.acceptRanges", "internal/bytealg.MaxLen"], apart := false, laid := [("unicode/utf8.acceptRanges", laid_unicode_utf8_acceptRanges), ("unicode/utf8.first", laid_unicode_utf8_first)] }
def IdentLongerSaid : Prop := identLongerRow.holds Tryd.pinned (OpenSpec.ofChange identLongerSpec)

/-- ITS FALSE NEIGHBOUR: 'it returns false'. Refute it at one input. -/
def identLongerWrong : ChangeSpec := { name := "identLonger", fn := fun _ => fun
  | [d1, d2, d3] => { results := [.lit (.bool false)], args := [d1, d2, d3] }
  | _ => none }
def IdentLongerWrongFalsely : Prop := identLongerRow.holds Tryd.pinned (OpenSpec.ofChange identLongerWrong)

/-- 'ferrulelaw04.PrecEnds': WHATEVER THE INPUT: true; the input reads as it did. -/
def precEndsSpec : ChangeSpec := { name := "precEnds", fn := fun _ => fun
  | [d1, d2] => { results := [.lit (.bool true)], args := [d1, d2] }
  | _ => none }
def precEndsRow : OpenClaim := { program := "ytildmfegfkiknaadoor", sum := "0367590837c1970178cdde2e1b98b4a825133f2365cd8509a2787c64d07e9ff2", func := "ferrule/ferrulelaw04.PrecEnds", spec := "precEnds", inPlace := ["internal/bytealg.IndexByteString", "internal/bytealg.IndexString", "internal/bytealg.abigen_runtime_cmpstring"], unfollowed := true, recurses := true, named := ["unicode/utf8.first", "unicode/utf8.acceptRanges", "internal/bytealg.MaxLen"], apart := false, laid := [("unicode/utf8.acceptRanges", laid_unicode_utf8_acceptRanges), ("unicode/utf8.first", laid_unicode_utf8_first)] }
def PrecEndsSaid : Prop := precEndsRow.holds Tryd.pinned (OpenSpec.ofChange precEndsSpec)

/-- ITS FALSE NEIGHBOUR: 'it returns false'. Refute it at one input. -/
def precEndsWrong : ChangeSpec := { name := "precEnds", fn := fun _ => fun
  | [d1, d2] => { results := [.lit (.bool false)], args := [d1, d2] }
  | _ => none }
def PrecEndsWrongFalsely : Prop := precEndsRow.holds Tryd.pinned (OpenSpec.ofChange precEndsWrong)

/-- 'ferrulelaw03.SemverParses': WHATEVER THE INPUT: true; the input reads as it did. -/
def semverParsesSpec : ChangeSpec := { name := "semverParses", fn := fun _ => fun
  | [d1, d2] => { results := [.lit (.bool true)], args := [d1, d2] }
  | _ => none }
def semverParsesRow : OpenClaim := { program := "ytildmfegfkiknaadoor", sum := "0367590837c1970178cdde2e1b98b4a825133f2365cd8509a2787c64d07e9ff2", func := "ferrule/ferrulelaw03.SemverParses", spec := "semverParses", inPlace := ["internal/bytealg.IndexByteString", "internal/bytealg.IndexString"], named := ["unicode/utf8.first", "unicode/utf8.acceptRanges", "internal/bytealg.MaxLen"], apart := false, laid := [("unicode/utf8.acceptRanges", laid_unicode_utf8_acceptRanges), ("unicode/utf8.first", laid_unicode_utf8_first)] }
def SemverParsesSaid : Prop := semverParsesRow.holds Tryd.pinned (OpenSpec.ofChange semverParsesSpec)

/-- ITS FALSE NEIGHBOUR: 'it returns false'. Refute it at one input. -/
def semverParsesWrong : ChangeSpec := { name := "semverParses", fn := fun _ => fun
  | [d1, d2] => { results := [.lit (.bool false)], args := [d1, d2] }
  | _ => none }
def SemverParsesWrongFalsely : Prop := semverParsesRow.holds Tryd.pinned (OpenSpec.ofChange semverParsesWrong)

/-- 'ferrulelaw03.SemverPlaces': WHATEVER THE INPUT: true; the input reads as it did. -/
def semverPlacesSpec : ChangeSpec := { name := "semverPlaces", fn := fun _ => fun
  | [d1, d2] => { results := [.lit (.bool true)], args := [d1, d2] }
  | _ => none }
def semverPlacesRow : OpenClaim := { program := "ytildmfegfkiknaadoor", sum := "0367590837c1970178cdde2e1b98b4a825133f2365cd8509a2787c64d07e9ff2", func := "ferrule/ferrulelaw03.SemverPlaces", spec := "semverPlaces", inPlace := ["internal/bytealg.IndexByteString", "internal/bytealg.IndexString"], named := ["unicode/utf8.first", "unicode/utf8.acceptRanges", "internal/bytealg.MaxLen"], apart := false, laid := [("unicode/utf8.acceptRanges", laid_unicode_utf8_acceptRanges), ("unicode/utf8.first", laid_unicode_utf8_first)] }
def SemverPlacesSaid : Prop := semverPlacesRow.holds Tryd.pinned (OpenSpec.ofChange semverPlacesSpec)

/-- ITS FALSE NEIGHBOUR: 'it returns false'. Refute it at one input. -/
def semverPlacesWrong : ChangeSpec := { name := "semverPlaces", fn := fun _ => fun
  | [d1, d2] => { results := [.lit (.bool false)], args := [d1, d2] }
  | _ => none }
def SemverPlacesWrongFalsely : Prop := semverPlacesRow.holds Tryd.pinned (OpenSpec.ofChange semverPlacesWrong)

/-- 'ferrulelaw04.PrecOrders': WHATEVER THE INPUT: true; the input reads as it did. -/
def precOrdersSpec : ChangeSpec := { name := "precOrders", fn := fun _ => fun
  | [d1, d2, d3] => { results := [.lit (.bool true)], args := [d1, d2, d3] }
  | _ => none }
def precOrdersRow : OpenClaim := { program := "ytildmfegfkiknaadoor", sum := "0367590837c1970178cdde2e1b98b4a825133f2365cd8509a2787c64d07e9ff2", func := "ferrule/ferrulelaw04.PrecOrders", spec := "precOrders", inPlace := ["internal/bytealg.IndexByteString", "internal/bytealg.IndexString", "internal/bytealg.abigen_runtime_cmpstring"], unfollowed := true, recurses := true, named := ["unicode/utf8.first", "unicode/utf8.acceptRanges", "internal/bytealg.MaxLen"], apart := false, laid := [("unicode/utf8.acceptRanges", laid_unicode_utf8_acceptRanges), ("unicode/utf8.first", laid_unicode_utf8_first)] }
def PrecOrdersSaid : Prop := precOrdersRow.holds Tryd.pinned (OpenSpec.ofChange precOrdersSpec)

/-- ITS FALSE NEIGHBOUR: 'it returns false'. Refute it at one input. -/
def precOrdersWrong : ChangeSpec := { name := "precOrders", fn := fun _ => fun
  | [d1, d2, d3] => { results := [.lit (.bool false)], args := [d1, d2, d3] }
  | _ => none }
def PrecOrdersWrongFalsely : Prop := precOrdersRow.holds Tryd.pinned (OpenSpec.ofChange precOrdersWrong)

/-- 'ferrulelaw04.PrecBuilds': WHATEVER THE INPUT: true; the input reads as it did. -/
def precBuildsSpec : ChangeSpec := { name := "precBuilds", fn := fun _ => fun
  | [d1, d2] => { results := [.lit (.bool true)], args := [d1, d2] }
  | _ => none }
def precBuildsRow : OpenClaim := { program := "ytildmfegfkiknaadoor", sum := "0367590837c1970178cdde2e1b98b4a825133f2365cd8509a2787c64d07e9ff2", func := "ferrule/ferrulelaw04.PrecBuilds", spec := "precBuilds", inPlace := ["internal/bytealg.IndexByteString", "internal/bytealg.IndexString", "internal/bytealg.abigen_runtime_cmpstring"], unfollowed := true, recurses := true, named := ["unicode/utf8.first", "unicode/utf8.acceptRanges", "internal/bytealg.MaxLen"], apart := false, laid := [("unicode/utf8.acceptRanges", laid_unicode_utf8_acceptRanges), ("unicode/utf8.first", laid_unicode_utf8_first)] }
def PrecBuildsSaid : Prop := precBuildsRow.holds Tryd.pinned (OpenSpec.ofChange precBuildsSpec)

/-- ITS FALSE NEIGHBOUR: 'it returns false'. Refute it at one input. -/
def precBuildsWrong : ChangeSpec := { name := "precBuilds", fn := fun _ => fun
  | [d1, d2] => { results := [.lit (.bool false)], args := [d1, d2] }
  | _ => none }
def PrecBuildsWrongFalsely : Prop := precBuildsRow.holds Tryd.pinned (OpenSpec.ofChange precBuildsWrong)

/-- 'ferrulelaw02.IdentGood': WHATEVER THE INPUT: true; the input reads as it did. -/
def identGoodSpec : ChangeSpec := { name := "identGood", fn := fun _ => fun
  | [d1, d2] => { results := [.lit (.bool true)], args := [d1, d2] }
  | _ => none }
def identGoodRow : OpenClaim := { program := "ytildmfegfkiknaadoor", sum := "0367590837c1970178cdde2e1b98b4a825133f2365cd8509a2787c64d07e9ff2", func := "ferrule/ferrulelaw02.IdentGood", spec := "identGood", inPlace := ["internal/bytealg.IndexByteString", "internal/bytealg.IndexString", "internal/bytealg.abigen_runtime_cmpstring", "internal/abi.NoEscape", "internal/bytealg.MakeNoZero"], named := ["unicode/utf8.first", "unicode/utf8.acceptRanges", "internal/bytealg.MaxLen"], apart := false, laid := [("unicode/utf8.acceptRanges", laid_unicode_utf8_acceptRanges), ("unicode/utf8.first", laid_unicode_utf8_first)] }
def IdentGoodSaid : Prop := identGoodRow.holds Tryd.pinned (OpenSpec.ofChange identGoodSpec)

/-- ITS FALSE NEIGHBOUR: 'it returns false'. Refute it at one input. -/
def identGoodWrong : ChangeSpec := { name := "identGood", fn := fun _ => fun
  | [d1, d2] => { results := [.lit (.bool false)], args := [d1, d2] }
  | _ => none }
def IdentGoodWrongFalsely : Prop := identGoodRow.holds Tryd.pinned (OpenSpec.ofChange identGoodWrong)

/-- 'ferrulelaw03.SemverTexts': WHATEVER THE INPUT: true; the input reads as it did. -/
def semverTextsSpec : ChangeSpec := { name := "semverTexts", fn := fun _ => fun
  | [d1, d2] => { results := [.lit (.bool true)], args := [d1, d2] }
  | _ => none }
def semverTextsRow : OpenClaim := { program := "ytildmfegfkiknaadoor", sum := "0367590837c1970178cdde2e1b98b4a825133f2365cd8509a2787c64d07e9ff2", func := "ferrule/ferrulelaw03.SemverTexts", spec := "semverTexts", inPlace := ["internal/bytealg.IndexByteString", "internal/bytealg.IndexString", "internal/abi.NoEscape", "internal/bytealg.MakeNoZero"], named := ["unicode/utf8.first", "unicode/utf8.acceptRanges", "internal/strconv.uint64pow10", "math/bits.deBruijn32tab", "math/bits.deBruijn64tab", "internal/bytealg.MaxLen"], apart := false, laid := [("math/bits.deBruijn32tab", laid_math_bits_deBruijn32tab), ("math/bits.deBruijn64tab", laid_math_bits_deBruijn64tab), ("internal/strconv.uint64pow10", laid_internal_strconv_uint64pow10), ("unicode/utf8.acceptRanges", laid_unicode_utf8_acceptRanges), ("unicode/utf8.first", laid_unicode_utf8_first)] }
def SemverTextsSaid : Prop := semverTextsRow.holds Tryd.pinned (OpenSpec.ofChange semverTextsSpec)

/-- ITS FALSE NEIGHBOUR: 'it returns false'. Refute it at one input. -/
def semverTextsWrong : ChangeSpec := { name := "semverTexts", fn := fun _ => fun
  | [d1, d2] => { results := [.lit (.bool false)], args := [d1, d2] }
  | _ => none }
def SemverTextsWrongFalsely : Prop := semverTextsRow.holds Tryd.pinned (OpenSpec.ofChange semverTextsWrong)

/-- 'ferrulelaw03.SemverBack': WHATEVER THE INPUT: true; the input reads as it did. -/
def semverBackSpec : ChangeSpec := { name := "semverBack", fn := fun _ => fun
  | [d] => { results := [.lit (.bool true)], args := [d] }
  | _ => none }
def semverBackRow : OpenClaim := { program := "ytildmfegfkiknaadoor", sum := "0367590837c1970178cdde2e1b98b4a825133f2365cd8509a2787c64d07e9ff2", func := "ferrule/ferrulelaw03.SemverBack", spec := "semverBack", inPlace := ["internal/bytealg.IndexByteString", "internal/bytealg.IndexString", "internal/abi.NoEscape", "internal/bytealg.MakeNoZero"], named := ["unicode/utf8.first", "unicode/utf8.acceptRanges", "internal/strconv.uint64pow10", "math/bits.deBruijn32tab", "math/bits.deBruijn64tab", "internal/bytealg.MaxLen"], apart := false, laid := [("math/bits.deBruijn32tab", laid_math_bits_deBruijn32tab), ("math/bits.deBruijn64tab", laid_math_bits_deBruijn64tab), ("internal/strconv.uint64pow10", laid_internal_strconv_uint64pow10), ("unicode/utf8.acceptRanges", laid_unicode_utf8_acceptRanges), ("unicode/utf8.first", laid_unicode_utf8_first)] }
def SemverBackSaid : Prop := semverBackRow.holds Tryd.pinned (OpenSpec.ofChange semverBackSpec)

/-- ITS FALSE NEIGHBOUR: 'it returns false'. Refute it at one input. -/
def semverBackWrong : ChangeSpec := { name := "semverBack", fn := fun _ => fun
  | [d] => { results := [.lit (.bool false)], args := [d] }
  | _ => none }
def SemverBackWrongFalsely : Prop := semverBackRow.holds Tryd.pinned (OpenSpec.ofChange semverBackWrong)

/- THE SECOND FORM. 'bulk': how many values and letters a reading holds, each counted each time it is reached (what is shared counts as often as it is met; a slice's spare places count too). A statement '..UptoSaid' is the law's where the arguments, and the package variables that the reading takes, are together of bulk at most 1048576: NARROWER than '..Said'. Prove '..Said' where nothing that the law and all that it calls make is longer than what came in: it says more and counts as full. Else prove '..UptoSaid'. A law counts once. -/
mutual
def uptoBulk {H : Type} : DataW H → Nat
  | .lit (.string bytes) => bytes.length + 1
  | .lit _ => 1
  | .nil => 1
  | .ptr d => uptoBulk d + 1
  | .slice elems spare => uptoBulkAll elems + uptoBulkAll spare + 1
  | .agg parts => uptoBulkAll parts + 1
  | .iface _ d => uptoBulk d + 1
  | .map entries => uptoBulkEntries entries + 1
  | .held _ => 1
def uptoBulkAll {H : Type} : List (DataW H) → Nat
  | [] => 0
  | d :: r => uptoBulk d + uptoBulkAll r
def uptoBulkEntries {H : Type} : List (Lit × DataW H) → Nat
  | [] => 0
  | x :: r => uptoBulkEntry x + uptoBulkEntries r
def uptoBulkEntry {H : Type} : Lit × DataW H → Nat
  | (.string bytes, d) => bytes.length + uptoBulk d + 1
  | (_, d) => uptoBulk d + 1
 end
def uptoSmall : (H : Type) → List (DataW H) → Bool := fun _ ds => decide (uptoBulkAll ds ≤ 1048576)
def OpenSpec.upto (s : _root_.Go.ChangeSpec) : _root_.Go.OpenSpec := { _root_.Go.OpenSpec.ofChange s with cond := some uptoSmall }

/-- 'ferrulelaw02.IdentRows', WHERE WHAT IT READS IS OF BULK AT MOST 1048576: true; the input reads as it did. -/
def identRowsUptoRow : OpenClaim := { program := "ytildmfegfkiknaadoor", sum := "0367590837c1970178cdde2e1b98b4a825133f2365cd8509a2787c64d07e9ff2", func := "ferrule/ferrulelaw02.IdentRows", spec := "identRows", inPlace := ["internal/bytealg.IndexByteString", "internal/bytealg.IndexString", "internal/bytealg.abigen_runtime_cmpstring"], named := ["unicode/utf8.first", "unicode/utf8.acceptRanges", "internal/bytealg.MaxLen"], apart := false, laid := [("unicode/utf8.acceptRanges", laid_unicode_utf8_acceptRanges), ("unicode/utf8.first", laid_unicode_utf8_first)], narrowed := true }
def IdentRowsUptoSaid : Prop := identRowsUptoRow.holds Tryd.pinned (OpenSpec.upto identRowsSpec)

/-- 'ferrulelaw02.IdentOrders', WHERE WHAT IT READS IS OF BULK AT MOST 1048576: true; the input reads as it did. -/
def identOrdersUptoRow : OpenClaim := { program := "ytildmfegfkiknaadoor", sum := "0367590837c1970178cdde2e1b98b4a825133f2365cd8509a2787c64d07e9ff2", func := "ferrule/ferrulelaw02.IdentOrders", spec := "identOrders", inPlace := ["internal/bytealg.IndexByteString", "internal/bytealg.IndexString", "internal/bytealg.abigen_runtime_cmpstring"], named := ["unicode/utf8.first", "unicode/utf8.acceptRanges", "internal/bytealg.MaxLen"], apart := false, laid := [("unicode/utf8.acceptRanges", laid_unicode_utf8_acceptRanges), ("unicode/utf8.first", laid_unicode_utf8_first)], narrowed := true }
def IdentOrdersUptoSaid : Prop := identOrdersUptoRow.holds Tryd.pinned (OpenSpec.upto identOrdersSpec)

/-- 'ferrulelaw02.IdentLonger', WHERE WHAT IT READS IS OF BULK AT MOST 1048576: true; the input reads as it did. -/
def identLongerUptoRow : OpenClaim := { program := "ytildmfegfkiknaadoor", sum := "0367590837c1970178cdde2e1b98b4a825133f2365cd8509a2787c64d07e9ff2", func := "ferrule/ferrulelaw02.IdentLonger", spec := "identLonger", inPlace := ["internal/bytealg.IndexByteString", "internal/bytealg.IndexString", "internal/bytealg.abigen_runtime_cmpstring"], unfollowed := true, recurses := true, named := ["unicode/utf8.first", "unicode/utf8.acceptRanges", "internal/bytealg.MaxLen"], apart := false, laid := [("unicode/utf8.acceptRanges", laid_unicode_utf8_acceptRanges), ("unicode/utf8.first", laid_unicode_utf8_first)], narrowed := true }
def IdentLongerUptoSaid : Prop := identLongerUptoRow.holds Tryd.pinned (OpenSpec.upto identLongerSpec)

/-- 'ferrulelaw04.PrecEnds', WHERE WHAT IT READS IS OF BULK AT MOST 1048576: true; the input reads as it did. -/
def precEndsUptoRow : OpenClaim := { program := "ytildmfegfkiknaadoor", sum := "0367590837c1970178cdde2e1b98b4a825133f2365cd8509a2787c64d07e9ff2", func := "ferrule/ferrulelaw04.PrecEnds", spec := "precEnds", inPlace := ["internal/bytealg.IndexByteString", "internal/bytealg.IndexString", "internal/bytealg.abigen_runtime_cmpstring"], unfollowed := true, recurses := true, named := ["unicode/utf8.first", "unicode/utf8.acceptRanges", "internal/bytealg.MaxLen"], apart := false, laid := [("unicode/utf8.acceptRanges", laid_unicode_utf8_acceptRanges), ("unicode/utf8.first", laid_unicode_utf8_first)], narrowed := true }
def PrecEndsUptoSaid : Prop := precEndsUptoRow.holds Tryd.pinned (OpenSpec.upto precEndsSpec)

/-- 'ferrulelaw03.SemverParses', WHERE WHAT IT READS IS OF BULK AT MOST 1048576: true; the input reads as it did. -/
def semverParsesUptoRow : OpenClaim := { program := "ytildmfegfkiknaadoor", sum := "0367590837c1970178cdde2e1b98b4a825133f2365cd8509a2787c64d07e9ff2", func := "ferrule/ferrulelaw03.SemverParses", spec := "semverParses", inPlace := ["internal/bytealg.IndexByteString", "internal/bytealg.IndexString"], named := ["unicode/utf8.first", "unicode/utf8.acceptRanges", "internal/bytealg.MaxLen"], apart := false, laid := [("unicode/utf8.acceptRanges", laid_unicode_utf8_acceptRanges), ("unicode/utf8.first", laid_unicode_utf8_first)], narrowed := true }
def SemverParsesUptoSaid : Prop := semverParsesUptoRow.holds Tryd.pinned (OpenSpec.upto semverParsesSpec)

/-- 'ferrulelaw03.SemverPlaces', WHERE WHAT IT READS IS OF BULK AT MOST 1048576: true; the input reads as it did. -/
def semverPlacesUptoRow : OpenClaim := { program := "ytildmfegfkiknaadoor", sum := "0367590837c1970178cdde2e1b98b4a825133f2365cd8509a2787c64d07e9ff2", func := "ferrule/ferrulelaw03.SemverPlaces", spec := "semverPlaces", inPlace := ["internal/bytealg.IndexByteString", "internal/bytealg.IndexString"], named := ["unicode/utf8.first", "unicode/utf8.acceptRanges", "internal/bytealg.MaxLen"], apart := false, laid := [("unicode/utf8.acceptRanges", laid_unicode_utf8_acceptRanges), ("unicode/utf8.first", laid_unicode_utf8_first)], narrowed := true }
def SemverPlacesUptoSaid : Prop := semverPlacesUptoRow.holds Tryd.pinned (OpenSpec.upto semverPlacesSpec)

/-- 'ferrulelaw04.PrecOrders', WHERE WHAT IT READS IS OF BULK AT MOST 1048576: true; the input reads as it did. -/
def precOrdersUptoRow : OpenClaim := { program := "ytildmfegfkiknaadoor", sum := "0367590837c1970178cdde2e1b98b4a825133f2365cd8509a2787c64d07e9ff2", func := "ferrule/ferrulelaw04.PrecOrders", spec := "precOrders", inPlace := ["internal/bytealg.IndexByteString", "internal/bytealg.IndexString", "internal/bytealg.abigen_runtime_cmpstring"], unfollowed := true, recurses := true, named := ["unicode/utf8.first", "unicode/utf8.acceptRanges", "internal/bytealg.MaxLen"], apart := false, laid := [("unicode/utf8.acceptRanges", laid_unicode_utf8_acceptRanges), ("unicode/utf8.first", laid_unicode_utf8_first)], narrowed := true }
def PrecOrdersUptoSaid : Prop := precOrdersUptoRow.holds Tryd.pinned (OpenSpec.upto precOrdersSpec)

/-- 'ferrulelaw04.PrecBuilds', WHERE WHAT IT READS IS OF BULK AT MOST 1048576: true; the input reads as it did. -/
def precBuildsUptoRow : OpenClaim := { program := "ytildmfegfkiknaadoor", sum := "0367590837c1970178cdde2e1b98b4a825133f2365cd8509a2787c64d07e9ff2", func := "ferrule/ferrulelaw04.PrecBuilds", spec := "precBuilds", inPlace := ["internal/bytealg.IndexByteString", "internal/bytealg.IndexString", "internal/bytealg.abigen_runtime_cmpstring"], unfollowed := true, recurses := true, named := ["unicode/utf8.first", "unicode/utf8.acceptRanges", "internal/bytealg.MaxLen"], apart := false, laid := [("unicode/utf8.acceptRanges", laid_unicode_utf8_acceptRanges), ("unicode/utf8.first", laid_unicode_utf8_first)], narrowed := true }
def PrecBuildsUptoSaid : Prop := precBuildsUptoRow.holds Tryd.pinned (OpenSpec.upto precBuildsSpec)

/-- 'ferrulelaw02.IdentGood', WHERE WHAT IT READS IS OF BULK AT MOST 1048576: true; the input reads as it did. -/
def identGoodUptoRow : OpenClaim := { program := "ytildmfegfkiknaadoor", sum := "0367590837c1970178cdde2e1b98b4a825133f2365cd8509a2787c64d07e9ff2", func := "ferrule/ferrulelaw02.IdentGood", spec := "identGood", inPlace := ["internal/bytealg.IndexByteString", "internal/bytealg.IndexString", "internal/bytealg.abigen_runtime_cmpstring", "internal/abi.NoEscape", "internal/bytealg.MakeNoZero"], named := ["unicode/utf8.first", "unicode/utf8.acceptRanges", "internal/bytealg.MaxLen"], apart := false, laid := [("unicode/utf8.acceptRanges", laid_unicode_utf8_acceptRanges), ("unicode/utf8.first", laid_unicode_utf8_first)], narrowed := true }
def IdentGoodUptoSaid : Prop := identGoodUptoRow.holds Tryd.pinned (OpenSpec.upto identGoodSpec)

/-- 'ferrulelaw03.SemverTexts', WHERE WHAT IT READS IS OF BULK AT MOST 1048576: true; the input reads as it did. -/
def semverTextsUptoRow : OpenClaim := { program := "ytildmfegfkiknaadoor", sum := "0367590837c1970178cdde2e1b98b4a825133f2365cd8509a2787c64d07e9ff2", func := "ferrule/ferrulelaw03.SemverTexts", spec := "semverTexts", inPlace := ["internal/bytealg.IndexByteString", "internal/bytealg.IndexString", "internal/abi.NoEscape", "internal/bytealg.MakeNoZero"], named := ["unicode/utf8.first", "unicode/utf8.acceptRanges", "internal/strconv.uint64pow10", "math/bits.deBruijn32tab", "math/bits.deBruijn64tab", "internal/bytealg.MaxLen"], apart := false, laid := [("math/bits.deBruijn32tab", laid_math_bits_deBruijn32tab), ("math/bits.deBruijn64tab", laid_math_bits_deBruijn64tab), ("internal/strconv.uint64pow10", laid_internal_strconv_uint64pow10), ("unicode/utf8.acceptRanges", laid_unicode_utf8_acceptRanges), ("unicode/utf8.first", laid_unicode_utf8_first)], narrowed := true }
def SemverTextsUptoSaid : Prop := semverTextsUptoRow.holds Tryd.pinned (OpenSpec.upto semverTextsSpec)

/-- 'ferrulelaw03.SemverBack', WHERE WHAT IT READS IS OF BULK AT MOST 1048576: true; the input reads as it did. -/
def semverBackUptoRow : OpenClaim := { program := "ytildmfegfkiknaadoor", sum := "0367590837c1970178cdde2e1b98b4a825133f2365cd8509a2787c64d07e9ff2", func := "ferrule/ferrulelaw03.SemverBack", spec := "semverBack", inPlace := ["internal/bytealg.IndexByteString", "internal/bytealg.IndexString", "internal/abi.NoEscape", "internal/bytealg.MakeNoZero"], named := ["unicode/utf8.first", "unicode/utf8.acceptRanges", "internal/strconv.uint64pow10", "math/bits.deBruijn32tab", "math/bits.deBruijn64tab", "internal/bytealg.MaxLen"], apart := false, laid := [("math/bits.deBruijn32tab", laid_math_bits_deBruijn32tab), ("math/bits.deBruijn64tab", laid_math_bits_deBruijn64tab), ("internal/strconv.uint64pow10", laid_internal_strconv_uint64pow10), ("unicode/utf8.acceptRanges", laid_unicode_utf8_acceptRanges), ("unicode/utf8.first", laid_unicode_utf8_first)], narrowed := true }
def SemverBackUptoSaid : Prop := semverBackUptoRow.holds Tryd.pinned (OpenSpec.upto semverBackSpec)

end Rows
end Go.Proofs.YtildmfegfkiknaaDoor
