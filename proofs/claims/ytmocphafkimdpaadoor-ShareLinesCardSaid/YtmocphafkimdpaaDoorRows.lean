/-
  NARROWER THAN 'FOR EVERY INPUT', by the rows' own cells (each row's printed sentence says how): ShareDelta: laid · ShareReach: laid · ShareSides: laid · ElementValues: laid · WholeParts: laid · ElementParses: laid · ElementSums: laid · ElementChange: laid · ElementChecks: laid · ShareLines: laid · MoneyTexts: laid · MoneyParses: laid · MoneyAbs: laid · MoneySpreads: laid · MoneyAdds: laid · MoneySums: laid · MoneyTimes: laid · MoneyUnits: laid · ElementTexts: laid.
  DERIVED. THE GIVEN ROWS OF THIS SEAT. 19 by the template 'for every input the law returns true; each argument reads behind the call as it read before'; 0 by the template 'total and deterministic' (their statements: YtmocphafkimdpaaDoorTotals.lean).
  GIVEN WITH THE SEED: the statements are not yours to turn. If you find one false, say at which input.
  Laid BY PROGRAM, IN A SANDBOX (cutbox-rows.mjs): the forced cells as the released guide's own fill.sh prints them over the translation ab37efe0682ab843… (all of the seat's roots in one cut). By AI agents, Wed Nov 11 2026. No macro, syntax, notation, axiom, sorry.
-/
import Derived.Test.YtmocphafkimdpaaDoorChecked
import GoSem.Claim
import GoSem.ClaimJoined
import GoSem.ClaimMapViews
import Derived.JoinedTies
import Derived.KernelRfl
namespace Go.Proofs.YtmocphafkimdpaaDoor
/- THE CELL 'sum', in the pinned program and in every row, IS THE sha256 OF THE DUMP (.gsa) THAT YtmocphafkimdpaaDoorProg.lean LOADS. Nothing in Lean hashes anything: it is a label: what it is worth is what the hold of that sum in a sandbox is worth. -/
noncomputable def Tryd.pinned : Pinned := { name := "ytmocphafkimdpaadoor", sum := "ab37efe0682ab843e694b6d96c86f627892ce347712de6b4648a58963439df04", checked := Tryd.checked }
namespace Rows
def none {H : Type} : Left H := { results := [], args := [] }

/- WHAT THE LISTED PACKAGE-LEVEL VARIABLES READ AS WHEN THE CALL BEGINS. Each datum BY PROGRAM (the guide's laid-datum.mjs) off the statement by which the dump's own 'gosem.cut.vars' lays the variable. In a bare row this is a premise. The card (YtmocphafkimdpaaDoorCards.lean) ties it to the program's text. -/
def laid_math_bits_deBruijn32tab {H : Type} : DataW H := .agg [.lit (.int .u8 0), .lit (.int .u8 1), .lit (.int .u8 28), .lit (.int .u8 2), .lit (.int .u8 29), .lit (.int .u8 14), .lit (.int .u8 24), .lit (.int .u8 3), .lit (.int .u8 30), .lit (.int .u8 22), .lit (.int .u8 20), .lit (.int .u8 15), .lit (.int .u8 25), .lit (.int .u8 17), .lit (.int .u8 4), .lit (.int .u8 8), .lit (.int .u8 31), .lit (.int .u8 27), .lit (.int .u8 13), .lit (.int .u8 23), .lit (.int .u8 21), .lit (.int .u8 19), .lit (.int .u8 16), .lit (.int .u8 7), .lit (.int .u8 26), .lit (.int .u8 12), .lit (.int .u8 18), .lit (.int .u8 6), .lit (.int .u8 11), .lit (.int .u8 5), .lit (.int .u8 10), .lit (.int .u8 9)]
def laid_math_bits_deBruijn64tab {H : Type} : DataW H := .agg [.lit (.int .u8 0), .lit (.int .u8 1), .lit (.int .u8 56), .lit (.int .u8 2), .lit (.int .u8 57), .lit (.int .u8 49), .lit (.int .u8 28), .lit (.int .u8 3), .lit (.int .u8 61), .lit (.int .u8 58), .lit (.int .u8 42), .lit (.int .u8 50), .lit (.int .u8 38), .lit (.int .u8 29), .lit (.int .u8 17), .lit (.int .u8 4), .lit (.int .u8 62), .lit (.int .u8 47), .lit (.int .u8 59), .lit (.int .u8 36), .lit (.int .u8 45), .lit (.int .u8 43), .lit (.int .u8 51), .lit (.int .u8 22), .lit (.int .u8 53), .lit (.int .u8 39), .lit (.int .u8 33), .lit (.int .u8 30), .lit (.int .u8 24), .lit (.int .u8 18), .lit (.int .u8 12), .lit (.int .u8 5), .lit (.int .u8 63), .lit (.int .u8 55), .lit (.int .u8 48), .lit (.int .u8 27), .lit (.int .u8 60), .lit (.int .u8 41), .lit (.int .u8 37), .lit (.int .u8 16), .lit (.int .u8 46), .lit (.int .u8 35), .lit (.int .u8 44), .lit (.int .u8 21), .lit (.int .u8 52), .lit (.int .u8 32), .lit (.int .u8 23), .lit (.int .u8 11), .lit (.int .u8 54), .lit (.int .u8 26), .lit (.int .u8 40), .lit (.int .u8 15), .lit (.int .u8 34), .lit (.int .u8 20), .lit (.int .u8 31), .lit (.int .u8 10), .lit (.int .u8 25), .lit (.int .u8 14), .lit (.int .u8 19), .lit (.int .u8 9), .lit (.int .u8 13), .lit (.int .u8 8), .lit (.int .u8 7), .lit (.int .u8 6)]
def laid_internal_strconv_uint64pow10 {H : Type} : DataW H := .agg [.lit (.int .u64 1), .lit (.int .u64 10), .lit (.int .u64 100), .lit (.int .u64 1000), .lit (.int .u64 10000), .lit (.int .u64 100000), .lit (.int .u64 1000000), .lit (.int .u64 10000000), .lit (.int .u64 100000000), .lit (.int .u64 1000000000), .lit (.int .u64 10000000000), .lit (.int .u64 100000000000), .lit (.int .u64 1000000000000), .lit (.int .u64 10000000000000), .lit (.int .u64 100000000000000), .lit (.int .u64 1000000000000000), .lit (.int .u64 10000000000000000), .lit (.int .u64 100000000000000000), .lit (.int .u64 1000000000000000000), .lit (.int .u64 10000000000000000000)]
def laid_unicode_White_Space {H : Type} : DataW H := .ptr (.agg [.slice [.agg [.lit (.int .u16 9), .lit (.int .u16 13), .lit (.int .u16 1)], .agg [.lit (.int .u16 32), .lit (.int .u16 133), .lit (.int .u16 101)], .agg [.lit (.int .u16 160), .lit (.int .u16 5760), .lit (.int .u16 5600)], .agg [.lit (.int .u16 8192), .lit (.int .u16 8202), .lit (.int .u16 1)], .agg [.lit (.int .u16 8232), .lit (.int .u16 8233), .lit (.int .u16 1)], .agg [.lit (.int .u16 8239), .lit (.int .u16 8287), .lit (.int .u16 48)], .agg [.lit (.int .u16 12288), .lit (.int .u16 12288), .lit (.int .u16 1)]] [], .nil, .lit (.int .i64 2)])
def laid_strings_asciiSpace {H : Type} : DataW H := .agg [.lit (.int .u8 0), .lit (.int .u8 0), .lit (.int .u8 0), .lit (.int .u8 0), .lit (.int .u8 0), .lit (.int .u8 0), .lit (.int .u8 0), .lit (.int .u8 0), .lit (.int .u8 0), .lit (.int .u8 1), .lit (.int .u8 1), .lit (.int .u8 1), .lit (.int .u8 1), .lit (.int .u8 1), .lit (.int .u8 0), .lit (.int .u8 0), .lit (.int .u8 0), .lit (.int .u8 0), .lit (.int .u8 0), .lit (.int .u8 0), .lit (.int .u8 0), .lit (.int .u8 0), .lit (.int .u8 0), .lit (.int .u8 0), .lit (.int .u8 0), .lit (.int .u8 0), .lit (.int .u8 0), .lit (.int .u8 0), .lit (.int .u8 0), .lit (.int .u8 0), .lit (.int .u8 0), .lit (.int .u8 0), .lit (.int .u8 1), .lit (.int .u8 0), .lit (.int .u8 0), .lit (.int .u8 0), .lit (.int .u8 0), .lit (.int .u8 0), .lit (.int .u8 0), .lit (.int .u8 0), .lit (.int .u8 0), .lit (.int .u8 0), .lit (.int .u8 0), .lit (.int .u8 0), .lit (.int .u8 0), .lit (.int .u8 0), .lit (.int .u8 0), .lit (.int .u8 0), .lit (.int .u8 0), .lit (.int .u8 0), .lit (.int .u8 0), .lit (.int .u8 0), .lit (.int .u8 0), .lit (.int .u8 0), .lit (.int .u8 0), .lit (.int .u8 0), .lit (.int .u8 0), .lit (.int .u8 0), .lit (.int .u8 0), .lit (.int .u8 0), .lit (.int .u8 0), .lit (.int .u8 0), .lit (.int .u8 0), .lit (.int .u8 0), .lit (.int .u8 0), .lit (.int .u8 0), .lit (.int .u8 0), .lit (.int .u8 0), .lit (.int .u8 0), .lit (.int .u8 0), .lit (.int .u8 0), .lit (.int .u8 0), .lit (.int .u8 0), .lit (.int .u8 0), .lit (.int .u8 0), .lit (.int .u8 0), .lit (.int .u8 0), .lit (.int .u8 0), .lit (.int .u8 0), .lit (.int .u8 0), .lit (.int .u8 0), .lit (.int .u8 0), .lit (.int .u8 0), .lit (.int .u8 0), .lit (.int .u8 0), .lit (.int .u8 0), .lit (.int .u8 0), .lit (.int .u8 0), .lit (.int .u8 0), .lit (.int .u8 0), .lit (.int .u8 0), .lit (.int .u8 0), .lit (.int .u8 0), .lit (.int .u8 0), .lit (.int .u8 0), .lit (.int .u8 0), .lit (.int .u8 0), .lit (.int .u8 0), .lit (.int .u8 0), .lit (.int .u8 0), .lit (.int .u8 0), .lit (.int .u8 0), .lit (.int .u8 0), .lit (.int .u8 0), .lit (.int .u8 0), .lit (.int .u8 0), .lit (.int .u8 0), .lit (.int .u8 0), .lit (.int .u8 0), .lit (.int .u8 0), .lit (.int .u8 0), .lit (.int .u8 0), .lit (.int .u8 0), .lit (.int .u8 0), .lit (.int .u8 0), .lit (.int .u8 0), .lit (.int .u8 0), .lit (.int .u8 0), .lit (.int .u8 0), .lit (.int .u8 0), .lit (.int .u8 0), .lit (.int .u8 0), .lit (.int .u8 0), .lit (.int .u8 0), .lit (.int .u8 0), .lit (.int .u8 0), .lit (.int .u8 0), .lit (.int .u8 0), .lit (.int .u8 0), .lit (.int .u8 0), .lit (.int .u8 0), .lit (.int .u8 0), .lit (.int .u8 0), .lit (.int .u8 0), .lit (.int .u8 0), .lit (.int .u8 0), .lit (.int .u8 0), .lit (.int .u8 0), .lit (.int .u8 0), .lit (.int .u8 0), .lit (.int .u8 0), .lit (.int .u8 0), .lit (.int .u8 0), .lit (.int .u8 0), .lit (.int .u8 0), .lit (.int .u8 0), .lit (.int .u8 0), .lit (.int .u8 0), .lit (.int .u8 0), .lit (.int .u8 0), .lit (.int .u8 0), .lit (.int .u8 0), .lit (.int .u8 0), .lit (.int .u8 0), .lit (.int .u8 0), .lit (.int .u8 0), .lit (.int .u8 0), .lit (.int .u8 0), .lit (.int .u8 0), .lit (.int .u8 0), .lit (.int .u8 0), .lit (.int .u8 0), .lit (.int .u8 0), .lit (.int .u8 0), .lit (.int .u8 0), .lit (.int .u8 0), .lit (.int .u8 0), .lit (.int .u8 0), .lit (.int .u8 0), .lit (.int .u8 0), .lit (.int .u8 0), .lit (.int .u8 0), .lit (.int .u8 0), .lit (.int .u8 0), .lit (.int .u8 0), .lit (.int .u8 0), .lit (.int .u8 0), .lit (.int .u8 0), .lit (.int .u8 0), .lit (.int .u8 0), .lit (.int .u8 0), .lit (.int .u8 0), .lit (.int .u8 0), .lit (.int .u8 0), .lit (.int .u8 0), .lit (.int .u8 0), .lit (.int .u8 0), .lit (.int .u8 0), .lit (.int .u8 0), .lit (.int .u8 0), .lit (.int .u8 0), .lit (.int .u8 0), .lit (.int .u8 0), .lit (.int .u8 0), .lit (.int .u8 0), .lit (.int .u8 0), .lit (.int .u8 0), .lit (.int .u8 0), .lit (.int .u8 0), .lit (.int .u8 0), .lit (.int .u8 0), .lit (.int .u8 0), .lit (.int .u8 0), .lit (.int .u8 0), .lit (.int .u8 0), .lit (.int .u8 0), .lit (.int .u8 0), .lit (.int .u8 0), .lit (.int .u8 0), .lit (.int .u8 0), .lit (.int .u8 0), .lit (.int .u8 0), .lit (.int .u8 0), .lit (.int .u8 0), .lit (.int .u8 0), .lit (.int .u8 0), .lit (.int .u8 0), .lit (.int .u8 0), .lit (.int .u8 0), .lit (.int .u8 0), .lit (.int .u8 0), .lit (.int .u8 0), .lit (.int .u8 0), .lit (.int .u8 0), .lit (.int .u8 0), .lit (.int .u8 0), .lit (.int .u8 0), .lit (.int .u8 0), .lit (.int .u8 0), .lit (.int .u8 0), .lit (.int .u8 0), .lit (.int .u8 0), .lit (.int .u8 0), .lit (.int .u8 0), .lit (.int .u8 0), .lit (.int .u8 0), .lit (.int .u8 0), .lit (.int .u8 0), .lit (.int .u8 0), .lit (.int .u8 0), .lit (.int .u8 0), .lit (.int .u8 0), .lit (.int .u8 0), .lit (.int .u8 0), .lit (.int .u8 0), .lit (.int .u8 0), .lit (.int .u8 0), .lit (.int .u8 0), .lit (.int .u8 0), .lit (.int .u8 0), .lit (.int .u8 0), .lit (.int .u8 0), .lit (.int .u8 0), .lit (.int .u8 0), .lit (.int .u8 0), .lit (.int .u8 0)]

/-- 'stipendlaw16.ShareDelta': WHATEVER THE INPUT: true; the input reads as it did. -/
def shareDeltaSpec : ChangeSpec := { name := "shareDelta", fn := fun _ => fun
  | [d1, d2] => { results := [.lit (.bool true)], args := [d1, d2] }
  | _ => none }
def shareDeltaRow : OpenClaim := { program := "ytmocphafkimdpaadoor", sum := "ab37efe0682ab843e694b6d96c86f627892ce347712de6b4648a58963439df04", func := "stipend/stipendlaw16.ShareDelta", spec := "shareDelta", named := ["internal/strconv.uint64pow10", "math/bits.deBruijn32tab", "math/bits.deBruijn64tab"], apart := false, laid := [("math/bits.deBruijn32tab", laid_math_bits_deBruijn32tab), ("math/bits.deBruijn64tab", laid_math_bits_deBruijn64tab), ("internal/strconv.uint64pow10", laid_internal_strconv_uint64pow10)] }
def ShareDeltaSaid : Prop := shareDeltaRow.holds Tryd.pinned (OpenSpec.ofChange shareDeltaSpec)

/-- ITS FALSE NEIGHBOUR: 'it returns false'. Refute it at one input. -/
def shareDeltaWrong : ChangeSpec := { name := "shareDelta", fn := fun _ => fun
  | [d1, d2] => { results := [.lit (.bool false)], args := [d1, d2] }
  | _ => none }
def ShareDeltaWrongFalsely : Prop := shareDeltaRow.holds Tryd.pinned (OpenSpec.ofChange shareDeltaWrong)

/-- 'stipendlaw16.ShareReach': WHATEVER THE INPUT: true; the input reads as it did. -/
def shareReachSpec : ChangeSpec := { name := "shareReach", fn := fun _ => fun
  | [d1, d2] => { results := [.lit (.bool true)], args := [d1, d2] }
  | _ => none }
def shareReachRow : OpenClaim := { program := "ytmocphafkimdpaadoor", sum := "ab37efe0682ab843e694b6d96c86f627892ce347712de6b4648a58963439df04", func := "stipend/stipendlaw16.ShareReach", spec := "shareReach", named := ["internal/strconv.uint64pow10", "math/bits.deBruijn32tab", "math/bits.deBruijn64tab"], apart := false, laid := [("math/bits.deBruijn32tab", laid_math_bits_deBruijn32tab), ("math/bits.deBruijn64tab", laid_math_bits_deBruijn64tab), ("internal/strconv.uint64pow10", laid_internal_strconv_uint64pow10)] }
def ShareReachSaid : Prop := shareReachRow.holds Tryd.pinned (OpenSpec.ofChange shareReachSpec)

/-- ITS FALSE NEIGHBOUR: 'it returns false'. Refute it at one input. -/
def shareReachWrong : ChangeSpec := { name := "shareReach", fn := fun _ => fun
  | [d1, d2] => { results := [.lit (.bool false)], args := [d1, d2] }
  | _ => none }
def ShareReachWrongFalsely : Prop := shareReachRow.holds Tryd.pinned (OpenSpec.ofChange shareReachWrong)

/-- 'stipendlaw16.ShareSides': WHATEVER THE INPUT: true; the input reads as it did. -/
def shareSidesSpec : ChangeSpec := { name := "shareSides", fn := fun _ => fun
  | [d1, d2] => { results := [.lit (.bool true)], args := [d1, d2] }
  | _ => none }
def shareSidesRow : OpenClaim := { program := "ytmocphafkimdpaadoor", sum := "ab37efe0682ab843e694b6d96c86f627892ce347712de6b4648a58963439df04", func := "stipend/stipendlaw16.ShareSides", spec := "shareSides", named := ["internal/strconv.uint64pow10", "math/bits.deBruijn32tab", "math/bits.deBruijn64tab"], apart := false, laid := [("math/bits.deBruijn32tab", laid_math_bits_deBruijn32tab), ("math/bits.deBruijn64tab", laid_math_bits_deBruijn64tab), ("internal/strconv.uint64pow10", laid_internal_strconv_uint64pow10)] }
def ShareSidesSaid : Prop := shareSidesRow.holds Tryd.pinned (OpenSpec.ofChange shareSidesSpec)

/-- ITS FALSE NEIGHBOUR: 'it returns false'. Refute it at one input. -/
def shareSidesWrong : ChangeSpec := { name := "shareSides", fn := fun _ => fun
  | [d1, d2] => { results := [.lit (.bool false)], args := [d1, d2] }
  | _ => none }
def ShareSidesWrongFalsely : Prop := shareSidesRow.holds Tryd.pinned (OpenSpec.ofChange shareSidesWrong)

/-- 'stipendlaw11.ElementValues': WHATEVER THE INPUT: true; the input reads as it did. -/
def elementValuesSpec : ChangeSpec := { name := "elementValues", fn := fun _ => fun
  | [d] => { results := [.lit (.bool true)], args := [d] }
  | _ => none }
def elementValuesRow : OpenClaim := { program := "ytmocphafkimdpaadoor", sum := "ab37efe0682ab843e694b6d96c86f627892ce347712de6b4648a58963439df04", func := "stipend/stipendlaw11.ElementValues", spec := "elementValues", unfollowed := true, recurses := true, named := ["internal/strconv.uint64pow10", "math/bits.deBruijn32tab", "math/bits.deBruijn64tab"], apart := false, laid := [("math/bits.deBruijn32tab", laid_math_bits_deBruijn32tab), ("math/bits.deBruijn64tab", laid_math_bits_deBruijn64tab), ("internal/strconv.uint64pow10", laid_internal_strconv_uint64pow10)] }
def ElementValuesSaid : Prop := elementValuesRow.holds Tryd.pinned (OpenSpec.ofChange elementValuesSpec)

/-- ITS FALSE NEIGHBOUR: 'it returns false'. Refute it at one input. -/
def elementValuesWrong : ChangeSpec := { name := "elementValues", fn := fun _ => fun
  | [d] => { results := [.lit (.bool false)], args := [d] }
  | _ => none }
def ElementValuesWrongFalsely : Prop := elementValuesRow.holds Tryd.pinned (OpenSpec.ofChange elementValuesWrong)

/-- 'stipendtop.WholeParts': WHATEVER THE INPUT: true; the input reads as it did. -/
def wholePartsSpec : ChangeSpec := { name := "wholeParts", fn := fun _ => fun
  | [d1, d2, d3] => { results := [.lit (.bool true)], args := [d1, d2, d3] }
  | _ => none }
def wholePartsRow : OpenClaim := { program := "ytmocphafkimdpaadoor", sum := "ab37efe0682ab843e694b6d96c86f627892ce347712de6b4648a58963439df04", func := "stipend/stipendtop.WholeParts", spec := "wholeParts", unfollowed := true, recurses := true, named := ["internal/strconv.uint64pow10", "math/bits.deBruijn32tab", "math/bits.deBruijn64tab", "math/bits.divideError", "math/bits.overflowError"], apart := false, laid := [("math/bits.deBruijn32tab", laid_math_bits_deBruijn32tab), ("math/bits.deBruijn64tab", laid_math_bits_deBruijn64tab), ("internal/strconv.uint64pow10", laid_internal_strconv_uint64pow10)] }
def WholePartsSaid : Prop := wholePartsRow.holds Tryd.pinned (OpenSpec.ofChange wholePartsSpec)

/-- ITS FALSE NEIGHBOUR: 'it returns false'. Refute it at one input. -/
def wholePartsWrong : ChangeSpec := { name := "wholeParts", fn := fun _ => fun
  | [d1, d2, d3] => { results := [.lit (.bool false)], args := [d1, d2, d3] }
  | _ => none }
def WholePartsWrongFalsely : Prop := wholePartsRow.holds Tryd.pinned (OpenSpec.ofChange wholePartsWrong)

/-- 'stipendlaw11.ElementParses': WHATEVER THE INPUT: true; the input reads as it did. -/
def elementParsesSpec : ChangeSpec := { name := "elementParses", fn := fun _ => fun
  | [d] => { results := [.lit (.bool true)], args := [d] }
  | _ => none }
def elementParsesRow : OpenClaim := { program := "ytmocphafkimdpaadoor", sum := "ab37efe0682ab843e694b6d96c86f627892ce347712de6b4648a58963439df04", func := "stipend/stipendlaw11.ElementParses", spec := "elementParses", unfollowed := true, recurses := true, named := ["internal/strconv.uint64pow10", "math/bits.deBruijn32tab", "math/bits.deBruijn64tab"], apart := false, laid := [("math/bits.deBruijn32tab", laid_math_bits_deBruijn32tab), ("math/bits.deBruijn64tab", laid_math_bits_deBruijn64tab), ("internal/strconv.uint64pow10", laid_internal_strconv_uint64pow10)] }
def ElementParsesSaid : Prop := elementParsesRow.holds Tryd.pinned (OpenSpec.ofChange elementParsesSpec)

/-- ITS FALSE NEIGHBOUR: 'it returns false'. Refute it at one input. -/
def elementParsesWrong : ChangeSpec := { name := "elementParses", fn := fun _ => fun
  | [d] => { results := [.lit (.bool false)], args := [d] }
  | _ => none }
def ElementParsesWrongFalsely : Prop := elementParsesRow.holds Tryd.pinned (OpenSpec.ofChange elementParsesWrong)

/-- 'stipendlaw11.ElementSums': WHATEVER THE INPUT: true; the input reads as it did. -/
def elementSumsSpec : ChangeSpec := { name := "elementSums", fn := fun _ => fun
  | [d] => { results := [.lit (.bool true)], args := [d] }
  | _ => none }
def elementSumsRow : OpenClaim := { program := "ytmocphafkimdpaadoor", sum := "ab37efe0682ab843e694b6d96c86f627892ce347712de6b4648a58963439df04", func := "stipend/stipendlaw11.ElementSums", spec := "elementSums", unfollowed := true, recurses := true, named := ["internal/strconv.uint64pow10", "math/bits.deBruijn32tab", "math/bits.deBruijn64tab"], apart := false, laid := [("math/bits.deBruijn32tab", laid_math_bits_deBruijn32tab), ("math/bits.deBruijn64tab", laid_math_bits_deBruijn64tab), ("internal/strconv.uint64pow10", laid_internal_strconv_uint64pow10)] }
def ElementSumsSaid : Prop := elementSumsRow.holds Tryd.pinned (OpenSpec.ofChange elementSumsSpec)

/-- ITS FALSE NEIGHBOUR: 'it returns false'. Refute it at one input. -/
def elementSumsWrong : ChangeSpec := { name := "elementSums", fn := fun _ => fun
  | [d] => { results := [.lit (.bool false)], args := [d] }
  | _ => none }
def ElementSumsWrongFalsely : Prop := elementSumsRow.holds Tryd.pinned (OpenSpec.ofChange elementSumsWrong)

/-- 'stipendlaw11.ElementChange': WHATEVER THE INPUT: true; the input reads as it did. -/
def elementChangeSpec : ChangeSpec := { name := "elementChange", fn := fun _ => fun
  | [d1, d2, d3] => { results := [.lit (.bool true)], args := [d1, d2, d3] }
  | _ => none }
def elementChangeRow : OpenClaim := { program := "ytmocphafkimdpaadoor", sum := "ab37efe0682ab843e694b6d96c86f627892ce347712de6b4648a58963439df04", func := "stipend/stipendlaw11.ElementChange", spec := "elementChange", unfollowed := true, recurses := true, named := ["internal/strconv.uint64pow10", "math/bits.deBruijn32tab", "math/bits.deBruijn64tab"], apart := false, laid := [("math/bits.deBruijn32tab", laid_math_bits_deBruijn32tab), ("math/bits.deBruijn64tab", laid_math_bits_deBruijn64tab), ("internal/strconv.uint64pow10", laid_internal_strconv_uint64pow10)] }
def ElementChangeSaid : Prop := elementChangeRow.holds Tryd.pinned (OpenSpec.ofChange elementChangeSpec)

/-- ITS FALSE NEIGHBOUR: 'it returns false'. Refute it at one input. -/
def elementChangeWrong : ChangeSpec := { name := "elementChange", fn := fun _ => fun
  | [d1, d2, d3] => { results := [.lit (.bool false)], args := [d1, d2, d3] }
  | _ => none }
def ElementChangeWrongFalsely : Prop := elementChangeRow.holds Tryd.pinned (OpenSpec.ofChange elementChangeWrong)

/-- 'stipendlaw11.ElementChecks': WHATEVER THE INPUT: true; the input reads as it did. -/
def elementChecksSpec : ChangeSpec := { name := "elementChecks", fn := fun _ => fun
  | [d1, d2] => { results := [.lit (.bool true)], args := [d1, d2] }
  | _ => none }
def elementChecksRow : OpenClaim := { program := "ytmocphafkimdpaadoor", sum := "ab37efe0682ab843e694b6d96c86f627892ce347712de6b4648a58963439df04", func := "stipend/stipendlaw11.ElementChecks", spec := "elementChecks", unfollowed := true, recurses := true, named := ["internal/strconv.uint64pow10", "math/bits.deBruijn32tab", "math/bits.deBruijn64tab"], apart := false, laid := [("math/bits.deBruijn32tab", laid_math_bits_deBruijn32tab), ("math/bits.deBruijn64tab", laid_math_bits_deBruijn64tab), ("internal/strconv.uint64pow10", laid_internal_strconv_uint64pow10)] }
def ElementChecksSaid : Prop := elementChecksRow.holds Tryd.pinned (OpenSpec.ofChange elementChecksSpec)

/-- ITS FALSE NEIGHBOUR: 'it returns false'. Refute it at one input. -/
def elementChecksWrong : ChangeSpec := { name := "elementChecks", fn := fun _ => fun
  | [d1, d2] => { results := [.lit (.bool false)], args := [d1, d2] }
  | _ => none }
def ElementChecksWrongFalsely : Prop := elementChecksRow.holds Tryd.pinned (OpenSpec.ofChange elementChecksWrong)

/-- 'stipendlaw16.ShareLines': WHATEVER THE INPUT: true; the input reads as it did. -/
def shareLinesSpec : ChangeSpec := { name := "shareLines", fn := fun _ => fun
  | [d1, d2] => { results := [.lit (.bool true)], args := [d1, d2] }
  | _ => none }
def shareLinesRow : OpenClaim := { program := "ytmocphafkimdpaadoor", sum := "ab37efe0682ab843e694b6d96c86f627892ce347712de6b4648a58963439df04", func := "stipend/stipendlaw16.ShareLines", spec := "shareLines", named := ["internal/strconv.uint64pow10", "math/bits.deBruijn32tab", "math/bits.deBruijn64tab"], apart := false, laid := [("math/bits.deBruijn32tab", laid_math_bits_deBruijn32tab), ("math/bits.deBruijn64tab", laid_math_bits_deBruijn64tab), ("internal/strconv.uint64pow10", laid_internal_strconv_uint64pow10)] }
def ShareLinesSaid : Prop := shareLinesRow.holds Tryd.pinned (OpenSpec.ofChange shareLinesSpec)

/-- ITS FALSE NEIGHBOUR: 'it returns false'. Refute it at one input. -/
def shareLinesWrong : ChangeSpec := { name := "shareLines", fn := fun _ => fun
  | [d1, d2] => { results := [.lit (.bool false)], args := [d1, d2] }
  | _ => none }
def ShareLinesWrongFalsely : Prop := shareLinesRow.holds Tryd.pinned (OpenSpec.ofChange shareLinesWrong)

/-- 'stipendlaw01.MoneyTexts': WHATEVER THE INPUT: true; the input reads as it did. -/
def moneyTextsSpec : ChangeSpec := { name := "moneyTexts", fn := fun _ => fun
  | [d] => { results := [.lit (.bool true)], args := [d] }
  | _ => none }
def moneyTextsRow : OpenClaim := { program := "ytmocphafkimdpaadoor", sum := "ab37efe0682ab843e694b6d96c86f627892ce347712de6b4648a58963439df04", func := "stipend/stipendlaw01.MoneyTexts", spec := "moneyTexts", unfollowed := true, recurses := true, named := ["math/bits.divideError", "math/bits.overflowError", "internal/strconv.uint64pow10", "math/bits.deBruijn32tab", "math/bits.deBruijn64tab"], apart := false, laid := [("math/bits.deBruijn32tab", laid_math_bits_deBruijn32tab), ("math/bits.deBruijn64tab", laid_math_bits_deBruijn64tab), ("internal/strconv.uint64pow10", laid_internal_strconv_uint64pow10)] }
def MoneyTextsSaid : Prop := moneyTextsRow.holds Tryd.pinned (OpenSpec.ofChange moneyTextsSpec)

/-- ITS FALSE NEIGHBOUR: 'it returns false'. Refute it at one input. -/
def moneyTextsWrong : ChangeSpec := { name := "moneyTexts", fn := fun _ => fun
  | [d] => { results := [.lit (.bool false)], args := [d] }
  | _ => none }
def MoneyTextsWrongFalsely : Prop := moneyTextsRow.holds Tryd.pinned (OpenSpec.ofChange moneyTextsWrong)

/-- 'stipendlaw01.MoneyParses': WHATEVER THE INPUT: true; the input reads as it did. -/
def moneyParsesSpec : ChangeSpec := { name := "moneyParses", fn := fun _ => fun
  | [d] => { results := [.lit (.bool true)], args := [d] }
  | _ => none }
def moneyParsesRow : OpenClaim := { program := "ytmocphafkimdpaadoor", sum := "ab37efe0682ab843e694b6d96c86f627892ce347712de6b4648a58963439df04", func := "stipend/stipendlaw01.MoneyParses", spec := "moneyParses", unfollowed := true, recurses := true, named := ["math/bits.divideError", "math/bits.overflowError", "internal/strconv.uint64pow10", "math/bits.deBruijn32tab", "math/bits.deBruijn64tab"], apart := false, laid := [("math/bits.deBruijn32tab", laid_math_bits_deBruijn32tab), ("math/bits.deBruijn64tab", laid_math_bits_deBruijn64tab), ("internal/strconv.uint64pow10", laid_internal_strconv_uint64pow10)] }
def MoneyParsesSaid : Prop := moneyParsesRow.holds Tryd.pinned (OpenSpec.ofChange moneyParsesSpec)

/-- ITS FALSE NEIGHBOUR: 'it returns false'. Refute it at one input. -/
def moneyParsesWrong : ChangeSpec := { name := "moneyParses", fn := fun _ => fun
  | [d] => { results := [.lit (.bool false)], args := [d] }
  | _ => none }
def MoneyParsesWrongFalsely : Prop := moneyParsesRow.holds Tryd.pinned (OpenSpec.ofChange moneyParsesWrong)

/-- 'stipendlaw01.MoneyAbs': WHATEVER THE INPUT: true; the input reads as it did. -/
def moneyAbsSpec : ChangeSpec := { name := "moneyAbs", fn := fun _ => fun
  | [d] => { results := [.lit (.bool true)], args := [d] }
  | _ => none }
def moneyAbsRow : OpenClaim := { program := "ytmocphafkimdpaadoor", sum := "ab37efe0682ab843e694b6d96c86f627892ce347712de6b4648a58963439df04", func := "stipend/stipendlaw01.MoneyAbs", spec := "moneyAbs", unfollowed := true, recurses := true, named := ["math/bits.divideError", "math/bits.overflowError", "internal/strconv.uint64pow10", "math/bits.deBruijn32tab", "math/bits.deBruijn64tab"], apart := false, laid := [("math/bits.deBruijn32tab", laid_math_bits_deBruijn32tab), ("math/bits.deBruijn64tab", laid_math_bits_deBruijn64tab), ("internal/strconv.uint64pow10", laid_internal_strconv_uint64pow10)] }
def MoneyAbsSaid : Prop := moneyAbsRow.holds Tryd.pinned (OpenSpec.ofChange moneyAbsSpec)

/-- ITS FALSE NEIGHBOUR: 'it returns false'. Refute it at one input. -/
def moneyAbsWrong : ChangeSpec := { name := "moneyAbs", fn := fun _ => fun
  | [d] => { results := [.lit (.bool false)], args := [d] }
  | _ => none }
def MoneyAbsWrongFalsely : Prop := moneyAbsRow.holds Tryd.pinned (OpenSpec.ofChange moneyAbsWrong)

/-- 'stipendlaw01.MoneySpreads': WHATEVER THE INPUT: true; the input reads as it did. -/
def moneySpreadsSpec : ChangeSpec := { name := "moneySpreads", fn := fun _ => fun
  | [d1, d2] => { results := [.lit (.bool true)], args := [d1, d2] }
  | _ => none }
def moneySpreadsRow : OpenClaim := { program := "ytmocphafkimdpaadoor", sum := "ab37efe0682ab843e694b6d96c86f627892ce347712de6b4648a58963439df04", func := "stipend/stipendlaw01.MoneySpreads", spec := "moneySpreads", inPlace := ["math.Float64bits", "math.Float64frombits"], unfollowed := true, recurses := true, named := ["math/bits.divideError", "math/bits.overflowError", "internal/strconv.uint64pow10", "math/bits.deBruijn32tab", "math/bits.deBruijn64tab"], apart := false, laid := [("math/bits.deBruijn32tab", laid_math_bits_deBruijn32tab), ("math/bits.deBruijn64tab", laid_math_bits_deBruijn64tab), ("internal/strconv.uint64pow10", laid_internal_strconv_uint64pow10)] }
def MoneySpreadsSaid : Prop := moneySpreadsRow.holds Tryd.pinned (OpenSpec.ofChange moneySpreadsSpec)

/-- ITS FALSE NEIGHBOUR: 'it returns false'. Refute it at one input. -/
def moneySpreadsWrong : ChangeSpec := { name := "moneySpreads", fn := fun _ => fun
  | [d1, d2] => { results := [.lit (.bool false)], args := [d1, d2] }
  | _ => none }
def MoneySpreadsWrongFalsely : Prop := moneySpreadsRow.holds Tryd.pinned (OpenSpec.ofChange moneySpreadsWrong)

/-- 'stipendlaw01.MoneyAdds': WHATEVER THE INPUT: true; the input reads as it did. -/
def moneyAddsSpec : ChangeSpec := { name := "moneyAdds", fn := fun _ => fun
  | [d1, d2] => { results := [.lit (.bool true)], args := [d1, d2] }
  | _ => none }
def moneyAddsRow : OpenClaim := { program := "ytmocphafkimdpaadoor", sum := "ab37efe0682ab843e694b6d96c86f627892ce347712de6b4648a58963439df04", func := "stipend/stipendlaw01.MoneyAdds", spec := "moneyAdds", unfollowed := true, recurses := true, named := ["math/bits.divideError", "math/bits.overflowError", "internal/strconv.uint64pow10", "math/bits.deBruijn32tab", "math/bits.deBruijn64tab"], apart := false, laid := [("math/bits.deBruijn32tab", laid_math_bits_deBruijn32tab), ("math/bits.deBruijn64tab", laid_math_bits_deBruijn64tab), ("internal/strconv.uint64pow10", laid_internal_strconv_uint64pow10)] }
def MoneyAddsSaid : Prop := moneyAddsRow.holds Tryd.pinned (OpenSpec.ofChange moneyAddsSpec)

/-- ITS FALSE NEIGHBOUR: 'it returns false'. Refute it at one input. -/
def moneyAddsWrong : ChangeSpec := { name := "moneyAdds", fn := fun _ => fun
  | [d1, d2] => { results := [.lit (.bool false)], args := [d1, d2] }
  | _ => none }
def MoneyAddsWrongFalsely : Prop := moneyAddsRow.holds Tryd.pinned (OpenSpec.ofChange moneyAddsWrong)

/-- 'stipendlaw01.MoneySums': WHATEVER THE INPUT: true; the input reads as it did. -/
def moneySumsSpec : ChangeSpec := { name := "moneySums", fn := fun _ => fun
  | [d] => { results := [.lit (.bool true)], args := [d] }
  | _ => none }
def moneySumsRow : OpenClaim := { program := "ytmocphafkimdpaadoor", sum := "ab37efe0682ab843e694b6d96c86f627892ce347712de6b4648a58963439df04", func := "stipend/stipendlaw01.MoneySums", spec := "moneySums", unfollowed := true, recurses := true, named := ["math/bits.divideError", "math/bits.overflowError", "internal/strconv.uint64pow10", "math/bits.deBruijn32tab", "math/bits.deBruijn64tab"], apart := false, laid := [("math/bits.deBruijn32tab", laid_math_bits_deBruijn32tab), ("math/bits.deBruijn64tab", laid_math_bits_deBruijn64tab), ("internal/strconv.uint64pow10", laid_internal_strconv_uint64pow10)] }
def MoneySumsSaid : Prop := moneySumsRow.holds Tryd.pinned (OpenSpec.ofChange moneySumsSpec)

/-- ITS FALSE NEIGHBOUR: 'it returns false'. Refute it at one input. -/
def moneySumsWrong : ChangeSpec := { name := "moneySums", fn := fun _ => fun
  | [d] => { results := [.lit (.bool false)], args := [d] }
  | _ => none }
def MoneySumsWrongFalsely : Prop := moneySumsRow.holds Tryd.pinned (OpenSpec.ofChange moneySumsWrong)

/-- 'stipendlaw01.MoneyTimes': WHATEVER THE INPUT: true; the input reads as it did. -/
def moneyTimesSpec : ChangeSpec := { name := "moneyTimes", fn := fun _ => fun
  | [d1, d2] => { results := [.lit (.bool true)], args := [d1, d2] }
  | _ => none }
def moneyTimesRow : OpenClaim := { program := "ytmocphafkimdpaadoor", sum := "ab37efe0682ab843e694b6d96c86f627892ce347712de6b4648a58963439df04", func := "stipend/stipendlaw01.MoneyTimes", spec := "moneyTimes", unfollowed := true, recurses := true, named := ["math/bits.divideError", "math/bits.overflowError", "internal/strconv.uint64pow10", "math/bits.deBruijn32tab", "math/bits.deBruijn64tab"], apart := false, laid := [("math/bits.deBruijn32tab", laid_math_bits_deBruijn32tab), ("math/bits.deBruijn64tab", laid_math_bits_deBruijn64tab), ("internal/strconv.uint64pow10", laid_internal_strconv_uint64pow10)] }
def MoneyTimesSaid : Prop := moneyTimesRow.holds Tryd.pinned (OpenSpec.ofChange moneyTimesSpec)

/-- ITS FALSE NEIGHBOUR: 'it returns false'. Refute it at one input. -/
def moneyTimesWrong : ChangeSpec := { name := "moneyTimes", fn := fun _ => fun
  | [d1, d2] => { results := [.lit (.bool false)], args := [d1, d2] }
  | _ => none }
def MoneyTimesWrongFalsely : Prop := moneyTimesRow.holds Tryd.pinned (OpenSpec.ofChange moneyTimesWrong)

/-- 'stipendlaw01.MoneyUnits': WHATEVER THE INPUT: true; the input reads as it did. -/
def moneyUnitsSpec : ChangeSpec := { name := "moneyUnits", fn := fun _ => fun
  | [d1, d2, d3] => { results := [.lit (.bool true)], args := [d1, d2, d3] }
  | _ => none }
def moneyUnitsRow : OpenClaim := { program := "ytmocphafkimdpaadoor", sum := "ab37efe0682ab843e694b6d96c86f627892ce347712de6b4648a58963439df04", func := "stipend/stipendlaw01.MoneyUnits", spec := "moneyUnits", unfollowed := true, recurses := true, named := ["math/bits.divideError", "math/bits.overflowError", "internal/strconv.uint64pow10", "math/bits.deBruijn32tab", "math/bits.deBruijn64tab"], apart := false, laid := [("math/bits.deBruijn32tab", laid_math_bits_deBruijn32tab), ("math/bits.deBruijn64tab", laid_math_bits_deBruijn64tab), ("internal/strconv.uint64pow10", laid_internal_strconv_uint64pow10)] }
def MoneyUnitsSaid : Prop := moneyUnitsRow.holds Tryd.pinned (OpenSpec.ofChange moneyUnitsSpec)

/-- ITS FALSE NEIGHBOUR: 'it returns false'. Refute it at one input. -/
def moneyUnitsWrong : ChangeSpec := { name := "moneyUnits", fn := fun _ => fun
  | [d1, d2, d3] => { results := [.lit (.bool false)], args := [d1, d2, d3] }
  | _ => none }
def MoneyUnitsWrongFalsely : Prop := moneyUnitsRow.holds Tryd.pinned (OpenSpec.ofChange moneyUnitsWrong)

/-- 'stipendlaw11.ElementTexts': WHATEVER THE INPUT: true; the input reads as it did. -/
def elementTextsSpec : ChangeSpec := { name := "elementTexts", fn := fun _ => fun
  | [d] => { results := [.lit (.bool true)], args := [d] }
  | _ => none }
def elementTextsRow : OpenClaim := { program := "ytmocphafkimdpaadoor", sum := "ab37efe0682ab843e694b6d96c86f627892ce347712de6b4648a58963439df04", func := "stipend/stipendlaw11.ElementTexts", spec := "elementTexts", unfollowed := true, recurses := true, named := ["internal/strconv.uint64pow10", "math/bits.deBruijn32tab", "math/bits.deBruijn64tab", "strings.asciiSpace", "unicode.White_Space"], apart := false, laid := [("math/bits.deBruijn32tab", laid_math_bits_deBruijn32tab), ("math/bits.deBruijn64tab", laid_math_bits_deBruijn64tab), ("internal/strconv.uint64pow10", laid_internal_strconv_uint64pow10), ("unicode.White_Space", laid_unicode_White_Space), ("strings.asciiSpace", laid_strings_asciiSpace)] }
def ElementTextsSaid : Prop := elementTextsRow.holds Tryd.pinned (OpenSpec.ofChange elementTextsSpec)

/-- ITS FALSE NEIGHBOUR: 'it returns false'. Refute it at one input. -/
def elementTextsWrong : ChangeSpec := { name := "elementTexts", fn := fun _ => fun
  | [d] => { results := [.lit (.bool false)], args := [d] }
  | _ => none }
def ElementTextsWrongFalsely : Prop := elementTextsRow.holds Tryd.pinned (OpenSpec.ofChange elementTextsWrong)

/- THE SECOND FORM. 'bulk': how many values and letters a reading holds, each counted each time it is reached (what is shared counts as often as it is met; a slice's spare places count too). A statement '..UptoSaid' is the law's where the arguments, and the package variables that the reading takes, are together of bulk at most 1048576: NARROWER than '..Said'. Prove '..Said' where nothing that the law and all that it calls make is longer than what came in: it says more and counts as full. Else prove '..UptoSaid'. A law counts once. -/
mutual
def uptoBulk {H : Type} : DataW H → Nat
  | .lit (.string bytes) => bytes.length + 1
  | .lit _ => 1
  | .nil => 1
  | .ptr d => uptoBulk d + 1
  | .slice elems spare => uptoBulkAll elems + uptoBulkAll spare + 1
  | .agg parts => uptoBulkAll parts + 1
  | .iface _ d => uptoBulk d + 1
  | .map entries => uptoBulkEntries entries + 1
  | .held _ => 1
def uptoBulkAll {H : Type} : List (DataW H) → Nat
  | [] => 0
  | d :: r => uptoBulk d + uptoBulkAll r
def uptoBulkEntries {H : Type} : List (Lit × DataW H) → Nat
  | [] => 0
  | x :: r => uptoBulkEntry x + uptoBulkEntries r
def uptoBulkEntry {H : Type} : Lit × DataW H → Nat
  | (.string bytes, d) => bytes.length + uptoBulk d + 1
  | (_, d) => uptoBulk d + 1
 end
def uptoSmall : (H : Type) → List (DataW H) → Bool := fun _ ds => decide (uptoBulkAll ds ≤ 1048576)
def OpenSpec.upto (s : _root_.Go.ChangeSpec) : _root_.Go.OpenSpec := { _root_.Go.OpenSpec.ofChange s with cond := some uptoSmall }

/-- 'stipendlaw16.ShareDelta', WHERE WHAT IT READS IS OF BULK AT MOST 1048576: true; the input reads as it did. -/
def shareDeltaUptoRow : OpenClaim := { program := "ytmocphafkimdpaadoor", sum := "ab37efe0682ab843e694b6d96c86f627892ce347712de6b4648a58963439df04", func := "stipend/stipendlaw16.ShareDelta", spec := "shareDelta", named := ["internal/strconv.uint64pow10", "math/bits.deBruijn32tab", "math/bits.deBruijn64tab"], apart := false, laid := [("math/bits.deBruijn32tab", laid_math_bits_deBruijn32tab), ("math/bits.deBruijn64tab", laid_math_bits_deBruijn64tab), ("internal/strconv.uint64pow10", laid_internal_strconv_uint64pow10)], narrowed := true }
def ShareDeltaUptoSaid : Prop := shareDeltaUptoRow.holds Tryd.pinned (OpenSpec.upto shareDeltaSpec)

/-- 'stipendlaw16.ShareReach', WHERE WHAT IT READS IS OF BULK AT MOST 1048576: true; the input reads as it did. -/
def shareReachUptoRow : OpenClaim := { program := "ytmocphafkimdpaadoor", sum := "ab37efe0682ab843e694b6d96c86f627892ce347712de6b4648a58963439df04", func := "stipend/stipendlaw16.ShareReach", spec := "shareReach", named := ["internal/strconv.uint64pow10", "math/bits.deBruijn32tab", "math/bits.deBruijn64tab"], apart := false, laid := [("math/bits.deBruijn32tab", laid_math_bits_deBruijn32tab), ("math/bits.deBruijn64tab", laid_math_bits_deBruijn64tab), ("internal/strconv.uint64pow10", laid_internal_strconv_uint64pow10)], narrowed := true }
def ShareReachUptoSaid : Prop := shareReachUptoRow.holds Tryd.pinned (OpenSpec.upto shareReachSpec)

/-- 'stipendlaw16.ShareSides', WHERE WHAT IT READS IS OF BULK AT MOST 1048576: true; the input reads as it did. -/
def shareSidesUptoRow : OpenClaim := { program := "ytmocphafkimdpaadoor", sum := "ab37efe0682ab843e694b6d96c86f627892ce347712de6b4648a58963439df04", func := "stipend/stipendlaw16.ShareSides", spec := "shareSides", named := ["internal/strconv.uint64pow10", "math/bits.deBruijn32tab", "math/bits.deBruijn64tab"], apart := false, laid := [("math/bits.deBruijn32tab", laid_math_bits_deBruijn32tab), ("math/bits.deBruijn64tab", laid_math_bits_deBruijn64tab), ("internal/strconv.uint64pow10", laid_internal_strconv_uint64pow10)], narrowed := true }
def ShareSidesUptoSaid : Prop := shareSidesUptoRow.holds Tryd.pinned (OpenSpec.upto shareSidesSpec)

/-- 'stipendlaw11.ElementValues', WHERE WHAT IT READS IS OF BULK AT MOST 1048576: true; the input reads as it did. -/
def elementValuesUptoRow : OpenClaim := { program := "ytmocphafkimdpaadoor", sum := "ab37efe0682ab843e694b6d96c86f627892ce347712de6b4648a58963439df04", func := "stipend/stipendlaw11.ElementValues", spec := "elementValues", unfollowed := true, recurses := true, named := ["internal/strconv.uint64pow10", "math/bits.deBruijn32tab", "math/bits.deBruijn64tab"], apart := false, laid := [("math/bits.deBruijn32tab", laid_math_bits_deBruijn32tab), ("math/bits.deBruijn64tab", laid_math_bits_deBruijn64tab), ("internal/strconv.uint64pow10", laid_internal_strconv_uint64pow10)], narrowed := true }
def ElementValuesUptoSaid : Prop := elementValuesUptoRow.holds Tryd.pinned (OpenSpec.upto elementValuesSpec)

/-- 'stipendtop.WholeParts', WHERE WHAT IT READS IS OF BULK AT MOST 1048576: true; the input reads as it did. -/
def wholePartsUptoRow : OpenClaim := { program := "ytmocphafkimdpaadoor", sum := "ab37efe0682ab843e694b6d96c86f627892ce347712de6b4648a58963439df04", func := "stipend/stipendtop.WholeParts", spec := "wholeParts", unfollowed := true, recurses := true, named := ["internal/strconv.uint64pow10", "math/bits.deBruijn32tab", "math/bits.deBruijn64tab", "math/bits.divideError", "math/bits.overflowError"], apart := false, laid := [("math/bits.deBruijn32tab", laid_math_bits_deBruijn32tab), ("math/bits.deBruijn64tab", laid_math_bits_deBruijn64tab), ("internal/strconv.uint64pow10", laid_internal_strconv_uint64pow10)], narrowed := true }
def WholePartsUptoSaid : Prop := wholePartsUptoRow.holds Tryd.pinned (OpenSpec.upto wholePartsSpec)

/-- 'stipendlaw11.ElementParses', WHERE WHAT IT READS IS OF BULK AT MOST 1048576: true; the input reads as it did. -/
def elementParsesUptoRow : OpenClaim := { program := "ytmocphafkimdpaadoor", sum := "ab37efe0682ab843e694b6d96c86f627892ce347712de6b4648a58963439df04", func := "stipend/stipendlaw11.ElementParses", spec := "elementParses", unfollowed := true, recurses := true, named := ["internal/strconv.uint64pow10", "math/bits.deBruijn32tab", "math/bits.deBruijn64tab"], apart := false, laid := [("math/bits.deBruijn32tab", laid_math_bits_deBruijn32tab), ("math/bits.deBruijn64tab", laid_math_bits_deBruijn64tab), ("internal/strconv.uint64pow10", laid_internal_strconv_uint64pow10)], narrowed := true }
def ElementParsesUptoSaid : Prop := elementParsesUptoRow.holds Tryd.pinned (OpenSpec.upto elementParsesSpec)

/-- 'stipendlaw11.ElementSums', WHERE WHAT IT READS IS OF BULK AT MOST 1048576: true; the input reads as it did. -/
def elementSumsUptoRow : OpenClaim := { program := "ytmocphafkimdpaadoor", sum := "ab37efe0682ab843e694b6d96c86f627892ce347712de6b4648a58963439df04", func := "stipend/stipendlaw11.ElementSums", spec := "elementSums", unfollowed := true, recurses := true, named := ["internal/strconv.uint64pow10", "math/bits.deBruijn32tab", "math/bits.deBruijn64tab"], apart := false, laid := [("math/bits.deBruijn32tab", laid_math_bits_deBruijn32tab), ("math/bits.deBruijn64tab", laid_math_bits_deBruijn64tab), ("internal/strconv.uint64pow10", laid_internal_strconv_uint64pow10)], narrowed := true }
def ElementSumsUptoSaid : Prop := elementSumsUptoRow.holds Tryd.pinned (OpenSpec.upto elementSumsSpec)

/-- 'stipendlaw11.ElementChange', WHERE WHAT IT READS IS OF BULK AT MOST 1048576: true; the input reads as it did. -/
def elementChangeUptoRow : OpenClaim := { program := "ytmocphafkimdpaadoor", sum := "ab37efe0682ab843e694b6d96c86f627892ce347712de6b4648a58963439df04", func := "stipend/stipendlaw11.ElementChange", spec := "elementChange", unfollowed := true, recurses := true, named := ["internal/strconv.uint64pow10", "math/bits.deBruijn32tab", "math/bits.deBruijn64tab"], apart := false, laid := [("math/bits.deBruijn32tab", laid_math_bits_deBruijn32tab), ("math/bits.deBruijn64tab", laid_math_bits_deBruijn64tab), ("internal/strconv.uint64pow10", laid_internal_strconv_uint64pow10)], narrowed := true }
def ElementChangeUptoSaid : Prop := elementChangeUptoRow.holds Tryd.pinned (OpenSpec.upto elementChangeSpec)

/-- 'stipendlaw11.ElementChecks', WHERE WHAT IT READS IS OF BULK AT MOST 1048576: true; the input reads as it did. -/
def elementChecksUptoRow : OpenClaim := { program := "ytmocphafkimdpaadoor", sum := "ab37efe0682ab843e694b6d96c86f627892ce347712de6b4648a58963439df04", func := "stipend/stipendlaw11.ElementChecks", spec := "elementChecks", unfollowed := true, recurses := true, named := ["internal/strconv.uint64pow10", "math/bits.deBruijn32tab", "math/bits.deBruijn64tab"], apart := false, laid := [("math/bits.deBruijn32tab", laid_math_bits_deBruijn32tab), ("math/bits.deBruijn64tab", laid_math_bits_deBruijn64tab), ("internal/strconv.uint64pow10", laid_internal_strconv_uint64pow10)], narrowed := true }
def ElementChecksUptoSaid : Prop := elementChecksUptoRow.holds Tryd.pinned (OpenSpec.upto elementChecksSpec)

/-- 'stipendlaw16.ShareLines', WHERE WHAT IT READS IS OF BULK AT MOST 1048576: true; the input reads as it did. -/
def shareLinesUptoRow : OpenClaim := { program := "ytmocphafkimdpaadoor", sum := "ab37efe0682ab843e694b6d96c86f627892ce347712de6b4648a58963439df04", func := "stipend/stipendlaw16.ShareLines", spec := "shareLines", named := ["internal/strconv.uint64pow10", "math/bits.deBruijn32tab", "math/bits.deBruijn64tab"], apart := false, laid := [("math/bits.deBruijn32tab", laid_math_bits_deBruijn32tab), ("math/bits.deBruijn64tab", laid_math_bits_deBruijn64tab), ("internal/strconv.uint64pow10", laid_internal_strconv_uint64pow10)], narrowed := true }
def ShareLinesUptoSaid : Prop := shareLinesUptoRow.holds Tryd.pinned (OpenSpec.upto shareLinesSpec)

/-- 'stipendlaw01.MoneyTexts', WHERE WHAT IT READS IS OF BULK AT MOST 1048576: true; the input reads as it did. -/
def moneyTextsUptoRow : OpenClaim := { program := "ytmocphafkimdpaadoor", sum := "ab37efe0682ab843e694b6d96c86f627892ce347712de6b4648a58963439df04", func := "stipend/stipendlaw01.MoneyTexts", spec := "moneyTexts", unfollowed := true, recurses := true, named := ["math/bits.divideError", "math/bits.overflowError", "internal/strconv.uint64pow10", "math/bits.deBruijn32tab", "math/bits.deBruijn64tab"], apart := false, laid := [("math/bits.deBruijn32tab", laid_math_bits_deBruijn32tab), ("math/bits.deBruijn64tab", laid_math_bits_deBruijn64tab), ("internal/strconv.uint64pow10", laid_internal_strconv_uint64pow10)], narrowed := true }
def MoneyTextsUptoSaid : Prop := moneyTextsUptoRow.holds Tryd.pinned (OpenSpec.upto moneyTextsSpec)

/-- 'stipendlaw01.MoneyParses', WHERE WHAT IT READS IS OF BULK AT MOST 1048576: true; the input reads as it did. -/
def moneyParsesUptoRow : OpenClaim := { program := "ytmocphafkimdpaadoor", sum := "ab37efe0682ab843e694b6d96c86f627892ce347712de6b4648a58963439df04", func := "stipend/stipendlaw01.MoneyParses", spec := "moneyParses", unfollowed := true, recurses := true, named := ["math/bits.divideError", "math/bits.overflowError", "internal/strconv.uint64pow10", "math/bits.deBruijn32tab", "math/bits.deBruijn64tab"], apart := false, laid := [("math/bits.deBruijn32tab", laid_math_bits_deBruijn32tab), ("math/bits.deBruijn64tab", laid_math_bits_deBruijn64tab), ("internal/strconv.uint64pow10", laid_internal_strconv_uint64pow10)], narrowed := true }
def MoneyParsesUptoSaid : Prop := moneyParsesUptoRow.holds Tryd.pinned (OpenSpec.upto moneyParsesSpec)

/-- 'stipendlaw01.MoneyAbs', WHERE WHAT IT READS IS OF BULK AT MOST 1048576: true; the input reads as it did. -/
def moneyAbsUptoRow : OpenClaim := { program := "ytmocphafkimdpaadoor", sum := "ab37efe0682ab843e694b6d96c86f627892ce347712de6b4648a58963439df04", func := "stipend/stipendlaw01.MoneyAbs", spec := "moneyAbs", unfollowed := true, recurses := true, named := ["math/bits.divideError", "math/bits.overflowError", "internal/strconv.uint64pow10", "math/bits.deBruijn32tab", "math/bits.deBruijn64tab"], apart := false, laid := [("math/bits.deBruijn32tab", laid_math_bits_deBruijn32tab), ("math/bits.deBruijn64tab", laid_math_bits_deBruijn64tab), ("internal/strconv.uint64pow10", laid_internal_strconv_uint64pow10)], narrowed := true }
def MoneyAbsUptoSaid : Prop := moneyAbsUptoRow.holds Tryd.pinned (OpenSpec.upto moneyAbsSpec)

/-- 'stipendlaw01.MoneySpreads', WHERE WHAT IT READS IS OF BULK AT MOST 1048576: true; the input reads as it did. -/
def moneySpreadsUptoRow : OpenClaim := { program := "ytmocphafkimdpaadoor", sum := "ab37efe0682ab843e694b6d96c86f627892ce347712de6b4648a58963439df04", func := "stipend/stipendlaw01.MoneySpreads", spec := "moneySpreads", inPlace := ["math.Float64bits", "math.Float64frombits"], unfollowed := true, recurses := true, named := ["math/bits.divideError", "math/bits.overflowError", "internal/strconv.uint64pow10", "math/bits.deBruijn32tab", "math/bits.deBruijn64tab"], apart := false, laid := [("math/bits.deBruijn32tab", laid_math_bits_deBruijn32tab), ("math/bits.deBruijn64tab", laid_math_bits_deBruijn64tab), ("internal/strconv.uint64pow10", laid_internal_strconv_uint64pow10)], narrowed := true }
def MoneySpreadsUptoSaid : Prop := moneySpreadsUptoRow.holds Tryd.pinned (OpenSpec.upto moneySpreadsSpec)

/-- 'stipendlaw01.MoneyAdds', WHERE WHAT IT READS IS OF BULK AT MOST 1048576: true; the input reads as it did. -/
def moneyAddsUptoRow : OpenClaim := { program := "ytmocphafkimdpaadoor", sum := "ab37efe0682ab843e694b6d96c86f627892ce347712de6b4648a58963439df04", func := "stipend/stipendlaw01.MoneyAdds", spec := "moneyAdds", unfollowed := true, recurses := true, named := ["math/bits.divideError", "math/bits.overflowError", "internal/strconv.uint64pow10", "math/bits.deBruijn32tab", "math/bits.deBruijn64tab"], apart := false, laid := [("math/bits.deBruijn32tab", laid_math_bits_deBruijn32tab), ("math/bits.deBruijn64tab", laid_math_bits_deBruijn64tab), ("internal/strconv.uint64pow10", laid_internal_strconv_uint64pow10)], narrowed := true }
def MoneyAddsUptoSaid : Prop := moneyAddsUptoRow.holds Tryd.pinned (OpenSpec.upto moneyAddsSpec)

/-- 'stipendlaw01.MoneySums', WHERE WHAT IT READS IS OF BULK AT MOST 1048576: true; the input reads as it did. -/
def moneySumsUptoRow : OpenClaim := { program := "ytmocphafkimdpaadoor", sum := "ab37efe0682ab843e694b6d96c86f627892ce347712de6b4648a58963439df04", func := "stipend/stipendlaw01.MoneySums", spec := "moneySums", unfollowed := true, recurses := true, named := ["math/bits.divideError", "math/bits.overflowError", "internal/strconv.uint64pow10", "math/bits.deBruijn32tab", "math/bits.deBruijn64tab"], apart := false, laid := [("math/bits.deBruijn32tab", laid_math_bits_deBruijn32tab), ("math/bits.deBruijn64tab", laid_math_bits_deBruijn64tab), ("internal/strconv.uint64pow10", laid_internal_strconv_uint64pow10)], narrowed := true }
def MoneySumsUptoSaid : Prop := moneySumsUptoRow.holds Tryd.pinned (OpenSpec.upto moneySumsSpec)

/-- 'stipendlaw01.MoneyTimes', WHERE WHAT IT READS IS OF BULK AT MOST 1048576: true; the input reads as it did. -/
def moneyTimesUptoRow : OpenClaim := { program := "ytmocphafkimdpaadoor", sum := "ab37efe0682ab843e694b6d96c86f627892ce347712de6b4648a58963439df04", func := "stipend/stipendlaw01.MoneyTimes", spec := "moneyTimes", unfollowed := true, recurses := true, named := ["math/bits.divideError", "math/bits.overflowError", "internal/strconv.uint64pow10", "math/bits.deBruijn32tab", "math/bits.deBruijn64tab"], apart := false, laid := [("math/bits.deBruijn32tab", laid_math_bits_deBruijn32tab), ("math/bits.deBruijn64tab", laid_math_bits_deBruijn64tab), ("internal/strconv.uint64pow10", laid_internal_strconv_uint64pow10)], narrowed := true }
def MoneyTimesUptoSaid : Prop := moneyTimesUptoRow.holds Tryd.pinned (OpenSpec.upto moneyTimesSpec)

/-- 'stipendlaw01.MoneyUnits', WHERE WHAT IT READS IS OF BULK AT MOST 1048576: true; the input reads as it did. -/
def moneyUnitsUptoRow : OpenClaim := { program := "ytmocphafkimdpaadoor", sum := "ab37efe0682ab843e694b6d96c86f627892ce347712de6b4648a58963439df04", func := "stipend/stipendlaw01.MoneyUnits", spec := "moneyUnits", unfollowed := true, recurses := true, named := ["math/bits.divideError", "math/bits.overflowError", "internal/strconv.uint64pow10", "math/bits.deBruijn32tab", "math/bits.deBruijn64tab"], apart := false, laid := [("math/bits.deBruijn32tab", laid_math_bits_deBruijn32tab), ("math/bits.deBruijn64tab", laid_math_bits_deBruijn64tab), ("internal/strconv.uint64pow10", laid_internal_strconv_uint64pow10)], narrowed := true }
def MoneyUnitsUptoSaid : Prop := moneyUnitsUptoRow.holds Tryd.pinned (OpenSpec.upto moneyUnitsSpec)

/-- 'stipendlaw11.ElementTexts', WHERE WHAT IT READS IS OF BULK AT MOST 1048576: true; the input reads as it did. -/
def elementTextsUptoRow : OpenClaim := { program := "ytmocphafkimdpaadoor", sum := "ab37efe0682ab843e694b6d96c86f627892ce347712de6b4648a58963439df04", func := "stipend/stipendlaw11.ElementTexts", spec := "elementTexts", unfollowed := true, recurses := true, named := ["internal/strconv.uint64pow10", "math/bits.deBruijn32tab", "math/bits.deBruijn64tab", "strings.asciiSpace", "unicode.White_Space"], apart := false, laid := [("math/bits.deBruijn32tab", laid_math_bits_deBruijn32tab), ("math/bits.deBruijn64tab", laid_math_bits_deBruijn64tab), ("internal/strconv.uint64pow10", laid_internal_strconv_uint64pow10), ("unicode.White_Space", laid_unicode_White_Space), ("strings.asciiSpace", laid_strings_asciiSpace)], narrowed := true }
def ElementTextsUptoSaid : Prop := elementTextsUptoRow.holds Tryd.pinned (OpenSpec.upto elementTextsSpec)

end Rows
end Go.Proofs.YtmocphafkimdpaaDoor
