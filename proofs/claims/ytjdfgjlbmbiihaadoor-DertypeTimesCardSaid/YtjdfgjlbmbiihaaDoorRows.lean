/-
  NARROWER THAN 'FOR EVERY INPUT', by the rows' own cells (each row's printed sentence says how): DertagReads: laid · DertagBytes: laid · DertagPuts: laid · DertagBack: laid · DertagOne: laid · DertagLengths: laid · DertypeValues: laid · DertypeChecks: laid · DertypeNumbers: laid · DertypeTimes: laid · DertypeBits: laid.
  DERIVED. THE GIVEN ROWS OF THIS SEAT. 11 by the template 'for every input the law returns true; each argument reads behind the call as it read before'; 0 by the template 'total and deterministic' (their statements: YtjdfgjlbmbiihaaDoorTotals.lean).
  GIVEN WITH THE SEED: the statements are not yours to turn. If you find one false, say at which input.
  Laid BY PROGRAM, IN A SANDBOX (cutbox-rows.mjs): the forced cells as the released guide's own fill.sh prints them over the translation cc335a26fb65a23b… (all of the seat's roots in one cut). By AI agents, Wed Nov 11 2026. No macro, syntax, notation, axiom, sorry.
-/
import Derived.Test.YtjdfgjlbmbiihaaDoorChecked
import GoSem.Claim
import GoSem.ClaimJoined
import GoSem.ClaimMapViews
import Derived.JoinedTies
import Derived.KernelRfl
namespace Go.Proofs.YtjdfgjlbmbiihaaDoor
/- THE CELL 'sum', in the pinned program and in every row, IS THE sha256 OF THE DUMP (.gsa) THAT YtjdfgjlbmbiihaaDoorProg.lean LOADS. Nothing in Lean hashes anything: it is a label: what it is worth is what the hold of that sum in a sandbox is worth. -/
noncomputable def Tryd.pinned : Pinned := { name := "ytjdfgjlbmbiihaadoor", sum := "cc335a26fb65a23b77b792bfbf184e71d4a92065e8a5cff18f6eca417bafdaa9", checked := Tryd.checked }
namespace Rows
def none {H : Type} : Left H := { results := [], args := [] }

/- WHAT THE LISTED PACKAGE-LEVEL VARIABLES READ AS WHEN THE CALL BEGINS. Each datum BY PROGRAM (the guide's laid-datum.mjs) off the statement by which the dump's own 'gosem.cut.vars' lays the variable. In a bare row this is a premise. The card (YtjdfgjlbmbiihaaDoorCards.lean) ties it to the program's text. -/
def laid_passepartout_dertag_plain {H : Type} : DataW H := .agg [.lit (.int .i64 1), .lit (.int .i64 2), .lit (.int .i64 3), .lit (.int .i64 4), .lit (.int .i64 5), .lit (.int .i64 6), .lit (.int .i64 10), .lit (.int .i64 12), .lit (.int .i64 18), .lit (.int .i64 19), .lit (.int .i64 20), .lit (.int .i64 22), .lit (.int .i64 23), .lit (.int .i64 24), .lit (.int .i64 26), .lit (.int .i64 28), .lit (.int .i64 30)]
def laid_passepartout_dertag_made {H : Type} : DataW H := .agg [.lit (.int .i64 16), .lit (.int .i64 17)]
def laid_math_bits_deBruijn32tab {H : Type} : DataW H := .agg [.lit (.int .u8 0), .lit (.int .u8 1), .lit (.int .u8 28), .lit (.int .u8 2), .lit (.int .u8 29), .lit (.int .u8 14), .lit (.int .u8 24), .lit (.int .u8 3), .lit (.int .u8 30), .lit (.int .u8 22), .lit (.int .u8 20), .lit (.int .u8 15), .lit (.int .u8 25), .lit (.int .u8 17), .lit (.int .u8 4), .lit (.int .u8 8), .lit (.int .u8 31), .lit (.int .u8 27), .lit (.int .u8 13), .lit (.int .u8 23), .lit (.int .u8 21), .lit (.int .u8 19), .lit (.int .u8 16), .lit (.int .u8 7), .lit (.int .u8 26), .lit (.int .u8 12), .lit (.int .u8 18), .lit (.int .u8 6), .lit (.int .u8 11), .lit (.int .u8 5), .lit (.int .u8 10), .lit (.int .u8 9)]
def laid_math_bits_deBruijn64tab {H : Type} : DataW H := .agg [.lit (.int .u8 0), .lit (.int .u8 1), .lit (.int .u8 56), .lit (.int .u8 2), .lit (.int .u8 57), .lit (.int .u8 49), .lit (.int .u8 28), .lit (.int .u8 3), .lit (.int .u8 61), .lit (.int .u8 58), .lit (.int .u8 42), .lit (.int .u8 50), .lit (.int .u8 38), .lit (.int .u8 29), .lit (.int .u8 17), .lit (.int .u8 4), .lit (.int .u8 62), .lit (.int .u8 47), .lit (.int .u8 59), .lit (.int .u8 36), .lit (.int .u8 45), .lit (.int .u8 43), .lit (.int .u8 51), .lit (.int .u8 22), .lit (.int .u8 53), .lit (.int .u8 39), .lit (.int .u8 33), .lit (.int .u8 30), .lit (.int .u8 24), .lit (.int .u8 18), .lit (.int .u8 12), .lit (.int .u8 5), .lit (.int .u8 63), .lit (.int .u8 55), .lit (.int .u8 48), .lit (.int .u8 27), .lit (.int .u8 60), .lit (.int .u8 41), .lit (.int .u8 37), .lit (.int .u8 16), .lit (.int .u8 46), .lit (.int .u8 35), .lit (.int .u8 44), .lit (.int .u8 21), .lit (.int .u8 52), .lit (.int .u8 32), .lit (.int .u8 23), .lit (.int .u8 11), .lit (.int .u8 54), .lit (.int .u8 26), .lit (.int .u8 40), .lit (.int .u8 15), .lit (.int .u8 34), .lit (.int .u8 20), .lit (.int .u8 31), .lit (.int .u8 10), .lit (.int .u8 25), .lit (.int .u8 14), .lit (.int .u8 19), .lit (.int .u8 9), .lit (.int .u8 13), .lit (.int .u8 8), .lit (.int .u8 7), .lit (.int .u8 6)]
def laid_internal_strconv_uint64pow10 {H : Type} : DataW H := .agg [.lit (.int .u64 1), .lit (.int .u64 10), .lit (.int .u64 100), .lit (.int .u64 1000), .lit (.int .u64 10000), .lit (.int .u64 100000), .lit (.int .u64 1000000), .lit (.int .u64 10000000), .lit (.int .u64 100000000), .lit (.int .u64 1000000000), .lit (.int .u64 10000000000), .lit (.int .u64 100000000000), .lit (.int .u64 1000000000000), .lit (.int .u64 10000000000000), .lit (.int .u64 100000000000000), .lit (.int .u64 1000000000000000), .lit (.int .u64 10000000000000000), .lit (.int .u64 100000000000000000), .lit (.int .u64 1000000000000000000), .lit (.int .u64 10000000000000000000)]
def laid_strconv_ErrRange {H : Type} : DataW H := .iface "*errors.errorString" (.ptr (.agg [.lit (.string [118, 97, 108, 117, 101, 32, 111, 117, 116, 32, 111, 102, 32, 114, 97, 110, 103, 101])]))
def laid_strconv_ErrSyntax {H : Type} : DataW H := .iface "*errors.errorString" (.ptr (.agg [.lit (.string [105, 110, 118, 97, 108, 105, 100, 32, 115, 121, 110, 116, 97, 120])]))
def laid_passepartout_dertype_days {H : Type} : DataW H := .agg [.lit (.int .i64 31), .lit (.int .i64 28), .lit (.int .i64 31), .lit (.int .i64 30), .lit (.int .i64 31), .lit (.int .i64 30), .lit (.int .i64 31), .lit (.int .i64 31), .lit (.int .i64 30), .lit (.int .i64 31), .lit (.int .i64 30), .lit (.int .i64 31)]

/-- 'passepartoutlaw09.DertagReads': WHATEVER THE INPUT: true; the input reads as it did. -/
def dertagReadsSpec : ChangeSpec := { name := "dertagReads", fn := fun _ => fun
  | [d] => { results := [.lit (.bool true)], args := [d] }
  | _ => none }
def dertagReadsRow : OpenClaim := { program := "ytjdfgjlbmbiihaadoor", sum := "cc335a26fb65a23b77b792bfbf184e71d4a92065e8a5cff18f6eca417bafdaa9", func := "passepartout/passepartoutlaw09.DertagReads", spec := "dertagReads", named := ["passepartout/dertag.plain", "passepartout/dertag.made"], apart := false, laid := [("passepartout/dertag.plain", laid_passepartout_dertag_plain), ("passepartout/dertag.made", laid_passepartout_dertag_made)] }
def DertagReadsSaid : Prop := dertagReadsRow.holds Tryd.pinned (OpenSpec.ofChange dertagReadsSpec)

/-- ITS FALSE NEIGHBOUR: 'it returns false'. Refute it at one input. -/
def dertagReadsWrong : ChangeSpec := { name := "dertagReads", fn := fun _ => fun
  | [d] => { results := [.lit (.bool false)], args := [d] }
  | _ => none }
def DertagReadsWrongFalsely : Prop := dertagReadsRow.holds Tryd.pinned (OpenSpec.ofChange dertagReadsWrong)

/-- 'passepartoutlaw09.DertagBytes': WHATEVER THE INPUT: true; the input reads as it did. -/
def dertagBytesSpec : ChangeSpec := { name := "dertagBytes", fn := fun _ => fun
  | [d] => { results := [.lit (.bool true)], args := [d] }
  | _ => none }
def dertagBytesRow : OpenClaim := { program := "ytjdfgjlbmbiihaadoor", sum := "cc335a26fb65a23b77b792bfbf184e71d4a92065e8a5cff18f6eca417bafdaa9", func := "passepartout/passepartoutlaw09.DertagBytes", spec := "dertagBytes", named := ["passepartout/dertag.plain", "passepartout/dertag.made"], apart := false, laid := [("passepartout/dertag.plain", laid_passepartout_dertag_plain), ("passepartout/dertag.made", laid_passepartout_dertag_made)] }
def DertagBytesSaid : Prop := dertagBytesRow.holds Tryd.pinned (OpenSpec.ofChange dertagBytesSpec)

/-- ITS FALSE NEIGHBOUR: 'it returns false'. Refute it at one input. -/
def dertagBytesWrong : ChangeSpec := { name := "dertagBytes", fn := fun _ => fun
  | [d] => { results := [.lit (.bool false)], args := [d] }
  | _ => none }
def DertagBytesWrongFalsely : Prop := dertagBytesRow.holds Tryd.pinned (OpenSpec.ofChange dertagBytesWrong)

/-- 'passepartoutlaw09.DertagPuts': WHATEVER THE INPUT: true; the input reads as it did. -/
def dertagPutsSpec : ChangeSpec := { name := "dertagPuts", fn := fun _ => fun
  | [d] => { results := [.lit (.bool true)], args := [d] }
  | _ => none }
def dertagPutsRow : OpenClaim := { program := "ytjdfgjlbmbiihaadoor", sum := "cc335a26fb65a23b77b792bfbf184e71d4a92065e8a5cff18f6eca417bafdaa9", func := "passepartout/passepartoutlaw09.DertagPuts", spec := "dertagPuts", named := ["passepartout/dertag.plain", "passepartout/dertag.made"], apart := false, laid := [("passepartout/dertag.plain", laid_passepartout_dertag_plain), ("passepartout/dertag.made", laid_passepartout_dertag_made)] }
def DertagPutsSaid : Prop := dertagPutsRow.holds Tryd.pinned (OpenSpec.ofChange dertagPutsSpec)

/-- ITS FALSE NEIGHBOUR: 'it returns false'. Refute it at one input. -/
def dertagPutsWrong : ChangeSpec := { name := "dertagPuts", fn := fun _ => fun
  | [d] => { results := [.lit (.bool false)], args := [d] }
  | _ => none }
def DertagPutsWrongFalsely : Prop := dertagPutsRow.holds Tryd.pinned (OpenSpec.ofChange dertagPutsWrong)

/-- 'passepartoutlaw09.DertagBack': WHATEVER THE INPUT: true; the input reads as it did. -/
def dertagBackSpec : ChangeSpec := { name := "dertagBack", fn := fun _ => fun
  | [d1, d2] => { results := [.lit (.bool true)], args := [d1, d2] }
  | _ => none }
def dertagBackRow : OpenClaim := { program := "ytjdfgjlbmbiihaadoor", sum := "cc335a26fb65a23b77b792bfbf184e71d4a92065e8a5cff18f6eca417bafdaa9", func := "passepartout/passepartoutlaw09.DertagBack", spec := "dertagBack", named := ["passepartout/dertag.plain", "passepartout/dertag.made"], apart := false, laid := [("passepartout/dertag.plain", laid_passepartout_dertag_plain), ("passepartout/dertag.made", laid_passepartout_dertag_made)] }
def DertagBackSaid : Prop := dertagBackRow.holds Tryd.pinned (OpenSpec.ofChange dertagBackSpec)

/-- ITS FALSE NEIGHBOUR: 'it returns false'. Refute it at one input. -/
def dertagBackWrong : ChangeSpec := { name := "dertagBack", fn := fun _ => fun
  | [d1, d2] => { results := [.lit (.bool false)], args := [d1, d2] }
  | _ => none }
def DertagBackWrongFalsely : Prop := dertagBackRow.holds Tryd.pinned (OpenSpec.ofChange dertagBackWrong)

/-- 'passepartoutlaw09.DertagOne': WHATEVER THE INPUT: true; the input reads as it did. -/
def dertagOneSpec : ChangeSpec := { name := "dertagOne", fn := fun _ => fun
  | [d] => { results := [.lit (.bool true)], args := [d] }
  | _ => none }
def dertagOneRow : OpenClaim := { program := "ytjdfgjlbmbiihaadoor", sum := "cc335a26fb65a23b77b792bfbf184e71d4a92065e8a5cff18f6eca417bafdaa9", func := "passepartout/passepartoutlaw09.DertagOne", spec := "dertagOne", named := ["passepartout/dertag.plain", "passepartout/dertag.made"], apart := false, laid := [("passepartout/dertag.plain", laid_passepartout_dertag_plain), ("passepartout/dertag.made", laid_passepartout_dertag_made)] }
def DertagOneSaid : Prop := dertagOneRow.holds Tryd.pinned (OpenSpec.ofChange dertagOneSpec)

/-- ITS FALSE NEIGHBOUR: 'it returns false'. Refute it at one input. -/
def dertagOneWrong : ChangeSpec := { name := "dertagOne", fn := fun _ => fun
  | [d] => { results := [.lit (.bool false)], args := [d] }
  | _ => none }
def DertagOneWrongFalsely : Prop := dertagOneRow.holds Tryd.pinned (OpenSpec.ofChange dertagOneWrong)

/-- 'passepartoutlaw09.DertagLengths': WHATEVER THE INPUT: true; the input reads as it did. -/
def dertagLengthsSpec : ChangeSpec := { name := "dertagLengths", fn := fun _ => fun
  | [d1, d2] => { results := [.lit (.bool true)], args := [d1, d2] }
  | _ => none }
def dertagLengthsRow : OpenClaim := { program := "ytjdfgjlbmbiihaadoor", sum := "cc335a26fb65a23b77b792bfbf184e71d4a92065e8a5cff18f6eca417bafdaa9", func := "passepartout/passepartoutlaw09.DertagLengths", spec := "dertagLengths", named := ["passepartout/dertag.plain", "passepartout/dertag.made"], apart := false, laid := [("passepartout/dertag.plain", laid_passepartout_dertag_plain), ("passepartout/dertag.made", laid_passepartout_dertag_made)] }
def DertagLengthsSaid : Prop := dertagLengthsRow.holds Tryd.pinned (OpenSpec.ofChange dertagLengthsSpec)

/-- ITS FALSE NEIGHBOUR: 'it returns false'. Refute it at one input. -/
def dertagLengthsWrong : ChangeSpec := { name := "dertagLengths", fn := fun _ => fun
  | [d1, d2] => { results := [.lit (.bool false)], args := [d1, d2] }
  | _ => none }
def DertagLengthsWrongFalsely : Prop := dertagLengthsRow.holds Tryd.pinned (OpenSpec.ofChange dertagLengthsWrong)

/-- 'passepartoutlaw10.DertypeValues': WHATEVER THE INPUT: true; the input reads as it did. -/
def dertypeValuesSpec : ChangeSpec := { name := "dertypeValues", fn := fun _ => fun
  | [d1, d2] => { results := [.lit (.bool true)], args := [d1, d2] }
  | _ => none }
def dertypeValuesRow : OpenClaim := { program := "ytjdfgjlbmbiihaadoor", sum := "cc335a26fb65a23b77b792bfbf184e71d4a92065e8a5cff18f6eca417bafdaa9", func := "passepartout/passepartoutlaw10.DertypeValues", spec := "dertypeValues", named := ["passepartout/dertype.days", "strconv.ErrSyntax", "strconv.ErrRange", "internal/strconv.uint64pow10", "math/bits.deBruijn32tab", "math/bits.deBruijn64tab"], apart := false, laid := [("math/bits.deBruijn32tab", laid_math_bits_deBruijn32tab), ("math/bits.deBruijn64tab", laid_math_bits_deBruijn64tab), ("internal/strconv.uint64pow10", laid_internal_strconv_uint64pow10), ("strconv.ErrRange", laid_strconv_ErrRange), ("strconv.ErrSyntax", laid_strconv_ErrSyntax), ("passepartout/dertype.days", laid_passepartout_dertype_days)] }
def DertypeValuesSaid : Prop := dertypeValuesRow.holds Tryd.pinned (OpenSpec.ofChange dertypeValuesSpec)

/-- ITS FALSE NEIGHBOUR: 'it returns false'. Refute it at one input. -/
def dertypeValuesWrong : ChangeSpec := { name := "dertypeValues", fn := fun _ => fun
  | [d1, d2] => { results := [.lit (.bool false)], args := [d1, d2] }
  | _ => none }
def DertypeValuesWrongFalsely : Prop := dertypeValuesRow.holds Tryd.pinned (OpenSpec.ofChange dertypeValuesWrong)

/-- 'passepartoutlaw10.DertypeChecks': WHATEVER THE INPUT: true; the input reads as it did. -/
def dertypeChecksSpec : ChangeSpec := { name := "dertypeChecks", fn := fun _ => fun
  | [d1, d2] => { results := [.lit (.bool true)], args := [d1, d2] }
  | _ => none }
def dertypeChecksRow : OpenClaim := { program := "ytjdfgjlbmbiihaadoor", sum := "cc335a26fb65a23b77b792bfbf184e71d4a92065e8a5cff18f6eca417bafdaa9", func := "passepartout/passepartoutlaw10.DertypeChecks", spec := "dertypeChecks", unfollowed := true, recurses := true, named := ["passepartout/dertype.days", "strconv.ErrSyntax", "strconv.ErrRange", "internal/strconv.uint64pow10", "math/bits.deBruijn32tab", "math/bits.deBruijn64tab"], apart := false, laid := [("math/bits.deBruijn32tab", laid_math_bits_deBruijn32tab), ("math/bits.deBruijn64tab", laid_math_bits_deBruijn64tab), ("internal/strconv.uint64pow10", laid_internal_strconv_uint64pow10), ("strconv.ErrRange", laid_strconv_ErrRange), ("strconv.ErrSyntax", laid_strconv_ErrSyntax), ("passepartout/dertype.days", laid_passepartout_dertype_days)] }
def DertypeChecksSaid : Prop := dertypeChecksRow.holds Tryd.pinned (OpenSpec.ofChange dertypeChecksSpec)

/-- ITS FALSE NEIGHBOUR: 'it returns false'. Refute it at one input. -/
def dertypeChecksWrong : ChangeSpec := { name := "dertypeChecks", fn := fun _ => fun
  | [d1, d2] => { results := [.lit (.bool false)], args := [d1, d2] }
  | _ => none }
def DertypeChecksWrongFalsely : Prop := dertypeChecksRow.holds Tryd.pinned (OpenSpec.ofChange dertypeChecksWrong)

/-- 'passepartoutlaw10.DertypeNumbers': WHATEVER THE INPUT: true; the input reads as it did. -/
def dertypeNumbersSpec : ChangeSpec := { name := "dertypeNumbers", fn := fun _ => fun
  | [d] => { results := [.lit (.bool true)], args := [d] }
  | _ => none }
def dertypeNumbersRow : OpenClaim := { program := "ytjdfgjlbmbiihaadoor", sum := "cc335a26fb65a23b77b792bfbf184e71d4a92065e8a5cff18f6eca417bafdaa9", func := "passepartout/passepartoutlaw10.DertypeNumbers", spec := "dertypeNumbers", unfollowed := true, recurses := true, named := ["passepartout/dertype.days", "strconv.ErrSyntax", "strconv.ErrRange", "internal/strconv.uint64pow10", "math/bits.deBruijn32tab", "math/bits.deBruijn64tab"], apart := false, laid := [("math/bits.deBruijn32tab", laid_math_bits_deBruijn32tab), ("math/bits.deBruijn64tab", laid_math_bits_deBruijn64tab), ("internal/strconv.uint64pow10", laid_internal_strconv_uint64pow10), ("strconv.ErrRange", laid_strconv_ErrRange), ("strconv.ErrSyntax", laid_strconv_ErrSyntax), ("passepartout/dertype.days", laid_passepartout_dertype_days)] }
def DertypeNumbersSaid : Prop := dertypeNumbersRow.holds Tryd.pinned (OpenSpec.ofChange dertypeNumbersSpec)

/-- ITS FALSE NEIGHBOUR: 'it returns false'. Refute it at one input. -/
def dertypeNumbersWrong : ChangeSpec := { name := "dertypeNumbers", fn := fun _ => fun
  | [d] => { results := [.lit (.bool false)], args := [d] }
  | _ => none }
def DertypeNumbersWrongFalsely : Prop := dertypeNumbersRow.holds Tryd.pinned (OpenSpec.ofChange dertypeNumbersWrong)

/-- 'passepartoutlaw10.DertypeTimes': WHATEVER THE INPUT: true; the input reads as it did. -/
def dertypeTimesSpec : ChangeSpec := { name := "dertypeTimes", fn := fun _ => fun
  | [d] => { results := [.lit (.bool true)], args := [d] }
  | _ => none }
def dertypeTimesRow : OpenClaim := { program := "ytjdfgjlbmbiihaadoor", sum := "cc335a26fb65a23b77b792bfbf184e71d4a92065e8a5cff18f6eca417bafdaa9", func := "passepartout/passepartoutlaw10.DertypeTimes", spec := "dertypeTimes", unfollowed := true, recurses := true, named := ["passepartout/dertype.days", "strconv.ErrSyntax", "strconv.ErrRange", "internal/strconv.uint64pow10", "math/bits.deBruijn32tab", "math/bits.deBruijn64tab"], apart := false, laid := [("math/bits.deBruijn32tab", laid_math_bits_deBruijn32tab), ("math/bits.deBruijn64tab", laid_math_bits_deBruijn64tab), ("internal/strconv.uint64pow10", laid_internal_strconv_uint64pow10), ("strconv.ErrRange", laid_strconv_ErrRange), ("strconv.ErrSyntax", laid_strconv_ErrSyntax), ("passepartout/dertype.days", laid_passepartout_dertype_days)] }
def DertypeTimesSaid : Prop := dertypeTimesRow.holds Tryd.pinned (OpenSpec.ofChange dertypeTimesSpec)

/-- ITS FALSE NEIGHBOUR: 'it returns false'. Refute it at one input. -/
def dertypeTimesWrong : ChangeSpec := { name := "dertypeTimes", fn := fun _ => fun
  | [d] => { results := [.lit (.bool false)], args := [d] }
  | _ => none }
def DertypeTimesWrongFalsely : Prop := dertypeTimesRow.holds Tryd.pinned (OpenSpec.ofChange dertypeTimesWrong)

/-- 'passepartoutlaw10.DertypeBits': WHATEVER THE INPUT: true; the input reads as it did. -/
def dertypeBitsSpec : ChangeSpec := { name := "dertypeBits", fn := fun _ => fun
  | [d1, d2, d3] => { results := [.lit (.bool true)], args := [d1, d2, d3] }
  | _ => none }
def dertypeBitsRow : OpenClaim := { program := "ytjdfgjlbmbiihaadoor", sum := "cc335a26fb65a23b77b792bfbf184e71d4a92065e8a5cff18f6eca417bafdaa9", func := "passepartout/passepartoutlaw10.DertypeBits", spec := "dertypeBits", unfollowed := true, recurses := true, named := ["passepartout/dertype.days", "strconv.ErrSyntax", "strconv.ErrRange", "internal/strconv.uint64pow10", "math/bits.deBruijn32tab", "math/bits.deBruijn64tab"], apart := false, laid := [("math/bits.deBruijn32tab", laid_math_bits_deBruijn32tab), ("math/bits.deBruijn64tab", laid_math_bits_deBruijn64tab), ("internal/strconv.uint64pow10", laid_internal_strconv_uint64pow10), ("strconv.ErrRange", laid_strconv_ErrRange), ("strconv.ErrSyntax", laid_strconv_ErrSyntax), ("passepartout/dertype.days", laid_passepartout_dertype_days)] }
def DertypeBitsSaid : Prop := dertypeBitsRow.holds Tryd.pinned (OpenSpec.ofChange dertypeBitsSpec)

/-- ITS FALSE NEIGHBOUR: 'it returns false'. Refute it at one input. -/
def dertypeBitsWrong : ChangeSpec := { name := "dertypeBits", fn := fun _ => fun
  | [d1, d2, d3] => { results := [.lit (.bool false)], args := [d1, d2, d3] }
  | _ => none }
def DertypeBitsWrongFalsely : Prop := dertypeBitsRow.holds Tryd.pinned (OpenSpec.ofChange dertypeBitsWrong)

/- THE SECOND FORM. 'bulk': how many values and letters a reading holds, each counted each time it is reached (what is shared counts as often as it is met; a slice's spare places count too). A statement '..UptoSaid' is the law's where the arguments, and the package variables that the reading takes, are together of bulk at most 1048576: NARROWER than '..Said'. Prove '..Said' where nothing that the law and all that it calls make is longer than what came in: it says more and counts as full. Else prove '..UptoSaid'. A law counts once. -/
mutual
def uptoBulk {H : Type} : DataW H → Nat
  | .lit (.string bytes) => bytes.length + 1
  | .lit _ => 1
  | .nil => 1
  | .ptr d => uptoBulk d + 1
  | .slice elems spare => uptoBulkAll elems + uptoBulkAll spare + 1
  | .agg parts => uptoBulkAll parts + 1
  | .iface _ d => uptoBulk d + 1
  | .map entries => uptoBulkEntries entries + 1
  | .held _ => 1
def uptoBulkAll {H : Type} : List (DataW H) → Nat
  | [] => 0
  | d :: r => uptoBulk d + uptoBulkAll r
def uptoBulkEntries {H : Type} : List (Lit × DataW H) → Nat
  | [] => 0
  | x :: r => uptoBulkEntry x + uptoBulkEntries r
def uptoBulkEntry {H : Type} : Lit × DataW H → Nat
  | (.string bytes, d) => bytes.length + uptoBulk d + 1
  | (_, d) => uptoBulk d + 1
 end
def uptoSmall : (H : Type) → List (DataW H) → Bool := fun _ ds => decide (uptoBulkAll ds ≤ 1048576)
def OpenSpec.upto (s : _root_.Go.ChangeSpec) : _root_.Go.OpenSpec := { _root_.Go.OpenSpec.ofChange s with cond := some uptoSmall }

/-- 'passepartoutlaw09.DertagReads', WHERE WHAT IT READS IS OF BULK AT MOST 1048576: true; the input reads as it did. -/
def dertagReadsUptoRow : OpenClaim := { program := "ytjdfgjlbmbiihaadoor", sum := "cc335a26fb65a23b77b792bfbf184e71d4a92065e8a5cff18f6eca417bafdaa9", func := "passepartout/passepartoutlaw09.DertagReads", spec := "dertagReads", named := ["passepartout/dertag.plain", "passepartout/dertag.made"], apart := false, laid := [("passepartout/dertag.plain", laid_passepartout_dertag_plain), ("passepartout/dertag.made", laid_passepartout_dertag_made)], narrowed := true }
def DertagReadsUptoSaid : Prop := dertagReadsUptoRow.holds Tryd.pinned (OpenSpec.upto dertagReadsSpec)

/-- 'passepartoutlaw09.DertagBytes', WHERE WHAT IT READS IS OF BULK AT MOST 1048576: true; the input reads as it did. -/
def dertagBytesUptoRow : OpenClaim := { program := "ytjdfgjlbmbiihaadoor", sum := "cc335a26fb65a23b77b792bfbf184e71d4a92065e8a5cff18f6eca417bafdaa9", func := "passepartout/passepartoutlaw09.DertagBytes", spec := "dertagBytes", named := ["passepartout/dertag.plain", "passepartout/dertag.made"], apart := false, laid := [("passepartout/dertag.plain", laid_passepartout_dertag_plain), ("passepartout/dertag.made", laid_passepartout_dertag_made)], narrowed := true }
def DertagBytesUptoSaid : Prop := dertagBytesUptoRow.holds Tryd.pinned (OpenSpec.upto dertagBytesSpec)

/-- 'passepartoutlaw09.DertagPuts', WHERE WHAT IT READS IS OF BULK AT MOST 1048576: true; the input reads as it did. -/
def dertagPutsUptoRow : OpenClaim := { program := "ytjdfgjlbmbiihaadoor", sum := "cc335a26fb65a23b77b792bfbf184e71d4a92065e8a5cff18f6eca417bafdaa9", func := "passepartout/passepartoutlaw09.DertagPuts", spec := "dertagPuts", named := ["passepartout/dertag.plain", "passepartout/dertag.made"], apart := false, laid := [("passepartout/dertag.plain", laid_passepartout_dertag_plain), ("passepartout/dertag.made", laid_passepartout_dertag_made)], narrowed := true }
def DertagPutsUptoSaid : Prop := dertagPutsUptoRow.holds Tryd.pinned (OpenSpec.upto dertagPutsSpec)

/-- 'passepartoutlaw09.DertagBack', WHERE WHAT IT READS IS OF BULK AT MOST 1048576: true; the input reads as it did. -/
def dertagBackUptoRow : OpenClaim := { program := "ytjdfgjlbmbiihaadoor", sum := "cc335a26fb65a23b77b792bfbf184e71d4a92065e8a5cff18f6eca417bafdaa9", func := "passepartout/passepartoutlaw09.DertagBack", spec := "dertagBack", named := ["passepartout/dertag.plain", "passepartout/dertag.made"], apart := false, laid := [("passepartout/dertag.plain", laid_passepartout_dertag_plain), ("passepartout/dertag.made", laid_passepartout_dertag_made)], narrowed := true }
def DertagBackUptoSaid : Prop := dertagBackUptoRow.holds Tryd.pinned (OpenSpec.upto dertagBackSpec)

/-- 'passepartoutlaw09.DertagOne', WHERE WHAT IT READS IS OF BULK AT MOST 1048576: true; the input reads as it did. -/
def dertagOneUptoRow : OpenClaim := { program := "ytjdfgjlbmbiihaadoor", sum := "cc335a26fb65a23b77b792bfbf184e71d4a92065e8a5cff18f6eca417bafdaa9", func := "passepartout/passepartoutlaw09.DertagOne", spec := "dertagOne", named := ["passepartout/dertag.plain", "passepartout/dertag.made"], apart := false, laid := [("passepartout/dertag.plain", laid_passepartout_dertag_plain), ("passepartout/dertag.made", laid_passepartout_dertag_made)], narrowed := true }
def DertagOneUptoSaid : Prop := dertagOneUptoRow.holds Tryd.pinned (OpenSpec.upto dertagOneSpec)

/-- 'passepartoutlaw09.DertagLengths', WHERE WHAT IT READS IS OF BULK AT MOST 1048576: true; the input reads as it did. -/
def dertagLengthsUptoRow : OpenClaim := { program := "ytjdfgjlbmbiihaadoor", sum := "cc335a26fb65a23b77b792bfbf184e71d4a92065e8a5cff18f6eca417bafdaa9", func := "passepartout/passepartoutlaw09.DertagLengths", spec := "dertagLengths", named := ["passepartout/dertag.plain", "passepartout/dertag.made"], apart := false, laid := [("passepartout/dertag.plain", laid_passepartout_dertag_plain), ("passepartout/dertag.made", laid_passepartout_dertag_made)], narrowed := true }
def DertagLengthsUptoSaid : Prop := dertagLengthsUptoRow.holds Tryd.pinned (OpenSpec.upto dertagLengthsSpec)

/-- 'passepartoutlaw10.DertypeValues', WHERE WHAT IT READS IS OF BULK AT MOST 1048576: true; the input reads as it did. -/
def dertypeValuesUptoRow : OpenClaim := { program := "ytjdfgjlbmbiihaadoor", sum := "cc335a26fb65a23b77b792bfbf184e71d4a92065e8a5cff18f6eca417bafdaa9", func := "passepartout/passepartoutlaw10.DertypeValues", spec := "dertypeValues", named := ["passepartout/dertype.days", "strconv.ErrSyntax", "strconv.ErrRange", "internal/strconv.uint64pow10", "math/bits.deBruijn32tab", "math/bits.deBruijn64tab"], apart := false, laid := [("math/bits.deBruijn32tab", laid_math_bits_deBruijn32tab), ("math/bits.deBruijn64tab", laid_math_bits_deBruijn64tab), ("internal/strconv.uint64pow10", laid_internal_strconv_uint64pow10), ("strconv.ErrRange", laid_strconv_ErrRange), ("strconv.ErrSyntax", laid_strconv_ErrSyntax), ("passepartout/dertype.days", laid_passepartout_dertype_days)], narrowed := true }
def DertypeValuesUptoSaid : Prop := dertypeValuesUptoRow.holds Tryd.pinned (OpenSpec.upto dertypeValuesSpec)

/-- 'passepartoutlaw10.DertypeChecks', WHERE WHAT IT READS IS OF BULK AT MOST 1048576: true; the input reads as it did. -/
def dertypeChecksUptoRow : OpenClaim := { program := "ytjdfgjlbmbiihaadoor", sum := "cc335a26fb65a23b77b792bfbf184e71d4a92065e8a5cff18f6eca417bafdaa9", func := "passepartout/passepartoutlaw10.DertypeChecks", spec := "dertypeChecks", unfollowed := true, recurses := true, named := ["passepartout/dertype.days", "strconv.ErrSyntax", "strconv.ErrRange", "internal/strconv.uint64pow10", "math/bits.deBruijn32tab", "math/bits.deBruijn64tab"], apart := false, laid := [("math/bits.deBruijn32tab", laid_math_bits_deBruijn32tab), ("math/bits.deBruijn64tab", laid_math_bits_deBruijn64tab), ("internal/strconv.uint64pow10", laid_internal_strconv_uint64pow10), ("strconv.ErrRange", laid_strconv_ErrRange), ("strconv.ErrSyntax", laid_strconv_ErrSyntax), ("passepartout/dertype.days", laid_passepartout_dertype_days)], narrowed := true }
def DertypeChecksUptoSaid : Prop := dertypeChecksUptoRow.holds Tryd.pinned (OpenSpec.upto dertypeChecksSpec)

/-- 'passepartoutlaw10.DertypeNumbers', WHERE WHAT IT READS IS OF BULK AT MOST 1048576: true; the input reads as it did. -/
def dertypeNumbersUptoRow : OpenClaim := { program := "ytjdfgjlbmbiihaadoor", sum := "cc335a26fb65a23b77b792bfbf184e71d4a92065e8a5cff18f6eca417bafdaa9", func := "passepartout/passepartoutlaw10.DertypeNumbers", spec := "dertypeNumbers", unfollowed := true, recurses := true, named := ["passepartout/dertype.days", "strconv.ErrSyntax", "strconv.ErrRange", "internal/strconv.uint64pow10", "math/bits.deBruijn32tab", "math/bits.deBruijn64tab"], apart := false, laid := [("math/bits.deBruijn32tab", laid_math_bits_deBruijn32tab), ("math/bits.deBruijn64tab", laid_math_bits_deBruijn64tab), ("internal/strconv.uint64pow10", laid_internal_strconv_uint64pow10), ("strconv.ErrRange", laid_strconv_ErrRange), ("strconv.ErrSyntax", laid_strconv_ErrSyntax), ("passepartout/dertype.days", laid_passepartout_dertype_days)], narrowed := true }
def DertypeNumbersUptoSaid : Prop := dertypeNumbersUptoRow.holds Tryd.pinned (OpenSpec.upto dertypeNumbersSpec)

/-- 'passepartoutlaw10.DertypeTimes', WHERE WHAT IT READS IS OF BULK AT MOST 1048576: true; the input reads as it did. -/
def dertypeTimesUptoRow : OpenClaim := { program := "ytjdfgjlbmbiihaadoor", sum := "cc335a26fb65a23b77b792bfbf184e71d4a92065e8a5cff18f6eca417bafdaa9", func := "passepartout/passepartoutlaw10.DertypeTimes", spec := "dertypeTimes", unfollowed := true, recurses := true, named := ["passepartout/dertype.days", "strconv.ErrSyntax", "strconv.ErrRange", "internal/strconv.uint64pow10", "math/bits.deBruijn32tab", "math/bits.deBruijn64tab"], apart := false, laid := [("math/bits.deBruijn32tab", laid_math_bits_deBruijn32tab), ("math/bits.deBruijn64tab", laid_math_bits_deBruijn64tab), ("internal/strconv.uint64pow10", laid_internal_strconv_uint64pow10), ("strconv.ErrRange", laid_strconv_ErrRange), ("strconv.ErrSyntax", laid_strconv_ErrSyntax), ("passepartout/dertype.days", laid_passepartout_dertype_days)], narrowed := true }
def DertypeTimesUptoSaid : Prop := dertypeTimesUptoRow.holds Tryd.pinned (OpenSpec.upto dertypeTimesSpec)

/-- 'passepartoutlaw10.DertypeBits', WHERE WHAT IT READS IS OF BULK AT MOST 1048576: true; the input reads as it did. -/
def dertypeBitsUptoRow : OpenClaim := { program := "ytjdfgjlbmbiihaadoor", sum := "cc335a26fb65a23b77b792bfbf184e71d4a92065e8a5cff18f6eca417bafdaa9", func := "passepartout/passepartoutlaw10.DertypeBits", spec := "dertypeBits", unfollowed := true, recurses := true, named := ["passepartout/dertype.days", "strconv.ErrSyntax", "strconv.ErrRange", "internal/strconv.uint64pow10", "math/bits.deBruijn32tab", "math/bits.deBruijn64tab"], apart := false, laid := [("math/bits.deBruijn32tab", laid_math_bits_deBruijn32tab), ("math/bits.deBruijn64tab", laid_math_bits_deBruijn64tab), ("internal/strconv.uint64pow10", laid_internal_strconv_uint64pow10), ("strconv.ErrRange", laid_strconv_ErrRange), ("strconv.ErrSyntax", laid_strconv_ErrSyntax), ("passepartout/dertype.days", laid_passepartout_dertype_days)], narrowed := true }
def DertypeBitsUptoSaid : Prop := dertypeBitsUptoRow.holds Tryd.pinned (OpenSpec.upto dertypeBitsSpec)

end Rows
end Go.Proofs.YtjdfgjlbmbiihaaDoor
