/-
  NARROWER THAN 'FOR EVERY INPUT', by the rows' own cells (each row's printed sentence says how): CertAlone: laid · DerReads: laid · DerDeep: laid · DerSames: loops, laid · CertOuters: loops, laid · CertMakes: laid · CertOrder: laid · CertMore: loops, laid · DerJoins: loops, laid · DerWrites: loops, laid · DerBack: loops, laid · DerOne: laid.
  DERIVED. THE GIVEN ROWS OF THIS SEAT. 12 by the template 'for every input the law returns true; each argument reads behind the call as it read before'; 0 by the template 'total and deterministic' (their statements: YtgjbfgkcbehjnaaDoorTotals.lean).
  GIVEN WITH THE SEED: the statements are not yours to turn. If you find one false, say at which input.
  Laid BY PROGRAM, IN A SANDBOX (cutbox-rows.mjs): the forced cells as the released guide's own fill.sh prints them over the translation 648e05f5e99bfb7b… (all of the seat's roots in one cut). By AI agents, Wed Nov 11 2026. No macro, syntax, notation, axiom, sorry.
-/
import Derived.Test.YtgjbfgkcbehjnaaDoorChecked
import GoSem.Claim
import GoSem.ClaimJoined
import GoSem.ClaimMapViews
import Derived.JoinedTies
import Derived.KernelRfl
namespace Go.Proofs.YtgjbfgkcbehjnaaDoor
/- THE CELL 'sum', in the pinned program and in every row, IS THE sha256 OF THE DUMP (.gsa) THAT YtgjbfgkcbehjnaaDoorProg.lean LOADS. Nothing in Lean hashes anything: it is a label: what it is worth is what the hold of that sum in a sandbox is worth. -/
noncomputable def Tryd.pinned : Pinned := { name := "ytgjbfgkcbehjnaadoor", sum := "648e05f5e99bfb7b3904015ddeaac26686222a3edb38568211643988a491ebbf", checked := Tryd.checked }
namespace Rows
def none {H : Type} : Left H := { results := [], args := [] }

/- WHAT THE LISTED PACKAGE-LEVEL VARIABLES READ AS WHEN THE CALL BEGINS. Each datum BY PROGRAM (the guide's laid-datum.mjs) off the statement by which the dump's own 'gosem.cut.vars' lays the variable. In a bare row this is a premise. The card (YtgjbfgkcbehjnaaDoorCards.lean) ties it to the program's text. -/
def laid_math_bits_deBruijn32tab {H : Type} : DataW H := .agg [.lit (.int .u8 0), .lit (.int .u8 1), .lit (.int .u8 28), .lit (.int .u8 2), .lit (.int .u8 29), .lit (.int .u8 14), .lit (.int .u8 24), .lit (.int .u8 3), .lit (.int .u8 30), .lit (.int .u8 22), .lit (.int .u8 20), .lit (.int .u8 15), .lit (.int .u8 25), .lit (.int .u8 17), .lit (.int .u8 4), .lit (.int .u8 8), .lit (.int .u8 31), .lit (.int .u8 27), .lit (.int .u8 13), .lit (.int .u8 23), .lit (.int .u8 21), .lit (.int .u8 19), .lit (.int .u8 16), .lit (.int .u8 7), .lit (.int .u8 26), .lit (.int .u8 12), .lit (.int .u8 18), .lit (.int .u8 6), .lit (.int .u8 11), .lit (.int .u8 5), .lit (.int .u8 10), .lit (.int .u8 9)]
def laid_math_bits_deBruijn64tab {H : Type} : DataW H := .agg [.lit (.int .u8 0), .lit (.int .u8 1), .lit (.int .u8 56), .lit (.int .u8 2), .lit (.int .u8 57), .lit (.int .u8 49), .lit (.int .u8 28), .lit (.int .u8 3), .lit (.int .u8 61), .lit (.int .u8 58), .lit (.int .u8 42), .lit (.int .u8 50), .lit (.int .u8 38), .lit (.int .u8 29), .lit (.int .u8 17), .lit (.int .u8 4), .lit (.int .u8 62), .lit (.int .u8 47), .lit (.int .u8 59), .lit (.int .u8 36), .lit (.int .u8 45), .lit (.int .u8 43), .lit (.int .u8 51), .lit (.int .u8 22), .lit (.int .u8 53), .lit (.int .u8 39), .lit (.int .u8 33), .lit (.int .u8 30), .lit (.int .u8 24), .lit (.int .u8 18), .lit (.int .u8 12), .lit (.int .u8 5), .lit (.int .u8 63), .lit (.int .u8 55), .lit (.int .u8 48), .lit (.int .u8 27), .lit (.int .u8 60), .lit (.int .u8 41), .lit (.int .u8 37), .lit (.int .u8 16), .lit (.int .u8 46), .lit (.int .u8 35), .lit (.int .u8 44), .lit (.int .u8 21), .lit (.int .u8 52), .lit (.int .u8 32), .lit (.int .u8 23), .lit (.int .u8 11), .lit (.int .u8 54), .lit (.int .u8 26), .lit (.int .u8 40), .lit (.int .u8 15), .lit (.int .u8 34), .lit (.int .u8 20), .lit (.int .u8 31), .lit (.int .u8 10), .lit (.int .u8 25), .lit (.int .u8 14), .lit (.int .u8 19), .lit (.int .u8 9), .lit (.int .u8 13), .lit (.int .u8 8), .lit (.int .u8 7), .lit (.int .u8 6)]
def laid_internal_strconv_uint64pow10 {H : Type} : DataW H := .agg [.lit (.int .u64 1), .lit (.int .u64 10), .lit (.int .u64 100), .lit (.int .u64 1000), .lit (.int .u64 10000), .lit (.int .u64 100000), .lit (.int .u64 1000000), .lit (.int .u64 10000000), .lit (.int .u64 100000000), .lit (.int .u64 1000000000), .lit (.int .u64 10000000000), .lit (.int .u64 100000000000), .lit (.int .u64 1000000000000), .lit (.int .u64 10000000000000), .lit (.int .u64 100000000000000), .lit (.int .u64 1000000000000000), .lit (.int .u64 10000000000000000), .lit (.int .u64 100000000000000000), .lit (.int .u64 1000000000000000000), .lit (.int .u64 10000000000000000000)]
def laid_strconv_ErrRange {H : Type} : DataW H := .iface "*errors.errorString" (.ptr (.agg [.lit (.string [118, 97, 108, 117, 101, 32, 111, 117, 116, 32, 111, 102, 32, 114, 97, 110, 103, 101])]))
def laid_strconv_ErrSyntax {H : Type} : DataW H := .iface "*errors.errorString" (.ptr (.agg [.lit (.string [105, 110, 118, 97, 108, 105, 100, 32, 115, 121, 110, 116, 97, 120])]))
def laid_passepartout_dertag_plain {H : Type} : DataW H := .agg [.lit (.int .i64 1), .lit (.int .i64 2), .lit (.int .i64 3), .lit (.int .i64 4), .lit (.int .i64 5), .lit (.int .i64 6), .lit (.int .i64 10), .lit (.int .i64 12), .lit (.int .i64 18), .lit (.int .i64 19), .lit (.int .i64 20), .lit (.int .i64 22), .lit (.int .i64 23), .lit (.int .i64 24), .lit (.int .i64 26), .lit (.int .i64 28), .lit (.int .i64 30)]
def laid_passepartout_dertag_made {H : Type} : DataW H := .agg [.lit (.int .i64 16), .lit (.int .i64 17)]
def laid_passepartout_dertype_days {H : Type} : DataW H := .agg [.lit (.int .i64 31), .lit (.int .i64 28), .lit (.int .i64 31), .lit (.int .i64 30), .lit (.int .i64 31), .lit (.int .i64 30), .lit (.int .i64 31), .lit (.int .i64 31), .lit (.int .i64 30), .lit (.int .i64 31), .lit (.int .i64 30), .lit (.int .i64 31)]

/-- 'passepartoutlaw12.CertAlone': WHATEVER THE INPUT: true; the input reads as it did. -/
def certAloneSpec : ChangeSpec := { name := "certAlone", fn := fun _ => fun
  | [d1, d2, d3] => { results := [.lit (.bool true)], args := [d1, d2, d3] }
  | _ => none }
def certAloneRow : OpenClaim := { program := "ytgjbfgkcbehjnaadoor", sum := "648e05f5e99bfb7b3904015ddeaac26686222a3edb38568211643988a491ebbf", func := "passepartout/passepartoutlaw12.CertAlone", spec := "certAlone", unfollowed := true, recurses := true, named := ["passepartout/dertag.plain", "passepartout/dertag.made", "passepartout/dertype.days", "strconv.ErrSyntax", "strconv.ErrRange", "internal/strconv.uint64pow10", "math/bits.deBruijn32tab", "math/bits.deBruijn64tab"], apart := false, laid := [("math/bits.deBruijn32tab", laid_math_bits_deBruijn32tab), ("math/bits.deBruijn64tab", laid_math_bits_deBruijn64tab), ("internal/strconv.uint64pow10", laid_internal_strconv_uint64pow10), ("strconv.ErrRange", laid_strconv_ErrRange), ("strconv.ErrSyntax", laid_strconv_ErrSyntax), ("passepartout/dertag.plain", laid_passepartout_dertag_plain), ("passepartout/dertag.made", laid_passepartout_dertag_made), ("passepartout/dertype.days", laid_passepartout_dertype_days)] }
def CertAloneSaid : Prop := certAloneRow.holds Tryd.pinned (OpenSpec.ofChange certAloneSpec)

/-- ITS FALSE NEIGHBOUR: 'it returns false'. Refute it at one input. -/
def certAloneWrong : ChangeSpec := { name := "certAlone", fn := fun _ => fun
  | [d1, d2, d3] => { results := [.lit (.bool false)], args := [d1, d2, d3] }
  | _ => none }
def CertAloneWrongFalsely : Prop := certAloneRow.holds Tryd.pinned (OpenSpec.ofChange certAloneWrong)

/-- 'passepartoutlaw11.DerReads': WHATEVER THE INPUT: true; the input reads as it did. -/
def derReadsSpec : ChangeSpec := { name := "derReads", fn := fun _ => fun
  | [d1, d2] => { results := [.lit (.bool true)], args := [d1, d2] }
  | _ => none }
def derReadsRow : OpenClaim := { program := "ytgjbfgkcbehjnaadoor", sum := "648e05f5e99bfb7b3904015ddeaac26686222a3edb38568211643988a491ebbf", func := "passepartout/passepartoutlaw11.DerReads", spec := "derReads", unfollowed := true, recurses := true, named := ["passepartout/dertag.plain", "passepartout/dertag.made", "passepartout/dertype.days", "strconv.ErrSyntax", "strconv.ErrRange", "internal/strconv.uint64pow10", "math/bits.deBruijn32tab", "math/bits.deBruijn64tab"], apart := false, laid := [("math/bits.deBruijn32tab", laid_math_bits_deBruijn32tab), ("math/bits.deBruijn64tab", laid_math_bits_deBruijn64tab), ("internal/strconv.uint64pow10", laid_internal_strconv_uint64pow10), ("strconv.ErrRange", laid_strconv_ErrRange), ("strconv.ErrSyntax", laid_strconv_ErrSyntax), ("passepartout/dertag.plain", laid_passepartout_dertag_plain), ("passepartout/dertag.made", laid_passepartout_dertag_made), ("passepartout/dertype.days", laid_passepartout_dertype_days)] }
def DerReadsSaid : Prop := derReadsRow.holds Tryd.pinned (OpenSpec.ofChange derReadsSpec)

/-- ITS FALSE NEIGHBOUR: 'it returns false'. Refute it at one input. -/
def derReadsWrong : ChangeSpec := { name := "derReads", fn := fun _ => fun
  | [d1, d2] => { results := [.lit (.bool false)], args := [d1, d2] }
  | _ => none }
def DerReadsWrongFalsely : Prop := derReadsRow.holds Tryd.pinned (OpenSpec.ofChange derReadsWrong)

/-- 'passepartoutlaw11.DerDeep': WHATEVER THE INPUT: true; the input reads as it did. -/
def derDeepSpec : ChangeSpec := { name := "derDeep", fn := fun _ => fun
  | [d1, d2] => { results := [.lit (.bool true)], args := [d1, d2] }
  | _ => none }
def derDeepRow : OpenClaim := { program := "ytgjbfgkcbehjnaadoor", sum := "648e05f5e99bfb7b3904015ddeaac26686222a3edb38568211643988a491ebbf", func := "passepartout/passepartoutlaw11.DerDeep", spec := "derDeep", unfollowed := true, recurses := true, named := ["passepartout/dertag.plain", "passepartout/dertag.made", "passepartout/dertype.days", "strconv.ErrSyntax", "strconv.ErrRange", "internal/strconv.uint64pow10", "math/bits.deBruijn32tab", "math/bits.deBruijn64tab"], apart := false, laid := [("math/bits.deBruijn32tab", laid_math_bits_deBruijn32tab), ("math/bits.deBruijn64tab", laid_math_bits_deBruijn64tab), ("internal/strconv.uint64pow10", laid_internal_strconv_uint64pow10), ("strconv.ErrRange", laid_strconv_ErrRange), ("strconv.ErrSyntax", laid_strconv_ErrSyntax), ("passepartout/dertag.plain", laid_passepartout_dertag_plain), ("passepartout/dertag.made", laid_passepartout_dertag_made), ("passepartout/dertype.days", laid_passepartout_dertype_days)] }
def DerDeepSaid : Prop := derDeepRow.holds Tryd.pinned (OpenSpec.ofChange derDeepSpec)

/-- ITS FALSE NEIGHBOUR: 'it returns false'. Refute it at one input. -/
def derDeepWrong : ChangeSpec := { name := "derDeep", fn := fun _ => fun
  | [d1, d2] => { results := [.lit (.bool false)], args := [d1, d2] }
  | _ => none }
def DerDeepWrongFalsely : Prop := derDeepRow.holds Tryd.pinned (OpenSpec.ofChange derDeepWrong)

/-- 'passepartoutlaw11.DerSames': WHATEVER THE INPUT: true; the input reads as it did. -/
def derSamesSpec : ChangeSpec := { name := "derSames", fn := fun _ => fun
  | [d1, d2] => { results := [.lit (.bool true)], args := [d1, d2] }
  | _ => none }
def derSamesRow : OpenClaim := { program := "ytgjbfgkcbehjnaadoor", sum := "648e05f5e99bfb7b3904015ddeaac26686222a3edb38568211643988a491ebbf", func := "passepartout/passepartoutlaw11.DerSames", spec := "derSames", unfollowed := true, recurses := true, named := ["passepartout/dertag.plain", "passepartout/dertag.made", "passepartout/dertype.days", "strconv.ErrSyntax", "strconv.ErrRange", "internal/strconv.uint64pow10", "math/bits.deBruijn32tab", "math/bits.deBruijn64tab"], loops := true, apart := false, laid := [("math/bits.deBruijn32tab", laid_math_bits_deBruijn32tab), ("math/bits.deBruijn64tab", laid_math_bits_deBruijn64tab), ("internal/strconv.uint64pow10", laid_internal_strconv_uint64pow10), ("strconv.ErrRange", laid_strconv_ErrRange), ("strconv.ErrSyntax", laid_strconv_ErrSyntax), ("passepartout/dertag.plain", laid_passepartout_dertag_plain), ("passepartout/dertag.made", laid_passepartout_dertag_made), ("passepartout/dertype.days", laid_passepartout_dertype_days)] }
def DerSamesSaid : Prop := derSamesRow.holds Tryd.pinned (OpenSpec.ofChange derSamesSpec)

/-- ITS FALSE NEIGHBOUR: 'it returns false'. Refute it at one input. -/
def derSamesWrong : ChangeSpec := { name := "derSames", fn := fun _ => fun
  | [d1, d2] => { results := [.lit (.bool false)], args := [d1, d2] }
  | _ => none }
def DerSamesWrongFalsely : Prop := derSamesRow.holds Tryd.pinned (OpenSpec.ofChange derSamesWrong)

/-- 'passepartoutlaw12.CertOuters': WHATEVER THE INPUT: true; the input reads as it did. -/
def certOutersSpec : ChangeSpec := { name := "certOuters", fn := fun _ => fun
  | [d] => { results := [.lit (.bool true)], args := [d] }
  | _ => none }
def certOutersRow : OpenClaim := { program := "ytgjbfgkcbehjnaadoor", sum := "648e05f5e99bfb7b3904015ddeaac26686222a3edb38568211643988a491ebbf", func := "passepartout/passepartoutlaw12.CertOuters", spec := "certOuters", unfollowed := true, recurses := true, named := ["passepartout/dertag.plain", "passepartout/dertag.made", "passepartout/dertype.days", "strconv.ErrSyntax", "strconv.ErrRange", "internal/strconv.uint64pow10", "math/bits.deBruijn32tab", "math/bits.deBruijn64tab"], loops := true, apart := false, laid := [("math/bits.deBruijn32tab", laid_math_bits_deBruijn32tab), ("math/bits.deBruijn64tab", laid_math_bits_deBruijn64tab), ("internal/strconv.uint64pow10", laid_internal_strconv_uint64pow10), ("strconv.ErrRange", laid_strconv_ErrRange), ("strconv.ErrSyntax", laid_strconv_ErrSyntax), ("passepartout/dertag.plain", laid_passepartout_dertag_plain), ("passepartout/dertag.made", laid_passepartout_dertag_made), ("passepartout/dertype.days", laid_passepartout_dertype_days)] }
def CertOutersSaid : Prop := certOutersRow.holds Tryd.pinned (OpenSpec.ofChange certOutersSpec)

/-- ITS FALSE NEIGHBOUR: 'it returns false'. Refute it at one input. -/
def certOutersWrong : ChangeSpec := { name := "certOuters", fn := fun _ => fun
  | [d] => { results := [.lit (.bool false)], args := [d] }
  | _ => none }
def CertOutersWrongFalsely : Prop := certOutersRow.holds Tryd.pinned (OpenSpec.ofChange certOutersWrong)

/-- 'passepartoutlaw12.CertMakes': WHATEVER THE INPUT: true; the input reads as it did. -/
def certMakesSpec : ChangeSpec := { name := "certMakes", fn := fun _ => fun
  | [d1, d2, d3] => { results := [.lit (.bool true)], args := [d1, d2, d3] }
  | _ => none }
def certMakesRow : OpenClaim := { program := "ytgjbfgkcbehjnaadoor", sum := "648e05f5e99bfb7b3904015ddeaac26686222a3edb38568211643988a491ebbf", func := "passepartout/passepartoutlaw12.CertMakes", spec := "certMakes", unfollowed := true, recurses := true, named := ["passepartout/dertag.plain", "passepartout/dertag.made", "passepartout/dertype.days", "strconv.ErrSyntax", "strconv.ErrRange", "internal/strconv.uint64pow10", "math/bits.deBruijn32tab", "math/bits.deBruijn64tab"], apart := false, laid := [("math/bits.deBruijn32tab", laid_math_bits_deBruijn32tab), ("math/bits.deBruijn64tab", laid_math_bits_deBruijn64tab), ("internal/strconv.uint64pow10", laid_internal_strconv_uint64pow10), ("strconv.ErrRange", laid_strconv_ErrRange), ("strconv.ErrSyntax", laid_strconv_ErrSyntax), ("passepartout/dertag.plain", laid_passepartout_dertag_plain), ("passepartout/dertag.made", laid_passepartout_dertag_made), ("passepartout/dertype.days", laid_passepartout_dertype_days)] }
def CertMakesSaid : Prop := certMakesRow.holds Tryd.pinned (OpenSpec.ofChange certMakesSpec)

/-- ITS FALSE NEIGHBOUR: 'it returns false'. Refute it at one input. -/
def certMakesWrong : ChangeSpec := { name := "certMakes", fn := fun _ => fun
  | [d1, d2, d3] => { results := [.lit (.bool false)], args := [d1, d2, d3] }
  | _ => none }
def CertMakesWrongFalsely : Prop := certMakesRow.holds Tryd.pinned (OpenSpec.ofChange certMakesWrong)

/-- 'passepartoutlaw12.CertOrder': WHATEVER THE INPUT: true; the input reads as it did. -/
def certOrderSpec : ChangeSpec := { name := "certOrder", fn := fun _ => fun
  | [d] => { results := [.lit (.bool true)], args := [d] }
  | _ => none }
def certOrderRow : OpenClaim := { program := "ytgjbfgkcbehjnaadoor", sum := "648e05f5e99bfb7b3904015ddeaac26686222a3edb38568211643988a491ebbf", func := "passepartout/passepartoutlaw12.CertOrder", spec := "certOrder", unfollowed := true, recurses := true, named := ["passepartout/dertag.plain", "passepartout/dertag.made", "passepartout/dertype.days", "strconv.ErrSyntax", "strconv.ErrRange", "internal/strconv.uint64pow10", "math/bits.deBruijn32tab", "math/bits.deBruijn64tab"], apart := false, laid := [("math/bits.deBruijn32tab", laid_math_bits_deBruijn32tab), ("math/bits.deBruijn64tab", laid_math_bits_deBruijn64tab), ("internal/strconv.uint64pow10", laid_internal_strconv_uint64pow10), ("strconv.ErrRange", laid_strconv_ErrRange), ("strconv.ErrSyntax", laid_strconv_ErrSyntax), ("passepartout/dertag.plain", laid_passepartout_dertag_plain), ("passepartout/dertag.made", laid_passepartout_dertag_made), ("passepartout/dertype.days", laid_passepartout_dertype_days)] }
def CertOrderSaid : Prop := certOrderRow.holds Tryd.pinned (OpenSpec.ofChange certOrderSpec)

/-- ITS FALSE NEIGHBOUR: 'it returns false'. Refute it at one input. -/
def certOrderWrong : ChangeSpec := { name := "certOrder", fn := fun _ => fun
  | [d] => { results := [.lit (.bool false)], args := [d] }
  | _ => none }
def CertOrderWrongFalsely : Prop := certOrderRow.holds Tryd.pinned (OpenSpec.ofChange certOrderWrong)

/-- 'passepartoutlaw12.CertMore': WHATEVER THE INPUT: true; the input reads as it did. -/
def certMoreSpec : ChangeSpec := { name := "certMore", fn := fun _ => fun
  | [d1, d2] => { results := [.lit (.bool true)], args := [d1, d2] }
  | _ => none }
def certMoreRow : OpenClaim := { program := "ytgjbfgkcbehjnaadoor", sum := "648e05f5e99bfb7b3904015ddeaac26686222a3edb38568211643988a491ebbf", func := "passepartout/passepartoutlaw12.CertMore", spec := "certMore", unfollowed := true, recurses := true, named := ["passepartout/dertag.plain", "passepartout/dertag.made", "passepartout/dertype.days", "strconv.ErrSyntax", "strconv.ErrRange", "internal/strconv.uint64pow10", "math/bits.deBruijn32tab", "math/bits.deBruijn64tab"], loops := true, apart := false, laid := [("math/bits.deBruijn32tab", laid_math_bits_deBruijn32tab), ("math/bits.deBruijn64tab", laid_math_bits_deBruijn64tab), ("internal/strconv.uint64pow10", laid_internal_strconv_uint64pow10), ("strconv.ErrRange", laid_strconv_ErrRange), ("strconv.ErrSyntax", laid_strconv_ErrSyntax), ("passepartout/dertag.plain", laid_passepartout_dertag_plain), ("passepartout/dertag.made", laid_passepartout_dertag_made), ("passepartout/dertype.days", laid_passepartout_dertype_days)] }
def CertMoreSaid : Prop := certMoreRow.holds Tryd.pinned (OpenSpec.ofChange certMoreSpec)

/-- ITS FALSE NEIGHBOUR: 'it returns false'. Refute it at one input. -/
def certMoreWrong : ChangeSpec := { name := "certMore", fn := fun _ => fun
  | [d1, d2] => { results := [.lit (.bool false)], args := [d1, d2] }
  | _ => none }
def CertMoreWrongFalsely : Prop := certMoreRow.holds Tryd.pinned (OpenSpec.ofChange certMoreWrong)

/-- 'passepartoutlaw11.DerJoins': WHATEVER THE INPUT: true; the input reads as it did. -/
def derJoinsSpec : ChangeSpec := { name := "derJoins", fn := fun _ => fun
  | [d1, d2, d3] => { results := [.lit (.bool true)], args := [d1, d2, d3] }
  | _ => none }
def derJoinsRow : OpenClaim := { program := "ytgjbfgkcbehjnaadoor", sum := "648e05f5e99bfb7b3904015ddeaac26686222a3edb38568211643988a491ebbf", func := "passepartout/passepartoutlaw11.DerJoins", spec := "derJoins", unfollowed := true, recurses := true, named := ["passepartout/dertag.plain", "passepartout/dertag.made", "passepartout/dertype.days", "strconv.ErrSyntax", "strconv.ErrRange", "internal/strconv.uint64pow10", "math/bits.deBruijn32tab", "math/bits.deBruijn64tab"], loops := true, apart := false, laid := [("math/bits.deBruijn32tab", laid_math_bits_deBruijn32tab), ("math/bits.deBruijn64tab", laid_math_bits_deBruijn64tab), ("internal/strconv.uint64pow10", laid_internal_strconv_uint64pow10), ("strconv.ErrRange", laid_strconv_ErrRange), ("strconv.ErrSyntax", laid_strconv_ErrSyntax), ("passepartout/dertag.plain", laid_passepartout_dertag_plain), ("passepartout/dertag.made", laid_passepartout_dertag_made), ("passepartout/dertype.days", laid_passepartout_dertype_days)] }
def DerJoinsSaid : Prop := derJoinsRow.holds Tryd.pinned (OpenSpec.ofChange derJoinsSpec)

/-- ITS FALSE NEIGHBOUR: 'it returns false'. Refute it at one input. -/
def derJoinsWrong : ChangeSpec := { name := "derJoins", fn := fun _ => fun
  | [d1, d2, d3] => { results := [.lit (.bool false)], args := [d1, d2, d3] }
  | _ => none }
def DerJoinsWrongFalsely : Prop := derJoinsRow.holds Tryd.pinned (OpenSpec.ofChange derJoinsWrong)

/-- 'passepartoutlaw11.DerWrites': WHATEVER THE INPUT: true; the input reads as it did. -/
def derWritesSpec : ChangeSpec := { name := "derWrites", fn := fun _ => fun
  | [d] => { results := [.lit (.bool true)], args := [d] }
  | _ => none }
def derWritesRow : OpenClaim := { program := "ytgjbfgkcbehjnaadoor", sum := "648e05f5e99bfb7b3904015ddeaac26686222a3edb38568211643988a491ebbf", func := "passepartout/passepartoutlaw11.DerWrites", spec := "derWrites", unfollowed := true, recurses := true, named := ["passepartout/dertag.plain", "passepartout/dertag.made", "passepartout/dertype.days", "strconv.ErrSyntax", "strconv.ErrRange", "internal/strconv.uint64pow10", "math/bits.deBruijn32tab", "math/bits.deBruijn64tab"], loops := true, apart := false, laid := [("math/bits.deBruijn32tab", laid_math_bits_deBruijn32tab), ("math/bits.deBruijn64tab", laid_math_bits_deBruijn64tab), ("internal/strconv.uint64pow10", laid_internal_strconv_uint64pow10), ("strconv.ErrRange", laid_strconv_ErrRange), ("strconv.ErrSyntax", laid_strconv_ErrSyntax), ("passepartout/dertag.plain", laid_passepartout_dertag_plain), ("passepartout/dertag.made", laid_passepartout_dertag_made), ("passepartout/dertype.days", laid_passepartout_dertype_days)] }
def DerWritesSaid : Prop := derWritesRow.holds Tryd.pinned (OpenSpec.ofChange derWritesSpec)

/-- ITS FALSE NEIGHBOUR: 'it returns false'. Refute it at one input. -/
def derWritesWrong : ChangeSpec := { name := "derWrites", fn := fun _ => fun
  | [d] => { results := [.lit (.bool false)], args := [d] }
  | _ => none }
def DerWritesWrongFalsely : Prop := derWritesRow.holds Tryd.pinned (OpenSpec.ofChange derWritesWrong)

/-- 'passepartoutlaw11.DerBack': WHATEVER THE INPUT: true; the input reads as it did. -/
def derBackSpec : ChangeSpec := { name := "derBack", fn := fun _ => fun
  | [d] => { results := [.lit (.bool true)], args := [d] }
  | _ => none }
def derBackRow : OpenClaim := { program := "ytgjbfgkcbehjnaadoor", sum := "648e05f5e99bfb7b3904015ddeaac26686222a3edb38568211643988a491ebbf", func := "passepartout/passepartoutlaw11.DerBack", spec := "derBack", unfollowed := true, recurses := true, named := ["passepartout/dertag.plain", "passepartout/dertag.made", "passepartout/dertype.days", "strconv.ErrSyntax", "strconv.ErrRange", "internal/strconv.uint64pow10", "math/bits.deBruijn32tab", "math/bits.deBruijn64tab"], loops := true, apart := false, laid := [("math/bits.deBruijn32tab", laid_math_bits_deBruijn32tab), ("math/bits.deBruijn64tab", laid_math_bits_deBruijn64tab), ("internal/strconv.uint64pow10", laid_internal_strconv_uint64pow10), ("strconv.ErrRange", laid_strconv_ErrRange), ("strconv.ErrSyntax", laid_strconv_ErrSyntax), ("passepartout/dertag.plain", laid_passepartout_dertag_plain), ("passepartout/dertag.made", laid_passepartout_dertag_made), ("passepartout/dertype.days", laid_passepartout_dertype_days)] }
def DerBackSaid : Prop := derBackRow.holds Tryd.pinned (OpenSpec.ofChange derBackSpec)

/-- ITS FALSE NEIGHBOUR: 'it returns false'. Refute it at one input. -/
def derBackWrong : ChangeSpec := { name := "derBack", fn := fun _ => fun
  | [d] => { results := [.lit (.bool false)], args := [d] }
  | _ => none }
def DerBackWrongFalsely : Prop := derBackRow.holds Tryd.pinned (OpenSpec.ofChange derBackWrong)

/-- 'passepartoutlaw11.DerOne': WHATEVER THE INPUT: true; the input reads as it did. -/
def derOneSpec : ChangeSpec := { name := "derOne", fn := fun _ => fun
  | [d1, d2] => { results := [.lit (.bool true)], args := [d1, d2] }
  | _ => none }
def derOneRow : OpenClaim := { program := "ytgjbfgkcbehjnaadoor", sum := "648e05f5e99bfb7b3904015ddeaac26686222a3edb38568211643988a491ebbf", func := "passepartout/passepartoutlaw11.DerOne", spec := "derOne", unfollowed := true, recurses := true, named := ["passepartout/dertag.plain", "passepartout/dertag.made", "passepartout/dertype.days", "strconv.ErrSyntax", "strconv.ErrRange", "internal/strconv.uint64pow10", "math/bits.deBruijn32tab", "math/bits.deBruijn64tab"], apart := false, laid := [("math/bits.deBruijn32tab", laid_math_bits_deBruijn32tab), ("math/bits.deBruijn64tab", laid_math_bits_deBruijn64tab), ("internal/strconv.uint64pow10", laid_internal_strconv_uint64pow10), ("strconv.ErrRange", laid_strconv_ErrRange), ("strconv.ErrSyntax", laid_strconv_ErrSyntax), ("passepartout/dertag.plain", laid_passepartout_dertag_plain), ("passepartout/dertag.made", laid_passepartout_dertag_made), ("passepartout/dertype.days", laid_passepartout_dertype_days)] }
def DerOneSaid : Prop := derOneRow.holds Tryd.pinned (OpenSpec.ofChange derOneSpec)

/-- ITS FALSE NEIGHBOUR: 'it returns false'. Refute it at one input. -/
def derOneWrong : ChangeSpec := { name := "derOne", fn := fun _ => fun
  | [d1, d2] => { results := [.lit (.bool false)], args := [d1, d2] }
  | _ => none }
def DerOneWrongFalsely : Prop := derOneRow.holds Tryd.pinned (OpenSpec.ofChange derOneWrong)

/- THE SECOND FORM. 'bulk': how many values and letters a reading holds, each counted each time it is reached (what is shared counts as often as it is met; a slice's spare places count too). A statement '..UptoSaid' is the law's where the arguments, and the package variables that the reading takes, are together of bulk at most 1048576: NARROWER than '..Said'. Prove '..Said' where nothing that the law and all that it calls make is longer than what came in: it says more and counts as full. Else prove '..UptoSaid'. A law counts once. -/
mutual
def uptoBulk {H : Type} : DataW H → Nat
  | .lit (.string bytes) => bytes.length + 1
  | .lit _ => 1
  | .nil => 1
  | .ptr d => uptoBulk d + 1
  | .slice elems spare => uptoBulkAll elems + uptoBulkAll spare + 1
  | .agg parts => uptoBulkAll parts + 1
  | .iface _ d => uptoBulk d + 1
  | .map entries => uptoBulkEntries entries + 1
  | .held _ => 1
def uptoBulkAll {H : Type} : List (DataW H) → Nat
  | [] => 0
  | d :: r => uptoBulk d + uptoBulkAll r
def uptoBulkEntries {H : Type} : List (Lit × DataW H) → Nat
  | [] => 0
  | x :: r => uptoBulkEntry x + uptoBulkEntries r
def uptoBulkEntry {H : Type} : Lit × DataW H → Nat
  | (.string bytes, d) => bytes.length + uptoBulk d + 1
  | (_, d) => uptoBulk d + 1
 end
def uptoSmall : (H : Type) → List (DataW H) → Bool := fun _ ds => decide (uptoBulkAll ds ≤ 1048576)
def OpenSpec.upto (s : _root_.Go.ChangeSpec) : _root_.Go.OpenSpec := { _root_.Go.OpenSpec.ofChange s with cond := some uptoSmall }

/-- 'passepartoutlaw12.CertAlone', WHERE WHAT IT READS IS OF BULK AT MOST 1048576: true; the input reads as it did. -/
def certAloneUptoRow : OpenClaim := { program := "ytgjbfgkcbehjnaadoor", sum := "648e05f5e99bfb7b3904015ddeaac26686222a3edb38568211643988a491ebbf", func := "passepartout/passepartoutlaw12.CertAlone", spec := "certAlone", unfollowed := true, recurses := true, named := ["passepartout/dertag.plain", "passepartout/dertag.made", "passepartout/dertype.days", "strconv.ErrSyntax", "strconv.ErrRange", "internal/strconv.uint64pow10", "math/bits.deBruijn32tab", "math/bits.deBruijn64tab"], apart := false, laid := [("math/bits.deBruijn32tab", laid_math_bits_deBruijn32tab), ("math/bits.deBruijn64tab", laid_math_bits_deBruijn64tab), ("internal/strconv.uint64pow10", laid_internal_strconv_uint64pow10), ("strconv.ErrRange", laid_strconv_ErrRange), ("strconv.ErrSyntax", laid_strconv_ErrSyntax), ("passepartout/dertag.plain", laid_passepartout_dertag_plain), ("passepartout/dertag.made", laid_passepartout_dertag_made), ("passepartout/dertype.days", laid_passepartout_dertype_days)], narrowed := true }
def CertAloneUptoSaid : Prop := certAloneUptoRow.holds Tryd.pinned (OpenSpec.upto certAloneSpec)

/-- 'passepartoutlaw11.DerReads', WHERE WHAT IT READS IS OF BULK AT MOST 1048576: true; the input reads as it did. -/
def derReadsUptoRow : OpenClaim := { program := "ytgjbfgkcbehjnaadoor", sum := "648e05f5e99bfb7b3904015ddeaac26686222a3edb38568211643988a491ebbf", func := "passepartout/passepartoutlaw11.DerReads", spec := "derReads", unfollowed := true, recurses := true, named := ["passepartout/dertag.plain", "passepartout/dertag.made", "passepartout/dertype.days", "strconv.ErrSyntax", "strconv.ErrRange", "internal/strconv.uint64pow10", "math/bits.deBruijn32tab", "math/bits.deBruijn64tab"], apart := false, laid := [("math/bits.deBruijn32tab", laid_math_bits_deBruijn32tab), ("math/bits.deBruijn64tab", laid_math_bits_deBruijn64tab), ("internal/strconv.uint64pow10", laid_internal_strconv_uint64pow10), ("strconv.ErrRange", laid_strconv_ErrRange), ("strconv.ErrSyntax", laid_strconv_ErrSyntax), ("passepartout/dertag.plain", laid_passepartout_dertag_plain), ("passepartout/dertag.made", laid_passepartout_dertag_made), ("passepartout/dertype.days", laid_passepartout_dertype_days)], narrowed := true }
def DerReadsUptoSaid : Prop := derReadsUptoRow.holds Tryd.pinned (OpenSpec.upto derReadsSpec)

/-- 'passepartoutlaw11.DerDeep', WHERE WHAT IT READS IS OF BULK AT MOST 1048576: true; the input reads as it did. -/
def derDeepUptoRow : OpenClaim := { program := "ytgjbfgkcbehjnaadoor", sum := "648e05f5e99bfb7b3904015ddeaac26686222a3edb38568211643988a491ebbf", func := "passepartout/passepartoutlaw11.DerDeep", spec := "derDeep", unfollowed := true, recurses := true, named := ["passepartout/dertag.plain", "passepartout/dertag.made", "passepartout/dertype.days", "strconv.ErrSyntax", "strconv.ErrRange", "internal/strconv.uint64pow10", "math/bits.deBruijn32tab", "math/bits.deBruijn64tab"], apart := false, laid := [("math/bits.deBruijn32tab", laid_math_bits_deBruijn32tab), ("math/bits.deBruijn64tab", laid_math_bits_deBruijn64tab), ("internal/strconv.uint64pow10", laid_internal_strconv_uint64pow10), ("strconv.ErrRange", laid_strconv_ErrRange), ("strconv.ErrSyntax", laid_strconv_ErrSyntax), ("passepartout/dertag.plain", laid_passepartout_dertag_plain), ("passepartout/dertag.made", laid_passepartout_dertag_made), ("passepartout/dertype.days", laid_passepartout_dertype_days)], narrowed := true }
def DerDeepUptoSaid : Prop := derDeepUptoRow.holds Tryd.pinned (OpenSpec.upto derDeepSpec)

/-- 'passepartoutlaw11.DerSames', WHERE WHAT IT READS IS OF BULK AT MOST 1048576: true; the input reads as it did. -/
def derSamesUptoRow : OpenClaim := { program := "ytgjbfgkcbehjnaadoor", sum := "648e05f5e99bfb7b3904015ddeaac26686222a3edb38568211643988a491ebbf", func := "passepartout/passepartoutlaw11.DerSames", spec := "derSames", unfollowed := true, recurses := true, named := ["passepartout/dertag.plain", "passepartout/dertag.made", "passepartout/dertype.days", "strconv.ErrSyntax", "strconv.ErrRange", "internal/strconv.uint64pow10", "math/bits.deBruijn32tab", "math/bits.deBruijn64tab"], loops := true, apart := false, laid := [("math/bits.deBruijn32tab", laid_math_bits_deBruijn32tab), ("math/bits.deBruijn64tab", laid_math_bits_deBruijn64tab), ("internal/strconv.uint64pow10", laid_internal_strconv_uint64pow10), ("strconv.ErrRange", laid_strconv_ErrRange), ("strconv.ErrSyntax", laid_strconv_ErrSyntax), ("passepartout/dertag.plain", laid_passepartout_dertag_plain), ("passepartout/dertag.made", laid_passepartout_dertag_made), ("passepartout/dertype.days", laid_passepartout_dertype_days)], narrowed := true }
def DerSamesUptoSaid : Prop := derSamesUptoRow.holds Tryd.pinned (OpenSpec.upto derSamesSpec)

/-- 'passepartoutlaw12.CertOuters', WHERE WHAT IT READS IS OF BULK AT MOST 1048576: true; the input reads as it did. -/
def certOutersUptoRow : OpenClaim := { program := "ytgjbfgkcbehjnaadoor", sum := "648e05f5e99bfb7b3904015ddeaac26686222a3edb38568211643988a491ebbf", func := "passepartout/passepartoutlaw12.CertOuters", spec := "certOuters", unfollowed := true, recurses := true, named := ["passepartout/dertag.plain", "passepartout/dertag.made", "passepartout/dertype.days", "strconv.ErrSyntax", "strconv.ErrRange", "internal/strconv.uint64pow10", "math/bits.deBruijn32tab", "math/bits.deBruijn64tab"], loops := true, apart := false, laid := [("math/bits.deBruijn32tab", laid_math_bits_deBruijn32tab), ("math/bits.deBruijn64tab", laid_math_bits_deBruijn64tab), ("internal/strconv.uint64pow10", laid_internal_strconv_uint64pow10), ("strconv.ErrRange", laid_strconv_ErrRange), ("strconv.ErrSyntax", laid_strconv_ErrSyntax), ("passepartout/dertag.plain", laid_passepartout_dertag_plain), ("passepartout/dertag.made", laid_passepartout_dertag_made), ("passepartout/dertype.days", laid_passepartout_dertype_days)], narrowed := true }
def CertOutersUptoSaid : Prop := certOutersUptoRow.holds Tryd.pinned (OpenSpec.upto certOutersSpec)

/-- 'passepartoutlaw12.CertMakes', WHERE WHAT IT READS IS OF BULK AT MOST 1048576: true; the input reads as it did. -/
def certMakesUptoRow : OpenClaim := { program := "ytgjbfgkcbehjnaadoor", sum := "648e05f5e99bfb7b3904015ddeaac26686222a3edb38568211643988a491ebbf", func := "passepartout/passepartoutlaw12.CertMakes", spec := "certMakes", unfollowed := true, recurses := true, named := ["passepartout/dertag.plain", "passepartout/dertag.made", "passepartout/dertype.days", "strconv.ErrSyntax", "strconv.ErrRange", "internal/strconv.uint64pow10", "math/bits.deBruijn32tab", "math/bits.deBruijn64tab"], apart := false, laid := [("math/bits.deBruijn32tab", laid_math_bits_deBruijn32tab), ("math/bits.deBruijn64tab", laid_math_bits_deBruijn64tab), ("internal/strconv.uint64pow10", laid_internal_strconv_uint64pow10), ("strconv.ErrRange", laid_strconv_ErrRange), ("strconv.ErrSyntax", laid_strconv_ErrSyntax), ("passepartout/dertag.plain", laid_passepartout_dertag_plain), ("passepartout/dertag.made", laid_passepartout_dertag_made), ("passepartout/dertype.days", laid_passepartout_dertype_days)], narrowed := true }
def CertMakesUptoSaid : Prop := certMakesUptoRow.holds Tryd.pinned (OpenSpec.upto certMakesSpec)

/-- 'passepartoutlaw12.CertOrder', WHERE WHAT IT READS IS OF BULK AT MOST 1048576: true; the input reads as it did. -/
def certOrderUptoRow : OpenClaim := { program := "ytgjbfgkcbehjnaadoor", sum := "648e05f5e99bfb7b3904015ddeaac26686222a3edb38568211643988a491ebbf", func := "passepartout/passepartoutlaw12.CertOrder", spec := "certOrder", unfollowed := true, recurses := true, named := ["passepartout/dertag.plain", "passepartout/dertag.made", "passepartout/dertype.days", "strconv.ErrSyntax", "strconv.ErrRange", "internal/strconv.uint64pow10", "math/bits.deBruijn32tab", "math/bits.deBruijn64tab"], apart := false, laid := [("math/bits.deBruijn32tab", laid_math_bits_deBruijn32tab), ("math/bits.deBruijn64tab", laid_math_bits_deBruijn64tab), ("internal/strconv.uint64pow10", laid_internal_strconv_uint64pow10), ("strconv.ErrRange", laid_strconv_ErrRange), ("strconv.ErrSyntax", laid_strconv_ErrSyntax), ("passepartout/dertag.plain", laid_passepartout_dertag_plain), ("passepartout/dertag.made", laid_passepartout_dertag_made), ("passepartout/dertype.days", laid_passepartout_dertype_days)], narrowed := true }
def CertOrderUptoSaid : Prop := certOrderUptoRow.holds Tryd.pinned (OpenSpec.upto certOrderSpec)

/-- 'passepartoutlaw12.CertMore', WHERE WHAT IT READS IS OF BULK AT MOST 1048576: true; the input reads as it did. -/
def certMoreUptoRow : OpenClaim := { program := "ytgjbfgkcbehjnaadoor", sum := "648e05f5e99bfb7b3904015ddeaac26686222a3edb38568211643988a491ebbf", func := "passepartout/passepartoutlaw12.CertMore", spec := "certMore", unfollowed := true, recurses := true, named := ["passepartout/dertag.plain", "passepartout/dertag.made", "passepartout/dertype.days", "strconv.ErrSyntax", "strconv.ErrRange", "internal/strconv.uint64pow10", "math/bits.deBruijn32tab", "math/bits.deBruijn64tab"], loops := true, apart := false, laid := [("math/bits.deBruijn32tab", laid_math_bits_deBruijn32tab), ("math/bits.deBruijn64tab", laid_math_bits_deBruijn64tab), ("internal/strconv.uint64pow10", laid_internal_strconv_uint64pow10), ("strconv.ErrRange", laid_strconv_ErrRange), ("strconv.ErrSyntax", laid_strconv_ErrSyntax), ("passepartout/dertag.plain", laid_passepartout_dertag_plain), ("passepartout/dertag.made", laid_passepartout_dertag_made), ("passepartout/dertype.days", laid_passepartout_dertype_days)], narrowed := true }
def CertMoreUptoSaid : Prop := certMoreUptoRow.holds Tryd.pinned (OpenSpec.upto certMoreSpec)

/-- 'passepartoutlaw11.DerJoins', WHERE WHAT IT READS IS OF BULK AT MOST 1048576: true; the input reads as it did. -/
def derJoinsUptoRow : OpenClaim := { program := "ytgjbfgkcbehjnaadoor", sum := "648e05f5e99bfb7b3904015ddeaac26686222a3edb38568211643988a491ebbf", func := "passepartout/passepartoutlaw11.DerJoins", spec := "derJoins", unfollowed := true, recurses := true, named := ["passepartout/dertag.plain", "passepartout/dertag.made", "passepartout/dertype.days", "strconv.ErrSyntax", "strconv.ErrRange", "internal/strconv.uint64pow10", "math/bits.deBruijn32tab", "math/bits.deBruijn64tab"], loops := true, apart := false, laid := [("math/bits.deBruijn32tab", laid_math_bits_deBruijn32tab), ("math/bits.deBruijn64tab", laid_math_bits_deBruijn64tab), ("internal/strconv.uint64pow10", laid_internal_strconv_uint64pow10), ("strconv.ErrRange", laid_strconv_ErrRange), ("strconv.ErrSyntax", laid_strconv_ErrSyntax), ("passepartout/dertag.plain", laid_passepartout_dertag_plain), ("passepartout/dertag.made", laid_passepartout_dertag_made), ("passepartout/dertype.days", laid_passepartout_dertype_days)], narrowed := true }
def DerJoinsUptoSaid : Prop := derJoinsUptoRow.holds Tryd.pinned (OpenSpec.upto derJoinsSpec)

/-- 'passepartoutlaw11.DerWrites', WHERE WHAT IT READS IS OF BULK AT MOST 1048576: true; the input reads as it did. -/
def derWritesUptoRow : OpenClaim := { program := "ytgjbfgkcbehjnaadoor", sum := "648e05f5e99bfb7b3904015ddeaac26686222a3edb38568211643988a491ebbf", func := "passepartout/passepartoutlaw11.DerWrites", spec := "derWrites", unfollowed := true, recurses := true, named := ["passepartout/dertag.plain", "passepartout/dertag.made", "passepartout/dertype.days", "strconv.ErrSyntax", "strconv.ErrRange", "internal/strconv.uint64pow10", "math/bits.deBruijn32tab", "math/bits.deBruijn64tab"], loops := true, apart := false, laid := [("math/bits.deBruijn32tab", laid_math_bits_deBruijn32tab), ("math/bits.deBruijn64tab", laid_math_bits_deBruijn64tab), ("internal/strconv.uint64pow10", laid_internal_strconv_uint64pow10), ("strconv.ErrRange", laid_strconv_ErrRange), ("strconv.ErrSyntax", laid_strconv_ErrSyntax), ("passepartout/dertag.plain", laid_passepartout_dertag_plain), ("passepartout/dertag.made", laid_passepartout_dertag_made), ("passepartout/dertype.days", laid_passepartout_dertype_days)], narrowed := true }
def DerWritesUptoSaid : Prop := derWritesUptoRow.holds Tryd.pinned (OpenSpec.upto derWritesSpec)

/-- 'passepartoutlaw11.DerBack', WHERE WHAT IT READS IS OF BULK AT MOST 1048576: true; the input reads as it did. -/
def derBackUptoRow : OpenClaim := { program := "ytgjbfgkcbehjnaadoor", sum := "648e05f5e99bfb7b3904015ddeaac26686222a3edb38568211643988a491ebbf", func := "passepartout/passepartoutlaw11.DerBack", spec := "derBack", unfollowed := true, recurses := true, named := ["passepartout/dertag.plain", "passepartout/dertag.made", "passepartout/dertype.days", "strconv.ErrSyntax", "strconv.ErrRange", "internal/strconv.uint64pow10", "math/bits.deBruijn32tab", "math/bits.deBruijn64tab"], loops := true, apart := false, laid := [("math/bits.deBruijn32tab", laid_math_bits_deBruijn32tab), ("math/bits.deBruijn64tab", laid_math_bits_deBruijn64tab), ("internal/strconv.uint64pow10", laid_internal_strconv_uint64pow10), ("strconv.ErrRange", laid_strconv_ErrRange), ("strconv.ErrSyntax", laid_strconv_ErrSyntax), ("passepartout/dertag.plain", laid_passepartout_dertag_plain), ("passepartout/dertag.made", laid_passepartout_dertag_made), ("passepartout/dertype.days", laid_passepartout_dertype_days)], narrowed := true }
def DerBackUptoSaid : Prop := derBackUptoRow.holds Tryd.pinned (OpenSpec.upto derBackSpec)

/-- 'passepartoutlaw11.DerOne', WHERE WHAT IT READS IS OF BULK AT MOST 1048576: true; the input reads as it did. -/
def derOneUptoRow : OpenClaim := { program := "ytgjbfgkcbehjnaadoor", sum := "648e05f5e99bfb7b3904015ddeaac26686222a3edb38568211643988a491ebbf", func := "passepartout/passepartoutlaw11.DerOne", spec := "derOne", unfollowed := true, recurses := true, named := ["passepartout/dertag.plain", "passepartout/dertag.made", "passepartout/dertype.days", "strconv.ErrSyntax", "strconv.ErrRange", "internal/strconv.uint64pow10", "math/bits.deBruijn32tab", "math/bits.deBruijn64tab"], apart := false, laid := [("math/bits.deBruijn32tab", laid_math_bits_deBruijn32tab), ("math/bits.deBruijn64tab", laid_math_bits_deBruijn64tab), ("internal/strconv.uint64pow10", laid_internal_strconv_uint64pow10), ("strconv.ErrRange", laid_strconv_ErrRange), ("strconv.ErrSyntax", laid_strconv_ErrSyntax), ("passepartout/dertag.plain", laid_passepartout_dertag_plain), ("passepartout/dertag.made", laid_passepartout_dertag_made), ("passepartout/dertype.days", laid_passepartout_dertype_days)], narrowed := true }
def DerOneUptoSaid : Prop := derOneUptoRow.holds Tryd.pinned (OpenSpec.upto derOneSpec)

end Rows
end Go.Proofs.YtgjbfgkcbehjnaaDoor
