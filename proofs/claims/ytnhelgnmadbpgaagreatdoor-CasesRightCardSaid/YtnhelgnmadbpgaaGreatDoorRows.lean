/-
  NARROWER THAN 'FOR EVERY INPUT', by the rows' own cells (each row's printed sentence says how): CasesRuns: laid · CasesPlays: laid · CasesStays: laid · CasesStates: laid · CasesFields: laid · CasesNew: laid · CasesForm: laid · CasesRoles: laid · CasesTicks: laid · CasesRight: laid.
  DERIVED. THE GIVEN ROWS OF THIS SEAT. 10 by the template 'for every input the law returns true; each argument reads behind the call as it read before'; 0 by the template 'total and deterministic' (their statements: YtnhelgnmadbpgaaGreatDoorTotals.lean).
  GIVEN WITH THE SEED: the statements are not yours to turn. If you find one false, say at which input.
  Laid BY PROGRAM, IN A SANDBOX (cutbox-rows.mjs): the forced cells as the released guide's own fill.sh prints them over the translation eccd70d101c70484… (all of the seat's roots in one cut). By AI agents, Wed Nov 11 2026. No macro, syntax, notation, axiom, sorry.
-/
import Derived.Test.YtnhelgnmadbpgaaGreatDoorChecked
import GoSem.Claim
import GoSem.ClaimJoined
import GoSem.ClaimMapViews
import Derived.JoinedTies
import Derived.KernelRfl
namespace Go.Proofs.YtnhelgnmadbpgaaGreatDoor
/- THE CELL 'sum', in the pinned program and in every row, IS THE sha256 OF THE DUMP (.gsa) THAT YtnhelgnmadbpgaaGreatDoorProg.lean LOADS. Nothing in Lean hashes anything: it is a label: what it is worth is what the hold of that sum in a sandbox is worth. -/
noncomputable def Tryz.pinned : Pinned := { name := "ytnhelgnmadbpgaagreatdoor", sum := "eccd70d101c70484e0e67bdabca5054eeeef5146a4348c3a9ed375aa5708448f", checked := Tryz.checked }
namespace Rows
def none {H : Type} : Left H := { results := [], args := [] }

/- WHAT THE LISTED PACKAGE-LEVEL VARIABLES READ AS WHEN THE CALL BEGINS. Each datum BY PROGRAM (the guide's laid-datum.mjs) off the statement by which the dump's own 'gosem.cut.vars' lays the variable. In a bare row this is a premise. The card (YtnhelgnmadbpgaaGreatDoorCards.lean) ties it to the program's text. -/
def laid_math_bits_deBruijn32tab {H : Type} : DataW H := .agg [.lit (.int .u8 0), .lit (.int .u8 1), .lit (.int .u8 28), .lit (.int .u8 2), .lit (.int .u8 29), .lit (.int .u8 14), .lit (.int .u8 24), .lit (.int .u8 3), .lit (.int .u8 30), .lit (.int .u8 22), .lit (.int .u8 20), .lit (.int .u8 15), .lit (.int .u8 25), .lit (.int .u8 17), .lit (.int .u8 4), .lit (.int .u8 8), .lit (.int .u8 31), .lit (.int .u8 27), .lit (.int .u8 13), .lit (.int .u8 23), .lit (.int .u8 21), .lit (.int .u8 19), .lit (.int .u8 16), .lit (.int .u8 7), .lit (.int .u8 26), .lit (.int .u8 12), .lit (.int .u8 18), .lit (.int .u8 6), .lit (.int .u8 11), .lit (.int .u8 5), .lit (.int .u8 10), .lit (.int .u8 9)]
def laid_math_bits_deBruijn64tab {H : Type} : DataW H := .agg [.lit (.int .u8 0), .lit (.int .u8 1), .lit (.int .u8 56), .lit (.int .u8 2), .lit (.int .u8 57), .lit (.int .u8 49), .lit (.int .u8 28), .lit (.int .u8 3), .lit (.int .u8 61), .lit (.int .u8 58), .lit (.int .u8 42), .lit (.int .u8 50), .lit (.int .u8 38), .lit (.int .u8 29), .lit (.int .u8 17), .lit (.int .u8 4), .lit (.int .u8 62), .lit (.int .u8 47), .lit (.int .u8 59), .lit (.int .u8 36), .lit (.int .u8 45), .lit (.int .u8 43), .lit (.int .u8 51), .lit (.int .u8 22), .lit (.int .u8 53), .lit (.int .u8 39), .lit (.int .u8 33), .lit (.int .u8 30), .lit (.int .u8 24), .lit (.int .u8 18), .lit (.int .u8 12), .lit (.int .u8 5), .lit (.int .u8 63), .lit (.int .u8 55), .lit (.int .u8 48), .lit (.int .u8 27), .lit (.int .u8 60), .lit (.int .u8 41), .lit (.int .u8 37), .lit (.int .u8 16), .lit (.int .u8 46), .lit (.int .u8 35), .lit (.int .u8 44), .lit (.int .u8 21), .lit (.int .u8 52), .lit (.int .u8 32), .lit (.int .u8 23), .lit (.int .u8 11), .lit (.int .u8 54), .lit (.int .u8 26), .lit (.int .u8 40), .lit (.int .u8 15), .lit (.int .u8 34), .lit (.int .u8 20), .lit (.int .u8 31), .lit (.int .u8 10), .lit (.int .u8 25), .lit (.int .u8 14), .lit (.int .u8 19), .lit (.int .u8 9), .lit (.int .u8 13), .lit (.int .u8 8), .lit (.int .u8 7), .lit (.int .u8 6)]
def laid_internal_strconv_uint64pow10 {H : Type} : DataW H := .agg [.lit (.int .u64 1), .lit (.int .u64 10), .lit (.int .u64 100), .lit (.int .u64 1000), .lit (.int .u64 10000), .lit (.int .u64 100000), .lit (.int .u64 1000000), .lit (.int .u64 10000000), .lit (.int .u64 100000000), .lit (.int .u64 1000000000), .lit (.int .u64 10000000000), .lit (.int .u64 100000000000), .lit (.int .u64 1000000000000), .lit (.int .u64 10000000000000), .lit (.int .u64 100000000000000), .lit (.int .u64 1000000000000000), .lit (.int .u64 10000000000000000), .lit (.int .u64 100000000000000000), .lit (.int .u64 1000000000000000000), .lit (.int .u64 10000000000000000000)]
def laid_strconv_ErrRange {H : Type} : DataW H := .iface "*errors.errorString" (.ptr (.agg [.lit (.string [118, 97, 108, 117, 101, 32, 111, 117, 116, 32, 111, 102, 32, 114, 97, 110, 103, 101])]))
def laid_strconv_ErrSyntax {H : Type} : DataW H := .iface "*errors.errorString" (.ptr (.agg [.lit (.string [105, 110, 118, 97, 108, 105, 100, 32, 115, 121, 110, 116, 97, 120])]))

/-- 'bailifflaw22.CasesRuns': WHATEVER THE INPUT: true; the input reads as it did. -/
def casesRunsSpec : ChangeSpec := { name := "casesRuns", fn := fun _ => fun
  | [] => { results := [.lit (.bool true)], args := [] }
  | _ => none }
def casesRunsRow : OpenClaim := { program := "ytnhelgnmadbpgaagreatdoor", sum := "eccd70d101c70484e0e67bdabca5054eeeef5146a4348c3a9ed375aa5708448f", func := "bailiff/bailifflaw22.CasesRuns", spec := "casesRuns", inPlace := ["internal/bytealg.IndexByteString", "slices.overlaps[bailiff/api.Case]", "slices.overlaps[bailiff/api.Field]"], unfollowed := true, recurses := true, named := ["strconv.ErrSyntax", "strconv.ErrRange", "internal/strconv.uint64pow10", "math/bits.deBruijn32tab", "math/bits.deBruijn64tab"], apart := false, laid := [("math/bits.deBruijn32tab", laid_math_bits_deBruijn32tab), ("math/bits.deBruijn64tab", laid_math_bits_deBruijn64tab), ("internal/strconv.uint64pow10", laid_internal_strconv_uint64pow10), ("strconv.ErrRange", laid_strconv_ErrRange), ("strconv.ErrSyntax", laid_strconv_ErrSyntax)] }
def CasesRunsSaid : Prop := casesRunsRow.holds Tryz.pinned (OpenSpec.ofChange casesRunsSpec)

/-- ITS FALSE NEIGHBOUR: 'it returns false'. Refute it at one input. -/
def casesRunsWrong : ChangeSpec := { name := "casesRuns", fn := fun _ => fun
  | [] => { results := [.lit (.bool false)], args := [] }
  | _ => none }
def CasesRunsWrongFalsely : Prop := casesRunsRow.holds Tryz.pinned (OpenSpec.ofChange casesRunsWrong)

/-- 'bailifflaw22.CasesPlays': WHATEVER THE INPUT: true; the input reads as it did. -/
def casesPlaysSpec : ChangeSpec := { name := "casesPlays", fn := fun _ => fun
  | [d1, d2] => { results := [.lit (.bool true)], args := [d1, d2] }
  | _ => none }
def casesPlaysRow : OpenClaim := { program := "ytnhelgnmadbpgaagreatdoor", sum := "eccd70d101c70484e0e67bdabca5054eeeef5146a4348c3a9ed375aa5708448f", func := "bailiff/bailifflaw22.CasesPlays", spec := "casesPlays", inPlace := ["internal/bytealg.IndexByteString", "slices.overlaps[bailiff/api.Case]", "slices.overlaps[bailiff/api.Field]"], unfollowed := true, recurses := true, named := ["strconv.ErrSyntax", "strconv.ErrRange", "internal/strconv.uint64pow10", "math/bits.deBruijn32tab", "math/bits.deBruijn64tab"], apart := false, laid := [("math/bits.deBruijn32tab", laid_math_bits_deBruijn32tab), ("math/bits.deBruijn64tab", laid_math_bits_deBruijn64tab), ("internal/strconv.uint64pow10", laid_internal_strconv_uint64pow10), ("strconv.ErrRange", laid_strconv_ErrRange), ("strconv.ErrSyntax", laid_strconv_ErrSyntax)] }
def CasesPlaysSaid : Prop := casesPlaysRow.holds Tryz.pinned (OpenSpec.ofChange casesPlaysSpec)

/-- ITS FALSE NEIGHBOUR: 'it returns false'. Refute it at one input. -/
def casesPlaysWrong : ChangeSpec := { name := "casesPlays", fn := fun _ => fun
  | [d1, d2] => { results := [.lit (.bool false)], args := [d1, d2] }
  | _ => none }
def CasesPlaysWrongFalsely : Prop := casesPlaysRow.holds Tryz.pinned (OpenSpec.ofChange casesPlaysWrong)

/-- 'bailifflaw22.CasesStays': WHATEVER THE INPUT: true; the input reads as it did. -/
def casesStaysSpec : ChangeSpec := { name := "casesStays", fn := fun _ => fun
  | [d1, d2] => { results := [.lit (.bool true)], args := [d1, d2] }
  | _ => none }
def casesStaysRow : OpenClaim := { program := "ytnhelgnmadbpgaagreatdoor", sum := "eccd70d101c70484e0e67bdabca5054eeeef5146a4348c3a9ed375aa5708448f", func := "bailiff/bailifflaw22.CasesStays", spec := "casesStays", inPlace := ["internal/bytealg.IndexByteString", "slices.overlaps[bailiff/api.Case]", "slices.overlaps[bailiff/api.Field]"], unfollowed := true, recurses := true, named := ["strconv.ErrSyntax", "strconv.ErrRange", "internal/strconv.uint64pow10", "math/bits.deBruijn32tab", "math/bits.deBruijn64tab"], apart := false, laid := [("math/bits.deBruijn32tab", laid_math_bits_deBruijn32tab), ("math/bits.deBruijn64tab", laid_math_bits_deBruijn64tab), ("internal/strconv.uint64pow10", laid_internal_strconv_uint64pow10), ("strconv.ErrRange", laid_strconv_ErrRange), ("strconv.ErrSyntax", laid_strconv_ErrSyntax)] }
def CasesStaysSaid : Prop := casesStaysRow.holds Tryz.pinned (OpenSpec.ofChange casesStaysSpec)

/-- ITS FALSE NEIGHBOUR: 'it returns false'. Refute it at one input. -/
def casesStaysWrong : ChangeSpec := { name := "casesStays", fn := fun _ => fun
  | [d1, d2] => { results := [.lit (.bool false)], args := [d1, d2] }
  | _ => none }
def CasesStaysWrongFalsely : Prop := casesStaysRow.holds Tryz.pinned (OpenSpec.ofChange casesStaysWrong)

/-- 'bailifflaw22.CasesStates': WHATEVER THE INPUT: true; the input reads as it did. -/
def casesStatesSpec : ChangeSpec := { name := "casesStates", fn := fun _ => fun
  | [d] => { results := [.lit (.bool true)], args := [d] }
  | _ => none }
def casesStatesRow : OpenClaim := { program := "ytnhelgnmadbpgaagreatdoor", sum := "eccd70d101c70484e0e67bdabca5054eeeef5146a4348c3a9ed375aa5708448f", func := "bailiff/bailifflaw22.CasesStates", spec := "casesStates", inPlace := ["internal/bytealg.IndexByteString", "slices.overlaps[bailiff/api.Case]", "slices.overlaps[bailiff/api.Field]"], unfollowed := true, recurses := true, named := ["strconv.ErrSyntax", "strconv.ErrRange", "internal/strconv.uint64pow10", "math/bits.deBruijn32tab", "math/bits.deBruijn64tab"], apart := false, laid := [("math/bits.deBruijn32tab", laid_math_bits_deBruijn32tab), ("math/bits.deBruijn64tab", laid_math_bits_deBruijn64tab), ("internal/strconv.uint64pow10", laid_internal_strconv_uint64pow10), ("strconv.ErrRange", laid_strconv_ErrRange), ("strconv.ErrSyntax", laid_strconv_ErrSyntax)] }
def CasesStatesSaid : Prop := casesStatesRow.holds Tryz.pinned (OpenSpec.ofChange casesStatesSpec)

/-- ITS FALSE NEIGHBOUR: 'it returns false'. Refute it at one input. -/
def casesStatesWrong : ChangeSpec := { name := "casesStates", fn := fun _ => fun
  | [d] => { results := [.lit (.bool false)], args := [d] }
  | _ => none }
def CasesStatesWrongFalsely : Prop := casesStatesRow.holds Tryz.pinned (OpenSpec.ofChange casesStatesWrong)

/-- 'bailifflaw22.CasesFields': WHATEVER THE INPUT: true; the input reads as it did. -/
def casesFieldsSpec : ChangeSpec := { name := "casesFields", fn := fun _ => fun
  | [d1, d2] => { results := [.lit (.bool true)], args := [d1, d2] }
  | _ => none }
def casesFieldsRow : OpenClaim := { program := "ytnhelgnmadbpgaagreatdoor", sum := "eccd70d101c70484e0e67bdabca5054eeeef5146a4348c3a9ed375aa5708448f", func := "bailiff/bailifflaw22.CasesFields", spec := "casesFields", inPlace := ["internal/bytealg.IndexByteString", "slices.overlaps[bailiff/api.Case]", "slices.overlaps[bailiff/api.Field]"], unfollowed := true, recurses := true, named := ["strconv.ErrSyntax", "strconv.ErrRange", "internal/strconv.uint64pow10", "math/bits.deBruijn32tab", "math/bits.deBruijn64tab"], apart := false, laid := [("math/bits.deBruijn32tab", laid_math_bits_deBruijn32tab), ("math/bits.deBruijn64tab", laid_math_bits_deBruijn64tab), ("internal/strconv.uint64pow10", laid_internal_strconv_uint64pow10), ("strconv.ErrRange", laid_strconv_ErrRange), ("strconv.ErrSyntax", laid_strconv_ErrSyntax)] }
def CasesFieldsSaid : Prop := casesFieldsRow.holds Tryz.pinned (OpenSpec.ofChange casesFieldsSpec)

/-- ITS FALSE NEIGHBOUR: 'it returns false'. Refute it at one input. -/
def casesFieldsWrong : ChangeSpec := { name := "casesFields", fn := fun _ => fun
  | [d1, d2] => { results := [.lit (.bool false)], args := [d1, d2] }
  | _ => none }
def CasesFieldsWrongFalsely : Prop := casesFieldsRow.holds Tryz.pinned (OpenSpec.ofChange casesFieldsWrong)

/-- 'bailifflaw22.CasesNew': WHATEVER THE INPUT: true; the input reads as it did. -/
def casesNewSpec : ChangeSpec := { name := "casesNew", fn := fun _ => fun
  | [d] => { results := [.lit (.bool true)], args := [d] }
  | _ => none }
def casesNewRow : OpenClaim := { program := "ytnhelgnmadbpgaagreatdoor", sum := "eccd70d101c70484e0e67bdabca5054eeeef5146a4348c3a9ed375aa5708448f", func := "bailiff/bailifflaw22.CasesNew", spec := "casesNew", inPlace := ["internal/bytealg.IndexByteString", "slices.overlaps[bailiff/api.Case]", "slices.overlaps[bailiff/api.Field]"], unfollowed := true, recurses := true, named := ["strconv.ErrSyntax", "strconv.ErrRange", "internal/strconv.uint64pow10", "math/bits.deBruijn32tab", "math/bits.deBruijn64tab"], apart := false, laid := [("math/bits.deBruijn32tab", laid_math_bits_deBruijn32tab), ("math/bits.deBruijn64tab", laid_math_bits_deBruijn64tab), ("internal/strconv.uint64pow10", laid_internal_strconv_uint64pow10), ("strconv.ErrRange", laid_strconv_ErrRange), ("strconv.ErrSyntax", laid_strconv_ErrSyntax)] }
def CasesNewSaid : Prop := casesNewRow.holds Tryz.pinned (OpenSpec.ofChange casesNewSpec)

/-- ITS FALSE NEIGHBOUR: 'it returns false'. Refute it at one input. -/
def casesNewWrong : ChangeSpec := { name := "casesNew", fn := fun _ => fun
  | [d] => { results := [.lit (.bool false)], args := [d] }
  | _ => none }
def CasesNewWrongFalsely : Prop := casesNewRow.holds Tryz.pinned (OpenSpec.ofChange casesNewWrong)

/-- 'bailifflaw22.CasesForm': WHATEVER THE INPUT: true; the input reads as it did. -/
def casesFormSpec : ChangeSpec := { name := "casesForm", fn := fun _ => fun
  | [d1, d2] => { results := [.lit (.bool true)], args := [d1, d2] }
  | _ => none }
def casesFormRow : OpenClaim := { program := "ytnhelgnmadbpgaagreatdoor", sum := "eccd70d101c70484e0e67bdabca5054eeeef5146a4348c3a9ed375aa5708448f", func := "bailiff/bailifflaw22.CasesForm", spec := "casesForm", inPlace := ["internal/bytealg.IndexByteString", "slices.overlaps[bailiff/api.Case]", "slices.overlaps[bailiff/api.Field]"], unfollowed := true, recurses := true, named := ["strconv.ErrSyntax", "strconv.ErrRange", "internal/strconv.uint64pow10", "math/bits.deBruijn32tab", "math/bits.deBruijn64tab"], apart := false, laid := [("math/bits.deBruijn32tab", laid_math_bits_deBruijn32tab), ("math/bits.deBruijn64tab", laid_math_bits_deBruijn64tab), ("internal/strconv.uint64pow10", laid_internal_strconv_uint64pow10), ("strconv.ErrRange", laid_strconv_ErrRange), ("strconv.ErrSyntax", laid_strconv_ErrSyntax)] }
def CasesFormSaid : Prop := casesFormRow.holds Tryz.pinned (OpenSpec.ofChange casesFormSpec)

/-- ITS FALSE NEIGHBOUR: 'it returns false'. Refute it at one input. -/
def casesFormWrong : ChangeSpec := { name := "casesForm", fn := fun _ => fun
  | [d1, d2] => { results := [.lit (.bool false)], args := [d1, d2] }
  | _ => none }
def CasesFormWrongFalsely : Prop := casesFormRow.holds Tryz.pinned (OpenSpec.ofChange casesFormWrong)

/-- 'bailifflaw22.CasesRoles': WHATEVER THE INPUT: true; the input reads as it did. -/
def casesRolesSpec : ChangeSpec := { name := "casesRoles", fn := fun _ => fun
  | [d1, d2] => { results := [.lit (.bool true)], args := [d1, d2] }
  | _ => none }
def casesRolesRow : OpenClaim := { program := "ytnhelgnmadbpgaagreatdoor", sum := "eccd70d101c70484e0e67bdabca5054eeeef5146a4348c3a9ed375aa5708448f", func := "bailiff/bailifflaw22.CasesRoles", spec := "casesRoles", inPlace := ["internal/bytealg.IndexByteString", "slices.overlaps[bailiff/api.Case]", "slices.overlaps[bailiff/api.Field]"], unfollowed := true, recurses := true, named := ["strconv.ErrSyntax", "strconv.ErrRange", "internal/strconv.uint64pow10", "math/bits.deBruijn32tab", "math/bits.deBruijn64tab"], apart := false, laid := [("math/bits.deBruijn32tab", laid_math_bits_deBruijn32tab), ("math/bits.deBruijn64tab", laid_math_bits_deBruijn64tab), ("internal/strconv.uint64pow10", laid_internal_strconv_uint64pow10), ("strconv.ErrRange", laid_strconv_ErrRange), ("strconv.ErrSyntax", laid_strconv_ErrSyntax)] }
def CasesRolesSaid : Prop := casesRolesRow.holds Tryz.pinned (OpenSpec.ofChange casesRolesSpec)

/-- ITS FALSE NEIGHBOUR: 'it returns false'. Refute it at one input. -/
def casesRolesWrong : ChangeSpec := { name := "casesRoles", fn := fun _ => fun
  | [d1, d2] => { results := [.lit (.bool false)], args := [d1, d2] }
  | _ => none }
def CasesRolesWrongFalsely : Prop := casesRolesRow.holds Tryz.pinned (OpenSpec.ofChange casesRolesWrong)

/-- 'bailifflaw22.CasesTicks': WHATEVER THE INPUT: true; the input reads as it did. -/
def casesTicksSpec : ChangeSpec := { name := "casesTicks", fn := fun _ => fun
  | [d] => { results := [.lit (.bool true)], args := [d] }
  | _ => none }
def casesTicksRow : OpenClaim := { program := "ytnhelgnmadbpgaagreatdoor", sum := "eccd70d101c70484e0e67bdabca5054eeeef5146a4348c3a9ed375aa5708448f", func := "bailiff/bailifflaw22.CasesTicks", spec := "casesTicks", inPlace := ["internal/bytealg.IndexByteString", "slices.overlaps[bailiff/api.Case]", "slices.overlaps[bailiff/api.Field]"], unfollowed := true, recurses := true, named := ["strconv.ErrSyntax", "strconv.ErrRange", "internal/strconv.uint64pow10", "math/bits.deBruijn32tab", "math/bits.deBruijn64tab"], apart := false, laid := [("math/bits.deBruijn32tab", laid_math_bits_deBruijn32tab), ("math/bits.deBruijn64tab", laid_math_bits_deBruijn64tab), ("internal/strconv.uint64pow10", laid_internal_strconv_uint64pow10), ("strconv.ErrRange", laid_strconv_ErrRange), ("strconv.ErrSyntax", laid_strconv_ErrSyntax)] }
def CasesTicksSaid : Prop := casesTicksRow.holds Tryz.pinned (OpenSpec.ofChange casesTicksSpec)

/-- ITS FALSE NEIGHBOUR: 'it returns false'. Refute it at one input. -/
def casesTicksWrong : ChangeSpec := { name := "casesTicks", fn := fun _ => fun
  | [d] => { results := [.lit (.bool false)], args := [d] }
  | _ => none }
def CasesTicksWrongFalsely : Prop := casesTicksRow.holds Tryz.pinned (OpenSpec.ofChange casesTicksWrong)

/-- 'bailifflaw22.CasesRight': WHATEVER THE INPUT: true; the input reads as it did. -/
def casesRightSpec : ChangeSpec := { name := "casesRight", fn := fun _ => fun
  | [d1, d2] => { results := [.lit (.bool true)], args := [d1, d2] }
  | _ => none }
def casesRightRow : OpenClaim := { program := "ytnhelgnmadbpgaagreatdoor", sum := "eccd70d101c70484e0e67bdabca5054eeeef5146a4348c3a9ed375aa5708448f", func := "bailiff/bailifflaw22.CasesRight", spec := "casesRight", inPlace := ["internal/bytealg.IndexByteString", "slices.overlaps[bailiff/api.Case]", "slices.overlaps[bailiff/api.Field]"], unfollowed := true, recurses := true, named := ["strconv.ErrSyntax", "strconv.ErrRange", "internal/strconv.uint64pow10", "math/bits.deBruijn32tab", "math/bits.deBruijn64tab"], apart := false, laid := [("math/bits.deBruijn32tab", laid_math_bits_deBruijn32tab), ("math/bits.deBruijn64tab", laid_math_bits_deBruijn64tab), ("internal/strconv.uint64pow10", laid_internal_strconv_uint64pow10), ("strconv.ErrRange", laid_strconv_ErrRange), ("strconv.ErrSyntax", laid_strconv_ErrSyntax)] }
def CasesRightSaid : Prop := casesRightRow.holds Tryz.pinned (OpenSpec.ofChange casesRightSpec)

/-- ITS FALSE NEIGHBOUR: 'it returns false'. Refute it at one input. -/
def casesRightWrong : ChangeSpec := { name := "casesRight", fn := fun _ => fun
  | [d1, d2] => { results := [.lit (.bool false)], args := [d1, d2] }
  | _ => none }
def CasesRightWrongFalsely : Prop := casesRightRow.holds Tryz.pinned (OpenSpec.ofChange casesRightWrong)

/- THE SECOND FORM. 'bulk': how many values and letters a reading holds, each counted each time it is reached (what is shared counts as often as it is met; a slice's spare places count too). A statement '..UptoSaid' is the law's where the arguments, and the package variables that the reading takes, are together of bulk at most 1048576: NARROWER than '..Said'. Prove '..Said' where nothing that the law and all that it calls make is longer than what came in: it says more and counts as full. Else prove '..UptoSaid'. A law counts once. -/
mutual
def uptoBulk {H : Type} : DataW H → Nat
  | .lit (.string bytes) => bytes.length + 1
  | .lit _ => 1
  | .nil => 1
  | .ptr d => uptoBulk d + 1
  | .slice elems spare => uptoBulkAll elems + uptoBulkAll spare + 1
  | .agg parts => uptoBulkAll parts + 1
  | .iface _ d => uptoBulk d + 1
  | .map entries => uptoBulkEntries entries + 1
  | .held _ => 1
def uptoBulkAll {H : Type} : List (DataW H) → Nat
  | [] => 0
  | d :: r => uptoBulk d + uptoBulkAll r
def uptoBulkEntries {H : Type} : List (Lit × DataW H) → Nat
  | [] => 0
  | x :: r => uptoBulkEntry x + uptoBulkEntries r
def uptoBulkEntry {H : Type} : Lit × DataW H → Nat
  | (.string bytes, d) => bytes.length + uptoBulk d + 1
  | (_, d) => uptoBulk d + 1
 end
def uptoSmall : (H : Type) → List (DataW H) → Bool := fun _ ds => decide (uptoBulkAll ds ≤ 1048576)
def OpenSpec.upto (s : _root_.Go.ChangeSpec) : _root_.Go.OpenSpec := { _root_.Go.OpenSpec.ofChange s with cond := some uptoSmall }

/-- 'bailifflaw22.CasesRuns', WHERE WHAT IT READS IS OF BULK AT MOST 1048576: true; the input reads as it did. -/
def casesRunsUptoRow : OpenClaim := { program := "ytnhelgnmadbpgaagreatdoor", sum := "eccd70d101c70484e0e67bdabca5054eeeef5146a4348c3a9ed375aa5708448f", func := "bailiff/bailifflaw22.CasesRuns", spec := "casesRuns", inPlace := ["internal/bytealg.IndexByteString", "slices.overlaps[bailiff/api.Case]", "slices.overlaps[bailiff/api.Field]"], unfollowed := true, recurses := true, named := ["strconv.ErrSyntax", "strconv.ErrRange", "internal/strconv.uint64pow10", "math/bits.deBruijn32tab", "math/bits.deBruijn64tab"], apart := false, laid := [("math/bits.deBruijn32tab", laid_math_bits_deBruijn32tab), ("math/bits.deBruijn64tab", laid_math_bits_deBruijn64tab), ("internal/strconv.uint64pow10", laid_internal_strconv_uint64pow10), ("strconv.ErrRange", laid_strconv_ErrRange), ("strconv.ErrSyntax", laid_strconv_ErrSyntax)], narrowed := true }
def CasesRunsUptoSaid : Prop := casesRunsUptoRow.holds Tryz.pinned (OpenSpec.upto casesRunsSpec)

/-- 'bailifflaw22.CasesPlays', WHERE WHAT IT READS IS OF BULK AT MOST 1048576: true; the input reads as it did. -/
def casesPlaysUptoRow : OpenClaim := { program := "ytnhelgnmadbpgaagreatdoor", sum := "eccd70d101c70484e0e67bdabca5054eeeef5146a4348c3a9ed375aa5708448f", func := "bailiff/bailifflaw22.CasesPlays", spec := "casesPlays", inPlace := ["internal/bytealg.IndexByteString", "slices.overlaps[bailiff/api.Case]", "slices.overlaps[bailiff/api.Field]"], unfollowed := true, recurses := true, named := ["strconv.ErrSyntax", "strconv.ErrRange", "internal/strconv.uint64pow10", "math/bits.deBruijn32tab", "math/bits.deBruijn64tab"], apart := false, laid := [("math/bits.deBruijn32tab", laid_math_bits_deBruijn32tab), ("math/bits.deBruijn64tab", laid_math_bits_deBruijn64tab), ("internal/strconv.uint64pow10", laid_internal_strconv_uint64pow10), ("strconv.ErrRange", laid_strconv_ErrRange), ("strconv.ErrSyntax", laid_strconv_ErrSyntax)], narrowed := true }
def CasesPlaysUptoSaid : Prop := casesPlaysUptoRow.holds Tryz.pinned (OpenSpec.upto casesPlaysSpec)

/-- 'bailifflaw22.CasesStays', WHERE WHAT IT READS IS OF BULK AT MOST 1048576: true; the input reads as it did. -/
def casesStaysUptoRow : OpenClaim := { program := "ytnhelgnmadbpgaagreatdoor", sum := "eccd70d101c70484e0e67bdabca5054eeeef5146a4348c3a9ed375aa5708448f", func := "bailiff/bailifflaw22.CasesStays", spec := "casesStays", inPlace := ["internal/bytealg.IndexByteString", "slices.overlaps[bailiff/api.Case]", "slices.overlaps[bailiff/api.Field]"], unfollowed := true, recurses := true, named := ["strconv.ErrSyntax", "strconv.ErrRange", "internal/strconv.uint64pow10", "math/bits.deBruijn32tab", "math/bits.deBruijn64tab"], apart := false, laid := [("math/bits.deBruijn32tab", laid_math_bits_deBruijn32tab), ("math/bits.deBruijn64tab", laid_math_bits_deBruijn64tab), ("internal/strconv.uint64pow10", laid_internal_strconv_uint64pow10), ("strconv.ErrRange", laid_strconv_ErrRange), ("strconv.ErrSyntax", laid_strconv_ErrSyntax)], narrowed := true }
def CasesStaysUptoSaid : Prop := casesStaysUptoRow.holds Tryz.pinned (OpenSpec.upto casesStaysSpec)

/-- 'bailifflaw22.CasesStates', WHERE WHAT IT READS IS OF BULK AT MOST 1048576: true; the input reads as it did. -/
def casesStatesUptoRow : OpenClaim := { program := "ytnhelgnmadbpgaagreatdoor", sum := "eccd70d101c70484e0e67bdabca5054eeeef5146a4348c3a9ed375aa5708448f", func := "bailiff/bailifflaw22.CasesStates", spec := "casesStates", inPlace := ["internal/bytealg.IndexByteString", "slices.overlaps[bailiff/api.Case]", "slices.overlaps[bailiff/api.Field]"], unfollowed := true, recurses := true, named := ["strconv.ErrSyntax", "strconv.ErrRange", "internal/strconv.uint64pow10", "math/bits.deBruijn32tab", "math/bits.deBruijn64tab"], apart := false, laid := [("math/bits.deBruijn32tab", laid_math_bits_deBruijn32tab), ("math/bits.deBruijn64tab", laid_math_bits_deBruijn64tab), ("internal/strconv.uint64pow10", laid_internal_strconv_uint64pow10), ("strconv.ErrRange", laid_strconv_ErrRange), ("strconv.ErrSyntax", laid_strconv_ErrSyntax)], narrowed := true }
def CasesStatesUptoSaid : Prop := casesStatesUptoRow.holds Tryz.pinned (OpenSpec.upto casesStatesSpec)

/-- 'bailifflaw22.CasesFields', WHERE WHAT IT READS IS OF BULK AT MOST 1048576: true; the input reads as it did. -/
def casesFieldsUptoRow : OpenClaim := { program := "ytnhelgnmadbpgaagreatdoor", sum := "eccd70d101c70484e0e67bdabca5054eeeef5146a4348c3a9ed375aa5708448f", func := "bailiff/bailifflaw22.CasesFields", spec := "casesFields", inPlace := ["internal/bytealg.IndexByteString", "slices.overlaps[bailiff/api.Case]", "slices.overlaps[bailiff/api.Field]"], unfollowed := true, recurses := true, named := ["strconv.ErrSyntax", "strconv.ErrRange", "internal/strconv.uint64pow10", "math/bits.deBruijn32tab", "math/bits.deBruijn64tab"], apart := false, laid := [("math/bits.deBruijn32tab", laid_math_bits_deBruijn32tab), ("math/bits.deBruijn64tab", laid_math_bits_deBruijn64tab), ("internal/strconv.uint64pow10", laid_internal_strconv_uint64pow10), ("strconv.ErrRange", laid_strconv_ErrRange), ("strconv.ErrSyntax", laid_strconv_ErrSyntax)], narrowed := true }
def CasesFieldsUptoSaid : Prop := casesFieldsUptoRow.holds Tryz.pinned (OpenSpec.upto casesFieldsSpec)

/-- 'bailifflaw22.CasesNew', WHERE WHAT IT READS IS OF BULK AT MOST 1048576: true; the input reads as it did. -/
def casesNewUptoRow : OpenClaim := { program := "ytnhelgnmadbpgaagreatdoor", sum := "eccd70d101c70484e0e67bdabca5054eeeef5146a4348c3a9ed375aa5708448f", func := "bailiff/bailifflaw22.CasesNew", spec := "casesNew", inPlace := ["internal/bytealg.IndexByteString", "slices.overlaps[bailiff/api.Case]", "slices.overlaps[bailiff/api.Field]"], unfollowed := true, recurses := true, named := ["strconv.ErrSyntax", "strconv.ErrRange", "internal/strconv.uint64pow10", "math/bits.deBruijn32tab", "math/bits.deBruijn64tab"], apart := false, laid := [("math/bits.deBruijn32tab", laid_math_bits_deBruijn32tab), ("math/bits.deBruijn64tab", laid_math_bits_deBruijn64tab), ("internal/strconv.uint64pow10", laid_internal_strconv_uint64pow10), ("strconv.ErrRange", laid_strconv_ErrRange), ("strconv.ErrSyntax", laid_strconv_ErrSyntax)], narrowed := true }
def CasesNewUptoSaid : Prop := casesNewUptoRow.holds Tryz.pinned (OpenSpec.upto casesNewSpec)

/-- 'bailifflaw22.CasesForm', WHERE WHAT IT READS IS OF BULK AT MOST 1048576: true; the input reads as it did. -/
def casesFormUptoRow : OpenClaim := { program := "ytnhelgnmadbpgaagreatdoor", sum := "eccd70d101c70484e0e67bdabca5054eeeef5146a4348c3a9ed375aa5708448f", func := "bailiff/bailifflaw22.CasesForm", spec := "casesForm", inPlace := ["internal/bytealg.IndexByteString", "slices.overlaps[bailiff/api.Case]", "slices.overlaps[bailiff/api.Field]"], unfollowed := true, recurses := true, named := ["strconv.ErrSyntax", "strconv.ErrRange", "internal/strconv.uint64pow10", "math/bits.deBruijn32tab", "math/bits.deBruijn64tab"], apart := false, laid := [("math/bits.deBruijn32tab", laid_math_bits_deBruijn32tab), ("math/bits.deBruijn64tab", laid_math_bits_deBruijn64tab), ("internal/strconv.uint64pow10", laid_internal_strconv_uint64pow10), ("strconv.ErrRange", laid_strconv_ErrRange), ("strconv.ErrSyntax", laid_strconv_ErrSyntax)], narrowed := true }
def CasesFormUptoSaid : Prop := casesFormUptoRow.holds Tryz.pinned (OpenSpec.upto casesFormSpec)

/-- 'bailifflaw22.CasesRoles', WHERE WHAT IT READS IS OF BULK AT MOST 1048576: true; the input reads as it did. -/
def casesRolesUptoRow : OpenClaim := { program := "ytnhelgnmadbpgaagreatdoor", sum := "eccd70d101c70484e0e67bdabca5054eeeef5146a4348c3a9ed375aa5708448f", func := "bailiff/bailifflaw22.CasesRoles", spec := "casesRoles", inPlace := ["internal/bytealg.IndexByteString", "slices.overlaps[bailiff/api.Case]", "slices.overlaps[bailiff/api.Field]"], unfollowed := true, recurses := true, named := ["strconv.ErrSyntax", "strconv.ErrRange", "internal/strconv.uint64pow10", "math/bits.deBruijn32tab", "math/bits.deBruijn64tab"], apart := false, laid := [("math/bits.deBruijn32tab", laid_math_bits_deBruijn32tab), ("math/bits.deBruijn64tab", laid_math_bits_deBruijn64tab), ("internal/strconv.uint64pow10", laid_internal_strconv_uint64pow10), ("strconv.ErrRange", laid_strconv_ErrRange), ("strconv.ErrSyntax", laid_strconv_ErrSyntax)], narrowed := true }
def CasesRolesUptoSaid : Prop := casesRolesUptoRow.holds Tryz.pinned (OpenSpec.upto casesRolesSpec)

/-- 'bailifflaw22.CasesTicks', WHERE WHAT IT READS IS OF BULK AT MOST 1048576: true; the input reads as it did. -/
def casesTicksUptoRow : OpenClaim := { program := "ytnhelgnmadbpgaagreatdoor", sum := "eccd70d101c70484e0e67bdabca5054eeeef5146a4348c3a9ed375aa5708448f", func := "bailiff/bailifflaw22.CasesTicks", spec := "casesTicks", inPlace := ["internal/bytealg.IndexByteString", "slices.overlaps[bailiff/api.Case]", "slices.overlaps[bailiff/api.Field]"], unfollowed := true, recurses := true, named := ["strconv.ErrSyntax", "strconv.ErrRange", "internal/strconv.uint64pow10", "math/bits.deBruijn32tab", "math/bits.deBruijn64tab"], apart := false, laid := [("math/bits.deBruijn32tab", laid_math_bits_deBruijn32tab), ("math/bits.deBruijn64tab", laid_math_bits_deBruijn64tab), ("internal/strconv.uint64pow10", laid_internal_strconv_uint64pow10), ("strconv.ErrRange", laid_strconv_ErrRange), ("strconv.ErrSyntax", laid_strconv_ErrSyntax)], narrowed := true }
def CasesTicksUptoSaid : Prop := casesTicksUptoRow.holds Tryz.pinned (OpenSpec.upto casesTicksSpec)

/-- 'bailifflaw22.CasesRight', WHERE WHAT IT READS IS OF BULK AT MOST 1048576: true; the input reads as it did. -/
def casesRightUptoRow : OpenClaim := { program := "ytnhelgnmadbpgaagreatdoor", sum := "eccd70d101c70484e0e67bdabca5054eeeef5146a4348c3a9ed375aa5708448f", func := "bailiff/bailifflaw22.CasesRight", spec := "casesRight", inPlace := ["internal/bytealg.IndexByteString", "slices.overlaps[bailiff/api.Case]", "slices.overlaps[bailiff/api.Field]"], unfollowed := true, recurses := true, named := ["strconv.ErrSyntax", "strconv.ErrRange", "internal/strconv.uint64pow10", "math/bits.deBruijn32tab", "math/bits.deBruijn64tab"], apart := false, laid := [("math/bits.deBruijn32tab", laid_math_bits_deBruijn32tab), ("math/bits.deBruijn64tab", laid_math_bits_deBruijn64tab), ("internal/strconv.uint64pow10", laid_internal_strconv_uint64pow10), ("strconv.ErrRange", laid_strconv_ErrRange), ("strconv.ErrSyntax", laid_strconv_ErrSyntax)], narrowed := true }
def CasesRightUptoSaid : Prop := casesRightUptoRow.holds Tryz.pinned (OpenSpec.upto casesRightSpec)

end Rows
end Go.Proofs.YtnhelgnmadbpgaaGreatDoor
