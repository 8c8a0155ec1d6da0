/-
  NARROWER THAN 'FOR EVERY INPUT', by the rows' own cells (each row's printed sentence says how): GuardOnly: laid · GuardReviews: laid · GuardHides: laid · GuardDuties: laid · GuardRoom: laid · GuardPolicy: laid · GuardAgain: laid · GuardOverdue: laid.
  DERIVED. THE GIVEN ROWS OF THIS SEAT. 8 by the template 'for every input the law returns true; each argument reads behind the call as it read before'; 0 by the template 'total and deterministic' (their statements: YtnlbeamjpefpfaaGreatDoorTotals.lean).
  GIVEN WITH THE SEED: the statements are not yours to turn. If you find one false, say at which input.
  Laid BY PROGRAM, IN A SANDBOX (cutbox-rows.mjs): the forced cells as the released guide's own fill.sh prints them over the translation 92dd650a544dcc60… (all of the seat's roots in one cut). By AI agents, Wed Nov 11 2026. No macro, syntax, notation, axiom, sorry.
-/
import Derived.Test.YtnlbeamjpefpfaaGreatDoorChecked
import GoSem.Claim
import GoSem.ClaimJoined
import GoSem.ClaimMapViews
import Derived.JoinedTies
import Derived.KernelRfl
namespace Go.Proofs.YtnlbeamjpefpfaaGreatDoor
/- THE CELL 'sum', in the pinned program and in every row, IS THE sha256 OF THE DUMP (.gsa) THAT YtnlbeamjpefpfaaGreatDoorProg.lean LOADS. Nothing in Lean hashes anything: it is a label: what it is worth is what the hold of that sum in a sandbox is worth. -/
noncomputable def Tryz.pinned : Pinned := { name := "ytnlbeamjpefpfaagreatdoor", sum := "92dd650a544dcc60bad52c64e8f8c66d3e38cf62afddc5ced82ac130f556f051", checked := Tryz.checked }
namespace Rows
def none {H : Type} : Left H := { results := [], args := [] }

/- WHAT THE LISTED PACKAGE-LEVEL VARIABLES READ AS WHEN THE CALL BEGINS. Each datum BY PROGRAM (the guide's laid-datum.mjs) off the statement by which the dump's own 'gosem.cut.vars' lays the variable. In a bare row this is a premise. The card (YtnlbeamjpefpfaaGreatDoorCards.lean) ties it to the program's text. -/
def laid_math_bits_deBruijn32tab {H : Type} : DataW H := .agg [.lit (.int .u8 0), .lit (.int .u8 1), .lit (.int .u8 28), .lit (.int .u8 2), .lit (.int .u8 29), .lit (.int .u8 14), .lit (.int .u8 24), .lit (.int .u8 3), .lit (.int .u8 30), .lit (.int .u8 22), .lit (.int .u8 20), .lit (.int .u8 15), .lit (.int .u8 25), .lit (.int .u8 17), .lit (.int .u8 4), .lit (.int .u8 8), .lit (.int .u8 31), .lit (.int .u8 27), .lit (.int .u8 13), .lit (.int .u8 23), .lit (.int .u8 21), .lit (.int .u8 19), .lit (.int .u8 16), .lit (.int .u8 7), .lit (.int .u8 26), .lit (.int .u8 12), .lit (.int .u8 18), .lit (.int .u8 6), .lit (.int .u8 11), .lit (.int .u8 5), .lit (.int .u8 10), .lit (.int .u8 9)]
def laid_math_bits_deBruijn64tab {H : Type} : DataW H := .agg [.lit (.int .u8 0), .lit (.int .u8 1), .lit (.int .u8 56), .lit (.int .u8 2), .lit (.int .u8 57), .lit (.int .u8 49), .lit (.int .u8 28), .lit (.int .u8 3), .lit (.int .u8 61), .lit (.int .u8 58), .lit (.int .u8 42), .lit (.int .u8 50), .lit (.int .u8 38), .lit (.int .u8 29), .lit (.int .u8 17), .lit (.int .u8 4), .lit (.int .u8 62), .lit (.int .u8 47), .lit (.int .u8 59), .lit (.int .u8 36), .lit (.int .u8 45), .lit (.int .u8 43), .lit (.int .u8 51), .lit (.int .u8 22), .lit (.int .u8 53), .lit (.int .u8 39), .lit (.int .u8 33), .lit (.int .u8 30), .lit (.int .u8 24), .lit (.int .u8 18), .lit (.int .u8 12), .lit (.int .u8 5), .lit (.int .u8 63), .lit (.int .u8 55), .lit (.int .u8 48), .lit (.int .u8 27), .lit (.int .u8 60), .lit (.int .u8 41), .lit (.int .u8 37), .lit (.int .u8 16), .lit (.int .u8 46), .lit (.int .u8 35), .lit (.int .u8 44), .lit (.int .u8 21), .lit (.int .u8 52), .lit (.int .u8 32), .lit (.int .u8 23), .lit (.int .u8 11), .lit (.int .u8 54), .lit (.int .u8 26), .lit (.int .u8 40), .lit (.int .u8 15), .lit (.int .u8 34), .lit (.int .u8 20), .lit (.int .u8 31), .lit (.int .u8 10), .lit (.int .u8 25), .lit (.int .u8 14), .lit (.int .u8 19), .lit (.int .u8 9), .lit (.int .u8 13), .lit (.int .u8 8), .lit (.int .u8 7), .lit (.int .u8 6)]
def laid_internal_strconv_uint64pow10 {H : Type} : DataW H := .agg [.lit (.int .u64 1), .lit (.int .u64 10), .lit (.int .u64 100), .lit (.int .u64 1000), .lit (.int .u64 10000), .lit (.int .u64 100000), .lit (.int .u64 1000000), .lit (.int .u64 10000000), .lit (.int .u64 100000000), .lit (.int .u64 1000000000), .lit (.int .u64 10000000000), .lit (.int .u64 100000000000), .lit (.int .u64 1000000000000), .lit (.int .u64 10000000000000), .lit (.int .u64 100000000000000), .lit (.int .u64 1000000000000000), .lit (.int .u64 10000000000000000), .lit (.int .u64 100000000000000000), .lit (.int .u64 1000000000000000000), .lit (.int .u64 10000000000000000000)]
def laid_strconv_ErrRange {H : Type} : DataW H := .iface "*errors.errorString" (.ptr (.agg [.lit (.string [118, 97, 108, 117, 101, 32, 111, 117, 116, 32, 111, 102, 32, 114, 97, 110, 103, 101])]))
def laid_strconv_ErrSyntax {H : Type} : DataW H := .iface "*errors.errorString" (.ptr (.agg [.lit (.string [105, 110, 118, 97, 108, 105, 100, 32, 115, 121, 110, 116, 97, 120])]))

/-- 'bailifflaw23.GuardOnly': WHATEVER THE INPUT: true; the input reads as it did. -/
def guardOnlySpec : ChangeSpec := { name := "guardOnly", fn := fun _ => fun
  | [d1, d2] => { results := [.lit (.bool true)], args := [d1, d2] }
  | _ => none }
def guardOnlyRow : OpenClaim := { program := "ytnlbeamjpefpfaagreatdoor", sum := "92dd650a544dcc60bad52c64e8f8c66d3e38cf62afddc5ced82ac130f556f051", func := "bailiff/bailifflaw23.GuardOnly", spec := "guardOnly", inPlace := ["internal/bytealg.IndexByteString", "slices.overlaps[bailiff/api.Case]", "slices.overlaps[bailiff/api.Field]"], unfollowed := true, recurses := true, named := ["strconv.ErrSyntax", "strconv.ErrRange", "internal/strconv.uint64pow10", "math/bits.deBruijn32tab", "math/bits.deBruijn64tab"], apart := false, laid := [("math/bits.deBruijn32tab", laid_math_bits_deBruijn32tab), ("math/bits.deBruijn64tab", laid_math_bits_deBruijn64tab), ("internal/strconv.uint64pow10", laid_internal_strconv_uint64pow10), ("strconv.ErrRange", laid_strconv_ErrRange), ("strconv.ErrSyntax", laid_strconv_ErrSyntax)] }
def GuardOnlySaid : Prop := guardOnlyRow.holds Tryz.pinned (OpenSpec.ofChange guardOnlySpec)

/-- ITS FALSE NEIGHBOUR: 'it returns false'. Refute it at one input. -/
def guardOnlyWrong : ChangeSpec := { name := "guardOnly", fn := fun _ => fun
  | [d1, d2] => { results := [.lit (.bool false)], args := [d1, d2] }
  | _ => none }
def GuardOnlyWrongFalsely : Prop := guardOnlyRow.holds Tryz.pinned (OpenSpec.ofChange guardOnlyWrong)

/-- 'bailifflaw23.GuardReviews': WHATEVER THE INPUT: true; the input reads as it did. -/
def guardReviewsSpec : ChangeSpec := { name := "guardReviews", fn := fun _ => fun
  | [d] => { results := [.lit (.bool true)], args := [d] }
  | _ => none }
def guardReviewsRow : OpenClaim := { program := "ytnlbeamjpefpfaagreatdoor", sum := "92dd650a544dcc60bad52c64e8f8c66d3e38cf62afddc5ced82ac130f556f051", func := "bailiff/bailifflaw23.GuardReviews", spec := "guardReviews", inPlace := ["internal/bytealg.IndexByteString", "slices.overlaps[bailiff/api.Case]", "slices.overlaps[bailiff/api.Field]"], unfollowed := true, recurses := true, named := ["strconv.ErrSyntax", "strconv.ErrRange", "internal/strconv.uint64pow10", "math/bits.deBruijn32tab", "math/bits.deBruijn64tab"], apart := false, laid := [("math/bits.deBruijn32tab", laid_math_bits_deBruijn32tab), ("math/bits.deBruijn64tab", laid_math_bits_deBruijn64tab), ("internal/strconv.uint64pow10", laid_internal_strconv_uint64pow10), ("strconv.ErrRange", laid_strconv_ErrRange), ("strconv.ErrSyntax", laid_strconv_ErrSyntax)] }
def GuardReviewsSaid : Prop := guardReviewsRow.holds Tryz.pinned (OpenSpec.ofChange guardReviewsSpec)

/-- ITS FALSE NEIGHBOUR: 'it returns false'. Refute it at one input. -/
def guardReviewsWrong : ChangeSpec := { name := "guardReviews", fn := fun _ => fun
  | [d] => { results := [.lit (.bool false)], args := [d] }
  | _ => none }
def GuardReviewsWrongFalsely : Prop := guardReviewsRow.holds Tryz.pinned (OpenSpec.ofChange guardReviewsWrong)

/-- 'bailifflaw23.GuardHides': WHATEVER THE INPUT: true; the input reads as it did. -/
def guardHidesSpec : ChangeSpec := { name := "guardHides", fn := fun _ => fun
  | [d1, d2, d3] => { results := [.lit (.bool true)], args := [d1, d2, d3] }
  | _ => none }
def guardHidesRow : OpenClaim := { program := "ytnlbeamjpefpfaagreatdoor", sum := "92dd650a544dcc60bad52c64e8f8c66d3e38cf62afddc5ced82ac130f556f051", func := "bailiff/bailifflaw23.GuardHides", spec := "guardHides", inPlace := ["internal/bytealg.IndexByteString", "slices.overlaps[bailiff/api.Case]", "slices.overlaps[bailiff/api.Field]"], unfollowed := true, recurses := true, named := ["strconv.ErrSyntax", "strconv.ErrRange", "internal/strconv.uint64pow10", "math/bits.deBruijn32tab", "math/bits.deBruijn64tab"], apart := false, laid := [("math/bits.deBruijn32tab", laid_math_bits_deBruijn32tab), ("math/bits.deBruijn64tab", laid_math_bits_deBruijn64tab), ("internal/strconv.uint64pow10", laid_internal_strconv_uint64pow10), ("strconv.ErrRange", laid_strconv_ErrRange), ("strconv.ErrSyntax", laid_strconv_ErrSyntax)] }
def GuardHidesSaid : Prop := guardHidesRow.holds Tryz.pinned (OpenSpec.ofChange guardHidesSpec)

/-- ITS FALSE NEIGHBOUR: 'it returns false'. Refute it at one input. -/
def guardHidesWrong : ChangeSpec := { name := "guardHides", fn := fun _ => fun
  | [d1, d2, d3] => { results := [.lit (.bool false)], args := [d1, d2, d3] }
  | _ => none }
def GuardHidesWrongFalsely : Prop := guardHidesRow.holds Tryz.pinned (OpenSpec.ofChange guardHidesWrong)

/-- 'bailifflaw23.GuardDuties': WHATEVER THE INPUT: true; the input reads as it did. -/
def guardDutiesSpec : ChangeSpec := { name := "guardDuties", fn := fun _ => fun
  | [d1, d2, d3, d4] => { results := [.lit (.bool true)], args := [d1, d2, d3, d4] }
  | _ => none }
def guardDutiesRow : OpenClaim := { program := "ytnlbeamjpefpfaagreatdoor", sum := "92dd650a544dcc60bad52c64e8f8c66d3e38cf62afddc5ced82ac130f556f051", func := "bailiff/bailifflaw23.GuardDuties", spec := "guardDuties", inPlace := ["internal/bytealg.IndexByteString", "slices.overlaps[bailiff/api.Case]", "slices.overlaps[bailiff/api.Field]"], unfollowed := true, recurses := true, named := ["strconv.ErrSyntax", "strconv.ErrRange", "internal/strconv.uint64pow10", "math/bits.deBruijn32tab", "math/bits.deBruijn64tab"], apart := false, laid := [("math/bits.deBruijn32tab", laid_math_bits_deBruijn32tab), ("math/bits.deBruijn64tab", laid_math_bits_deBruijn64tab), ("internal/strconv.uint64pow10", laid_internal_strconv_uint64pow10), ("strconv.ErrRange", laid_strconv_ErrRange), ("strconv.ErrSyntax", laid_strconv_ErrSyntax)] }
def GuardDutiesSaid : Prop := guardDutiesRow.holds Tryz.pinned (OpenSpec.ofChange guardDutiesSpec)

/-- ITS FALSE NEIGHBOUR: 'it returns false'. Refute it at one input. -/
def guardDutiesWrong : ChangeSpec := { name := "guardDuties", fn := fun _ => fun
  | [d1, d2, d3, d4] => { results := [.lit (.bool false)], args := [d1, d2, d3, d4] }
  | _ => none }
def GuardDutiesWrongFalsely : Prop := guardDutiesRow.holds Tryz.pinned (OpenSpec.ofChange guardDutiesWrong)

/-- 'bailifflaw23.GuardRoom': WHATEVER THE INPUT: true; the input reads as it did. -/
def guardRoomSpec : ChangeSpec := { name := "guardRoom", fn := fun _ => fun
  | [d] => { results := [.lit (.bool true)], args := [d] }
  | _ => none }
def guardRoomRow : OpenClaim := { program := "ytnlbeamjpefpfaagreatdoor", sum := "92dd650a544dcc60bad52c64e8f8c66d3e38cf62afddc5ced82ac130f556f051", func := "bailiff/bailifflaw23.GuardRoom", spec := "guardRoom", inPlace := ["internal/bytealg.IndexByteString", "slices.overlaps[bailiff/api.Case]", "slices.overlaps[bailiff/api.Field]"], unfollowed := true, recurses := true, named := ["strconv.ErrSyntax", "strconv.ErrRange", "internal/strconv.uint64pow10", "math/bits.deBruijn32tab", "math/bits.deBruijn64tab"], apart := false, laid := [("math/bits.deBruijn32tab", laid_math_bits_deBruijn32tab), ("math/bits.deBruijn64tab", laid_math_bits_deBruijn64tab), ("internal/strconv.uint64pow10", laid_internal_strconv_uint64pow10), ("strconv.ErrRange", laid_strconv_ErrRange), ("strconv.ErrSyntax", laid_strconv_ErrSyntax)] }
def GuardRoomSaid : Prop := guardRoomRow.holds Tryz.pinned (OpenSpec.ofChange guardRoomSpec)

/-- ITS FALSE NEIGHBOUR: 'it returns false'. Refute it at one input. -/
def guardRoomWrong : ChangeSpec := { name := "guardRoom", fn := fun _ => fun
  | [d] => { results := [.lit (.bool false)], args := [d] }
  | _ => none }
def GuardRoomWrongFalsely : Prop := guardRoomRow.holds Tryz.pinned (OpenSpec.ofChange guardRoomWrong)

/-- 'bailifflaw23.GuardPolicy': WHATEVER THE INPUT: true; the input reads as it did. -/
def guardPolicySpec : ChangeSpec := { name := "guardPolicy", fn := fun _ => fun
  | [d1, d2] => { results := [.lit (.bool true)], args := [d1, d2] }
  | _ => none }
def guardPolicyRow : OpenClaim := { program := "ytnlbeamjpefpfaagreatdoor", sum := "92dd650a544dcc60bad52c64e8f8c66d3e38cf62afddc5ced82ac130f556f051", func := "bailiff/bailifflaw23.GuardPolicy", spec := "guardPolicy", inPlace := ["internal/bytealg.IndexByteString", "slices.overlaps[bailiff/api.Case]", "slices.overlaps[bailiff/api.Field]"], unfollowed := true, recurses := true, named := ["strconv.ErrSyntax", "strconv.ErrRange", "internal/strconv.uint64pow10", "math/bits.deBruijn32tab", "math/bits.deBruijn64tab"], apart := false, laid := [("math/bits.deBruijn32tab", laid_math_bits_deBruijn32tab), ("math/bits.deBruijn64tab", laid_math_bits_deBruijn64tab), ("internal/strconv.uint64pow10", laid_internal_strconv_uint64pow10), ("strconv.ErrRange", laid_strconv_ErrRange), ("strconv.ErrSyntax", laid_strconv_ErrSyntax)] }
def GuardPolicySaid : Prop := guardPolicyRow.holds Tryz.pinned (OpenSpec.ofChange guardPolicySpec)

/-- ITS FALSE NEIGHBOUR: 'it returns false'. Refute it at one input. -/
def guardPolicyWrong : ChangeSpec := { name := "guardPolicy", fn := fun _ => fun
  | [d1, d2] => { results := [.lit (.bool false)], args := [d1, d2] }
  | _ => none }
def GuardPolicyWrongFalsely : Prop := guardPolicyRow.holds Tryz.pinned (OpenSpec.ofChange guardPolicyWrong)

/-- 'bailifflaw23.GuardAgain': WHATEVER THE INPUT: true; the input reads as it did. -/
def guardAgainSpec : ChangeSpec := { name := "guardAgain", fn := fun _ => fun
  | [d1, d2, d3] => { results := [.lit (.bool true)], args := [d1, d2, d3] }
  | _ => none }
def guardAgainRow : OpenClaim := { program := "ytnlbeamjpefpfaagreatdoor", sum := "92dd650a544dcc60bad52c64e8f8c66d3e38cf62afddc5ced82ac130f556f051", func := "bailiff/bailifflaw23.GuardAgain", spec := "guardAgain", inPlace := ["internal/bytealg.IndexByteString", "slices.overlaps[bailiff/api.Case]", "slices.overlaps[bailiff/api.Field]"], unfollowed := true, recurses := true, named := ["strconv.ErrSyntax", "strconv.ErrRange", "internal/strconv.uint64pow10", "math/bits.deBruijn32tab", "math/bits.deBruijn64tab"], apart := false, laid := [("math/bits.deBruijn32tab", laid_math_bits_deBruijn32tab), ("math/bits.deBruijn64tab", laid_math_bits_deBruijn64tab), ("internal/strconv.uint64pow10", laid_internal_strconv_uint64pow10), ("strconv.ErrRange", laid_strconv_ErrRange), ("strconv.ErrSyntax", laid_strconv_ErrSyntax)] }
def GuardAgainSaid : Prop := guardAgainRow.holds Tryz.pinned (OpenSpec.ofChange guardAgainSpec)

/-- ITS FALSE NEIGHBOUR: 'it returns false'. Refute it at one input. -/
def guardAgainWrong : ChangeSpec := { name := "guardAgain", fn := fun _ => fun
  | [d1, d2, d3] => { results := [.lit (.bool false)], args := [d1, d2, d3] }
  | _ => none }
def GuardAgainWrongFalsely : Prop := guardAgainRow.holds Tryz.pinned (OpenSpec.ofChange guardAgainWrong)

/-- 'bailifflaw23.GuardOverdue': WHATEVER THE INPUT: true; the input reads as it did. -/
def guardOverdueSpec : ChangeSpec := { name := "guardOverdue", fn := fun _ => fun
  | [d1, d2] => { results := [.lit (.bool true)], args := [d1, d2] }
  | _ => none }
def guardOverdueRow : OpenClaim := { program := "ytnlbeamjpefpfaagreatdoor", sum := "92dd650a544dcc60bad52c64e8f8c66d3e38cf62afddc5ced82ac130f556f051", func := "bailiff/bailifflaw23.GuardOverdue", spec := "guardOverdue", inPlace := ["internal/bytealg.IndexByteString", "slices.overlaps[bailiff/api.Case]", "slices.overlaps[bailiff/api.Field]"], unfollowed := true, recurses := true, named := ["strconv.ErrSyntax", "strconv.ErrRange", "internal/strconv.uint64pow10", "math/bits.deBruijn32tab", "math/bits.deBruijn64tab"], apart := false, laid := [("math/bits.deBruijn32tab", laid_math_bits_deBruijn32tab), ("math/bits.deBruijn64tab", laid_math_bits_deBruijn64tab), ("internal/strconv.uint64pow10", laid_internal_strconv_uint64pow10), ("strconv.ErrRange", laid_strconv_ErrRange), ("strconv.ErrSyntax", laid_strconv_ErrSyntax)] }
def GuardOverdueSaid : Prop := guardOverdueRow.holds Tryz.pinned (OpenSpec.ofChange guardOverdueSpec)

/-- ITS FALSE NEIGHBOUR: 'it returns false'. Refute it at one input. -/
def guardOverdueWrong : ChangeSpec := { name := "guardOverdue", fn := fun _ => fun
  | [d1, d2] => { results := [.lit (.bool false)], args := [d1, d2] }
  | _ => none }
def GuardOverdueWrongFalsely : Prop := guardOverdueRow.holds Tryz.pinned (OpenSpec.ofChange guardOverdueWrong)

/- THE SECOND FORM. 'bulk': how many values and letters a reading holds, each counted each time it is reached (what is shared counts as often as it is met; a slice's spare places count too). A statement '..UptoSaid' is the law's where the arguments, and the package variables that the reading takes, are together of bulk at most 1048576: NARROWER than '..Said'. Prove '..Said' where nothing that the law and all that it calls make is longer than what came in: it says more and counts as full. Else prove '..UptoSaid'. A law counts once. -/
mutual
def uptoBulk {H : Type} : DataW H → Nat
  | .lit (.string bytes) => bytes.length + 1
  | .lit _ => 1
  | .nil => 1
  | .ptr d => uptoBulk d + 1
  | .slice elems spare => uptoBulkAll elems + uptoBulkAll spare + 1
  | .agg parts => uptoBulkAll parts + 1
  | .iface _ d => uptoBulk d + 1
  | .map entries => uptoBulkEntries entries + 1
  | .held _ => 1
def uptoBulkAll {H : Type} : List (DataW H) → Nat
  | [] => 0
  | d :: r => uptoBulk d + uptoBulkAll r
def uptoBulkEntries {H : Type} : List (Lit × DataW H) → Nat
  | [] => 0
  | x :: r => uptoBulkEntry x + uptoBulkEntries r
def uptoBulkEntry {H : Type} : Lit × DataW H → Nat
  | (.string bytes, d) => bytes.length + uptoBulk d + 1
  | (_, d) => uptoBulk d + 1
 end
def uptoSmall : (H : Type) → List (DataW H) → Bool := fun _ ds => decide (uptoBulkAll ds ≤ 1048576)
def OpenSpec.upto (s : _root_.Go.ChangeSpec) : _root_.Go.OpenSpec := { _root_.Go.OpenSpec.ofChange s with cond := some uptoSmall }

/-- 'bailifflaw23.GuardOnly', WHERE WHAT IT READS IS OF BULK AT MOST 1048576: true; the input reads as it did. -/
def guardOnlyUptoRow : OpenClaim := { program := "ytnlbeamjpefpfaagreatdoor", sum := "92dd650a544dcc60bad52c64e8f8c66d3e38cf62afddc5ced82ac130f556f051", func := "bailiff/bailifflaw23.GuardOnly", spec := "guardOnly", inPlace := ["internal/bytealg.IndexByteString", "slices.overlaps[bailiff/api.Case]", "slices.overlaps[bailiff/api.Field]"], unfollowed := true, recurses := true, named := ["strconv.ErrSyntax", "strconv.ErrRange", "internal/strconv.uint64pow10", "math/bits.deBruijn32tab", "math/bits.deBruijn64tab"], apart := false, laid := [("math/bits.deBruijn32tab", laid_math_bits_deBruijn32tab), ("math/bits.deBruijn64tab", laid_math_bits_deBruijn64tab), ("internal/strconv.uint64pow10", laid_internal_strconv_uint64pow10), ("strconv.ErrRange", laid_strconv_ErrRange), ("strconv.ErrSyntax", laid_strconv_ErrSyntax)], narrowed := true }
def GuardOnlyUptoSaid : Prop := guardOnlyUptoRow.holds Tryz.pinned (OpenSpec.upto guardOnlySpec)

/-- 'bailifflaw23.GuardReviews', WHERE WHAT IT READS IS OF BULK AT MOST 1048576: true; the input reads as it did. -/
def guardReviewsUptoRow : OpenClaim := { program := "ytnlbeamjpefpfaagreatdoor", sum := "92dd650a544dcc60bad52c64e8f8c66d3e38cf62afddc5ced82ac130f556f051", func := "bailiff/bailifflaw23.GuardReviews", spec := "guardReviews", inPlace := ["internal/bytealg.IndexByteString", "slices.overlaps[bailiff/api.Case]", "slices.overlaps[bailiff/api.Field]"], unfollowed := true, recurses := true, named := ["strconv.ErrSyntax", "strconv.ErrRange", "internal/strconv.uint64pow10", "math/bits.deBruijn32tab", "math/bits.deBruijn64tab"], apart := false, laid := [("math/bits.deBruijn32tab", laid_math_bits_deBruijn32tab), ("math/bits.deBruijn64tab", laid_math_bits_deBruijn64tab), ("internal/strconv.uint64pow10", laid_internal_strconv_uint64pow10), ("strconv.ErrRange", laid_strconv_ErrRange), ("strconv.ErrSyntax", laid_strconv_ErrSyntax)], narrowed := true }
def GuardReviewsUptoSaid : Prop := guardReviewsUptoRow.holds Tryz.pinned (OpenSpec.upto guardReviewsSpec)

/-- 'bailifflaw23.GuardHides', WHERE WHAT IT READS IS OF BULK AT MOST 1048576: true; the input reads as it did. -/
def guardHidesUptoRow : OpenClaim := { program := "ytnlbeamjpefpfaagreatdoor", sum := "92dd650a544dcc60bad52c64e8f8c66d3e38cf62afddc5ced82ac130f556f051", func := "bailiff/bailifflaw23.GuardHides", spec := "guardHides", inPlace := ["internal/bytealg.IndexByteString", "slices.overlaps[bailiff/api.Case]", "slices.overlaps[bailiff/api.Field]"], unfollowed := true, recurses := true, named := ["strconv.ErrSyntax", "strconv.ErrRange", "internal/strconv.uint64pow10", "math/bits.deBruijn32tab", "math/bits.deBruijn64tab"], apart := false, laid := [("math/bits.deBruijn32tab", laid_math_bits_deBruijn32tab), ("math/bits.deBruijn64tab", laid_math_bits_deBruijn64tab), ("internal/strconv.uint64pow10", laid_internal_strconv_uint64pow10), ("strconv.ErrRange", laid_strconv_ErrRange), ("strconv.ErrSyntax", laid_strconv_ErrSyntax)], narrowed := true }
def GuardHidesUptoSaid : Prop := guardHidesUptoRow.holds Tryz.pinned (OpenSpec.upto guardHidesSpec)

/-- 'bailifflaw23.GuardDuties', WHERE WHAT IT READS IS OF BULK AT MOST 1048576: true; the input reads as it did. -/
def guardDutiesUptoRow : OpenClaim := { program := "ytnlbeamjpefpfaagreatdoor", sum := "92dd650a544dcc60bad52c64e8f8c66d3e38cf62afddc5ced82ac130f556f051", func := "bailiff/bailifflaw23.GuardDuties", spec := "guardDuties", inPlace := ["internal/bytealg.IndexByteString", "slices.overlaps[bailiff/api.Case]", "slices.overlaps[bailiff/api.Field]"], unfollowed := true, recurses := true, named := ["strconv.ErrSyntax", "strconv.ErrRange", "internal/strconv.uint64pow10", "math/bits.deBruijn32tab", "math/bits.deBruijn64tab"], apart := false, laid := [("math/bits.deBruijn32tab", laid_math_bits_deBruijn32tab), ("math/bits.deBruijn64tab", laid_math_bits_deBruijn64tab), ("internal/strconv.uint64pow10", laid_internal_strconv_uint64pow10), ("strconv.ErrRange", laid_strconv_ErrRange), ("strconv.ErrSyntax", laid_strconv_ErrSyntax)], narrowed := true }
def GuardDutiesUptoSaid : Prop := guardDutiesUptoRow.holds Tryz.pinned (OpenSpec.upto guardDutiesSpec)

/-- 'bailifflaw23.GuardRoom', WHERE WHAT IT READS IS OF BULK AT MOST 1048576: true; the input reads as it did. -/
def guardRoomUptoRow : OpenClaim := { program := "ytnlbeamjpefpfaagreatdoor", sum := "92dd650a544dcc60bad52c64e8f8c66d3e38cf62afddc5ced82ac130f556f051", func := "bailiff/bailifflaw23.GuardRoom", spec := "guardRoom", inPlace := ["internal/bytealg.IndexByteString", "slices.overlaps[bailiff/api.Case]", "slices.overlaps[bailiff/api.Field]"], unfollowed := true, recurses := true, named := ["strconv.ErrSyntax", "strconv.ErrRange", "internal/strconv.uint64pow10", "math/bits.deBruijn32tab", "math/bits.deBruijn64tab"], apart := false, laid := [("math/bits.deBruijn32tab", laid_math_bits_deBruijn32tab), ("math/bits.deBruijn64tab", laid_math_bits_deBruijn64tab), ("internal/strconv.uint64pow10", laid_internal_strconv_uint64pow10), ("strconv.ErrRange", laid_strconv_ErrRange), ("strconv.ErrSyntax", laid_strconv_ErrSyntax)], narrowed := true }
def GuardRoomUptoSaid : Prop := guardRoomUptoRow.holds Tryz.pinned (OpenSpec.upto guardRoomSpec)

/-- 'bailifflaw23.GuardPolicy', WHERE WHAT IT READS IS OF BULK AT MOST 1048576: true; the input reads as it did. -/
def guardPolicyUptoRow : OpenClaim := { program := "ytnlbeamjpefpfaagreatdoor", sum := "92dd650a544dcc60bad52c64e8f8c66d3e38cf62afddc5ced82ac130f556f051", func := "bailiff/bailifflaw23.GuardPolicy", spec := "guardPolicy", inPlace := ["internal/bytealg.IndexByteString", "slices.overlaps[bailiff/api.Case]", "slices.overlaps[bailiff/api.Field]"], unfollowed := true, recurses := true, named := ["strconv.ErrSyntax", "strconv.ErrRange", "internal/strconv.uint64pow10", "math/bits.deBruijn32tab", "math/bits.deBruijn64tab"], apart := false, laid := [("math/bits.deBruijn32tab", laid_math_bits_deBruijn32tab), ("math/bits.deBruijn64tab", laid_math_bits_deBruijn64tab), ("internal/strconv.uint64pow10", laid_internal_strconv_uint64pow10), ("strconv.ErrRange", laid_strconv_ErrRange), ("strconv.ErrSyntax", laid_strconv_ErrSyntax)], narrowed := true }
def GuardPolicyUptoSaid : Prop := guardPolicyUptoRow.holds Tryz.pinned (OpenSpec.upto guardPolicySpec)

/-- 'bailifflaw23.GuardAgain', WHERE WHAT IT READS IS OF BULK AT MOST 1048576: true; the input reads as it did. -/
def guardAgainUptoRow : OpenClaim := { program := "ytnlbeamjpefpfaagreatdoor", sum := "92dd650a544dcc60bad52c64e8f8c66d3e38cf62afddc5ced82ac130f556f051", func := "bailiff/bailifflaw23.GuardAgain", spec := "guardAgain", inPlace := ["internal/bytealg.IndexByteString", "slices.overlaps[bailiff/api.Case]", "slices.overlaps[bailiff/api.Field]"], unfollowed := true, recurses := true, named := ["strconv.ErrSyntax", "strconv.ErrRange", "internal/strconv.uint64pow10", "math/bits.deBruijn32tab", "math/bits.deBruijn64tab"], apart := false, laid := [("math/bits.deBruijn32tab", laid_math_bits_deBruijn32tab), ("math/bits.deBruijn64tab", laid_math_bits_deBruijn64tab), ("internal/strconv.uint64pow10", laid_internal_strconv_uint64pow10), ("strconv.ErrRange", laid_strconv_ErrRange), ("strconv.ErrSyntax", laid_strconv_ErrSyntax)], narrowed := true }
def GuardAgainUptoSaid : Prop := guardAgainUptoRow.holds Tryz.pinned (OpenSpec.upto guardAgainSpec)

/-- 'bailifflaw23.GuardOverdue', WHERE WHAT IT READS IS OF BULK AT MOST 1048576: true; the input reads as it did. -/
def guardOverdueUptoRow : OpenClaim := { program := "ytnlbeamjpefpfaagreatdoor", sum := "92dd650a544dcc60bad52c64e8f8c66d3e38cf62afddc5ced82ac130f556f051", func := "bailiff/bailifflaw23.GuardOverdue", spec := "guardOverdue", inPlace := ["internal/bytealg.IndexByteString", "slices.overlaps[bailiff/api.Case]", "slices.overlaps[bailiff/api.Field]"], unfollowed := true, recurses := true, named := ["strconv.ErrSyntax", "strconv.ErrRange", "internal/strconv.uint64pow10", "math/bits.deBruijn32tab", "math/bits.deBruijn64tab"], apart := false, laid := [("math/bits.deBruijn32tab", laid_math_bits_deBruijn32tab), ("math/bits.deBruijn64tab", laid_math_bits_deBruijn64tab), ("internal/strconv.uint64pow10", laid_internal_strconv_uint64pow10), ("strconv.ErrRange", laid_strconv_ErrRange), ("strconv.ErrSyntax", laid_strconv_ErrSyntax)], narrowed := true }
def GuardOverdueUptoSaid : Prop := guardOverdueUptoRow.holds Tryz.pinned (OpenSpec.upto guardOverdueSpec)

end Rows
end Go.Proofs.YtnlbeamjpefpfaaGreatDoor
