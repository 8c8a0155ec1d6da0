/-
  No cell of these rows narrows 'for every input' (looked for: loops, veiled, ifaces, maps, wideKeys, modest, calm, conditions, laid).
  DERIVED. THE GIVEN ROWS OF THIS SEAT. 12 by the template 'for every input the law returns true; each argument reads behind the call as it read before'; 0 by the template 'total and deterministic' (their statements: YtidpcjblciompaaTotals.lean).
  GIVEN WITH THE SEED: the statements are not yours to turn. If you find one false, say at which input.
  Laid BY PROGRAM, IN A SANDBOX (cutbox-rows.mjs): the forced cells as the released guide's own fill.sh prints them over the translation 3bc9148036e0a8e3… (all of the seat's roots in one cut). By AI agents, Wed Nov 11 2026. No macro, syntax, notation, axiom, sorry.
-/
import Derived.Test.YtidpcjblciompaaChecked
import GoSem.Claim
import GoSem.ClaimJoined
import GoSem.ClaimMapViews
import Derived.JoinedTies
import Derived.KernelRfl
namespace Go.Proofs.Ytidpcjblciompaa
/- THE CELL 'sum', in the pinned program and in every row, IS THE sha256 OF THE DUMP (.gsa) THAT YtidpcjblciompaaProg.lean LOADS. Nothing in Lean hashes anything: it is a label: what it is worth is what the hold of that sum in a sandbox is worth. -/
noncomputable def Try.pinned : Pinned := { name := "ytidpcjblciompaa", sum := "3bc9148036e0a8e3986bb3f9c7a038bef0026ee2dfc3e9b081f0cfb14a66be33", checked := Try.checked }
namespace Rows
def none {H : Type} : Left H := { results := [], args := [] }

/-- 'bailifflaw19.DiskRuns': WHATEVER THE INPUT: true; the input reads as it did. -/
def diskRunsSpec : ChangeSpec := { name := "diskRuns", fn := fun _ => fun
  | [] => { results := [.lit (.bool true)], args := [] }
  | _ => none }
def diskRunsRow : OpenClaim := { program := "ytidpcjblciompaa", sum := "3bc9148036e0a8e3986bb3f9c7a038bef0026ee2dfc3e9b081f0cfb14a66be33", func := "bailiff/bailifflaw19.DiskRuns", spec := "diskRuns", apart := false }
def DiskRunsSaid : Prop := diskRunsRow.holds Try.pinned (OpenSpec.ofChange diskRunsSpec)

/-- ITS FALSE NEIGHBOUR: 'it returns false'. Refute it at one input. -/
def diskRunsWrong : ChangeSpec := { name := "diskRuns", fn := fun _ => fun
  | [] => { results := [.lit (.bool false)], args := [] }
  | _ => none }
def DiskRunsWrongFalsely : Prop := diskRunsRow.holds Try.pinned (OpenSpec.ofChange diskRunsWrong)

/-- 'bailifflaw19.DiskKeeps': WHATEVER THE INPUT: true; the input reads as it did. -/
def diskKeepsSpec : ChangeSpec := { name := "diskKeeps", fn := fun _ => fun
  | [d1, d2, d3, d4, d5] => { results := [.lit (.bool true)], args := [d1, d2, d3, d4, d5] }
  | _ => none }
def diskKeepsRow : OpenClaim := { program := "ytidpcjblciompaa", sum := "3bc9148036e0a8e3986bb3f9c7a038bef0026ee2dfc3e9b081f0cfb14a66be33", func := "bailiff/bailifflaw19.DiskKeeps", spec := "diskKeeps", apart := false }
def DiskKeepsSaid : Prop := diskKeepsRow.holds Try.pinned (OpenSpec.ofChange diskKeepsSpec)

/-- ITS FALSE NEIGHBOUR: 'it returns false'. Refute it at one input. -/
def diskKeepsWrong : ChangeSpec := { name := "diskKeeps", fn := fun _ => fun
  | [d1, d2, d3, d4, d5] => { results := [.lit (.bool false)], args := [d1, d2, d3, d4, d5] }
  | _ => none }
def DiskKeepsWrongFalsely : Prop := diskKeepsRow.holds Try.pinned (OpenSpec.ofChange diskKeepsWrong)

/-- 'bailifflaw19.DiskTwice': WHATEVER THE INPUT: true; the input reads as it did. -/
def diskTwiceSpec : ChangeSpec := { name := "diskTwice", fn := fun _ => fun
  | [d1, d2, d3, d4, d5] => { results := [.lit (.bool true)], args := [d1, d2, d3, d4, d5] }
  | _ => none }
def diskTwiceRow : OpenClaim := { program := "ytidpcjblciompaa", sum := "3bc9148036e0a8e3986bb3f9c7a038bef0026ee2dfc3e9b081f0cfb14a66be33", func := "bailiff/bailifflaw19.DiskTwice", spec := "diskTwice", apart := false }
def DiskTwiceSaid : Prop := diskTwiceRow.holds Try.pinned (OpenSpec.ofChange diskTwiceSpec)

/-- ITS FALSE NEIGHBOUR: 'it returns false'. Refute it at one input. -/
def diskTwiceWrong : ChangeSpec := { name := "diskTwice", fn := fun _ => fun
  | [d1, d2, d3, d4, d5] => { results := [.lit (.bool false)], args := [d1, d2, d3, d4, d5] }
  | _ => none }
def DiskTwiceWrongFalsely : Prop := diskTwiceRow.holds Try.pinned (OpenSpec.ofChange diskTwiceWrong)

/-- 'bailifflaw20.JournalRuns': WHATEVER THE INPUT: true; the input reads as it did. -/
def journalRunsSpec : ChangeSpec := { name := "journalRuns", fn := fun _ => fun
  | [] => { results := [.lit (.bool true)], args := [] }
  | _ => none }
def journalRunsRow : OpenClaim := { program := "ytidpcjblciompaa", sum := "3bc9148036e0a8e3986bb3f9c7a038bef0026ee2dfc3e9b081f0cfb14a66be33", func := "bailiff/bailifflaw20.JournalRuns", spec := "journalRuns", apart := false }
def JournalRunsSaid : Prop := journalRunsRow.holds Try.pinned (OpenSpec.ofChange journalRunsSpec)

/-- ITS FALSE NEIGHBOUR: 'it returns false'. Refute it at one input. -/
def journalRunsWrong : ChangeSpec := { name := "journalRuns", fn := fun _ => fun
  | [] => { results := [.lit (.bool false)], args := [] }
  | _ => none }
def JournalRunsWrongFalsely : Prop := journalRunsRow.holds Try.pinned (OpenSpec.ofChange journalRunsWrong)

/-- 'bailifflaw20.JournalScans': WHATEVER THE INPUT: true; the input reads as it did. -/
def journalScansSpec : ChangeSpec := { name := "journalScans", fn := fun _ => fun
  | [d1, d2, d3, d4] => { results := [.lit (.bool true)], args := [d1, d2, d3, d4] }
  | _ => none }
def journalScansRow : OpenClaim := { program := "ytidpcjblciompaa", sum := "3bc9148036e0a8e3986bb3f9c7a038bef0026ee2dfc3e9b081f0cfb14a66be33", func := "bailiff/bailifflaw20.JournalScans", spec := "journalScans", apart := false }
def JournalScansSaid : Prop := journalScansRow.holds Try.pinned (OpenSpec.ofChange journalScansSpec)

/-- ITS FALSE NEIGHBOUR: 'it returns false'. Refute it at one input. -/
def journalScansWrong : ChangeSpec := { name := "journalScans", fn := fun _ => fun
  | [d1, d2, d3, d4] => { results := [.lit (.bool false)], args := [d1, d2, d3, d4] }
  | _ => none }
def JournalScansWrongFalsely : Prop := journalScansRow.holds Try.pinned (OpenSpec.ofChange journalScansWrong)

/-- 'bailifflaw19.DiskRoom': WHATEVER THE INPUT: true; the input reads as it did. -/
def diskRoomSpec : ChangeSpec := { name := "diskRoom", fn := fun _ => fun
  | [d1, d2] => { results := [.lit (.bool true)], args := [d1, d2] }
  | _ => none }
def diskRoomRow : OpenClaim := { program := "ytidpcjblciompaa", sum := "3bc9148036e0a8e3986bb3f9c7a038bef0026ee2dfc3e9b081f0cfb14a66be33", func := "bailiff/bailifflaw19.DiskRoom", spec := "diskRoom", apart := false }
def DiskRoomSaid : Prop := diskRoomRow.holds Try.pinned (OpenSpec.ofChange diskRoomSpec)

/-- ITS FALSE NEIGHBOUR: 'it returns false'. Refute it at one input. -/
def diskRoomWrong : ChangeSpec := { name := "diskRoom", fn := fun _ => fun
  | [d1, d2] => { results := [.lit (.bool false)], args := [d1, d2] }
  | _ => none }
def DiskRoomWrongFalsely : Prop := diskRoomRow.holds Try.pinned (OpenSpec.ofChange diskRoomWrong)

/-- 'bailifflaw19.DiskPlays': WHATEVER THE INPUT: true; the input reads as it did. -/
def diskPlaysSpec : ChangeSpec := { name := "diskPlays", fn := fun _ => fun
  | [d1, d2] => { results := [.lit (.bool true)], args := [d1, d2] }
  | _ => none }
def diskPlaysRow : OpenClaim := { program := "ytidpcjblciompaa", sum := "3bc9148036e0a8e3986bb3f9c7a038bef0026ee2dfc3e9b081f0cfb14a66be33", func := "bailiff/bailifflaw19.DiskPlays", spec := "diskPlays", apart := false }
def DiskPlaysSaid : Prop := diskPlaysRow.holds Try.pinned (OpenSpec.ofChange diskPlaysSpec)

/-- ITS FALSE NEIGHBOUR: 'it returns false'. Refute it at one input. -/
def diskPlaysWrong : ChangeSpec := { name := "diskPlays", fn := fun _ => fun
  | [d1, d2] => { results := [.lit (.bool false)], args := [d1, d2] }
  | _ => none }
def DiskPlaysWrongFalsely : Prop := diskPlaysRow.holds Try.pinned (OpenSpec.ofChange diskPlaysWrong)

/-- 'bailifflaw19.DiskArms': WHATEVER THE INPUT: true; the input reads as it did. -/
def diskArmsSpec : ChangeSpec := { name := "diskArms", fn := fun _ => fun
  | [d1, d2] => { results := [.lit (.bool true)], args := [d1, d2] }
  | _ => none }
def diskArmsRow : OpenClaim := { program := "ytidpcjblciompaa", sum := "3bc9148036e0a8e3986bb3f9c7a038bef0026ee2dfc3e9b081f0cfb14a66be33", func := "bailiff/bailifflaw19.DiskArms", spec := "diskArms", apart := false }
def DiskArmsSaid : Prop := diskArmsRow.holds Try.pinned (OpenSpec.ofChange diskArmsSpec)

/-- ITS FALSE NEIGHBOUR: 'it returns false'. Refute it at one input. -/
def diskArmsWrong : ChangeSpec := { name := "diskArms", fn := fun _ => fun
  | [d1, d2] => { results := [.lit (.bool false)], args := [d1, d2] }
  | _ => none }
def DiskArmsWrongFalsely : Prop := diskArmsRow.holds Try.pinned (OpenSpec.ofChange diskArmsWrong)

/-- 'bailifflaw20.JournalOpens': WHATEVER THE INPUT: true; the input reads as it did. -/
def journalOpensSpec : ChangeSpec := { name := "journalOpens", fn := fun _ => fun
  | [d1, d2] => { results := [.lit (.bool true)], args := [d1, d2] }
  | _ => none }
def journalOpensRow : OpenClaim := { program := "ytidpcjblciompaa", sum := "3bc9148036e0a8e3986bb3f9c7a038bef0026ee2dfc3e9b081f0cfb14a66be33", func := "bailiff/bailifflaw20.JournalOpens", spec := "journalOpens", apart := false }
def JournalOpensSaid : Prop := journalOpensRow.holds Try.pinned (OpenSpec.ofChange journalOpensSpec)

/-- ITS FALSE NEIGHBOUR: 'it returns false'. Refute it at one input. -/
def journalOpensWrong : ChangeSpec := { name := "journalOpens", fn := fun _ => fun
  | [d1, d2] => { results := [.lit (.bool false)], args := [d1, d2] }
  | _ => none }
def JournalOpensWrongFalsely : Prop := journalOpensRow.holds Try.pinned (OpenSpec.ofChange journalOpensWrong)

/-- 'bailifflaw20.JournalFull': WHATEVER THE INPUT: true; the input reads as it did. -/
def journalFullSpec : ChangeSpec := { name := "journalFull", fn := fun _ => fun
  | [d1, d2] => { results := [.lit (.bool true)], args := [d1, d2] }
  | _ => none }
def journalFullRow : OpenClaim := { program := "ytidpcjblciompaa", sum := "3bc9148036e0a8e3986bb3f9c7a038bef0026ee2dfc3e9b081f0cfb14a66be33", func := "bailiff/bailifflaw20.JournalFull", spec := "journalFull", apart := false }
def JournalFullSaid : Prop := journalFullRow.holds Try.pinned (OpenSpec.ofChange journalFullSpec)

/-- ITS FALSE NEIGHBOUR: 'it returns false'. Refute it at one input. -/
def journalFullWrong : ChangeSpec := { name := "journalFull", fn := fun _ => fun
  | [d1, d2] => { results := [.lit (.bool false)], args := [d1, d2] }
  | _ => none }
def JournalFullWrongFalsely : Prop := journalFullRow.holds Try.pinned (OpenSpec.ofChange journalFullWrong)

/-- 'bailifflaw20.JournalKeeps': WHATEVER THE INPUT: true; the input reads as it did. -/
def journalKeepsSpec : ChangeSpec := { name := "journalKeeps", fn := fun _ => fun
  | [d1, d2, d3, d4, d5] => { results := [.lit (.bool true)], args := [d1, d2, d3, d4, d5] }
  | _ => none }
def journalKeepsRow : OpenClaim := { program := "ytidpcjblciompaa", sum := "3bc9148036e0a8e3986bb3f9c7a038bef0026ee2dfc3e9b081f0cfb14a66be33", func := "bailiff/bailifflaw20.JournalKeeps", spec := "journalKeeps", apart := false }
def JournalKeepsSaid : Prop := journalKeepsRow.holds Try.pinned (OpenSpec.ofChange journalKeepsSpec)

/-- ITS FALSE NEIGHBOUR: 'it returns false'. Refute it at one input. -/
def journalKeepsWrong : ChangeSpec := { name := "journalKeeps", fn := fun _ => fun
  | [d1, d2, d3, d4, d5] => { results := [.lit (.bool false)], args := [d1, d2, d3, d4, d5] }
  | _ => none }
def JournalKeepsWrongFalsely : Prop := journalKeepsRow.holds Try.pinned (OpenSpec.ofChange journalKeepsWrong)

/-- 'bailifflaw20.JournalPlays': WHATEVER THE INPUT: true; the input reads as it did. -/
def journalPlaysSpec : ChangeSpec := { name := "journalPlays", fn := fun _ => fun
  | [d1, d2] => { results := [.lit (.bool true)], args := [d1, d2] }
  | _ => none }
def journalPlaysRow : OpenClaim := { program := "ytidpcjblciompaa", sum := "3bc9148036e0a8e3986bb3f9c7a038bef0026ee2dfc3e9b081f0cfb14a66be33", func := "bailiff/bailifflaw20.JournalPlays", spec := "journalPlays", apart := false }
def JournalPlaysSaid : Prop := journalPlaysRow.holds Try.pinned (OpenSpec.ofChange journalPlaysSpec)

/-- ITS FALSE NEIGHBOUR: 'it returns false'. Refute it at one input. -/
def journalPlaysWrong : ChangeSpec := { name := "journalPlays", fn := fun _ => fun
  | [d1, d2] => { results := [.lit (.bool false)], args := [d1, d2] }
  | _ => none }
def JournalPlaysWrongFalsely : Prop := journalPlaysRow.holds Try.pinned (OpenSpec.ofChange journalPlaysWrong)

/- THE SECOND FORM. 'bulk': how many values and letters a reading holds, each counted each time it is reached (what is shared counts as often as it is met; a slice's spare places count too). A statement '..UptoSaid' is the law's where the arguments, and the package variables that the reading takes, are together of bulk at most 1048576: NARROWER than '..Said'. Prove '..Said' where nothing that the law and all that it calls make is longer than what came in: it says more and counts as full. Else prove '..UptoSaid'. A law counts once. -/
mutual
def uptoBulk {H : Type} : DataW H → Nat
  | .lit (.string bytes) => bytes.length + 1
  | .lit _ => 1
  | .nil => 1
  | .ptr d => uptoBulk d + 1
  | .slice elems spare => uptoBulkAll elems + uptoBulkAll spare + 1
  | .agg parts => uptoBulkAll parts + 1
  | .iface _ d => uptoBulk d + 1
  | .map entries => uptoBulkEntries entries + 1
  | .held _ => 1
def uptoBulkAll {H : Type} : List (DataW H) → Nat
  | [] => 0
  | d :: r => uptoBulk d + uptoBulkAll r
def uptoBulkEntries {H : Type} : List (Lit × DataW H) → Nat
  | [] => 0
  | x :: r => uptoBulkEntry x + uptoBulkEntries r
def uptoBulkEntry {H : Type} : Lit × DataW H → Nat
  | (.string bytes, d) => bytes.length + uptoBulk d + 1
  | (_, d) => uptoBulk d + 1
 end
def uptoSmall : (H : Type) → List (DataW H) → Bool := fun _ ds => decide (uptoBulkAll ds ≤ 1048576)
def OpenSpec.upto (s : _root_.Go.ChangeSpec) : _root_.Go.OpenSpec := { _root_.Go.OpenSpec.ofChange s with cond := some uptoSmall }

/-- 'bailifflaw19.DiskRuns', WHERE WHAT IT READS IS OF BULK AT MOST 1048576: true; the input reads as it did. -/
def diskRunsUptoRow : OpenClaim := { program := "ytidpcjblciompaa", sum := "3bc9148036e0a8e3986bb3f9c7a038bef0026ee2dfc3e9b081f0cfb14a66be33", func := "bailiff/bailifflaw19.DiskRuns", spec := "diskRuns", apart := false, narrowed := true }
def DiskRunsUptoSaid : Prop := diskRunsUptoRow.holds Try.pinned (OpenSpec.upto diskRunsSpec)

/-- 'bailifflaw19.DiskKeeps', WHERE WHAT IT READS IS OF BULK AT MOST 1048576: true; the input reads as it did. -/
def diskKeepsUptoRow : OpenClaim := { program := "ytidpcjblciompaa", sum := "3bc9148036e0a8e3986bb3f9c7a038bef0026ee2dfc3e9b081f0cfb14a66be33", func := "bailiff/bailifflaw19.DiskKeeps", spec := "diskKeeps", apart := false, narrowed := true }
def DiskKeepsUptoSaid : Prop := diskKeepsUptoRow.holds Try.pinned (OpenSpec.upto diskKeepsSpec)

/-- 'bailifflaw19.DiskTwice', WHERE WHAT IT READS IS OF BULK AT MOST 1048576: true; the input reads as it did. -/
def diskTwiceUptoRow : OpenClaim := { program := "ytidpcjblciompaa", sum := "3bc9148036e0a8e3986bb3f9c7a038bef0026ee2dfc3e9b081f0cfb14a66be33", func := "bailiff/bailifflaw19.DiskTwice", spec := "diskTwice", apart := false, narrowed := true }
def DiskTwiceUptoSaid : Prop := diskTwiceUptoRow.holds Try.pinned (OpenSpec.upto diskTwiceSpec)

/-- 'bailifflaw20.JournalRuns', WHERE WHAT IT READS IS OF BULK AT MOST 1048576: true; the input reads as it did. -/
def journalRunsUptoRow : OpenClaim := { program := "ytidpcjblciompaa", sum := "3bc9148036e0a8e3986bb3f9c7a038bef0026ee2dfc3e9b081f0cfb14a66be33", func := "bailiff/bailifflaw20.JournalRuns", spec := "journalRuns", apart := false, narrowed := true }
def JournalRunsUptoSaid : Prop := journalRunsUptoRow.holds Try.pinned (OpenSpec.upto journalRunsSpec)

/-- 'bailifflaw20.JournalScans', WHERE WHAT IT READS IS OF BULK AT MOST 1048576: true; the input reads as it did. -/
def journalScansUptoRow : OpenClaim := { program := "ytidpcjblciompaa", sum := "3bc9148036e0a8e3986bb3f9c7a038bef0026ee2dfc3e9b081f0cfb14a66be33", func := "bailiff/bailifflaw20.JournalScans", spec := "journalScans", apart := false, narrowed := true }
def JournalScansUptoSaid : Prop := journalScansUptoRow.holds Try.pinned (OpenSpec.upto journalScansSpec)

/-- 'bailifflaw19.DiskRoom', WHERE WHAT IT READS IS OF BULK AT MOST 1048576: true; the input reads as it did. -/
def diskRoomUptoRow : OpenClaim := { program := "ytidpcjblciompaa", sum := "3bc9148036e0a8e3986bb3f9c7a038bef0026ee2dfc3e9b081f0cfb14a66be33", func := "bailiff/bailifflaw19.DiskRoom", spec := "diskRoom", apart := false, narrowed := true }
def DiskRoomUptoSaid : Prop := diskRoomUptoRow.holds Try.pinned (OpenSpec.upto diskRoomSpec)

/-- 'bailifflaw19.DiskPlays', WHERE WHAT IT READS IS OF BULK AT MOST 1048576: true; the input reads as it did. -/
def diskPlaysUptoRow : OpenClaim := { program := "ytidpcjblciompaa", sum := "3bc9148036e0a8e3986bb3f9c7a038bef0026ee2dfc3e9b081f0cfb14a66be33", func := "bailiff/bailifflaw19.DiskPlays", spec := "diskPlays", apart := false, narrowed := true }
def DiskPlaysUptoSaid : Prop := diskPlaysUptoRow.holds Try.pinned (OpenSpec.upto diskPlaysSpec)

/-- 'bailifflaw19.DiskArms', WHERE WHAT IT READS IS OF BULK AT MOST 1048576: true; the input reads as it did. -/
def diskArmsUptoRow : OpenClaim := { program := "ytidpcjblciompaa", sum := "3bc9148036e0a8e3986bb3f9c7a038bef0026ee2dfc3e9b081f0cfb14a66be33", func := "bailiff/bailifflaw19.DiskArms", spec := "diskArms", apart := false, narrowed := true }
def DiskArmsUptoSaid : Prop := diskArmsUptoRow.holds Try.pinned (OpenSpec.upto diskArmsSpec)

/-- 'bailifflaw20.JournalOpens', WHERE WHAT IT READS IS OF BULK AT MOST 1048576: true; the input reads as it did. -/
def journalOpensUptoRow : OpenClaim := { program := "ytidpcjblciompaa", sum := "3bc9148036e0a8e3986bb3f9c7a038bef0026ee2dfc3e9b081f0cfb14a66be33", func := "bailiff/bailifflaw20.JournalOpens", spec := "journalOpens", apart := false, narrowed := true }
def JournalOpensUptoSaid : Prop := journalOpensUptoRow.holds Try.pinned (OpenSpec.upto journalOpensSpec)

/-- 'bailifflaw20.JournalFull', WHERE WHAT IT READS IS OF BULK AT MOST 1048576: true; the input reads as it did. -/
def journalFullUptoRow : OpenClaim := { program := "ytidpcjblciompaa", sum := "3bc9148036e0a8e3986bb3f9c7a038bef0026ee2dfc3e9b081f0cfb14a66be33", func := "bailiff/bailifflaw20.JournalFull", spec := "journalFull", apart := false, narrowed := true }
def JournalFullUptoSaid : Prop := journalFullUptoRow.holds Try.pinned (OpenSpec.upto journalFullSpec)

/-- 'bailifflaw20.JournalKeeps', WHERE WHAT IT READS IS OF BULK AT MOST 1048576: true; the input reads as it did. -/
def journalKeepsUptoRow : OpenClaim := { program := "ytidpcjblciompaa", sum := "3bc9148036e0a8e3986bb3f9c7a038bef0026ee2dfc3e9b081f0cfb14a66be33", func := "bailiff/bailifflaw20.JournalKeeps", spec := "journalKeeps", apart := false, narrowed := true }
def JournalKeepsUptoSaid : Prop := journalKeepsUptoRow.holds Try.pinned (OpenSpec.upto journalKeepsSpec)

/-- 'bailifflaw20.JournalPlays', WHERE WHAT IT READS IS OF BULK AT MOST 1048576: true; the input reads as it did. -/
def journalPlaysUptoRow : OpenClaim := { program := "ytidpcjblciompaa", sum := "3bc9148036e0a8e3986bb3f9c7a038bef0026ee2dfc3e9b081f0cfb14a66be33", func := "bailiff/bailifflaw20.JournalPlays", spec := "journalPlays", apart := false, narrowed := true }
def JournalPlaysUptoSaid : Prop := journalPlaysUptoRow.holds Try.pinned (OpenSpec.upto journalPlaysSpec)

end Rows
end Go.Proofs.Ytidpcjblciompaa
