/-
  No cell of these rows narrows 'for every input' (looked for: loops, veiled, ifaces, maps, wideKeys, modest, calm, conditions, laid).
  DERIVED. THE GIVEN ROWS OF THIS SEAT. 7 by the template 'for every input the law returns true; each argument reads behind the call as it read before'; 0 by the template 'total and deterministic' (their statements: YtfghglacfjncmaaTotals.lean).
  GIVEN WITH THE SEED: the statements are not yours to turn. If you find one false, say at which input.
  Laid BY PROGRAM, IN A SANDBOX (cutbox-rows.mjs): the forced cells as the released guide's own fill.sh prints them over the translation da8ef2b0c1bcad1d… (all of the seat's roots in one cut). By AI agents, Wed Nov 11 2026. No macro, syntax, notation, axiom, sorry.
-/
import Derived.Test.YtfghglacfjncmaaChecked
import GoSem.Claim
import GoSem.ClaimJoined
import GoSem.ClaimMapViews
import Derived.JoinedTies
import Derived.KernelRfl
namespace Go.Proofs.Ytfghglacfjncmaa
/- THE CELL 'sum', in the pinned program and in every row, IS THE sha256 OF THE DUMP (.gsa) THAT YtfghglacfjncmaaProg.lean LOADS. Nothing in Lean hashes anything: it is a label: what it is worth is what the hold of that sum in a sandbox is worth. -/
noncomputable def Try.pinned : Pinned := { name := "ytfghglacfjncmaa", sum := "da8ef2b0c1bcad1d726c9dd90749d70aa594d4e6d0cb42f5549fc39f7b7232de", checked := Try.checked }
namespace Rows
def none {H : Type} : Left H := { results := [], args := [] }

/-- 'switchyardlaw13.CodeApart': WHATEVER THE INPUT: true; the input reads as it did. -/
def codeApartSpec : ChangeSpec := { name := "codeApart", fn := fun _ => fun
  | [d1, d2, d3, d4] => { results := [.lit (.bool true)], args := [d1, d2, d3, d4] }
  | _ => none }
def codeApartRow : OpenClaim := { program := "ytfghglacfjncmaa", sum := "da8ef2b0c1bcad1d726c9dd90749d70aa594d4e6d0cb42f5549fc39f7b7232de", func := "switchyard/switchyardlaw13.CodeApart", spec := "codeApart", inPlace := ["internal/abi.NoEscape"], unfollowed := true, recurses := true, apart := false }
def CodeApartSaid : Prop := codeApartRow.holds Try.pinned (OpenSpec.ofChange codeApartSpec)

/-- ITS FALSE NEIGHBOUR: 'it returns false'. Refute it at one input. -/
def codeApartWrong : ChangeSpec := { name := "codeApart", fn := fun _ => fun
  | [d1, d2, d3, d4] => { results := [.lit (.bool false)], args := [d1, d2, d3, d4] }
  | _ => none }
def CodeApartWrongFalsely : Prop := codeApartRow.holds Try.pinned (OpenSpec.ofChange codeApartWrong)

/-- 'switchyardlaw13.CodeGets': WHATEVER THE INPUT: true; the input reads as it did. -/
def codeGetsSpec : ChangeSpec := { name := "codeGets", fn := fun _ => fun
  | [d] => { results := [.lit (.bool true)], args := [d] }
  | _ => none }
def codeGetsRow : OpenClaim := { program := "ytfghglacfjncmaa", sum := "da8ef2b0c1bcad1d726c9dd90749d70aa594d4e6d0cb42f5549fc39f7b7232de", func := "switchyard/switchyardlaw13.CodeGets", spec := "codeGets", inPlace := ["internal/abi.NoEscape"], unfollowed := true, recurses := true, apart := false }
def CodeGetsSaid : Prop := codeGetsRow.holds Try.pinned (OpenSpec.ofChange codeGetsSpec)

/-- ITS FALSE NEIGHBOUR: 'it returns false'. Refute it at one input. -/
def codeGetsWrong : ChangeSpec := { name := "codeGets", fn := fun _ => fun
  | [d] => { results := [.lit (.bool false)], args := [d] }
  | _ => none }
def CodeGetsWrongFalsely : Prop := codeGetsRow.holds Try.pinned (OpenSpec.ofChange codeGetsWrong)

/-- 'switchyardlaw13.CodePuts': WHATEVER THE INPUT: true; the input reads as it did. -/
def codePutsSpec : ChangeSpec := { name := "codePuts", fn := fun _ => fun
  | [d1, d2, d3] => { results := [.lit (.bool true)], args := [d1, d2, d3] }
  | _ => none }
def codePutsRow : OpenClaim := { program := "ytfghglacfjncmaa", sum := "da8ef2b0c1bcad1d726c9dd90749d70aa594d4e6d0cb42f5549fc39f7b7232de", func := "switchyard/switchyardlaw13.CodePuts", spec := "codePuts", inPlace := ["internal/abi.NoEscape"], unfollowed := true, recurses := true, apart := false }
def CodePutsSaid : Prop := codePutsRow.holds Try.pinned (OpenSpec.ofChange codePutsSpec)

/-- ITS FALSE NEIGHBOUR: 'it returns false'. Refute it at one input. -/
def codePutsWrong : ChangeSpec := { name := "codePuts", fn := fun _ => fun
  | [d1, d2, d3] => { results := [.lit (.bool false)], args := [d1, d2, d3] }
  | _ => none }
def CodePutsWrongFalsely : Prop := codePutsRow.holds Try.pinned (OpenSpec.ofChange codePutsWrong)

/-- 'switchyardlaw13.CodeKeeps': WHATEVER THE INPUT: true; the input reads as it did. -/
def codeKeepsSpec : ChangeSpec := { name := "codeKeeps", fn := fun _ => fun
  | [d1, d2, d3] => { results := [.lit (.bool true)], args := [d1, d2, d3] }
  | _ => none }
def codeKeepsRow : OpenClaim := { program := "ytfghglacfjncmaa", sum := "da8ef2b0c1bcad1d726c9dd90749d70aa594d4e6d0cb42f5549fc39f7b7232de", func := "switchyard/switchyardlaw13.CodeKeeps", spec := "codeKeeps", inPlace := ["internal/abi.NoEscape"], unfollowed := true, recurses := true, apart := false }
def CodeKeepsSaid : Prop := codeKeepsRow.holds Try.pinned (OpenSpec.ofChange codeKeepsSpec)

/-- ITS FALSE NEIGHBOUR: 'it returns false'. Refute it at one input. -/
def codeKeepsWrong : ChangeSpec := { name := "codeKeeps", fn := fun _ => fun
  | [d1, d2, d3] => { results := [.lit (.bool false)], args := [d1, d2, d3] }
  | _ => none }
def CodeKeepsWrongFalsely : Prop := codeKeepsRow.holds Try.pinned (OpenSpec.ofChange codeKeepsWrong)

/-- 'switchyardlaw13.CodeReads': WHATEVER THE INPUT: true; the input reads as it did. -/
def codeReadsSpec : ChangeSpec := { name := "codeReads", fn := fun _ => fun
  | [d] => { results := [.lit (.bool true)], args := [d] }
  | _ => none }
def codeReadsRow : OpenClaim := { program := "ytfghglacfjncmaa", sum := "da8ef2b0c1bcad1d726c9dd90749d70aa594d4e6d0cb42f5549fc39f7b7232de", func := "switchyard/switchyardlaw13.CodeReads", spec := "codeReads", inPlace := ["internal/abi.NoEscape"], unfollowed := true, recurses := true, apart := false }
def CodeReadsSaid : Prop := codeReadsRow.holds Try.pinned (OpenSpec.ofChange codeReadsSpec)

/-- ITS FALSE NEIGHBOUR: 'it returns false'. Refute it at one input. -/
def codeReadsWrong : ChangeSpec := { name := "codeReads", fn := fun _ => fun
  | [d] => { results := [.lit (.bool false)], args := [d] }
  | _ => none }
def CodeReadsWrongFalsely : Prop := codeReadsRow.holds Try.pinned (OpenSpec.ofChange codeReadsWrong)

/-- 'switchyardlaw13.CodeBack': WHATEVER THE INPUT: true; the input reads as it did. -/
def codeBackSpec : ChangeSpec := { name := "codeBack", fn := fun _ => fun
  | [d1, d2, d3] => { results := [.lit (.bool true)], args := [d1, d2, d3] }
  | _ => none }
def codeBackRow : OpenClaim := { program := "ytfghglacfjncmaa", sum := "da8ef2b0c1bcad1d726c9dd90749d70aa594d4e6d0cb42f5549fc39f7b7232de", func := "switchyard/switchyardlaw13.CodeBack", spec := "codeBack", inPlace := ["internal/abi.NoEscape"], unfollowed := true, recurses := true, apart := false }
def CodeBackSaid : Prop := codeBackRow.holds Try.pinned (OpenSpec.ofChange codeBackSpec)

/-- ITS FALSE NEIGHBOUR: 'it returns false'. Refute it at one input. -/
def codeBackWrong : ChangeSpec := { name := "codeBack", fn := fun _ => fun
  | [d1, d2, d3] => { results := [.lit (.bool false)], args := [d1, d2, d3] }
  | _ => none }
def CodeBackWrongFalsely : Prop := codeBackRow.holds Try.pinned (OpenSpec.ofChange codeBackWrong)

/-- 'switchyardlaw13.CodeAgain': WHATEVER THE INPUT: true; the input reads as it did. -/
def codeAgainSpec : ChangeSpec := { name := "codeAgain", fn := fun _ => fun
  | [d] => { results := [.lit (.bool true)], args := [d] }
  | _ => none }
def codeAgainRow : OpenClaim := { program := "ytfghglacfjncmaa", sum := "da8ef2b0c1bcad1d726c9dd90749d70aa594d4e6d0cb42f5549fc39f7b7232de", func := "switchyard/switchyardlaw13.CodeAgain", spec := "codeAgain", inPlace := ["internal/abi.NoEscape"], unfollowed := true, recurses := true, apart := false }
def CodeAgainSaid : Prop := codeAgainRow.holds Try.pinned (OpenSpec.ofChange codeAgainSpec)

/-- ITS FALSE NEIGHBOUR: 'it returns false'. Refute it at one input. -/
def codeAgainWrong : ChangeSpec := { name := "codeAgain", fn := fun _ => fun
  | [d] => { results := [.lit (.bool false)], args := [d] }
  | _ => none }
def CodeAgainWrongFalsely : Prop := codeAgainRow.holds Try.pinned (OpenSpec.ofChange codeAgainWrong)

/- THE SECOND FORM. 'bulk': how many values and letters a reading holds, each counted each time it is reached (what is shared counts as often as it is met; a slice's spare places count too). A statement '..UptoSaid' is the law's where the arguments, and the package variables that the reading takes, are together of bulk at most 1048576: NARROWER than '..Said'. Prove '..Said' where nothing that the law and all that it calls make is longer than what came in: it says more and counts as full. Else prove '..UptoSaid'. A law counts once. -/
mutual
def uptoBulk {H : Type} : DataW H → Nat
  | .lit (.string bytes) => bytes.length + 1
  | .lit _ => 1
  | .nil => 1
  | .ptr d => uptoBulk d + 1
  | .slice elems spare => uptoBulkAll elems + uptoBulkAll spare + 1
  | .agg parts => uptoBulkAll parts + 1
  | .iface _ d => uptoBulk d + 1
  | .map entries => uptoBulkEntries entries + 1
  | .held _ => 1
def uptoBulkAll {H : Type} : List (DataW H) → Nat
  | [] => 0
  | d :: r => uptoBulk d + uptoBulkAll r
def uptoBulkEntries {H : Type} : List (Lit × DataW H) → Nat
  | [] => 0
  | x :: r => uptoBulkEntry x + uptoBulkEntries r
def uptoBulkEntry {H : Type} : Lit × DataW H → Nat
  | (.string bytes, d) => bytes.length + uptoBulk d + 1
  | (_, d) => uptoBulk d + 1
 end
def uptoSmall : (H : Type) → List (DataW H) → Bool := fun _ ds => decide (uptoBulkAll ds ≤ 1048576)
def OpenSpec.upto (s : _root_.Go.ChangeSpec) : _root_.Go.OpenSpec := { _root_.Go.OpenSpec.ofChange s with cond := some uptoSmall }

/-- 'switchyardlaw13.CodeApart', WHERE WHAT IT READS IS OF BULK AT MOST 1048576: true; the input reads as it did. -/
def codeApartUptoRow : OpenClaim := { program := "ytfghglacfjncmaa", sum := "da8ef2b0c1bcad1d726c9dd90749d70aa594d4e6d0cb42f5549fc39f7b7232de", func := "switchyard/switchyardlaw13.CodeApart", spec := "codeApart", inPlace := ["internal/abi.NoEscape"], unfollowed := true, recurses := true, apart := false, narrowed := true }
def CodeApartUptoSaid : Prop := codeApartUptoRow.holds Try.pinned (OpenSpec.upto codeApartSpec)

/-- 'switchyardlaw13.CodeGets', WHERE WHAT IT READS IS OF BULK AT MOST 1048576: true; the input reads as it did. -/
def codeGetsUptoRow : OpenClaim := { program := "ytfghglacfjncmaa", sum := "da8ef2b0c1bcad1d726c9dd90749d70aa594d4e6d0cb42f5549fc39f7b7232de", func := "switchyard/switchyardlaw13.CodeGets", spec := "codeGets", inPlace := ["internal/abi.NoEscape"], unfollowed := true, recurses := true, apart := false, narrowed := true }
def CodeGetsUptoSaid : Prop := codeGetsUptoRow.holds Try.pinned (OpenSpec.upto codeGetsSpec)

/-- 'switchyardlaw13.CodePuts', WHERE WHAT IT READS IS OF BULK AT MOST 1048576: true; the input reads as it did. -/
def codePutsUptoRow : OpenClaim := { program := "ytfghglacfjncmaa", sum := "da8ef2b0c1bcad1d726c9dd90749d70aa594d4e6d0cb42f5549fc39f7b7232de", func := "switchyard/switchyardlaw13.CodePuts", spec := "codePuts", inPlace := ["internal/abi.NoEscape"], unfollowed := true, recurses := true, apart := false, narrowed := true }
def CodePutsUptoSaid : Prop := codePutsUptoRow.holds Try.pinned (OpenSpec.upto codePutsSpec)

/-- 'switchyardlaw13.CodeKeeps', WHERE WHAT IT READS IS OF BULK AT MOST 1048576: true; the input reads as it did. -/
def codeKeepsUptoRow : OpenClaim := { program := "ytfghglacfjncmaa", sum := "da8ef2b0c1bcad1d726c9dd90749d70aa594d4e6d0cb42f5549fc39f7b7232de", func := "switchyard/switchyardlaw13.CodeKeeps", spec := "codeKeeps", inPlace := ["internal/abi.NoEscape"], unfollowed := true, recurses := true, apart := false, narrowed := true }
def CodeKeepsUptoSaid : Prop := codeKeepsUptoRow.holds Try.pinned (OpenSpec.upto codeKeepsSpec)

/-- 'switchyardlaw13.CodeReads', WHERE WHAT IT READS IS OF BULK AT MOST 1048576: true; the input reads as it did. -/
def codeReadsUptoRow : OpenClaim := { program := "ytfghglacfjncmaa", sum := "da8ef2b0c1bcad1d726c9dd90749d70aa594d4e6d0cb42f5549fc39f7b7232de", func := "switchyard/switchyardlaw13.CodeReads", spec := "codeReads", inPlace := ["internal/abi.NoEscape"], unfollowed := true, recurses := true, apart := false, narrowed := true }
def CodeReadsUptoSaid : Prop := codeReadsUptoRow.holds Try.pinned (OpenSpec.upto codeReadsSpec)

/-- 'switchyardlaw13.CodeBack', WHERE WHAT IT READS IS OF BULK AT MOST 1048576: true; the input reads as it did. -/
def codeBackUptoRow : OpenClaim := { program := "ytfghglacfjncmaa", sum := "da8ef2b0c1bcad1d726c9dd90749d70aa594d4e6d0cb42f5549fc39f7b7232de", func := "switchyard/switchyardlaw13.CodeBack", spec := "codeBack", inPlace := ["internal/abi.NoEscape"], unfollowed := true, recurses := true, apart := false, narrowed := true }
def CodeBackUptoSaid : Prop := codeBackUptoRow.holds Try.pinned (OpenSpec.upto codeBackSpec)

/-- 'switchyardlaw13.CodeAgain', WHERE WHAT IT READS IS OF BULK AT MOST 1048576: true; the input reads as it did. -/
def codeAgainUptoRow : OpenClaim := { program := "ytfghglacfjncmaa", sum := "da8ef2b0c1bcad1d726c9dd90749d70aa594d4e6d0cb42f5549fc39f7b7232de", func := "switchyard/switchyardlaw13.CodeAgain", spec := "codeAgain", inPlace := ["internal/abi.NoEscape"], unfollowed := true, recurses := true, apart := false, narrowed := true }
def CodeAgainUptoSaid : Prop := codeAgainUptoRow.holds Try.pinned (OpenSpec.upto codeAgainSpec)

end Rows
end Go.Proofs.Ytfghglacfjncmaa
