/-
  No cell of these rows narrows 'for every input' (looked for: loops, veiled, ifaces, maps, wideKeys, modest, calm, conditions, laid).
  DERIVED. THE GIVEN ROWS OF THIS SEAT. 11 by the template 'for every input the law returns true; each argument reads behind the call as it read before'; 0 by the template 'total and deterministic' (their statements: YtmidgfmopmpppaaTotals.lean).
  GIVEN WITH THE SEED: the statements are not yours to turn. If you find one false, say at which input.
  Laid BY PROGRAM, IN A SANDBOX (cutbox-rows.mjs): the forced cells as the released guide's own fill.sh prints them over the translation 44473cd258824bd8… (all of the seat's roots in one cut). By AI agents, Wed Nov 11 2026. No macro, syntax, notation, axiom, sorry.
-/
import Derived.Test.YtmidgfmopmpppaaChecked
import GoSem.Claim
import GoSem.ClaimJoined
import GoSem.ClaimMapViews
import Derived.JoinedTies
import Derived.KernelRfl
namespace Go.Proofs.Ytmidgfmopmpppaa
/- THE CELL 'sum', in the pinned program and in every row, IS THE sha256 OF THE DUMP (.gsa) THAT YtmidgfmopmpppaaProg.lean LOADS. Nothing in Lean hashes anything: it is a label: what it is worth is what the hold of that sum in a sandbox is worth. -/
noncomputable def Try.pinned : Pinned := { name := "ytmidgfmopmpppaa", sum := "44473cd258824bd8009be05a11aaa564554733a40e2b7eb2a49b2fb5cfcd1244", checked := Try.checked }
namespace Rows
def none {H : Type} : Left H := { results := [], args := [] }

/-- 'switchyardlaw01.CrcSums': WHATEVER THE INPUT: true; the input reads as it did. -/
def crcSumsSpec : ChangeSpec := { name := "crcSums", fn := fun _ => fun
  | [d] => { results := [.lit (.bool true)], args := [d] }
  | _ => none }
def crcSumsRow : OpenClaim := { program := "ytmidgfmopmpppaa", sum := "44473cd258824bd8009be05a11aaa564554733a40e2b7eb2a49b2fb5cfcd1244", func := "switchyard/switchyardlaw01.CrcSums", spec := "crcSums", apart := false }
def CrcSumsSaid : Prop := crcSumsRow.holds Try.pinned (OpenSpec.ofChange crcSumsSpec)

/-- ITS FALSE NEIGHBOUR: 'it returns false'. Refute it at one input. -/
def crcSumsWrong : ChangeSpec := { name := "crcSums", fn := fun _ => fun
  | [d] => { results := [.lit (.bool false)], args := [d] }
  | _ => none }
def CrcSumsWrongFalsely : Prop := crcSumsRow.holds Try.pinned (OpenSpec.ofChange crcSumsWrong)

/-- 'switchyardlaw01.CrcMoves': WHATEVER THE INPUT: true; the input reads as it did. -/
def crcMovesSpec : ChangeSpec := { name := "crcMoves", fn := fun _ => fun
  | [d1, d2, d3] => { results := [.lit (.bool true)], args := [d1, d2, d3] }
  | _ => none }
def crcMovesRow : OpenClaim := { program := "ytmidgfmopmpppaa", sum := "44473cd258824bd8009be05a11aaa564554733a40e2b7eb2a49b2fb5cfcd1244", func := "switchyard/switchyardlaw01.CrcMoves", spec := "crcMoves", apart := false }
def CrcMovesSaid : Prop := crcMovesRow.holds Try.pinned (OpenSpec.ofChange crcMovesSpec)

/-- ITS FALSE NEIGHBOUR: 'it returns false'. Refute it at one input. -/
def crcMovesWrong : ChangeSpec := { name := "crcMoves", fn := fun _ => fun
  | [d1, d2, d3] => { results := [.lit (.bool false)], args := [d1, d2, d3] }
  | _ => none }
def CrcMovesWrongFalsely : Prop := crcMovesRow.holds Try.pinned (OpenSpec.ofChange crcMovesWrong)

/-- 'switchyardlaw01.CrcJoins': WHATEVER THE INPUT: true; the input reads as it did. -/
def crcJoinsSpec : ChangeSpec := { name := "crcJoins", fn := fun _ => fun
  | [d1, d2] => { results := [.lit (.bool true)], args := [d1, d2] }
  | _ => none }
def crcJoinsRow : OpenClaim := { program := "ytmidgfmopmpppaa", sum := "44473cd258824bd8009be05a11aaa564554733a40e2b7eb2a49b2fb5cfcd1244", func := "switchyard/switchyardlaw01.CrcJoins", spec := "crcJoins", apart := false }
def CrcJoinsSaid : Prop := crcJoinsRow.holds Try.pinned (OpenSpec.ofChange crcJoinsSpec)

/-- ITS FALSE NEIGHBOUR: 'it returns false'. Refute it at one input. -/
def crcJoinsWrong : ChangeSpec := { name := "crcJoins", fn := fun _ => fun
  | [d1, d2] => { results := [.lit (.bool false)], args := [d1, d2] }
  | _ => none }
def CrcJoinsWrongFalsely : Prop := crcJoinsRow.holds Try.pinned (OpenSpec.ofChange crcJoinsWrong)

/-- 'switchyardlaw01.CrcFar': WHATEVER THE INPUT: true; the input reads as it did. -/
def crcFarSpec : ChangeSpec := { name := "crcFar", fn := fun _ => fun
  | [d1, d2, d3] => { results := [.lit (.bool true)], args := [d1, d2, d3] }
  | _ => none }
def crcFarRow : OpenClaim := { program := "ytmidgfmopmpppaa", sum := "44473cd258824bd8009be05a11aaa564554733a40e2b7eb2a49b2fb5cfcd1244", func := "switchyard/switchyardlaw01.CrcFar", spec := "crcFar", apart := false }
def CrcFarSaid : Prop := crcFarRow.holds Try.pinned (OpenSpec.ofChange crcFarSpec)

/-- ITS FALSE NEIGHBOUR: 'it returns false'. Refute it at one input. -/
def crcFarWrong : ChangeSpec := { name := "crcFar", fn := fun _ => fun
  | [d1, d2, d3] => { results := [.lit (.bool false)], args := [d1, d2, d3] }
  | _ => none }
def CrcFarWrongFalsely : Prop := crcFarRow.holds Try.pinned (OpenSpec.ofChange crcFarWrong)

/-- 'switchyardlaw01.CrcBursts': WHATEVER THE INPUT: true; the input reads as it did. -/
def crcBurstsSpec : ChangeSpec := { name := "crcBursts", fn := fun _ => fun
  | [d1, d2, d3] => { results := [.lit (.bool true)], args := [d1, d2, d3] }
  | _ => none }
def crcBurstsRow : OpenClaim := { program := "ytmidgfmopmpppaa", sum := "44473cd258824bd8009be05a11aaa564554733a40e2b7eb2a49b2fb5cfcd1244", func := "switchyard/switchyardlaw01.CrcBursts", spec := "crcBursts", apart := false }
def CrcBurstsSaid : Prop := crcBurstsRow.holds Try.pinned (OpenSpec.ofChange crcBurstsSpec)

/-- ITS FALSE NEIGHBOUR: 'it returns false'. Refute it at one input. -/
def crcBurstsWrong : ChangeSpec := { name := "crcBursts", fn := fun _ => fun
  | [d1, d2, d3] => { results := [.lit (.bool false)], args := [d1, d2, d3] }
  | _ => none }
def CrcBurstsWrongFalsely : Prop := crcBurstsRow.holds Try.pinned (OpenSpec.ofChange crcBurstsWrong)

/-- 'switchyardlaw01.CrcNests': WHATEVER THE INPUT: true; the input reads as it did. -/
def crcNestsSpec : ChangeSpec := { name := "crcNests", fn := fun _ => fun
  | [d1, d2, d3, d4, d5] => { results := [.lit (.bool true)], args := [d1, d2, d3, d4, d5] }
  | _ => none }
def crcNestsRow : OpenClaim := { program := "ytmidgfmopmpppaa", sum := "44473cd258824bd8009be05a11aaa564554733a40e2b7eb2a49b2fb5cfcd1244", func := "switchyard/switchyardlaw01.CrcNests", spec := "crcNests", apart := false }
def CrcNestsSaid : Prop := crcNestsRow.holds Try.pinned (OpenSpec.ofChange crcNestsSpec)

/-- ITS FALSE NEIGHBOUR: 'it returns false'. Refute it at one input. -/
def crcNestsWrong : ChangeSpec := { name := "crcNests", fn := fun _ => fun
  | [d1, d2, d3, d4, d5] => { results := [.lit (.bool false)], args := [d1, d2, d3, d4, d5] }
  | _ => none }
def CrcNestsWrongFalsely : Prop := crcNestsRow.holds Try.pinned (OpenSpec.ofChange crcNestsWrong)

/-- 'switchyardlaw02.PackSizes': WHATEVER THE INPUT: true; the input reads as it did. -/
def packSizesSpec : ChangeSpec := { name := "packSizes", fn := fun _ => fun
  | [d1, d2, d3] => { results := [.lit (.bool true)], args := [d1, d2, d3] }
  | _ => none }
def packSizesRow : OpenClaim := { program := "ytmidgfmopmpppaa", sum := "44473cd258824bd8009be05a11aaa564554733a40e2b7eb2a49b2fb5cfcd1244", func := "switchyard/switchyardlaw02.PackSizes", spec := "packSizes", apart := false }
def PackSizesSaid : Prop := packSizesRow.holds Try.pinned (OpenSpec.ofChange packSizesSpec)

/-- ITS FALSE NEIGHBOUR: 'it returns false'. Refute it at one input. -/
def packSizesWrong : ChangeSpec := { name := "packSizes", fn := fun _ => fun
  | [d1, d2, d3] => { results := [.lit (.bool false)], args := [d1, d2, d3] }
  | _ => none }
def PackSizesWrongFalsely : Prop := packSizesRow.holds Try.pinned (OpenSpec.ofChange packSizesWrong)

/-- 'switchyardlaw02.PackWrites': WHATEVER THE INPUT: true; the input reads as it did. -/
def packWritesSpec : ChangeSpec := { name := "packWrites", fn := fun _ => fun
  | [d1, d2, d3] => { results := [.lit (.bool true)], args := [d1, d2, d3] }
  | _ => none }
def packWritesRow : OpenClaim := { program := "ytmidgfmopmpppaa", sum := "44473cd258824bd8009be05a11aaa564554733a40e2b7eb2a49b2fb5cfcd1244", func := "switchyard/switchyardlaw02.PackWrites", spec := "packWrites", apart := false }
def PackWritesSaid : Prop := packWritesRow.holds Try.pinned (OpenSpec.ofChange packWritesSpec)

/-- ITS FALSE NEIGHBOUR: 'it returns false'. Refute it at one input. -/
def packWritesWrong : ChangeSpec := { name := "packWrites", fn := fun _ => fun
  | [d1, d2, d3] => { results := [.lit (.bool false)], args := [d1, d2, d3] }
  | _ => none }
def PackWritesWrongFalsely : Prop := packWritesRow.holds Try.pinned (OpenSpec.ofChange packWritesWrong)

/-- 'switchyardlaw02.PackOne': WHATEVER THE INPUT: true; the input reads as it did. -/
def packOneSpec : ChangeSpec := { name := "packOne", fn := fun _ => fun
  | [d1, d2] => { results := [.lit (.bool true)], args := [d1, d2] }
  | _ => none }
def packOneRow : OpenClaim := { program := "ytmidgfmopmpppaa", sum := "44473cd258824bd8009be05a11aaa564554733a40e2b7eb2a49b2fb5cfcd1244", func := "switchyard/switchyardlaw02.PackOne", spec := "packOne", apart := false }
def PackOneSaid : Prop := packOneRow.holds Try.pinned (OpenSpec.ofChange packOneSpec)

/-- ITS FALSE NEIGHBOUR: 'it returns false'. Refute it at one input. -/
def packOneWrong : ChangeSpec := { name := "packOne", fn := fun _ => fun
  | [d1, d2] => { results := [.lit (.bool false)], args := [d1, d2] }
  | _ => none }
def PackOneWrongFalsely : Prop := packOneRow.holds Try.pinned (OpenSpec.ofChange packOneWrong)

/-- 'switchyardlaw02.PackBack': WHATEVER THE INPUT: true; the input reads as it did. -/
def packBackSpec : ChangeSpec := { name := "packBack", fn := fun _ => fun
  | [d] => { results := [.lit (.bool true)], args := [d] }
  | _ => none }
def packBackRow : OpenClaim := { program := "ytmidgfmopmpppaa", sum := "44473cd258824bd8009be05a11aaa564554733a40e2b7eb2a49b2fb5cfcd1244", func := "switchyard/switchyardlaw02.PackBack", spec := "packBack", apart := false }
def PackBackSaid : Prop := packBackRow.holds Try.pinned (OpenSpec.ofChange packBackSpec)

/-- ITS FALSE NEIGHBOUR: 'it returns false'. Refute it at one input. -/
def packBackWrong : ChangeSpec := { name := "packBack", fn := fun _ => fun
  | [d] => { results := [.lit (.bool false)], args := [d] }
  | _ => none }
def PackBackWrongFalsely : Prop := packBackRow.holds Try.pinned (OpenSpec.ofChange packBackWrong)

/-- 'switchyardlaw02.PackNil': WHATEVER THE INPUT: true; the input reads as it did. -/
def packNilSpec : ChangeSpec := { name := "packNil", fn := fun _ => fun
  | [] => { results := [.lit (.bool true)], args := [] }
  | _ => none }
def packNilRow : OpenClaim := { program := "ytmidgfmopmpppaa", sum := "44473cd258824bd8009be05a11aaa564554733a40e2b7eb2a49b2fb5cfcd1244", func := "switchyard/switchyardlaw02.PackNil", spec := "packNil", apart := false }
def PackNilSaid : Prop := packNilRow.holds Try.pinned (OpenSpec.ofChange packNilSpec)

/-- ITS FALSE NEIGHBOUR: 'it returns false'. Refute it at one input. -/
def packNilWrong : ChangeSpec := { name := "packNil", fn := fun _ => fun
  | [] => { results := [.lit (.bool false)], args := [] }
  | _ => none }
def PackNilWrongFalsely : Prop := packNilRow.holds Try.pinned (OpenSpec.ofChange packNilWrong)

/- THE SECOND FORM. 'bulk': how many values and letters a reading holds, each counted each time it is reached (what is shared counts as often as it is met; a slice's spare places count too). A statement '..UptoSaid' is the law's where the arguments, and the package variables that the reading takes, are together of bulk at most 1048576: NARROWER than '..Said'. Prove '..Said' where nothing that the law and all that it calls make is longer than what came in: it says more and counts as full. Else prove '..UptoSaid'. A law counts once. -/
mutual
def uptoBulk {H : Type} : DataW H → Nat
  | .lit (.string bytes) => bytes.length + 1
  | .lit _ => 1
  | .nil => 1
  | .ptr d => uptoBulk d + 1
  | .slice elems spare => uptoBulkAll elems + uptoBulkAll spare + 1
  | .agg parts => uptoBulkAll parts + 1
  | .iface _ d => uptoBulk d + 1
  | .map entries => uptoBulkEntries entries + 1
  | .held _ => 1
def uptoBulkAll {H : Type} : List (DataW H) → Nat
  | [] => 0
  | d :: r => uptoBulk d + uptoBulkAll r
def uptoBulkEntries {H : Type} : List (Lit × DataW H) → Nat
  | [] => 0
  | x :: r => uptoBulkEntry x + uptoBulkEntries r
def uptoBulkEntry {H : Type} : Lit × DataW H → Nat
  | (.string bytes, d) => bytes.length + uptoBulk d + 1
  | (_, d) => uptoBulk d + 1
 end
def uptoSmall : (H : Type) → List (DataW H) → Bool := fun _ ds => decide (uptoBulkAll ds ≤ 1048576)
def OpenSpec.upto (s : _root_.Go.ChangeSpec) : _root_.Go.OpenSpec := { _root_.Go.OpenSpec.ofChange s with cond := some uptoSmall }

/-- 'switchyardlaw01.CrcSums', WHERE WHAT IT READS IS OF BULK AT MOST 1048576: true; the input reads as it did. -/
def crcSumsUptoRow : OpenClaim := { program := "ytmidgfmopmpppaa", sum := "44473cd258824bd8009be05a11aaa564554733a40e2b7eb2a49b2fb5cfcd1244", func := "switchyard/switchyardlaw01.CrcSums", spec := "crcSums", apart := false, narrowed := true }
def CrcSumsUptoSaid : Prop := crcSumsUptoRow.holds Try.pinned (OpenSpec.upto crcSumsSpec)

/-- 'switchyardlaw01.CrcMoves', WHERE WHAT IT READS IS OF BULK AT MOST 1048576: true; the input reads as it did. -/
def crcMovesUptoRow : OpenClaim := { program := "ytmidgfmopmpppaa", sum := "44473cd258824bd8009be05a11aaa564554733a40e2b7eb2a49b2fb5cfcd1244", func := "switchyard/switchyardlaw01.CrcMoves", spec := "crcMoves", apart := false, narrowed := true }
def CrcMovesUptoSaid : Prop := crcMovesUptoRow.holds Try.pinned (OpenSpec.upto crcMovesSpec)

/-- 'switchyardlaw01.CrcJoins', WHERE WHAT IT READS IS OF BULK AT MOST 1048576: true; the input reads as it did. -/
def crcJoinsUptoRow : OpenClaim := { program := "ytmidgfmopmpppaa", sum := "44473cd258824bd8009be05a11aaa564554733a40e2b7eb2a49b2fb5cfcd1244", func := "switchyard/switchyardlaw01.CrcJoins", spec := "crcJoins", apart := false, narrowed := true }
def CrcJoinsUptoSaid : Prop := crcJoinsUptoRow.holds Try.pinned (OpenSpec.upto crcJoinsSpec)

/-- 'switchyardlaw01.CrcFar', WHERE WHAT IT READS IS OF BULK AT MOST 1048576: true; the input reads as it did. -/
def crcFarUptoRow : OpenClaim := { program := "ytmidgfmopmpppaa", sum := "44473cd258824bd8009be05a11aaa564554733a40e2b7eb2a49b2fb5cfcd1244", func := "switchyard/switchyardlaw01.CrcFar", spec := "crcFar", apart := false, narrowed := true }
def CrcFarUptoSaid : Prop := crcFarUptoRow.holds Try.pinned (OpenSpec.upto crcFarSpec)

/-- 'switchyardlaw01.CrcBursts', WHERE WHAT IT READS IS OF BULK AT MOST 1048576: true; the input reads as it did. -/
def crcBurstsUptoRow : OpenClaim := { program := "ytmidgfmopmpppaa", sum := "44473cd258824bd8009be05a11aaa564554733a40e2b7eb2a49b2fb5cfcd1244", func := "switchyard/switchyardlaw01.CrcBursts", spec := "crcBursts", apart := false, narrowed := true }
def CrcBurstsUptoSaid : Prop := crcBurstsUptoRow.holds Try.pinned (OpenSpec.upto crcBurstsSpec)

/-- 'switchyardlaw01.CrcNests', WHERE WHAT IT READS IS OF BULK AT MOST 1048576: true; the input reads as it did. -/
def crcNestsUptoRow : OpenClaim := { program := "ytmidgfmopmpppaa", sum := "44473cd258824bd8009be05a11aaa564554733a40e2b7eb2a49b2fb5cfcd1244", func := "switchyard/switchyardlaw01.CrcNests", spec := "crcNests", apart := false, narrowed := true }
def CrcNestsUptoSaid : Prop := crcNestsUptoRow.holds Try.pinned (OpenSpec.upto crcNestsSpec)

/-- 'switchyardlaw02.PackSizes', WHERE WHAT IT READS IS OF BULK AT MOST 1048576: true; the input reads as it did. -/
def packSizesUptoRow : OpenClaim := { program := "ytmidgfmopmpppaa", sum := "44473cd258824bd8009be05a11aaa564554733a40e2b7eb2a49b2fb5cfcd1244", func := "switchyard/switchyardlaw02.PackSizes", spec := "packSizes", apart := false, narrowed := true }
def PackSizesUptoSaid : Prop := packSizesUptoRow.holds Try.pinned (OpenSpec.upto packSizesSpec)

/-- 'switchyardlaw02.PackWrites', WHERE WHAT IT READS IS OF BULK AT MOST 1048576: true; the input reads as it did. -/
def packWritesUptoRow : OpenClaim := { program := "ytmidgfmopmpppaa", sum := "44473cd258824bd8009be05a11aaa564554733a40e2b7eb2a49b2fb5cfcd1244", func := "switchyard/switchyardlaw02.PackWrites", spec := "packWrites", apart := false, narrowed := true }
def PackWritesUptoSaid : Prop := packWritesUptoRow.holds Try.pinned (OpenSpec.upto packWritesSpec)

/-- 'switchyardlaw02.PackOne', WHERE WHAT IT READS IS OF BULK AT MOST 1048576: true; the input reads as it did. -/
def packOneUptoRow : OpenClaim := { program := "ytmidgfmopmpppaa", sum := "44473cd258824bd8009be05a11aaa564554733a40e2b7eb2a49b2fb5cfcd1244", func := "switchyard/switchyardlaw02.PackOne", spec := "packOne", apart := false, narrowed := true }
def PackOneUptoSaid : Prop := packOneUptoRow.holds Try.pinned (OpenSpec.upto packOneSpec)

/-- 'switchyardlaw02.PackBack', WHERE WHAT IT READS IS OF BULK AT MOST 1048576: true; the input reads as it did. -/
def packBackUptoRow : OpenClaim := { program := "ytmidgfmopmpppaa", sum := "44473cd258824bd8009be05a11aaa564554733a40e2b7eb2a49b2fb5cfcd1244", func := "switchyard/switchyardlaw02.PackBack", spec := "packBack", apart := false, narrowed := true }
def PackBackUptoSaid : Prop := packBackUptoRow.holds Try.pinned (OpenSpec.upto packBackSpec)

/-- 'switchyardlaw02.PackNil', WHERE WHAT IT READS IS OF BULK AT MOST 1048576: true; the input reads as it did. -/
def packNilUptoRow : OpenClaim := { program := "ytmidgfmopmpppaa", sum := "44473cd258824bd8009be05a11aaa564554733a40e2b7eb2a49b2fb5cfcd1244", func := "switchyard/switchyardlaw02.PackNil", spec := "packNil", apart := false, narrowed := true }
def PackNilUptoSaid : Prop := packNilUptoRow.holds Try.pinned (OpenSpec.upto packNilSpec)

end Rows
end Go.Proofs.Ytmidgfmopmpppaa
