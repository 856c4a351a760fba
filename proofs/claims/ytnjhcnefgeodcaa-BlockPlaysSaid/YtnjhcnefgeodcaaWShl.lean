/- What the kit proved of Go's library once and for all, at this translation (written by the kit's tools). -/
import Derived.Shelf.Strings.Builder1
import Derived.Shelf.Strings.Builder2
import Derived.Shelf.Strings.OnBuilder
import Derived.Test.YtnjhcnefgeodcaaProg
namespace Go.Proofs.Ytnjhcnefgeodcaa
open Go.Shelf
def Shl.lays156_ren : Go.Shelf.Ren := ⟨fun | 156 => 34 | 165 => 38 | 166 => 39 | 169 => 40 | 240 => 41 | 241 => 42 | 276 => 43 | 277 => 44 | n => n, fun | 31 => 43 | 9 => 9 | 3 => 3 | 4 => 4 | 0 => 0 | 20 => 20 | 72 => 70 | 76 => 74 | 70 => 68 | 37 => 67 | 75 => 73 | 127 => 78 | 164 => 79 | 5 => 5 | 80 => 41 | n => n, fun | n => n⟩
theorem Shl.lays156 : Go.Proofs.Lays.n156 Try.prog Shl.lays156_ren := {
  mixed := by kernel_rfl
  f156 := Try.func34.trans (congrArg some (by kernel_rfl))
  f165 := Try.func38.trans (congrArg some (by kernel_rfl))
  f166 := Try.func39.trans (congrArg some (by kernel_rfl))
  f169 := Try.func40.trans (congrArg some (by kernel_rfl))
  f240 := Try.func41.trans (congrArg some (by kernel_rfl))
  f241 := Try.func42.trans (congrArg some (by kernel_rfl))
  f276 := Try.func43.trans (congrArg some (by kernel_rfl))
  f277 := Try.func44.trans (congrArg some (by kernel_rfl))
  t0 := Try.underlying0
  a0 := Try.isAgg0
  z0 := Try.sizeOf0
  v0 := Try.zeroValue0
  t3 := Try.underlying3
  a3 := Try.isAgg3
  z3 := Try.sizeOf3
  v3 := Try.zeroValue3
  t4 := Try.underlying4
  a4 := Try.isAgg4
  z4 := Try.sizeOf4
  v4 := Try.zeroValue4
  t9 := Try.underlying9
  a9 := Try.isAgg9
  z9 := Try.sizeOf9
  v9 := Try.zeroValue9
  t20 := Try.underlying20
  a20 := Try.isAgg20
  z20 := Try.sizeOf20
  v20 := Try.zeroValue20
  t31 := Try.underlying43
  a31 := Try.isAgg43
  z31 := Try.sizeOf43
  v31 := Try.zeroValue43
  t37 := Try.underlying67
  a37 := Try.isAgg67
  z37 := Try.sizeOf67
  v37 := Try.zeroValue67
  t70 := Try.underlying68
  a70 := Try.isAgg68
  z70 := Try.sizeOf68
  v70 := Try.zeroValue68
  t72 := Try.underlying70
  a72 := Try.isAgg70
  z72 := Try.sizeOf70
  v72 := Try.zeroValue70
  t75 := Try.underlying73
  a75 := Try.isAgg73
  z75 := Try.sizeOf73
  v75 := Try.zeroValue73
  t76 := Try.underlying74
  a76 := Try.isAgg74
  z76 := Try.sizeOf74
  v76 := Try.zeroValue74
  t127 := Try.underlying78
  a127 := Try.isAgg78
  z127 := Try.sizeOf78
  v127 := Try.zeroValue78
  t164 := Try.underlying79
  a164 := Try.isAgg79
  z164 := Try.sizeOf79
  v164 := Try.zeroValue79 }
theorem Shl.Builder_Extra_156 : Builder.Extra Try.prog Shl.lays156_ren := {
  sizeBuilder := by kernel_rfl
  liesBuilder := by kernel_rfl
  t5 := Try.underlying5
  a5 := Try.isAgg5
  z5 := Try.sizeOf5
  v5 := Try.zeroValue5
  infoByte := by kernel_rfl
  cellsByte := by kernel_rfl
  sizeByte := by kernel_rfl
  neB5 := by decide }
open Go.RowKit in
theorem Shl.strings_Join_none (a : Option Addr) (c : Nat) (sep : ByteArray) (w : World) :
    Calls Try.prog 34 #[.slice a 0 c, .string sep] w fun e w' => e = .returned (.string ⟨#[]⟩) ∧ w' = w := Any.strings_Join_none Shl.lays156 Shl.Builder_Extra_156 a c sep w
open Go.RowKit in
theorem Shl.strings_Join (bk o c : Nat) (xs : List ByteArray) (sep : ByteArray) (w : World) (hcells : ∀ (j : Nat) x, xs[j]? = some x → w.cell? ⟨bk, o + j, none⟩ = some (.string x)) (hbk : bk < w.heap.size) (hN : xs.length ≤ 140737488355328) (hcap : xs.length ≤ c) (hlen : (Lib.join (xs.map (·.data.toList)) sep.data.toList).length ≤ 140737488355328) :
    Calls Try.prog 34 #[.slice (some ⟨bk, o, none⟩) xs.length c, .string sep] w fun e w' => e = .returned (.string ⟨(Lib.join (xs.map (·.data.toList)) sep.data.toList).toArray⟩) ∧ Below w.heap.size w w' := Any.strings_Join Shl.lays156 Shl.Builder_Extra_156 bk o c xs sep w hcells hbk hN hcap hlen
end Go.Proofs.Ytnjhcnefgeodcaa
