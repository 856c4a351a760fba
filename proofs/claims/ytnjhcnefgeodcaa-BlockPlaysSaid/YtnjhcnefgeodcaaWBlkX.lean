/- The document's device: the bit that keeps a write, as the program asks for it. -/
import Derived.Test.YtnjhcnefgeodcaaWBlkV
namespace Go.Proofs.Ytnjhcnefgeodcaa
set_option linter.unusedVariables false
set_option linter.unusedSimpArgs false
open Go.RowKit
theorem bit_ref (c : Cr) (k : Nat) (h0 : 0 ≤ c.keep) (h1 : c.keep < 18446744073709551616) :
    Int.tmod (Int.fdiv c.keep (2 ^ (min (Int.toNat (IntKind.u64.wrap (Int.tmod (k : Int) 64))) IntKind.u64.bits))) 2 = 1 ↔ bitOn c k := by
  have e1 : Int.tmod (k : Int) 64 = ((k % 64 : Nat) : Int) := rfl
  have e2 : IntKind.u64.wrap ((k % 64 : Nat) : Int) = ((k % 64 : Nat) : Int) := wu _ (by omega)
  unfold bitOn
  rw [e1, e2, Int.toNat_natCast]
  obtain ⟨m, hm⟩ : ∃ m : Nat, c.keep = (m : Int) := ⟨c.keep.toNat, by omega⟩
  rw [hm]
  have e3 : Int.fdiv (m : Int) (2 ^ min (k % 64) IntKind.u64.bits) = ((m / 2 ^ min (k % 64) IntKind.u64.bits : Nat) : Int) := by
    rw [Int.fdiv_eq_ediv_of_nonneg _ (by exact_mod_cast Nat.zero_le _)]
    norm_cast
  rw [e3]
  have hle : m / 2 ^ min (k % 64) IntKind.u64.bits ≤ m := Nat.div_le_self _ _
  generalize m / 2 ^ min (k % 64) IntKind.u64.bits = x at hle
  have e4 : Int.tmod (x : Int) 2 = ((x % 2 : Nat) : Int) := rfl
  have e5 : ((BitVec.ofInt IntKind.u64.bits (x : Int)) &&& (BitVec.ofInt IntKind.u64.bits 1)).toNat = x % 2 := by
    show ((BitVec.ofInt 64 (x : Int)) &&& (BitVec.ofInt 64 1)).toNat = x % 2
    have a : (BitVec.ofInt 64 (x : Int)).toNat = x := by rw [ofInt_nat, BitVec.toNat_ofNat]; omega
    rw [BitVec.toNat_and, a]
    show x &&& 1 = x % 2
    exact Nat.and_one_is_mod x
  rw [e4, e5]
  have e6 : IntKind.u64.wrap ((x % 2 : Nat) : Int) = ((x % 2 : Nat) : Int) := wu _ (by omega)
  rw [e6]
end Go.Proofs.Ytnjhcnefgeodcaa
