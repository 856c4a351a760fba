/- Words of 32, 64 and 8 bits as values, and what the operators do to them. -/
import Derived.Test.YtmidgfmopmpppaaVAbsJ
namespace Go.Proofs.Ytmidgfmopmpppaa
set_option linter.unusedVariables false
set_option linter.unusedSimpArgs false
open Go.RowKit

def u32 (b : BitVec 32) : Value := .int .u32 b.toNat
def u64 (b : BitVec 64) : Value := .int .u64 b.toNat
def u8 (b : UInt8) : Value := .int .u8 b.toNat
def i64 (n : Int) : Value := .int .i64 n
def bool (b : Bool) : Value := .bool b
def str (s : ByteArray) : Value := .string s
def ptr (i : Nat) : Value := .pointer (some ⟨i, 0, none⟩)

theorem wrap32_eq (n : Int) : IntKind.u32.wrap n = n % 4294967296 := by simp [IntKind.wrap, IntKind.bits, IntKind.signed]
theorem wrapu64_eq (n : Int) : IntKind.u64.wrap n = n % 18446744073709551616 := by simp [IntKind.wrap, IntKind.bits, IntKind.signed]
theorem wrapu8_eq (n : Int) : IntKind.u8.wrap n = n % 256 := by simp [IntKind.wrap, IntKind.bits, IntKind.signed]
theorem wrap_u32 (n : Nat) (h : n < 4294967296) : IntKind.u32.wrap (n : Int) = n := by rw [wrap32_eq]; omega
theorem wrap_u64 (n : Nat) (h : n < 18446744073709551616) : IntKind.u64.wrap (n : Int) = n := by rw [wrapu64_eq]; omega
theorem wrap_u8 (n : Nat) (h : n < 256) : IntKind.u8.wrap (n : Int) = n := by rw [wrapu8_eq]; omega
theorem wrapi64_eq (n : Int) : IntKind.i64.wrap n = if 9223372036854775808 ≤ n % 18446744073709551616 then n % 18446744073709551616 - 18446744073709551616 else n % 18446744073709551616 := by
  simp [IntKind.wrap, IntKind.bits, IntKind.signed]
theorem wrap_i64 (n : Int) (h : -9223372036854775808 ≤ n) (h' : n ≤ 9223372036854775807) : IntKind.i64.wrap n = n := by
  rw [wrapi64_eq]; split <;> omega

theorem aCall_of {P : Program} {f : FuncId} {args : List Value} {H : AH} {K Kp : KV} (hc : callable P f = true) (h : ACall P f args H fun e H' => match e with
      | .ret v => K v H'
      | .panic v => Kp v H') : aCall P (.func (.func f) #[] #[]) args H K Kp := by
  refine ⟨hc, ?_⟩
  have e : (#[] : Array Value).toList ++ args ++ (#[] : Array Value).toList = args := by simp
  rw [e]
  exact h.mono fun e H' he => by cases e <;> exact he

/-- A memory that has grown. -/
structure Ext (H H' : AH) : Prop where
  next : H.next ≤ H'.next
  get : ∀ i, i < H.next → H'.get i = H.get i
theorem Ext.refl (H : AH) : Ext H H := ⟨Nat.le_refl _, fun _ _ => rfl⟩
theorem Ext.trans {A B C : AH} (h : Ext A B) (k : Ext B C) : Ext A C := ⟨Nat.le_trans h.next k.next, fun i hi => (k.get i (Nat.lt_of_lt_of_le hi h.next)).trans (h.get i hi)⟩
theorem Ext.push {A B : AH} (h : Ext A B) (o : AObj) : Ext A (B.push o) :=
  h.trans ⟨Nat.le_succ _, fun i hi => by rw [AH.get_push, if_neg (by omega)]⟩

/-- Bytes as cells. -/
def bcells (l : List UInt8) : List Value := l.map fun b => .int .u8 b.toNat
theorem byteCells_eq (s : ByteArray) : byteCells s = bcells s.data.toList := rfl
theorem bcells_set (l : List UInt8) (k : Nat) (x : UInt8) : (bcells l).set k (.int .u8 x.toNat) = bcells (l.set k x) := by simp [bcells, List.map_set]
theorem bcells_length (l : List UInt8) : (bcells l).length = l.length := by simp [bcells]
theorem bcells_all (l : List UInt8) : (bcells l).all isByte = true := by
  rw [List.all_eq_true]; intro v hv
  obtain ⟨b, _, rfl⟩ := List.mem_map.1 hv
  rfl
theorem bcells_bytes (l : List UInt8) : bytesOfCells (bcells l) = ⟨l.toArray⟩ := by
  unfold bytesOfCells bcells
  rw [List.map_map]
  congr 2
  refine (List.map_congr_left fun b _ => ?_).trans (List.map_id l)
  show UInt8.ofNat (b.toNat : Int).toNat = b
  simp
theorem bcells_at (l : List UInt8) (k : Nat) (h : k < l.length) : (bcells l)[k]? = some (.int .u8 (l[k]).toNat) := by simp [bcells, h]

theorem aIf_bool (b : Bool) (A B : Prop) : aIf (.bool b) A B = cond b A B := by cases b <;> rfl
theorem aIf_true (A B : Prop) : aIf (.bool true) A B = A := rfl
theorem aIf_false (A B : Prop) : aIf (.bool false) A B = B := rfl
theorem aIf_dec (p : Prop) [Decidable p] (A B : Prop) : aIf (.bool (decide p)) A B = if p then A else B := by
  by_cases h : p <;> simp [aIf, h]
theorem aIf_ndec (p : Prop) [Decidable p] (A B : Prop) : aIf (.bool (!decide p)) A B = if p then B else A := by
  by_cases h : p <;> simp [aIf, h]

section
variable {P : Program} {K : Value → Prop} {t : TypeId}

theorem bi_lss (k : IntKind) (a b : Int) : aBin P .lss t (.int k a) (.int k b) K = K (.bool (decide (a < b))) := by simp [aBin, aInt]
theorem bi_leq (k : IntKind) (a b : Int) : aBin P .leq t (.int k a) (.int k b) K = K (.bool (decide (a ≤ b))) := by simp [aBin, aInt]
theorem bi_gtr (k : IntKind) (a b : Int) : aBin P .gtr t (.int k a) (.int k b) K = K (.bool (decide (a > b))) := by simp [aBin, aInt]
theorem bi_geq (k : IntKind) (a b : Int) : aBin P .geq t (.int k a) (.int k b) K = K (.bool (decide (a ≥ b))) := by simp [aBin, aInt]
theorem bi_eql (k : IntKind) (a b : Int) : aBin P .eql t (.int k a) (.int k b) K = K (.bool (decide (a = b))) := by simp [aBin, aInt]
theorem bi_neq (k : IntKind) (a b : Int) : aBin P .neq t (.int k a) (.int k b) K = K (.bool (!decide (a = b))) := by simp [aBin, aInt]
theorem bi_add (k : IntKind) (a b : Int) : aBin P .add t (.int k a) (.int k b) K = K (.int k (k.wrap (a + b))) := by simp [aBin, aInt]
theorem bi_sub (k : IntKind) (a b : Int) : aBin P .sub t (.int k a) (.int k b) K = K (.int k (k.wrap (a - b))) := by simp [aBin, aInt]
theorem bi_mul (k : IntKind) (a b : Int) : aBin P .mul t (.int k a) (.int k b) K = K (.int k (k.wrap (a * b))) := by simp [aBin, aInt]
theorem bi_rem (k : IntKind) (a b : Int) (h : b ≠ 0) : aBin P .rem t (.int k a) (.int k b) K = K (.int k (a.tmod b)) := by simp [aBin, aInt, h]
theorem bi_quo (k : IntKind) (a b : Int) (h : b ≠ 0) : aBin P .quo t (.int k a) (.int k b) K = K (.int k (k.wrap (a.tdiv b))) := by simp [aBin, aInt, h]
theorem bs_eql (a b : ByteArray) : aBin P .eql t (.string a) (.string b) K = K (.bool (decide (a = b))) := by simp [aBin, aStr]
theorem bs_neq (a b : ByteArray) : aBin P .neq t (.string a) (.string b) K = K (.bool (!decide (a = b))) := by simp [aBin, aStr]
theorem bs_add (a b : ByteArray) (h : a.size + b.size ≤ 9223372036854775807) : aBin P .add t (.string a) (.string b) K = K (.string (a ++ b)) := by simp [aBin, aStr, h]


theorem of32 (a : BitVec 32) : BitVec.ofInt 32 (a.toNat : Int) = a := by simp
theorem of64 (a : BitVec 64) : BitVec.ofInt 64 (a.toNat : Int) = a := by simp
theorem aBin_xor32 (a b : BitVec 32) : aBin P .xor t (u32 a) (u32 b) K = K (u32 (a ^^^ b)) := by
  show (IntKind.u32 = IntKind.u32 ∧ K (.int .u32 (IntKind.u32.wrap ((BitVec.ofInt 32 (a.toNat : Int) ^^^ BitVec.ofInt 32 (b.toNat : Int)).toNat : Int)))) = _
  rw [of32, of32, wrap_u32 _ (a ^^^ b).isLt]
  simp [u32]
theorem aBin_and32 (a b : BitVec 32) : aBin P .and t (u32 a) (u32 b) K = K (u32 (a &&& b)) := by
  show (IntKind.u32 = IntKind.u32 ∧ K (.int .u32 (IntKind.u32.wrap ((BitVec.ofInt 32 (a.toNat : Int) &&& BitVec.ofInt 32 (b.toNat : Int)).toNat : Int)))) = _
  rw [of32, of32, wrap_u32 _ (a &&& b).isLt]
  simp [u32]
theorem aBin_shr32 (a : BitVec 32) (k : IntKind) (n : Int) (h : 0 ≤ n) (h' : n ≤ 32) : aBin P .shr t (u32 a) (.int k n) K = K (u32 (a >>> n.toNat)) := by
  have e : (a.toNat : Int).fdiv (2 ^ (min n.toNat 32)) = ((a >>> n.toNat).toNat : Int) := by
    rw [Nat.min_eq_left (by omega), BitVec.toNat_ushiftRight, Nat.shiftRight_eq_div_pow, Int.fdiv_eq_ediv_of_nonneg _ (Int.pow_nonneg (by omega))]
    simp
  show (0 ≤ n ∧ K (.int .u32 ((a.toNat : Int).fdiv (2 ^ (min n.toNat 32))))) = _
  rw [e]
  simp [u32, h]
theorem aUn_neg32 (a : BitVec 32) : aUn .neg (u32 a) K = K (u32 (-a)) := by
  simp only [aUn, u32]
  have : IntKind.u32.wrap (0 - (a.toNat : Int)) = ((-a).toNat : Int) := by
    rw [wrap32_eq, BitVec.toNat_neg]
    have := a.isLt
    omega
  rw [this]
theorem aUn_not32 (a : BitVec 32) : aUn .xor (u32 a) K = K (u32 (~~~a)) := by
  show K (.int .u32 (IntKind.u32.wrap ((BitVec.ofInt 32 (2 ^ 32 - 1 : Int) ^^^ BitVec.ofInt 32 (a.toNat : Int)).toNat : Int))) = _
  have : (BitVec.ofInt 32 (2 ^ 32 - 1 : Int)) = BitVec.allOnes 32 := by decide
  rw [of32, this, BitVec.allOnes_xor, wrap_u32 _ (~~~a).isLt]
  rfl

theorem aBin_xor8 (a b : UInt8) : aBin P .xor t (.int .u8 a.toNat) (.int .u8 b.toNat) K = K (.int .u8 (a ^^^ b).toNat) := by
  show (IntKind.u8 = IntKind.u8 ∧ K (.int .u8 (IntKind.u8.wrap ((BitVec.ofInt 8 (a.toNat : Int) ^^^ BitVec.ofInt 8 (b.toNat : Int)).toNat : Int)))) = _
  have e : (BitVec.ofInt 8 (a.toNat : Int) ^^^ BitVec.ofInt 8 (b.toNat : Int)).toNat = (a ^^^ b).toNat := by
    rw [BitVec.ofInt_natCast, BitVec.ofInt_natCast, UInt8.toNat_xor, BitVec.toNat_xor, BitVec.toNat_ofNat, BitVec.toNat_ofNat, Nat.mod_eq_of_lt (UInt8.toNat_lt a), Nat.mod_eq_of_lt (UInt8.toNat_lt b)]
  rw [e, wrap_u8 _ (UInt8.toNat_lt _)]
  simp

end
end Go.Proofs.Ytmidgfmopmpppaa
