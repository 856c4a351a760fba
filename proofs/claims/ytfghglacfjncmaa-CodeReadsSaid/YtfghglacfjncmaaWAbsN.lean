/- Rows that a function grows itself; bytes; words as natural numbers. -/
import Derived.Test.YtfghglacfjncmaaWAbsL
namespace Go.Proofs.Ytfghglacfjncmaa
set_option linter.unusedVariables false
set_option linter.unusedSimpArgs false
open Go.RowKit

/-! Bytes as cells. -/
def bcells (l : List UInt8) : List Value := l.map fun b => .int .u8 b.toNat
def ofL (l : List UInt8) : ByteArray := ⟨l.toArray⟩
theorem bcells_all (l : List UInt8) : (bcells l).all isByte = true := by
  rw [List.all_eq_true]; intro v hv
  obtain ⟨b, _, rfl⟩ := List.mem_map.1 hv
  rfl
theorem bcells_bytes (l : List UInt8) : bytesOfCells (bcells l) = ofL l := by
  unfold bytesOfCells bcells ofL
  rw [List.map_map]
  congr 2
  refine (List.map_congr_left fun b _ => ?_).trans (List.map_id l)
  show UInt8.ofNat (b.toNat : Int).toNat = b
  simp
theorem bcells_length (l : List UInt8) : (bcells l).length = l.length := by simp [bcells]
theorem bcells_app (a b : List UInt8) : bcells a ++ bcells b = bcells (a ++ b) := by simp [bcells]
theorem byteCells_eq (s : ByteArray) : byteCells s = bcells s.data.toList := rfl
theorem ofL_size (l : List UInt8) : (ofL l).size = l.length := by simp [ofL, ByteArray.size]
theorem ofL_append (a b : List UInt8) : ofL a ++ ofL b = ofL (a ++ b) := by
  apply ByteArray.ext
  simp [ofL]
theorem ofL_data (s : ByteArray) : ofL s.data.toList = s := by cases s; rfl
theorem data_ofL (l : List UInt8) : (ofL l).data.toList = l := rfl
theorem data_len (s : ByteArray) : s.data.toList.length = s.size := by simp
theorem sliceCells_new (H : AH) (cs : List Value) (esz n c : Nat) (hl : n * esz = cs.length) {o : Nat} (h : Has H o (.row cs esz)) : sliceCells H esz (.slice (some ⟨o, 0, none⟩) n c) = some cs := by
  simp only [sliceCells, AH.cells, h.get]
  rw [if_pos (by omega), hl]
  simp
theorem wB2S_at {H : AH} {o n : Nat} {l : List UInt8} {K : ByteArray → Prop} (h : Has H o (.row (bcells l) 1)) (hl : n = l.length) (hk : K (ofL l)) : wB2S (some ⟨o, 0, none⟩) n 0 H K := by
  unfold wB2S
  rw [sliceCells_new H (bcells l) 1 n 0 (by rw [bcells_length]; omega) h]
  exact ⟨bcells_all l, by rw [bcells_bytes]; exact hk⟩
theorem wB2S_nil {H : AH} {n c : Nat} {K : ByteArray → Prop} (hk : K ByteArray.empty) : wB2S none n c H K := ⟨rfl, hk⟩

/-! A row of the function's own, of which a slice is the whole; c0 is the memory in which the function began. -/
def OwnC (c0 : Nat) (H : AH) (esz : Nat) (b : Option Addr) (l c : Nat) (cs : List Value) : Prop :=
  (b = none ∧ l = 0 ∧ c = 0 ∧ cs = []) ∨ ∃ o, b = some ⟨o, 0, none⟩ ∧ c = 0 ∧ l * esz = cs.length ∧ Has H o (.row cs esz) ∧ c0 ≤ o
theorem OwnC.nil (c0 : Nat) (H : AH) (esz : Nat) : OwnC c0 H esz none 0 0 [] := .inl ⟨rfl, rfl, rfl, rfl⟩
theorem OwnC.fr {c0 : Nat} {H H' : AH} {esz : Nat} {b : Option Addr} {l c : Nat} {cs : List Value} {S : List Nat} (h : OwnC c0 H esz b l c cs) (x : Fr S H H') (hs : ∀ i ∈ S, i < c0) : OwnC c0 H' esz b l c cs := by
  rcases h with h | ⟨o, h1, h2, h3, h4, h5⟩
  · exact .inl h
  · exact .inr ⟨o, h1, h2, h3, h4.fr x (fun e => by have := hs o e; omega), h5⟩
theorem OwnC.len {c0 : Nat} {H : AH} {esz : Nat} {b : Option Addr} {l c : Nat} {cs : List Value} (h : OwnC c0 H esz b l c cs) : l * esz = cs.length := by
  rcases h with ⟨_, rfl, _, rfl⟩ | ⟨o, _, _, h3, _⟩
  · simp
  · exact h3
/-- 'append(b, ..)' of n elements that stand in a row of their own. -/
theorem app_own {e : TypeId} {c0 esz by_ l c n i : Nat} {H0 H : AH} {b : Option Addr} {cs new : List Value} {K : Option Addr → Nat → Nat → AH → Prop} (h : OwnC c0 H esz b l c cs) (hf : Fr [] H0 H) (hc : c0 = H0.next) (hi : Has H i (.row new esz)) (hic : c0 ≤ i ∨ i ≠ i) (hne : ∀ o, b = some ⟨o, 0, none⟩ → o ≠ i)
    (hn : (n + 1) * esz = new.length) (h1 : (new.all oneCell) = true) (h2 : (l + (n + 1)) * by_ ≤ 140737488355328) (h3 : l + (n + 1) ≤ 9223372036854775807)
    (hk : ∀ o H', OwnC c0 H' esz (some ⟨o, 0, none⟩) (l + (n + 1)) 0 (cs ++ new) → Fr [] H0 H' → K (some ⟨o, 0, none⟩) (l + (n + 1)) 0 H') : wAppL e esz by_ b l c (some ⟨i, 0, none⟩) (n + 1) 0 H K := by
  have hsc := sliceCells_new H new esz (n + 1) 0 hn hi
  have hnx := hf.next
  rcases h with ⟨rfl, rfl, rfl, rfl⟩ | ⟨o, rfl, rfl, hl, ho, hb⟩
  · rw [Nat.zero_add] at hk h2 h3
    exact wAppL_nil hsc hn.symm h1 h2 h3 (hk _ _ (.inr ⟨_, rfl, rfl, hn, Has.newT _ _ _, by omega⟩) (hf.pushT _ _))
  · refine wAppL_own ho hl hsc hn.symm h1 h2 h3 (hk _ _ (.inr ⟨_, rfl, rfl, ?_, Has.newT (H.drop o) _ _, by show c0 ≤ H.next; omega⟩) ((hf.drop (.inr (by omega))).pushT _ _))
    rw [List.length_append, ← hl, ← hn, Nat.add_mul]
/-- One byte more. -/
theorem app_byte {e : TypeId} {c0 l c : Nat} {H0 H : AH} {b : Option Addr} {bs : List UInt8} {x : UInt8} {K : Option Addr → Nat → Nat → AH → Prop} (h : OwnC c0 H 1 b l c (bcells bs)) (hf : Fr [] H0 H) (hc : c0 = H0.next) (hl : bs.length ≤ 70368744177664)
    (hk : ∀ o H', OwnC c0 H' 1 (some ⟨o, 0, none⟩) (l + 1) 0 (bcells (bs ++ [x])) → Fr [] H0 H' → K (some ⟨o, 0, none⟩) (l + 1) 0 H') :
    wBs [.int .u8 x.toNat] 1 H fun i H2 => wAppL e 1 1 b l c (some ⟨i, 0, none⟩) 1 0 H2 K := by
  have hlen := h.len
  rw [bcells_length] at hlen
  have hn := Has.new H (.row [.int .u8 x.toNat] 1)
  have hnx := hf.next
  refine app_own (n := 0) (h.fr ((Fr.refl [] H).push _) (fun i hi => by cases hi)) (hf.push _) hc hn (.inl (by omega)) ?_ rfl rfl (by omega) (by omega) ?_
  · intro o e
    rcases h with ⟨rfl, _⟩ | ⟨o', e', _, _, ho, _⟩
    · cases e
    · rw [e'] at e; cases e; exact ho.ne
  · intro o H' h1 h2
    refine hk o H' ?_ h2
    have e : bcells bs ++ [.int .u8 x.toNat] = bcells (bs ++ [x]) := by rw [← bcells_app]; rfl
    rw [← e]; exact h1
theorem own_text {c0 l c : Nat} {H : AH} {b : Option Addr} {bs : List UInt8} {K : ByteArray → Prop} (h : OwnC c0 H 1 b l c (bcells bs)) (hk : K (ofL bs)) : wB2S b l c H K := by
  have hlen := h.len
  rw [bcells_length] at hlen
  rcases h with ⟨rfl, rfl, rfl, e⟩ | ⟨o, rfl, rfl, _, ho, _⟩
  · have : bs = [] := by cases bs with | nil => rfl | cons x l => simp [bcells] at e
    subst this
    exact wB2S_nil hk
  · exact wB2S_at ho (by omega) hk

/-! Words. -/
theorem wrapu64_eq (n : Int) : IntKind.u64.wrap n = n % 18446744073709551616 := by simp [IntKind.wrap, IntKind.bits, IntKind.signed]
theorem wrapu8_eq (n : Int) : IntKind.u8.wrap n = n % 256 := by simp [IntKind.wrap, IntKind.bits, IntKind.signed]
theorem wrapi64_eq (n : Int) : IntKind.i64.wrap n = if 9223372036854775808 ≤ n % 18446744073709551616 then n % 18446744073709551616 - 18446744073709551616 else n % 18446744073709551616 := by
  simp [IntKind.wrap, IntKind.bits, IntKind.signed]
theorem wi (n : Int) (h : -9223372036854775808 ≤ n) (h' : n ≤ 9223372036854775807) : IntKind.i64.wrap n = n := by
  rw [wrapi64_eq]; split <;> omega
theorem wi1 (k : Nat) (h : k < 4611686018427387904) : IntKind.i64.wrap ((k : Int) + 1) = ((k + 1 : Nat) : Int) := by rw [wi _ (by omega) (by omega)]; omega
theorem wu (n : Nat) (h : n < 18446744073709551616) : IntKind.u64.wrap (n : Int) = n := by rw [wrapu64_eq]; omega
theorem wb (n : Nat) : IntKind.u8.wrap (n : Int) = ((UInt8.ofNat n).toNat : Int) := by rw [wrapu8_eq, UInt8.toNat_ofNat']; omega
theorem ofInt_nat (w n : Nat) : BitVec.ofInt w (n : Int) = BitVec.ofNat w n := by simp
theorem u64_and (a b : Nat) (ha : a < 18446744073709551616) (hb : b < 18446744073709551616) : IntKind.u64.wrap ((BitVec.ofInt IntKind.u64.bits (a : Int)) &&& (BitVec.ofInt IntKind.u64.bits (b : Int))).toNat = ((a &&& b : Nat) : Int) := by
  show IntKind.u64.wrap ((BitVec.ofInt 64 (a : Int)) &&& (BitVec.ofInt 64 (b : Int))).toNat = _
  rw [ofInt_nat, ofInt_nat, BitVec.toNat_and, BitVec.toNat_ofNat, BitVec.toNat_ofNat, Nat.mod_eq_of_lt (by omega), Nat.mod_eq_of_lt (by omega), wu _ (Nat.lt_of_le_of_lt Nat.and_le_left ha)]
theorem u64_or (a b : Nat) (ha : a < 18446744073709551616) (hb : b < 18446744073709551616) : IntKind.u64.wrap ((BitVec.ofInt IntKind.u64.bits (a : Int)) ||| (BitVec.ofInt IntKind.u64.bits (b : Int))).toNat = ((a ||| b : Nat) : Int) := by
  show IntKind.u64.wrap ((BitVec.ofInt 64 (a : Int)) ||| (BitVec.ofInt 64 (b : Int))).toNat = _
  rw [ofInt_nat, ofInt_nat, BitVec.toNat_or, BitVec.toNat_ofNat, BitVec.toNat_ofNat, Nat.mod_eq_of_lt (by omega), Nat.mod_eq_of_lt (by omega), wu _ (Nat.or_lt_two_pow (n := 64) ha hb)]
theorem u64_xor (a b : Nat) (ha : a < 18446744073709551616) (hb : b < 18446744073709551616) : IntKind.u64.wrap ((BitVec.ofInt IntKind.u64.bits (a : Int)) ^^^ (BitVec.ofInt IntKind.u64.bits (b : Int))).toNat = ((a ^^^ b : Nat) : Int) := by
  show IntKind.u64.wrap ((BitVec.ofInt 64 (a : Int)) ^^^ (BitVec.ofInt 64 (b : Int))).toNat = _
  rw [ofInt_nat, ofInt_nat, BitVec.toNat_xor, BitVec.toNat_ofNat, BitVec.toNat_ofNat, Nat.mod_eq_of_lt (by omega), Nat.mod_eq_of_lt (by omega), wu _ (Nat.xor_lt_two_pow (n := 64) ha hb)]
theorem u8_or (a b : UInt8) : IntKind.u8.wrap ((BitVec.ofInt IntKind.u8.bits (a.toNat : Int)) ||| (BitVec.ofInt IntKind.u8.bits (b.toNat : Int))).toNat = (((a ||| b).toNat : Nat) : Int) := by
  show IntKind.u8.wrap ((BitVec.ofInt 8 (a.toNat : Int)) ||| (BitVec.ofInt 8 (b.toNat : Int))).toNat = _
  rw [ofInt_nat, ofInt_nat, BitVec.toNat_or, BitVec.toNat_ofNat, BitVec.toNat_ofNat, Nat.mod_eq_of_lt a.toNat_lt, Nat.mod_eq_of_lt b.toNat_lt, UInt8.toNat_or, wrapu8_eq]
  have := Nat.or_lt_two_pow (n := 8) a.toNat_lt b.toNat_lt
  omega
theorem u8_and (a b : UInt8) : IntKind.u8.wrap ((BitVec.ofInt IntKind.u8.bits (a.toNat : Int)) &&& (BitVec.ofInt IntKind.u8.bits (b.toNat : Int))).toNat = (((a &&& b).toNat : Nat) : Int) := by
  show IntKind.u8.wrap ((BitVec.ofInt 8 (a.toNat : Int)) &&& (BitVec.ofInt 8 (b.toNat : Int))).toNat = _
  rw [ofInt_nat, ofInt_nat, BitVec.toNat_and, BitVec.toNat_ofNat, BitVec.toNat_ofNat, Nat.mod_eq_of_lt a.toNat_lt, Nat.mod_eq_of_lt b.toNat_lt, UInt8.toNat_and, wrapu8_eq]
  have := Nat.lt_of_le_of_lt (Nat.and_le_left (n := a.toNat) (m := b.toNat)) a.toNat_lt
  omega
set_option maxRecDepth 10000 in
theorem or_128 (n : Nat) : UInt8.ofNat n ||| 128 = UInt8.ofNat (n % 128 + 128) := by
  apply UInt8.eq_of_toBitVec_eq
  apply BitVec.eq_of_toNat_eq
  show (UInt8.ofNat n ||| 128).toNat = (UInt8.ofNat (n % 128 + 128)).toNat
  rw [UInt8.toNat_or, UInt8.toNat_ofNat', UInt8.toNat_ofNat']
  have h : ∀ m, m < 256 → m ||| 128 = m % 128 + 128 := by decide
  have := h (n % 256) (by omega)
  show n % 2 ^ 8 ||| 128 = _
  rw [this]
  omega
theorem shr_nat (a k : Nat) (B : Nat) (hk : k ≤ B) : Int.fdiv (a : Int) (2 ^ (min (Int.toNat (k : Int)) B)) = ((a / 2 ^ k : Nat) : Int) := by
  rw [Int.toNat_natCast, Nat.min_eq_left hk, Int.fdiv_eq_ediv_of_nonneg _ (Int.pow_nonneg (by omega))]
  simp
end Go.Proofs.Ytfghglacfjncmaa
