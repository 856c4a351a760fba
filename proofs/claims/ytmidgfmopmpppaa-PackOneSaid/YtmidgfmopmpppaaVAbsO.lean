/- Rows that a function grew itself; and words of 64 bits as natural numbers. -/
import Derived.Test.YtmidgfmopmpppaaVAbsU
namespace Go.Proofs.Ytmidgfmopmpppaa
set_option linter.unusedVariables false
set_option linter.unusedSimpArgs false
open Go.RowKit

theorem Ext.drop {A B : AH} (h : Ext A B) {i : Nat} (hi : A.next ≤ i) : Ext A (B.drop i) :=
  ⟨h.next, fun j hj => by rw [AH.get_drop, if_neg (by omega)]; exact h.get j hj⟩
theorem Ext.set {A B : AH} (h : Ext A B) {i : Nat} (hi : A.next ≤ i) (o : AObj) : Ext A (B.set i o) :=
  ⟨h.next, fun j hj => by rw [AH.get_set, if_neg (by omega)]; exact h.get j hj⟩

inductive Own (e : Nat) (H0 H : AH) : Value → Nat → List Value → Prop
  | nil : Ext H0 H → Own e H0 H (.slice none 0 0) 0 []
  | row {i n : Nat} {cs : List Value} : Ext H0 H → H0.next ≤ i → i < H.next → H.get i = some (.row cs e) → cs.length = n * e → Own e H0 H (.slice (some ⟨i, 0, none⟩) n 0) n cs

theorem Own.ext {e : Nat} {H0 H : AH} {v : Value} {n : Nat} {cs : List Value} (h : Own e H0 H v n cs) : Ext H0 H := by cases h <;> assumption
theorem Own.grow {e : Nat} {H0 H H' : AH} {v : Value} {n : Nat} {cs : List Value} (h : Own e H0 H v n cs) (x : Ext H H') : Own e H0 H' v n cs := by
  cases h with
  | nil h => exact .nil (h.trans x)
  | row h1 h2 h3 h4 h5 => exact .row (h1.trans x) h2 (Nat.lt_of_lt_of_le h3 x.next) ((x.get _ h3).trans h4) h5

theorem aAppend_own {P : Program} {e : TypeId} {x : Value} {new : List Value} {k : Nat} {H H0 : AH} {K : KV} {n : Nat} {cs : List Value} (ho : Own (P.cellsOf e) H0 H x n cs)
    (ht : tyOK P e = true) (hc : P.cellsOf e ≠ 0) (hn : new.length = k * P.cellsOf e) (ha : (new.all oneCell) = true) (hz : (((P.info? e).bind (·.zero)).any fun z => z.cells.size == P.cellsOf e) = true)
    (hb : (n + k) * P.bytesOf e ≤ 140737488355328) (hk : n + k ≤ 9223372036854775807) (h : ∀ v H', Own (P.cellsOf e) H0 H' v (n + k) (cs ++ new) → K v H') : aAppend P e x new k H K := by
  refine ⟨ht, hc, hn, ha, hz, ?_⟩
  cases ho with
  | nil hx =>
    cases k with
    | zero =>
      have hnil : new = [] := List.eq_nil_of_length_eq_zero (by simpa using hn)
      subst hnil
      exact h _ _ (.nil hx)
    | succ k =>
      dsimp only
      rw [Nat.zero_add] at hb hk
      refine ⟨hb, hk, h _ _ ?_⟩
      rw [Nat.zero_add]
      exact .row (hx.push _) hx.next (by rw [AH.next_push]; omega) (by rw [AH.get_push, if_pos rfl]; rfl) (by simpa using hn)
  | @row i _ _ hx h2 h3 h4 h5 =>
    simp only [h4]
    refine ⟨trivial, by omega, hb, hk, h _ _ ?_⟩
    exact .row ((hx.drop h2).push _) (Nat.le_trans hx.next (Nat.le_refl _)) (by rw [AH.next_push]; exact Nat.lt_succ_self _) (by rw [AH.get_push, AH.next_drop, if_pos rfl]; simp) (by rw [List.length_append, h5, hn, Nat.add_mul])

theorem cv_int {P : Program} {src dst : TypeId} {k k0 : IntKind} (hd : P.underlying dst = some (.int k)) (ht : tyOK P src = true) {n : Int} {H : AH} {K : KV} :
    aConvert P src dst (.int k0 n) H K = K (.int k (k.wrap n)) H := by
  have hs : (P.underlying src).isSome = true := by
    have : ((P.info? src).isSome && (P.underlying src).isSome) = true := ht
    simp at this; exact this.2
  simp [aConvert, hd, ht, hs]

structure ByteTy (P : Program) (t e : TypeId) : Prop where
  ut : P.underlying t = some (.slice e)
  ue : P.underlying e = some (.int .u8)
  ty : tyOK P e = true
  ce : P.cellsOf e = 1
  by_ : P.bytesOf e = 1
  ze : (P.info? e).bind (·.zero) = some (.int .u8 0)

abbrev OwnB (H0 H : AH) (v : Value) (l : List UInt8) : Prop := Own 1 H0 H v l.length (bcells l)

theorem bcells_append (l k : List UInt8) : bcells (l ++ k) = bcells l ++ bcells k := by simp [bcells]
theorem bcells_one (l : List UInt8) : (bcells l).all oneCell = true := by
  rw [List.all_eq_true]; intro v hv
  obtain ⟨b, _, rfl⟩ := List.mem_map.1 hv
  rfl

section
variable {P : Program} {t e : TypeId} (hT : ByteTy P t e) {H0 H : AH} {v : Value} {l : List UInt8} {K : KV}
include hT

theorem buildByte (b : UInt8) (h : K (.slice (some ⟨H.next, 0, none⟩) 1 0) (H.push (.row (bcells [b]) 1))) : aBuildSlice P t 1 [(0, .int .u8 b.toNat)] H K := by
  simp only [aBuildSlice, hT.ut, hT.ze, hT.ce]
  refine ⟨rfl, rfl, by decide, by decide, by decide, ?_⟩
  exact ⟨rfl, h⟩

theorem aAppend_bytes (ho : OwnB H0 H v l) (k : List UInt8) (n : Nat) (hn : n = k.length) (hl : l.length + k.length ≤ 140737488355328) (h : ∀ v' H', OwnB H0 H' v' (l ++ k) → K v' H') : aAppend P e v (bcells k) n H K := by
  have ho' : Own (P.cellsOf e) H0 H v l.length (bcells l) := by rw [hT.ce]; exact ho
  subst hn
  refine aAppend_own ho' hT.ty (by rw [hT.ce]; decide) (by rw [hT.ce, bcells_length, Nat.mul_one]) (bcells_one _) (by rw [hT.ze, hT.ce]; rfl) (by rw [hT.by_]; omega) (by omega) ?_
  intro v' H' h'
  rw [hT.ce] at h'
  refine h v' H' ?_
  show Own 1 H0 H' v' _ (bcells (l ++ k))
  rw [List.length_append, bcells_append]
  exact h'

theorem appendByte (ho : OwnB H0 H v l) (b : UInt8) (hl : l.length + 1 ≤ 140737488355328) (h : ∀ v' H', OwnB H0 H' v' (l ++ [b]) → K v' H') :
    aBuildSlice P t 1 [(0, .int .u8 b.toNat)] H fun v1 H1 => aBuiltin P .append [t, t] [v, v1] H1 K := by
  refine buildByte hT b ?_
  simp only [aBuiltin, hT.ut]
  have hs : sliceCells (H.push (.row (bcells [b]) 1)) (P.cellsOf e) (.slice (some ⟨H.next, 0, none⟩) 1 0) = some (bcells [b]) := by
    rw [hT.ce]
    simp only [sliceCells, AH.cells, AH.get_push, if_true]
    rfl
  rw [hs]
  exact aAppend_bytes hT (ho.grow ((Ext.refl H).push _)) [b] 1 rfl hl h

theorem ownText {s : TypeId} (hs : P.underlying s = some .string) (ho : OwnB H0 H v l) (h : K (.string ⟨l.toArray⟩) H) : aConvert P t s v H K := by
  have ho' : Own 1 H0 H v l.length (bcells l) := ho
  clear ho
  revert ho'
  generalize hn : l.length = n
  generalize hc : bcells l = cs
  intro ho
  cases ho with
  | nil hx =>
    have : l = [] := List.eq_nil_of_length_eq_zero hn
    subst this
    simp only [aConvert, hs, hT.ut]
    exact ⟨⟨_, rfl, hT.ue⟩, rfl, h⟩
  | @row i _ _ hx h2 h3 h4 h5 =>
    subst hc
    subst hn
    simp only [aConvert, hs, hT.ut]
    refine ⟨⟨_, rfl, hT.ue⟩, ?_⟩
    have : sliceCells H 1 (.slice (some ⟨i, 0, none⟩) l.length 0) = some (bcells l) := by
      simp only [sliceCells, AH.cells, h4, bcells_length, Nat.mul_one, Nat.zero_add, Nat.le_refl, if_true, List.drop_zero]
      rw [List.take_of_length_le (by rw [bcells_length]; exact Nat.le_refl _)]
    rw [this]
    exact ⟨bcells_all l, by rw [bcells_bytes]; exact h⟩
end

/-! Words of 64 bits as natural numbers. -/
section
variable {P : Program} {K : Value → Prop} {t : TypeId}

theorem bu_or (a b : Nat) (ha : a < 18446744073709551616) (hb : b < 18446744073709551616) : aBin P .or t (.int .u64 a) (.int .u64 b) K = K (.int .u64 ((a ||| b : Nat) : Int)) := by
  show (IntKind.u64 = IntKind.u64 ∧ K (.int .u64 (IntKind.u64.wrap ((BitVec.ofInt 64 (a : Int) ||| BitVec.ofInt 64 (b : Int)).toNat : Int)))) = _
  have e : (BitVec.ofInt 64 (a : Int) ||| BitVec.ofInt 64 (b : Int)).toNat = a ||| b := by
    rw [BitVec.ofInt_natCast, BitVec.ofInt_natCast, BitVec.toNat_or, BitVec.toNat_ofNat, BitVec.toNat_ofNat, Nat.mod_eq_of_lt ha, Nat.mod_eq_of_lt hb]
  rw [e, wrap_u64 _ (Nat.or_lt_two_pow (n := 64) ha hb)]
  simp
theorem bu_and (a b : Nat) (ha : a < 18446744073709551616) (hb : b < 18446744073709551616) : aBin P .and t (.int .u64 a) (.int .u64 b) K = K (.int .u64 ((a &&& b : Nat) : Int)) := by
  show (IntKind.u64 = IntKind.u64 ∧ K (.int .u64 (IntKind.u64.wrap ((BitVec.ofInt 64 (a : Int) &&& BitVec.ofInt 64 (b : Int)).toNat : Int)))) = _
  have e : (BitVec.ofInt 64 (a : Int) &&& BitVec.ofInt 64 (b : Int)).toNat = a &&& b := by
    rw [BitVec.ofInt_natCast, BitVec.ofInt_natCast, BitVec.toNat_and, BitVec.toNat_ofNat, BitVec.toNat_ofNat, Nat.mod_eq_of_lt ha, Nat.mod_eq_of_lt hb]
  rw [e, wrap_u64 _ (Nat.and_lt_two_pow (n := 64) a hb)]
  simp
theorem bu_xor (a b : Nat) (ha : a < 18446744073709551616) (hb : b < 18446744073709551616) : aBin P .xor t (.int .u64 a) (.int .u64 b) K = K (.int .u64 ((a ^^^ b : Nat) : Int)) := by
  show (IntKind.u64 = IntKind.u64 ∧ K (.int .u64 (IntKind.u64.wrap ((BitVec.ofInt 64 (a : Int) ^^^ BitVec.ofInt 64 (b : Int)).toNat : Int)))) = _
  have e : (BitVec.ofInt 64 (a : Int) ^^^ BitVec.ofInt 64 (b : Int)).toNat = a ^^^ b := by
    rw [BitVec.ofInt_natCast, BitVec.ofInt_natCast, BitVec.toNat_xor, BitVec.toNat_ofNat, BitVec.toNat_ofNat, Nat.mod_eq_of_lt ha, Nat.mod_eq_of_lt hb]
  rw [e, wrap_u64 _ (Nat.xor_lt_two_pow (n := 64) ha hb)]
  simp
theorem bu_shr (k : IntKind) (a : Nat) (s : Nat) (hs : s ≤ 64) (k' : IntKind) (hk : k.bits = 64) : aBin P .shr t (.int k a) (.int k' s) K = K (.int k ((a / 2 ^ s : Nat) : Int)) := by
  show (0 ≤ (s : Int) ∧ K (.int k ((a : Int).fdiv (2 ^ (min (s : Int).toNat k.bits))))) = _
  rw [hk, Int.toNat_natCast, Nat.min_eq_left hs, Int.fdiv_eq_ediv_of_nonneg _ (Int.pow_nonneg (by omega))]
  simp
theorem bu_shl (a : Nat) (s : Nat) (hs : s ≤ 64) (k' : IntKind) (h : a * 2 ^ s < 18446744073709551616) : aBin P .shl t (.int .u64 a) (.int k' s) K = K (.int .u64 ((a * 2 ^ s : Nat) : Int)) := by
  show (0 ≤ (s : Int) ∧ K (.int .u64 (IntKind.u64.wrap ((a : Int) * (2 ^ (min (s : Int).toNat 64)))))) = _
  rw [Int.toNat_natCast, Nat.min_eq_left hs]
  have : (a : Int) * 2 ^ s = ((a * 2 ^ s : Nat) : Int) := by simp
  rw [this, wrap_u64 _ h]
  simp
theorem bu8_or (a b : UInt8) : aBin P .or t (.int .u8 a.toNat) (.int .u8 b.toNat) K = K (.int .u8 (a ||| b).toNat) := by
  show (IntKind.u8 = IntKind.u8 ∧ K (.int .u8 (IntKind.u8.wrap ((BitVec.ofInt 8 (a.toNat : Int) ||| BitVec.ofInt 8 (b.toNat : Int)).toNat : Int)))) = _
  have e : (BitVec.ofInt 8 (a.toNat : Int) ||| BitVec.ofInt 8 (b.toNat : Int)).toNat = (a ||| b).toNat := by
    rw [BitVec.ofInt_natCast, BitVec.ofInt_natCast, UInt8.toNat_or, BitVec.toNat_or, BitVec.toNat_ofNat, BitVec.toNat_ofNat, Nat.mod_eq_of_lt (UInt8.toNat_lt a), Nat.mod_eq_of_lt (UInt8.toNat_lt b)]
  rw [e, wrap_u8 _ (UInt8.toNat_lt _)]
  simp
theorem bu8_and (a b : UInt8) : aBin P .and t (.int .u8 a.toNat) (.int .u8 b.toNat) K = K (.int .u8 (a &&& b).toNat) := by
  show (IntKind.u8 = IntKind.u8 ∧ K (.int .u8 (IntKind.u8.wrap ((BitVec.ofInt 8 (a.toNat : Int) &&& BitVec.ofInt 8 (b.toNat : Int)).toNat : Int)))) = _
  have e : (BitVec.ofInt 8 (a.toNat : Int) &&& BitVec.ofInt 8 (b.toNat : Int)).toNat = (a &&& b).toNat := by
    rw [BitVec.ofInt_natCast, BitVec.ofInt_natCast, UInt8.toNat_and, BitVec.toNat_and, BitVec.toNat_ofNat, BitVec.toNat_ofNat, Nat.mod_eq_of_lt (UInt8.toNat_lt a), Nat.mod_eq_of_lt (UInt8.toNat_lt b)]
  rw [e, wrap_u8 _ (UInt8.toNat_lt _)]
  simp
theorem wrap_u8_of (n : Nat) : IntKind.u8.wrap (n : Int) = ((UInt8.ofNat n).toNat : Int) := by
  rw [wrapu8_eq, UInt8.toNat_ofNat']
  omega
end
end Go.Proofs.Ytmidgfmopmpppaa
