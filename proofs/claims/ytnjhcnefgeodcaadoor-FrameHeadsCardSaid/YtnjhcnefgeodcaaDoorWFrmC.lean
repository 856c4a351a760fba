/- The frame's small functions. -/
import Derived.Test.YtnjhcnefgeodcaaDoorWFrmA
import Derived.Test.YtnjhcnefgeodcaaDoorWFrmB
import Derived.Test.YtnjhcnefgeodcaaDoorWAbsS
import Derived.Test.YtnjhcnefgeodcaaDoorWShlD
namespace Go.Proofs.YtnjhcnefgeodcaaDoor
set_option linter.unusedVariables false
set_option linter.unusedSimpArgs false
open Go.RowKit

theorem PinOK_at {H : AH} {o k : Nat} {cells cs : List Value} {e : Nat} (h : Has H o (.row cs e)) (hl : k + cells.length ≤ cs.length) (hc : (cs.drop k).take cells.length = cells) : PinOK o k cells H :=
  ⟨cs, by simp only [AH.cells, h.get], hl, hc⟩
theorem wb64 (n i : Nat) (hn : n < 18446744073709551616) (hi : i < 8) : IntKind.u8.wrap (Int.fdiv (n : Int) (2 ^ (min (Int.toNat (IntKind.i64.wrap (8 * (i : Int)))) IntKind.u64.bits))) = ((UInt8.ofNat (n / 256 ^ i)).toNat : Int) := by
  rw [wi _ (by omega) (by omega), show (8 * (i : Int)) = ((8 * i : Nat) : Int) by omega, shr_nat n (8 * i) _ (by show 8 * i ≤ 64; omega), wb, Nat.pow_mul]
theorem bcells_setIdx (l : List UInt8) (k : Nat) (x : UInt8) {v : Int} (h : v = (x.toNat : Int)) : setCells (bcells l) k [.int .u8 v] = bcells (l.set k x) := by rw [h]; exact bcells_set l k x
/-- A row of bytes that is filled from its end. -/
theorem be_fill (size n i : Nat) (l : List UInt8) (h : i < size) (hl : l.length = size) (hd : l.drop (size - i) = (be size n).drop (size - i)) :
    (l.set (size - 1 - i) (UInt8.ofNat (n / 256 ^ i))).drop (size - (i + 1)) = (be size n).drop (size - (i + 1)) := by
  have e : size - (i + 1) = size - 1 - i := by omega
  rw [e]
  have hb := be_at size n i h
  have hlt : size - 1 - i < (be size n).length := by rw [be_length]; omega
  rw [List.drop_eq_getElem_cons hlt, List.drop_eq_getElem_cons (by rw [List.length_set]; omega)]
  have hb2 : (be size n)[size - 1 - i] = UInt8.ofNat (n / 256 ^ i) := by
    rw [List.getElem?_eq_getElem hlt] at hb
    exact Option.some.inj hb
  rw [hb2, List.getElem_set_self, List.drop_set_of_lt (by omega), show size - 1 - i + 1 = size - i by omega, hd]

section
variable {H : AH} {R : AEnd → AH → Prop}
set_option maxRecDepth 20000 in
theorem fixed_call (n size : Nat) (hn : n < 18446744073709551616) (hs : size ≤ 8) (h : ∀ H', Fr [] H H' → R (.ret (.string (ofL (be size n)))) H') : ACall Tryd.prog 20 [.int .u64 (n : Int), .int .i64 (size : Int)] H R := by
  apply f20_call
  unfold f20_B
  refine wMk_at (by omega) (by omega) (by omega) (by omega) ?_
  rw [bcells_rep, Int.toNat_natCast]
  have hb := Has.new H (.row (bcells (List.replicate size 0)) 1)
  have f0 : Fr [] H (H.push (.row (bcells (List.replicate size 0)) 1)) := (Fr.refl [] H).push _
  have hge : H.next ≤ H.next := Nat.le_refl _
  generalize H.push (.row (bcells (List.replicate size 0)) 1) = H1 at hb f0 ⊢
  generalize ho : H.next = o at hb
  refine f20_L0_rule (J := fun m s11 H' => ∃ (i : Nat) (l : List UInt8), i ≤ size ∧ m = size - i ∧ s11 = (i : Int) ∧ l.length = size ∧ l.drop (size - i) = (be size n).drop (size - i) ∧ Has H' o (.row (bcells l) 1) ∧ Fr [] H H') size
    ⟨0, List.replicate size 0, by omega, by omega, rfl, by simp, by rw [Nat.sub_zero, List.drop_of_length_le (by simp), List.drop_of_length_le (by rw [be_length]; omega)], hb, f0⟩ ?_
  rintro m s11 H2 ⟨i, l, hi, rfl, rfl, hl, hd, hb2, f2⟩
  intros
  unfold f20_R0
  refine wIf_d (fun hlt => ?_) (fun hlt => ?_)
  · have hlt : i < size := by omega
    have e1 : IntKind.i64.wrap (8 * (i : Int)) = 8 * (i : Int) := wi _ (by omega) (by omega)
    have e2 : IntKind.i64.wrap (IntKind.i64.wrap ((size : Int) - 1) - (i : Int)) = ((size - 1 - i : Nat) : Int) := by rw [wi ((size : Int) - 1) (by omega) (by omega), wi _ (by omega) (by omega)]; omega
    refine wNn_at (by rw [e1]; omega) ?_
    rw [e2]
    refine wIx_at (by omega) (by omega) (wSt_at hb2 (by rw [bcells_length]; simp; omega) ?_)
    have e3 : setCells (bcells l) (0 + ((size - 1 - i : Nat) : Int).toNat * 1) [.int .u8 (IntKind.u8.wrap (Int.fdiv (n : Int) (2 ^ (min (Int.toNat (IntKind.i64.wrap (8 * (i : Int)))) IntKind.u64.bits))))] = bcells (l.set (size - 1 - i) (UInt8.ofNat (n / 256 ^ i))) := by
      rw [Int.toNat_natCast, Nat.zero_add, Nat.mul_one]
      exact bcells_setIdx _ _ _ (wb64 n i hn (by omega))
    rw [e3]
    exact ⟨size - (i + 1), by omega, f20_I0_mk ⟨i + 1, _, by omega, rfl, wi1 i (by omega), by rw [List.length_set]; exact hl, be_fill size n i l hlt hl hd, hb2.set _, f2.set (.inr (by omega)) _⟩⟩
  · have : i = size := by omega
    subst this
    rw [Nat.sub_self, List.drop_zero, List.drop_zero] at hd
    subst hd
    rw [f20_J0_eq]
    unfold f20_J0_B
    exact wB2S_at hb2 (by rw [be_length]) (h _ f2)
theorem rbytes_call (n size : Nat) (hn : n < 18446744073709551616) (hs : size ≤ 8) (h : ∀ H', Fr [] H H' → R (.ret (.string (ofL (be size n)))) H') : ACall Tryd.prog 23 [.int .u64 (n : Int), .int .i64 (size : Int)] H R := by
  apply f23_call
  unfold f23_B
  refine f23_L0_rule (J := fun m s0 s5 s6 H' => ∃ (i : Nat), i ≤ size ∧ m = size - i ∧ s6 = (i : Int) ∧ s0 = ((n / 256 ^ i : Nat) : Int) ∧ s5 = ofL (be i n) ∧ Fr [] H H') size
    ⟨0, by omega, by omega, rfl, by simp, rfl, Fr.refl _ _⟩ ?_
  rintro m s0 s5 s6 H2 ⟨i, hi, rfl, rfl, rfl, rfl, f2⟩
  intros
  unfold f23_R0
  refine wIf_d (fun hlt => ?_) (fun hlt => ?_)
  · have hle : n / 256 ^ i ≤ n := Nat.div_le_self _ _
    have e1 : Int.tmod ((n / 256 ^ i : Nat) : Int) 256 = ((n / 256 ^ i % 256 : Nat) : Int) := rfl
    have e2 : IntKind.u64.wrap (Int.tdiv ((n / 256 ^ i : Nat) : Int) 256) = ((n / 256 ^ (i + 1) : Nat) : Int) := by
      have : Int.tdiv ((n / 256 ^ i : Nat) : Int) 256 = ((n / 256 ^ i / 256 : Nat) : Int) := rfl
      rw [this, wu _ (by omega), Nat.div_div_eq_div_mul, ← Nat.pow_succ]
    have e3 : (UInt8.ofNat (n / 256 ^ i % 256)) = UInt8.ofNat (n / 256 ^ i) := by
      apply UInt8.toNat_inj.1
      rw [UInt8.toNat_ofNat', UInt8.toNat_ofNat']
      omega
    rw [e1, wb, e3, e2]
    refine wBs_at (wB2S_at (l := [UInt8.ofNat (n / 256 ^ i)]) (Has.new _ _) rfl (wCat_at (by rw [ofL_size, ofL_size, be_length]; simp; omega) ?_))
    rw [ofL_append]
    exact ⟨size - (i + 1), by omega, f23_I0_mk ⟨i + 1, by omega, rfl, wi1 i (by omega), rfl, by rw [be_succ]; rfl, f2.push _⟩⟩
  · have : i = size := by omega
    subst this
    exact h _ f2
theorem or_word (a : Nat) (c : UInt8) (ha : a < 72057594037927936) :
    IntKind.u64.wrap ((BitVec.ofInt IntKind.u64.bits (IntKind.u64.wrap ((a : Int) * (2 ^ (min (Int.toNat 8) IntKind.u64.bits))))) ||| (BitVec.ofInt IntKind.u64.bits (IntKind.u64.wrap (c.toNat : Int)))).toNat = ((a * 256 + c.toNat : Nat) : Int) := by
  have hc := UInt8.toNat_lt c
  have e1 : IntKind.u64.wrap ((a : Int) * (2 ^ (min (Int.toNat 8) IntKind.u64.bits))) = ((a * 256 : Nat) : Int) := by
    show IntKind.u64.wrap ((a : Int) * 2 ^ 8) = _
    rw [show (a : Int) * 2 ^ 8 = ((a * 256 : Nat) : Int) by omega, wu _ (by omega)]
  rw [e1, wu c.toNat (by omega), u64_or _ _ (by omega) (by omega)]
  have := Nat.shiftLeft_add_eq_or_of_lt (i := 8) (b := c.toNat) (by omega) a
  rw [Nat.shiftLeft_eq] at this
  rw [← this]
theorem nval_take (l : List UInt8) (k : Nat) (h : k < l.length) : nval (l.take (k + 1)) = nval (l.take k) * 256 + (l.getD k 0).toNat := by
  rw [List.take_succ_eq_append_getElem h, nval_snoc, List.getD_eq_getElem?_getD, List.getElem?_eq_getElem h]; rfl
theorem nval8 {l : List UInt8} (h : l.length ≤ 8) : nval l < 18446744073709551616 := by
  have h1 := nval_lt l
  have h2 : 256 ^ l.length ≤ 256 ^ 8 := Nat.pow_le_pow_right (by omega) h
  omega
theorem nval7 {l : List UInt8} (h : l.length ≤ 7) : nval l < 72057594037927936 := by
  have h1 := nval_lt l
  have h2 : 256 ^ l.length ≤ 256 ^ 7 := Nat.pow_le_pow_right (by omega) h
  omega
set_option maxRecDepth 20000 in
theorem number_call (s : ByteArray) (hs : s.size ≤ 8) (h : ∀ H', Fr [] H H' → R (.ret (.int .u64 ((nval s.data.toList : Nat) : Int))) H') : ACall Tryd.prog 26 [.string s] H R := by
  apply f26_call
  unfold f26_B
  refine wS2B_at (by omega) ?_
  have hb := Has.new H (.row (byteCells s) 1)
  have f0 : Fr [] H (H.push (.row (byteCells s) 1)) := (Fr.refl [] H).push _
  rw [byteCells_eq] at hb f0 ⊢
  generalize H.push (.row (bcells s.data.toList) 1) = H1 at hb f0 ⊢
  generalize H.next = o at hb
  have hlen := data_len s
  refine f26_L0_rule (J := fun n x3 x9 H' => ∃ k : Nat, k ≤ s.size ∧ n = s.size - k ∧ x9 = (k : Int) ∧ x3 = ((nval (s.data.toList.take k) : Nat) : Int) ∧ H' = H1) s.size
    ⟨0, by omega, by omega, rfl, rfl, rfl⟩ ?_
  rintro n x3 x9 H' ⟨k, hk, rfl, rfl, rfl, rfl⟩
  intros
  unfold f26_R0
  refine wIf_d (fun hlt => ?_) (fun hlt => ?_)
  · have hlt : k < s.size := by omega
    refine wIx_at (by omega) (by omega) (ldI_at hb (byteCells_at' s k hlt) ?_)
    rw [or_word _ _ (nval7 (by rw [List.length_take]; omega))]
    exact ⟨s.size - (k + 1), by omega, f26_I0_mk ⟨k + 1, by omega, rfl, wi1 k (by omega), by rw [nval_take _ _ (by omega)], rfl⟩⟩
  · have : k = s.size := by omega
    subst this
    rw [List.take_of_length_le (by omega)]
    exact h _ f0
theorem rvalue_call (s : ByteArray) (hs : s.size ≤ 8) (h : R (.ret (.int .u64 ((nval s.data.toList : Nat) : Int))) H) : ACall Tryd.prog 28 [.string s] H R := by
  apply f28_call
  unfold f28_B
  have hlen := data_len s
  refine f28_L0_rule (J := fun n x3 x9 H' => ∃ k : Nat, k ≤ s.size ∧ n = s.size - k ∧ x9 = (k : Int) ∧ x3 = ((nval (s.data.toList.take k) : Nat) : Int) ∧ H' = H) s.size
    ⟨0, by omega, by omega, rfl, rfl, rfl⟩ ?_
  rintro n x3 x9 H' ⟨k, hk, rfl, rfl, rfl, rfl⟩
  intros
  unfold f28_R0
  refine wIf_d (fun hlt => ?_) (fun hlt => ?_)
  · have hlt : k < s.size := by omega
    refine wIxS_at (by omega) (by omega) ?_
    rw [Int.toNat_natCast]
    have h7 : nval (s.data.toList.take k) < 72057594037927936 := nval7 (by rw [List.length_take]; omega)
    have hx := UInt8.toNat_lt (s.data.toList.getD k 0)
    have e : IntKind.u64.wrap (IntKind.u64.wrap (256 * ((nval (s.data.toList.take k) : Nat) : Int)) + IntKind.u64.wrap ((s.data.toList.getD k 0).toNat : Int)) = ((nval (s.data.toList.take (k + 1)) : Nat) : Int) := by
      rw [nval_take _ _ (by omega), show 256 * ((nval (s.data.toList.take k) : Nat) : Int) = ((256 * nval (s.data.toList.take k) : Nat) : Int) by omega, wu _ (by omega), wu _ (by omega),
        show ((256 * nval (s.data.toList.take k) : Nat) : Int) + ((s.data.toList.getD k 0).toNat : Int) = ((256 * nval (s.data.toList.take k) + (s.data.toList.getD k 0).toNat : Nat) : Int) by omega, wu _ (by omega)]
      omega
    rw [e]
    exact ⟨s.size - (k + 1), by omega, f28_I0_mk ⟨k + 1, by omega, rfl, wi1 k (by omega), rfl, rfl⟩⟩
  · have : k = s.size := by omega
    subst this
    rw [List.take_of_length_le (by omega)] at *
    exact h

/-! What the library does. -/
theorem rep_zero (n : Nat) : Lib.repeatL [0] n = List.replicate n 0 := by
  induction n with
  | zero => rfl
  | succ n ih => show 0 :: Lib.repeatL [0] n = _; rw [ih, List.replicate_succ]
theorem repeat_call (n : Nat) (hn : n ≤ 1000) (hR : R (.ret (.string (ofL (List.replicate n 0)))) H) : ACall Tryd.prog 30 [.string ⟨#[0]⟩, .int .i64 (n : Int)] H R := by
  refine acall_keep _ ?_ hR
  intro B w0 μ w cargs hr ha
  obtain ⟨hs, hat⟩ := ha
  obtain ⟨c0, h0, hv0⟩ := hat 0 _ rfl
  obtain ⟨c1, h1, hv1⟩ := hat 1 _ rfl
  cases hv0
  cases hv1
  obtain rfl : cargs = #[.string ⟨#[0]⟩, .int .i64 (n : Int)] := by
    apply Array.ext (by simpa using hs.symm)
    intro i hi hj
    have : i = 0 ∨ i = 1 := by simp at hj; omega
    rcases this with rfl | rfl
    · have := (Array.getElem?_eq_some_iff.1 h0).2; simpa using this
    · have := (Array.getElem?_eq_some_iff.1 h1).2; simpa using this
  refine (Shl.strings_Repeat ⟨#[0]⟩ n w (by omega) (by show 1 * n ≤ _; omega)).mono ?_
  rintro e w' ⟨rfl, hb⟩
  have e : Lib.repeatL (⟨#[0]⟩ : ByteArray).data.toList n = List.replicate n 0 := rep_zero n
  rw [e]
  exact ⟨⟨_, rfl, .string _⟩, hb⟩
theorem trim_call (s : ByteArray) (hs : s.size ≤ 9223372036854775807) (hR : R (.ret (.string (ofL (Lib.trimB s.data.toList 0)))) H) : ACall Tryd.prog 27 [.string s, .string ⟨#[0]⟩] H R := by
  refine acall_keep _ ?_ hR
  intro B w0 μ w cargs hr ha
  obtain ⟨hz, hat⟩ := ha
  obtain ⟨c0, h0, hv0⟩ := hat 0 _ rfl
  obtain ⟨c1, h1, hv1⟩ := hat 1 _ rfl
  cases hv0
  cases hv1
  obtain rfl : cargs = #[.string s, .string ⟨#[0]⟩] := by
    apply Array.ext (by simpa using hz.symm)
    intro i hi hj
    have : i = 0 ∨ i = 1 := by simp at hj; omega
    rcases this with rfl | rfl
    · have := (Array.getElem?_eq_some_iff.1 h0).2; simpa using this
    · have := (Array.getElem?_eq_some_iff.1 h1).2; simpa using this
  refine (Shl.strings_Trim_one s 0 (by decide) w hs).mono ?_
  rintro e w' ⟨rfl, hb⟩
  refine ⟨⟨_, rfl, .string _⟩, ?_⟩
  rcases hb with rfl | rfl
  · exact Below.refl _ _
  · exact (Below.refl _ _).drew
end
end Go.Proofs.YtnjhcnefgeodcaaDoor
