/- The register of the checksum as words: a step is linear, so is what is made of steps. Plain Lean, no program. -/
namespace Go.Proofs.YtnjhcnefgeodcaaDoor
set_option linter.unusedVariables false
set_option linter.unusedSimpArgs false

def poly : BitVec 32 := 0x82F63B78#32
def crcStep (b : BitVec 32) : BitVec 32 := (b >>> 1) ^^^ (poly &&& -(b &&& 1#32))
def steps : Nat → BitVec 32 → BitVec 32
  | 0, b => b
  | n + 1, b => steps n (crcStep b)
theorem steps_succ (n : Nat) (b : BitVec 32) : steps (n + 1) b = crcStep (steps n b) := by
  induction n generalizing b with
  | zero => rfl
  | succ n ih => exact ih (crcStep b)
theorem steps_add (m n : Nat) (b : BitVec 32) : steps (m + n) b = steps m (steps n b) := by
  induction m with
  | zero => rw [Nat.zero_add]; rfl
  | succ m ih => rw [Nat.add_right_comm, steps_succ, ih, steps_succ]

theorem lsb_cases (b : BitVec 32) : (b.getLsbD 0 = true ∧ b &&& 1#32 = 1#32) ∨ (b.getLsbD 0 = false ∧ b &&& 1#32 = 0#32) := by
  cases h : b.getLsbD 0 with
  | true =>
    refine .inl ⟨rfl, ?_⟩
    apply BitVec.eq_of_getLsbD_eq
    intro i hi
    rw [BitVec.getLsbD_and]
    by_cases e : i = 0
    · subst e; rw [h]; rfl
    · simp [e]
  | false =>
    refine .inr ⟨rfl, ?_⟩
    apply BitVec.eq_of_getLsbD_eq
    intro i hi
    rw [BitVec.getLsbD_and]
    by_cases e : i = 0
    · subst e; rw [h]; rfl
    · simp [e]

theorem crcStep_eq (b : BitVec 32) : crcStep b = (b >>> 1) ^^^ (if b.getLsbD 0 then poly else 0#32) := by
  unfold crcStep
  rcases lsb_cases b with ⟨h1, h2⟩ | ⟨h1, h2⟩
  · rw [h1, h2]
    have : poly &&& -(1#32) = poly := by decide
    rw [this]; rfl
  · rw [h1, h2]
    have : poly &&& -(0#32) = 0#32 := by decide
    rw [this]; rfl

theorem xor4 (a b c d : BitVec 32) : (a ^^^ b) ^^^ (c ^^^ d) = (a ^^^ c) ^^^ (b ^^^ d) := by
  rw [BitVec.xor_assoc, ← BitVec.xor_assoc b c d, BitVec.xor_comm b c, BitVec.xor_assoc c b d, ← BitVec.xor_assoc]

theorem crcStep_xor (a b : BitVec 32) : crcStep (a ^^^ b) = crcStep a ^^^ crcStep b := by
  rw [crcStep_eq, crcStep_eq, crcStep_eq, BitVec.ushiftRight_xor_distrib, BitVec.getLsbD_xor, xor4]
  congr 1
  cases a.getLsbD 0 <;> cases b.getLsbD 0 <;> simp
theorem crcStep_zero : crcStep 0#32 = 0#32 := by decide
theorem steps_xor (n : Nat) (a b : BitVec 32) : steps n (a ^^^ b) = steps n a ^^^ steps n b := by
  induction n generalizing a b with
  | zero => rfl
  | succ n ih => simp only [steps, crcStep_xor, ih]
theorem steps_zero (n : Nat) : steps n 0#32 = 0#32 := by
  induction n with
  | zero => rfl
  | succ n ih => simp only [steps, crcStep_zero, ih]

theorem crcStep_inj (x : BitVec 32) (h : crcStep x = 0#32) : x = 0#32 := by
  rw [crcStep_eq] at h
  cases hb : x.getLsbD 0 with
  | true =>
    rw [hb] at h
    have := congrArg (fun b => b.getLsbD 31) h
    simp [poly] at this
  | false =>
    rw [hb] at h
    simp only [Bool.false_eq_true, if_false, BitVec.xor_zero] at h
    apply BitVec.eq_of_getLsbD_eq
    intro i hi
    cases i with
    | zero => rw [hb]; rfl
    | succ i =>
      have := congrArg (fun b => b.getLsbD i) h
      simp only [BitVec.getLsbD_ushiftRight] at this
      rw [Nat.add_comm] at this
      rw [this]; simp
theorem steps_inj (n : Nat) (x : BitVec 32) (h : steps n x = 0#32) : x = 0#32 := by
  induction n generalizing x with
  | zero => exact h
  | succ n ih => exact crcStep_inj x (ih _ h)

def one : BitVec 32 := 0x80000000#32
def timesTo (a b : BitVec 32) : Nat → BitVec 32
  | 0 => 0#32
  | i + 1 => if a &&& (one >>> i) = 0#32 then timesTo a b i else timesTo a b i ^^^ steps i b
theorem timesTo_step (a b : BitVec 32) (n : Nat) : timesTo a (crcStep b) n = crcStep (timesTo a b n) := by
  induction n with
  | zero => simp only [timesTo, crcStep_zero]
  | succ n ih =>
    simp only [timesTo]
    split
    · exact ih
    · rw [ih, crcStep_xor]
      congr 1
      exact steps_succ n b
theorem timesTo_steps (a b : BitVec 32) (n m : Nat) : timesTo a (steps m b) n = steps m (timesTo a b n) := by
  induction m generalizing b with
  | zero => rfl
  | succ m ih => rw [steps, ih, timesTo_step]; rfl
theorem steps_one : ∀ i, i < 32 → steps i one = one >>> i := by decide
theorem one_bit (i j : Nat) (hi : i < 32) (hj : j < 32) : (one >>> i).getLsbD j = decide (j = 31 - i) := by
  have : ∀ i : Fin 32, ∀ j : Fin 32, (one >>> i.val).getLsbD j.val = decide (j.val = 31 - i.val) := by decide
  exact this ⟨i, hi⟩ ⟨j, hj⟩
theorem and_one (a : BitVec 32) (i : Nat) (hi : i < 32) : a &&& (one >>> i) = 0#32 ↔ a.getLsbD (31 - i) = false := by
  constructor
  · intro h
    have := congrArg (fun b => b.getLsbD (31 - i)) h
    simp only [BitVec.getLsbD_and, one_bit i (31 - i) hi (by omega)] at this
    simpa using this
  · intro h
    apply BitVec.eq_of_getLsbD_eq
    intro j hj
    rw [BitVec.getLsbD_and, one_bit i j hi hj]
    by_cases e : j = 31 - i
    · subst e; rw [h]; simp
    · simp [e]
theorem timesTo_one (a : BitVec 32) : ∀ n, n ≤ 32 → ∀ j, j < 32 → (timesTo a one n).getLsbD j = (a.getLsbD j && decide (32 ≤ j + n)) := by
  intro n
  induction n with
  | zero =>
    intro _ j hj
    have : ¬ 32 ≤ j + 0 := by omega
    simp [timesTo]
    omega
  | succ n ih =>
    intro hn j hj
    have h := ih (by omega) j hj
    simp only [timesTo]
    have hb := and_one a n (by omega)
    by_cases hz : a &&& (one >>> n) = 0#32
    · rw [if_pos hz, h]
      have ha := hb.1 hz
      by_cases e : j = 31 - n
      · subst e; rw [ha]; simp
      · congr 1
        simp only [decide_eq_decide]
        omega
    · rw [if_neg hz, BitVec.getLsbD_xor, h, steps_one n (by omega), one_bit n j (by omega) hj]
      by_cases e : j = 31 - n
      · subst e
        have : a.getLsbD (31 - n) = true := by
          cases hq : a.getLsbD (31 - n) with
          | true => rfl
          | false => exact absurd (hb.2 hq) hz
        rw [this]
        have h1 : ¬ (32 ≤ 31 - n + n) := by omega
        have h2 : 32 ≤ 31 - n + (n + 1) := by omega
        simp [h1, h2]
      · have : decide (32 ≤ j + n) = decide (32 ≤ j + (n + 1)) := by simp only [decide_eq_decide]; omega
        simp [e, this]
theorem times_pow (a : BitVec 32) (m : Nat) : timesTo a (steps m one) 32 = steps m a := by
  rw [timesTo_steps]
  congr 1
  apply BitVec.eq_of_getLsbD_eq
  intro j hj
  rw [timesTo_one a 32 (Nat.le_refl _) j hj]
  have : 32 ≤ j + 32 := by omega
  simp [this]

/-- The register moved over so many bytes. -/
def byteStep (r : BitVec 32) (c : UInt8) : BitVec 32 := steps 8 (r ^^^ BitVec.ofNat 32 c.toNat)
def fold (r : BitVec 32) (l : List UInt8) : BitVec 32 := l.foldl byteStep r
def crcSum (s : ByteArray) : BitVec 32 := ~~~ (fold 0xFFFFFFFF#32 s.data.toList)
def crcJoin (a b : BitVec 32) (n : Int) : BitVec 32 := steps (8 * n.toNat) a ^^^ b

theorem fold_split (r : BitVec 32) (l : List UInt8) : fold r l = steps (8 * l.length) r ^^^ fold 0#32 l := by
  induction l generalizing r with
  | nil => show r = steps 0 r ^^^ 0#32; rw [BitVec.xor_zero]; rfl
  | cons c l ih =>
    show fold (byteStep r c) l = _ ^^^ fold (byteStep 0#32 c) l
    rw [ih (byteStep r c), ih (byteStep 0#32 c)]
    unfold byteStep
    rw [BitVec.zero_xor, steps_xor, steps_xor, ← steps_add, List.length_cons, Nat.mul_add, BitVec.xor_assoc]
theorem fold_append (r : BitVec 32) (l m : List UInt8) : fold r (l ++ m) = fold (fold r l) m := by unfold fold; rw [List.foldl_append]

theorem not_xor (a : BitVec 32) : ~~~ a = a ^^^ 0xFFFFFFFF#32 := by
  have : (0xFFFFFFFF#32) = BitVec.allOnes 32 := by decide
  rw [this, BitVec.xor_allOnes]

theorem sum_join (s t : ByteArray) : crcJoin (crcSum s) (crcSum t) t.size = crcSum (s ++ t) := by
  have hl : t.data.toList.length = t.size := by simp
  unfold crcJoin crcSum
  have ha : (s ++ t).data.toList = s.data.toList ++ t.data.toList := by simp
  rw [ha, fold_append, fold_split (fold 0xFFFFFFFF#32 s.data.toList) t.data.toList, fold_split 0xFFFFFFFF#32 t.data.toList, not_xor, not_xor, not_xor, Int.toNat_natCast, hl, steps_xor]
  generalize steps (8 * t.size) (fold 0xFFFFFFFF#32 s.data.toList) = x
  generalize steps (8 * t.size) 0xFFFFFFFF#32 = y
  generalize fold 0#32 t.data.toList = z
  generalize (0xFFFFFFFF#32) = o
  rw [BitVec.xor_assoc, ← BitVec.xor_assoc y, ← BitVec.xor_assoc y, BitVec.xor_self, BitVec.zero_xor, BitVec.xor_assoc]

theorem join_far (a : BitVec 32) (m n : Int) (hm : 0 ≤ m) (hn : 0 ≤ n) : crcJoin (crcJoin a 0#32 m) 0#32 n = crcJoin a 0#32 (m + n) := by
  unfold crcJoin
  rw [BitVec.xor_zero, BitVec.xor_zero, BitVec.xor_zero, ← steps_add]
  congr 1
  omega
theorem join_nest (a b c : BitVec 32) (m n : Int) (hm : 0 ≤ m) (hn : 0 ≤ n) : crcJoin (crcJoin a b m) c n = crcJoin a (crcJoin b c n) (m + n) := by
  unfold crcJoin
  rw [steps_xor, ← steps_add, BitVec.xor_assoc]
  congr 2
  omega
theorem join_none (a : BitVec 32) : crcJoin a 0#32 0 = a := by unfold crcJoin; rw [BitVec.xor_zero]; rfl
theorem join_zero (a : BitVec 32) (m : Int) : crcJoin 0#32 a m = a := by unfold crcJoin; rw [steps_zero, BitVec.zero_xor]

/-! What is turned within four bytes in a row. -/
def b32 (c : UInt8) : BitVec 32 := BitVec.ofNat 32 c.toNat
theorem b32_xor (a b : UInt8) : b32 (a ^^^ b) = b32 a ^^^ b32 b := by
  unfold b32
  rw [UInt8.toNat_xor, BitVec.ofNat_xor]
theorem moved8 : ∀ c : Fin 256, steps 8 (BitVec.ofNat 32 c.val <<< 8) = BitVec.ofNat 32 c.val := by decide +kernel
theorem moved16 : ∀ c : Fin 256, steps 16 (BitVec.ofNat 32 c.val <<< 16) = BitVec.ofNat 32 c.val := by decide +kernel
theorem moved24 : ∀ c : Fin 256, steps 24 (BitVec.ofNat 32 c.val <<< 24) = BitVec.ofNat 32 c.val := by decide +kernel
def word (a b c d : UInt8) : BitVec 32 := ((b32 a ^^^ (b32 b <<< 8)) ^^^ (b32 c <<< 16)) ^^^ (b32 d <<< 24)
theorem fold_four (a b c d : UInt8) : fold 0#32 [a, b, c, d] = steps 32 (word a b c d) := by
  have h1 : steps 32 (b32 b <<< 8) = steps 24 (b32 b) := by
    exact (steps_add 24 8 (b32 b <<< 8)).trans (congrArg (steps 24) (moved8 ⟨b.toNat, UInt8.toNat_lt b⟩))
  have h2 : steps 32 (b32 c <<< 16) = steps 16 (b32 c) := by
    exact (steps_add 16 16 (b32 c <<< 16)).trans (congrArg (steps 16) (moved16 ⟨c.toNat, UInt8.toNat_lt c⟩))
  have h3 : steps 32 (b32 d <<< 24) = steps 8 (b32 d) := by
    exact (steps_add 8 24 (b32 d <<< 24)).trans (congrArg (steps 8) (moved24 ⟨d.toNat, UInt8.toNat_lt d⟩))
  unfold word
  rw [steps_xor, steps_xor, steps_xor, h1, h2, h3]
  show steps 8 (steps 8 (steps 8 (steps 8 (0#32 ^^^ b32 a) ^^^ b32 b) ^^^ b32 c) ^^^ b32 d) = _
  rw [BitVec.zero_xor, steps_xor 8 _ (b32 d), steps_xor 8 _ (b32 c), steps_xor 8 _ (b32 b), steps_xor 8 _ (steps 8 (b32 c)), steps_xor 8 _ (steps 8 (b32 b)), steps_xor 8 _ (steps 8 (steps 8 (b32 b)))]
  simp only [← steps_add]
theorem word_xor (a b c d e f g h : UInt8) : word (a ^^^ e) (b ^^^ f) (c ^^^ g) (d ^^^ h) = word a b c d ^^^ word e f g h := by
  unfold word
  rw [b32_xor, b32_xor, b32_xor, b32_xor, BitVec.shiftLeft_xor_distrib, BitVec.shiftLeft_xor_distrib, BitVec.shiftLeft_xor_distrib]
  rw [xor4 (b32 a), xor4 (b32 a ^^^ b32 b <<< 8), xor4 (b32 a ^^^ b32 b <<< 8 ^^^ b32 c <<< 16)]
theorem fold_inj (x : BitVec 32) (pre post : List UInt8) (a b c d e f g h : UInt8) (hw : word e f g h ≠ 0#32) :
    fold x (pre ++ [a ^^^ e, b ^^^ f, c ^^^ g, d ^^^ h] ++ post) ≠ fold x (pre ++ [a, b, c, d] ++ post) := by
  intro heq
  rw [fold_append, fold_append, fold_append, fold_append, fold_split _ post, fold_split (fold (fold x pre) [a, b, c, d]) post] at heq
  have h1 := congrArg (fun y => y ^^^ fold 0#32 post) heq
  simp only [BitVec.xor_assoc, BitVec.xor_self, BitVec.xor_zero] at h1
  have h2 : steps (8 * post.length) (fold (fold x pre) [a ^^^ e, b ^^^ f, c ^^^ g, d ^^^ h] ^^^ fold (fold x pre) [a, b, c, d]) = 0#32 := by
    rw [steps_xor, h1, BitVec.xor_self]
  have h3 := steps_inj _ _ h2
  rw [fold_split (fold x pre) [a ^^^ e, b ^^^ f, c ^^^ g, d ^^^ h], fold_split (fold x pre) [a, b, c, d], xor4] at h3
  simp only [List.length_cons, List.length_nil] at h3
  rw [BitVec.xor_self, BitVec.zero_xor, fold_four, fold_four, word_xor, ← steps_xor] at h3
  have h4 := steps_inj _ _ h3
  apply hw
  rw [← h4, BitVec.xor_comm (word a b c d), BitVec.xor_assoc, BitVec.xor_self, BitVec.xor_zero]

/-- Byte i of a word, the lowest first. -/
def byteOf32 (t : BitVec 32) (i : Nat) : UInt8 := UInt8.ofNat ((t >>> (8 * i)).toNat % 256)
theorem b32_byte (t : BitVec 32) (i j : Nat) : (b32 (byteOf32 t i)).getLsbD j = (decide (j < 8) && t.getLsbD (8 * i + j)) := by
  have h256 : (256 : Nat) = 2 ^ 8 := rfl
  unfold b32 byteOf32
  rw [UInt8.toNat_ofNat', Nat.mod_mod, BitVec.getLsbD_ofNat, h256, Nat.testBit_mod_two_pow]
  have : (t >>> (8 * i)).toNat.testBit j = t.getLsbD (8 * i + j) := by
    show (t >>> (8 * i)).getLsbD j = _
    rw [BitVec.getLsbD_ushiftRight]
  rw [this]
  by_cases hj : j < 8
  · have : j < 32 := by omega
    simp [hj, this]
  · simp [hj]
theorem word_bytes (t : BitVec 32) : word (byteOf32 t 0) (byteOf32 t 1) (byteOf32 t 2) (byteOf32 t 3) = t := by
  apply BitVec.eq_of_getLsbD_eq
  intro j hj
  unfold word
  simp only [BitVec.getLsbD_xor, BitVec.getLsbD_shiftLeft, b32_byte, hj, decide_true, Bool.true_and]
  by_cases h1 : j < 8
  · have a1 : j < 16 := by omega
    have a2 : j < 24 := by omega
    simp [h1, a1, a2]
  · by_cases h2 : j < 16
    · have a2 : j < 24 := by omega
      have a3 : j - 8 < 8 := by omega
      have a4 : 8 + (j - 8) = j := by omega
      simp [h1, h2, a2, a3, a4]
    · by_cases h3 : j < 24
      · have a3 : ¬ j - 8 < 8 := by omega
        have a4 : j - 16 < 8 := by omega
        have a5 : 8 * 2 + (j - 16) = j := by omega
        have a6 : 16 + (j - 16) = j := by omega
        simp [h1, h2, h3, a3, a4, a6]
      · have a3 : ¬ j - 8 < 8 := by omega
        have a4 : ¬ j - 16 < 8 := by omega
        have a5 : j - 24 < 8 := by omega
        have a6 : 24 + (j - 24) = j := by omega
        simp [h1, h2, h3, a3, a4, a5, a6]

/-- The bytes, of which so many from place k on are turned. -/
def turned (l : List UInt8) (k : Nat) (t : BitVec 32) : Nat → List UInt8
  | 0 => l
  | i + 1 => (turned l k t i).set (k + i) ((turned l k t i).getD (k + i) 0 ^^^ byteOf32 t i)
theorem turned_length (l : List UInt8) (k : Nat) (t : BitVec 32) (i : Nat) : (turned l k t i).length = l.length := by
  induction i with
  | zero => rfl
  | succ i ih => simp [turned, ih]
theorem turned_four (l : List UInt8) (k : Nat) (t : BitVec 32) (h : k + 4 ≤ l.length) :
    ∃ pre post a b c d, l = pre ++ [a, b, c, d] ++ post ∧ pre.length = k ∧ turned l k t 4 = pre ++ [a ^^^ byteOf32 t 0, b ^^^ byteOf32 t 1, c ^^^ byteOf32 t 2, d ^^^ byteOf32 t 3] ++ post := by
  have hd : ∃ a b c d post, l.drop k = a :: b :: c :: d :: post := by
    have hl : 4 ≤ (l.drop k).length := by simp; omega
    match l.drop k, hl with
    | a :: b :: c :: d :: post, _ => exact ⟨a, b, c, d, post, rfl⟩
  obtain ⟨a, b, c, d, post, hd⟩ := hd
  have hpl : (l.take k).length = k := by simp; omega
  have hl : l = l.take k ++ [a, b, c, d] ++ post := by
    conv => lhs; rw [← List.take_append_drop k l]
    rw [hd]; simp
  refine ⟨l.take k, post, a, b, c, d, hl, hpl, ?_⟩
  generalize l.take k = pre at hl hpl
  subst hpl
  rw [hl]
  simp [turned, List.set_append, List.getElem?_append]
theorem turned_sum (l : List UInt8) (k : Nat) (t : BitVec 32) (h : k + 4 ≤ l.length) (ht : t ≠ 0#32) (r : BitVec 32) : fold r (turned l k t 4) ≠ fold r l := by
  obtain ⟨pre, post, a, b, c, d, h1, _, h2⟩ := turned_four l k t h
  rw [h2, h1]
  exact fold_inj r pre post a b c d _ _ _ _ (by rw [word_bytes]; exact ht)

end Go.Proofs.YtnjhcnefgeodcaaDoor
