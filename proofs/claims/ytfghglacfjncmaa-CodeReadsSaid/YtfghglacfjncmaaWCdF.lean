/- The reader of a code: it gives up by a panic. The reader of a code: a value. What is got: a value. -/
import Derived.Test.YtfghglacfjncmaaWCdE
import Derived.Test.YtfghglacfjncmaaWCdC
import Derived.Test.YtfghglacfjncmaaWGenE
/-! The reader of a code: it gives up by a panic. -/
namespace Go.Proofs.Ytfghglacfjncmaa
set_option linter.unusedVariables false
set_option linter.unusedSimpArgs false
set_option maxRecDepth 20000
open Go.RowKit

/-- What is read of bytes, and what is left; or why nothing is. -/
abbrev Rd (α : Type) := Except Int (α × ByteArray)
def ofRd {α : Type} (x : α × ByteArray × Int) : Rd α := if x.2.2 = 0 then .ok (x.1, x.2.1) else .error x.2.2
def pNum (s : ByteArray) : Rd Int := ofRd (uz (rdC s 0).1, (rdC s 0).2)
def pTxt (most : Int) (s : ByteArray) : Rd ByteArray := ofRd (rdT s 0 most)
def pCnt (most : Int) (s : ByteArray) : Rd Int := ofRd (rdM s 0 most)
def pByte (s : ByteArray) : Rd Nat := ofRd (rdB s 0)
def pTru (s : ByteArray) : Rd Bool := ofRd (rdH s 0)
theorem ofRd_ok {α : Type} {x : α × ByteArray × Int} (h : x.2.2 = 0) : ofRd x = .ok (x.1, x.2.1) := if_pos h
theorem ofRd_err {α : Type} {x : α × ByteArray × Int} (h : x.2.2 ≠ 0) : ofRd x = .error x.2.2 := if_neg h
section
variable {H : AH} {R : AEnd → AH → Prop} {p : Nat} {s : ByteArray} {e : Int}
theorem check_call (hd : Has H p (rdr s e)) (h1 : e = 0 → ∀ H', Fr [] H H' → R (.ret (.tuple #[])) H') (h2 : e ≠ 0 → ∀ H', Fr [] H H' → R (.panic (STOP e)) H') : ACall Try.prog 107 [.agg #[.pointer (some ⟨p, 0, none⟩)]] H R := by
  apply f107_call
  unfold f107_B
  have f0 : Fr [] H (H.push (.row [.pointer (some ⟨p, 0, none⟩)] 0)) := (Fr.refl [] H).push _
  refine wNew_at (ldP_at (Has.new _ _) rfl (wCall_of (bad_call (hd.fr f0 (by simp)) (opI_at (wIf_n (fun e1 => h2 e1 _ f0) (fun e1 => h1 e1 _ f0))))))
/-- What a call of the reader may end in. -/
structure Gets {α : Type} (H : AH) (p : Nat) (r : Rd α) (V : α → Value) (R : AEnd → AH → Prop) : Prop where
  yes : ∀ a s', r = .ok (a, s') → ∀ H', Has H' p (rdr s' 0) → Fr [p] H H' → R (.ret (V a)) H'
  no : ∀ e, r = .error e → ∀ H', Fr [p] H H' → R (.panic (STOP e)) H'
/-- A call of the reader behind which its state is looked at. -/
theorem Gets.of {α : Type} {x : α × ByteArray × Int} {V : α → Value} (h : Gets H p (ofRd x) V R) {H1 : AH} (hd : Has H1 p (rdr x.2.1 x.2.2)) (f : Fr [p] H H1) {R' : AEnd → AH → Prop} (hy : ∀ H', R (.ret (V x.1)) H' → R' (.ret (.tuple #[])) H') (hn : ∀ v H', R (.panic v) H' → R' (.panic v) H') :
    ACall Try.prog 107 [.agg #[.pointer (some ⟨p, 0, none⟩)]] H1 R' := by
  refine check_call hd (fun e0 H' f' => ?_) (fun e0 H' f' => ?_)
  · rw [e0] at hd
    exact hy H' (h.yes _ _ (ofRd_ok e0) H' (hd.fr f' (by simp)) (f.trans (f'.mono (by simp))))
  · exact hn _ _ (h.no _ (ofRd_err e0) H' (f.trans (f'.mono (by simp))))
theorem gnum_call (hd : Has H p (rdr s 0)) (h : Gets H p (pNum s) (fun n => .int .i64 n) R) : ACall Try.prog 108 [.agg #[.pointer (some ⟨p, 0, none⟩)]] H R := by
  apply f108_call
  unfold f108_B
  have f0 : Fr [] H (H.push (.row [.pointer (some ⟨p, 0, none⟩)] 0)) := (Fr.refl [] H).push _
  have hb := Has.new H (.row [.pointer (some ⟨p, 0, none⟩)] 0)
  have hn := hd.lt
  refine wNew_at (ldP_at hb rfl (wCall_of (rnumber_call (hd.fr f0 (by simp)) (fun H2 d2 f2 => opI_at (ldP_at (hb.fr f2 (by simp; omega)) rfl (wCall_of (Gets.of (x := (uz (rdC s 0).1, (rdC s 0).2)) h d2 ((f0.mono (by simp)).trans f2) (fun H' y => y) (fun v H' y => y))))))))
theorem gtext_call (hd : Has H p (rdr s 0)) (hs : s.size ≤ 4611686018427387904) (most : Int) (hm : 0 ≤ most ∧ most ≤ 4096) (h : Gets H p (pTxt most s) (fun n => .string n) R) : ACall Try.prog 110 [.agg #[.pointer (some ⟨p, 0, none⟩)], .int .i64 most] H R := by
  apply f110_call
  unfold f110_B
  have f0 : Fr [] H (H.push (.row [.pointer (some ⟨p, 0, none⟩)] 0)) := (Fr.refl [] H).push _
  have hb := Has.new H (.row [.pointer (some ⟨p, 0, none⟩)] 0)
  have hn := hd.lt
  refine wNew_at (ldP_at hb rfl (wCall_of (rtext_call most hs (by omega) (by omega) (hd.fr f0 (by simp)) (fun H2 d2 f2 => opS_at (ldP_at (hb.fr f2 (by simp; omega)) rfl (wCall_of (Gets.of (x := rdT s 0 most) h d2 ((f0.mono (by simp)).trans f2) (fun H' y => y) (fun v H' y => y))))))))
theorem gcnt_call (hd : Has H p (rdr s 0)) (hs : s.size ≤ 4611686018427387904) (most : Int) (hm : 0 ≤ most ∧ most ≤ 4096) (h : Gets H p (pCnt most s) (fun n => .int .i64 n) R) : ACall Try.prog 111 [.agg #[.pointer (some ⟨p, 0, none⟩)], .int .i64 most] H R := by
  apply f111_call
  unfold f111_B
  have f0 : Fr [] H (H.push (.row [.pointer (some ⟨p, 0, none⟩)] 0)) := (Fr.refl [] H).push _
  have hb := Has.new H (.row [.pointer (some ⟨p, 0, none⟩)] 0)
  have hn := hd.lt
  refine wNew_at (ldP_at hb rfl (wCall_of (small_call most hs (by omega) (by omega) (hd.fr f0 (by simp)) (fun H2 d2 f2 => opI_at (ldP_at (hb.fr f2 (by simp; omega)) rfl (wCall_of (Gets.of (x := rdM s 0 most) h d2 ((f0.mono (by simp)).trans f2) (fun H' y => y) (fun v H' y => y))))))))
/-! How much is left. -/
theorem rdC_size (s : ByteArray) (e : Int) : (rdC s e).2.1.size ≤ s.size := by
  unfold rdC
  split
  · split
    · simp
    · rw [ByteArray.size_extract]; omega
  · exact Nat.le_refl _
theorem rdT_size (s : ByteArray) (e m : Int) : (rdT s e m).2.1.size ≤ s.size := by
  unfold rdT
  split
  · split
    · simp
    · split
      · simp
      · split
        · simp
        · rw [ByteArray.size_extract]; omega
  · exact Nat.le_refl _
theorem rdM_size (s : ByteArray) (e m : Int) : (rdM s e m).2.1.size ≤ s.size := by
  unfold rdM
  split
  · split
    · simp
    · split
      · simp
      · rw [ByteArray.size_extract]; omega
  · exact Nat.le_refl _
theorem rdB_size (s : ByteArray) (e : Int) : (rdB s e).2.1.size ≤ s.size := by
  unfold rdB
  split
  · split
    · simp
    · rw [ByteArray.size_extract]; omega
  · exact Nat.le_refl _
theorem rdH_size (s : ByteArray) (e : Int) : (rdH s e).2.1.size ≤ s.size := by
  unfold rdH
  split
  · simp
  · exact rdB_size s e
theorem ofRd_eq {α : Type} {x : α × ByteArray × Int} {a : α} {s' : ByteArray} (h : ofRd x = .ok (a, s')) : x.2.2 = 0 ∧ a = x.1 ∧ s' = x.2.1 := by
  unfold ofRd at h
  split at h
  · rename_i e; cases h; exact ⟨e, rfl, rfl⟩
  · cases h
theorem pNum_size {n : Int} {s' : ByteArray} (h : pNum s = .ok (n, s')) : s'.size ≤ s.size := by obtain ⟨_, _, rfl⟩ := ofRd_eq h; exact rdC_size s 0
theorem pTxt_size {m : Int} {n s' : ByteArray} (h : pTxt m s = .ok (n, s')) : s'.size ≤ s.size := by obtain ⟨_, _, rfl⟩ := ofRd_eq h; exact rdT_size s 0 m
theorem pCnt_size {m n : Int} {s' : ByteArray} (h : pCnt m s = .ok (n, s')) : s'.size ≤ s.size := by obtain ⟨_, _, rfl⟩ := ofRd_eq h; exact rdM_size s 0 m
theorem pByte_size {n : Nat} {s' : ByteArray} (h : pByte s = .ok (n, s')) : s'.size ≤ s.size := by obtain ⟨_, _, rfl⟩ := ofRd_eq h; exact rdB_size s 0
theorem pTru_size {n : Bool} {s' : ByteArray} (h : pTru s = .ok (n, s')) : s'.size ≤ s.size := by obtain ⟨_, _, rfl⟩ := ofRd_eq h; exact rdH_size s 0
theorem pCnt_range {m n : Int} {s' : ByteArray} (hm : 0 ≤ m) (h : pCnt m s = .ok (n, s')) : 0 ≤ n ∧ n ≤ m := by
  obtain ⟨_, rfl, _⟩ := ofRd_eq h
  unfold rdM
  rw [if_pos rfl]
  split
  · exact ⟨Int.le_refl 0, hm⟩
  · split
    · exact ⟨Int.le_refl 0, hm⟩
    · simp only; omega
end
end Go.Proofs.Ytfghglacfjncmaa

/-! The reader of a code: a value. -/
namespace Go.Proofs.Ytfghglacfjncmaa
set_option linter.unusedVariables false
set_option linter.unusedSimpArgs false
set_option maxRecDepth 20000
open Go.RowKit

def pBind {α β : Type} (x : Rd α) (f : α → ByteArray → Rd β) : Rd β :=
  match x with
  | .ok (a, s) => f a s
  | .error e => .error e
def pNums : Nat → ByteArray → Rd (List Int)
  | 0, s => .ok ([], s)
  | n + 1, s => pBind (pNum s) fun a s1 => pBind (pNums n s1) fun l s2 => .ok (a :: l, s2)
def pBody (k : Int) (s : ByteArray) : Rd Val :=
  if k = 1 then pBind (pNum s) fun n s' => .ok (⟨k, n, ⟨#[]⟩, []⟩, s')
  else if k = 2 then pBind (pTru s) fun t s' => .ok (⟨k, if t then 1 else 0, ⟨#[]⟩, []⟩, s')
  else if k = 3 then pBind (pTxt 64 s) fun t s' => .ok (⟨k, 0, t, []⟩, s')
  else if k = 4 then pBind (pTxt 24 s) fun t s' => .ok (⟨k, 0, t, []⟩, s')
  else if k = 5 then pBind (pCnt 16 s) fun n s1 => pBind (pNums n.toNat s1) fun l s2 => .ok (⟨k, 0, ⟨#[]⟩, l⟩, s2)
  else .ok (⟨k, 0, ⟨#[]⟩, []⟩, s)
def pVal (s : ByteArray) : Rd Val := pBind (pByte s) fun k s1 => pBind (pBody k s1) fun v s2 => if rightV v = true then .ok (v, s2) else .error 4
theorem pNums_snoc (n : Nat) (s : ByteArray) : pNums (n + 1) s = pBind (pNums n s) fun l s1 => pBind (pNum s1) fun a s2 => .ok (l ++ [a], s2) := by
  induction n generalizing s with
  | zero =>
    show pBind (pNum s) (fun a s1 => pBind (.ok ([], s1)) fun l s2 => .ok (a :: l, s2)) = _
    rfl
  | succ n ih =>
    rw [pNums]
    conv => rhs; rw [pNums]
    cases pNum s with
    | error e => rfl
    | ok x =>
      obtain ⟨a, s1⟩ := x
      show pBind (pNums (n + 1) s1) _ = pBind (pBind (pNums n s1) _) _
      rw [ih]
      cases pNums n s1 with
      | error e => rfl
      | ok y =>
        obtain ⟨l, s2⟩ := y
        show pBind (pBind (pNum s2) _) _ = pBind (pNum s2) _
        cases pNum s2 with
        | error e => rfl
        | ok z => rfl
theorem pNums_err {a : Nat} {s : ByteArray} {e : Int} (h : pNums a s = .error e) (b : Nat) : pNums (a + b) s = .error e := by
  induction b with
  | zero => exact h
  | succ b ih => rw [← Nat.add_assoc, pNums_snoc, ih]; rfl
theorem pNums_len {a : Nat} {s s' : ByteArray} {l : List Int} (h : pNums a s = .ok (l, s')) : l.length = a ∧ s'.size ≤ s.size := by
  induction a generalizing s l with
  | zero => cases h; exact ⟨rfl, Nat.le_refl _⟩
  | succ a ih =>
    rw [pNums] at h
    cases h1 : pNum s with
    | error e => rw [h1] at h; cases h
    | ok x =>
      obtain ⟨n, s1⟩ := x
      rw [h1] at h
      replace h : pBind (pNums a s1) (fun l s2 => .ok (n :: l, s2)) = .ok (l, s') := h
      cases h2 : pNums a s1 with
      | error e => rw [h2] at h; cases h
      | ok y =>
        obtain ⟨t, s2⟩ := y
        rw [h2] at h
        cases h
        obtain ⟨z1, z2⟩ := ih h2
        have := pNum_size h1
        exact ⟨by rw [List.length_cons, z1], by omega⟩
/-- A cell more in a row that a slice in a box is. -/
theorem grow_at {e : TypeId} {H : AH} {j n by_ q : Nat} {x : Value} {xs : List Value} {b : Option Addr} {K : Option Addr → Nat → Nat → AH → Prop} (hv : slV j n = .slice b n 0) (hn : xs.length = n) (hx : oneCell x = true) (hj : n ≠ 0 → Has H j (.row xs 1)) (hq : Has H q (.row [x] 1))
    (h1 : (n + 1) * by_ ≤ 140737488355328) (h2 : n + 1 ≤ 9223372036854775807)
    (hk : ∀ H', Has H' H.next (.row (xs ++ [x]) 1) → Fr (if n = 0 then [] else [j]) H H' → K (some ⟨H.next, 0, none⟩) (n + 1) 0 H') : wAppL e 1 by_ b n 0 (some ⟨q, 0, none⟩) 1 0 H K := by
  have hsc := sliceCells_new H [x] 1 1 0 rfl hq
  by_cases e0 : n = 0
  · subst e0
    obtain rfl : b = none := by simp [slV] at hv; exact hv.symm
    have hxs : xs = [] := List.eq_nil_of_length_eq_zero hn
    subst hxs
    refine wAppL_nil (n := 0) hsc rfl (by simp [hx]) (by omega) (by omega) ?_
    exact hk _ (Has.newT _ _ _) ((Fr.refl _ _).pushT _ _)
  · obtain rfl : b = some ⟨j, 0, none⟩ := by rw [slV, if_neg e0] at hv; cases hv; rfl
    refine wAppL_own (hj e0) (by omega) hsc rfl (by simp [hx]) h1 h2 ?_
    exact hk _ (Has.newT (H.drop j) _ _) (((Fr.refl _ _).drop (.inl (by simp [e0]))).pushT _ _)
section
variable {H : AH} {R : AEnd → AH → Prop} {p : Nat} {s : ByteArray}
/-- What a call that reads a value may end in. -/
structure GetV (H : AH) (p : Nat) (r : Rd Val) (R : AEnd → AH → Prop) : Prop where
  yes : ∀ v s', r = .ok (v, s') → ∀ H' b c j, Has H' p (rdr s' 0) → Fr [p] H H' → Vw H' b v.list.length j 1 (v.list.map fun n => Value.int .i64 n) → (v.list.length ≠ 0 → H.next ≤ j) →
    R (.ret (.agg #[.int .i64 v.kind, .int .i64 v.num, .string v.text, .slice b v.list.length c])) H'
  no : ∀ e, r = .error e → ∀ H', Fr [p] H H' → R (.panic (STOP e)) H'
theorem Vw.nil {H : AH} (b : Option Addr) (j : Nat) : Vw H b 0 j 1 [] := ⟨rfl, fun e => absurd rfl e⟩
set_option maxHeartbeats 4000000 in
theorem rvalue_call (hd : Has H p (rdr s 0)) (hs : s.size ≤ 4611686018427387904) (h : GetV H p (pVal s) R) : ACall Try.prog 55 [.agg #[.pointer (some ⟨p, 0, none⟩)]] H R := by
  apply f55_call
  unfold f55_B
  refine wNew_at (wNew_at ?_)
  have hb := (Has.new H (.row [.pointer (some ⟨p, 0, none⟩)] 0)).push (.row [.int .i64 0, .int .i64 0, .string ⟨#[]⟩, .slice none 0 0] 0)
  have hz := Has.new (H.push (.row [.pointer (some ⟨p, 0, none⟩)] 0)) (.row [.int .i64 0, .int .i64 0, .string ⟨#[]⟩, .slice none 0 0] 0)
  have f2 : Fr [] H ((H.push (.row [.pointer (some ⟨p, 0, none⟩)] 0)).push (.row [.int .i64 0, .int .i64 0, .string ⟨#[]⟩, .slice none 0 0] 0)) := ((Fr.refl [] H).push _).push _
  have n1 : (H.push (.row [.pointer (some ⟨p, 0, none⟩)] 0)).next = H.next + 1 := rfl
  have hpl := hd.lt
  replace hd := hd.fr f2 (by simp)
  generalize (H.push (.row [.pointer (some ⟨p, 0, none⟩)] 0)).push (.row [.int .i64 0, .int .i64 0, .string ⟨#[]⟩, .slice none 0 0] 0) = H2 at hb hz f2 hd ⊢
  generalize (H.push (.row [.pointer (some ⟨p, 0, none⟩)] 0)).next = z at hz n1 ⊢
  generalize hbe : H.next = q at hb ⊢
  have hqp : q ≠ p := by omega
  have hzp : z ≠ p := by omega
  refine ldP_at hb rfl (wCall_of (byte_call hd (fun H3 d3 f3 => opI_at (wNew_at (wSt_at (Has.new _ _) (by simp) ?_)))))
  replace hb := hb.fr f3 (by simp; omega)
  replace hz := hz.fr f3 (by simp; omega)
  have f03 : Fr [p] H H3 := (f2.mono (by simp)).trans f3
  have hbl := hb.lt
  have hzl := hz.lt
  have hpl3 := d3.lt
  have nx3 := f03.next
  have fx : Fr [] H3 ((H3.push (.row [.int .i64 0, .int .i64 0, .string ⟨#[]⟩, .slice none 0 0] 0)).set H3.next (.row (setCells [.int .i64 0, .int .i64 0, .string ⟨#[]⟩, .slice none 0 0] 0 [.int .i64 ((rdB s 0).1 : Int), .int .i64 0, .string ⟨#[]⟩, .slice none 0 0]) 0)) := ((Fr.refl [] H3).push _).set (.inr (Nat.le_refl _)) _
  have hv : Has ((H3.push (.row [.int .i64 0, .int .i64 0, .string ⟨#[]⟩, .slice none 0 0] 0)).set H3.next (.row (setCells [.int .i64 0, .int .i64 0, .string ⟨#[]⟩, .slice none 0 0] 0 [.int .i64 ((rdB s 0).1 : Int), .int .i64 0, .string ⟨#[]⟩, .slice none 0 0]) 0)) H3.next (.row [.int .i64 ((rdB s 0).1 : Int), .int .i64 0, .string ⟨#[]⟩, .slice none 0 0] 0) := (Has.new _ _).set _
  generalize (H3.push (.row [.int .i64 0, .int .i64 0, .string ⟨#[]⟩, .slice none 0 0] 0)).set H3.next (.row (setCells [.int .i64 0, .int .i64 0, .string ⟨#[]⟩, .slice none 0 0] 0 [.int .i64 ((rdB s 0).1 : Int), .int .i64 0, .string ⟨#[]⟩, .slice none 0 0]) 0) = H4 at fx hv ⊢
  generalize hie : H3.next = i at hv hbl hzl hpl3 ⊢
  replace hb := hb.fr fx (by simp)
  replace hz := hz.fr fx (by simp)
  replace d3 := d3.fr fx (by simp)
  have f04 : Fr [p] H H4 := f03.trans (fx.mono (by simp))
  refine ldP_at hb rfl (wCall_of (check_call d3 (fun e0 H5 f5 => ?_) (fun e0 H5 f5 => ?_)))
  · have hpb : pByte s = .ok ((rdB s 0).1, (rdB s 0).2.1) := ofRd_ok e0
    have hsz : (rdB s 0).2.1.size ≤ s.size := rdB_size s 0
    rw [e0] at d3
    replace hb := hb.fr f5 (by simp)
    replace hz := hz.fr f5 (by simp)
    replace hv := hv.fr f5 (by simp)
    replace d3 := d3.fr f5 (by simp)
    have f05 : Fr [p] H H5 := f04.trans (f5.mono (by simp))
    -- the rest of the bytes, by the kind
    have hbody : pVal s = pBind (pBody (rdB s 0).1 (rdB s 0).2.1) fun v s2 => if rightV v = true then .ok (v, s2) else .error 4 := by
      unfold pVal; rw [hpb]; rfl
    rw [hbody] at h
    generalize (((rdB s 0).1 : Nat) : Int) = k at h hv
    generalize (rdB s 0).2.1 = s1 at h d3 hsz
    have hno : ∀ e, pBody k s1 = .error e → ∀ H', Fr [p] H H' → R (.panic (STOP e)) H' := fun e he H' f => h.no e (by rw [he]; rfl) H' f
    have fin : ∀ (v : Val) (s' : ByteArray) (b : Option Addr) (c j : Nat) (H6 : AH), pBody k s1 = .ok (v, s') → Has H6 i (.row [.int .i64 v.kind, .int .i64 v.num, .string v.text, .slice b v.list.length c] 0) → Has H6 z (.row [.int .i64 0, .int .i64 0, .string ⟨#[]⟩, .slice none 0 0] 0) →
        Has H6 p (rdr s' 0) → Fr [p] H H6 → Vw H6 b v.list.length j 1 (v.list.map fun n => Value.int .i64 n) → (v.list.length ≠ 0 → H.next ≤ j) → f55_J0_B z i H6 R := by
      intro v s' b c j H6 hok hv6 hz6 hd6 f06 hw hj
      unfold f55_J0_B
      refine ldI_at hv6 rfl (ldI_at hv6 rfl (ldS_at hv6 rfl (ldL_at hv6 rfl (wCall_of (right_call v b c (fun H7 f7 => opB_at ?_))))))
      replace hv6 := hv6.fr f7 (by simp)
      replace hz6 := hz6.fr f7 (by simp)
      replace hd6 := hd6.fr f7 (by simp)
      replace hw := hw.fr f7
      have f07 : Fr [p] H H7 := f06.trans (f7.mono (by simp))
      by_cases hr : rightV v = true
      · refine wIf_f (by rw [hr]; rfl) (ldI_at hv6 rfl (ldI_at hv6 rfl (ldS_at hv6 rfl (ldL_at hv6 rfl (wSt_at hz6 (by simp) (wPt_at ?_))))))
        have hzs := hz6.set (.row (setCells [.int .i64 0, .int .i64 0, .string ⟨#[]⟩, .slice none 0 0] 0 [.int .i64 v.kind, .int .i64 v.num, .string v.text, .slice b v.list.length c]) 0)
        refine ldI_at hzs rfl (ldI_at hzs rfl (ldS_at hzs rfl (ldL_at hzs rfl ?_)))
        refine h.yes v s' (by rw [hok]; show (if rightV v = true then _ else _) = _; rw [if_pos hr]) _ b c j (hd6.setne (by omega) _) (f07.set (.inr (by omega)) _) ⟨hw.len, fun e => ⟨(hw.at_ e).1, ?_⟩⟩ hj
        rcases (hw.at_ e).2 with y | y
        · exact .inl (y.setne (y.diff hz6 (by simp)) _)
        · exact .inr (y.setne (y.diff hz6 (by simp)) _)
      · have hr' : rightV v = false := by simpa using hr
        refine wIf_t (by rw [hr']; rfl) (h.no 4 (by rw [hok]; show (if rightV v = true then _ else _) = _; rw [if_neg hr]) H7 f07)
    have hil := hv.lt
    have hzi : z ≠ i := by omega
    have hqi : q ≠ i := by omega
    have hpi : p ≠ i := by omega
    have st : ∀ (c : Nat) (x y : Value), True := fun _ _ _ => trivial
    refine ldI_at hv rfl (wIf_d (fun k0 => ?_) (fun k0 => ?_))
    · show f55_J0 _ _ _
      rw [f55_J0_eq]
      exact fin ⟨k, 0, ⟨#[]⟩, []⟩ s1 none 0 0 H5 (by unfold pBody; rw [if_neg (by omega), if_neg (by omega), if_neg (by omega), if_neg (by omega), if_neg (by omega)]) hv hz d3 f05 (Vw.nil _ _) (fun e => absurd rfl e)
    refine wIf_d (fun k1 => ?_) (fun k1 => ?_)
    · have hpk : pBody k s1 = pBind (pNum s1) fun n s' => .ok (⟨k, n, ⟨#[]⟩, []⟩, s') := by unfold pBody; rw [if_pos k1]
      refine ldP_at hb rfl (wCall_of (gnum_call d3 ⟨fun n s' en H6 d6 f6 => opI_at (wSt_at (hv.fr f6 (by simp; omega)) (by simp) ?_), fun e he H6 f6 => hno e (by rw [hpk, he]; rfl) H6 (f05.trans f6)⟩))
      show f55_J0 _ _ _
      rw [f55_J0_eq]
      exact fin ⟨k, n, ⟨#[]⟩, []⟩ s' none 0 0 _ (by rw [hpk, en]; rfl) ((hv.fr f6 (by simp; omega)).set _) ((hz.fr f6 (by simp; omega)).setne hzi _) (d6.setne hpi _) ((f05.trans f6).set (.inr (by omega)) _) (Vw.nil _ _) (fun e => absurd rfl e)
    refine wIf_d (fun k2 => ?_) (fun k2 => ?_)
    · have hpk : pBody k s1 = pBind (pTru s1) fun t s' => .ok (⟨k, if t then 1 else 0, ⟨#[]⟩, []⟩, s') := by unfold pBody; rw [if_neg k1, if_pos k2]
      refine ldP_at hb rfl (wCall_of (rtruth_call d3 (fun H6 d6 f6 => opB_at ?_)))
      have hv6 := hv.fr f6 (by simp; omega)
      have hz6 := hz.fr f6 (by simp; omega)
      have hb6 := hb.fr f6 (by simp; omega)
      have f06 := f05.trans f6
      have herr : (rdH s1 0).2.2 ≠ 0 → pBody k s1 = .error (rdH s1 0).2.2 := fun e => by rw [hpk, show pTru s1 = .error (rdH s1 0).2.2 from ofRd_err e]; rfl
      have hok : (rdH s1 0).2.2 = 0 → pBody k s1 = .ok (⟨k, if (rdH s1 0).1 then 1 else 0, ⟨#[]⟩, []⟩, (rdH s1 0).2.1) := fun e => by rw [hpk, show pTru s1 = .ok ((rdH s1 0).1, (rdH s1 0).2.1) from ofRd_ok e]; rfl
      generalize (rdH s1 0).2.2 = er at d6 herr hok
      generalize (rdH s1 0).2.1 = s2 at d6 hok
      refine wIf_b (fun e => ?_) (fun e => ?_)
      · rw [e] at hok
        refine wSt_at hv6 (by simp) (ldP_at (hb6.setne hqi _) rfl (wCall_of (check_call (d6.setne hpi _) (fun e1 H7 f7 => ?_) (fun e1 H7 f7 => ?_))))
        · subst e1
          show f55_J0 _ _ _
          rw [f55_J0_eq]
          exact fin ⟨k, 1, ⟨#[]⟩, []⟩ s2 none 0 0 H7 (hok rfl) ((hv6.set _).fr f7 (by simp)) ((hz6.setne hzi _).fr f7 (by simp)) ((d6.setne hpi _).fr f7 (by simp)) ((f06.set (.inr (by omega)) _).trans (f7.mono (by simp))) (Vw.nil _ _) (fun e => absurd rfl e)
        · exact hno _ (herr e1) H7 ((f06.set (.inr (by omega)) _).trans (f7.mono (by simp)))
      · rw [e] at hok
        refine ldP_at hb6 rfl (wCall_of (check_call d6 (fun e1 H7 f7 => ?_) (fun e1 H7 f7 => ?_)))
        · subst e1
          show f55_J0 _ _ _
          rw [f55_J0_eq]
          exact fin ⟨k, 0, ⟨#[]⟩, []⟩ s2 none 0 0 H7 (hok rfl) (hv6.fr f7 (by simp)) (hz6.fr f7 (by simp)) (d6.fr f7 (by simp)) (f06.trans (f7.mono (by simp))) (Vw.nil _ _) (fun e => absurd rfl e)
        · exact hno _ (herr e1) H7 (f06.trans (f7.mono (by simp)))
    refine wIf_d (fun k3 => ?_) (fun k3 => ?_)
    · have hpk : pBody k s1 = pBind (pTxt 64 s1) fun t s' => .ok (⟨k, 0, t, []⟩, s') := by unfold pBody; rw [if_neg k1, if_neg k2, if_pos k3]
      refine ldP_at hb rfl (wCall_of (gtext_call d3 (by omega) 64 (by omega) ⟨fun n s' en H6 d6 f6 => opS_at (wSt_at (hv.fr f6 (by simp; omega)) (by simp) ?_), fun e he H6 f6 => hno e (by rw [hpk, he]; rfl) H6 (f05.trans f6)⟩))
      show f55_J0 _ _ _
      rw [f55_J0_eq]
      exact fin ⟨k, 0, n, []⟩ s' none 0 0 _ (by rw [hpk, en]; rfl) ((hv.fr f6 (by simp; omega)).set _) ((hz.fr f6 (by simp; omega)).setne hzi _) (d6.setne hpi _) ((f05.trans f6).set (.inr (by omega)) _) (Vw.nil _ _) (fun e => absurd rfl e)
    refine wIf_d (fun k4 => ?_) (fun k4 => ?_)
    · have hpk : pBody k s1 = pBind (pTxt 24 s1) fun t s' => .ok (⟨k, 0, t, []⟩, s') := by unfold pBody; rw [if_neg k1, if_neg k2, if_neg k3, if_pos k4]
      refine ldP_at hb rfl (wCall_of (gtext_call d3 (by omega) 24 (by omega) ⟨fun n s' en H6 d6 f6 => opS_at (wSt_at (hv.fr f6 (by simp; omega)) (by simp) ?_), fun e he H6 f6 => hno e (by rw [hpk, he]; rfl) H6 (f05.trans f6)⟩))
      show f55_J0 _ _ _
      rw [f55_J0_eq]
      exact fin ⟨k, 0, n, []⟩ s' none 0 0 _ (by rw [hpk, en]; rfl) ((hv.fr f6 (by simp; omega)).set _) ((hz.fr f6 (by simp; omega)).setne hzi _) (d6.setne hpi _) ((f05.trans f6).set (.inr (by omega)) _) (Vw.nil _ _) (fun e => absurd rfl e)
    refine wIf_d (fun k5 => ?_) (fun k5 => ?_)
    · have hpk : pBody k s1 = pBind (pCnt 16 s1) fun n s2 => pBind (pNums n.toNat s2) fun l s3 => .ok (⟨k, 0, ⟨#[]⟩, l⟩, s3) := by unfold pBody; rw [if_neg k1, if_neg k2, if_neg k3, if_neg k4, if_pos k5]
      refine ldP_at hb rfl (wCall_of (gcnt_call d3 (by omega) 16 (by omega) ⟨fun n s2 en H6 d6 f6 => opI_at ?_, fun e he H6 f6 => hno e (by rw [hpk, he]; rfl) H6 (f05.trans f6)⟩))
      have hnr := pCnt_range (by omega) en
      have hs2 := pCnt_size en
      replace hpk : pBody k s1 = pBind (pNums n.toNat s2) fun l s3 => .ok (⟨k, 0, ⟨#[]⟩, l⟩, s3) := by rw [hpk, en]; rfl
      have f06 := f05.trans f6
      refine f55_L0_rule (J := fun m r H' => ∃ (t : Nat) (l : List Int) (s' : ByteArray) (j : Nat) (b : Option Addr), t ≤ n.toNat ∧ r = (t : Int) ∧ m = n.toNat - t ∧ pNums t s2 = .ok (l, s') ∧ slV j t = .slice b t 0 ∧ Has H' i (.row [.int .i64 k, .int .i64 0, .string ⟨#[]⟩, .slice b t 0] 0) ∧
          (t ≠ 0 → Has H' j (.row (l.map fun n => Value.int .i64 n) 1) ∧ H.next ≤ j) ∧ Has H' q (.row [.pointer (some ⟨p, 0, none⟩)] 0) ∧ Has H' z (.row [.int .i64 0, .int .i64 0, .string ⟨#[]⟩, .slice none 0 0] 0) ∧ Has H' p (rdr s' 0) ∧ Fr [p] H H') n.toNat
        ⟨0, [], s2, i, none, by omega, rfl, rfl, rfl, rfl, hv.fr f6 (by simp; omega), fun e => absurd rfl e, hb.fr f6 (by simp; omega), hz.fr f6 (by simp; omega), d6, f06⟩ ?_
      rintro m r H7 ⟨t, l, s', j, b, ht, rfl, rfl, hpn, hsl, hv7, hj7, hb7, hz7, d7, f07⟩
      intros
      unfold f55_R0
      obtain ⟨hlen, hsz'⟩ := pNums_len hpn
      refine wIf_d (fun hlt => ?_) (fun hge => ?_)
      · have hlt : t < n.toNat := by omega
        have hnum : ∀ e, pNum s' = .error e → pBody k s1 = .error e := fun e he => by
          have : pNums (t + 1) s2 = .error e := by rw [pNums_snoc, hpn]; show pBind (pNum s') _ = _; rw [he]; rfl
          have := pNums_err this (n.toNat - (t + 1))
          rw [show t + 1 + (n.toNat - (t + 1)) = n.toNat by omega] at this
          rw [hpk, this]; rfl
        have hnx7 := f07.next
        -- what an append and its store come to
        have step : ∀ (a : Int) (s'' : ByteArray) (H8 H9 : AH) (g : Nat), pNum s' = .ok (a, s'') → Has H8 p (rdr s'' 0) → Fr [p] H7 H8 → Fr [] H8 H9 → Has H9 g (.row [.int .i64 a] 1) →
            ∀ (K : Option Addr → Nat → Nat → AH → Prop), (∀ o H10, Has H10 i (.row [.int .i64 k, .int .i64 0, .string ⟨#[]⟩, .slice b t 0] 0) → (∃ (t' : Nat) (l' : List Int) (s3 : ByteArray) (j' : Nat) (b' : Option Addr), t' ≤ n.toNat ∧ IntKind.i64.wrap ((t : Int) + 1) = (t' : Int) ∧ n.toNat - (t + 1) = n.toNat - t' ∧ pNums t' s2 = .ok (l', s3) ∧ slV j' t' = .slice b' t' 0 ∧
              Has (H10.set i (.row [.int .i64 k, .int .i64 0, .string ⟨#[]⟩, .slice (some ⟨o, 0, none⟩) (t + 1) 0] 0)) i (.row [.int .i64 k, .int .i64 0, .string ⟨#[]⟩, .slice b' t' 0] 0) ∧ (t' ≠ 0 → Has (H10.set i (.row [.int .i64 k, .int .i64 0, .string ⟨#[]⟩, .slice (some ⟨o, 0, none⟩) (t + 1) 0] 0)) j' (.row (l'.map fun n => Value.int .i64 n) 1) ∧ H.next ≤ j') ∧
              Has (H10.set i (.row [.int .i64 k, .int .i64 0, .string ⟨#[]⟩, .slice (some ⟨o, 0, none⟩) (t + 1) 0] 0)) q (.row [.pointer (some ⟨p, 0, none⟩)] 0) ∧ Has (H10.set i (.row [.int .i64 k, .int .i64 0, .string ⟨#[]⟩, .slice (some ⟨o, 0, none⟩) (t + 1) 0] 0)) z (.row [.int .i64 0, .int .i64 0, .string ⟨#[]⟩, .slice none 0 0] 0) ∧
              Has (H10.set i (.row [.int .i64 k, .int .i64 0, .string ⟨#[]⟩, .slice (some ⟨o, 0, none⟩) (t + 1) 0] 0)) p (rdr s3 0) ∧ Fr [p] H (H10.set i (.row [.int .i64 k, .int .i64 0, .string ⟨#[]⟩, .slice (some ⟨o, 0, none⟩) (t + 1) 0] 0))) → K (some ⟨o, 0, none⟩) (t + 1) 0 H10) →
            wAppL 2 1 8 b t 0 (some ⟨g, 0, none⟩) 1 0 H9 K := by
          intro a s'' H8 H9 g ha d8 f8 f9 hg K hK
          have f79 : Fr [p] H7 H9 := f8.trans (f9.mono (by simp))
          have hv9 := hv7.fr f79 (by simp; omega)
          have hb9 := hb7.fr f79 (by simp; omega)
          have hz9 := hz7.fr f79 (by simp; omega)
          have d9 := d8.fr f9 (by simp)
          have hjp : t ≠ 0 → j ≠ p := fun e => (hj7 e).1.diff d7 (by unfold rdr; simp)
          have hj9 : t ≠ 0 → Has H9 j (.row (l.map fun n => Value.int .i64 n) 1) := fun e => (hj7 e).1.fr f79 (by simpa using hjp e)
          refine grow_at (xs := l.map fun n => Value.int .i64 n) hsl (by simpa using hlen) rfl hj9 hg (by omega) (by omega) (fun H10 hnew f10 => ?_)
          have hS : ∀ x, x ∈ (if t = 0 then [] else [j]) → t ≠ 0 ∧ x = j := fun x hx => by
            split at hx
            · cases hx
            · rename_i e; exact ⟨e, List.mem_singleton.1 hx⟩
          have ne_j : ∀ {x : Nat} {cs : List Value}, Has H9 x (.row cs 0) → x ∉ (if t = 0 then [] else [j]) := fun {x cs} hx hm => by
            obtain ⟨e1, e2⟩ := hS x hm
            exact hx.diff (hj9 e1) (by simp) e2
          have hv10 := hv9.fr f10 (ne_j hv9)
          have hb10 := hb9.fr f10 (ne_j hb9)
          have hz10 := hz9.fr f10 (ne_j hz9)
          have d10 := d9.fr f10 (ne_j d9)
          have n9 := f79.next
          have hni : H9.next ≠ i := by have := hv9.lt; omega
          refine hK H9.next H10 hv10 ⟨t + 1, l ++ [a], s'', H9.next, some ⟨H9.next, 0, none⟩, hlt, wi1 t (by omega), rfl, ?_, by rw [slV, if_neg (by omega)], hv10.set _, fun _ => ⟨?_, by omega⟩, hb10.setne hqi _, hz10.setne hzi _, d10.setne hpi _, ?_⟩
          · rw [pNums_snoc, hpn]; show pBind (pNum s') _ = _; rw [ha]; rfl
          · rw [List.map_append]; exact hnew.setne hni _
          · refine ((f07.trans f79).trans' f10 (fun x hx => ?_)).set (.inr (by omega)) _
            obtain ⟨e1, rfl⟩ := hS x hx
            exact .inr (hj7 e1).2
        refine ldP_at hb7 rfl ⟨ldL_at hv7 rfl ⟨PinOK_has hb7 (by simp) rfl, wCall_of (gnum_call d7 ⟨fun a s'' ea H8 d8 f8 => opI_at (wBs_at ?_), fun e he H8 f8 => hno e (hnum e he) H8 (f07.trans f8)⟩)⟩,
          wCall_of (gnum_call d7 ⟨fun a s'' ea H8 d8 f8 => opI_at ⟨ldL_at (hv7.fr f8 (by simp; omega)) rfl (wBs_at ?_), wBs_at (ldL_at ((hv7.fr f8 (by simp; omega)).push _) rfl ?_)⟩, fun e he H8 f8 => hno e (hnum e he) H8 (f07.trans f8)⟩)⟩
        all_goals
          refine step a s'' H8 _ _ ea d8 f8 ((Fr.refl [] H8).push _) (Has.new _ _) _ (fun o H10 hv10 hJ => wSt_at hv10 (by simp) ⟨n.toNat - (t + 1), by omega, f55_I0_mk hJ⟩)
      · have htn : t = n.toNat := by omega
        subst htn
        show f55_J0 _ _ _
        rw [f55_J0_eq]
        refine fin ⟨k, 0, ⟨#[]⟩, l⟩ s' b 0 j H7 (by rw [hpk, hpn]; rfl) (by rw [hlen]; exact hv7) hz7 d7 f07 ⟨by simp, fun e => ⟨?_, .inr (hj7 (by rw [← hlen]; exact e)).1⟩⟩ (fun e => (hj7 (by rw [← hlen]; exact e)).2)
        have e0 : n.toNat ≠ 0 := by rw [← hlen]; exact e
        rw [slV, if_neg e0] at hsl
        cases hsl; rfl
    · show f55_J0 _ _ _
      rw [f55_J0_eq]
      exact fin ⟨k, 0, ⟨#[]⟩, []⟩ s1 none 0 0 H5 (by unfold pBody; rw [if_neg k1, if_neg k2, if_neg k3, if_neg k4, if_neg k5]) hv hz d3 f05 (Vw.nil _ _) (fun e => absurd rfl e)
  · exact h.no _ (by unfold pVal; rw [show pByte s = .error (rdB s 0).2.2 from ofRd_err e0]; rfl) H5 (f04.trans (f5.mono (by simp)))
end
end Go.Proofs.Ytfghglacfjncmaa

/-! What is got: a value. -/
namespace Go.Proofs.Ytfghglacfjncmaa
set_option linter.unusedVariables false
set_option linter.unusedSimpArgs false
set_option maxRecDepth 20000
open Go.RowKit

/-- All of the bytes. -/
def pAll {α : Type} (r : Rd α) : Except Int α :=
  match r with
  | .ok (a, s) => if s.size = 0 then .ok a else .error 4
  | .error e => .error e
section
variable {H : AH} {R : AEnd → AH → Prop} {s : ByteArray}
abbrev zeroV : List Value := [.int .i64 0, .int .i64 0, .string ⟨#[]⟩, .slice none 0 0]
set_option maxHeartbeats 1000000 in
theorem getv_call (hs : s.size ≤ 4611686018427387904)
    (h1 : ∀ v, pAll (pVal s) = .ok v → ∀ H' b c j, Fr [] H H' → Vw H' b v.list.length j 1 (v.list.map fun n => Value.int .i64 n) → (v.list.length ≠ 0 → H.next ≤ j) → R (.ret (.tuple #[.agg #[.int .i64 v.kind, .int .i64 v.num, .string v.text, .slice b v.list.length c], .int .i64 0])) H')
    (h2 : ∀ e, pAll (pVal s) = .error e → ∀ H', Fr [] H H' → R (.ret (.tuple #[.agg #[.int .i64 0, .int .i64 0, .string ⟨#[]⟩, .slice none 0 0], .int .i64 e])) H') :
    ACall Try.prog 54 [.string s, .func (.func 55) #[] #[]] H R := by
  apply f54_call
  unfold f54_B
  refine wNew_at (wNew_at ?_)
  have hx := (Has.new H (.row zeroV 0)).push (.row [.int .i64 0] 0)
  have hb := Has.new (H.push (.row zeroV 0)) (.row [.int .i64 0] 0)
  have f2 : Fr [] H ((H.push (.row zeroV 0)).push (.row [.int .i64 0] 0)) := ((Fr.refl [] H).push _).push _
  have n1 : (H.push (.row zeroV 0)).next = H.next + 1 := rfl
  generalize (H.push (.row zeroV 0)).push (.row [.int .i64 0] 0) = H2 at hx hb f2 ⊢
  generalize (H.push (.row zeroV 0)).next = y at hb n1 ⊢
  generalize hxe : H.next = x at hx n1
  have hxy : x ≠ y := by omega
  -- the end of each way
  have dead : ∀ (e : Int) (H5 : AH), pAll (pVal s) = .error e → Has H5 x (.row zeroV 0) → Has H5 y (.row [.int .i64 0] 0) → Fr [] H H5 →
      ADef Try.prog 103 [.pointer (some ⟨x, 0, none⟩), .pointer (some ⟨y, 0, none⟩)] (some (STOP e)) H5 (fun H32 => wPt (some ⟨x, 0, none⟩) fun i33 k34 => ldI .i64 i33 k34 H32 fun n35 => ldI .i64 i33 (k34 + 1) H32 fun n36 => ldS i33 (k34 + 2) H32 fun t37 => ldL i33 (k34 + 3) H32 fun z38b z38l z38c =>
        wPt (some ⟨y, 0, none⟩) fun i39 k40 => ldI .i64 i39 k40 H32 fun n41 => R (.ret (.tuple #[(.agg #[(.int .i64 n35), (.int .i64 n36), (.string t37), (.slice z38b z38l z38c)]), (.int .i64 n41)])) H32) := by
    intro e H5 he hx5 hy5 f5
    have nx := f5.next
    have hqx0 : H5.next ≠ x := by have := hx5.lt; omega
    refine f103_P _ _ e _ _ ?_
    unfold f103_P_B
    refine wNew_at (wSt_at (Has.new _ _) (by simp) (wNew_at ?_))
    have hq : Has ((H5.push (.row [.int .i64 0] 0)).set H5.next (.row (setCells [.int .i64 0] 0 [.int .i64 e]) 0)) H5.next (.row [.int .i64 e] 0) := (Has.new _ _).set _
    have fx : Fr [] H5 ((H5.push (.row [.int .i64 0] 0)).set H5.next (.row (setCells [.int .i64 0] 0 [.int .i64 e]) 0)) := ((Fr.refl [] H5).push _).set (.inr (Nat.le_refl _)) _
    generalize (H5.push (.row [.int .i64 0] 0)).set H5.next (.row (setCells [.int .i64 0] 0 [.int .i64 e]) 0) = H6 at hq fx ⊢
    have hz := Has.new H6 (.row zeroV 0)
    have fy : Fr [] H5 (H6.push (.row zeroV 0)) := fx.push _
    replace hq := hq.push (.row zeroV 0)
    have hzn : H6.next ≠ x := by have := (hx5.fr fx (by simp)).lt; omega
    generalize H6.push (.row zeroV 0) = H7 at hz fy hq ⊢
    replace hx5 := hx5.fr fy (by simp)
    replace hy5 := hy5.fr fy (by simp)
    have hqx : H5.next ≠ x := hqx0
    refine ldI_at hz rfl (ldI_at hz rfl (ldS_at hz rfl (ldL_at hz rfl (ldI_at hq rfl (wPt_at (wSt_at hx5 (by simp) ⟨PinOK_has (hq.setne hqx _) (by simp) rfl, wPt_at (wSt_at (hy5.setne hxy.symm _) (by simp) ?_)⟩))))))
    have g1 := (hx5.set (.row (setCells zeroV 0 [.int .i64 0, .int .i64 0, .string ⟨#[]⟩, .slice none 0 0]) 0)).setne hxy (.row (setCells [.int .i64 0] 0 [.int .i64 e]) 0)
    have g2 := (hy5.setne hxy.symm (.row (setCells zeroV 0 [.int .i64 0, .int .i64 0, .string ⟨#[]⟩, .slice none 0 0]) 0)).set (.row (setCells [.int .i64 0] 0 [.int .i64 e]) 0)
    refine wPt_at (ldI_at g1 rfl (ldI_at g1 rfl (ldS_at g1 rfl (ldL_at g1 rfl (wPt_at (ldI_at g2 rfl ?_))))))
    exact h2 e he _ (((f5.trans fy).set (i := x) (.inr (by omega)) _).set (i := y) (.inr (by omega)) _)
  refine wCall_of (rnew_call s (opP_at (wNew_at (wSt_at (Has.new _ _) (by simp) ?_))))
  have hp := (Has.new H2 (rdr s 0)).push (.row [.pointer none] 0)
  have hr : Has (((H2.push (rdr s 0)).push (.row [.pointer none] 0)).set (H2.push (rdr s 0)).next (.row (setCells [.pointer none] 0 [.pointer (some ⟨H2.next, 0, none⟩)]) 0)) (H2.push (rdr s 0)).next (.row [.pointer (some ⟨H2.next, 0, none⟩)] 0) := (Has.new _ _).set _
  have n2 : (H2.push (rdr s 0)).next = H2.next + 1 := rfl
  have fx : Fr [] H2 (((H2.push (rdr s 0)).push (.row [.pointer none] 0)).set (H2.push (rdr s 0)).next (.row (setCells [.pointer none] 0 [.pointer (some ⟨H2.next, 0, none⟩)]) 0)) := (((Fr.refl [] H2).push _).push _).set (.inr (by omega)) _
  replace hp := hp.setne (show H2.next ≠ (H2.push (rdr s 0)).next by omega) (.row (setCells [.pointer none] 0 [.pointer (some ⟨H2.next, 0, none⟩)]) 0)
  have hxl := hx.lt
  have hyl := hb.lt
  generalize ((H2.push (rdr s 0)).push (.row [.pointer none] 0)).set (H2.push (rdr s 0)).next (.row (setCells [.pointer none] 0 [.pointer (some ⟨H2.next, 0, none⟩)]) 0) = H3 at hp hr fx ⊢
  generalize (H2.push (rdr s 0)).next = rr at hr n2 ⊢
  generalize H2.next = p at hp hr n2 hxl hyl ⊢
  replace hx := hx.fr fx (by simp)
  replace hb := hb.fr fx (by simp)
  have f3 : Fr [] H H3 := f2.trans fx
  refine ldP_at hr rfl (wCall_of (rvalue_call hp hs ⟨fun v s' hok H4 b c j d4 f4 hw hj => ?_, fun e he H4 f4 => dead e H4 (by rw [he]; rfl) (hx.fr f4 (by simp; omega)) (hb.fr f4 (by simp; omega)) (f3.trans' f4 (fun z hz => .inr (by simp at hz; omega)))⟩))
  have f04 : Fr [] H H4 := f3.trans' f4 (fun z hz => .inr (by simp at hz; omega))
  replace hx := hx.fr f4 (by simp; omega)
  replace hb := hb.fr f4 (by simp; omega)
  replace hr := hr.fr f4 (by simp; omega)
  refine opA_at rfl (opI_at (opI_at (opS_at (opL_at (wNew_at (wSt_at (Has.new _ _) (by simp) ?_))))))
  have hv : Has ((H4.push (.row zeroV 0)).set H4.next (.row (setCells zeroV 0 [.int .i64 v.kind, .int .i64 v.num, .string v.text, .slice b v.list.length c]) 0)) H4.next (.row [.int .i64 v.kind, .int .i64 v.num, .string v.text, .slice b v.list.length c] 0) := (Has.new _ _).set _
  have fv : Fr [] H4 ((H4.push (.row zeroV 0)).set H4.next (.row (setCells zeroV 0 [.int .i64 v.kind, .int .i64 v.num, .string v.text, .slice b v.list.length c]) 0)) := ((Fr.refl [] H4).push _).set (.inr (Nat.le_refl _)) _
  have n3 := f3.next
  have n4 := f04.next
  have hvx : H4.next ≠ x := by have := hx.lt; omega
  have hvy : H4.next ≠ y := by have := hb.lt; omega
  generalize (H4.push (.row zeroV 0)).set H4.next (.row (setCells zeroV 0 [.int .i64 v.kind, .int .i64 v.num, .string v.text, .slice b v.list.length c]) 0) = H5 at hv fv ⊢
  generalize H4.next = g at hv hvx hvy ⊢
  replace hx := hx.fr fv (by simp)
  replace hb := hb.fr fv (by simp)
  replace hr := hr.fr fv (by simp)
  replace d4 := d4.fr fv (by simp)
  replace hw := hw.fr fv
  have f05 : Fr [] H H5 := f04.trans fv
  refine ldP_at hr rfl (wCall_of (end_call d4 (opI_at ?_)))
  have hend : rdE s' 0 = if s'.size = 0 then 0 else 4 := by unfold rdE; rw [if_pos rfl]
  rw [hend]
  by_cases hz : s'.size = 0
  · rw [if_pos hz]
    refine wIf_nf rfl (ldI_at hv rfl (ldI_at hv rfl (ldS_at hv rfl (ldL_at hv rfl (wSt_at hx (by simp) (wSt_at (hb.setne hxy.symm _) (by simp) ?_))))))
    have g1 := (hx.set (.row (setCells zeroV 0 [.int .i64 v.kind, .int .i64 v.num, .string v.text, .slice b v.list.length c]) 0)).setne hxy (.row (setCells [.int .i64 0] 0 [.int .i64 0]) 0)
    have g2 := (hb.setne hxy.symm (.row (setCells zeroV 0 [.int .i64 v.kind, .int .i64 v.num, .string v.text, .slice b v.list.length c]) 0)).set (.row (setCells [.int .i64 0] 0 [.int .i64 0]) 0)
    refine f103_N _ _ _ _ ?_
    unfold f103_N_B
    refine wPt_at (ldI_at g1 rfl (ldI_at g1 rfl (ldS_at g1 rfl (ldL_at g1 rfl (wPt_at (ldI_at g2 rfl ?_))))))
    have wne : ∀ {cs : List Value} {k : Nat} {H : AH} {o : AObj}, True := fun {_ _ _ _} => trivial
    refine h1 v (by rw [hok]; show (if s'.size = 0 then _ else _) = _; rw [if_pos hz]) _ b c j ((f05.set (i := x) (.inr (by omega)) _).set (i := y) (.inr (by omega)) _) ⟨hw.len, fun e => ⟨(hw.at_ e).1, ?_⟩⟩ (fun e => by have := hj e; omega)
    rcases (hw.at_ e).2 with yy | yy
    · exact .inl ((yy.setne (yy.diff hx (by simp)) _).setne (yy.diff hb (by simp)) _)
    · exact .inr ((yy.setne (yy.diff hx (by simp)) _).setne (yy.diff hb (by simp)) _)
  · rw [if_neg hz]
    exact wIf_nt (by omega) (dead 4 H5 (by rw [hok]; show (if s'.size = 0 then _ else _) = _; rw [if_neg hz]) hx hb f05)
end
end Go.Proofs.Ytfghglacfjncmaa
