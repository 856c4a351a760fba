/- Plain: errors are errors; what is got, put again. The reference: a value, a row, a message is read; an error sticks. The reference: a row, a message, an artifact is read. The reference: what is got of any bytes. -/
import Derived.Test.YtfghglacfjncmaaWCodAG
import Derived.Test.YtfghglacfjncmaaWCodAK
import Derived.Test.YtfghglacfjncmaaWGenN
/-! Plain: errors are errors; what is got, put again. -/
namespace Go.Proofs.Ytfghglacfjncmaa
set_option linter.unusedVariables false
set_option linter.unusedSimpArgs false
open Go.RowKit

/-- Errors that are errors. -/
def Nz {α : Type} (p : ByteArray → Rd α) : Prop := ∀ s e, p s = .error e → e ≠ 0
theorem nz_of {α : Type} {x : α × ByteArray × Int} {e : Int} (h : ofRd x = .error e) : e ≠ 0 := by
  unfold ofRd at h
  split at h
  · cases h
  · rename_i hx; cases h; exact hx
theorem nz_num : Nz pNum := fun _ _ h => nz_of h
theorem nz_cnt {m : Int} : Nz (pCnt m) := fun _ _ h => nz_of h
theorem nz_txt {m : Int} : Nz (pTxt m) := fun _ _ h => nz_of h
theorem nz_byte : Nz pByte := fun _ _ h => nz_of h
theorem nz_tru : Nz pTru := fun _ _ h => nz_of h
theorem nz_bind {α β : Type} {x : Rd α} {f : α → ByteArray → Rd β} {e : Int} (hx : ∀ e, x = .error e → e ≠ 0) (hf : ∀ a s, x = .ok (a, s) → f a s = .error e → e ≠ 0) (h : pBind x f = .error e) : e ≠ 0 := by
  cases hq : x with
  | error e' => rw [hq] at h; cases h; exact hx _ hq
  | ok y => rw [hq] at h; exact hf y.1 y.2 hq h
theorem nz_ret {α : Type} {a : α × ByteArray} {e : Int} (h : (Except.ok a : Rd α) = .error e) : e ≠ 0 := by cases h
theorem nz_rep {α : Type} {p : ByteArray → Rd α} (hp : Nz p) (n : Nat) : Nz (pRep p n) := by
  induction n with
  | zero => intro s e h; cases h
  | succ n ih => exact fun s e h => nz_bind (hp _) (fun a s1 _ h => nz_bind (ih _) (fun l s2 _ h => nz_ret h) h) h
theorem nz_body (k : Int) : Nz (pBody k) := by
  intro s e h
  unfold pBody at h
  split at h
  · exact nz_bind (nz_num _) (fun a s _ h => nz_ret h) h
  split at h
  · exact nz_bind (nz_tru _) (fun a s _ h => nz_ret h) h
  split at h
  · exact nz_bind (nz_txt _) (fun a s _ h => nz_ret h) h
  split at h
  · exact nz_bind (nz_txt _) (fun a s _ h => nz_ret h) h
  split at h
  · exact nz_bind (nz_cnt _) (fun a s _ h => nz_bind (fun e h => nz_rep nz_num _ _ _ (by rw [pNums_rep] at h; exact h)) (fun a s _ h => nz_ret h) h) h
  · exact nz_ret h
theorem nz_val : Nz pVal := by
  intro s e h
  unfold pVal at h
  refine nz_bind (nz_byte _) (fun k s1 _ h => nz_bind (nz_body _ _) (fun v s2 _ h => ?_) h) h
  split at h
  · exact nz_ret h
  · cases h; decide
theorem nz_row : Nz pRow := fun s e h => nz_bind (nz_cnt _) (fun a s _ h => nz_rep nz_val _ _ _ h) h
theorem nz_mail : Nz pMail := fun s e h => nz_bind (nz_num _) (fun _ _ _ h => nz_bind (nz_txt _) (fun _ _ _ h => nz_bind (nz_row _) (fun _ _ _ h => nz_bind (nz_row _) (fun _ _ _ h => nz_ret h) h) h) h) h
theorem nz_dead : Nz pDead := fun s e h => nz_bind (nz_num _) (fun _ _ _ h => nz_bind (nz_mail _) (fun _ _ _ h => nz_bind (nz_cnt _) (fun _ _ _ h => nz_ret h) h) h) h
theorem nz_event : Nz pEvent := fun s e h => nz_bind (nz_num _) (fun _ _ _ h => nz_bind (nz_num _) (fun _ _ _ h => nz_bind (nz_num _) (fun _ _ _ h => nz_bind (nz_txt _) (fun _ _ _ h => nz_bind (nz_txt _) (fun _ _ _ h => nz_bind (nz_txt _) (fun _ _ _ h =>
  nz_bind (nz_row _) (fun _ _ _ h => nz_ret h) h) h) h) h) h) h) h
theorem nz_sub : Nz pSub := fun s e h => nz_bind (nz_num _) (fun _ _ _ h => nz_bind (nz_num _) (fun _ _ _ h => nz_bind (nz_txt _) (fun _ _ _ h => nz_ret h) h) h) h
theorem Nz.ok {α : Type} {p : ByteArray → Rd α} (h : Nz p) {s : ByteArray} {z : α} (he : gE (pAll (p s)) = 0) : ∃ a, pAll (p s) = .ok a ∧ gA z (pAll (p s)) = a := by
  cases hp : p s with
  | error e => rw [hp] at he; exact absurd he (h _ _ hp)
  | ok x =>
    obtain ⟨a, s'⟩ := x
    rw [hp] at he
    by_cases hz : s'.size = 0
    · exact ⟨a, by show (if s'.size = 0 then _ else _) = _; rw [if_pos hz], by show gA z (if s'.size = 0 then _ else _) = _; rw [if_pos hz]; rfl⟩
    · replace he : gE (if s'.size = 0 then (Except.ok a : Except Int α) else .error 4) = 0 := he
      rw [if_neg hz] at he; cases he
theorem wNewSt_at {A B : List Value} {H : AH} {K : Nat → AH → Prop} (hl : 0 + B.length ≤ A.length) (h : ∀ i H', Has H' i (.row (setCells A 0 B) 0) → Fr [] H H' → K i H') : wNew A H fun i H1 => wSt i 0 B H1 (K i) :=
  wNew_at (wSt_at (Has.new _ _) hl (h _ _ ((Has.new _ _).set _) (((Fr.refl [] H).push _).set (.inr (Nat.le_refl _)) _)))
end Go.Proofs.Ytfghglacfjncmaa

/-! The reference: a value, a row, a message is read; an error sticks. -/
namespace Go.Proofs.Ytfghglacfjncmaa
set_option linter.unusedVariables false
set_option linter.unusedSimpArgs false
set_option maxRecDepth 20000
open Go.RowKit

/-- A reader whose error sticks reads as the parser does. -/
structure Sk {α : Type} (p : ByteArray → Rd α) (s : ByteArray) (e : Int) (a : α) (s' : ByteArray) (e' : Int) : Prop where
  ok : ∀ a0 s0, e = 0 → p s = .ok (a0, s0) → a = a0 ∧ s' = s0 ∧ e' = 0
  er : ∀ e0, e = 0 → p s = .error e0 → e' = e0
  no : e ≠ 0 → e' = e
section
variable {α β : Type} {p : ByteArray → Rd α} {f : α → ByteArray → Rd β} {s s1 s2 : ByteArray} {e e1 e2 : Int} {a : α} {b : β}
theorem Sk.bind (hp : Nz p) (h1 : Sk p s e a s1 e1) (h2 : Sk (f a) s1 e1 b s2 e2) : Sk (fun s => pBind (p s) f) s e b s2 e2 where
  ok a0 s0 he h := by
    obtain ⟨a', s', g1, g2⟩ := pBind_ok h
    obtain ⟨rfl, rfl, rfl⟩ := h1.ok _ _ he g1
    exact h2.ok _ _ rfl g2
  er e0 he h := by
    replace h : pBind (p s) f = .error e0 := h
    cases hq : p s with
    | error e' =>
      have h3 := h1.er _ he hq
      have hne := hp _ _ hq
      rw [hq] at h
      cases h
      rw [h2.no (by rw [h3]; exact hne), h3]
    | ok y =>
      obtain ⟨a', s'⟩ := y
      obtain ⟨rfl, rfl, rfl⟩ := h1.ok _ _ he hq
      rw [hq] at h
      exact h2.er _ rfl h
  no he := by
    have h3 := h1.no he
    rw [h2.no (by rw [h3]; exact he), h3]
theorem Sk.stop (h1 : Sk p s e a s1 e1) (hne : e1 ≠ 0) (b : β) (s2 : ByteArray) : Sk (fun s => pBind (p s) f) s e b s2 e1 where
  ok a0 s0 he h := by
    obtain ⟨a', s', g1, g2⟩ := pBind_ok h
    exact absurd (h1.ok _ _ he g1).2.2 hne
  er e0 he h := by
    replace h : pBind (p s) f = .error e0 := h
    cases hq : p s with
    | error e' =>
      rw [hq] at h
      cases h
      exact h1.er _ he hq
    | ok y => exact absurd (h1.ok _ _ he hq).2.2 hne
  no he := h1.no he
theorem Sk.ret (a : α) : Sk (fun s => .ok (a, s)) s e a s e := ⟨fun a0 s0 he h => (by cases h; exact ⟨rfl, rfl, he⟩), fun e0 he h => (by cases h), fun _ => rfl⟩
theorem Sk.nil : Sk (pRep p 0) s e [] s e := Sk.ret []
theorem Sk.snoc {k : Nat} {l : List α} (hp : Nz p) (h1 : Sk (pRep p k) s e l s1 e1) (h2 : Sk p s1 e1 a s2 e2) : Sk (pRep p (k + 1)) s e (l ++ [a]) s2 e2 := by
  have hx : pRep p (k + 1) = fun s => pBind (pRep p k s) fun l s1 => pBind (p s1) fun a s2 => .ok (l ++ [a], s2) := funext (pRep_snoc p k)
  rw [hx]
  exact Sk.bind (nz_rep hp k) h1 (Sk.bind hp h2 (Sk.ret _))
theorem Sk.more {k n : Nat} {l : List α} (h1 : Sk (pRep p k) s e l s1 e1) (hne : e1 ≠ 0) (hk : k ≤ n) : Sk (pRep p n) s e l s1 e1 := by
  have key : ∀ e', pRep p k s = .error e' → pRep p n s = .error e' := fun e' h => by
    have := pRep_err h (n - k)
    rwa [show k + (n - k) = n by omega] at this
  refine ⟨fun a0 s0 he h => ?_, fun e0 he h => ?_, h1.no⟩
  · cases hq : pRep p k s with
    | error e' => rw [key _ hq] at h; cases h
    | ok y => exact absurd (h1.ok _ _ he hq).2.2 hne
  · cases hq : pRep p k s with
    | error e' => rw [key _ hq] at h; cases h; exact h1.er _ he hq
    | ok y => exact absurd (h1.ok _ _ he hq).2.2 hne
theorem sk_of {g : ByteArray → Int → α × ByteArray × Int} (hp : p s = ofRd (g s 0)) (hn : e ≠ 0 → (g s e).2.2 = e) : Sk p s e (g s e).1 (g s e).2.1 (g s e).2.2 := by
  refine ⟨fun a0 s0 he h => ?_, fun e0 he h => ?_, hn⟩
  · subst he
    rw [hp] at h
    obtain ⟨h1, h2, h3⟩ := ofRd_eq h
    exact ⟨h2.symm, h3.symm, h1⟩
  · subst he
    rw [hp] at h
    unfold ofRd at h
    split at h
    · cases h
    · cases h; rfl
end
theorem sk_num (s : ByteArray) (e : Int) : Sk pNum s e (uz (rdC s e).1) (rdC s e).2.1 (rdC s e).2.2 :=
  sk_of (g := fun s e => (uz (rdC s e).1, (rdC s e).2.1, (rdC s e).2.2)) rfl (fun h => by dsimp only; unfold rdC; rw [if_neg h])
theorem sk_cnt (m : Int) (s : ByteArray) (e : Int) : Sk (pCnt m) s e (rdM s e m).1 (rdM s e m).2.1 (rdM s e m).2.2 :=
  sk_of (g := fun s e => rdM s e m) rfl (fun h => by unfold rdM; rw [if_neg h])
theorem sk_txt (m : Int) (s : ByteArray) (e : Int) : Sk (pTxt m) s e (rdT s e m).1 (rdT s e m).2.1 (rdT s e m).2.2 :=
  sk_of (g := fun s e => rdT s e m) rfl (fun h => by unfold rdT; rw [if_neg h])
theorem sk_byte (s : ByteArray) (e : Int) : Sk pByte s e (rdB s e).1 (rdB s e).2.1 (rdB s e).2.2 :=
  sk_of (g := rdB) rfl (fun h => by unfold rdB; rw [if_neg h])
theorem sk_tru (s : ByteArray) (e : Int) : Sk pTru s e (rdH s e).1 (rdH s e).2.1 (rdH s e).2.2 :=
  sk_of (g := rdH) rfl (fun h => by unfold rdH; rw [if_neg (fun y => h y.1)]; dsimp only; unfold rdB; rw [if_neg h])
theorem rdM_range (s : ByteArray) (e m : Int) (hm : 0 ≤ m) : 0 ≤ (rdM s e m).1 ∧ (rdM s e m).1 ≤ m := by
  unfold rdM
  split
  · split
    · exact ⟨Int.le_refl 0, hm⟩
    · split
      · exact ⟨Int.le_refl 0, hm⟩
      · simp only; omega
  · exact ⟨Int.le_refl 0, hm⟩
section
variable {H : AH} {R : AEnd → AH → Prop} {i : Nat} {S s : ByteArray} {e : Int}
theorem refNum (hd : RR H i S s e) (h : ∀ H' n s' e', Sk pNum s e n s' e' → i64ok n → RR H' i S s' e' → Fr [i] H H' → R (.ret (.int .i64 n)) H') : ACall Try.prog 82 [.pointer (some ⟨i, 0, none⟩)] H R :=
  refNumber_call hd fun H' d f => h H' _ _ _ (sk_num s e) (uz_range _ (rdC_lt s e)) d f
theorem refCnt {m : Int} (hm : 0 ≤ m) (hm2 : m ≤ 9223372036854775807) (hd : RR H i S s e) (h : ∀ H' n s' e', Sk (pCnt m) s e n s' e' → 0 ≤ n ∧ n ≤ m → RR H' i S s' e' → Fr [i] H H' → R (.ret (.int .i64 n)) H') : ACall Try.prog 83 [.pointer (some ⟨i, 0, none⟩), .int .i64 m] H R :=
  refSmall_call hm hm2 hd fun H' d f => h H' _ _ _ (sk_cnt m s e) (rdM_range s e m hm) d f
theorem refTxt {m : Int} (hm : 0 ≤ m) (hm2 : m ≤ 9223372036854775807) (hd : RR H i S s e) (h : ∀ H' t s' e', Sk (pTxt m) s e t s' e' → RR H' i S s' e' → Fr [i] H H' → R (.ret (.string t)) H') : ACall Try.prog 86 [.pointer (some ⟨i, 0, none⟩), .int .i64 m] H R :=
  refText_call hm hm2 hd fun H' d f => h H' _ _ _ (sk_txt m s e) d f
theorem refByt (hd : RR H i S s e) (h : ∀ H' (k : Nat) s' e', Sk pByte s e k s' e' → RR H' i S s' e' → Fr [i] H H' → R (.ret (.int .i64 k)) H') : ACall Try.prog 112 [.pointer (some ⟨i, 0, none⟩)] H R :=
  refByte_call hd fun H' d f => h H' _ _ _ (sk_byte s e) d f
theorem refTru (hd : RR H i S s e) (h : ∀ H' t s' e', Sk pTru s e t s' e' → RR H' i S s' e' → Fr [i] H H' → R (.ret (.bool t)) H') : ACall Try.prog 113 [.pointer (some ⟨i, 0, none⟩)] H R :=
  refTruth_call hd fun H' d f => h H' _ _ _ (sk_tru s e) d f
end
theorem RR.lt {H : AH} {i : Nat} {S s : ByteArray} {e : Int} (h : RR H i S s e) : i < H.next := let ⟨a, h1, _⟩ := h.ex; h1.lt
theorem RR.push {H : AH} {i : Nat} {S s : ByteArray} {e : Int} (h : RR H i S s e) (o : AObj) : RR (H.push o) i S s e := h.fr ((Fr.refl [] H).push o) (by simp)
theorem RR.setne {H : AH} {i j : Nat} {S s : ByteArray} {e : Int} (h : RR H i S s e) (hj : i ≠ j) (o : AObj) : RR (H.set j o) i S s e := ⟨let ⟨a, h1, h2, h3⟩ := h.ex; ⟨a, h1.setne hj o, h2, h3⟩, h.size⟩
/-- The reference's reader at work, the result's box, the thing's box. -/
structure RC (H0 H : AH) (p y x : Nat) (S s : ByteArray) (e : Int) (Z X : List Value) : Prop where
  hd : RR H p S s e
  hy : Has H y (.row Z 0)
  hx : Has H x (.row X 0)
  fr : Fr [p] H0 H
  ord : p < H0.next ∧ H0.next ≤ y ∧ y < x
section
variable {H0 H H' : AH} {p y x : Nat} {S s s' : ByteArray} {e e' : Int} {Z X : List Value}
theorem RC.call (r : RC H0 H p y x S s e Z X) (d : RR H' p S s' e') (f : Fr [p] H H') : RC H0 H' p y x S s' e' Z X := by
  have := r.ord
  exact ⟨d, r.hy.fr f (by simp; omega), r.hx.fr f (by simp; omega), r.fr.trans f, r.ord⟩
theorem RC.fr0 (r : RC H0 H p y x S s e Z X) (f : Fr [] H H') : RC H0 H' p y x S s e Z X := ⟨r.hd.fr f (by simp), r.hy.fr f (by simp), r.hx.fr f (by simp), r.fr.trans (Fr.mono f (by simp)), r.ord⟩
theorem RC.st (r : RC H0 H p y x S s e Z X) {k : Nat} {vs : List Value} {K : AH → Prop} (hl : k + vs.length ≤ X.length) (h : ∀ H', RC H0 H' p y x S s e Z (setCells X k vs) → Fr [x] H H' → K H') : wSt x k vs H K := by
  have := r.ord
  exact wSt_at r.hx hl (h _ ⟨r.hd.setne (by omega) _, r.hy.setne (by omega) _, r.hx.set _, r.fr.set (.inr (by omega)) _, r.ord⟩ ((Fr.refl _ _).set (.inl (by simp)) _))
theorem RC.np (r : RC H0 H p y x S s e Z X) : ∀ z ∈ [p], ¬ x < z := fun z hz => by have := r.ord; simp at hz; omega
theorem RC.nx (r : RC H0 H p y x S s e Z X) : ∀ z ∈ [x], ¬ x < z := fun z hz => by simp at hz; omega
theorem RC.ny (r : RC H0 H p y x S s e Z X) : ∀ z ∈ [y], ¬ x < z := fun z hz => by have := r.ord; simp at hz; omega
/-- A row of numbers grows in the thing's box. -/
theorem RC.growN (r : RC H0 H p y x S s e Z X) {ety : TypeId} {cell : Nat} (hc : cell + 1 ≤ X.length) {l : List Int} {o i : Nat} {b : Option Addr} {v : Int} (hout : Out 1 NSeg H b o l) (ho : l.length ≠ 0 → x < o) (hl : l.length ≤ 100000) (hi : Has H i (.row [.int .i64 v] 1))
    {K : Option Addr → Nat → Nat → AH → Prop}
    (hK : ∀ H', RC H0 H' p y x S s e Z (setCells X cell [.slice (some ⟨H.next, 0, none⟩) (l ++ [v]).length 0]) → Fr (x :: if l.length = 0 then [] else [o]) H H' → Out 1 NSeg H' (some ⟨H.next, 0, none⟩) H.next (l ++ [v]) → H.next < H'.next → ∀ zb zl zc, K zb zl zc H') :
    wAppL ety 1 8 b l.length 0 (some ⟨i, 0, none⟩) 1 0 H fun zb zl zc H9 => wSt x cell [.slice zb zl zc] H9 (K zb zl zc) := by
  have hx := r.hx.lt
  have hor := r.ord
  refine hout.grow (a := v) rfl rfl hi (by omega) (by omega) rfl (fun H9 f9 hg => ?_)
  have hS : ∀ z ∈ (if l.length = 0 then [] else [o]), x < z := fun z hz => by
    split at hz
    · cases hz
    · rename_i e; simp at hz; have := ho e; omega
  have n9 := f9.next
  have hg9 := hg NSeg (fun _ _ h => h)
  have hlt9 : H.next < H9.next := by
    obtain ⟨cs, g1, g2, g3⟩ := hg9.ex
    exact (g3 (by simp)).2.lt
  have r9 : RC H0 H9 p y x S s e Z X :=
    ⟨r.hd.fr f9 (fun z => by have := hS _ z; omega), r.hy.fr f9 (fun z => by have := hS _ z; omega), r.hx.fr f9 (fun z => by have := hS _ z; omega), r.fr.trans' f9 (fun z hz => .inr (by have := hS z hz; omega)), r.ord⟩
  refine r9.st hc (fun H10 r10 f10 => hK H10 (by rw [List.length_append]; exact r10) ((Fr.mono f9 (fun z hz => List.mem_cons_of_mem _ hz)).trans (Fr.mono f10 (fun z hz => by simp at hz; simp [hz]))) (hg9.fr f10 (fun _ => by simp; omega) (fun _ _ h => h)) (by have := f10.next; omega) _ _ _)
end
section
variable {H : AH} {R : AEnd → AH → Prop} {i : Nat} {S s : ByteArray} {e : Int}
set_option maxHeartbeats 16000000 in
theorem refValue_call (hd : RR H i S s e) (h : ∀ H' v b c s' e', Sk pVal s e v s' e' → RR H' i S s' e' → Fr [i] H H' → VQ (fun j => H.next ≤ j) H' v b → R (.ret (.agg (valC v b c).toArray)) H') : ACall Try.prog 56 [.pointer (some ⟨i, 0, none⟩)] H R := by
  apply f56_call
  unfold f56_B
  have hl := hd.lt
  refine wNew_at (wPt_at (wCall_of (refByt (hd.push (.row zeroV 0)) (fun H1 k s1 e1 hk d1 f1 => opI_at (wNew_at (wSt_at (Has.new _ _) (Nat.le_of_ble_eq_true rfl) ?_))))))
  have hn1 : H.next + 1 ≤ H1.next := f1.next
  have r : RC H ((H1.push (.row zeroV 0)).set H1.next (.row (setCells zeroV 0 (valC ⟨k, 0, ⟨#[]⟩, []⟩ none 0)) 0)) i H.next H1.next S s1 e1 zeroV (valC ⟨k, 0, ⟨#[]⟩, []⟩ none 0) :=
    ⟨(d1.push _).setne (by omega) _, (((Has.new H (.row zeroV 0)).fr f1 (by simp; omega)).push _).setne (by omega) _, (Has.new _ _).set _, ((((Fr.refl [i] H).push _).trans f1).push _).set (.inr (by omega)) _, ⟨hl, Nat.le_refl _, by omega⟩⟩
  generalize (H1.push (.row zeroV 0)).set H1.next (.row (setCells zeroV 0 (valC ⟨k, 0, ⟨#[]⟩, []⟩ none 0)) 0) = H2 at r ⊢
  generalize H1.next = x at r ⊢
  generalize hy : H.next = y at r h
  clear hn1 d1 f1
  have hor := r.ord
  obtain ⟨a, ha1, ha2, ha3⟩ := r.hd.ex
  refine wPt_at (ldI_at ha1 rfl (wIf_n (fun he => ?_) (fun he => ?_)))
  · have hz := r.hy.set (.row (setCells zeroV 0 zeroV) 0)
    refine wSt_at r.hy (Nat.le_of_ble_eq_true rfl) (wPt_at (ldI_at hz rfl (ldI_at hz rfl (ldS_at hz rfl (ldL_at hz rfl ?_)))))
    exact h _ zVal none 0 s1 e1 (hk.stop he _ _) (r.hd.setne (by omega) _) (r.fr.set (.inr (by omega)) _) ⟨⟨i64_0, fun n hn => by simp at hn⟩, 0, Vw.nil _ _, fun y => absurd rfl y⟩
  have fin : ∀ (H3 : AH) (w : Val) (b : Option Addr) (c : Nat) (s3 : ByteArray) (e3 : Int), Sk pVal s e w s3 e3 → RC H H3 i y x S s3 e3 zeroV (valC w b c) → VQ (fun j => x < j) H3 w b →
      wPt (some ⟨x, 0, none⟩) fun i16 k17 => ldI .i64 i16 k17 H3 fun n18 => ldI .i64 i16 (k17 + 1) H3 fun n19 => ldS i16 (k17 + 2) H3 fun t20 => ldL i16 (k17 + 3) H3 fun z21b z21l z21c =>
      wPt (some ⟨y, 0, none⟩) fun i23 k24 => wSt i23 k24 [(.int .i64 n18), (.int .i64 n19), (.string t20), (.slice z21b z21l z21c)] H3 fun H22 =>
      wPt (some ⟨y, 0, none⟩) fun i25 k26 => ldI .i64 i25 k26 H22 fun n27 => ldI .i64 i25 (k26 + 1) H22 fun n28 => ldS i25 (k26 + 2) H22 fun t29 => ldL i25 (k26 + 3) H22 fun z30b z30l z30c =>
      R (.ret (.agg #[(.int .i64 n27), (.int .i64 n28), (.string t29), (.slice z30b z30l z30c)])) H22 := by
    intro H3 w b c s3 e3 hs3 r3 hv
    have hz := r3.hy.set (.row (setCells zeroV 0 (valC w b c)) 0)
    have fy : Fr [y] H3 (H3.set y (.row (setCells zeroV 0 (valC w b c)) 0)) := (Fr.refl _ _).set (.inl (by simp)) _
    refine wPt_at (ldI_at r3.hx rfl (ldI_at r3.hx rfl (ldS_at r3.hx rfl (ldL_at r3.hx rfl (wPt_at (wSt_at r3.hy (Nat.le_of_ble_eq_true rfl) (wPt_at (ldI_at hz rfl (ldI_at hz rfl (ldS_at hz rfl (ldL_at hz rfl ?_)))))))))))
    exact h _ w b c s3 e3 hs3 (r3.hd.setne (by omega) _) (r3.fr.set (.inr (by omega)) _) ((hv.fr fy r3.ny).mono (fun j hj => by omega))
  have tail : ∀ (H2 : AH) (w : Val) (b : Option Addr) (c : Nat) (s2 : ByteArray) (e2 : Int), Sk (pBody k) s1 e1 w s2 e2 → RC H H2 i y x S s2 e2 zeroV (valC w b c) → VQ (fun j => x < j) H2 w b →
      wPt (some ⟨x, 0, none⟩) fun i1 k2 => ldI .i64 i1 k2 H2 fun n3 => ldI .i64 i1 (k2 + 1) H2 fun n4 => ldS i1 (k2 + 2) H2 fun t5 => ldL i1 (k2 + 3) H2 fun z6b z6l z6c =>
      wCall Try.prog 27 [(.agg #[(.int .i64 n3), (.int .i64 n4), (.string t5), (.slice z6b z6l z6c)])] H2 (fun r7 H8 => opB r7 fun b11 => wIf (!b11)
        (wCall Try.prog 114 [(.pointer (some ⟨i, 0, none⟩))] H8 (fun r12 H13 =>
          wPt (some ⟨x, 0, none⟩) fun i16 k17 => ldI .i64 i16 k17 H13 fun n18 => ldI .i64 i16 (k17 + 1) H13 fun n19 => ldS i16 (k17 + 2) H13 fun t20 => ldL i16 (k17 + 3) H13 fun z21b z21l z21c =>
          wPt (some ⟨y, 0, none⟩) fun i23 k24 => wSt i23 k24 [(.int .i64 n18), (.int .i64 n19), (.string t20), (.slice z21b z21l z21c)] H13 fun H22 =>
          wPt (some ⟨y, 0, none⟩) fun i25 k26 => ldI .i64 i25 k26 H22 fun n27 => ldI .i64 i25 (k26 + 1) H22 fun n28 => ldS i25 (k26 + 2) H22 fun t29 => ldL i25 (k26 + 3) H22 fun z30b z30l z30c =>
          R (.ret (.agg #[(.int .i64 n27), (.int .i64 n28), (.string t29), (.slice z30b z30l z30c)])) H22) (fun v15 H14 => R (.panic v15) H14))
        (wPt (some ⟨x, 0, none⟩) fun i31 k32 => ldI .i64 i31 k32 H8 fun n33 => ldI .i64 i31 (k32 + 1) H8 fun n34 => ldS i31 (k32 + 2) H8 fun t35 => ldL i31 (k32 + 3) H8 fun z36b z36l z36c =>
          wPt (some ⟨y, 0, none⟩) fun i38 k39 => wSt i38 k39 [(.int .i64 n33), (.int .i64 n34), (.string t35), (.slice z36b z36l z36c)] H8 fun H37 =>
          wPt (some ⟨y, 0, none⟩) fun i40 k41 => ldI .i64 i40 k41 H37 fun n42 => ldI .i64 i40 (k41 + 1) H37 fun n43 => ldS i40 (k41 + 2) H37 fun t44 => ldL i40 (k41 + 3) H37 fun z45b z45l z45c =>
          R (.ret (.agg #[(.int .i64 n42), (.int .i64 n43), (.string t44), (.slice z45b z45l z45c)])) H37)) (fun v10 H9 => R (.panic v10) H9) := by
    intro H2 w b c s2 e2 hs2 r2 hv
    refine wPt_at (ldI_at r2.hx rfl (ldI_at r2.hx rfl (ldS_at r2.hx rfl (ldL_at r2.hx rfl (wCall_of (rright_call w b c (fun H3 f3 => opB_at ?_)))))))
    have r3 := r2.fr0 f3
    replace hv := hv.fr f3 (fun z hz => by cases hz)
    by_cases hr : rightV w = true
    · rw [hr]
      refine wIf_f rfl (fin H3 w b c s2 e2 (Sk.bind nz_byte hk (Sk.bind (fun s e h => ?_) hs2 ?_)) r3 hv)
      · exact nz_body _ _ _ h
      · simp only [if_pos hr]; exact Sk.ret w
    · rw [Bool.not_eq_true] at hr
      rw [hr]
      refine wIf_t rfl (wCall_of (refForm_call r3.hd (fun H4 d4 f4 => ?_)))
      refine fin H4 w b c s2 _ (Sk.bind nz_byte hk (Sk.bind (fun s e h => nz_body _ _ _ h) hs2 ?_)) (r3.call d4 f4) (hv.fr f4 r3.np)
      have hr' : ¬ rightV w = true := by rw [hr]; decide
      refine ⟨fun a0 s0 he h => ?_, fun e0 he h => ?_, fun he => by rw [if_neg he]⟩
      · simp only [if_neg hr'] at h; cases h
      · simp only [if_neg hr'] at h; cases h; rw [if_pos he]
  have zq : ∀ (H' : AH) (n : Int) (t : ByteArray), i64ok n → VQ (fun j => x < j) H' ⟨k, n, t, []⟩ none := fun H' n t hn => ⟨⟨hn, fun n hn => by simp at hn⟩, 0, Vw.nil _ _, fun y => absurd rfl y⟩
  refine ldI_at r.hx rfl (wIf_d (fun c1 => ?_) (fun c1 => ?_))
  · have hb : pBody k = fun s => pBind (pNum s) fun n s' => .ok (⟨k, n, ⟨#[]⟩, []⟩, s') := by funext s; unfold pBody; rw [if_pos c1]
    rw [hb] at tail
    refine wPt_at (wCall_of (refNum r.hd (fun H3 n s3 e3 hs hn d3 f3 => opI_at ((r.call d3 f3).st (Nat.le_of_ble_eq_true rfl) (fun H4 r4 f4 => ?_)))))
    rw [f56_J1_eq]; unfold f56_J1_B
    exact tail H4 ⟨k, n, ⟨#[]⟩, []⟩ none 0 s3 e3 (Sk.bind nz_num hs (Sk.ret _)) r4 (zq _ _ _ hn)
  refine wIf_d (fun c2 => ?_) (fun c2 => ?_)
  · have hb : pBody k = fun s => pBind (pTru s) fun t s' => .ok (⟨k, if t then 1 else 0, ⟨#[]⟩, []⟩, s') := by funext s; unfold pBody; rw [if_neg c1, if_pos c2]
    rw [hb] at tail
    refine wPt_at (wCall_of (refTru r.hd (fun H3 t s3 e3 hs d3 f3 => opB_at (wIf_b (fun ht => ?_) (fun ht => ?_)))))
    · subst ht
      refine (r.call d3 f3).st (Nat.le_of_ble_eq_true rfl) (fun H4 r4 f4 => ?_)
      rw [f56_J1_eq]; unfold f56_J1_B
      exact tail H4 ⟨k, 1, ⟨#[]⟩, []⟩ none 0 s3 e3 (Sk.bind nz_tru hs (Sk.ret _)) r4 (zq _ _ _ (by unfold i64ok; omega))
    · subst ht
      rw [f56_J1_eq]; unfold f56_J1_B
      exact tail H3 ⟨k, 0, ⟨#[]⟩, []⟩ none 0 s3 e3 (Sk.bind nz_tru hs (Sk.ret _)) (r.call d3 f3) (zq _ _ _ i64_0)
  refine wIf_d (fun c3 => ?_) (fun c3 => ?_)
  · have hb : pBody k = fun s => pBind (pTxt 64 s) fun t s' => .ok (⟨k, 0, t, []⟩, s') := by funext s; unfold pBody; rw [if_neg c1, if_neg c2, if_pos c3]
    rw [hb] at tail
    refine wPt_at (wCall_of (refTxt (by omega) (by omega) r.hd (fun H3 t s3 e3 hs d3 f3 => opS_at ((r.call d3 f3).st (Nat.le_of_ble_eq_true rfl) (fun H4 r4 f4 => ?_)))))
    rw [f56_J1_eq]; unfold f56_J1_B
    exact tail H4 ⟨k, 0, t, []⟩ none 0 s3 e3 (Sk.bind nz_txt hs (Sk.ret _)) r4 (zq _ _ _ i64_0)
  refine wIf_d (fun c4 => ?_) (fun c4 => ?_)
  · have hb : pBody k = fun s => pBind (pTxt 24 s) fun t s' => .ok (⟨k, 0, t, []⟩, s') := by funext s; unfold pBody; rw [if_neg c1, if_neg c2, if_neg c3, if_pos c4]
    rw [hb] at tail
    refine wPt_at (wCall_of (refTxt (by omega) (by omega) r.hd (fun H3 t s3 e3 hs d3 f3 => opS_at ((r.call d3 f3).st (Nat.le_of_ble_eq_true rfl) (fun H4 r4 f4 => ?_)))))
    rw [f56_J1_eq]; unfold f56_J1_B
    exact tail H4 ⟨k, 0, t, []⟩ none 0 s3 e3 (Sk.bind nz_txt hs (Sk.ret _)) r4 (zq _ _ _ i64_0)
  refine wIf_d (fun c5 => ?_) (fun c5 => ?_)
  · have hb : pBody k = fun s => pBind (pCnt 16 s) fun n s1 => pBind (pNums n.toNat s1) fun l s2 => .ok (⟨k, 0, ⟨#[]⟩, l⟩, s2) := by funext s; unfold pBody; rw [if_neg c1, if_neg c2, if_neg c3, if_neg c4, if_pos c5]
    rw [hb] at tail
    refine wPt_at (wCall_of (refCnt (by omega) (by omega) r.hd (fun H3 n s3 e3 hs hn d3 f3 => opI_at ?_)))
    have r3 := r.call d3 f3
    refine f56_L0_rule (J := fun m rr H' => ∃ (j : Nat) (l : List Int) (s' : ByteArray) (e' : Int) (o : Nat) (b : Option Addr), j ≤ n.toNat ∧ rr = (j : Int) ∧ m = n.toNat - j ∧ Sk (pRep pNum j) s3 e3 l s' e' ∧ l.length = j ∧ RC H H' i y x S s' e' zeroV [.int .i64 k, .int .i64 0, .string ⟨#[]⟩, .slice b l.length 0] ∧ (l.length ≠ 0 → x < o) ∧ (∀ z ∈ l, i64ok z) ∧ Out 1 NSeg H' b o l) n.toNat
      ⟨0, [], s3, e3, 0, none, Nat.zero_le _, rfl, rfl, Sk.nil, rfl, r3, fun e => absurd rfl e, fun z hz => by simp at hz, Out.nil⟩ ?_
    rintro m rr H5 ⟨j, l, s5, e5, o, b, hj, rfl, rfl, hsk, hlen, r5, ho, hl64, hout⟩
    intros
    unfold f56_R0
    refine wIf_d (fun hlt => ?_) (fun hge => ?_)
    · have step : ∀ (K : Option Addr → Nat → Nat → AH → Prop) (v : Int) (s6 : ByteArray) (e6 : Int) (H8 : AH) (q : Nat), Sk pNum s5 e5 v s6 e6 → i64ok v → RC H H8 i y x S s6 e6 zeroV [.int .i64 k, .int .i64 0, .string ⟨#[]⟩, .slice b l.length 0] → Has H8 q (.row [.int .i64 v] 1) → Out 1 NSeg H8 b o l →
          (∀ H', (∃ (j' : Nat) (l' : List Int) (s' : ByteArray) (e' : Int) (o : Nat) (b : Option Addr), j' ≤ n.toNat ∧ IntKind.i64.wrap ((j : Int) + 1) = (j' : Int) ∧ n.toNat - (j + 1) = n.toNat - j' ∧ Sk (pRep pNum j') s3 e3 l' s' e' ∧ l'.length = j' ∧ RC H H' i y x S s' e' zeroV [.int .i64 k, .int .i64 0, .string ⟨#[]⟩, .slice b l'.length 0] ∧ (l'.length ≠ 0 → x < o) ∧ (∀ z ∈ l', i64ok z) ∧ Out 1 NSeg H' b o l') → ∀ zb zl zc, K zb zl zc H') →
          wAppL 2 1 8 b l.length 0 (some ⟨q, 0, none⟩) 1 0 H8 fun zb zl zc H9 => wSt x 3 [.slice zb zl zc] H9 (K zb zl zc) := by
        intro K v s6 e6 H8 q hv hv64 r8 hq hout8 hK
        refine r8.growN (Nat.le_of_ble_eq_true rfl) hout8 ho (by omega) hq (fun H' r' f' out' hn' => hK H' ⟨j + 1, l ++ [v], s6, e6, H8.next, _, by omega, wi1 j (by omega), rfl, Sk.snoc nz_num hsk hv, by rw [List.length_append, hlen]; rfl, r', fun _ => by have := r8.hx.lt; omega, fun z hz => ?_, out'⟩)
        rcases List.mem_append.1 hz with hz | hz
        · exact hl64 z hz
        · rw [List.mem_singleton.1 hz]; exact hv64
      have hop : l.length ≠ 0 → o ∉ [i] := fun e => by have := ho e; simp; omega
      refine wPt_at (wPt_at ⟨?_, ?_⟩)
      · refine ldL_at r5.hx rfl (wCall_of (refNum r5.hd (fun H6 v s6 e6 hv hv64 d6 f6 => opI_at (wBs_at ?_))))
        have fx : Fr [] H6 (H6.push (.row [.int .i64 v] 1)) := (Fr.refl _ _).push _
        refine step _ v s6 e6 _ _ hv hv64 ((r5.call d6 f6).fr0 fx) (Has.new _ _) ((hout.fr f6 hop (fun _ _ h => h)).fr fx (fun _ => by simp) (fun _ _ h => h)) (fun H' hh zb zl zc => ?_)
        rw [f56_J0_eq]; unfold f56_J0_B
        exact ⟨n.toNat - (j + 1), by omega, f56_I0_mk hh⟩
      · refine wCall_of (refNum r5.hd (fun H6 v s6 e6 hv hv64 d6 f6 => opI_at ⟨?_, ?_⟩))
        all_goals
          have fx : Fr [] H6 (H6.push (.row [.int .i64 v] 1)) := (Fr.refl _ _).push _
          have r6 := r5.call d6 f6
          have r7 := r6.fr0 fx
          first
            | refine ldL_at r6.hx rfl (wBs_at ?_)
            | refine wBs_at (ldL_at r7.hx rfl ?_)
          refine step _ v s6 e6 _ _ hv hv64 r7 (Has.new _ _) ((hout.fr f6 hop (fun _ _ h => h)).fr fx (fun _ => by simp) (fun _ _ h => h)) (fun H' hh zb zl zc => ?_)
          rw [f56_J0_eq]; unfold f56_J0_B
          exact ⟨n.toNat - (j + 1), by omega, f56_I0_mk hh⟩
    · have hjn : j = n.toNat := by omega
      subst hjn
      obtain ⟨ccs, cw, csg⟩ := hout.vw
      rw [f56_J1_eq]; unfold f56_J1_B
      have hr : (fun s => pNums n.toNat s) = pRep pNum n.toNat := funext (pNums_rep _)
      refine tail H5 ⟨k, 0, ⟨#[]⟩, l⟩ b 0 s5 e5 (Sk.bind nz_cnt hs ?_) r5 ⟨⟨i64_0, hl64⟩, o, by rw [← ints_of csg]; exact cw, fun e => ho e⟩
      have := Sk.bind (f := fun l s2 => .ok ((⟨k, 0, ⟨#[]⟩, l⟩ : Val), s2)) (nz_rep nz_num n.toNat) hsk (Sk.ret _)
      rw [← hr] at this
      exact this
  · have hb : pBody k = fun s => .ok (⟨k, 0, ⟨#[]⟩, []⟩, s) := by funext s; unfold pBody; rw [if_neg c1, if_neg c2, if_neg c3, if_neg c4, if_neg c5]
    rw [hb] at tail
    rw [f56_J1_eq]; unfold f56_J1_B
    exact tail H2 ⟨k, 0, ⟨#[]⟩, []⟩ none 0 s1 e1 (Sk.ret _) r (zq _ _ _ i64_0)
end
end Go.Proofs.Ytfghglacfjncmaa

/-! The reference: a row, a message, an artifact is read. -/
namespace Go.Proofs.Ytfghglacfjncmaa
set_option linter.unusedVariables false
set_option linter.unusedSimpArgs false
set_option maxRecDepth 20000
open Go.RowKit

section
variable {H : AH} {R : AEnd → AH → Prop} {i : Nat} {S s : ByteArray} {e : Int}
set_option maxHeartbeats 4000000 in
theorem refRow_call (hd : RR H i S s e) (h : ∀ H' vs b c s' e', Sk pRow s e vs s' e' → RR H' i S s' e' → Fr [i] H H' → RQ (fun j => H.next ≤ j) H' b vs → R (.ret (.slice b vs.length c)) H') : ACall Try.prog 87 [.pointer (some ⟨i, 0, none⟩)] H R := by
  apply f87_call
  unfold f87_B
  have hl := hd.lt
  refine wPt_at (wCall_of (refCnt (by omega) (by omega) hd (fun H2 n s1 e1 hk hn d2 f2 => opI_at ?_)))
  refine f87_L0_rule (J := fun m b l c r H' => ∃ (k : Nat) (vs : List Val) (s' : ByteArray) (e' : Int) (o : Nat), k ≤ n.toNat ∧ r = (k : Int) ∧ m = n.toNat - k ∧ Sk (pRep pVal k) s1 e1 vs s' e' ∧ vs.length = k ∧ l = vs.length ∧ c = 0 ∧ RR H' i S s' e' ∧ Fr [i] H H' ∧ (vs.length ≠ 0 → H.next ≤ o ∧ o < H'.next) ∧ (vs.length = 0 → o = 0) ∧ Out 4 (VSeg (fun j => H.next ≤ j ∧ j ≠ o) H') H' b o vs) n.toNat
    ⟨0, [], s1, e1, 0, Nat.zero_le _, rfl, rfl, Sk.nil, rfl, rfl, rfl, d2, f2, fun e => absurd rfl e, fun _ => rfl, Out.nil⟩ ?_
  rintro m b l c r H5 ⟨k, vs, s5, e5, o, hkn, rfl, rfl, hsk, hlen, rfl, rfl, d5, f5, ho, ho0, hout⟩
  intros
  unfold f87_R0
  have n5 := f5.next
  refine wIf_d (fun hlt => ?_) (fun hge => ?_)
  · refine wCall_of (refValue_call d5 (fun H6 v b' c' s6 e6 hv d6 f6 hw => ?_))
    refine opA_at rfl (opI_at (opI_at (opS_at (opL_at (wBs_at ?_)))))
    have hn6 := Has.new H6 (.row (valC v b' c') 4)
    have f7 : Fr [i] H5 (H6.push (.row (valC v b' c') 4)) := f6.push _
    have fx : Fr [] H6 (H6.push (.row (valC v b' c') 4)) := (Fr.refl _ _).push _
    replace d6 := d6.push (.row (valC v b' c') 4)
    replace hw := hw.fr fx (fun z hz => by cases hz)
    have n6 := f6.next
    have hne6 : H6.next ≠ i := by omega
    have ho2 : vs.length ≠ 0 → o ∉ [i] := fun e => by have := ho e; simp; omega
    have hout7 : Out 4 (VSeg (fun j => H.next ≤ j ∧ j ≠ o) (H6.push (.row (valC v b' c') 4))) (H6.push (.row (valC v b' c') 4)) b o vs := hout.fr f7 ho2 (fun sg a ⟨x, y, g1, g2⟩ => ⟨x, y, g1, g2.fr f7 (fun z hz => by simp at hz; omega)⟩)
    have n7 : (H6.push (.row (valC v b' c') 4)).next = H6.next + 1 := rfl
    generalize H6.push (.row (valC v b' c') 4) = H7 at hn6 f7 d6 hw hout7 n7 ⊢
    generalize H6.next = bq at hn6 n6 n7 hne6 ⊢
    have hno : ∀ j, H5.next ≤ j → H.next ≤ j ∧ j ≠ o := fun j hj => ⟨by omega, by
      by_cases e0 : vs.length = 0
      · have := ho0 e0; omega
      · have := ho e0; omega⟩
    refine hout7.grow (a := v) rfl rfl hn6 (by omega) (by omega) ⟨b', c', rfl, hw.mono hno⟩ (fun H8 f8 hg => ?_)
    have hS : ∀ x ∈ (if vs.length = 0 then [] else [o]), H.next ≤ x ∧ x = o := fun x hx => by
      split at hx
      · cases hx
      · rename_i e; simp at hx; have := ho e; omega
    have n8 := f8.next
    have hlen' : (vs ++ [v]).length = vs.length + 1 := by simp
    refine ⟨n.toNat - (k + 1), by omega, f87_I0_mk ⟨k + 1, vs ++ [v], s6, e6, H7.next, by omega, wi1 k (by omega), rfl, Sk.snoc nz_val hsk hv, by rw [hlen', hlen], hlen'.symm, rfl, d6.fr f8 (fun x => by have := hS _ x; omega), (f5.trans f7).trans' f8 (fun x hx => .inr (by have := hS x hx; omega)), fun _ => ⟨by omega, ?_⟩, fun e => by rw [hlen'] at e; omega, ?_⟩⟩
    · obtain ⟨cs, g1, g2, g3⟩ := (hg (fun _ _ => True) (fun _ _ _ => trivial)).ex
      exact (g3 (by simp)).2.lt
    · exact hg _ (fun sg a ⟨x, y, g1, g2⟩ => ⟨x, y, g1, (g2.lt.fr f8 (fun z hz y => y.1.2 (hS z hz).2)).mono (fun j hj => ⟨hj.1.1, by have := hj.2; omega⟩)⟩)
  · have hkl : k = n.toNat := by omega
    subst hkl
    obtain ⟨cs, g1, g2⟩ := hout.vw
    exact h H5 vs b 0 s5 e5 (Sk.bind nz_cnt hk hsk) d5 f5 ⟨o, cs, g1, fun e => (ho e).1, g2.mono fun sg a ⟨x, y, g3, g4⟩ => ⟨x, y, g3, g4.mono (fun j hj => hj.1)⟩⟩
set_option maxHeartbeats 4000000 in
theorem refMailR_call (hd : RR H i S s e) (h : ∀ H' m kb kc fb fc s' e', Sk pMail s e m s' e' → RR H' i S s' e' → Fr [i] H H' → MQ (fun j => H.next ≤ j) H' m kb fb → R (.ret (.agg (maiC m kb kc fb fc).toArray)) H') : ACall Try.prog 60 [.pointer (some ⟨i, 0, none⟩)] H R := by
  apply f60_call
  unfold f60_B
  have hl := hd.lt
  refine wNew_at (wPt_at ?_)
  have hy := Has.new H (.row zeroM 0)
  have f1 : Fr [i] H (H.push (.row zeroM 0)) := (Fr.refl _ _).push _
  replace hd := hd.push (.row zeroM 0)
  have n1 : (H.push (.row zeroM 0)).next = H.next + 1 := rfl
  generalize H.push (.row zeroM 0) = H1 at hy f1 hd n1 ⊢
  generalize hye : H.next = y at hy n1 h hl ⊢
  refine wCall_of (refNum hd (fun H2 a s2 e2 ka ha d2 f2 => opI_at (wPt_at ?_)))
  replace hy := hy.fr f2 (by simp; omega)
  have n2 := f2.next
  refine wCall_of (refTxt (by omega) (by omega) d2 (fun H3 b s3 e3 kb' d3 f3 => opS_at ?_))
  replace hy := hy.fr f3 (by simp; omega)
  have n3 := f3.next
  refine wCall_of (refRow_call d3 (fun H4 c kb kc s4 e4 kc' d4 f4 hk => opL_at ?_))
  replace hy := hy.fr f4 (by simp; omega)
  have n4 := f4.next
  replace hk := hk.mono (Q' := fun j => y < j) (fun j hj => by omega)
  refine wCall_of (refRow_call d4 (fun H5 d fb fc s5 e5 kd' d5 f5 hf => opL_at ?_))
  replace hy := hy.fr f5 (by simp; omega)
  have n5 := f5.next
  replace hf := hf.mono (Q' := fun j => y < j) (fun j hj => by omega)
  replace hk := hk.fr f5 (fun z hz => by simp at hz; omega)
  have g := hy.set (.row (setCells zeroM 0 (maiC ⟨a, b, c, d⟩ kb kc fb fc)) 0)
  have fy : Fr [y] H5 (H5.set y (.row (setCells zeroM 0 (maiC ⟨a, b, c, d⟩ kb kc fb fc)) 0)) := (Fr.refl _ _).set (.inl (by simp)) _
  refine wSt_at hy (Nat.le_of_ble_eq_true rfl) (wPt_at (ldI_at g rfl (ldS_at g rfl (ldL_at g rfl (ldL_at g rfl ?_)))))
  refine h _ ⟨a, b, c, d⟩ kb kc fb fc s5 e5 ?_ (d5.setne (by omega) _) (((((f1.trans f2).trans f3).trans f4).trans f5).set (.inr (by omega)) _) ⟨ha, (hk.fr fy (fun z hz => by simp at hz; omega)).mono (fun j hj => by omega), (hf.fr fy (fun z hz => by simp at hz; omega)).mono (fun j hj => by omega)⟩
  exact Sk.bind nz_num ka (Sk.bind nz_txt kb' (Sk.bind nz_row kc' (Sk.bind nz_row kd' (Sk.ret _))))
end
end Go.Proofs.Ytfghglacfjncmaa

/-! The reference: what is got of any bytes. -/
namespace Go.Proofs.Ytfghglacfjncmaa
set_option linter.unusedVariables false
set_option linter.unusedSimpArgs false
set_option maxRecDepth 20000
open Go.RowKit

/-- The result's box, the reference's reader, the thing's box: all new. -/
structure GC (H0 H : AH) (y p x : Nat) (S s : ByteArray) (e : Int) (Z X : List Value) : Prop where
  hd : RR H p S s e
  hy : Has H y (.row Z 0)
  hx : Has H x (.row X 0)
  fr : Fr [] H0 H
  ord : H0.next ≤ y ∧ y < p ∧ p < x
section
variable {H0 H H' : AH} {p y x : Nat} {S s s' : ByteArray} {e e' : Int} {Z X : List Value}
theorem GC.call (r : GC H0 H y p x S s e Z X) (d : RR H' p S s' e') (f : Fr [p] H H') : GC H0 H' y p x S s' e' Z X := by
  have := r.ord
  exact ⟨d, r.hy.fr f (by simp; omega), r.hx.fr f (by simp; omega), r.fr.trans' f (fun z hz => .inr (by simp at hz; omega)), r.ord⟩
theorem GC.st (r : GC H0 H y p x S s e Z X) {k : Nat} {vs : List Value} {K : AH → Prop} (hl : k + vs.length ≤ X.length) (h : ∀ H', GC H0 H' y p x S s e Z (setCells X k vs) → Fr [x] H H' → K H') : wSt x k vs H K := by
  have := r.ord
  exact wSt_at r.hx hl (h _ ⟨r.hd.setne (by omega) _, r.hy.setne (by omega) _, r.hx.set _, r.fr.set (.inr (by omega)) _, r.ord⟩ ((Fr.refl _ _).set (.inl (by simp)) _))
theorem GC.start {H H3 : AH} {Z X : List Value} (d3 : RR H3 (H.push (.row Z 0)).next S s e) (f3 : Fr [(H.push (.row Z 0)).next] ((H.push (.row Z 0)).push (rrd S 0 0)) H3) : GC H ((H3.push (.row Z 0)).set H3.next (.row X 0)) H.next (H.push (.row Z 0)).next H3.next S s e Z X := by
  have n1 : (H.push (.row Z 0)).next = H.next + 1 := rfl
  have n3 : H.next + 2 ≤ H3.next := f3.next
  refine ⟨(d3.push _).setne (by omega) _, ((((Has.new H (.row Z 0)).push _).fr f3 (by simp; omega)).push _).setne (by omega) _, (Has.new _ _).set _, ?_, ⟨Nat.le_refl _, by omega, by omega⟩⟩
  exact ((((((Fr.refl [] H).push _).push _).trans' f3 (fun z hz => .inr (by simp at hz; omega))).push _).set (.inr (by omega)) _)
theorem GC.first (H : AH) (Z : List Value) (hS : S.size ≤ 1000000) : RR ((H.push (.row Z 0)).push (rrd S 0 0)) (H.push (.row Z 0)).next S S 0 :=
  ⟨⟨0, Has.new _ _, Nat.zero_le _, fun _ => by apply ext_eq; rw [data_drop, List.drop_zero]⟩, hS⟩
end
theorem get_fin {α : Type} {p : ByteArray → Rd α} {S s' : ByteArray} {a z : α} {e' : Int} (hp : Nz p) (h : Sk p S 0 a s' e') : rdE s' e' = gE (pAll (p S)) ∧ (rdE s' e' = 0 → gA z (pAll (p S)) = a) ∧ (rdE s' e' ≠ 0 → gA z (pAll (p S)) = z) := by
  unfold rdE
  cases hq : p S with
  | error e0 =>
    have h1 := h.er _ rfl hq
    have h2 := hp _ _ hq
    subst h1
    rw [if_neg h2]
    exact ⟨rfl, fun y => absurd y h2, fun _ => rfl⟩
  | ok x =>
    obtain ⟨a0, s0⟩ := x
    obtain ⟨rfl, rfl, rfl⟩ := h.ok _ _ rfl hq
    rw [if_pos rfl]
    unfold pAll
    by_cases hz : s'.size = 0
    · simp only [if_pos hz]
      exact ⟨rfl, fun _ => rfl, fun y => absurd rfl y⟩
    · simp only [if_neg hz]
      exact ⟨rfl, fun y => (by cases y), fun _ => rfl⟩
section
variable {H : AH} {R : AEnd → AH → Prop} {S : ByteArray}
set_option maxHeartbeats 4000000 in
theorem refgets_call (hS : S.size ≤ 1000000) (h : ∀ H' w e, w = gA zSbs (pAll (pSub S)) → e = gE (pAll (pSub S)) → Fr [] H H' → (i64ok w.id ∧ i64ok w.past) → R (.ret (.tuple #[.agg (sbsC w).toArray, .int .i64 e])) H') : ACall Try.prog 46 [.string S] H R := by
  apply f46_call
  unfold f46_B
  refine wNew_at (wNew_at ?_)
  have d0 := GC.first (S := S) H zeroS hS
  refine wCall_of (refNum d0 (fun H3 a s3 e3 ka ha d3 f3 => opI_at (wNew_at (wSt_at (Has.new _ _) (Nat.le_of_ble_eq_true rfl) ?_))))
  have r := GC.start (Z := zeroS) (X := setCells zeroS 0 [.int .i64 a, .string ⟨#[]⟩, .int .i64 0]) d3 f3
  have hyp : (H.push (.row zeroS 0)).next = H.next + 1 := rfl
  generalize (H3.push (.row zeroS 0)).set H3.next (.row (setCells zeroS 0 [.int .i64 a, .string ⟨#[]⟩, .int .i64 0]) 0) = H4 at r ⊢
  generalize H3.next = x at r ⊢
  generalize hye : H.next = y_ at r ⊢
  generalize (H.push (.row zeroS 0)).next = p_ at r ⊢
  refine wCall_of (refNum r.hd (fun H5 b s5 e5 kb hb d_ f_ => opI_at ((r.call d_ f_).st (Nat.le_of_ble_eq_true rfl) (fun H6 r f_ => ?_))))
  refine wCall_of (refTxt (by omega) (by omega) r.hd (fun H7 c s9 e9 kc d_ f_ => opS_at ((r.call d_ f_).st (Nat.le_of_ble_eq_true rfl) (fun H9 r f_ => ?_))))
  have hk : Sk pSub S 0 (⟨a, c, b⟩ : Sbs) s9 e9 := Sk.bind nz_num ka (Sk.bind nz_num kb (Sk.bind nz_txt kc (Sk.ret _)))
  have ho := r.ord
  refine wCall_of (refEnd_call r.hd (opI_at ?_))
  obtain ⟨k1, k2, k3⟩ := get_fin (z := zSbs) nz_sub hk
  refine wIf_n (fun he => ?_) (fun he => ?_)
  · have g1 := r.hy.set (.row (setCells zeroS 0 zeroS) 0)
    refine wSt_at r.hy (Nat.le_of_ble_eq_true rfl) (wPt_at (ldI_at g1 rfl (ldS_at g1 rfl (ldI_at g1 rfl (?_)))))
    exact h _ zSbs  _ (k3 he).symm k1 (r.fr.set (.inr (by omega)) _) ⟨i64_0, i64_0⟩
  · have g1 := r.hy.set (.row (setCells zeroS 0 (sbsC (⟨a, c, b⟩ : Sbs))) 0)
    refine ldI_at r.hx rfl (ldS_at r.hx rfl (ldI_at r.hx rfl (wSt_at r.hy (Nat.le_of_ble_eq_true rfl) (wPt_at (ldI_at g1 rfl (ldS_at g1 rfl (ldI_at g1 rfl (?_))))))))
    exact h _ (⟨a, c, b⟩ : Sbs)  _ (k2 he).symm (he.symm.trans k1) (r.fr.set (.inr (by omega)) _) ⟨ha, hb⟩
set_option maxHeartbeats 4000000 in
theorem refgete_call (hS : S.size ≤ 1000000) (h : ∀ H' w ab ac e, w = gA zEvt (pAll (pEvent S)) → e = gE (pAll (pEvent S)) → Fr [] H H' → (i64ok w.n ∧ i64ok w.tick ∧ i64ok w.item) → RIs H' ab w.attrs → R (.ret (.tuple #[.agg (evtC w ab ac).toArray, .int .i64 e])) H') : ACall Try.prog 44 [.string S] H R := by
  apply f44_call
  unfold f44_B
  refine wNew_at (wNew_at ?_)
  have d0 := GC.first (S := S) H zeroE hS
  refine wCall_of (refNum d0 (fun H3 a s3 e3 ka ha d3 f3 => opI_at (wNew_at (wSt_at (Has.new _ _) (Nat.le_of_ble_eq_true rfl) ?_))))
  have r := GC.start (Z := zeroE) (X := setCells zeroE 0 [.int .i64 a, .int .i64 0, .string ⟨#[]⟩, .int .i64 0, .string ⟨#[]⟩, .string ⟨#[]⟩, .slice none 0 0]) d3 f3
  have hyp : (H.push (.row zeroE 0)).next = H.next + 1 := rfl
  generalize (H3.push (.row zeroE 0)).set H3.next (.row (setCells zeroE 0 [.int .i64 a, .int .i64 0, .string ⟨#[]⟩, .int .i64 0, .string ⟨#[]⟩, .string ⟨#[]⟩, .slice none 0 0]) 0) = H4 at r ⊢
  generalize H3.next = x at r ⊢
  generalize hye : H.next = y_ at r ⊢
  generalize (H.push (.row zeroE 0)).next = p_ at r ⊢
  refine wCall_of (refNum r.hd (fun H5 b s5 e5 kb hb d_ f_ => opI_at ((r.call d_ f_).st (Nat.le_of_ble_eq_true rfl) (fun H6 r f_ => ?_))))
  refine wCall_of (refNum r.hd (fun H5 c s5 e5 kc hc d_ f_ => opI_at ((r.call d_ f_).st (Nat.le_of_ble_eq_true rfl) (fun H6 r f_ => ?_))))
  refine wCall_of (refTxt (by omega) (by omega) r.hd (fun H5 d s5 e5 kd d_ f_ => opS_at ((r.call d_ f_).st (Nat.le_of_ble_eq_true rfl) (fun H6 r f_ => ?_))))
  refine wCall_of (refTxt (by omega) (by omega) r.hd (fun H5 e s5 e5 ke d_ f_ => opS_at ((r.call d_ f_).st (Nat.le_of_ble_eq_true rfl) (fun H6 r f_ => ?_))))
  refine wCall_of (refTxt (by omega) (by omega) r.hd (fun H5 f s5 e5 kf d_ f_ => opS_at ((r.call d_ f_).st (Nat.le_of_ble_eq_true rfl) (fun H6 r f_ => ?_))))
  have hxl := r.hx.lt
  refine wCall_of (refRow_call r.hd (fun H7 g ab ac s9 e9 kg d_ f_ hq => opL_at ((r.call d_ f_).st (Nat.le_of_ble_eq_true rfl) (fun H9 r f9 => ?_))))
  replace hq := (hq.mono (Q' := fun j => x < j) (fun j hj => by omega)).fr f9 (fun z hz => by simp at hz; omega)
  have hk : Sk pEvent S 0 (⟨a, b, d, c, e, f, g⟩ : Evt) s9 e9 := Sk.bind nz_num ka (Sk.bind nz_num kb (Sk.bind nz_num kc (Sk.bind nz_txt kd (Sk.bind nz_txt ke (Sk.bind nz_txt kf (Sk.bind nz_row kg (Sk.ret _)))))))
  have ho := r.ord
  refine wCall_of (refEnd_call r.hd (opI_at ?_))
  obtain ⟨k1, k2, k3⟩ := get_fin (z := zEvt) nz_event hk
  refine wIf_n (fun he => ?_) (fun he => ?_)
  · have g1 := r.hy.set (.row (setCells zeroE 0 zeroE) 0)
    refine wSt_at r.hy (Nat.le_of_ble_eq_true rfl) (wPt_at (ldI_at g1 rfl (ldI_at g1 rfl (ldS_at g1 rfl (ldI_at g1 rfl (ldS_at g1 rfl (ldS_at g1 rfl (ldL_at g1 rfl (?_)))))))))
    exact h _ zEvt none 0 _ (k3 he).symm k1 (r.fr.set (.inr (by omega)) _) ⟨i64_0, i64_0, i64_0⟩ RIs.z
  · have g1 := r.hy.set (.row (setCells zeroE 0 (evtC (⟨a, b, d, c, e, f, g⟩ : Evt) ab ac)) 0)
    have fy := (Fr.refl [y_] H9).set (i := y_) (.inl (by simp)) (.row (setCells zeroE 0 (evtC (⟨a, b, d, c, e, f, g⟩ : Evt) ab ac)) 0)
    refine ldI_at r.hx rfl (ldI_at r.hx rfl (ldS_at r.hx rfl (ldI_at r.hx rfl (ldS_at r.hx rfl (ldS_at r.hx rfl (ldL_at r.hx rfl (wSt_at r.hy (Nat.le_of_ble_eq_true rfl) (wPt_at (ldI_at g1 rfl (ldI_at g1 rfl (ldS_at g1 rfl (ldI_at g1 rfl (ldS_at g1 rfl (ldS_at g1 rfl (ldL_at g1 rfl (?_))))))))))))))))
    exact h _ (⟨a, b, d, c, e, f, g⟩ : Evt) ab ac _ (k2 he).symm (he.symm.trans k1) (r.fr.set (.inr (by omega)) _) ⟨ha, hb, hc⟩ (hq.fr fy (fun z hz => by simp at hz; omega)).is
set_option maxHeartbeats 4000000 in
theorem refgetd_call (hS : S.size ≤ 1000000) (h : ∀ H' w kb kc fb fc e, w = gA zDea (pAll (pDead S)) → e = gE (pAll (pDead S)) → Fr [] H H' → i64ok w.n → MIs H' w.mail kb fb → R (.ret (.tuple #[.agg (deaC w kb kc fb fc).toArray, .int .i64 e])) H') : ACall Try.prog 42 [.string S] H R := by
  apply f42_call
  unfold f42_B
  refine wNew_at (wNew_at ?_)
  have d0 := GC.first (S := S) H zeroD hS
  refine wCall_of (refNum d0 (fun H3 a s3 e3 ka ha d3 f3 => opI_at (wNew_at (wSt_at (Has.new _ _) (Nat.le_of_ble_eq_true rfl) ?_))))
  have r := GC.start (Z := zeroD) (X := setCells zeroD 0 [.int .i64 a, .int .i64 0, .string ⟨#[]⟩, .slice none 0 0, .slice none 0 0, .int .i64 0]) d3 f3
  have hyp : (H.push (.row zeroD 0)).next = H.next + 1 := rfl
  generalize (H3.push (.row zeroD 0)).set H3.next (.row (setCells zeroD 0 [.int .i64 a, .int .i64 0, .string ⟨#[]⟩, .slice none 0 0, .slice none 0 0, .int .i64 0]) 0) = H4 at r ⊢
  generalize H3.next = x at r ⊢
  generalize hye : H.next = y_ at r ⊢
  generalize (H.push (.row zeroD 0)).next = p_ at r ⊢
  have hxl := r.hx.lt
  refine wCall_of (refMailR_call r.hd (fun H7 b kb kc fb fc s7 e7 kb' d_ f_ hq => opA_at rfl (opI_at (opS_at (opL_at (opL_at ((r.call d_ f_).st (Nat.le_of_ble_eq_true rfl) (fun H8 r f8 => ?_))))))))
  replace hq := (hq.mono (Q' := fun j => x < j) (fun j hj => by omega)).fr f8 (fun z hz => by simp at hz; omega)
  have hxo := r.ord
  refine wCall_of (refCnt (by omega) (by omega) r.hd (fun H10 c s9 e9 kc' hc d_ f10 => opI_at ((r.call d_ f10).st (Nat.le_of_ble_eq_true rfl) (fun H9 r f9 => ?_))))
  replace hq := (hq.fr f10 (fun z hz => by simp at hz; omega)).fr f9 (fun z hz => by simp at hz; omega)
  have hk : Sk pDead S 0 (⟨a, b, c⟩ : Dea) s9 e9 := Sk.bind nz_num ka (Sk.bind nz_mail kb' (Sk.bind nz_cnt kc' (Sk.ret _)))
  have ho := r.ord
  refine wCall_of (refEnd_call r.hd (opI_at ?_))
  obtain ⟨k1, k2, k3⟩ := get_fin (z := zDea) nz_dead hk
  refine wIf_n (fun he => ?_) (fun he => ?_)
  · have g1 := r.hy.set (.row (setCells zeroD 0 zeroD) 0)
    refine wSt_at r.hy (Nat.le_of_ble_eq_true rfl) (wPt_at (ldI_at g1 rfl (ldI_at g1 rfl (ldS_at g1 rfl (ldL_at g1 rfl (ldL_at g1 rfl (ldI_at g1 rfl (?_))))))))
    exact h _ zDea none 0 none 0 _ (k3 he).symm k1 (r.fr.set (.inr (by omega)) _) i64_0 MIs.z
  · have g1 := r.hy.set (.row (setCells zeroD 0 (deaC (⟨a, b, c⟩ : Dea) kb kc fb fc)) 0)
    have fy := (Fr.refl [y_] H9).set (i := y_) (.inl (by simp)) (.row (setCells zeroD 0 (deaC (⟨a, b, c⟩ : Dea) kb kc fb fc)) 0)
    refine ldI_at r.hx rfl (ldI_at r.hx rfl (ldS_at r.hx rfl (ldL_at r.hx rfl (ldL_at r.hx rfl (ldI_at r.hx rfl (wSt_at r.hy (Nat.le_of_ble_eq_true rfl) (wPt_at (ldI_at g1 rfl (ldI_at g1 rfl (ldS_at g1 rfl (ldL_at g1 rfl (ldL_at g1 rfl (ldI_at g1 rfl (?_))))))))))))))
    exact h _ (⟨a, b, c⟩ : Dea) kb kc fb fc _ (k2 he).symm (he.symm.trans k1) (r.fr.set (.inr (by omega)) _) ha (hq.fr fy (fun z hz => by simp at hz; omega)).is
end
end Go.Proofs.Ytfghglacfjncmaa
