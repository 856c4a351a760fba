/- The deep rules once more, so that the kernel evaluates them fast: the variables' list is laid out at each step. -/
import Derived.Test.YtmidgfmopmpppaaVAbsU
namespace Go.Proofs.Ytmidgfmopmpppaa
set_option linter.unusedVariables false
set_option linter.unusedSimpArgs false
open Go.RowKit

abbrev forceL (l : List Value) : (List Value → Prop) → Prop :=
  List.rec (motive := fun _ => (List Value → Prop) → Prop) (fun k => k []) (fun v _ ih k => ih fun l' => k (v :: l')) l
set_option allowUnsafeReducibility true in
attribute [semireducible] forceL

theorem forceL_eq (l : List Value) (k : List Value → Prop) : forceL l k = k l := by
  induction l generalizing k with
  | nil => rfl
  | cons v l ih => exact ih _

abbrev gopF (P : Program) (all : Array Oper) (Q : AExit → List Value → AH → Prop) (o : Oper) (K : List Value → AH → Prop) (tm : List Value) (H : AH) : Prop :=
  match o.guard with
  | none => aop P tm o H (fun v H' => forceL (putT tm o.dst v) fun tm' => K tm' H') (fun v H' => Q (.panic v) tm H')
  | some (j, want) =>
    match (all[j]?).bind (·.dst) with
    | some t => aGd (chainOK all j tm) (tm.getD t undef)
        (forceL (tm.set t (.bool true)) fun tm =>
          match want with
          | true => aop P tm o H (fun v H' => forceL (putT tm o.dst v) fun tm' => K tm' H') (fun v H' => Q (.panic v) tm H')
          | false => forceL (putT tm o.dst undef) fun tm' => K tm' H)
        (forceL (tm.set t (.bool false)) fun tm =>
          match want with
          | true => forceL (putT tm o.dst undef) fun tm' => K tm' H
          | false => aop P tm o H (fun v H' => forceL (putT tm o.dst v) fun tm' => K tm' H') (fun v H' => Q (.panic v) tm H'))
        (forceL (putT tm o.dst undef) fun tm' => K tm' H)
    | none => False

set_option allowUnsafeReducibility true in
attribute [semireducible] gopF

noncomputable abbrev aopsF (P : Program) (all : Array Oper) (Q : AExit → List Value → AH → Prop) (l : List Oper) : List Value → AH → Prop :=
  List.rec (motive := fun _ => List Value → AH → Prop) (fun tm H => Q .normal tm H) (fun o _ ih tm H => gopF P all Q o ih tm H) l

set_option allowUnsafeReducibility true in
attribute [semireducible] aopsF

theorem gopF_gen (P : Program) (all : Array Oper) (Q : AExit → List Value → AH → Prop) (o : Oper) (K : List Value → AH → Prop) (tm : List Value) (H : AH) : gopF P all Q o K tm H =
    match o.guard with
    | none => aop P tm o H (fun v H' => K (putT tm o.dst v) H') (fun v H' => Q (.panic v) tm H')
    | some (j, want) =>
      match (all[j]?).bind (·.dst) with
      | some t => aGd (chainOK all j tm) (tm.getD t undef)
          (match want with
            | true => aop P (tm.set t (.bool true)) o H (fun v H' => K (putT (tm.set t (.bool true)) o.dst v) H') (fun v H' => Q (.panic v) (tm.set t (.bool true)) H')
            | false => K (putT (tm.set t (.bool true)) o.dst undef) H)
          (match want with
            | true => K (putT (tm.set t (.bool false)) o.dst undef) H
            | false => aop P (tm.set t (.bool false)) o H (fun v H' => K (putT (tm.set t (.bool false)) o.dst v) H') (fun v H' => Q (.panic v) (tm.set t (.bool false)) H'))
          (K (putT tm o.dst undef) H)
      | none => False := by
  unfold gopF
  cases o.guard with
  | none => simp only [forceL_eq]
  | some g =>
    obtain ⟨j, want⟩ := g
    dsimp only
    generalize (all[j]?).bind (·.dst) = x
    cases x with
    | none => rfl
    | some t => cases want <;> simp only [forceL_eq]

theorem aopsF_eq (P : Program) (all : Array Oper) (Q : AExit → List Value → AH → Prop) (l : List Oper) (tm : List Value) (H : AH) : aopsF P all Q l tm H = aops P all Q l tm H := by
  induction l generalizing tm H with
  | nil => rfl
  | cons o l ih =>
    show gopF P all Q o (aopsF P all Q l) tm H = _
    have e : aopsF P all Q l = aops P all Q l := by funext tm H; exact ih tm H
    rw [e, gopF_gen, aops]
    cases o.guard with
    | none => rfl
    | some g =>
      obtain ⟨j, want⟩ := g
      dsimp only
      generalize (all[j]?).bind (·.dst) = x
      cases x with
      | none => rfl
      | some t => cases want <;> rfl

theorem gopF_eq (P : Program) (all : Array Oper) (Q : AExit → List Value → AH → Prop) (i : Nat) (o : Oper) (h : all[i]? = some o) (K : List Value → AH → Prop) (tm : List Value) (H : AH) : gopF P all Q o K tm H = gstep P all Q i K tm H := by
  rw [gopF_gen]
  unfold gstep
  rw [h]
  cases hg : o.guard with
  | none => dsimp only; rw [hg]
  | some g =>
    obtain ⟨j, want⟩ := g
    dsimp only
    rw [hg]
    dsimp only
    generalize (all[j]?).bind (·.dst) = x
    cases x with
    | none => rfl
    | some t => cases want <;> rfl

/-! Draws by a number in the place of the flags. -/
def readyM (mask : Nat) : List Oper → Nat → List Nat
  | [], _ => []
  | o :: l, i => match !mask.testBit i && o.after.toList.all (fun e => !Region.binds .any e || mask.testBit e.on) with
    | true => i :: readyM mask l (i + 1)
    | false => readyM mask l (i + 1)
def freeM (ops : Array Oper) (mask : Nat) (i : Nat) (oi : Oper) : List Oper → Nat → Bool
  | [], _ => true
  | oj :: l, j => (j == i || mask.testBit j || (oj.after.any (fun e => Region.binds .any e && e.on == i) || oi.apart ops oj)) && freeM ops mask i oi l (j + 1)

structure MaskR (n : Nat) (listed : Array Bool) (mask : Nat) : Prop where
  size : listed.size = n
  lt : mask < 2 ^ n
  at_ : ∀ i, i < n → listed[i]? = some (mask.testBit i)

theorem MaskR.init (n : Nat) : MaskR n (Array.replicate n false) 0 :=
  ⟨by simp, Nat.two_pow_pos n, fun i hi => by simp [hi]⟩
theorem MaskR.set {n : Nat} {listed : Array Bool} {mask : Nat} (h : MaskR n listed mask) (i : Nat) (hi : i < n) : MaskR n (listed.setIfInBounds i true) (mask ||| 2 ^ i) := by
  refine ⟨by simp [h.size], Nat.or_lt_two_pow h.lt (Nat.pow_lt_pow_right (by omega) hi), fun j hj => ?_⟩
  rw [Nat.testBit_or, Nat.testBit_two_pow]
  by_cases e : i = j
  · subst e
    rw [Array.getElem?_setIfInBounds_self_of_lt (by rw [h.size]; exact hi)]
    simp
  · rw [Array.getElem?_setIfInBounds_ne e, h.at_ j hj]
    simp [e]
theorem MaskR.getT {n : Nat} {listed : Array Bool} {mask : Nat} (h : MaskR n listed mask) (i : Nat) (hi : i < n) : listed.getD i true = mask.testBit i := by
  rw [Array.getD_eq_getD_getElem?, h.at_ i hi]; rfl
theorem MaskR.getF {n : Nat} {listed : Array Bool} {mask : Nat} (h : MaskR n listed mask) (i : Nat) : listed.getD i false = mask.testBit i := by
  by_cases hi : i < n
  · rw [Array.getD_eq_getD_getElem?, h.at_ i hi]; rfl
  · rw [Array.getD_eq_getD_getElem?, Array.getElem?_eq_none (by rw [h.size]; omega)]
    have : mask < 2 ^ i := Nat.lt_of_lt_of_le h.lt (Nat.pow_le_pow_right (by omega) (by omega))
    rw [Nat.testBit_lt_two_pow this]; rfl

theorem readyM_filter (mask : Nat) (p : Nat → Bool) : ∀ (l : List Oper) (k : Nat), (∀ (i : Nat) o, l[i]? = some o → p (k + i) = (!mask.testBit (k + i) && o.after.toList.all (fun e => !Region.binds .any e || mask.testBit e.on))) →
    readyM mask l k = (List.range' k l.length).filter p := by
  intro l
  induction l with
  | nil => intro k _; rfl
  | cons o l ih =>
    intro k h
    have h0 := h 0 o rfl
    rw [Nat.add_zero] at h0
    rw [readyM, List.length_cons, List.range'_succ, List.filter_cons, h0, ih (k + 1) (fun i o' ho => by rw [show k + 1 + i = k + (i + 1) from by omega]; exact h (i + 1) o' (by simpa using ho))]
    cases (!mask.testBit k && o.after.toList.all (fun e => !Region.binds .any e || mask.testBit e.on)) <;> rfl

theorem readyM_eq {ops : Array Oper} {listed : Array Bool} {mask : Nat} (h : MaskR ops.size listed mask) : readyM mask ops.toList 0 = Region.ready .any ops listed := by
  unfold Region.ready
  rw [readyM_filter mask (fun i => !listed.getD i true && ((ops[i]?).map (fun o => o.after.all fun e => !Region.binds .any e || listed.getD e.on false)).getD false) ops.toList 0 (fun i o ho => by
    rw [Nat.zero_add]
    have ho' : ops[i]? = some o := by rw [← Array.getElem?_toList]; exact ho
    have hi := (Array.getElem?_eq_some_iff.1 ho').1
    rw [h.getT i hi, ho']
    simp only [Option.map_some, Option.getD_some, h.getF]
    rw [← Array.all_toList]), List.range_eq_range', Array.length_toList]

theorem freeM_all (ops : Array Oper) (mask i : Nat) (oi : Oper) (p : Nat → Bool) : ∀ (l : List Oper) (k : Nat), (∀ (j : Nat) oj, l[j]? = some oj → p (k + j) = (k + j == i || mask.testBit (k + j) || (oj.after.any (fun e => Region.binds .any e && e.on == i) || oi.apart ops oj))) →
    freeM ops mask i oi l k = (List.range' k l.length).all p := by
  intro l
  induction l with
  | nil => intro k _; rfl
  | cons o l ih =>
    intro k h
    have h0 := h 0 o rfl
    rw [Nat.add_zero] at h0
    rw [freeM, List.length_cons, List.range'_succ, List.all_cons, h0, ih (k + 1) (fun j o' ho => by rw [show k + 1 + j = k + (j + 1) from by omega]; exact h (j + 1) o' (by simpa using ho))]

theorem freeM_eq {ops : Array Oper} {listed : Array Bool} {mask : Nat} (h : MaskR ops.size listed mask) {i : Nat} {oi : Oper} (hoi : ops[i]? = some oi) : freeM ops mask i oi ops.toList 0 = Region.free .any ops listed i := by
  unfold Region.free
  rw [hoi]
  dsimp only
  rw [freeM_all ops mask i oi (fun j => j == i || listed.getD j true || match ops[j]? with
      | some oj => oj.after.any (fun e => Region.binds .any e && e.on == i) || oi.apart ops oj
      | none => true) ops.toList 0 (fun j oj ho => by
    rw [Nat.zero_add]
    have ho' : ops[j]? = some oj := by rw [← Array.getElem?_toList]; exact ho
    have hj := (Array.getElem?_eq_some_iff.1 ho').1
    rw [h.getT j hj, ho']), List.range_eq_range', Array.length_toList]
  rfl

def pickM (P : Program) (ops : Array Oper) (mask : Nat) : List Nat → Option Nat
  | [] => none
  | i :: l => match (match ops[i]? with
      | none => false
      | some o => silentOp P o.op && freeM ops mask i o ops.toList 0) with
    | true => some i
    | false => pickM P ops mask l

theorem pickM_eq {P : Program} {ops : Array Oper} {listed : Array Bool} {mask : Nat} (h : MaskR ops.size listed mask) (l : List Nat) :
    pickM P ops mask l = l.find? (fun i => (ops[i]?).any (fun o => silentOp P o.op) && Region.free .any ops listed i) := by
  induction l with
  | nil => rfl
  | cons i l ih =>
    rw [pickM, List.find?_cons, ih]
    cases ho : ops[i]? with
    | none => rfl
    | some o =>
      dsimp only
      rw [freeM_eq h ho]
      simp only [Option.any_some]
      cases (silentOp P o.op && Region.free .any ops listed i) <;> rfl

abbrev adrawF (P : Program) (ops : Array Oper) (Q : AExit → List Value → AH → Prop) : Nat → Nat → List Value → AH → Prop
  | 0, mask, tm, H =>
    match readyM mask ops.toList 0 with
    | [] => Q .normal tm H
    | _ => False
  | fuel + 1, mask, tm, H =>
    match readyM mask ops.toList 0 with
    | [] => Q .normal tm H
    | i0 :: rs =>
      match pickM P ops mask (i0 :: rs) with
      | some i => (match ops[i]? with
          | none => False
          | some o => gopF P ops Q o (fun tm' H' => adrawF P ops Q fuel (mask ||| 2 ^ i) tm' H') tm H)
      | none => allOf (fun i => match ops[i]? with
          | none => False
          | some o => gopF P ops Q o (fun tm' H' => adrawF P ops Q fuel (mask ||| 2 ^ i) tm' H') tm H) (i0 :: rs)

set_option allowUnsafeReducibility true in
attribute [semireducible] adrawF

theorem adrawF_eq (P : Program) (ops : Array Oper) (Q : AExit → List Value → AH → Prop) (fuel : Nat) (listed : Array Bool) (mask : Nat) (hm : MaskR ops.size listed mask) (tm : List Value) (H : AH) : adrawF P ops Q fuel mask tm H = adraw P ops Q fuel listed tm H := by
  induction fuel generalizing listed mask tm H with
  | zero =>
    rw [adrawF, adraw, readyM_eq hm]
    cases Region.ready .any ops listed <;> rfl
  | succ fuel ih =>
    rw [adrawF, adraw, readyM_eq hm]
    have e : ∀ i, (match ops[i]? with
          | none => False
          | some o => gopF P ops Q o (fun tm' H' => adrawF P ops Q fuel (mask ||| 2 ^ i) tm' H') tm H) = gstep P ops Q i (fun tm' H' => adraw P ops Q fuel (listed.setIfInBounds i true) tm' H') tm H := by
      intro i
      cases h : ops[i]? with
      | none => simp only [gstep, h]
      | some o =>
        have hi := (Array.getElem?_eq_some_iff.1 h).1
        have e2 : (fun tm' H' => adrawF P ops Q fuel (mask ||| 2 ^ i) tm' H') = (fun tm' H' => adraw P ops Q fuel (listed.setIfInBounds i true) tm' H') := by
          funext tm' H'; exact ih _ _ (hm.set i hi) _ _
        rw [e2]
        exact gopF_eq P ops Q i o h _ _ _
    cases Region.ready .any ops listed with
    | nil => rfl
    | cons i0 rs =>
      dsimp only
      rw [pickM_eq hm]
      cases (i0 :: rs).find? (fun i => (ops[i]?).any (fun o => silentOp P o.op) && Region.free .any ops listed i) with
      | some i => exact e i
      | none => exact congrArg (fun f => allOf f (i0 :: rs)) (funext e)

abbrev thenF (next : List Value → AH → Prop) (Q : AExit → List Value → AH → Prop) : AExit → List Value → AH → Prop
  | .normal, a, w => next a w
  | e, a, w => Q e a w
abbrev inBlockF (id : Nat) (Q : AExit → List Value → AH → Prop) : AExit → List Value → AH → Prop
  | .exit id', a, w => match id' == id with
    | true => Q .normal a w
    | false => Q (.exit id') a w
  | e, a, w => Q e a w
set_option allowUnsafeReducibility true in
attribute [semireducible] thenF

theorem thenF_eq (next : List Value → AH → Prop) (Q : AExit → List Value → AH → Prop) : thenF next Q = AExit.then next Q := by
  funext e a w; cases e <;> rfl
set_option allowUnsafeReducibility true in
attribute [semireducible] inBlockF

theorem inBlockF_eq (id : Nat) (Q : AExit → List Value → AH → Prop) : inBlockF id Q = AExit.inBlock id Q := by
  funext e a w
  cases e with
  | exit i => show (match i == id with | true => _ | false => _) = cond (i == id) _ _; cases i == id <;> rfl
  | _ => rfl

/-- A place where ways may meet: unfolded behind the rules of the operations. -/
def tagK : Unit := (fun _ => ()) (aCall, aBuiltin, aBuild, aBuildSlice, aConvert, aStore, aSlice, aBin, aUn, aLoad, aIndexAddr, aAlloc, aNew, aField, aFieldOf, aIface, aExtract, aNilCheck)
def hold (x : Prop) : Prop := (fun (_ : Unit) => x) tagK
theorem hold_eq (x : Prop) : hold x = x := rfl

noncomputable abbrev awpF (P : Program) : Code → (AExit → List Value → AH → Prop) → List Value → AH → Prop
  | .skip, Q, tm, H => Q .normal tm H
  | .region _ ops false, Q, tm, H => aopsF P ops Q ops.toList tm H
  | .region _ ops true, Q, tm, H => adrawF P ops Q ops.size 0 tm H
  | .seq a b, Q, tm, H => awpF P a (thenF (fun tm H => hold (awpF P b Q tm H)) Q) tm H
  | .cond c a b, Q, tm, H =>
    match c with
    | .tmp t => aIf (tm.getD t undef) (forceL (tm.set t (.bool true)) fun tm => awpF P a Q tm H) (forceL (tm.set t (.bool false)) fun tm => awpF P b Q tm H)
    | .const v => aIf v (awpF P a Q tm H) (awpF P b Q tm H)
    | _ => False
  | .block id c, Q, tm, H => awpF P c (inBlockF id Q) tm H
  | .loop c, Q, tm, H => ∃ I : Nat → List Value → AH → Prop, (∃ n, I n tm H) ∧
      ∀ n tm' H', I n tm' H' → awpF P c (thenF (fun tm'' H'' => ∃ m, m < n ∧ I m tm'' H'') Q) tm' H'
  | .exit id, Q, tm, H => Q (.exit id) tm H
  | .ret, Q, tm, H => Q .ret tm H
  | _, _, _, _ => False

set_option allowUnsafeReducibility true in
attribute [semireducible] awpF

theorem awpF_eq (P : Program) (c : Code) : ∀ (Q : AExit → List Value → AH → Prop) (tm : List Value) (H : AH), awpF P c Q tm H = awp P c Q tm H := by
  induction c with
  | skip => intros; rfl
  | region i ops d =>
    intro Q tm H
    cases d with
    | false => exact aopsF_eq _ _ _ _ _ _
    | true => exact adrawF_eq _ _ _ _ _ _ (MaskR.init _) _ _
  | seq a b iha ihb =>
    intro Q tm H
    rw [awpF, awp, iha, thenF_eq]
    congr 2
    funext tm H
    exact ihb _ _ _
  | cond c a b iha ihb =>
    intro Q tm H
    cases c with
    | tmp t =>
      show aIf _ (forceL _ fun tm => awpF P a Q tm H) (forceL _ fun tm => awpF P b Q tm H) = aIf _ _ _
      rw [forceL_eq, forceL_eq, iha, ihb]
    | const v =>
      show aIf _ (awpF P a Q tm H) (awpF P b Q tm H) = aIf _ _ _
      rw [iha, ihb]
    | _ => rfl
  | block id c ih =>
    intro Q tm H
    rw [awpF, awp, ih, inBlockF_eq]
  | loop c ih =>
    intro Q tm H
    rw [awpF, awp]
    simp only [ih, thenF_eq]
  | _ => intros; rfl

def ctxF (P : Program) : Code → List Nat → (AExit → List Value → AH → Prop) → AExit → List Value → AH → Prop
  | _, [], Q => Q
  | .seq a b, 0 :: p, Q => ctxF P a p (thenF (fun tm H => hold (awpF P b Q tm H)) Q)
  | .seq _ b, _ :: p, Q => ctxF P b p Q
  | .cond _ a _, 0 :: p, Q => ctxF P a p Q
  | .cond _ _ b, _ :: p, Q => ctxF P b p Q
  | .block id c, _ :: p, Q => ctxF P c p (inBlockF id Q)
  | _, _, Q => Q

theorem awpF_loop {P : Program} {c : Code} {Q : AExit → List Value → AH → Prop} {tm : List Value} {H : AH} (I : Nat → List Value → AH → Prop) (n : Nat) (h0 : I n tm H)
    (step : ∀ n tm' H', I n tm' H' → awpF P c (thenF (fun tm'' H'' => ∃ m, m < n ∧ I m tm'' H'') Q) tm' H') : awpF P (.loop c) Q tm H := ⟨I, ⟨n, h0⟩, step⟩

theorem awp_of {P : Program} {c : Code} {Q : AExit → List Value → AH → Prop} {tm : List Value} {H : AH} (h : awpF P c Q tm H) : awp P c Q tm H := by rw [← awpF_eq]; exact h

end Go.Proofs.Ytmidgfmopmpppaa
