/- The deep rules once more, so that the kernel evaluates them fast: the variables' list is laid out at each step. -/
import Derived.Test.YtfghglacfjncmaaWAbsY
namespace Go.Proofs.Ytfghglacfjncmaa
set_option linter.unusedVariables false
set_option linter.unusedSimpArgs false
open Go.RowKit

noncomputable def forceL (l : List Value) : (List Value → Prop) → Prop := (fun (_ : Unit) =>
  List.rec (motive := fun _ => (List Value → Prop) → Prop) (fun k => k []) (fun v _ ih k => ih fun l' => k (v :: l')) l) tag2

theorem forceL_eq (l : List Value) (k : List Value → Prop) : forceL l k = k l := by
  induction l generalizing k with
  | nil => rfl
  | cons v l ih => exact ih _

/-- Pins laid out. -/
noncomputable def forceP (l : List Pin) : (List Pin → Prop) → Prop := (fun (_ : Unit) =>
  List.rec (motive := fun _ => (List Pin → Prop) → Prop) (fun k => k []) (fun p _ ih k => match p with
    | (i, ob, kk, c) => forceL c fun c' => ih fun l' => k ((i, ob, kk, c') :: l')) l) tag2
theorem forceP_eq (l : List Pin) (k : List Pin → Prop) : forceP l k = k l := by
  induction l generalizing k with
  | nil => rfl
  | cons p l ih =>
    obtain ⟨i, ob, kk, c⟩ := p
    exact (forceL_eq c _).trans (ih _)

noncomputable def gopF (P : Program) (all : Array Oper) (Q : AExit → List Value → AH → Prop) (o : Oper) (K : List Value → AH → Prop) (tm : List Value) (H : AH) : Prop :=
  match o.guard with
  | none => aop P tm o H (fun v H' => forceL (putT tm o.dst v) fun tm' => K tm' H') (fun v H' => Q (.panic v) tm H')
  | some (j, want) =>
    match (all[j]?).bind (·.dst) with
    | some t => aGd (chainOK all j tm) (tm.getD t undef)
        (forceL (tm.set t (.bool true)) fun tm =>
          match want with
          | true => aop P tm o H (fun v H' => forceL (putT tm o.dst v) fun tm' => K tm' H') (fun v H' => Q (.panic v) tm H')
          | false => forceL (putT tm o.dst undef) fun tm' => K tm' H)
        (forceL (tm.set t (.bool false)) fun tm =>
          match want with
          | true => forceL (putT tm o.dst undef) fun tm' => K tm' H
          | false => aop P tm o H (fun v H' => forceL (putT tm o.dst v) fun tm' => K tm' H') (fun v H' => Q (.panic v) tm H'))
        (forceL (putT tm o.dst undef) fun tm' => K tm' H)
    | none => False


noncomputable def aopsF (P : Program) (all : Array Oper) (Q : AExit → List Value → AH → Prop) (l : List Oper) : List Value → AH → Prop :=
  List.rec (motive := fun _ => List Value → AH → Prop) (fun tm H => Q .normal tm H) (fun o _ ih tm H => gopF P all Q o ih tm H) l


theorem gopF_gen (P : Program) (all : Array Oper) (Q : AExit → List Value → AH → Prop) (o : Oper) (K : List Value → AH → Prop) (tm : List Value) (H : AH) : gopF P all Q o K tm H = gop P all Q o K tm H := by
  unfold gopF gop
  cases o.guard with
  | none => simp only [forceL_eq]
  | some g =>
    obtain ⟨j, want⟩ := g
    dsimp only
    generalize (all[j]?).bind (·.dst) = x
    cases x with
    | none => rfl
    | some t => cases want <;> simp only [forceL_eq]

theorem aopsF_eq (P : Program) (all : Array Oper) (Q : AExit → List Value → AH → Prop) (l : List Oper) (tm : List Value) (H : AH) : aopsF P all Q l tm H = aops P all Q l tm H := by
  induction l generalizing tm H with
  | nil => rfl
  | cons o l ih =>
    show gopF P all Q o (aopsF P all Q l) tm H = _
    have e : aopsF P all Q l = aops P all Q l := by funext tm H; exact ih tm H
    rw [e, gopF_gen, aops]

/-- A region's operations. -/
def opsOf : Code → Array Oper
  | .region _ ops _ => ops
  | _ => #[]
noncomputable def adrawF (P : Program) (ops : Array Oper) (Q : AExit → List Value → AH → Prop) : Nat → Nat → List Pin → List Value → AH → Prop
  | 0, mask, pins, tm, H =>
    match readyM mask ops.toList 0 with
    | [] => Q .normal tm H
    | _ => False
  | fuel + 1, mask, pins, tm, H =>
    match readyM mask ops.toList 0 with
    | [] => Q .normal tm H
    | i0 :: rs =>
      match pickM P ops mask (i0 :: rs) with
      | some i => (match ops[i]? with
        | none => False
        | some o => gopF P ops Q o (fun tm' H' => adrawF P ops Q fuel (mask ||| 2 ^ i) pins tm' H') tm H)
      | none =>
        match pickL P ops mask (i0 :: rs) with
        | some (i, pin) => (match ops[i]? with
          | none => False
          | some o => (match o.op with
            | .load t a => wLoad P t (ev tm a) H fun v => forceL (putT tm o.dst v) fun tm' => forceP (ldPins P pin t (ev tm a) i v pins) fun ps => adrawF P ops Q fuel (mask ||| 2 ^ i) ps tm' H
            | _ => False))
        | none => allOf (fun i => match ops[i]? with
          | none => False
          | some o => gopF P ops Q o (fun tm' H' => forceP (dropPins o pins) fun ps => pinChk ps H' (adrawF P ops Q fuel (mask ||| 2 ^ i) ps tm' H')) tm H) (i0 :: rs)

theorem adrawF_eq (P : Program) (ops : Array Oper) (Q : AExit → List Value → AH → Prop) (fuel : Nat) : ∀ (mask : Nat) (pins : List Pin) (tm : List Value) (H : AH), adrawF P ops Q fuel mask pins tm H = adraw P ops Q fuel mask pins tm H := by
  induction fuel with
  | zero => intros; rfl
  | succ fuel ih =>
    intro mask pins tm H
    rw [adrawF, adraw]
    simp only [gopF_gen, forceL_eq, forceP_eq, ih, hold_eq]
    rfl

def thenF (next : List Value → AH → Prop) (Q : AExit → List Value → AH → Prop) (e : AExit) (a : List Value) (w : AH) : Prop := (fun (_ : Unit) => match e with
  | .normal => next a w
  | e => Q e a w) tag2
def inBlockF (id : Nat) (Q : AExit → List Value → AH → Prop) (e : AExit) (a : List Value) (w : AH) : Prop := (fun (_ : Unit) => match e with
  | .exit id' => (match id' == id with
    | true => Q .normal a w
    | false => Q (.exit id') a w)
  | e => Q e a w) tag2

theorem thenF_eq (next : List Value → AH → Prop) (Q : AExit → List Value → AH → Prop) : thenF next Q = AExit.then next Q := by
  funext e a w; cases e <;> rfl
theorem inBlockF_eq (id : Nat) (Q : AExit → List Value → AH → Prop) : inBlockF id Q = AExit.inBlock id Q := by
  funext e a w
  cases e with
  | exit i => show (match i == id with | true => _ | false => _) = cond (i == id) _ _; cases i == id <;> rfl
  | _ => rfl

noncomputable def awpF (P : Program) : Code → (AExit → List Value → AH → Prop) → List Value → AH → Prop
  | .skip, Q, tm, H => Q .normal tm H
  | .region _ ops false, Q, tm, H => aopsF P ops Q ops.toList tm H
  | .region _ ops true, Q, tm, H => adrawF P ops Q ops.size 0 [] tm H
  | .seq a b, Q, tm, H => awpF P a (thenF (fun tm H => hold (awpF P b Q tm H)) Q) tm H
  | .cond c a b, Q, tm, H =>
    match c with
    | .tmp t => aIf (tm.getD t undef) (forceL (tm.set t (.bool true)) fun tm => awpF P a Q tm H) (forceL (tm.set t (.bool false)) fun tm => awpF P b Q tm H)
    | .const v => aIf v (awpF P a Q tm H) (awpF P b Q tm H)
    | _ => False
  | .block id c, Q, tm, H => awpF P c (inBlockF id Q) tm H
  | .loop c, Q, tm, H => ∃ I : Nat → List Value → AH → Prop, (∃ n, I n tm H) ∧
      ∀ n tm' H', I n tm' H' → awpF P c (thenF (fun tm'' H'' => ∃ m, m < n ∧ I m tm'' H'') Q) tm' H'
  | .exit id, Q, tm, H => Q (.exit id) tm H
  | .ret, Q, tm, H => Q .ret tm H
  | _, _, _, _ => False


theorem awpF_eq (P : Program) (c : Code) : ∀ (Q : AExit → List Value → AH → Prop) (tm : List Value) (H : AH), awpF P c Q tm H = awp P c Q tm H := by
  induction c with
  | skip => intros; rfl
  | region i ops d =>
    intro Q tm H
    cases d with
    | false => exact aopsF_eq _ _ _ _ _ _
    | true => exact adrawF_eq _ _ _ _ _ _ _ _
  | seq a b iha ihb =>
    intro Q tm H
    rw [awpF, awp, iha, thenF_eq]
    congr 2
    funext tm H
    exact ihb _ _ _
  | cond c a b iha ihb =>
    intro Q tm H
    cases c with
    | tmp t =>
      show aIf _ (forceL _ fun tm => awpF P a Q tm H) (forceL _ fun tm => awpF P b Q tm H) = aIf _ _ _
      rw [forceL_eq, forceL_eq, iha, ihb]
    | const v =>
      show aIf _ (awpF P a Q tm H) (awpF P b Q tm H) = aIf _ _ _
      rw [iha, ihb]
    | _ => rfl
  | block id c ih =>
    intro Q tm H
    rw [awpF, awp, ih, inBlockF_eq]
  | loop c ih =>
    intro Q tm H
    rw [awpF, awp]
    simp only [ih, thenF_eq]
  | _ => intros; rfl

theorem awpF_loop {P : Program} {c : Code} {Q : AExit → List Value → AH → Prop} {tm : List Value} {H : AH} (I : Nat → List Value → AH → Prop) (n : Nat) (h0 : I n tm H)
    (step : ∀ n tm' H', I n tm' H' → awpF P c (thenF (fun tm'' H'' => ∃ m, m < n ∧ I m tm'' H'') Q) tm' H') : awpF P (.loop c) Q tm H := ⟨I, ⟨n, h0⟩, step⟩

theorem awp_of {P : Program} {c : Code} {Q : AExit → List Value → AH → Prop} {tm : List Value} {H : AH} (h : awpF P c Q tm H) : awp P c Q tm H := by rw [← awpF_eq]; exact h

end Go.Proofs.Ytfghglacfjncmaa
