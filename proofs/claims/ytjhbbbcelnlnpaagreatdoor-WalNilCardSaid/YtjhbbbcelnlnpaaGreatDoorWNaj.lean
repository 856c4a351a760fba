/- Codes, by the rules of the operations. -/
import Derived.Test.YtjhbbbcelnlnpaaGreatDoorWNai
namespace Go.Proofs.YtjhbbbcelnlnpaaGreatDoor
open Go.RowKit

def putT (tm:List Value) (d:Option Tmp) (v:Value):List Value :=
  match d with
  | some d=>tm.set d v
  | none=>tm

noncomputable def tag2:Unit:=(fun (_:Unit)=>()) tag1

noncomputable def aIf (v:Value) (A B:Prop):Prop:=(fun (_:Unit)=>match v with
  | .bool x=>wIf x A B
  | _=>False) tag2

theorem aIf_cases {v:Value} {A C:Prop} (h:aIf v A C):(v=.bool true∧A)∨(v=.bool false∧C):=by
  cases v with
  | bool b =>
    cases b with
    | true=>exact .inl ⟨rfl, h⟩
    | false=>exact .inr ⟨rfl, h⟩
  | _=>exact False.elim h

def chainOK (all:Array Oper) (j:Nat) (tm:List Value):Bool :=
  match (all[j]?).bind (·.guard) with
  | none=>true
  | some (j', w) =>
    match (all[j']?).bind (·.dst) with
    | none=>true
    | some t =>
      match tm.getD t undef with
      | .bool b=>b == w
      | _=>false

noncomputable def aGd (chain:Bool) (v:Value) (A B S:Prop):Prop:=(fun (_:Unit)=>match chain with
  | true=>aIf v A B
  | false =>
    match v with
    | .tuple _=>S
    | _=>False) tag2
theorem aGd_cases {c:Bool} {v:Value} {A B S:Prop} (h:aGd c v A B S):(c=true∧aIf v A B)∨(c=false∧(∃ cs, v=.tuple cs)∧S):=by
  cases c with
  | true=>exact .inl ⟨rfl, h⟩
  | false =>
    cases v with
    | tuple cs=>exact .inr ⟨rfl, ⟨cs, rfl⟩, h⟩
    | _=>exact False.elim h

noncomputable def gop (P:Program) (all:Array Oper) (Q:AExit→List Value→AH→Prop) (o:Oper) (K:List Value→AH→Prop) (tm:List Value) (H:AH):Prop :=
  match o.guard with
  | none=>aop P tm o H (fun v H'=>K (putT tm o.dst v) H') (fun v H'=>Q (.panic v) tm H')
  | some (j, want) =>
    match (all[j]?).bind (·.dst) with
    | some t=>aGd (chainOK all j tm) (tm.getD t undef)
        (match want with
          | true=>aop P (tm.set t (.bool true)) o H (fun v H'=>K (putT (tm.set t (.bool true)) o.dst v) H') (fun v H'=>Q (.panic v) (tm.set t (.bool true)) H')
          | false=>K (putT (tm.set t (.bool true)) o.dst undef) H)
        (match want with
          | true=>K (putT (tm.set t (.bool false)) o.dst undef) H
          | false=>aop P (tm.set t (.bool false)) o H (fun v H'=>K (putT (tm.set t (.bool false)) o.dst v) H') (fun v H'=>Q (.panic v) (tm.set t (.bool false)) H'))
        (K (putT tm o.dst undef) H)
    | none=>False

noncomputable def aops (P:Program) (all:Array Oper) (Q:AExit→List Value→AH→Prop):List Oper→List Value→AH→Prop
  | [], tm, H=>Q .normal tm H
  | o :: rest, tm, H=>gop P all Q o (aops P all Q rest) tm H

def silentOp (P:Program):Op→Bool
  | .move _ | .assign _ | .pick .. | .binOp .. | .unOp .. | .nilCheck _ | .makeInterface .. | .slice .. | .fieldAddr .. | .field .. | .indexAddr .. | .index .. | .extract .. | .build ..=>true
  | .convert s d _=>match P.underlying s, P.underlying d with
    | some (.slice _), _ | _, some (.slice _)=>false
    | _, _=>true
  | .call ⟨.builtin .len, _, types⟩=>match (types[0]?).bind P.underlying with
    | some .string | some (.slice _)=>true
    | _=>false
  | .call ⟨.builtin .max, _, _⟩ | .call ⟨.builtin .min, _, _⟩=>true
  | _=>false

def allOf (f:Nat→Prop):List Nat→Prop
  | []=>True
  | [i]=>f i
  | i :: l=>f i∧allOf f l

/-! A region whose order is open. What has come stands in a number, a bit for each operation. -/
def readyM (mask:Nat):List Oper→Nat→List Nat
  | [], _=>[]
  | o :: l, i=>match !mask.testBit i && o.after.toList.all (fun e=>!Region.binds .any e || mask.testBit e.on) with
    | true=>i :: readyM mask l (i + 1)
    | false=>readyM mask l (i + 1)
def freeM (ops:Array Oper) (mask:Nat) (i:Nat) (oi:Oper):List Oper→Nat→Bool
  | [], _=>true
  | oj :: l, j=>(j == i || mask.testBit j || (oj.after.any (fun e=>Region.binds .any e && e.on == i) || oi.apart ops oj)) && freeM ops mask i oi l (j + 1)

def pickM (P:Program) (ops:Array Oper) (mask:Nat):List Nat→Option Nat
  | []=>none
  | i :: l=>match (match ops[i]? with
      | none=>false
      | some o=>silentOp P o.op && freeM ops mask i o ops.toList 0) with
    | true=>some i
    | false=>pickM P ops mask l


def mildOp (P:Program) (op:Op):Bool:=silentOp P op || match op with
  | .load _ _=>true
  | _=>false
def behind (o:Oper) (i:Nat):Bool:=o.after.any (fun e=>Region.binds .any e && e.on == i)
def mildRest (P:Program) (mask:Nat) (i:Nat):List Oper→Nat→Bool
  | [], _=>true
  | oj :: l, j=>(j == i || mask.testBit j || behind oj i || mildOp P oj.op) && mildRest P mask i l (j + 1)
def pickL (P:Program) (ops:Array Oper) (mask:Nat):List Nat→Option (Nat × Bool)
  | []=>none
  | i :: l =>
    match ops[i]? with
    | none=>pickL P ops mask l
    | some o =>
      match o.op, o.guard with
      | .load t _, none =>
        match freeM ops mask i o ops.toList 0 with
        | true=>(match mildRest P mask i ops.toList 0 with
          | true=>some (i, false)
          | false=>(match (cks P 20 t).all rigidK with
            | true=>some (i, true)
            | false=>pickL P ops mask l))
        | false=>pickL P ops mask l
      | _, _=>pickL P ops mask l
abbrev Pin:=Nat × Nat × Nat × List Value
def dropPins (o:Oper) (pins:List Pin):List Pin:=pins.filter (fun p=>!behind o p.1)
def ldPins (P:Program) (pin:Bool) (t:TypeId) (x:Value) (i:Nat) (v:Value) (pins:List Pin):List Pin :=
  match pin with
  | true=>(match x with
    | .pointer (some ⟨ob, k, none⟩)=>(i, ob, k, pinCells P t v) :: pins
    | _=>pins)
  | false=>pins
def pinChk:List Pin→AH→Prop→Prop
  | [], H, K=>wSt_ true K
  | p :: ps, H, K=>wSt_ true (wPin p.2.1 p.2.2.1 p.2.2.2 H (pinChk ps H K))
theorem pinChk_of {pins:List Pin} {H:AH} {K:Prop} (h:pinChk pins H K):(∀ p ∈ pins, PinOK p.2.1 p.2.2.1 p.2.2.2 H)∧K:=by
  induction pins with
  | nil=>exact ⟨fun p hp=>(by cases hp), (wSt_of h).2⟩
  | cons q ps ih =>
    have h:=(wSt_of h).2
    obtain ⟨h1, h2⟩:=ih h.2
    refine ⟨fun p hp=>?_, h2⟩
    rcases List.mem_cons.1 hp with rfl | hp
    · exact h.1
    · exact h1 p hp

noncomputable def adraw (P:Program) (ops:Array Oper) (Q:AExit→List Value→AH→Prop):Nat→Nat→List Pin→List Value→AH→Prop
  | 0, mask, pins, tm, H =>
    match readyM mask ops.toList 0 with
    | []=>Q .normal tm H
    | _=>False
  | fuel + 1, mask, pins, tm, H =>
    match readyM mask ops.toList 0 with
    | []=>Q .normal tm H
    | i0 :: rs =>
      match pickM P ops mask (i0 :: rs) with
      | some i=>(match ops[i]? with
        | none=>False
        | some o=>gop P ops Q o (fun tm' H'=>adraw P ops Q fuel (mask ||| 2 ^ i) pins tm' H') tm H)
      | none =>
        match pickL P ops mask (i0 :: rs) with
        | some (i, pin)=>(match ops[i]? with
          | none=>False
          | some o=>(match o.op with
            | .load t a=>wLoad P t (ev tm a) H fun v=>adraw P ops Q fuel (mask ||| 2 ^ i) (ldPins P pin t (ev tm a) i v pins) (putT tm o.dst v) H
            | _=>False))
        | none=>allOf (fun i=>match ops[i]? with
          | none=>False
          | some o=>gop P ops Q o (fun tm' H'=>pinChk (dropPins o pins) H' (adraw P ops Q fuel (mask ||| 2 ^ i) (dropPins o pins) tm' H')) tm H) (i0 :: rs)

def codeOK:Code→Bool
  | .region _ ops draw=>(ops.toList.all fun o=>o.op.operands.toList.all operOK) && (!draw || Region.noSelect ops)
  | .seq a b=>codeOK a && codeOK b
  | .cond _ a b=>codeOK a && codeOK b
  | .block _ c=>codeOK c
  | .loop c=>codeOK c
  | _=>true

def AExit.then (next:List Value→AH→Prop) (Q:AExit→List Value→AH→Prop):AExit→List Value→AH→Prop
  | .normal, a, w=>next a w
  | e, a, w=>Q e a w

def AExit.inBlock (id:Nat) (Q:AExit→List Value→AH→Prop):AExit→List Value→AH→Prop
  | .exit id', a, w=>cond (id' == id) (Q .normal a w) (Q (.exit id') a w)
  | e, a, w=>Q e a w

noncomputable def awp (P:Program):Code→(AExit→List Value→AH→Prop)→List Value→AH→Prop
  | .skip, Q, tm, H=>Q .normal tm H
  | .region _ ops false, Q, tm, H=>aops P ops Q ops.toList tm H
  | .region _ ops true, Q, tm, H=>adraw P ops Q ops.size 0 [] tm H
  | .seq a b, Q, tm, H=>awp P a (AExit.then (awp P b Q) Q) tm H
  | .cond c a b, Q, tm, H =>
    match c with
    | .tmp t=>aIf (tm.getD t undef) (awp P a Q (tm.set t (.bool true)) H) (awp P b Q (tm.set t (.bool false)) H)
    | .const v=>aIf v (awp P a Q tm H) (awp P b Q tm H)
    | _=>False
  | .block id c, Q, tm, H=>awp P c (AExit.inBlock id Q) tm H
  | .loop c, Q, tm, H=>∃ I:Nat→List Value→AH→Prop, (∃ n, I n tm H) ∧
      ∀ n tm' H', I n tm' H'→awp P c (AExit.then (fun tm'' H''=>∃ m, m<n∧I m tm'' H'') Q) tm' H'
  | .exit id, Q, tm, H=>Q (.exit id) tm H
  | .ret, Q, tm, H=>Q .ret tm H
  | _, _, _, _=>False

def resOK (fn:Func):Bool:=fn.results.toList.all fun _=>true
def aRes (P:Program) (tm:List Value) (H:AH):List ResultVar→(List Value→Prop)→Prop
  | [], K=>K []
  | .tmp t :: l, K=>aRes P tm H l fun vs=>K (tm.getD t undef :: vs)
  | .cell a t :: l, K=>wLoad P t (tm.getD a undef) H fun v=>aRes P tm H l fun vs=>K (v :: vs)
def aPost (P:Program) (fn:Func) (R:AEnd→AH→Prop):AExit→List Value→AH→Prop
  | .normal, tm, H | .ret, tm, H=>aRes P tm H fn.results.toList fun vs=>R (.ret (match vs with
    | [v]=>v
    | vs=>.tuple vs.toArray)) H
  | .panic v, _, H=>R (.panic v) H
  | _, _, _=>False

def codeAt:Code→List Nat→Code
  | c, []=>c
  | .seq a _, 0 :: p=>codeAt a p
  | .seq _ b, _ :: p=>codeAt b p
  | .cond _ a _, 0 :: p=>codeAt a p
  | .cond _ _ b, _ :: p=>codeAt b p
  | .block _ c, _ :: p=>codeAt c p
  | .loop c, _ :: p=>codeAt c p
  | c, _=>c
end Go.Proofs.YtjhbbbcelnlnpaaGreatDoor
