/- The rules of the small program logic: what each operation does to the abstract state, as plain functions. -/
import Derived.Test.YtjhbbbcelnlnpaaGreatDoorWNaa
namespace Go.Proofs.YtjhbbbcelnlnpaaGreatDoor
open Go.RowKit

abbrev KV:=Value→AH→Prop

def ev (tm:List Value):Operand→Value
  | .tmp t=>tm.getD t undef
  | .const v=>v
  | .global _=>undef
  | .func f=>.func (.func f) #[] #[]

def operOK:Operand→Bool
  | .tmp _=>true
  | .const v=>constOK v
  | .global _=>false
  | .func _=>true

def oneCell:Value→Bool
  | .agg _ | .tuple _=>false
  | _=>true

def tyOK (P:Program) (t:TypeId):Bool:=(P.info? t).isSome && (P.underlying t).isSome

def isStruct (P:Program) (t:TypeId):Bool :=
  match P.underlying t with
  | some (.struct _) | some (.array _ _)=>true
  | _=>false

def aInt (op:BinOp) (k:IntKind) (a b:Int) (K:Value→Prop):Prop :=
  match op with
  | .add=>K (.int k (k.wrap (a + b)))
  | .sub=>K (.int k (k.wrap (a - b)))
  | .mul=>K (.int k (k.wrap (a * b)))
  | .quo=>b ≠ 0∧K (.int k (k.wrap (a.tdiv b)))
  | .rem=>b ≠ 0∧K (.int k (a.tmod b))
  | .and=>K (.int k (k.wrap ((BitVec.ofInt k.bits a) &&& (BitVec.ofInt k.bits b)).toNat))
  | .or=>K (.int k (k.wrap ((BitVec.ofInt k.bits a) ||| (BitVec.ofInt k.bits b)).toNat))
  | .xor=>K (.int k (k.wrap ((BitVec.ofInt k.bits a) ^^^ (BitVec.ofInt k.bits b)).toNat))
  | .andNot=>K (.int k (k.wrap ((BitVec.ofInt k.bits a) &&& ~~~(BitVec.ofInt k.bits b)).toNat))
  | .eql=>K (.bool (decide (a=b)))
  | .neq=>K (.bool (!decide (a=b)))
  | .lss=>K (.bool (decide (a<b)))
  | .leq=>K (.bool (decide (a≤b)))
  | .gtr=>K (.bool (decide (a > b)))
  | .geq=>K (.bool (decide (a ≥ b)))
  | _=>False

def aStr (op:BinOp) (a b:ByteArray) (K:Value→Prop):Prop :=
  match op with
  | .add=>a.size + b.size≤9223372036854775807∧K (.string (a ++ b))
  | .eql=>K (.bool (decide (a=b)))
  | .neq=>K (.bool (!decide (a=b)))
  | .lss=>K (.bool (Op.bytesLess a.data.toList b.data.toList))
  | .leq=>K (.bool (Op.bytesLess a.data.toList b.data.toList || decide (a=b)))
  | .gtr=>K (.bool (!(Op.bytesLess a.data.toList b.data.toList || decide (a=b))))
  | .geq=>K (.bool (!Op.bytesLess a.data.toList b.data.toList))
  | _=>False

def aEqF (P:Program):List Field→Nat→List Value→List Value→(Bool→Prop)→Prop
  | [], _, [], [], K=>K true
  | f :: fs, n, .int k a :: xs, .int k' b :: ys, K=>(f.offset=n∧f.name ≠ "_"∧isStruct P f.type=false∧P.underlying f.type=some (.int k)∧k=k')∧aEqF P fs (n + 1) xs ys fun r=>K (decide (a=b) && r)
  | f :: fs, n, .string a :: xs, .string b :: ys, K=>(f.offset=n∧f.name ≠ "_"∧isStruct P f.type=false∧P.underlying f.type=some .string)∧aEqF P fs (n + 1) xs ys fun r=>K (decide (a=b) && r)
  | f :: fs, n, .bool a :: xs, .bool b :: ys, K=>(f.offset=n∧f.name ≠ "_"∧isStruct P f.type=false∧P.underlying f.type=some .bool)∧aEqF P fs (n + 1) xs ys fun r=>K ((a == b) && r)
  | _, _, _, _, _=>False

def aEq (cst:Bool) (P:Program) (t:TypeId) (x y:Value) (K:Bool→Prop):Prop :=
  match x, y with
  | .bool a, .bool b=>P.underlying t=some .bool∧K (a == b)
  | .pointer none, .pointer b=>(∃ e, P.underlying t=some (.pointer e))∧K b.isNone
  | .pointer (some _), .pointer none=>(∃ e, P.underlying t=some (.pointer e))∧K false
  | .slice none _ _, .slice b _ _=>(∃ e, P.underlying t=some (.slice e))∧K b.isNone
  | .slice (some _) _ _, .slice none _ _=>(∃ e, P.underlying t=some (.slice e))∧K false
  | .map none, .map b=>(∃ k e, P.underlying t=some (.map k e))∧K b.isNone
  | .map (some _), .map none=>(∃ k e, P.underlying t=some (.map k e))∧K false
  | .nilIface, .nilIface=>cst=true∧(∃ m, P.underlying t=some (.interface m))∧K true
  | .nilIface, .iface _ _=>(∃ m, P.underlying t=some (.interface m))∧K false
  | .iface _ _, .nilIface=>(∃ m, P.underlying t=some (.interface m))∧K false
  | .agg xs, .agg ys=>P.underlying t=some (.struct (P.fieldsOf t))∧P.stoodInHeld t=false∧P.eqGuardType P.depth t=false∧aEqF P (P.fieldsOf t).toList 0 xs.toList ys.toList K
  | _, _=>False

def aBin (cst:Bool) (P:Program) (op:BinOp) (t:TypeId) (x y:Value) (K:Value→Prop):Prop :=
  match op, x, y with
  | .shl, .int k a, .int _ b=>0≤b∧K (.int k (k.wrap (a * 2 ^ (min b.toNat k.bits))))
  | .shr, .int k a, .int _ b=>0≤b∧K (.int k (a.fdiv (2 ^ (min b.toNat k.bits))))
  | op, .int k a, .int k' b=>k=k'∧aInt op k a b K
  | op, .string a, .string b=>aStr op a b K
  | .eql, x, y=>aEq cst P t x y fun b=>K (.bool b)
  | .neq, x, y=>aEq cst P t x y fun b=>K (.bool (!b))
  | _, _, _=>False

def aUn (op:UnOp) (x:Value) (K:Value→Prop):Prop :=
  match op, x with
  | .neg, .int k n=>K (.int k (k.wrap (0 - n)))
  | .xor, .int k n=>aInt .xor k (if k.signed then -1 else k.max) n K
  | .not, .bool b=>K (.bool (!b))
  | _, _=>False

def AH.cells (H:AH) (i:Nat):Option (List Value) :=
  match H.get i with
  | some (.row cs _)=>some cs
  | some (.ro cs _)=>some cs
  | _=>none

def aLoad (P:Program) (t:TypeId) (x:Value) (H:AH) (K:Value→Prop):Prop :=
  match x with
  | .pointer (some ⟨i, k, none⟩) =>
    match H.cells i with
    | some cs =>
      match isStruct P t with
      | true=>k + P.cellsOf t≤cs.length∧tyOK P t=true∧K (.agg ((cs.drop k).take (P.cellsOf t)).toArray)
      | false=>tyOK P t=true∧match cs[k]? with
        | some v=>K v
        | none=>False
    | none=>False
  | _=>False

def setCells (cs:List Value) (k:Nat):List Value→List Value
  | []=>cs
  | v :: vs=>setCells (cs.set k v) (k + 1) vs

def aStore (P:Program) (t:TypeId) (x v:Value) (H:AH) (K:AH→Prop):Prop :=
  match x with
  | .pointer (some ⟨i, k, none⟩) =>
    match H.get i with
    | some (.row cs e) =>
      tyOK P t=true∧v.cells.size=P.cellsOf t∧k + v.cells.size≤cs.length∧(v.cells.toList.all oneCell)=true ∧
        K (H.set i (.row (setCells cs k v.cells.toList) e))
    | _=>False
  | _=>False

def aNew (v:Value) (H:AH) (K:KV):Prop :=
  (v.cells.toList.all oneCell)=true∧K (.pointer (some ⟨H.next, 0, none⟩)) (H.push (.row v.cells.toList 0))

def isBld (P:Program) (t:TypeId):Bool :=
  match (P.info? t).bind (·.zero) with
  | some (.agg cs)=>(match cs.toList with
    | [.pointer none, .slice none 0 0]=>true
    | _=>false)
  | _=>false
def aNewT (P:Program) (t:TypeId) (v:Value) (H:AH) (K:KV):Prop :=
  match isBld P t with
  | true=>(v.cells.toList.all oneCell)=true∧K (.pointer (some ⟨H.next, 0, none⟩)) (H.pushT (.row v.cells.toList 0) (some t))
  | false=>aNew v H K
def aAlloc (P:Program) (t:TypeId) (H:AH) (K:KV):Prop :=
  match (P.info? t).bind (·.zero) with
  | some z=>constOK z=true∧aNewT P t z H K
  | none=>False

def aField (P:Program) (t:TypeId) (x:Value) (n:Nat) (K:Value→Prop):Prop :=
  match P.underlying t with
  | some (.struct fs) =>
    match fs[n]? with
    | some f =>
      match x with
      | .pointer (some ⟨i, k, none⟩)=>tyOK P f.type=true∧P.cellsOf f.type ≠ 0∧K (.pointer (some ⟨i, k + f.offset, none⟩))
      | _=>False
    | none=>False
  | _=>False

def aPart (P:Program) (t:TypeId) (cs:Array Value) (off:Nat) (K:Value→Prop):Prop :=
  match isStruct P t with
  | true=>tyOK P t=true∧K (.agg (cs.extract off (off + P.cellsOf t)))
  | false=>tyOK P t=true∧match cs[off]? with
    | some v=>K v
    | none=>False

def aFieldOf (P:Program) (t:TypeId) (x:Value) (n:Nat) (K:Value→Prop):Prop :=
  match P.underlying t with
  | some (.struct fs) =>
    match fs[n]? with
    | some f =>
      match x with
      | .agg cs=>aPart P f.type cs f.offset K
      | _=>False
    | none=>False
  | _=>False

def aNilCheck (x:Value) (K:Value→Prop):Prop :=
  match x with
  | .pointer (some a)=>K (.pointer (some a))
  | _=>False

def aExtract (x:Value) (n:Nat) (K:Value→Prop):Prop :=
  match x with
  | .tuple vs =>
    match vs[n]? with
    | some v=>K v
    | none=>False
  | _=>False

def bytesOfCells (l:List Value):ByteArray:=⟨(l.map fun v=>match v with | .int _ n=>UInt8.ofNat n.toNat | _=>0).toArray⟩
def byteCells (s:ByteArray):List Value:=s.data.toList.map fun b=>.int .u8 b.toNat
def isByte:Value→Bool
  | .int .u8 _=>true
  | _=>false

def sliceCells (H:AH) (esz:Nat) (x:Value):Option (List Value) :=
  match x with
  | .slice none _ _=>some []
  | .slice (some ⟨i, k, none⟩) len _ =>
    match H.cells i with
    | some cs=>if k + len * esz≤cs.length then some ((cs.drop k).take (len * esz)) else none
    | none=>none
  | _=>none

def aConvert (P:Program) (src dst:TypeId) (x:Value) (H:AH) (K:KV):Prop :=
  match P.underlying dst, x with
  | some (.int k), .int _ n=>tyOK P src=true∧(P.underlying src).isSome=true∧K (.int k (k.wrap n)) H
  | some .string, .string s=>(P.underlying src).isSome=true∧K (.string s) H
  | some (.slice e), .string s=>(P.underlying src)=some .string∧tyOK P e=true∧P.underlying e=some (.int .u8)∧s.size≤140737488355328 ∧
      K (.slice (some ⟨H.next, 0, none⟩) s.size 0) (H.push (.row (byteCells s) 1))
  | some .string, .slice a l c =>
    (∃ e, (P.underlying src)=some (.slice e)∧P.underlying e=some (.int .u8)) ∧
    match sliceCells H 1 (.slice a l c) with
    | some cs=>cs.all isByte=true∧K (.string (bytesOfCells cs)) H
    | none=>False
  | _, _=>False

def aLen (P:Program) (t:TypeId) (x:Value) (H:AH) (K:Value→Prop):Prop :=
  match x with
  | .string s=>P.underlying t=some .string∧K (.int .i64 s.size)
  | .slice _ n _=>(∃ e, P.underlying t=some (.slice e))∧K (.int .i64 n)
  | .map none=>(∃ k e, P.underlying t=some (.map k e))∧K (.int .i64 0)
  | .map (some i)=>(∃ k e, P.underlying t=some (.map k e))∧match H.get i with
    | some (.map es _)=>K (.int .i64 es.length)
    | _=>False
  | _=>False

def aIndex (P:Program) (t:TypeId) (x i:Value) (K:Value→Prop):Prop :=
  match x, i with
  | .string s, .int _ n=>P.underlying t=some .string∧0≤n∧n<s.size∧K (.int .u8 (s.data.toList.getD n.toNat 0).toNat)
  | _, _=>False

def aIndexAddr (P:Program) (t:TypeId) (x i:Value) (K:Value→Prop):Prop :=
  match P.underlying t with
  | some (.slice e) =>
    match x, i with
    | .slice (some ⟨o, k, none⟩) len _, .int _ n=>tyOK P e=true∧0≤n∧n<len∧K (.pointer (some ⟨o, k + n.toNat * P.cellsOf e, none⟩))
    | _, _=>False
  | _=>False

def bound (d:Nat):Option Value→Option Int
  | none=>some d
  | some (.int _ n)=>some n
  | some _=>none

def aSlice (P:Program) (t:TypeId) (x:Value) (lo hi mx:Option Value) (H:AH) (K:Value→Prop):Prop :=
  match P.underlying t with
  | some .string =>
    match x, mx with
    | .string s, none =>
      match bound 0 lo, bound s.size hi with
      | some l, some h=>0≤l∧l≤h∧h≤s.size∧K (.string (s.extract l.toNat h.toNat))
      | _, _=>False
    | _, _=>False
  | some (.slice e) =>
    match x with
    | .slice none 0 0 =>
      match bound 0 lo, bound 0 hi, mx with
      | some l, some h, none=>tyOK P e=true∧l=0∧h=0∧K (.slice none 0 0)
      | some l, some h, some (.int _ m)=>tyOK P e=true∧l=0∧h=0∧m=0∧hi.isSome=true∧K (.slice none 0 0)
      | _, _, _=>False
    | .slice (some ⟨i, k, none⟩) len c =>
      match bound 0 lo, bound len hi with
      | some l, some h =>
        tyOK P e=true∧P.cellsOf e ≠ 0∧0≤l∧l≤h∧h≤len ∧
        (∃ cs, (H.get i=some (.row cs (P.cellsOf e))∨H.get i=some (.ro cs (P.cellsOf e)))∧k + len * P.cellsOf e≤cs.length) ∧
        match mx with
        | none=>c=0∧K (.slice (some ⟨i, k + l.toNat * P.cellsOf e, none⟩) (h - l).toNat 0)
        | some (.int _ m)=>h≤m∧m≤len∧hi.isSome=true∧c=0∧K (.slice (some ⟨i, k + l.toNat * P.cellsOf e, none⟩) (h - l).toNat ((m - l).toNat + 1))
        | some _=>False
      | _, _=>False
    | _=>False
  | _=>False

def aAppend (P:Program) (e:TypeId) (x:Value) (new:List Value) (n:Nat) (H:AH) (K:KV):Prop :=
  tyOK P e=true∧P.cellsOf e ≠ 0∧new.length=n * P.cellsOf e∧(new.all oneCell)=true∧(((P.info? e).bind (·.zero)).any fun z=>z.cells.size == P.cellsOf e)=true ∧
  match x with
  | .slice none 0 0 =>
    match n with
    | 0=>K (.slice none 0 0) H
    | n + 1=>(n + 1) * P.bytesOf e≤140737488355328∧n + 1≤9223372036854775807∧K (.slice (some ⟨H.next, 0, none⟩) (n + 1) 0) (H.pushT (.row new (P.cellsOf e)) (some e))
  | .slice (some ⟨i, k, none⟩) len 0 =>
    match H.get i with
    | some (.row cs es)=>es=P.cellsOf e∧k + len * es=cs.length∧(len + n) * P.bytesOf e≤140737488355328∧(len + n)≤9223372036854775807 ∧
        K (.slice (some ⟨H.next, 0, none⟩) (len + n) 0) ((H.drop i).pushT (.row (cs.drop k ++ new) es) (grownTy k (H.tys i) e))
    | _=>False
  | .slice (some ⟨i, k, none⟩) len (c + 1) =>
    c=len∧match sliceCells H (P.cellsOf e) (.slice (some ⟨i, k, none⟩) len (c + 1)) with
    | some old =>
      match n with
      | 0=>K (.slice (some ⟨i, k, none⟩) len (c + 1)) H
      | n + 1=>(len + (n + 1)) * P.bytesOf e≤140737488355328∧len + (n + 1)≤9223372036854775807∧K (.slice (some ⟨H.next, 0, none⟩) (len + (n + 1)) 0) (H.push (.row (old ++ new) (P.cellsOf e)))
    | none=>False
  | _=>False

def aFill (cells:List Value) (place:Nat→Option (Nat × Nat)):List (Nat × Value)→Option (List Value)
  | []=>some cells
  | (i, v) :: rest =>
    match place i with
    | none=>none
    | some (off, size)=>if v.cells.size ≠ size || off + v.cells.size > cells.length then none else aFill (setCells cells off v.cells.toList) place rest

def aBuild (P:Program) (t:TypeId) (parts:List (Nat × Value)) (K:Value→Prop):Prop :=
  match (P.info? t).bind (·.zero), P.underlying t with
  | some z, some (.struct fs) =>
    constOK z=true∧(fs.all fun f=>tyOK P f.type)=true ∧
    match aFill z.cells.toList (fun i=>(fs[i]?).map fun f=>(f.offset, P.cellsOf f.type)) parts with
    | some cs=>K (.agg cs.toArray)
    | none=>False
  | _, _=>False

def aBuildSlice (P:Program) (t:TypeId) (len:Nat) (parts:List (Nat × Value)) (H:AH) (K:KV):Prop :=
  match P.underlying t with
  | some (.slice e) =>
    match (P.info? e).bind (·.zero) with
    | some z =>
      constOK z=true∧z.cells.size=P.cellsOf e∧P.cellsOf e ≠ 0∧len * P.cellsOf e≤16777216 ∧
      match aFill ((List.replicate len z.cells.toList).flatten) (fun i=>some (i * P.cellsOf e, P.cellsOf e)) parts with
      | some cs=>(cs.all oneCell)=true∧K (.slice (some ⟨H.next, 0, none⟩) len 0) (H.push (.row cs (P.cellsOf e)))
      | none=>False
    | none=>False
  | _=>False

def aMaxMin (mx:Bool) (args:List Value) (K:Value→Prop):Prop :=
  match args with
  | [.int k a, .int k' b]=>k=k'∧K (.int k (if mx then (if a<b then b else a) else (if b<a then b else a)))
  | _=>False

def aIface (P:Program) (t:TypeId) (x:Value) (K:Value→Prop):Prop:=(∃ d, P.underlying t=some d∧∀ m, d ≠ .interface m)∧K (.iface t x)

def callable (P:Program) (f:FuncId):Bool :=
  match P.funcs[f]? with
  | some fn=>fn.body.isSome && fn.name != "runtime.NumGoroutine"
  | none=>false

def repl (zc:List Value) (n:Nat):List Value:=(List.replicate n zc).flatten
def aMakeSlice (P:Program) (t:TypeId) (l c:Value) (H:AH) (K:KV):Prop :=
  match P.underlying t with
  | some (.slice e) =>
    match (P.info? e).bind (·.zero) with
    | some z =>
      match l, c with
      | .int _ l, .int _ c=>constOK z=true∧z.cells.size=P.cellsOf e∧P.cellsOf e ≠ 0∧(z.cells.toList.all oneCell)=true∧0≤l∧l≤c∧(P.bytesOf e:Int) * c≤281474976710656∧c≤9223372036854775807 ∧
          K (.slice (some ⟨H.next, 0, none⟩) l.toNat 0) (H.push (.row (repl z.cells.toList l.toNat) (P.cellsOf e)))
      | _, _=>False
    | none=>False
  | _=>False

def copySrc (H:AH) (esz:Nat):Value→Option (Nat × List Value)
  | .string s=>if esz=1 then some (s.size, byteCells s) else none
  | .slice b n c=>(sliceCells H esz (.slice b n c)).map fun l=>(n, l)
  | _=>none
def aCopy (esz:Nat) (x y:Value) (H:AH) (K:KV):Prop :=
  match copySrc H esz y with
  | none=>False
  | some (m, new) =>
    match x with
    | .slice none 0 _=>K (.int .i64 0) H
    | .slice (some ⟨i, k, none⟩) d _ =>
      match min m d with
      | 0=>K (.int .i64 0) H
      | n + 1 =>
        match H.get i with
        | some (.row cs e)=>k + (n + 1) * esz≤cs.length∧((new.take ((n + 1) * esz)).all oneCell)=true∧K (.int .i64 ((n + 1:Nat):Int)) (H.set i (.row (setCells cs k (new.take ((n + 1) * esz))) e))
        | _=>False
    | _=>False

def bLen (P:Program) (types:List TypeId) (args:List Value) (H:AH) (K:KV):Prop :=
  match types, args with
  | t :: _, x :: _=>aLen P t x H fun v=>K v H
  | _, _=>False
def bCopy (P:Program) (types:List TypeId) (args:List Value) (H:AH) (K:KV):Prop :=
  match types, args with
  | t :: _, [x, y] =>
    match P.underlying t with
    | some (.slice e)=>tyOK P e=true∧aCopy (P.cellsOf e) x y H K
    | _=>False
  | _, _=>False
def bAppend (P:Program) (types:List TypeId) (args:List Value) (H:AH) (K:KV):Prop :=
  match types, args with
  | t :: u :: _, [x, y] =>
    match P.underlying t, P.underlying u with
    | some (.slice e), some (.slice _) =>
      match y with
      | .slice _ n _ =>
        match sliceCells H (P.cellsOf e) y with
        | some new=>aAppend P e x new n H K
        | none=>False
      | _=>False
    | some (.slice e), some .string =>
      match y with
      | .string s=>P.cellsOf e=1∧aAppend P e x (byteCells s) s.size H K
      | _=>False
    | _, _=>False
  | _, _=>False
def mfind (d:TypeDesc) (k:Value):List (Value × Value × Nat)→Nat→Option (Option Nat)
  | [], _=>some none
  | e :: es, i =>
    match Instr.sameNow d k e.1 with
    | some true=>some (some i)
    | some false=>mfind d k es (i + 1)
    | none=>none
def okV (ok:Bool) (v:Value) (b:Bool):Value :=
  match ok with
  | true=>.tuple #[v, .bool b]
  | false=>v
def wLk (d:TypeDesc) (m:Option Nat) (k z:Value) (H:AH) (K:Value→Bool→Prop):Prop :=
  match m with
  | none=>K z false
  | some i =>
    match H.get i with
    | some (.map es _) =>
      match mfind d k es 0 with
      | some (some j) =>
        match es[j]? with
        | some e=>K e.2.1 true
        | none=>False
      | some none=>K z false
      | none=>False
    | _=>False
def wMu (d:TypeDesc) (m:Option Nat) (k v:Value) (H:AH) (K:AH→Prop):Prop :=
  match m with
  | none=>False
  | some i =>
    match H.get i with
    | some (.map es cl) =>
      match mfind d k es 0 with
      | some (some j)=>K (H.set i (.map (es.modify j fun e=>(k, v, e.2.2)) cl))
      | some none=>K (H.set i (.map (es ++ [(k, v, cl)]) (cl + 1)))
      | none=>False
    | _=>False
def wMe (d:TypeDesc) (m:Option Nat) (k z:Value) (H:AH) (K:Value→Nat→AH→Prop):Prop :=
  match m with
  | none=>False
  | some i =>
    match H.get i with
    | some (.map es cl) =>
      match mfind d k es 0 with
      | some (some j) =>
        match es[j]? with
        | some e=>K e.2.1 e.2.2 (H.set i (.map (es.modify j fun e=>(k, e.2.1, e.2.2)) cl))
        | none=>False
      | some none=>K z cl (H.set i (.map (es ++ [(k, z, cl)]) (cl + 1)))
      | none=>False
    | _=>False
def wEs (m:Option Nat) (b:Int) (v:Value) (H:AH) (K:AH→Prop):Prop :=
  match m with
  | none=>False
  | some i =>
    match H.get i with
    | some (.map es cl) =>
      match es.findIdx? (fun e=>(e.2.2:Int) == b) with
      | some j=>K (H.set i (.map (es.modify j fun e=>(e.1, v, e.2.2)) cl))
      | none=>False
    | _=>False
def wDl (d:TypeDesc) (m:Option Nat) (k:Value) (H:AH) (K:AH→Prop):Prop :=
  match m with
  | none=>K H
  | some i =>
    match H.get i with
    | some (.map es cl) =>
      match mfind d k es 0 with
      | some (some j)=>K (H.set i (.map (es.eraseIdx j) cl))
      | some none=>K H
      | none=>False
    | _=>False
def wMm (H:AH) (K:Nat→AH→Prop):Prop:=K H.next (H.push (.map [] 0))
def wMr (m:Option Nat) (H:AH) (K:Nat→AH→Prop):Prop :=
  match m with
  | none=>K H.next (H.push (.miter none 0 [] 0))
  | some i =>
    match H.get i with
    | some (.map _ cl)=>K H.next (H.push (.miter (some i) cl [] cl))
    | _=>False
def wMn (a:Option Addr) (H:AH) (K1:Value→Value→AH→Prop) (K2:Prop):Prop :=
  match a with
  | some ⟨r, 0, none⟩ =>
    match H.get r with
    | some (.miter none _ _ _)=>K2
    | some (.miter (some i) since seen last) =>
      match H.get i with
      | some (.map es cl)=>(seen=[]∨es=[]∨∃ e ∈ es, e.2.2<last)∧((∀ e ∈ es, e.2.2 ∈ seen∨¬ e.2.2<since)→K2) ∧
          ∀ e ∈ es, e.2.2 ∉ seen→K1 e.1 e.2.1 (H.set r (.miter (some i) since (seen ++ [e.2.2]) cl))
      | _=>False
    | _=>False
  | _=>False
def wEn (a:Option Addr) (H:AH) (K:Value→Value→Prop):Prop :=
  match a with
  | some ⟨r, 0, none⟩ =>
    match H.get r with
    | some (.miter (some i) _ seen last) =>
      match H.get i with
      | some (.map es cl) =>
        match seen.getLast? with
        | some b=>cl=last∧(match es.find? (fun e=>e.2.2 == b) with
          | some e=>K e.1 e.2.1
          | none=>False)
        | none=>False
      | _=>False
    | _=>False
  | _=>False
def keyD:TypeDesc→Bool
  | .int _ | .string | .bool=>true
  | _=>false
def isKeyD (d:TypeDesc) (k:Value):Bool :=
  match d, k with
  | .int k, .int k' _=>decide (k'=k)
  | .string, .string _=>true
  | .bool, .bool _=>true
  | _, _=>false
def mapD (P:Program) (t:TypeId):Option (TypeDesc × TypeId) :=
  match P.underlying t with
  | some (.map k e) =>
    match P.underlying k with
    | some d=>if keyD d then some (d, e) else none
    | none=>none
  | _=>none
def aLookup (P:Program) (t:TypeId) (x k:Value) (ok:Bool) (H:AH) (K:Value→Prop):Prop :=
  match mapD P t with
  | some (d, e) =>
    match (P.info? e).bind (·.zero) with
    | some z=>constOK z=true∧isKeyD d k=true∧(match x with
      | .map m=>wLk d m k z H fun v b=>K (okV ok v b)
      | _=>False)
    | none=>False
  | none=>False
def aMapUpdate (P:Program) (t:TypeId) (x k v:Value) (H:AH) (K:AH→Prop):Prop :=
  match mapD P t with
  | some (d, _) =>
    match x with
    | .map m=>isKeyD d k=true∧wMu d m k v H K
    | _=>False
  | none=>False
def aMapEntry (P:Program) (t:TypeId) (x k:Value) (H:AH) (K:KV):Prop :=
  match mapD P t with
  | some (d, e) =>
    match (P.info? e).bind (·.zero) with
    | some z=>constOK z=true∧isKeyD d k=true∧(match x with
      | .map m=>wMe d m k z H fun v b H'=>K (.tuple #[v, .int .i64 b]) H'
      | _=>False)
    | none=>False
  | none=>False
def aEntryStore (x b v:Value) (H:AH) (K:AH→Prop):Prop :=
  match x, b with
  | .map m, .int _ b=>wEs m b v H K
  | _, _=>False
def bDelete (P:Program) (types:List TypeId) (args:List Value) (H:AH) (K:KV):Prop :=
  match types, args with
  | t :: _, [.map m, k] =>
    match mapD P t with
    | some (d, _)=>isKeyD d k=true∧wDl d m k H fun H'=>K (.tuple #[]) H'
    | none=>False
  | _, _=>False
def aBuiltin (P:Program) (b:Builtin) (types:List TypeId) (args:List Value) (H:AH) (K:KV):Prop :=
  match b with
  | .len=>bLen P types args H K
  | .max=>aMaxMin true args fun v=>K v H
  | .min=>aMaxMin false args fun v=>K v H
  | .copy=>bCopy P types args H K
  | .append=>bAppend P types args H K
  | .delete=>bDelete P types args H K
  | _=>False

def aCall (P:Program) (f:Value) (args:List Value) (H:AH) (K:KV) (Kp:KV):Prop :=
  match f with
  | .func (.func f) first captured=>callable P f=true∧ACall P f (first.toList ++ args ++ captured.toList) H fun
      | .ret v, H'=>K v H'
      | .panic v, H'=>Kp v H'
  | _=>False

def aPanic (x:Value) (H:AH) (Kp:KV):Prop :=
  match x with
  | .iface t v=>Kp (.iface t v) H
  | _=>False
def aTA (P:Program) (x:Value) (t:TypeId) (K:Value→Prop):Prop :=
  match x with
  | .iface u v=>u=t∧(∃ d, P.underlying t=some d∧∀ m, d ≠ .interface m)∧K (.tuple #[v, .bool true])
  | _=>False
def wSi (s:ByteArray) (H:AH) (K:Nat→AH→Prop):Prop:=K H.next (H.push (.siter s 0))
def wNx (a:Option Addr) (H:AH) (K1:Int→Int→AH→Prop) (K2:Prop):Prop :=
  match a with
  | some ⟨i, 0, none⟩ =>
    match H.get i with
    | some (.siter s pos)=>(pos<s.size→K1 pos (Utf8.decode s pos).1 (H.set i (.siter s (pos + (Utf8.decode s pos).2))))∧(¬ pos<s.size→K2)
    | _=>False
  | _=>False
def aNext (x:Value) (H:AH) (K:KV):Prop :=
  match x with
  | .pointer a=>wNx a H (fun p c H'=>K (.tuple #[.bool true, .int .i64 p, .int .i32 c]) H') (K (.tuple #[.bool false]) H)
  | _=>False

def aRange (P:Program) (t:TypeId) (x:Value) (H:AH) (K:KV):Prop :=
  match x with
  | .string s=>P.underlying t=some .string∧K (.pointer (some ⟨H.next, 0, none⟩)) (H.push (.siter s 0))
  | .map m=>(∃ k e, P.underlying t=some (.map k e))∧wMr m H fun i H'=>K (.pointer (some ⟨i, 0, none⟩)) H'
  | _=>False
def aNextM (x:Value) (H:AH) (K:KV):Prop :=
  match x with
  | .pointer a=>wMn a H (fun k v H'=>K (.tuple #[.bool true, k, v]) H') (K (.tuple #[.bool false]) H)
  | _=>False
def aEntry (x:Value) (H:AH) (K:Value→Prop):Prop :=
  match x with
  | .pointer a=>wEn a H fun k v=>K (.tuple #[k, v])
  | _=>False

def aPick (c a b:Value) (K:Value→Prop):Prop :=
  match c with
  | .bool c=>(match c with
    | true=>K a
    | false=>K b)
  | _=>False

def isK:Operand→Bool
  | .const _=>true
  | _=>false
def aopO (P:Program) (tm:List Value) (o:Oper) (H:AH) (K:KV) (Kp:KV):Prop :=
  match o.op with
  | .move x | .assign x=>K (ev tm x) H
  | .pick c a b=>aPick (ev tm c) (ev tm a) (ev tm b) fun v=>K v H
  | .alloc t=>aAlloc P t H K
  | .box t x=>aNewT P t (ev tm x) H K
  | .build t ps=>aBuild P t (ps.toList.map fun p=>(p.1, ev tm p.2)) fun v=>K v H
  | .buildSlice t len ps=>aBuildSlice P t len (ps.toList.map fun p=>(p.1, ev tm p.2)) H K
  | .load t a=>aLoad P t (ev tm a) H fun v=>K v H
  | .store t a x=>aStore P t (ev tm a) (ev tm x) H fun H'=>K undef H'
  | .nilCheck x=>aNilCheck (ev tm x) fun v=>K v H
  | .binOp op t x y _=>aBin (isK x || isK y) P op t (ev tm x) (ev tm y) fun v=>K v H
  | .unOp op _ x=>aUn op (ev tm x) fun v=>K v H
  | .convert s d x=>aConvert P s d (ev tm x) H K
  | .makeInterface t x=>aIface P t (ev tm x) fun v=>K v H
  | .makeSlice t l c=>aMakeSlice P t (ev tm l) (ev tm c) H K
  | .slice t x lo hi mx=>aSlice P t (ev tm x) (lo.map (ev tm)) (hi.map (ev tm)) (mx.map (ev tm)) H fun v=>K v H
  | .fieldAddr t x n=>aField P t (ev tm x) n fun v=>K v H
  | .field t x n=>aFieldOf P t (ev tm x) n fun v=>K v H
  | .indexAddr t x i=>aIndexAddr P t (ev tm x) (ev tm i) fun v=>K v H
  | .index t x i=>aIndex P t (ev tm x) (ev tm i) fun v=>K v H
  | .extract x n=>aExtract (ev tm x) n fun v=>K v H
  | .call ⟨.builtin b, args, types⟩=>aBuiltin P b types.toList (args.toList.map (ev tm)) H K
  | .call ⟨.value f, args, _⟩=>aCall P (ev tm f) (args.toList.map (ev tm)) H K Kp
  | .panic x=>aPanic (ev tm x) H Kp
  | .makeFunc (.func g) first caps=>K (.func (.func g) (first.map (ev tm)) (caps.map (ev tm))) H
  | .typeAssert x _ t true=>aTA P (ev tm x) t fun v=>K v H
  | .range t x=>aRange P t (ev tm x) H K
  | .next it true=>aNext (ev tm it) H K
  | .next it false=>aNextM (ev tm it) H K
  | .entry it=>aEntry (ev tm it) H fun v=>K v H
  | .makeMap _ none=>wMm H fun i H'=>K (.map (some i)) H'
  | .lookup t x k ok=>aLookup P t (ev tm x) (ev tm k) ok H fun v=>K v H
  | .mapUpdate t m k x | .insert t m k x=>aMapUpdate P t (ev tm m) (ev tm k) (ev tm x) H fun H'=>K undef H'
  | .mapEntry t m k=>aMapEntry P t (ev tm m) (ev tm k) H K
  | .entryStore _ m b x=>aEntryStore (ev tm m) (ev tm b) (ev tm x) H fun H'=>K undef H'
  | _=>False


theorem AH.get_push (H:AH) (o:AObj) (i:Nat):(H.push o).get i=if i=H.next then some o else H.get i:=rfl
theorem AH.get_set (H:AH) (k:Nat) (o:AObj) (i:Nat):(H.set k o).get i=if i=k then some o else H.get i:=rfl
theorem AH.get_drop (H:AH) (k:Nat) (i:Nat):(H.drop k).get i=if i=k then none else H.get i:=rfl
theorem AH.next_push (H:AH) (o:AObj):(H.push o).next=H.next + 1:=rfl
end Go.Proofs.YtjhbbbcelnlnpaaGreatDoor
