/- A small program logic over the model of Go: an abstract heap of objects with numbers in the place of blocks. Conditions: one goroutine, as in the kit's own rules. -/
import Derived.WalkKit
namespace Go.Proofs.YtjhbbbcelnlnpaaGreatDoor
open Go.RowKit

structure Pl where
  block:Nat
  off:Nat
  cap:Nat
  esz:Nat

abbrev Mu:=Nat→Option Pl

def capOf (p:Pl) (k:Nat):Nat→Nat→Prop
  | 0, cap=>cap=(p.cap - k) / p.esz
  | c + 1, cap=>cap=c

inductive VR (μ:Mu):Value→Value→Prop
  | bool (b:Bool):VR μ (.bool b) (.bool b)
  | int (k:IntKind) (n:Int):VR μ (.int k n) (.int k n)
  | string (s:ByteArray):VR μ (.string s) (.string s)
  | nilptr:VR μ (.pointer none) (.pointer none)
  | ptr {i k:Nat} {p:Pl}:μ i=some p→VR μ (.pointer (some ⟨i, k, none⟩)) (.pointer (some ⟨p.block, p.off + k, none⟩))
  | nilslice:VR μ (.slice none 0 0) (.slice none 0 0)
  | slice {i k len c:Nat} {p:Pl} {a:Addr} {cap:Nat}:μ i=some p→capOf p k c cap →
      (a=⟨p.block, p.off + k, none⟩∨(len=0∧cap=0))→VR μ (.slice (some ⟨i, k, none⟩) len c) (.slice (some a) len cap)
  | nilmap:VR μ (.map none) (.map none)
  | map {i:Nat} {p:Pl}:μ i=some p→VR μ (.map (some i)) (.map (some p.block))
  | nilFunc:VR μ .nilFunc .nilFunc
  | func {fn:Fn} {first captured first' captured':Array Value}:first.size=first'.size→captured.size=captured'.size →
      (∀ (j:Nat) v v', first[j]?=some v→first'[j]?=some v'→VR μ v v') →
      (∀ (j:Nat) v v', captured[j]?=some v→captured'[j]?=some v'→VR μ v v')→VR μ (.func fn first captured) (.func fn first' captured')
  | iface {t:TypeId} {v v':Value}:VR μ v v'→VR μ (.iface t v) (.iface t v')
  | nilIface:VR μ .nilIface .nilIface
  | agg {cs cs':Array Value}:cs.size=cs'.size→(∀ (j:Nat) v v', cs[j]?=some v→cs'[j]?=some v'→VR μ v v')→VR μ (.agg cs) (.agg cs')
  | tuple {cs cs':Array Value}:cs.size=cs'.size→(∀ (j:Nat) v v', cs[j]?=some v→cs'[j]?=some v'→VR μ v v')→VR μ (.tuple cs) (.tuple cs')

def Mu.le (μ ν:Mu):Prop:=∀ i p, μ i=some p→ν i=some p
theorem Mu.le_refl (μ:Mu):Mu.le μ μ:=fun _ _ h=>h
theorem Mu.le_trans {a b c:Mu} (h:Mu.le a b) (k:Mu.le b c):Mu.le a c:=fun i p hp=>k i p (h i p hp)

theorem VR.mono {μ ν:Mu} (h:Mu.le μ ν) {v v':Value} (r:VR μ v v'):VR ν v v':=by
  induction r with
  | bool b=>exact .bool b
  | int k n=>exact .int k n
  | string s=>exact .string s
  | nilptr=>exact .nilptr
  | ptr hp=>exact .ptr (h _ _ hp)
  | nilslice=>exact .nilslice
  | slice hp hc ha=>exact .slice (h _ _ hp) hc ha
  | nilmap=>exact .nilmap
  | map hp=>exact .map (h _ _ hp)
  | nilFunc=>exact .nilFunc
  | func h1 h2 _ _ ih1 ih2=>exact .func h1 h2 ih1 ih2
  | iface _ ih=>exact .iface ih
  | nilIface=>exact .nilIface
  | agg h1 _ ih=>exact .agg h1 ih
  | tuple h1 _ ih=>exact .tuple h1 ih

def plainV:Value→Bool
  | .bool _ | .int _ _ | .string _ | .pointer none | .slice none 0 0 | .map none | .nilFunc | .nilIface=>true
  | _=>false
def constOK:Value→Bool
  | .agg cs=>cs.all plainV
  | .tuple cs=>cs.all plainV
  | .iface _ v=>plainV v
  | v=>plainV v
theorem VR.plain {μ:Mu} {v:Value} (h:plainV v=true):VR μ v v:=by
  cases v with
  | bool b=>exact .bool b
  | int k n=>exact .int k n
  | string s=>exact .string s
  | pointer a=>cases a with
    | none=>exact .nilptr
    | some a=>simp [plainV] at h
  | slice a l c=>cases a with
    | none=>cases l with
      | zero=>cases c with
        | zero=>exact .nilslice
        | succ c=>simp [plainV] at h
      | succ l=>simp [plainV] at h
    | some a=>simp [plainV] at h
  | map r=>cases r with
    | none=>exact .nilmap
    | some r=>simp [plainV] at h
  | nilFunc=>exact .nilFunc
  | nilIface=>exact .nilIface
  | float k b=>simp [plainV] at h
  | complex k a b=>simp [plainV] at h
  | chan r=>simp [plainV] at h
  | func a b c=>simp [plainV] at h
  | iface a b=>simp [plainV] at h
  | agg a=>simp [plainV] at h
  | tuple a=>simp [plainV] at h
theorem plain_at {cs:Array Value} (h:cs.all plainV=true) {j:Nat} {v:Value} (hj:cs[j]?=some v):plainV v=true:=by
  rw [Array.all_eq_true] at h
  obtain ⟨hlt, he⟩:=Array.getElem?_eq_some_iff.1 hj
  rw [← he]; exact h j hlt
theorem VR.const {μ:Mu} {v:Value} (h:constOK v=true):VR μ v v:=by
  cases v with
  | agg cs=>exact .agg rfl fun j v v' h1 h2=>by rw [h1] at h2; cases h2; exact VR.plain (plain_at h h1)
  | tuple cs=>exact .tuple rfl fun j v v' h1 h2=>by rw [h1] at h2; cases h2; exact VR.plain (plain_at h h1)
  | iface t v=>exact .iface (VR.plain h)
  | _=>exact VR.plain h

def LR (μ:Mu) (l:List Value) (a:Array Value):Prop:=l.length=a.size∧∀ (j:Nat) v, l[j]?=some v→∃ v', a[j]?=some v'∧VR μ v v'
theorem LR.mono {μ ν:Mu} (h:Mu.le μ ν) {l:List Value} {a:Array Value} (r:LR μ l a):LR ν l a :=
  ⟨r.1, fun j v hj=>let ⟨v', h1, h2⟩:=r.2 j v hj; ⟨v', h1, h2.mono h⟩⟩
theorem VR.undef {μ:Mu}:VR μ undef undef:=VR.const (by simp [constOK, Go.undef])
theorem LR.getD {μ:Mu} {l:List Value} {a:Array Value} (r:LR μ l a) (t:Nat):VR μ (l.getD t undef) (a.getD t undef):=by
  by_cases h:t<l.length
  · obtain ⟨v', h1, h2⟩:=r.2 t l[t] (by simp [h])
    have:a.getD t undef=v':=by rw [Array.getD_eq_getD_getElem?, h1]; rfl
    rw [this, List.getD_eq_getElem?_getD]; simpa [h] using h2
  · have:a.getD t undef=undef:=by rw [Array.getD_eq_getD_getElem?, Array.getElem?_eq_none (by have:=r.1; omega)]; rfl
    rw [this, List.getD_eq_getElem?_getD, List.getElem?_eq_none (by omega)]; exact VR.undef
theorem LR.set {μ:Mu} {l:List Value} {a:Array Value} (r:LR μ l a) (t:Nat) {v v':Value} (h:VR μ v v'):LR μ (l.set t v) (a.setIfInBounds t v'):=by
  refine ⟨by simpa using r.1, fun j x hj=>?_⟩
  by_cases e:t=j
  · subst e
    have hlt:t<l.length:=by
      have:=(List.getElem?_eq_some_iff.1 hj).1; simpa using this
    rw [List.getElem?_set_self hlt] at hj
    cases hj
    exact ⟨v', by rw [Array.getElem?_setIfInBounds]; simp [← r.1, hlt], h⟩
  · rw [List.getElem?_set_ne e] at hj
    obtain ⟨x', h1, h2⟩:=r.2 j x hj
    exact ⟨x', by rw [Array.getElem?_setIfInBounds, if_neg e]; exact h1, h2⟩

inductive AObj
  | row (cs:List Value) (esz:Nat)
  | ro (cs:List Value) (esz:Nat)
  | map (es:List (Value × Value × Nat)) (clock:Nat)
  | siter (s:ByteArray) (pos:Nat)
  | miter (m:Option Nat) (since:Nat) (seen:List Nat) (last:Nat)
  | other (o:Obj)

def AObj.rw:AObj→Bool
  | .ro _ _=>false
  | _=>true

structure AH where
  next:Nat
  get:Nat→Option AObj
  tys:Nat→Option TypeId:=fun _=>none

def AH.set (H:AH) (i:Nat) (o:AObj):AH:={ H with get:=fun j=>if j=i then some o else H.get j }
def AH.drop (H:AH) (i:Nat):AH:={ H with get:=fun j=>if j=i then none else H.get j }
def AH.push (H:AH) (o:AObj):AH:={ next:=H.next + 1, get:=fun j=>if j=H.next then some o else H.get j, tys:=H.tys }

def AH.pushT (H:AH) (o:AObj) (t:Option TypeId):AH:={ next:=H.next + 1, get:=fun j=>if j=H.next then some o else H.get j, tys:=fun j=>if j=H.next then t else H.tys j }
def grownTy (k:Nat) (t:Option TypeId) (e:TypeId):Option TypeId:=if k=0 then (if t=some e then t else none) else none
theorem grownTy_of {k:Nat} {t:Option TypeId} {e x:TypeId} (h:grownTy k t e=some x):k=0∧t=some e∧x=e:=by
  unfold grownTy at h
  split at h
  · split at h
    · rename_i h1 h2; rw [h2] at h; cases h; exact ⟨h1, h2, rfl⟩
    · cases h
  · cases h

def CellsAt (μ:Mu) (c:Array Value) (off:Nat) (cs:List Value):Prop:=∀ (j:Nat) v, cs[j]?=some v→∃ v', c[off + j]?=some v'∧VR μ v v'

def ObjR (B:Nat) (μ:Mu) (w:World) (p:Pl):AObj→Prop
  | .row cs esz=>p.esz=esz∧B≤p.block∧∃ c ty fz, w.heap[p.block]?=some (.cells c ty fz)∧p.off + p.cap≤c.size∧cs.length≤p.cap ∧
      (∀ j, j<p.cap→¬ (fz.1≤p.off + j∧p.off + j<fz.2))∧CellsAt μ c p.off cs
  | .ro cs esz=>p.esz=esz∧∃ c ty fz, w.heap[p.block]?=some (.cells c ty fz)∧p.off + p.cap≤c.size∧cs.length≤p.cap∧CellsAt μ c p.off cs
  | .map es clock=>B≤p.block∧∃ entries, w.heap[p.block]?=some (.map entries clock)∧entries.size=es.length ∧
      ∀ (j:Nat) e, es[j]?=some e→∃ e', entries[j]?=some e'∧VR μ e.1 e'.key∧VR μ e.2.1 e'.val∧e'.born=e.2.2
  | .siter s pos=>p.off=0∧B≤p.block∧w.heap[p.block]?=some (.stringIter s pos)
  | .miter m since seen last=>p.off=0∧B≤p.block∧∃ m', w.heap[p.block]?=some (.mapIter m' since seen.toArray last) ∧
      ((m=none∧m'=none)∨∃ i q, m=some i∧μ i=some q∧m'=some q.block)
  | .other o=>p.off=0∧B≤p.block∧w.heap[p.block]?=some o

structure Rel (B:Nat) (w0:World) (μ:Mu) (H:AH) (w:World):Prop where
  below:Below B w0 w
  size:B≤w.heap.size
  fresh:∀ i p, μ i=some p→i<H.next
  obj:∀ i o, H.get i=some o→∃ p, μ i=some p∧ObjR B μ w p o
  excl:∀ i j o o' p q, i ≠ j→H.get i=some o→o.rw=true→H.get j=some o'→μ i=some p→μ j=some q→p.block ≠ q.block
  tys:∀ i x, H.tys i=some x→∃ p n, μ i=some p∧p.off=0∧w.shape? p.block=some (x, n)

theorem shape_of {w w':World} {b:Nat} (h:w'.heap[b]?=w.heap[b]?):w'.shape? b=w.shape? b:=by unfold World.shape?; rw [h]
theorem shape_lt {w:World} {b:Nat} {x:TypeId × Nat} (h:w.shape? b=some x):b<w.heap.size:=by
  unfold World.shape? at h
  rcases Nat.lt_or_ge b w.heap.size with h' | h'
  · exact h'
  · simp [Array.getElem?_eq_none h'] at h

theorem Rel.retype {B:Nat} {w0:World} {μ:Mu} {H:AH} {w:World} {o:AObj} (hr:Rel B w0 μ (H.push o) w) (t:Option TypeId) (ht:∀ x, t=some x→∃ p n, μ H.next=some p∧p.off=0∧w.shape? p.block=some (x, n)):Rel B w0 μ (H.pushT o t) w:=by
  refine ⟨hr.below, hr.size, hr.fresh, hr.obj, hr.excl, fun i x hx=>?_⟩
  replace hx:(if i=H.next then t else H.tys i)=some x:=hx
  by_cases e:i=H.next
  · rw [if_pos e] at hx; subst e; exact ht x hx
  · rw [if_neg e] at hx; exact hr.tys i x hx

inductive AExit
  | normal
  | exit (id:Nat)
  | goto (l:Nat)
  | ret
  | panic (v:Value)

inductive AEnd
  | ret (v:Value)
  | panic (v:Value)

def exitR (μ:Mu):AExit→Exit→Prop
  | .normal, .normal=>True
  | .exit i, .exit j=>i=j
  | .goto i, .goto j=>i=j
  | .ret, .ret=>True
  | .panic v, .panic ch=>∃ v', ch=[{ v:=v', recovered:=false }]∧VR μ v v'
  | _, _=>False

def endR (μ:Mu):AEnd→Ending→Prop
  | .ret v, .returned v'=>VR μ v v'
  | .panic v, .panicked ch=>∃ v', ch=[{ v:=v', recovered:=false }]∧VR μ v v'
  | _, _=>False

def lrX (D:List Deferred) (μ:Mu) (e:AExit) (tm:List Value) (ca:Array Value):Prop :=
  match e with
  | .panic _=>D ≠ []→LR μ tm ca
  | _=>LR μ tm ca
def noDraw:Code→Bool
  | .region _ _ d=>!d
  | .seq a b=>noDraw a && noDraw b
  | .cond _ a b=>noDraw a && noDraw b
  | .block _ c=>noDraw c
  | .loop c=>noDraw c
  | _=>true

def lift (D:List Deferred) (B:Nat) (w0:World) (μ0:Mu) (Q:AExit→List Value→AH→Prop):Exit→Act→World→Prop :=
  fun e a w=>∃ e' tm H μ, Q e' tm H∧Mu.le μ0 μ∧Rel B w0 μ H w∧lrX D μ e' tm a.tmps∧a.defers=D∧exitR μ e' e

theorem lift.le {D:List Deferred} {B:Nat} {w0:World} {μ ν:Mu} (h:Mu.le μ ν) {Q:AExit→List Value→AH→Prop} {e:Exit} {a:Act} {w:World} (k:lift D B w0 ν Q e a w):lift D B w0 μ Q e a w :=
  let ⟨e', tm, H, ρ, h1, h2, h3⟩:=k; ⟨e', tm, H, ρ, h1, Mu.le_trans h h2, h3⟩

def ACall (P:Program) (f:FuncId) (args:List Value) (H:AH) (R:AEnd→AH→Prop):Prop :=
  ∀ B w0 μ w cargs, Rel B w0 μ H w→LR μ args cargs →
    Calls P f cargs w fun e w'=>∃ e' H' μ', R e' H'∧Mu.le μ μ'∧Rel B w0 μ' H' w'∧endR μ' e' e

theorem ACall.mono {P:Program} {f:FuncId} {args:List Value} {H:AH} {R R':AEnd→AH→Prop} (h:ACall P f args H R) (hr:∀ e H', R e H'→R' e H'):ACall P f args H R' :=
  fun B w0 μ w cargs h1 h2=>(h B w0 μ w cargs h1 h2).mono fun _ _ ⟨e', H', μ', r, x⟩=>⟨e', H', μ', hr _ _ r, x⟩

def AWP (P:Program) (c:Code) (Q:AExit→List Value→AH→Prop) (tm:List Value) (H:AH):Prop :=
  ∀ (D:List Deferred) B w0 μ w ca, (D=[]∨noDraw c=true)→Rel B w0 μ H w→LR μ tm ca→c.wp P (lift D B w0 μ Q) { tmps:=ca, defers:=D } w

end Go.Proofs.YtjhbbbcelnlnpaaGreatDoor
