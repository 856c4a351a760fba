/- The rules in the form in which they are printed: what the types tell is worked out, the values are taken apart. -/
import Derived.Test.YtjhbbbcelnlnpaaGreatDoorWNab
namespace Go.Proofs.YtjhbbbcelnlnpaaGreatDoor
open Go.RowKit

inductive CK
  | int (k:IntKind) | str | bool | ptr | slice | map | any

def ckD:TypeDesc→CK
  | .int k=>.int k
  | .string=>.str
  | .bool=>.bool
  | .pointer _=>.ptr
  | .slice _=>.slice
  | .map _ _=>.map
  | _=>.any

def cks (P:Program):Nat→TypeId→List CK
  | 0, _=>[]
  | n + 1, t =>
    match P.underlying t with
    | some (.struct fs)=>(fs.toList.map fun f=>cks P n f.type).flatten
    | some (.array len e)=>(List.replicate len (cks P n e)).flatten
    | some d=>[ckD d]
    | none=>[]

/-! Values taken apart. -/
def opI (kd:IntKind) (v:Value) (K:Int→Prop):Prop :=
  match v with
  | .int k n=>(match decide (k=kd) with
    | true=>K n
    | false=>False)
  | _=>False
def opS (v:Value) (K:ByteArray→Prop):Prop :=
  match v with
  | .string s=>K s
  | _=>False
def opB (v:Value) (K:Bool→Prop):Prop :=
  match v with
  | .bool s=>K s
  | _=>False
def opP (v:Value) (K:Option Addr→Prop):Prop :=
  match v with
  | .pointer a=>K a
  | _=>False
def opL (v:Value) (K:Option Addr→Nat→Nat→Prop):Prop :=
  match v with
  | .slice a l c=>K a l c
  | _=>False
def opM (v:Value) (K:Option Nat→Prop):Prop :=
  match v with
  | .map a=>K a
  | _=>False
def opV (v:Value) (K:Value→Prop):Prop :=
  match oneCell v with
  | true=>K v
  | false=>False
def opT (n:Nat) (v:Value) (K:List Value→Prop):Prop :=
  match v with
  | .tuple vs=>(match decide (vs.toList.length=n) with
    | true=>K vs.toList
    | false=>False)
  | _=>False
def opA (n:Nat) (v:Value) (K:List Value→Prop):Prop :=
  match v with
  | .agg vs=>(match decide (vs.toList.length=n) with
    | true=>K vs.toList
    | false=>False)
  | _=>False

def AH.cell (H:AH) (i k:Nat):Option Value :=
  match H.cells i with
  | some cs=>cs[k]?
  | none=>none

def ldV (i k:Nat) (H:AH) (K:Value→Prop):Prop :=
  match H.cell i k with
  | some v=>K v
  | none=>False
def ldI (kd:IntKind) (i k:Nat) (H:AH) (K:Int→Prop):Prop:=ldV i k H fun v=>opI kd v K
def ldS (i k:Nat) (H:AH) (K:ByteArray→Prop):Prop:=ldV i k H fun v=>opS v K
def ldB (i k:Nat) (H:AH) (K:Bool→Prop):Prop:=ldV i k H fun v=>opB v K
def ldP (i k:Nat) (H:AH) (K:Option Addr→Prop):Prop:=ldV i k H fun v=>opP v K
def ldL (i k:Nat) (H:AH) (K:Option Addr→Nat→Nat→Prop):Prop:=ldV i k H fun v=>opL v K
def ldM (i k:Nat) (H:AH) (K:Option Nat→Prop):Prop:=ldV i k H fun v=>opM v K
def ldA (i k:Nat) (H:AH) (K:Value→Prop):Prop:=ldV i k H fun v=>opV v K

def wPt (a:Option Addr) (K:Nat→Nat→Prop):Prop :=
  match a with
  | some ⟨i, k, none⟩=>K i k
  | _=>False
def wSt (i k:Nat) (vs:List Value) (H:AH) (K:AH→Prop):Prop :=
  match H.get i with
  | some (.row cs e)=>k + vs.length≤cs.length∧K (H.set i (.row (setCells cs k vs) e))
  | _=>False
def wNew (cs:List Value) (H:AH) (K:Nat→AH→Prop):Prop:=K H.next (H.push (.row cs 0))
def wNewT (t:TypeId) (cs:List Value) (H:AH) (K:Nat→AH→Prop):Prop:=K H.next (H.pushT (.row cs 0) (some t))
def wIx (b:Option Addr) (l esz:Nat) (n:Int) (K:Nat→Nat→Prop):Prop :=
  match b with
  | some ⟨i, k, none⟩=>0≤n∧n<l∧K i (k + n.toNat * esz)
  | _=>False
def wIxS (s:ByteArray) (n:Int) (K:Int→Prop):Prop:=0≤n∧n<s.size∧K ((s.data.toList.getD n.toNat 0).toNat:Int)
def wSlS (s:ByteArray) (lo hi:Int) (K:ByteArray→Prop):Prop:=0≤lo∧lo≤hi∧hi≤s.size∧K (s.extract lo.toNat hi.toNat)
def wSl (esz:Nat) (b:Option Addr) (len c:Nat) (lo hi:Int) (H:AH) (K:Option Addr→Nat→Nat→Prop):Prop :=
  match b with
  | none=>len=0∧c=0∧lo=0∧hi=0∧K none 0 0
  | some ⟨i, k, none⟩=>0≤lo∧lo≤hi∧hi≤len∧c=0∧(∃ cs, (H.get i=some (.row cs esz)∨H.get i=some (.ro cs esz))∧k + len * esz≤cs.length) ∧
      K (some ⟨i, k + lo.toNat * esz, none⟩) (hi - lo).toNat 0
  | _=>False
def wSl3 (esz:Nat) (b:Option Addr) (len c:Nat) (lo hi mx:Int) (H:AH) (K:Option Addr→Nat→Nat→Prop):Prop :=
  match b with
  | none=>len=0∧c=0∧lo=0∧hi=0∧mx=0∧K none 0 0
  | some ⟨i, k, none⟩=>0≤lo∧lo≤hi∧hi≤len∧hi≤mx∧mx≤len∧c=0∧(∃ cs, (H.get i=some (.row cs esz)∨H.get i=some (.ro cs esz))∧k + len * esz≤cs.length) ∧
      K (some ⟨i, k + lo.toNat * esz, none⟩) (hi - lo).toNat ((mx - lo).toNat + 1)
  | _=>False
def wCat (a b:ByteArray) (K:ByteArray→Prop):Prop:=a.size + b.size≤9223372036854775807∧K (a ++ b)
def wS2B (s:ByteArray) (H:AH) (K:Nat→AH→Prop):Prop:=s.size≤140737488355328∧K H.next (H.push (.row (byteCells s) 1))
def wB2S (b:Option Addr) (len c:Nat) (H:AH) (K:ByteArray→Prop):Prop :=
  match sliceCells H 1 (.slice b len c) with
  | some cs=>cs.all isByte=true∧K (bytesOfCells cs)
  | none=>False
def wApp (e:TypeId) (esz by_:Nat) (b:Option Addr) (len c:Nat) (new:List Value) (n:Nat) (H:AH) (K:Option Addr→Nat→Nat→AH→Prop):Prop :=
  new.length=n * esz∧(new.all oneCell)=true ∧
  match b with
  | none=>len=0∧c=0 ∧
    match n with
    | 0=>K none 0 0 H
    | n + 1=>(n + 1) * by_≤140737488355328∧n + 1≤9223372036854775807∧K (some ⟨H.next, 0, none⟩) (n + 1) 0 (H.pushT (.row new esz) (some e))
  | some ⟨i, k, none⟩=>(c=0 ∧
    match H.get i with
    | some (.row cs es)=>es=esz∧k + len * es=cs.length∧(len + n) * by_≤140737488355328∧(len + n)≤9223372036854775807 ∧
        K (some ⟨H.next, 0, none⟩) (len + n) 0 ((H.drop i).pushT (.row (cs.drop k ++ new) es) (grownTy k (H.tys i) e))
    | _=>False)∨(c=len + 1 ∧
    match sliceCells H esz (.slice (some ⟨i, k, none⟩) len (len + 1)) with
    | some old =>
      match n with
      | 0=>K (some ⟨i, k, none⟩) len (len + 1) H
      | n + 1=>(len + (n + 1)) * by_≤140737488355328∧len + (n + 1)≤9223372036854775807∧K (some ⟨H.next, 0, none⟩) (len + (n + 1)) 0 (H.push (.row (old ++ new) esz))
    | none=>False)
  | _=>False
def wAppL (e:TypeId) (esz by_:Nat) (b:Option Addr) (len c:Nat) (b2:Option Addr) (len2 c2:Nat) (H:AH) (K:Option Addr→Nat→Nat→AH→Prop):Prop :=
  match sliceCells H esz (.slice b2 len2 c2) with
  | some new=>wApp e esz by_ b len c new len2 H K
  | none=>False
def wAppS (e:TypeId) (by_:Nat) (b:Option Addr) (len c:Nat) (s:ByteArray) (H:AH) (K:Option Addr→Nat→Nat→AH→Prop):Prop:=wApp e 1 by_ b len c (byteCells s) s.size H K
def wBs (cs:List Value) (esz:Nat) (H:AH) (K:Nat→AH→Prop):Prop:=K H.next (H.push (.row cs esz))
def wLenM (m:Option Nat) (H:AH) (K:Int→Prop):Prop :=
  match m with
  | none=>K 0
  | some i=>match H.get i with
    | some (.map es _)=>K es.length
    | _=>False
def wCall (P:Program) (f:FuncId) (args:List Value) (H:AH) (K Kp:KV):Prop:=ACall P f args H fun
  | .ret v, H'=>K v H'
  | .panic v, H'=>Kp v H'
def wCallV (P:Program) (f:Value) (args:List Value) (H:AH) (K Kp:KV):Prop:=aCall P f args H K Kp
def wEqP (a b:Option Addr) (K:Bool→Prop):Prop :=
  match b with
  | none=>K a.isNone
  | some _=>(match a with
    | none=>K false
    | some _=>False)
def wNilI (v:Value) (K:Bool→Prop):Prop :=
  match v with
  | .nilIface=>K true
  | .iface _ _=>K false
  | _=>False

def wMk (zc:List Value) (esz by_:Nat) (l c:Int) (H:AH) (K:Nat→AH→Prop):Prop :=
  0≤l∧l≤c∧(by_:Int) * c≤281474976710656∧c≤9223372036854775807∧K H.next (H.push (.row (repl zc l.toNat) esz))
def wCpL (esz:Nat) (b:Option Addr) (d c:Nat) (b2:Option Addr) (n2 c2:Nat) (H:AH) (K:Int→AH→Prop):Prop :=
  aCopy esz (.slice b d c) (.slice b2 n2 c2) H fun v H'=>opI .i64 v fun n=>K n H'
def wCpS (b:Option Addr) (d c:Nat) (s:ByteArray) (H:AH) (K:Int→AH→Prop):Prop :=
  aCopy 1 (.slice b d c) (.string s) H fun v H'=>opI .i64 v fun n=>K n H'
def PinOK (o k:Nat) (cells:List Value) (H:AH):Prop:=∃ l, H.cells o=some l∧k + cells.length≤l.length∧(l.drop k).take cells.length=cells
def wPin (o k:Nat) (cells:List Value) (H:AH) (K:Prop):Prop:=PinOK o k cells H∧K

def tag0:Unit:=(fun _=>()) (ldV, ldI, ldS, ldB, ldP, ldL, ldM, ldA, opI, opS, opB, opP, opL, opM, opV, opT, opA, wPt, wSt, wNew, wNewT, wIx, wIxS, wSlS, wSl, wSl3, wCat, wS2B, wB2S, wApp, wAppL, wAppS, wSi, wNx, wLk, wMu, wMe, wEs, wDl, wMm, wMr, wMn, wEn, wBs, wLenM, wCall, wCallV, wEqP, wNilI, wPin, wMk, wCpL, wCpS)
def hold (x:Prop):Prop:=(fun (_:Unit)=>x) tag0
theorem hold_eq (x:Prop):hold x=x:=rfl
def tagA:Unit:=(fun (_:Unit × (Prop→Prop))=>()) (tag0, hold)
def wIfE (A B:Prop) (b:Bool):Prop:=(fun (_:Unit)=>match b with
  | true=>A
  | false=>B) tagA
abbrev wIf (b:Bool) (A B:Prop):Prop:=wIfE A B b
def tagB:Unit:=(fun (_:Unit × (Prop→Prop→Bool→Prop))=>()) (tagA, wIfE)
def wNzE (K:Prop) (b:Int):Prop:=(fun (_:Unit)=>match decide (b=0) with
  | true=>False
  | false=>K) tagB
def wNnE (K:Prop) (b:Int):Prop:=(fun (_:Unit)=>match decide (b<0) with
  | true=>False
  | false=>K) tagB
abbrev wNz (b:Int) (K:Prop):Prop:=wNzE K b
abbrev wNn (b:Int) (K:Prop):Prop:=wNnE K b
def wSt_ (b:Bool) (K:Prop):Prop:=(fun (_:Unit)=>match b with
  | true=>K
  | false=>False) tagB

theorem wSt_of {b:Bool} {K:Prop} (h:wSt_ b K):b=true∧K:=by
  unfold wSt_ at h
  cases b with
  | true=>exact ⟨rfl, h⟩
  | false=>exact h.elim
theorem wNz_of {b:Int} {K:Prop} (h:wNz b K):b ≠ 0∧K:=by
  unfold wNz wNzE at h
  by_cases e:b=0
  · simp [e] at h
  · simp [e] at h; exact ⟨e, h⟩
theorem wNn_of {b:Int} {K:Prop} (h:wNn b K):0≤b∧K:=by
  unfold wNn wNnE at h
  by_cases e:b<0
  · simp [e] at h
  · simp [e] at h; exact ⟨by omega, h⟩

def opn (c:CK) (v:Value) (K:Value→Prop):Prop:=wSt_ true <|
  match c with
  | .int k=>opI k v fun n=>K (.int k n)
  | .str=>opS v fun s=>K (.string s)
  | .bool=>opB v fun b=>K (.bool b)
  | .ptr=>opP v fun a=>K (.pointer a)
  | .slice=>opL v fun a l c=>K (.slice a l c)
  | .map=>opM v fun m=>K (.map m)
  | .any=>opV v K
def ld1 (c:CK) (i k:Nat) (H:AH) (K:Value→Prop):Prop:=wSt_ true <|
  match c with
  | .int kd=>ldI kd i k H fun n=>K (.int kd n)
  | .str=>ldS i k H fun s=>K (.string s)
  | .bool=>ldB i k H fun b=>K (.bool b)
  | .ptr=>ldP i k H fun a=>K (.pointer a)
  | .slice=>ldL i k H fun a l c=>K (.slice a l c)
  | .map=>ldM i k H fun m=>K (.map m)
  | .any=>ldA i k H K
def ldN:List CK→Nat→Nat→AH→(List Value→Prop)→Prop
  | [], _, _, _, K=>wSt_ true (K [])
  | c :: cs, i, k, H, K=>ld1 c i k H fun v=>ldN cs i (k + 1) H fun vs=>K (v :: vs)

theorem opn_of {c:CK} {v:Value} {K:Value→Prop} (h:opn c v K):K v:=by
  replace h:=(wSt_of h).2
  cases c <;> simp only at h
  · unfold opI at h; split at h
    · rename_i k n
      split at h
      · rename_i e; have:=of_decide_eq_true e; subst this; exact h
      · exact h.elim
    · exact h.elim
  · unfold opS at h; split at h
    · exact h
    · exact h.elim
  · unfold opB at h; split at h
    · exact h
    · exact h.elim
  · unfold opP at h; split at h
    · exact h
    · exact h.elim
  · unfold opL at h; split at h
    · exact h
    · exact h.elim
  · unfold opM at h; split at h
    · exact h
    · exact h.elim
  · unfold opV at h; split at h
    · exact h
    · exact h.elim
theorem ld1_of {c:CK} {i k:Nat} {H:AH} {K:Value→Prop} (h:ld1 c i k H K):∃ v, H.cell i k=some v∧K v:=by
  have h:ldV i k H fun v=>opn c v K:=by
    have h:=(wSt_of h).2
    cases c <;> exact h
  unfold ldV at h
  split at h
  · rename_i v hv; exact ⟨v, hv, opn_of h⟩
  · exact h.elim
theorem AH.cell_of {H:AH} {i k:Nat} {v:Value} (h:H.cell i k=some v):∃ cs, H.cells i=some cs∧cs[k]?=some v:=by
  unfold AH.cell at h
  split at h
  · rename_i cs hc; exact ⟨cs, hc, h⟩
  · cases h
theorem ldN_of {cs:List CK} {i k:Nat} {H:AH} {K:List Value→Prop} (h:ldN cs i k H K) (hne:cs ≠ []):∃ l, H.cells i=some l∧k + cs.length≤l.length∧K ((l.drop k).take cs.length):=by
  induction cs generalizing k K with
  | nil=>exact absurd rfl hne
  | cons c cs ih =>
    simp only [ldN] at h
    obtain ⟨v, h1, h2⟩:=ld1_of h
    obtain ⟨l, h3, h4⟩:=AH.cell_of h1
    have hk:k<l.length:=(List.getElem?_eq_some_iff.1 h4).1
    have hv:l[k]=v:=(List.getElem?_eq_some_iff.1 h4).2
    refine ⟨l, h3, ?_⟩
    by_cases hc:cs=[]
    · subst hc
      have h2:=(wSt_of h2).2
      refine ⟨by simp only [List.length_cons, List.length_nil]; omega, ?_⟩
      rw [List.drop_eq_getElem_cons hk, hv]
      simpa using h2
    · obtain ⟨l', g1, g2, g3⟩:=ih h2 hc
      rw [h3] at g1; cases g1
      refine ⟨by simp only [List.length_cons]; omega, ?_⟩
      rw [List.drop_eq_getElem_cons hk, hv, List.length_cons, List.take_succ_cons]
      exact g3

def rigidK:CK→Bool
  | .int _ | .str | .bool | .ptr | .map=>true
  | _=>false
def rigid1:Value→Bool
  | .bool _ | .int _ _ | .string _ | .pointer _ | .map _=>true
  | _=>false
theorem opn_rigid {c:CK} {v:Value} {K:Value→Prop} (h:opn c v K) (hc:rigidK c=true):rigid1 v=true:=by
  replace h:=(wSt_of h).2
  cases c <;> simp only [rigidK] at hc <;> simp only at h
  · unfold opI at h; split at h
    · rfl
    · exact h.elim
  · unfold opS at h; split at h
    · rfl
    · exact h.elim
  · unfold opB at h; split at h
    · rfl
    · exact h.elim
  · unfold opP at h; split at h
    · rfl
    · exact h.elim
  · cases hc
  · unfold opM at h; split at h
    · rfl
    · exact h.elim
  · cases hc
theorem ld1_of2 {c:CK} {i k:Nat} {H:AH} {K:Value→Prop} (h:ld1 c i k H K):∃ v, H.cell i k=some v∧K v∧(rigidK c=true→rigid1 v=true):=by
  have h:ldV i k H fun v=>opn c v K:=by
    have h:=(wSt_of h).2
    cases c <;> exact h
  unfold ldV at h
  split at h
  · rename_i v hv; exact ⟨v, hv, opn_of h, opn_rigid h⟩
  · exact h.elim
theorem ldN_of4 {cs:List CK} {i k:Nat} {H:AH} {K:List Value→Prop} (h:ldN cs i k H K) (hne:cs ≠ []):∃ l, H.cells i=some l∧k + cs.length≤l.length∧K ((l.drop k).take cs.length) ∧
    (cs.all rigidK=true→((l.drop k).take cs.length).all rigid1=true):=by
  induction cs generalizing k K with
  | nil=>exact absurd rfl hne
  | cons c cs ih =>
    simp only [ldN] at h
    obtain ⟨v, h1, h2, h5⟩:=ld1_of2 h
    obtain ⟨l, h3, h4⟩:=AH.cell_of h1
    have hk:k<l.length:=(List.getElem?_eq_some_iff.1 h4).1
    have hv:l[k]=v:=(List.getElem?_eq_some_iff.1 h4).2
    refine ⟨l, h3, ?_⟩
    rw [List.drop_eq_getElem_cons hk, hv, List.length_cons, List.take_succ_cons]
    by_cases hc:cs=[]
    · subst hc
      have h2:=(wSt_of h2).2
      refine ⟨by simp only [List.length_nil]; omega, by simpa using h2, fun hr=>?_⟩
      simp only [List.all_cons, List.all_nil, Bool.and_true] at hr
      simp [h5 hr]
    · obtain ⟨l', g1, g2, g3, g4⟩:=ih h2 hc
      rw [h3] at g1; cases g1
      refine ⟨by omega, g3, fun hr=>?_⟩
      simp only [List.all_cons, Bool.and_eq_true] at hr ⊢
      exact ⟨h5 hr.1, g4 hr.2⟩

/-! The operations. -/
def wLoad (P:Program) (t:TypeId) (x:Value) (H:AH) (K:Value→Prop):Prop :=
  match x with
  | .pointer a=>wPtr a
  | _=>False
where wPtr (a:Option Addr):Prop :=
  wSt_ (tyOK P t) (wPt a fun i k=>match isStruct P t with
    | true=>(match cks P 20 t with
      | []=>False
      | c :: cs=>wSt_ (decide ((c :: cs).length=P.cellsOf t)) (ldN (c :: cs) i k H fun l=>K (.agg l.toArray)))
    | false=>ldN (cks P 20 t) i k H fun l=>match l with
      | [v]=>K v
      | _=>False)

theorem wPt_of {a:Option Addr} {K:Nat→Nat→Prop} (h:wPt a K):∃ i k, a=some ⟨i, k, none⟩∧K i k:=by
  unfold wPt at h
  split at h
  · exact ⟨_, _, rfl, h⟩
  · exact h.elim
theorem wLoad_of {P:Program} {t:TypeId} {x:Value} {H:AH} {K:Value→Prop} (h:wLoad P t x H K):aLoad P t x H K:=by
  unfold wLoad at h
  split at h
  · rename_i a
    unfold wLoad.wPtr at h
    obtain ⟨ht, h⟩:=wSt_of h
    obtain ⟨i, k, rfl, h⟩:=wPt_of h
    unfold aLoad
    split at h
    · rename_i hs
      split at h
      · exact h.elim
      · rename_i c cs hc
        obtain ⟨hl, h⟩:=wSt_of h
        have hl:=of_decide_eq_true hl
        obtain ⟨l, h1, h2, h3⟩:=ldN_of h (by simp)
        simp only [h1, hs]
        rw [hl] at h2 h3
        exact ⟨h2, ht, h3⟩
    · rename_i hs
      by_cases hne:cks P 20 t=[]
      · rw [hne] at h; exact False.elim (wSt_of (show wSt_ true False from h)).2
      · obtain ⟨l, h1, h2, h3⟩:=ldN_of h hne
        simp only [h1, hs]
        refine ⟨ht, ?_⟩
        split at h3
        · rename_i v hv
          have:l[k]?=some v:=by
            have:=congrArg (fun l=>l[0]?) hv
            simp only [List.getElem?_take, List.getElem?_drop] at this
            rw [if_pos (by have:=List.length_pos_iff.2 hne; omega)] at this
            simpa using this
          rw [this]; exact h3
        · exact h3.elim
  · exact h.elim

def pinCells (P:Program) (t:TypeId) (v:Value):List Value :=
  match isStruct P t with
  | true=>v.cells.toList
  | false=>[v]
theorem wLoad_pin {P:Program} {t:TypeId} {x:Value} {H:AH} {K:Value→Prop} (h:wLoad P t x H K) :
    ∃ o k v, x=.pointer (some ⟨o, k, none⟩)∧K v∧PinOK o k (pinCells P t v) H∧(∀ H', PinOK o k (pinCells P t v) H'→aLoad P t x H' (·=v)) ∧
      ((cks P 20 t).all rigidK=true→(pinCells P t v).all rigid1=true∧(v=.agg (pinCells P t v).toArray∨[v]=pinCells P t v)):=by
  unfold wLoad at h
  split at h
  · rename_i a
    unfold wLoad.wPtr at h
    obtain ⟨ht, h⟩:=wSt_of h
    obtain ⟨o, k, ha, h⟩:=wPt_of h
    subst ha
    refine ⟨o, k, ?_⟩
    split at h
    · rename_i hs
      split at h
      · exact h.elim
      · rename_i c cs hc
        obtain ⟨hl, h⟩:=wSt_of h
        have hl:=of_decide_eq_true hl
        obtain ⟨l, h1, h2, h3, h4⟩:=ldN_of4 h (by simp)
        rw [hl] at h2 h3 h4
        refine ⟨_, rfl, h3, ?_, fun H' hp=>?_, fun hr=>⟨by simp only [pinCells, hs, Value.cells]; exact h4 (by rw [← hc]; exact hr), .inl (by simp only [pinCells, hs, Value.cells])⟩⟩
        · simp only [PinOK, pinCells, hs, Value.cells]
          refine ⟨l, h1, ?_, ?_⟩
          · simp; omega
          · simp [List.length_drop]
        · obtain ⟨l', g1, g2, g3⟩:=hp
          simp only [pinCells, hs, Value.cells] at g2 g3
          have e:(((l.drop k).take (P.cellsOf t)).toArray.toList).length=P.cellsOf t:=by simp; omega
          rw [e] at g2 g3
          simp only [aLoad, g1, hs]
          exact ⟨g2, ht, by rw [g3]⟩
    · rename_i hs
      by_cases hne:cks P 20 t=[]
      · rw [hne] at h; exact False.elim (wSt_of (show wSt_ true False from h)).2
      · obtain ⟨l, h1, h2, h3, h4⟩:=ldN_of4 h hne
        split at h3
        · rename_i v hv
          have hk:l[k]?=some v:=by
            have:=congrArg (fun l=>l[0]?) hv
            simp only [List.getElem?_take, List.getElem?_drop] at this
            rw [if_pos (by have:=List.length_pos_iff.2 hne; omega)] at this
            simpa using this
          have hlt:=(List.getElem?_eq_some_iff.1 hk).1
          have hget:=(List.getElem?_eq_some_iff.1 hk).2
          refine ⟨v, rfl, h3, ?_, fun H' hp=>?_, fun hr=>⟨by simp only [pinCells, hs]; rw [← hv]; exact h4 hr, .inr (by simp only [pinCells, hs])⟩⟩
          · simp only [PinOK, pinCells, hs]
            refine ⟨l, h1, by simp only [List.length_cons, List.length_nil]; omega, ?_⟩
            rw [List.drop_eq_getElem_cons hlt, hget]
            simp
          · obtain ⟨l', g1, g2, g3⟩:=hp
            simp only [pinCells, hs, List.length_cons, List.length_nil] at g2 g3
            have g4:l'[k]?=some v:=by
              have:=congrArg (fun l=>l[0]?) g3
              simpa [List.getElem?_take, List.getElem?_drop] using this
            simp only [aLoad, g1, hs, g4]
            exact ⟨ht, trivial⟩
        · exact h3.elim
  · exact h.elim

def wStore (P:Program) (t:TypeId) (x v:Value) (H:AH) (K:AH→Prop):Prop :=
  match x with
  | .pointer a=>wSt_ (tyOK P t && decide (v.cells.toList.length=P.cellsOf t) && v.cells.toList.all oneCell) (wPt a fun i k=>wSt i k v.cells.toList H K)
  | _=>False
theorem wStore_of {P:Program} {t:TypeId} {x v:Value} {H:AH} {K:AH→Prop} (h:wStore P t x v H K):aStore P t x v H K:=by
  unfold wStore at h
  split at h
  · rename_i a
    obtain ⟨ht, h⟩:=wSt_of h
    obtain ⟨i, k, ha, h'⟩:=wPt_of h
    subst ha
    simp only [Bool.and_eq_true, decide_eq_true_eq, Array.length_toList] at ht
    unfold wSt at h'
    unfold aStore
    split at h'
    · rename_i cs e hg
      simp only [hg]
      simp only [Array.length_toList] at h'
      exact ⟨ht.1.1, ht.1.2, h'.1, ht.2, h'.2⟩
    · exact h'.elim
  · exact h.elim

def wNewV (v:Value) (H:AH) (K:KV):Prop:=wSt_ (v.cells.toList.all oneCell) (wNew v.cells.toList H fun i H'=>K (.pointer (some ⟨i, 0, none⟩)) H')
theorem wNewV_of {v:Value} {H:AH} {K:KV} (h:wNewV v H K):aNew v H K:=by
  obtain ⟨h1, h2⟩:=wSt_of h
  exact ⟨h1, h2⟩
def wNewVT (P:Program) (t:TypeId) (v:Value) (H:AH) (K:KV):Prop :=
  match isBld P t with
  | true=>wSt_ (v.cells.toList.all oneCell) (wNewT t v.cells.toList H fun i H'=>K (.pointer (some ⟨i, 0, none⟩)) H')
  | false=>wNewV v H K
theorem wNewVT_of {P:Program} {t:TypeId} {v:Value} {H:AH} {K:KV} (h:wNewVT P t v H K):aNewT P t v H K:=by
  unfold wNewVT at h
  unfold aNewT
  split at h
  · rename_i e
    obtain ⟨h1, h2⟩:=wSt_of h
    rw [e]
    exact ⟨h1, h2⟩
  · rename_i e
    rw [e]
    exact wNewV_of h
def wAlloc (P:Program) (t:TypeId) (H:AH) (K:KV):Prop :=
  match (P.info? t).bind (·.zero) with
  | some z=>wSt_ (constOK z) (wNewVT P t z H K)
  | none=>False
theorem wAlloc_of {P:Program} {t:TypeId} {H:AH} {K:KV} (h:wAlloc P t H K):aAlloc P t H K:=by
  unfold wAlloc at h
  unfold aAlloc
  split at h
  · rename_i z hz
    obtain ⟨h1, h2⟩:=wSt_of h
    simp only [hz]
    exact ⟨h1, wNewVT_of h2⟩
  · exact h.elim

def wField (P:Program) (t:TypeId) (x:Value) (n:Nat) (K:Value→Prop):Prop :=
  match P.underlying t with
  | some (.struct fs) =>
    match fs[n]? with
    | some f =>
      match x with
      | .pointer a=>wSt_ (tyOK P f.type && decide (P.cellsOf f.type ≠ 0)) (wPt a fun i k=>K (.pointer (some ⟨i, k + f.offset, none⟩)))
      | _=>False
    | none=>False
  | _=>False
theorem wField_of {P:Program} {t:TypeId} {x:Value} {n:Nat} {K:Value→Prop} (h:wField P t x n K):aField P t x n K:=by
  unfold wField at h
  unfold aField
  split at h
  · rename_i fs hfs
    simp only [hfs]
    split at h
    · rename_i f hf
      simp only [hf]
      split at h
      · obtain ⟨h1, h2⟩:=wSt_of h
        obtain ⟨i, k, rfl, h2⟩:=wPt_of h2
        simp only [Bool.and_eq_true, decide_eq_true_eq] at h1
        exact ⟨h1.1, h1.2, h2⟩
      · exact h.elim
    · exact h.elim
  · exact h.elim

def wPart (P:Program) (t:TypeId) (cs:Array Value) (off:Nat) (K:Value→Prop):Prop :=
  match isStruct P t with
  | true=>wSt_ (tyOK P t) (K (.agg ((cs.toList.drop off).take (P.cellsOf t)).toArray))
  | false=>wSt_ (tyOK P t) (match cs.toList[off]? with
    | some v=>K v
    | none=>False)
theorem wPart_of {P:Program} {t:TypeId} {cs:Array Value} {off:Nat} {K:Value→Prop} (h:wPart P t cs off K):aPart P t cs off K:=by
  unfold wPart at h
  unfold aPart
  split at h
  · rename_i hs
    obtain ⟨h1, h2⟩:=wSt_of h
    simp only [hs]
    refine ⟨h1, ?_⟩
    have:cs.extract off (off + P.cellsOf t)=((cs.toList.drop off).take (P.cellsOf t)).toArray:=by
      apply Array.ext'
      rw [Array.toList_extract, List.extract_eq_take_drop]
      simp
    rw [this]; exact h2
  · rename_i hs
    obtain ⟨h1, h2⟩:=wSt_of h
    simp only [hs]
    refine ⟨h1, ?_⟩
    rw [Array.getElem?_toList] at h2
    exact h2
def wFieldOf (P:Program) (t:TypeId) (x:Value) (n:Nat) (K:Value→Prop):Prop :=
  match P.underlying t with
  | some (.struct fs) =>
    match fs[n]? with
    | some f =>
      match x with
      | .agg cs=>wPart P f.type cs f.offset K
      | _=>False
    | none=>False
  | _=>False
theorem wFieldOf_of {P:Program} {t:TypeId} {x:Value} {n:Nat} {K:Value→Prop} (h:wFieldOf P t x n K):aFieldOf P t x n K:=by
  unfold wFieldOf at h
  unfold aFieldOf
  split at h
  · rename_i fs hfs
    simp only [hfs]
    split at h
    · rename_i f hf
      simp only [hf]
      split at h
      · exact wPart_of h
      · exact h.elim
    · exact h.elim
  · exact h.elim

def wNil (x:Value) (K:Value→Prop):Prop:=wSt_ true <|
  match x with
  | .pointer a=>wPt a fun i k=>K (.pointer (some ⟨i, k, none⟩))
  | _=>False
theorem wNil_of {x:Value} {K:Value→Prop} (h:wNil x K):aNilCheck x K:=by
  unfold wNil at h
  replace h:=(wSt_of h).2
  split at h
  · obtain ⟨i, k, rfl, h⟩:=wPt_of h; exact h
  · exact h.elim

def wExtract (x:Value) (n:Nat) (K:Value→Prop):Prop:=wSt_ true <|
  match x with
  | .tuple vs=>(match vs.toList[n]? with
    | some v=>K v
    | none=>False)
  | _=>False
theorem wSt_t (K:Prop):wSt_ true K=K:=rfl
theorem wExtract_mono {x:Value} {n:Nat} {K K':Value→Prop} (hk:∀ v, K v→K' v) (h:wExtract x n K):wExtract x n K':=by
  unfold wExtract at h ⊢
  rw [wSt_t] at h ⊢
  cases x with
  | tuple vs =>
    dsimp only at h ⊢
    cases hq:vs.toList[n]? with
    | none=>rw [hq] at h; exact h.elim
    | some v=>rw [hq] at h; exact hk _ h
  | _=>exact h.elim
theorem wExtract_of {x:Value} {n:Nat} {K:Value→Prop} (h:wExtract x n K):aExtract x n K:=by
  unfold wExtract at h
  replace h:=(wSt_of h).2
  unfold aExtract
  split at h
  · rw [Array.getElem?_toList] at h; exact h
  · exact h.elim

def wInt (op:BinOp) (k:IntKind) (a b:Int) (K:Value→Prop):Prop:=wSt_ true <|
  match op with
  | .add=>K (.int k (k.wrap (a + b)))
  | .sub=>K (.int k (k.wrap (a - b)))
  | .mul=>K (.int k (k.wrap (a * b)))
  | .quo=>wNz b (K (.int k (k.wrap (a.tdiv b))))
  | .rem=>wNz b (K (.int k (a.tmod b)))
  | .and=>K (.int k (k.wrap ((BitVec.ofInt k.bits a) &&& (BitVec.ofInt k.bits b)).toNat))
  | .or=>K (.int k (k.wrap ((BitVec.ofInt k.bits a) ||| (BitVec.ofInt k.bits b)).toNat))
  | .xor=>K (.int k (k.wrap ((BitVec.ofInt k.bits a) ^^^ (BitVec.ofInt k.bits b)).toNat))
  | .andNot=>K (.int k (k.wrap ((BitVec.ofInt k.bits a) &&& ~~~(BitVec.ofInt k.bits b)).toNat))
  | .eql=>K (.bool (decide (a=b)))
  | .neq=>K (.bool (!decide (a=b)))
  | .lss=>K (.bool (decide (a<b)))
  | .leq=>K (.bool (decide (a≤b)))
  | .gtr=>K (.bool (decide (a > b)))
  | .geq=>K (.bool (decide (a ≥ b)))
  | _=>False
theorem wInt_of {op:BinOp} {k:IntKind} {a b:Int} {K:Value→Prop} (h:wInt op k a b K):aInt op k a b K:=by
  replace h:=(wSt_of h).2
  cases op <;> simp only at h <;> simp only [aInt] <;> first | exact h | exact wNz_of h

def wStr (op:BinOp) (a b:ByteArray) (K:Value→Prop):Prop:=wSt_ true <|
  match op with
  | .add=>wCat a b fun s=>K (.string s)
  | .eql=>K (.bool (decide (a=b)))
  | .neq=>K (.bool (!decide (a=b)))
  | .lss=>K (.bool (Op.bytesLess a.data.toList b.data.toList))
  | .leq=>K (.bool (Op.bytesLess a.data.toList b.data.toList || decide (a=b)))
  | .gtr=>K (.bool (!(Op.bytesLess a.data.toList b.data.toList || decide (a=b))))
  | .geq=>K (.bool (!Op.bytesLess a.data.toList b.data.toList))
  | _=>False
theorem wStr_of {op:BinOp} {a b:ByteArray} {K:Value→Prop} (h:wStr op a b K):aStr op a b K:=by
  replace h:=(wSt_of h).2
  cases op <;> exact h

def isD (P:Program) (t:TypeId) (n:Nat):Bool :=
  match P.underlying t, n with
  | some .bool, 0=>true
  | some (.pointer _), 1=>true
  | some (.slice _), 2=>true
  | some (.map _ _), 3=>true
  | some (.interface _), 4=>true
  | _, _=>false
def isDI (P:Program) (t:TypeId) (k:IntKind):Bool :=
  match P.underlying t with
  | some (.int k')=>decide (k=k')
  | _=>false
def isDS (P:Program) (t:TypeId):Bool :=
  match P.underlying t with
  | some .string=>true
  | _=>false
def isDT (P:Program) (t:TypeId):Bool :=
  match P.underlying t with
  | some (.struct _)=>true
  | _=>false
def wEqF (P:Program):List Field→Nat→List Value→List Value→(Bool→Prop)→Prop
  | [], _, [], [], K=>K true
  | f :: fs, n, .int k a :: xs, .int k' b :: ys, K=>wSt_ (decide (f.offset=n) && decide (f.name ≠ "_") && !isStruct P f.type && isDI P f.type k && decide (k=k')) (wEqF P fs (n + 1) xs ys fun r=>K (decide (a=b) && r))
  | f :: fs, n, .string a :: xs, .string b :: ys, K=>wSt_ (decide (f.offset=n) && decide (f.name ≠ "_") && !isStruct P f.type && isDS P f.type) (wEqF P fs (n + 1) xs ys fun r=>K (decide (a=b) && r))
  | f :: fs, n, .bool a :: xs, .bool b :: ys, K=>wSt_ (decide (f.offset=n) && decide (f.name ≠ "_") && !isStruct P f.type && isD P f.type 0) (wEqF P fs (n + 1) xs ys fun r=>K ((a == b) && r))
  | _, _, _, _, _=>False
theorem isDI_of {P:Program} {t:TypeId} {k:IntKind} (h:isDI P t k=true):P.underlying t=some (.int k):=by
  unfold isDI at h; split at h <;> simp_all
theorem isDS_of {P:Program} {t:TypeId} (h:isDS P t=true):P.underlying t=some .string:=by
  unfold isDS at h; split at h <;> simp_all
theorem isDT_of {P:Program} {t:TypeId} (h:isDT P t=true):P.underlying t=some (.struct (P.fieldsOf t)):=by
  unfold isDT at h
  split at h
  · rename_i fs hfs
    rw [hfs]
    unfold Program.fieldsOf
    rw [hfs]
  · cases h
def wEq (cst:Bool) (P:Program) (t:TypeId) (x y:Value) (K:Bool→Prop):Prop :=
  match x, y with
  | .bool a, .bool b=>wSt_ (isD P t 0) (K (a == b))
  | .pointer a, .pointer b=>wSt_ (isD P t 1) (wEqP a b K)
  | .slice b _ _, .slice none _ _=>wSt_ (isD P t 2) (K b.isNone)
  | .map b, .map none=>wSt_ (isD P t 3) (K b.isNone)
  | v, .nilIface=>wSt_ (cst && isD P t 4) (wNilI v K)
  | .agg xs, .agg ys=>wSt_ (isDT P t && !P.stoodInHeld t && !P.eqGuardType P.depth t) (wEqF P (P.fieldsOf t).toList 0 xs.toList ys.toList K)
  | _, _=>False
theorem isD0 {P:Program} {t:TypeId} (h:isD P t 0=true):P.underlying t=some .bool:=by
  unfold isD at h; split at h <;> simp_all
theorem isD1 {P:Program} {t:TypeId} (h:isD P t 1=true):∃ e, P.underlying t=some (.pointer e):=by
  unfold isD at h; split at h <;> simp_all
theorem isD2 {P:Program} {t:TypeId} (h:isD P t 2=true):∃ e, P.underlying t=some (.slice e):=by
  unfold isD at h; split at h <;> simp_all
theorem isD3 {P:Program} {t:TypeId} (h:isD P t 3=true):∃ k e, P.underlying t=some (.map k e):=by
  unfold isD at h; split at h <;> simp_all
theorem isD4 {P:Program} {t:TypeId} (h:isD P t 4=true):∃ e, P.underlying t=some (.interface e):=by
  unfold isD at h; split at h <;> simp_all

theorem wEqF_of {P:Program}:∀ (fs:List Field) (n:Nat) (xs ys:List Value) (K:Bool→Prop), wEqF P fs n xs ys K→aEqF P fs n xs ys K:=by
  intro fs
  induction fs with
  | nil =>
    intro n xs ys K h
    cases xs <;> cases ys <;> first | exact h | exact False.elim h
  | cons f fs ih =>
    intro n xs ys K h
    cases xs with
    | nil=>exact False.elim h
    | cons x xs =>
      cases ys with
      | nil=>cases x <;> exact False.elim h
      | cons y ys =>
        cases x <;> cases y <;> first
          | exact False.elim h
          | (obtain ⟨h1, h2⟩:=wSt_of (show wSt_ _ _ from h)
             simp only [Bool.and_eq_true, decide_eq_true_eq, Bool.not_eq_true'] at h1
             obtain ⟨⟨⟨⟨g1, g2⟩, g3⟩, g4⟩, g5⟩:=h1
             exact ⟨⟨g1, g2, g3, isDI_of g4, g5⟩, ih _ _ _ _ h2⟩)
          | (obtain ⟨h1, h2⟩:=wSt_of (show wSt_ _ _ from h)
             simp only [Bool.and_eq_true, decide_eq_true_eq, Bool.not_eq_true'] at h1
             obtain ⟨⟨⟨g1, g2⟩, g3⟩, g4⟩:=h1
             exact ⟨⟨g1, g2, g3, isDS_of g4⟩, ih _ _ _ _ h2⟩)
          | (obtain ⟨h1, h2⟩:=wSt_of (show wSt_ _ _ from h)
             simp only [Bool.and_eq_true, decide_eq_true_eq, Bool.not_eq_true'] at h1
             obtain ⟨⟨⟨g1, g2⟩, g3⟩, g4⟩:=h1
             exact ⟨⟨g1, g2, g3, isD0 g4⟩, ih _ _ _ _ h2⟩)
theorem wEq_of {cst:Bool} {P:Program} {t:TypeId} {x y:Value} {K:Bool→Prop} (h:wEq cst P t x y K):aEq cst P t x y K:=by
  unfold wEq at h
  split at h
  · obtain ⟨h1, h2⟩:=wSt_of h
    exact ⟨isD0 h1, h2⟩
  · rename_i a b
    obtain ⟨h1, h2⟩:=wSt_of h
    unfold wEqP at h2
    cases a with
    | none =>
      cases b with
      | none=>exact ⟨isD1 h1, h2⟩
      | some b=>exact ⟨isD1 h1, h2⟩
    | some a =>
      cases b with
      | none=>exact ⟨isD1 h1, h2⟩
      | some b=>exact h2.elim
  · rename_i b _ _ _ _
    obtain ⟨h1, h2⟩:=wSt_of h
    cases b with
    | none=>exact ⟨isD2 h1, h2⟩
    | some b=>exact ⟨isD2 h1, h2⟩
  · rename_i b
    obtain ⟨h1, h2⟩:=wSt_of h
    cases b with
    | none=>exact ⟨isD3 h1, h2⟩
    | some b=>exact ⟨isD3 h1, h2⟩
  · obtain ⟨h1, h2⟩:=wSt_of h
    rw [Bool.and_eq_true] at h1
    unfold wNilI at h2
    split at h2
    · exact ⟨h1.1, isD4 h1.2, h2⟩
    · exact ⟨isD4 h1.2, h2⟩
    · exact h2.elim
  · obtain ⟨h1, h2⟩:=wSt_of h
    simp only [Bool.and_eq_true, Bool.not_eq_true'] at h1
    exact ⟨isDT_of h1.1.1, h1.1.2, h1.2, wEqF_of _ _ _ _ _ h2⟩
  · exact h.elim

def wBin (cst:Bool) (P:Program) (op:BinOp) (t:TypeId) (x y:Value) (K:Value→Prop):Prop :=
  match op, x, y with
  | .shl, .int k a, .int _ b=>wNn b (K (.int k (k.wrap (a * 2 ^ (min b.toNat k.bits)))))
  | .shr, .int k a, .int _ b=>wNn b (K (.int k (a.fdiv (2 ^ (min b.toNat k.bits)))))
  | op, .int k a, .int k' b=>wSt_ (decide (k=k')) (wInt op k a b K)
  | op, .string a, .string b=>wStr op a b K
  | .eql, x, y=>wEq cst P t x y fun b=>K (.bool b)
  | .neq, x, y=>wEq cst P t x y fun b=>K (.bool (!b))
  | _, _, _=>False
theorem wBin_of {cst:Bool} {P:Program} {op:BinOp} {t:TypeId} {x y:Value} {K:Value→Prop} (h:wBin cst P op t x y K):aBin cst P op t x y K:=by
  cases op <;> cases x <;> cases y <;> first
    | exact False.elim h
    | (simp only [wBin] at h; first
      | exact wNn_of h
      | (have h':=wSt_of h; have e:=of_decide_eq_true h'.1; subst e; exact ⟨rfl, wInt_of h'.2⟩)
      | exact wStr_of h
      | exact wEq_of (K:=fun b=>K (.bool b)) h
      | exact wEq_of (K:=fun b=>K (.bool (!b))) h)

def wUn (op:UnOp) (x:Value) (K:Value→Prop):Prop:=wSt_ true <|
  match op, x with
  | .neg, .int k n=>K (.int k (k.wrap (0 - n)))
  | .xor, .int k n=>K (.int k (k.wrap ((BitVec.ofInt k.bits (if k.signed then -1 else k.max)) ^^^ (BitVec.ofInt k.bits n)).toNat))
  | .not, .bool b=>K (.bool (!b))
  | _, _=>False
theorem wUn_of {op:UnOp} {x:Value} {K:Value→Prop} (h:wUn op x K):aUn op x K:=by
  replace h:=(wSt_of h).2
  cases op <;> cases x <;> first | exact False.elim h | exact h

def wConvert (P:Program) (src dst:TypeId) (x:Value) (H:AH) (K:KV):Prop :=
  match x with
  | .int _ n=>(match P.underlying dst with
    | some (.int k)=>wSt_ (tyOK P src && (P.underlying src).isSome) (K (.int k (k.wrap n)) H)
    | _=>False)
  | .string s=>(match P.underlying dst with
    | some .string=>wSt_ (P.underlying src).isSome (K (.string s) H)
    | some (.slice e)=>wSt_ ((match P.underlying src with | some .string=>true | _=>false) && tyOK P e && (match P.underlying e with | some (.int .u8)=>true | _=>false))
        (wS2B s H fun i H'=>K (.slice (some ⟨i, 0, none⟩) s.size 0) H')
    | _=>False)
  | .slice a l c=>(match P.underlying dst with
    | some .string=>wSt_ (match P.underlying src with
        | some (.slice e)=>(match P.underlying e with | some (.int .u8)=>true | _=>false)
        | _=>false) (wB2S a l c H fun s=>K (.string s) H)
    | _=>False)
  | _=>False
theorem wConvert_of {P:Program} {src dst:TypeId} {x:Value} {H:AH} {K:KV} (h:wConvert P src dst x H K):aConvert P src dst x H K:=by
  unfold wConvert at h
  unfold aConvert
  split at h
  · split at h
    · rename_i hd
      obtain ⟨h1, h2⟩:=wSt_of h
      simp only [Bool.and_eq_true] at h1
      simp only [hd]
      exact ⟨h1.1, h1.2, h2⟩
    · exact h.elim
  · split at h
    · rename_i hd
      obtain ⟨h1, h2⟩:=wSt_of h
      simp only [hd]
      exact ⟨h1, h2⟩
    · rename_i e hd
      obtain ⟨h1, h2⟩:=wSt_of h
      simp only [Bool.and_eq_true] at h1
      simp only [hd]
      refine ⟨?_, h1.1.2, ?_, h2.1, h2.2⟩
      · have:=h1.1.1
        split at this
        · assumption
        · cases this
      · have:=h1.2
        split at this
        · assumption
        · cases this
    · exact h.elim
  · split at h
    · rename_i hd
      obtain ⟨h1, h2⟩:=wSt_of h
      simp only [hd]
      refine ⟨?_, ?_⟩
      · split at h1
        · rename_i e he
          split at h1
          · exact ⟨e, he, by assumption⟩
          · cases h1
        · cases h1
      · unfold wB2S at h2
        exact h2
    · exact h.elim
  · exact h.elim

def wLen (P:Program) (t:TypeId) (x:Value) (H:AH) (K:Value→Prop):Prop :=
  match x with
  | .string s=>wSt_ (match P.underlying t with | some .string=>true | _=>false) (K (.int .i64 s.size))
  | .slice _ n _=>wSt_ (isD P t 2) (K (.int .i64 n))
  | .map m=>wSt_ (isD P t 3) (wLenM m H fun n=>K (.int .i64 n))
  | _=>False
theorem isStr {P:Program} {t:TypeId} (h:(match P.underlying t with | some .string=>true | _=>false)=true):P.underlying t=some .string:=by
  split at h
  · assumption
  · cases h
theorem wLen_of {P:Program} {t:TypeId} {x:Value} {H:AH} {K:Value→Prop} (h:wLen P t x H K):aLen P t x H K:=by
  unfold wLen at h
  split at h
  · obtain ⟨h1, h2⟩:=wSt_of h
    exact ⟨isStr h1, h2⟩
  · obtain ⟨h1, h2⟩:=wSt_of h
    exact ⟨isD2 h1, h2⟩
  · rename_i m
    obtain ⟨h1, h2⟩:=wSt_of h
    cases m with
    | none=>exact ⟨isD3 h1, h2⟩
    | some i =>
      refine ⟨isD3 h1, ?_⟩
      unfold wLenM at h2
      simp only at h2
      split at h2
      · rename_i es hg; simp only [hg]; exact h2
      · exact h2.elim
  · exact h.elim

def wIndex (P:Program) (t:TypeId) (x i:Value) (K:Value→Prop):Prop :=
  match x, i with
  | .string s, .int _ n=>wSt_ (match P.underlying t with | some .string=>true | _=>false) (wIxS s n fun b=>K (.int .u8 b))
  | _, _=>False
theorem wIndex_of {P:Program} {t:TypeId} {x i:Value} {K:Value→Prop} (h:wIndex P t x i K):aIndex P t x i K:=by
  unfold wIndex at h
  split at h
  · obtain ⟨h1, h2⟩:=wSt_of h
    exact ⟨isStr h1, h2⟩
  · exact h.elim

def wIndexAddr (P:Program) (t:TypeId) (x i:Value) (K:Value→Prop):Prop :=
  match P.underlying t with
  | some (.slice e) =>
    match x, i with
    | .slice b len _, .int _ n=>wSt_ (tyOK P e) (wIx b len (P.cellsOf e) n fun o k=>K (.pointer (some ⟨o, k, none⟩)))
    | _, _=>False
  | _=>False
theorem wIndexAddr_of {P:Program} {t:TypeId} {x i:Value} {K:Value→Prop} (h:wIndexAddr P t x i K):aIndexAddr P t x i K:=by
  unfold wIndexAddr at h
  unfold aIndexAddr
  split at h
  · rename_i e he
    simp only [he]
    split at h
    · obtain ⟨h1, h2⟩:=wSt_of h
      unfold wIx at h2
      split at h2
      · exact ⟨h1, h2.1, h2.2.1, h2.2.2⟩
      · exact h2.elim
    · exact h.elim
  · exact h.elim

def wSliceOp (P:Program) (t:TypeId) (x:Value) (lo hi mx:Option Value) (H:AH) (K:Value→Prop):Prop :=
  match x with
  | .string s=>wSt_ (match P.underlying t with | some .string=>true | _=>false)
    (match mx with
      | none=>(match bound 0 lo, bound s.size hi with
        | some l, some h=>wSlS s l h fun r=>K (.string r)
        | _, _=>False)
      | some _=>False)
  | .slice b len c=>(match P.underlying t with
    | some (.slice e)=>wSt_ (tyOK P e && decide (P.cellsOf e ≠ 0))
      (match bound 0 lo, bound len hi with
        | some l, some h=>(match mx with
          | none=>wSl (P.cellsOf e) b len c l h H fun b' l' c'=>K (.slice b' l' c')
          | some (.int _ m)=>wSt_ hi.isSome (wSl3 (P.cellsOf e) b len c l h m H fun b' l' c'=>K (.slice b' l' c'))
          | some _=>False)
        | _, _=>False)
    | _=>False)
  | _=>False
theorem wSliceOp_of {P:Program} {t:TypeId} {x:Value} {lo hi mx:Option Value} {H:AH} {K:Value→Prop} (h:wSliceOp P t x lo hi mx H K):aSlice P t x lo hi mx H K:=by
  unfold wSliceOp at h
  unfold aSlice
  split at h
  · obtain ⟨h1, h2⟩:=wSt_of h
    simp only [isStr h1]
    split at h2
    · split at h2
      · rename_i l hh e1 e2
        simp only [e1, e2]
        exact h2
      · exact h2.elim
    · exact h2.elim
  · rename_i b len c
    split at h
    · rename_i e he
      simp only [he]
      obtain ⟨h1, h2⟩:=wSt_of h
      simp only [Bool.and_eq_true, decide_eq_true_eq] at h1
      split at h2
      · rename_i l hh e1 e2
        split at h2
        · unfold wSl at h2
          split at h2
          · obtain ⟨rfl, rfl, rfl, rfl, h2⟩:=h2
            simp only [e1, e2]
            exact ⟨h1.1, by trivial, by trivial, h2⟩
          · obtain ⟨g1, g2, g3, g4, g5, h2⟩:=h2
            simp only [e1, e2]
            exact ⟨h1.1, h1.2, g1, g2, g3, g5, g4, h2⟩
          · exact h2.elim
        · obtain ⟨hs, h3⟩:=wSt_of h2
          unfold wSl3 at h3
          split at h3
          · obtain ⟨g1, g2, g3, g4, g5, h4⟩:=h3
            subst g1 g2
            simp only [e1, e2]
            exact ⟨h1.1, g3, g4, g5, hs, h4⟩
          · obtain ⟨g1, g2, g3, g4, g5, g6, g7, h4⟩:=h3
            simp only [e1, e2]
            exact ⟨h1.1, h1.2, g1, g2, g3, g7, g4, g5, hs, g6, h4⟩
          · exact h3.elim
        · exact h2.elim
      · exact h2.elim
    · exact h.elim
  · exact h.elim

def appOK (P:Program) (e:TypeId):Bool:=tyOK P e && decide (P.cellsOf e ≠ 0) && (((P.info? e).bind (·.zero)).any fun z=>z.cells.size == P.cellsOf e)
theorem wApp_of {P:Program} {e:TypeId} {b:Option Addr} {len c:Nat} {new:List Value} {n:Nat} {H:AH} {K:KV} (h0:appOK P e=true)
    (h:wApp e (P.cellsOf e) (P.bytesOf e) b len c new n H fun b' l' c' H'=>K (.slice b' l' c') H'):aAppend P e (.slice b len c) new n H K:=by
  unfold appOK at h0
  simp only [Bool.and_eq_true, decide_eq_true_eq] at h0
  unfold wApp at h
  obtain ⟨h1, h2, h⟩:=h
  refine ⟨h0.1.1, h0.1.2, h1, h2, h0.2, ?_⟩
  split at h
  · obtain ⟨rfl, rfl, h⟩:=h
    cases n with
    | zero=>exact h
    | succ n=>exact h
  · rcases h with ⟨rfl, h⟩ | ⟨rfl, h⟩
    · split at h
      · rename_i cs es hg
        simp only [hg]
        exact h
      · exact h.elim
    · refine ⟨rfl, ?_⟩
      split at h
      · rename_i old hs
        simp only [hs]
        cases n with
        | zero=>exact h
        | succ n=>exact h
      · exact h.elim
  · exact h.elim

def wBuild (P:Program) (t:TypeId) (parts:List (Nat × Value)) (K:Value→Prop):Prop :=
  match (P.info? t).bind (·.zero), P.underlying t with
  | some z, some (.struct fs) =>
    wSt_ (constOK z && (fs.all fun f=>tyOK P f.type)) (match aFill z.cells.toList (fun i=>(fs[i]?).map fun f=>(f.offset, P.cellsOf f.type)) parts with
      | some cs=>K (.agg cs.toArray)
      | none=>False)
  | _, _=>False
theorem wBuild_of {P:Program} {t:TypeId} {parts:List (Nat × Value)} {K:Value→Prop} (h:wBuild P t parts K):aBuild P t parts K:=by
  unfold wBuild at h
  unfold aBuild
  split at h
  · rename_i h1 h2
    obtain ⟨h3, h⟩:=wSt_of h
    simp only [Bool.and_eq_true] at h3
    simp only [h1, h2]
    refine ⟨h3.1, h3.2, ?_⟩
    split at h
    · rename_i h4; simp only [h4]; exact h
    · exact h.elim
  · exact h.elim
def wBuildSlice (P:Program) (t:TypeId) (len:Nat) (parts:List (Nat × Value)) (H:AH) (K:KV):Prop :=
  match P.underlying t with
  | some (.slice e) =>
    match (P.info? e).bind (·.zero) with
    | some z=>wSt_ (constOK z && decide (z.cells.size=P.cellsOf e) && decide (P.cellsOf e ≠ 0) && decide (len * P.cellsOf e≤16777216))
      (match aFill ((List.replicate len z.cells.toList).flatten) (fun i=>some (i * P.cellsOf e, P.cellsOf e)) parts with
      | some cs=>wSt_ (cs.all oneCell) (wBs cs (P.cellsOf e) H fun i H'=>K (.slice (some ⟨i, 0, none⟩) len 0) H')
      | none=>False)
    | none=>False
  | _=>False
theorem wBuildSlice_of {P:Program} {t:TypeId} {len:Nat} {parts:List (Nat × Value)} {H:AH} {K:KV} (h:wBuildSlice P t len parts H K):aBuildSlice P t len parts H K:=by
  unfold wBuildSlice at h
  unfold aBuildSlice
  split at h
  · rename_i e he
    simp only [he]
    split at h
    · rename_i z hz
      simp only [hz]
      obtain ⟨h1, h⟩:=wSt_of h
      simp only [Bool.and_eq_true, decide_eq_true_eq] at h1
      refine ⟨h1.1.1.1, h1.1.1.2, h1.1.2, h1.2, ?_⟩
      split at h
      · rename_i cs hcs
        simp only [hcs]
        exact wSt_of h
      · exact h.elim
    · exact h.elim
  · exact h.elim

def wMaxMin (mx:Bool) (args:List Value) (K:Value→Prop):Prop :=
  match args with
  | [.int k a, .int k' b]=>wSt_ (decide (k=k')) (K (.int k (match mx with
    | true=>if a<b then b else a
    | false=>if b<a then b else a)))
  | _=>False
theorem wMaxMin_of {mx:Bool} {args:List Value} {K:Value→Prop} (h:wMaxMin mx args K):aMaxMin mx args K:=by
  unfold wMaxMin at h
  split at h
  · obtain ⟨e, h⟩:=wSt_of h
    have e:=of_decide_eq_true e
    cases mx with
    | true=>exact ⟨e, h⟩
    | false=>exact ⟨e, h⟩
  · exact h.elim

def wIface (P:Program) (t:TypeId) (x:Value) (K:Value→Prop):Prop:=wSt_ (match P.underlying t with
  | some (.interface _)=>false
  | some _=>true
  | none=>false) (K (.iface t x))
theorem wIface_of {P:Program} {t:TypeId} {x:Value} {K:Value→Prop} (h:wIface P t x K):aIface P t x K:=by
  obtain ⟨h1, h2⟩:=wSt_of h
  refine ⟨?_, h2⟩
  split at h1
  · cases h1
  · rename_i d hne hd
    exact ⟨d, hd, fun m e=>hne m (by rw [e])⟩
  · cases h1

theorem opI_of {kd:IntKind} {v:Value} {K:Int→Prop} (h:opI kd v K):∃ n, v=.int kd n∧K n:=by
  unfold opI at h
  split at h
  · split at h
    · rename_i e; have e:=of_decide_eq_true e; subst e; exact ⟨_, rfl, h⟩
    · exact h.elim
  · exact h.elim
theorem aCopy_mono {esz:Nat} {x y:Value} {H:AH} {K K':KV} (hK:∀ v H', K v H'→K' v H') (h:aCopy esz x y H K):aCopy esz x y H K':=by
  unfold aCopy at h ⊢
  split at h
  · exact h.elim
  · rename_i hc
    try simp only [hc]
    split at h
    · exact hK _ _ h
    · split at h
      · rename_i hm; try simp only [hm]
        exact hK _ _ h
      · rename_i hm
        try simp only [hm]
        split at h
        · rename_i hg
          try simp only [hg]
          exact ⟨h.1, h.2.1, hK _ _ h.2.2⟩
        · exact h.elim
    · exact h.elim

def wBuiltin (P:Program) (b:Builtin) (types:List TypeId) (args:List Value) (H:AH) (K:KV):Prop :=
  match b with
  | .len=>(match types, args with
    | t :: _, x :: _=>wLen P t x H fun v=>K v H
    | _, _=>False)
  | .max=>wMaxMin true args fun v=>K v H
  | .min=>wMaxMin false args fun v=>K v H
  | .append=>(match types, args with
    | t :: u :: _, [.slice b l c, y]=>(match P.underlying t with
      | some (.slice e)=>wSt_ (appOK P e) (match y with
        | .slice b2 l2 c2=>wSt_ (isD P u 2) (wAppL e (P.cellsOf e) (P.bytesOf e) b l c b2 l2 c2 H fun b' l' c' H'=>K (.slice b' l' c') H')
        | .string s=>wSt_ ((match P.underlying u with | some .string=>true | _=>false) && decide (P.cellsOf e=1)) (wAppS e (P.bytesOf e) b l c s H fun b' l' c' H'=>K (.slice b' l' c') H')
        | _=>False)
      | _=>False)
    | _, _=>False)
  | .copy=>(match types, args with
    | t :: _, [.slice b l c, y]=>(match P.underlying t with
      | some (.slice e)=>(match y with
        | .slice b2 l2 c2=>wSt_ (tyOK P e) (wCpL (P.cellsOf e) b l c b2 l2 c2 H fun n H'=>K (.int .i64 n) H')
        | .string s=>wSt_ (tyOK P e && decide (P.cellsOf e=1)) (wCpS b l c s H fun n H'=>K (.int .i64 n) H')
        | _=>False)
      | _=>False)
    | _, _=>False)
  | .delete=>(match types, args with
    | t :: _, [.map m, k]=>(match mapD P t with
      | some (d, _)=>wSt_ (isKeyD d k) (wDl d m k H fun H'=>K (.tuple #[]) H')
      | none=>False)
    | _, _=>False)
  | _=>False
theorem wBuiltin_of {P:Program} {b:Builtin} {types:List TypeId} {args:List Value} {H:AH} {K:KV} (h:wBuiltin P b types args H K):aBuiltin P b types args H K:=by
  unfold wBuiltin at h
  split at h
  · split at h
    · exact wLen_of h
    · exact h.elim
  · unfold aBuiltin; exact wMaxMin_of h
  · unfold aBuiltin; exact wMaxMin_of h
  · split at h
    · split at h
      · rename_i e he
        obtain ⟨h0, h⟩:=wSt_of h
        split at h
        · obtain ⟨h1, h⟩:=wSt_of h
          obtain ⟨e', he'⟩:=isD2 h1
          simp only [aBuiltin, bAppend, he, he']
          unfold wAppL at h
          split at h
          · rename_i new hn
            simp only [hn]
            exact wApp_of h0 h
          · exact h.elim
        · obtain ⟨h1, h⟩:=wSt_of h
          simp only [Bool.and_eq_true, decide_eq_true_eq] at h1
          simp only [aBuiltin, bAppend, he, isStr h1.1]
          refine ⟨h1.2, ?_⟩
          unfold wAppS at h
          rw [← h1.2] at h
          exact wApp_of h0 h
        · exact h.elim
      · exact h.elim
    · exact h.elim
  · split at h
    · split at h
      · rename_i e he
        split at h
        · obtain ⟨h0, h⟩:=wSt_of h
          simp only [aBuiltin, bCopy, he]
          refine ⟨h0, aCopy_mono (fun v H' hh=>?_) h⟩
          obtain ⟨n, rfl, hk⟩:=opI_of hh
          exact hk
        · obtain ⟨h0, h⟩:=wSt_of h
          simp only [Bool.and_eq_true, decide_eq_true_eq] at h0
          simp only [aBuiltin, bCopy, he]
          rw [h0.2]
          refine ⟨h0.1, aCopy_mono (fun v H' hh=>?_) h⟩
          obtain ⟨n, rfl, hk⟩:=opI_of hh
          exact hk
        · exact h.elim
      · exact h.elim
    · exact h.elim
  · split at h
    · split at h
      · rename_i d e he
        simp only [aBuiltin, bDelete, he]
        exact wSt_of h
      · exact h.elim
    · exact h.elim
  · exact h.elim

def wMakeSlice (P:Program) (t:TypeId) (l c:Value) (H:AH) (K:KV):Prop :=
  match P.underlying t with
  | some (.slice e) =>
    match (P.info? e).bind (·.zero) with
    | some z =>
      match l, c with
      | .int _ l, .int _ c=>wSt_ (constOK z && decide (z.cells.size=P.cellsOf e) && decide (P.cellsOf e ≠ 0) && (z.cells.toList.all oneCell))
          (wMk z.cells.toList (P.cellsOf e) (P.bytesOf e) l c H fun i H'=>K (.slice (some ⟨i, 0, none⟩) l.toNat 0) H')
      | _, _=>False
    | none=>False
  | _=>False
theorem wMakeSlice_of {P:Program} {t:TypeId} {l c:Value} {H:AH} {K:KV} (h:wMakeSlice P t l c H K):aMakeSlice P t l c H K:=by
  unfold wMakeSlice at h
  unfold aMakeSlice
  split at h
  · rename_i e he
    simp only [he]
    split at h
    · rename_i z hz
      rw [hz]
      split at h
      · obtain ⟨h1, h2⟩:=wSt_of h
        simp only [Bool.and_eq_true, decide_eq_true_eq] at h1
        exact ⟨h1.1.1.1, h1.1.1.2, h1.1.2, h1.2, h2.1, h2.2.1, h2.2.2.1, h2.2.2.2.1, h2.2.2.2.2⟩
      · exact h.elim
    · exact h.elim
  · exact h.elim
def wCallF (P:Program) (f:Value) (args:List Value) (H:AH) (K:KV) (Kp:KV):Prop :=
  match f with
  | .func (.func f) first captured=>wSt_ (callable P f) (wCall P f (first.toList ++ args ++ captured.toList) H K Kp)
  | _=>False
theorem wCallF_of {P:Program} {f:Value} {args:List Value} {H:AH} {K Kp:KV} (h:wCallF P f args H K Kp):aCall P f args H K Kp:=by
  unfold wCallF at h
  split at h
  · obtain ⟨h1, h2⟩:=wSt_of h
    exact ⟨h1, h2⟩
  · exact h.elim

def opnL:List CK→List Value→(List Value→Prop)→Prop
  | [], _, K=>wSt_ true (K [])
  | c :: cs, l, K=>opn c (l.headD undef) fun v=>opnL cs l.tail fun vs=>K (v :: vs)
theorem opnL_of {cs:List CK} {l:List Value} {K:List Value→Prop} (h:opnL cs l K) (hl:l.length=cs.length):K l:=by
  induction cs generalizing l K with
  | nil =>
    cases l with
    | nil=>exact (wSt_of h).2
    | cons v l=>simp at hl
  | cons c cs ih =>
    cases l with
    | nil=>simp at hl
    | cons v l =>
      have:=opn_of h
      exact ih (l:=l) (K:=fun vs=>K (v :: vs)) this (by simpa using hl)
def opnV (P:Program) (t:TypeId) (v:Value) (K:Value→Prop):Prop:=wSt_ true <|
  match isStruct P t with
  | true=>(match cks P 20 t with
    | []=>K v
    | c :: cs=>opA (c :: cs).length v fun l=>opnL (c :: cs) l fun l'=>K (.agg l'.toArray))
  | false=>(match cks P 20 t with
    | [c]=>opn c v K
    | _=>K v)
theorem opnV_of {P:Program} {t:TypeId} {v:Value} {K:Value→Prop} (h:opnV P t v K):K v:=by
  unfold opnV at h
  replace h:=(wSt_of h).2
  split at h
  · split at h
    · exact h
    · unfold opA at h
      split at h
      · split at h
        · rename_i hd
          have:=opnL_of h (of_decide_eq_true hd)
          simpa using this
        · exact h.elim
      · exact h.elim
  · split at h
    · exact opn_of h
    · exact h
def opnVs (P:Program):List TypeId→List Value→(List Value→Prop)→Prop
  | [], _, K=>wSt_ true (K [])
  | t :: ts, l, K=>opnV P t (l.headD undef) fun v=>opnVs P ts l.tail fun vs=>K (v :: vs)
theorem opnVs_of {P:Program} {ts:List TypeId} {l:List Value} {K:List Value→Prop} (h:opnVs P ts l K) (hl:l.length=ts.length):K l:=by
  induction ts generalizing l K with
  | nil =>
    cases l with
    | nil=>exact (wSt_of h).2
    | cons v l=>simp at hl
  | cons c cs ih =>
    cases l with
    | nil=>simp at hl
    | cons v l=>exact ih (l:=l) (K:=fun vs=>K (v :: vs)) (opnV_of h) (by simpa using hl)
def opnR (P:Program) (t:TypeId) (v:Value) (K:Value→Prop):Prop:=wSt_ true <|
  match P.underlying t with
  | some (.tuple ts)=>(match ts.toList with
    | []=>K v
    | t :: ts=>opT (t :: ts).length v fun l=>opnVs P (t :: ts) l fun l'=>K (.tuple l'.toArray))
  | _=>opnV P t v K
theorem opnR_of {P:Program} {t:TypeId} {v:Value} {K:Value→Prop} (h:opnR P t v K):K v:=by
  unfold opnR at h
  replace h:=(wSt_of h).2
  split at h
  · split at h
    · exact h
    · unfold opT at h
      split at h
      · split at h
        · rename_i hd
          have:=opnVs_of h (of_decide_eq_true hd)
          simpa using this
        · exact h.elim
      · exact h.elim
  · exact opnV_of h

noncomputable def wPick (c:Bool) (a b:Value) (K:Value→Prop):Prop:=wSt_ true <|
  match b with
  | .tuple _=>(match c with
    | true=>K a
    | false=>K b)
  | _=>(match a with
    | .tuple _=>(match c with
      | true=>K a
      | false=>K b)
    | .int k x=>(match b with
      | .int k' y=>wSt_ (decide (k=k')) (K (.int k (Bool.rec (motive:=fun _=>Int) y x c)))
      | _=>False)
    | .bool x=>(match b with
      | .bool y=>K (.bool (Bool.rec (motive:=fun _=>Bool) y x c))
      | _=>False)
    | .string x=>(match b with
      | .string y=>K (.string (Bool.rec (motive:=fun _=>ByteArray) y x c))
      | _=>False)
    | .pointer x=>(match b with
      | .pointer y=>K (.pointer (Bool.rec (motive:=fun _=>Option Addr) y x c))
      | _=>False)
    | _=>False)
theorem wPick_of {c:Bool} {a b:Value} {K:Value→Prop} (h:wPick c a b K):aPick (.bool c) a b K:=by
  unfold wPick at h
  replace h:=(wSt_of h).2
  unfold aPick
  split at h
  · exact h
  · split at h
    · exact h
    · split at h
      · obtain ⟨e, h'⟩:=wSt_of h
        have e:=of_decide_eq_true e
        subst e
        cases c <;> exact h'
      · exact h.elim
    · split at h
      · cases c <;> exact h
      · exact h.elim
    · split at h
      · cases c <;> exact h
      · exact h.elim
    · split at h
      · cases c <;> exact h
      · exact h.elim
    · exact h.elim
noncomputable def wPickV (c a b:Value) (K:Value→Prop):Prop:=wSt_ true <|
  match c with
  | .bool c=>wPick c a b K
  | _=>False

def wTA (P:Program) (x:Value) (t:TypeId) (K:Value→Prop):Prop :=
  match x with
  | .iface u v=>wSt_ (decide (u=t) && (match P.underlying t with
    | some (.interface _)=>false
    | some _=>true
    | none=>false)) (K (.tuple #[v, .bool true]))
  | _=>False
theorem wTA_of {P:Program} {x:Value} {t:TypeId} {K:Value→Prop} (h:wTA P x t K):aTA P x t K:=by
  unfold wTA at h
  split at h
  · obtain ⟨h1, h2⟩:=wSt_of h
    simp only [Bool.and_eq_true, decide_eq_true_eq] at h1
    refine ⟨h1.1, ?_, h2⟩
    have h1:=h1.2
    split at h1
    · cases h1
    · rename_i d hne hd
      exact ⟨d, hd, fun m e=>hne m (by rw [e])⟩
    · cases h1
  · exact h.elim
theorem wLk_mono {d:TypeDesc} {m:Option Nat} {k z:Value} {H:AH} {K K':Value→Bool→Prop} (hk:∀ v b, K v b→K' v b) (h:wLk d m k z H K):wLk d m k z H K':=by
  unfold wLk at h ⊢
  cases m with
  | none=>exact hk _ _ h
  | some i =>
    dsimp only at h ⊢
    cases hg:H.get i with
    | none=>rw [hg] at h; exact h.elim
    | some o =>
      rw [hg] at h
      cases o with
      | map es cl =>
        dsimp only at h ⊢
        cases hm:mfind d k es 0 with
        | none=>rw [hm] at h; exact h.elim
        | some r =>
          rw [hm] at h
          cases r with
          | none=>exact hk _ _ h
          | some j =>
            dsimp only at h ⊢
            cases he:es[j]? with
            | none=>rw [he] at h; exact h.elim
            | some e=>rw [he] at h; exact hk _ _ h
      | _=>exact h.elim
def wLookup (P:Program) (t:TypeId) (x k:Value) (ok:Bool) (H:AH) (K:Value→Prop):Prop :=
  match mapD P t with
  | some (d, e)=>(match (P.info? e).bind (·.zero) with
    | some z=>(match x with
      | .map m=>wSt_ (constOK z && isKeyD d k) (wLk d m k z H fun v b=>opnV P e v fun v=>K (okV ok v b))
      | _=>False)
    | none=>False)
  | none=>False
theorem wLookup_of {P:Program} {t:TypeId} {x k:Value} {ok:Bool} {H:AH} {K:Value→Prop} (h:wLookup P t x k ok H K):aLookup P t x k ok H K:=by
  unfold wLookup at h
  split at h
  · rename_i d e hd
    split at h
    · rename_i z hz
      split at h
      · rename_i m
        obtain ⟨h1, h2⟩:=wSt_of h
        simp only [aLookup, hd, hz]
        rw [Bool.and_eq_true] at h1
        exact ⟨h1.1, h1.2, wLk_mono (fun v b hh=>opnV_of (K:=fun v=>K (okV ok v b)) hh) h2⟩
      · exact h.elim
    · exact h.elim
  · exact h.elim
def wMapUpdate (P:Program) (t:TypeId) (x k v:Value) (H:AH) (K:AH→Prop):Prop :=
  match mapD P t with
  | some (d, _)=>(match x with
    | .map m=>wSt_ (isKeyD d k) (wMu d m k v H K)
    | _=>False)
  | none=>False
theorem wMapUpdate_of {P:Program} {t:TypeId} {x k v:Value} {H:AH} {K:AH→Prop} (h:wMapUpdate P t x k v H K):aMapUpdate P t x k v H K:=by
  unfold wMapUpdate at h
  unfold aMapUpdate
  cases hd:mapD P t with
  | none=>rw [hd] at h; exact h.elim
  | some q =>
    rw [hd] at h
    cases x with
    | map m=>exact wSt_of h
    | _=>exact h.elim
theorem wMe_mono {d:TypeDesc} {m:Option Nat} {k z:Value} {H:AH} {K K':Value→Nat→AH→Prop} (hk:∀ v b H', K v b H'→K' v b H') (h:wMe d m k z H K):wMe d m k z H K':=by
  unfold wMe at h ⊢
  cases m with
  | none=>exact h.elim
  | some i =>
    dsimp only at h ⊢
    cases hg:H.get i with
    | none=>rw [hg] at h; exact h.elim
    | some o =>
      rw [hg] at h
      cases o with
      | map es cl =>
        dsimp only at h ⊢
        cases hm:mfind d k es 0 with
        | none=>rw [hm] at h; exact h.elim
        | some r =>
          rw [hm] at h
          cases r with
          | none=>exact hk _ _ _ h
          | some j =>
            dsimp only at h ⊢
            cases he:es[j]? with
            | none=>rw [he] at h; exact h.elim
            | some e=>rw [he] at h; exact hk _ _ _ h
      | _=>exact h.elim
def wMapEntry (P:Program) (t:TypeId) (x k:Value) (H:AH) (K:KV):Prop :=
  match mapD P t with
  | some (d, e)=>(match (P.info? e).bind (·.zero) with
    | some z=>(match x with
      | .map m=>wSt_ (constOK z && isKeyD d k) (wMe d m k z H fun v b H'=>opnV P e v fun v=>K (.tuple #[v, .int .i64 b]) H')
      | _=>False)
    | none=>False)
  | none=>False
theorem wMapEntry_of {P:Program} {t:TypeId} {x k:Value} {H:AH} {K:KV} (h:wMapEntry P t x k H K):aMapEntry P t x k H K:=by
  unfold wMapEntry at h
  split at h
  · rename_i d e hd
    split at h
    · rename_i z hz
      split at h
      · rename_i m
        obtain ⟨h1, h2⟩:=wSt_of h
        simp only [aMapEntry, hd, hz]
        rw [Bool.and_eq_true] at h1
        exact ⟨h1.1, h1.2, wMe_mono (fun v b H' hh=>opnV_of (K:=fun v=>K (.tuple #[v, .int .i64 b]) H') hh) h2⟩
      · exact h.elim
    · exact h.elim
  · exact h.elim
def wEntryStore (x b v:Value) (H:AH) (K:AH→Prop):Prop :=
  match x, b with
  | .map m, .int _ b=>wSt_ true (wEs m b v H K)
  | _, _=>False
theorem wEntryStore_of {x b v:Value} {H:AH} {K:AH→Prop} (h:wEntryStore x b v H K):aEntryStore x b v H K:=by
  unfold wEntryStore at h
  unfold aEntryStore
  split at h
  · exact (wSt_of h).2
  · exact h.elim
def wRg (P:Program) (t:TypeId) (x:Value) (H:AH) (K:KV):Prop :=
  match x with
  | .string s=>wSt_ (match P.underlying t with | some .string=>true | _=>false) (wSi s H fun i H'=>K (.pointer (some ⟨i, 0, none⟩)) H')
  | .map m=>wSt_ (isD P t 3) (wMr m H fun i H'=>K (.pointer (some ⟨i, 0, none⟩)) H')
  | _=>False
theorem wRg_of {P:Program} {t:TypeId} {x:Value} {H:AH} {K:KV} (h:wRg P t x H K):aRange P t x H K:=by
  unfold wRg at h
  split at h
  · obtain ⟨h1, h2⟩:=wSt_of h
    exact ⟨isStr h1, h2⟩
  · obtain ⟨h1, h2⟩:=wSt_of h
    exact ⟨isD3 h1, h2⟩
  · exact h.elim

noncomputable def aop (P:Program) (tm:List Value) (o:Oper) (H:AH) (K:KV) (Kp:KV):Prop :=
  match o.op with
  | .move x | .assign x=>K (ev tm x) H
  | .pick c a b=>wPickV (ev tm c) (ev tm a) (ev tm b) fun v=>K v H
  | .alloc t=>wAlloc P t H K
  | .box t x=>wNewVT P t (ev tm x) H K
  | .build t ps=>wBuild P t (ps.toList.map fun p=>(p.1, ev tm p.2)) fun v=>K v H
  | .buildSlice t len ps=>wBuildSlice P t len (ps.toList.map fun p=>(p.1, ev tm p.2)) H K
  | .load t a=>wLoad P t (ev tm a) H fun v=>K v H
  | .store t a x=>wStore P t (ev tm a) (ev tm x) H fun H'=>K undef H'
  | .nilCheck x=>wNil (ev tm x) fun v=>K v H
  | .binOp op t x y _=>wBin (isK x || isK y) P op t (ev tm x) (ev tm y) fun v=>K v H
  | .unOp op _ x=>wUn op (ev tm x) fun v=>K v H
  | .convert s d x=>wConvert P s d (ev tm x) H K
  | .makeInterface t x=>wIface P t (ev tm x) fun v=>K v H
  | .makeSlice t l c=>wMakeSlice P t (ev tm l) (ev tm c) H K
  | .slice t x lo hi mx=>wSliceOp P t (ev tm x) (lo.map (ev tm)) (hi.map (ev tm)) (mx.map (ev tm)) H fun v=>K v H
  | .fieldAddr t x n=>wField P t (ev tm x) n fun v=>K v H
  | .field t x n=>wFieldOf P t (ev tm x) n fun v=>K v H
  | .indexAddr t x i=>wIndexAddr P t (ev tm x) (ev tm i) fun v=>K v H
  | .index t x i=>wIndex P t (ev tm x) (ev tm i) fun v=>K v H
  | .extract x n=>wExtract (ev tm x) n fun v=>opnV P o.type v fun v=>K v H
  | .call ⟨.builtin b, args, types⟩=>wBuiltin P b types.toList (args.toList.map (ev tm)) H K
  | .call ⟨.value f, args, _⟩=>wCallF P (ev tm f) (args.toList.map (ev tm)) H (fun v H'=>opnR P o.type v fun v'=>K v' H') Kp
  | .panic x=>aPanic (ev tm x) H Kp
  | .makeFunc (.func g) first caps=>K (.func (.func g) (first.map (ev tm)) (caps.map (ev tm))) H
  | .typeAssert x _ t true=>wTA P (ev tm x) t fun v=>K v H
  | .range t x=>wRg P t (ev tm x) H K
  | .next it true=>aNext (ev tm it) H K
  | .next it false=>aNextM (ev tm it) H K
  | .entry it=>aEntry (ev tm it) H fun v=>K v H
  | .makeMap _ none=>wMm H fun i H'=>K (.map (some i)) H'
  | .lookup t x k ok=>wLookup P t (ev tm x) (ev tm k) ok H fun v=>K v H
  | .mapUpdate t m k x | .insert t m k x=>wMapUpdate P t (ev tm m) (ev tm k) (ev tm x) H fun H'=>K undef H'
  | .mapEntry t m k=>wMapEntry P t (ev tm m) (ev tm k) H K
  | .entryStore _ m b x=>wEntryStore (ev tm m) (ev tm b) (ev tm x) H fun H'=>K undef H'
  | _=>False

noncomputable def tag1:Unit:=(fun (_:Unit × (Program→List Value→Oper→AH→KV→KV→Prop) × (Bool→Prop→Prop→Prop) × (Int→Prop→Prop) × (Int→Prop→Prop) × (Bool→Prop→Prop))=>()) (tag0, aop, wIf, wNz, wNn, wSt_)

theorem aop_of {P:Program} {tm:List Value} {o:Oper} {H:AH} {K:KV} {Kp:KV} (h:aop P tm o H K Kp):aopO P tm o H K Kp:=by
  unfold aop at h
  unfold aopO
  split at h <;> rename_i ho <;> simp only [ho]
  · exact h
  · exact h
  · unfold wPickV at h
    replace h:=(wSt_of h).2
    split at h
    · rename_i hc; rw [hc]; exact wPick_of h
    · exact h.elim
  · exact wAlloc_of h
  · exact wNewVT_of h
  · exact wBuild_of h
  · exact wBuildSlice_of h
  · exact wLoad_of h
  · exact wStore_of h
  · exact wNil_of h
  · exact wBin_of h
  · exact wUn_of h
  · exact wConvert_of h
  · exact wIface_of h
  · exact wMakeSlice_of h
  · exact wSliceOp_of h
  · exact wField_of h
  · exact wFieldOf_of h
  · exact wIndexAddr_of h
  · exact wIndex_of h
  · exact wExtract_of (wExtract_mono (fun v hv=>opnV_of hv) h)
  · exact wBuiltin_of h
  · have h:=wCallF_of h
    unfold aCall at h ⊢
    split at h
    · refine ⟨h.1, h.2.mono ?_⟩
      intro e H' he
      cases e with
      | ret v=>exact opnR_of he
      | panic v=>exact he
    · exact h.elim
  · exact h
  · exact h
  · exact wTA_of h
  · exact wRg_of h
  · exact h
  · exact h
  · exact h
  · exact h
  · exact wLookup_of h
  · exact wMapUpdate_of h
  · exact wMapUpdate_of h
  · exact wMapEntry_of h
  · exact wEntryStore_of h
  · exact h.elim
end Go.Proofs.YtjhbbbcelnlnpaaGreatDoor
