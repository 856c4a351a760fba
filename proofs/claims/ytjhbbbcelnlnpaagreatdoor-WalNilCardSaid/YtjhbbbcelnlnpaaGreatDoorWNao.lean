/- Steps of a walk: what each printed rule asks, as implications. The orders of evaluation that the translation leaves open. -/
import Derived.Test.YtjhbbbcelnlnpaaGreatDoorWNan
import Derived.Test.YtjhbbbcelnlnpaaGreatDoorProg
namespace Go.Proofs.YtjhbbbcelnlnpaaGreatDoor
open Go.RowKit

structure Has (H:AH) (i:Nat) (o:AObj):Prop where
  get:H.get i=some o
  lt:i<H.next
section
variable {H:AH} {i j:Nat} {o o':AObj}
theorem Has.new (H:AH) (o:AObj):Has (H.push o) H.next o:=⟨by rw [AH.get_push, if_pos rfl], by rw [AH.next_push]; omega⟩
theorem Has.newT (H:AH) (o:AObj) (t:Option TypeId):Has (H.pushT o t) H.next o:=⟨by show (if H.next=H.next then some o else _)=_; rw [if_pos rfl], by show H.next<H.next + 1; omega⟩
theorem Has.pushT (h:Has H i o) (o':AObj) (t:Option TypeId):Has (H.pushT o' t) i o:=⟨by show (if i=H.next then some o' else H.get i)=_; rw [if_neg (by have:=h.lt; omega)]; exact h.get, by show i<H.next + 1; have:=h.lt; omega⟩
theorem Has.push (h:Has H i o) (o':AObj):Has (H.push o') i o:=⟨by rw [AH.get_push, if_neg (by have:=h.lt; omega)]; exact h.get, by rw [AH.next_push]; have:=h.lt; omega⟩
theorem Has.set (h:Has H i o) (o':AObj):Has (H.set i o') i o':=⟨by rw [AH.get_set, if_pos rfl], h.lt⟩
theorem Has.setne (h:Has H i o) (hne:i ≠ j) (o':AObj):Has (H.set j o') i o:=⟨by rw [AH.get_set, if_neg hne]; exact h.get, h.lt⟩
theorem Has.dropne (h:Has H i o) (hne:i ≠ j):Has (H.drop j) i o:=⟨by rw [AH.get_drop, if_neg hne]; exact h.get, h.lt⟩
theorem Has.ne (h:Has H i o):i ≠ H.next:=by have:=h.lt; omega
theorem Has.ne' (h:Has H i o):H.next ≠ i:=by have:=h.lt; omega
theorem Has.diff (h:Has H i o) (h':Has H j o') (hd:o ≠ o'):i ≠ j:=fun e=>hd (by have:=h.get; rw [e, h'.get] at this; exact (Option.some.inj this).symm)
end

structure Fr (S:List Nat) (H H':AH):Prop where
  next:H.next≤H'.next
  get:∀ i, i<H.next→i ∉ S→H'.get i=H.get i
  tys:∀ i, i<H.next→H'.tys i=H.tys i
section
variable {S T:List Nat} {A B C:AH} {i:Nat} {o:AObj}
theorem Fr.refl (S:List Nat) (A:AH):Fr S A A:=⟨Nat.le_refl _, fun _ _ _=>rfl, fun _ _=>rfl⟩
theorem Fr.trans (h:Fr S A B) (k:Fr S B C):Fr S A C:=⟨Nat.le_trans h.next k.next, fun i hi hs=>(k.get i (Nat.lt_of_lt_of_le hi h.next) hs).trans (h.get i hi hs), fun i hi=>(k.tys i (Nat.lt_of_lt_of_le hi h.next)).trans (h.tys i hi)⟩
theorem Fr.mono (h:Fr S A B) (hs:∀ i, i ∈ S→i ∈ T):Fr T A B:=⟨h.next, fun i hi ht=>h.get i hi fun x=>ht (hs i x), h.tys⟩
theorem Fr.trans' (h:Fr S A B) (k:Fr T B C) (hs:∀ i, i ∈ T→i ∈ S∨A.next≤i):Fr S A C :=
  ⟨Nat.le_trans h.next k.next, fun i hi ht=>(k.get i (Nat.lt_of_lt_of_le hi h.next) fun x=>(hs i x).elim ht (fun y=>by omega)).trans (h.get i hi ht), fun i hi=>(k.tys i (Nat.lt_of_lt_of_le hi h.next)).trans (h.tys i hi)⟩
theorem Fr.push (h:Fr S A B) (o:AObj):Fr S A (B.push o):=⟨by rw [AH.next_push]; have:=h.next; omega, fun i hi hs=>by rw [AH.get_push, if_neg (by have:=h.next; omega)]; exact h.get i hi hs, h.tys⟩
theorem Fr.pushT (h:Fr S A B) (o:AObj) (t:Option TypeId):Fr S A (B.pushT o t):=⟨by show A.next≤B.next + 1; have:=h.next; omega, fun i hi hs=>by show (if i=B.next then some o else B.get i)=_; rw [if_neg (by have:=h.next; omega)]; exact h.get i hi hs, fun i hi=>by show (if i=B.next then t else B.tys i)=_; rw [if_neg (by have:=h.next; omega)]; exact h.tys i hi⟩
theorem Fr.set (h:Fr S A B) {i:Nat} (hi:i ∈ S∨A.next≤i) (o:AObj):Fr S A (B.set i o) :=
  ⟨h.next, fun j hj hs=>by rw [AH.get_set, if_neg (by rintro rfl; exact hi.elim hs (fun y=>by omega))]; exact h.get j hj hs, h.tys⟩
theorem Fr.drop (h:Fr S A B) {i:Nat} (hi:i ∈ S∨A.next≤i):Fr S A (B.drop i) :=
  ⟨h.next, fun j hj hs=>by rw [AH.get_drop, if_neg (by rintro rfl; exact hi.elim hs (fun y=>by omega))]; exact h.get j hj hs, h.tys⟩
theorem Has.fr (h:Has A i o) (x:Fr S A B) (hs:i ∉ S):Has B i o:=⟨by rw [x.get i h.lt hs]; exact h.get, Nat.lt_of_lt_of_le h.lt x.next⟩
end

section
variable {H:AH} {i k:Nat} {cs:List Value} {e:Nat}
theorem Has.cell (h:Has H i (.row cs e)) (k:Nat):H.cell i k=cs[k]?:=by simp only [AH.cell, AH.cells, h.get]
theorem ldV_at {v:Value} {K:Value→Prop} (h:H.cell i k=some v) (hk:K v):ldV i k H K:=by unfold ldV; rw [h]; exact hk
theorem ldI_at {kd:IntKind} {n:Int} {K:Int→Prop} (h:Has H i (.row cs e)) (hc:cs[k]?=some (.int kd n)) (hk:K n):ldI kd i k H K :=
  ldV_at ((h.cell k).trans hc) (by unfold opI; simp only [decide_true]; exact hk)
theorem ldS_at {s:ByteArray} {K:ByteArray→Prop} (h:Has H i (.row cs e)) (hc:cs[k]?=some (.string s)) (hk:K s):ldS i k H K:=ldV_at ((h.cell k).trans hc) hk
theorem ldB_at {s:Bool} {K:Bool→Prop} (h:Has H i (.row cs e)) (hc:cs[k]?=some (.bool s)) (hk:K s):ldB i k H K:=ldV_at ((h.cell k).trans hc) hk
theorem ldP_at {s:Option Addr} {K:Option Addr→Prop} (h:Has H i (.row cs e)) (hc:cs[k]?=some (.pointer s)) (hk:K s):ldP i k H K:=ldV_at ((h.cell k).trans hc) hk
theorem ldL_at {a:Option Addr} {l c:Nat} {K:Option Addr→Nat→Nat→Prop} (h:Has H i (.row cs e)) (hc:cs[k]?=some (.slice a l c)) (hk:K a l c):ldL i k H K:=ldV_at ((h.cell k).trans hc) hk
theorem ldM_at {s:Option Nat} {K:Option Nat→Prop} (h:Has H i (.row cs e)) (hc:cs[k]?=some (.map s)) (hk:K s):ldM i k H K:=ldV_at ((h.cell k).trans hc) hk
theorem opI_at {kd:IntKind} {n:Int} {K:Int→Prop} (hk:K n):opI kd (.int kd n) K:=by unfold opI; simp only [decide_true]; exact hk
theorem opB_at {b:Bool} {K:Bool→Prop} (hk:K b):opB (.bool b) K:=hk
theorem opS_at {b:ByteArray} {K:ByteArray→Prop} (hk:K b):opS (.string b) K:=hk
theorem opP_at {b:Option Addr} {K:Option Addr→Prop} (hk:K b):opP (.pointer b) K:=hk
theorem opL_at {a:Option Addr} {l c:Nat} {K:Option Addr→Nat→Nat→Prop} (hk:K a l c):opL (.slice a l c) K:=hk
theorem opA_at {n:Nat} {vs:List Value} {K:List Value→Prop} (h:vs.length=n) (hk:K vs):opA n (.agg vs.toArray) K:=by
  unfold opA; simp only [h, decide_true]; exact hk
theorem opT_at {n:Nat} {vs:List Value} {K:List Value→Prop} (h:vs.length=n) (hk:K vs):opT n (.tuple vs.toArray) K:=by
  unfold opT; simp only [h, decide_true]; exact hk
theorem opV_at {v:Value} {K:Value→Prop} (h:oneCell v=true) (hk:K v):opV v K:=by unfold opV; simp only [h]; exact hk

theorem wPt_at {i k:Nat} {K:Nat→Nat→Prop} (hk:K i k):wPt (some ⟨i, k, none⟩) K:=hk
theorem wSt_at {vs:List Value} {K:AH→Prop} (h:Has H i (.row cs e)) (hl:k + vs.length≤cs.length) (hk:K (H.set i (.row (setCells cs k vs) e))):wSt i k vs H K:=by
  unfold wSt; rw [h.get]; exact ⟨hl, hk⟩
theorem wNew_at {vs:List Value} {K:Nat→AH→Prop} (hk:K H.next (H.push (.row vs 0))):wNew vs H K:=hk
theorem wBs_at {vs:List Value} {K:Nat→AH→Prop} (hk:K H.next (H.push (.row vs e))):wBs vs e H K:=hk
theorem wIx_at {l esz:Nat} {n:Int} {K:Nat→Nat→Prop} (h0:0≤n) (h1:n<l) (hk:K i (k + n.toNat * esz)):wIx (some ⟨i, k, none⟩) l esz n K:=⟨h0, h1, hk⟩
theorem wIxS_at {s:ByteArray} {n:Int} {K:Int→Prop} (h0:0≤n) (h1:n<s.size) (hk:K ((s.data.toList.getD n.toNat 0).toNat:Int)):wIxS s n K:=⟨h0, h1, hk⟩
theorem wSlS_at {s:ByteArray} {lo hi:Int} {K:ByteArray→Prop} (h0:0≤lo) (h1:lo≤hi) (h2:hi≤s.size) (hk:K (s.extract lo.toNat hi.toNat)):wSlS s lo hi K:=⟨h0, h1, h2, hk⟩
theorem wCat_at {a b:ByteArray} {K:ByteArray→Prop} (h:a.size + b.size≤9223372036854775807) (hk:K (a ++ b)):wCat a b K:=⟨h, hk⟩
theorem wS2B_at {s:ByteArray} {K:Nat→AH→Prop} (h:s.size≤140737488355328) (hk:K H.next (H.push (.row (byteCells s) 1))):wS2B s H K:=⟨h, hk⟩
theorem wNz_at {b:Int} {K:Prop} (h:b ≠ 0) (hk:K):wNz b K:=by show (match decide (b=0) with | true=>False | false=>K); rw [decide_eq_false h]; exact hk
theorem wNn_at {b:Int} {K:Prop} (h:0≤b) (hk:K):wNn b K:=by show (match decide (b<0) with | true=>False | false=>K); rw [decide_eq_false (by omega)]; exact hk

theorem wIf_t {b:Bool} {A B:Prop} (h:b=true) (hk:A):wIf b A B:=by subst h; exact hk
theorem wIf_f {b:Bool} {A B:Prop} (h:b=false) (hk:B):wIf b A B:=by subst h; exact hk
theorem wIf_b {b:Bool} {A B:Prop} (h1:b=true→A) (h2:b=false→B):wIf b A B:=by cases b; exact h2 rfl; exact h1 rfl
theorem wIf_d {p:Prop} [Decidable p] {A B:Prop} (h1:p→A) (h2:¬ p→B):wIf (decide p) A B:=wIf_b (fun h=>h1 (of_decide_eq_true h)) (fun h=>h2 (of_decide_eq_false h))
theorem wIf_n {p:Prop} [Decidable p] {A B:Prop} (h1:¬ p→A) (h2:p→B):wIf (!decide p) A B :=
  wIf_b (fun h=>h1 (of_decide_eq_false (by simpa using h))) (fun h=>h2 (of_decide_eq_true (by simpa using h)))
theorem wIf_dt {p:Prop} [Decidable p] {A B:Prop} (h:p) (hk:A):wIf (decide p) A B:=wIf_t (decide_eq_true h) hk
theorem wIf_df {p:Prop} [Decidable p] {A B:Prop} (h:¬ p) (hk:B):wIf (decide p) A B:=wIf_f (decide_eq_false h) hk
theorem wIf_nt {p:Prop} [Decidable p] {A B:Prop} (h:¬ p) (hk:A):wIf (!decide p) A B:=wIf_t (by rw [decide_eq_false h]; rfl) hk
theorem wIf_nf {p:Prop} [Decidable p] {A B:Prop} (h:p) (hk:B):wIf (!decide p) A B:=wIf_f (by rw [decide_eq_true h]; rfl) hk
theorem wCall_of {P:Program} {f:FuncId} {args:List Value} {H:AH} {K Kp:KV} (h:ACall P f args H fun
  | .ret v, H'=>K v H'
  | .panic v, H'=>Kp v H'):wCall P f args H K Kp:=h

theorem wAppL_nil {e:TypeId} {esz by_ n:Nat} {H:AH} {new:List Value} {b2:Option Addr} {c2:Nat} {K:Option Addr→Nat→Nat→AH→Prop} (hn:sliceCells H esz (.slice b2 (n + 1) c2)=some new) (h1:new.length=(n + 1) * esz) (h2:(new.all oneCell)=true)
    (h3:(n + 1) * by_≤140737488355328) (h4:n + 1≤9223372036854775807) (hk:K (some ⟨H.next, 0, none⟩) (n + 1) 0 (H.pushT (.row new esz) (some e))):wAppL e esz by_ none 0 0 b2 (n + 1) c2 H K:=by
  unfold wAppL; rw [hn]; exact ⟨h1, h2, rfl, rfl, h3, h4, hk⟩
theorem wAppL_own {e:TypeId} {esz by_ n len i:Nat} {H:AH} {new cs:List Value} {b2:Option Addr} {c2:Nat} {K:Option Addr→Nat→Nat→AH→Prop} (h:Has H i (.row cs esz)) (hl:len * esz=cs.length) (hn:sliceCells H esz (.slice b2 n c2)=some new) (h1:new.length=n * esz) (h2:(new.all oneCell)=true)
    (h3:(len + n) * by_≤140737488355328) (h4:len + n≤9223372036854775807) (hk:K (some ⟨H.next, 0, none⟩) (len + n) 0 ((H.drop i).pushT (.row (cs ++ new) esz) (grownTy 0 (H.tys i) e))):wAppL e esz by_ (some ⟨i, 0, none⟩) len 0 b2 n c2 H K:=by
  unfold wAppL; rw [hn]
  refine ⟨h1, h2, .inl ⟨rfl, ?_⟩⟩
  rw [h.get]
  exact ⟨rfl, by omega, h3, h4, by simpa using hk⟩
theorem wMk_at {zc:List Value} {esz by_:Nat} {l c:Int} {H:AH} {K:Nat→AH→Prop} (h0:0≤l) (h1:l≤c) (h2:(by_:Int) * c≤281474976710656) (h3:c≤9223372036854775807) (hk:K H.next (H.push (.row (repl zc l.toNat) esz))):wMk zc esz by_ l c H K :=
  ⟨h0, h1, h2, h3, hk⟩
theorem repl1 (v:Value) (n:Nat):repl [v] n=List.replicate n v:=by
  unfold repl
  induction n with
  | zero=>rfl
  | succ n ih=>rw [List.replicate_succ, List.flatten_cons, ih, List.replicate_succ]; rfl
end
end Go.Proofs.YtjhbbbcelnlnpaaGreatDoor
namespace Go.Proofs.YtjhbbbcelnlnpaaGreatDoor
set_option maxRecDepth 100000
theorem mixed:Tryz.prog.follows .mixedOrders=true:=by kernel_rfl
end Go.Proofs.YtjhbbbcelnlnpaaGreatDoor
