/- The chapter's example. From a call of the abstract memory to the machine's call, for arguments without addresses. What is none: the law. -/
import Derived.Test.YtjhbbbcelnlnpaaGreatDoorWNbv
import Derived.Test.YtjhbbbcelnlnpaaGreatDoorWNbw
import Derived.Test.YtjhbbbcelnlnpaaGreatDoorWNao
namespace Go.Proofs.YtjhbbbcelnlnpaaGreatDoor
open Go.RowKit

def txA:ByteArray:=⟨#[97]⟩
def txB:ByteArray:=⟨#[98]⟩
def txC:ByteArray:=⟨#[99]⟩
def txD:ByteArray:=⟨#[100]⟩
def d0:Dev:=newDev 9
def awC (d:Dev):Bool:=match openP d 3 with
  | (.inr (_, r), _)=>decide (r.length=4) && decide (r.getD 3 ByteArray.empty=txC)
  | _=>false
def awA (d:Dev):Bool:=match openP d 3 with
  | (.inr (L, r), d)=>decide (r=[ByteArray.empty]) && decide ((freeP (d.lasts.length / L.per) L.chain).length=2) &&
    (let a:=appP L d [txA]; let b:=appP a.2.1 a.2.2 [txB]; let c:=appP b.2.1 b.2.2 [txC]; let e:=appP c.2.1 c.2.2 [txD]
     decide (d.waits.length≤1000) && (decide (a.1=0) && decide (a.2.2.waits.length≤1000)) && (decide (b.1=0) && decide (b.2.2.waits.length≤1000)) && (decide (c.1=0) && decide (c.2.2.waits.length≤1000)) && (decide (e.1=11) && decide (e.2.2.waits.length≤1000)) && awC (e.2.2.kill ⟨0, -1, 0⟩))
  | _=>false
theorem awA_true:awA d0=true:=by decide +kernel
theorem chain_len {secs:List ByteArray} {per:Nat} {l:List (HV × Nat)} (wf:Wf secs per l) {s:Nat} {ch:List Nat} (hc:chainP secs per l s=some ch) (hm:mostS l<4294967296):ch.length≤4294967296:=by
  have hnd:=chainP_nodup (fun s e he=>⟨(wf.ok s e he).1, (wf.ok s e he).2.1⟩) hc
  exact nodup_le hnd (fun x hx=>Nat.lt_of_le_of_lt (found_le ((chainP_facts hc).1 x hx)) hm)
theorem openP_good {d d':Dev} {per:Nat} {L:Lg} {recs:List ByteArray} (hok:d.OK) (hoff:d.off=false) (hp:2≤per) (h3:3 * per≤d.lasts.length) (h:openP d per=(.inr (L, recs), d')):LgGood L d':=by
  have hlen:=d.secs_length
  have hfew:=hok.few
  have wf:Wf d.secs per (scan d.secs per):=scan_wf (Dev.secs_size hok hoff) (by omega) hp (by omega)
  cases hpk:pickP d.secs per (scan d.secs per) (isort ((scan d.secs per).map fun e=>e.1.sr)).reverse with
  | some ch =>
    rw [open_some hpk] at h
    cases h
    obtain ⟨s, hs, hc⟩:=pickP_some hpk
    have hs2:=(isort_perm _).mem_iff.1 (List.mem_reverse.1 hs)
    obtain ⟨e, he, rfl⟩:=List.mem_map.1 hs2
    exact found_good wf (by rw [wf.all e he]; rfl) hc (chain_len wf hc scan_most)
  | none =>
    by_cases he:(ckP (newL per (mostS (scan d.secs per))) d ByteArray.empty).1=0
    · rw [open_new hpk he] at h
      cases h
      exact ckP_good (newL_ok hp h3 scan_most) hok he
    · rw [open_err hpk he] at h
      cases h
theorem openP_len (d:Dev) (per:Nat):(openP d per).2.lasts.length=d.lasts.length:=by
  cases hpk:pickP d.secs per (scan d.secs per) (isort ((scan d.secs per).map fun e=>e.1.sr)).reverse with
  | some ch=>rw [open_some hpk]
  | none =>
    by_cases he:(ckP (newL per (mostS (scan d.secs per))) d ByteArray.empty).1=0
    · rw [open_new hpk he]; exact ckP_len _ _ _
    · rw [open_err hpk he]; exact ckP_len _ _ _
theorem kill_off (d:Dev) (c:Cr):(d.kill c).off=false:=by
  unfold Dev.kill; split <;> rfl
theorem kill_waits (d:Dev) (c:Cr):(d.kill c).waits.length≤d.waits.length:=by
  unfold Dev.kill Dev.lost
  split
  · exact Nat.le_refl _
  · exact Nat.zero_le _
theorem aw_facts:∃ L d1, openP d0 3=(.inr (L, [ByteArray.empty]), d1)∧(freeP (d1.lasts.length / L.per) L.chain).length=2∧d1.waits.length≤1000∧∃ a, appP L d1 [txA]=a∧a.1=0∧a.2.2.waits.length≤1000∧∃ b, appP a.2.1 a.2.2 [txB]=b∧b.1=0∧b.2.2.waits.length≤1000 ∧
    ∃ c, appP b.2.1 b.2.2 [txC]=c∧c.1=0∧c.2.2.waits.length≤1000∧∃ e, appP c.2.1 c.2.2 [txD]=e∧e.1=11∧e.2.2.waits.length≤1000∧awC (e.2.2.kill ⟨0, -1, 0⟩)=true:=by
  have h:=awA_true
  unfold awA at h
  rcases e:openP d0 3 with ⟨x, d1⟩
  rw [e] at h
  cases x with
  | inl v=>cases h
  | inr p =>
    obtain ⟨L, r⟩:=p
    simp only [Bool.and_eq_true, decide_eq_true_eq] at h
    obtain ⟨⟨h1, h2⟩, ⟨⟨⟨⟨⟨h3, h4, h5⟩, h6, h7⟩, h8, h9⟩, h10, h11⟩, h12⟩⟩:=h
    subst h1
    exact ⟨L, d1, rfl, h2, h3, _, rfl, h4, h5, _, rfl, h6, h7, _, rfl, h8, h9, _, rfl, h10, h11, h12⟩
theorem awC_facts {d:Dev} (h:awC d=true):∃ L r d', openP d 3=(.inr (L, r), d')∧r.length=4∧r.getD 3 ByteArray.empty=txC:=by
  unfold awC at h
  rcases e:openP d 3 with ⟨x, d'⟩
  rw [e] at h
  cases x with
  | inl v=>cases h
  | inr p =>
    obtain ⟨L, r⟩:=p
    simp only [Bool.and_eq_true, decide_eq_true_eq] at h
    exact ⟨L, r, d', rfl, h.1, h.2⟩
attribute [local irreducible] openP appP awC
section
variable {H:AH} {R:AEnd→AH→Prop}
theorem append1 {il i jl jw:Nat} {b:Option Addr} {c:Nat} {L:Lg} {d:Dev} (x:LD H il i jl jw b c L d) (g:LgGood L d) (hw:d.waits.length≤1099000000000) (s:ByteArray) {H0:AH} (f0:Fr [] H0 H)
    {K Kp:Value→AH→Prop} (h:∀ H' jw' b' c', LD H' il i jl jw' b' c' (appP L d [s]).2.1 (appP L d [s]).2.2→Fr [il, i, jl, jw] H H'→(jw'=i∨jw'=jw∨H.next≤jw')→(∀ o, b'=some ⟨o, 0, none⟩→b=some ⟨o, 0, none⟩∨H.next≤o)→K (.int .i64 (appP L d [s]).1) H') :
    wBs [.string s] 1 H fun i1 H2=>wCall Tryz.prog 18 [.pointer (some ⟨il, 0, none⟩), .slice (some ⟨i1, 0, none⟩) 1 0] H2 K Kp:=by
  have fp:Fr [] H (H.push (.row [.string s] 1)):=(Fr.refl [] H).push _
  have hx:=Has.new H (.row [.string s] 1)
  have hrd:RdStr (H.push (.row [.string s] 1)) (some ⟨H.next, 0, none⟩) 1 [s]:=.inr ⟨_, _, rfl, hx, rfl, fun k hk=>by
    have:k=0:=by simpa using hk
    subst this; rfl⟩
  refine wBs_at (wCall_of (append_call (x.fr fp) g hw hrd (by simp) (fun H' jw' b' c' x' f' hj hb=>?_)))
  have hn:=fp.next
  refine h H' jw' b' c' x' ((fp.mono (by simp)).trans f') (by omega) (fun o e=>?_)
  rcases hb o e with hh | hh
  · exact .inl hh
  · exact .inr (by omega)
set_option maxRecDepth 20000 in
set_option maxHeartbeats 4000000 in
theorem awake_call (h:∀ H', Fr [] H H'→R (.ret (.bool true)) H'):ACall Tryz.prog 8 [] H R:=by
  obtain ⟨L, d1, ho, hfree, hw1, a, ha, ha0, hwa, b, hb, hb0, hwb, c, hc, hc0, hwc, e, he, he0, hwe, hC⟩:=aw_facts
  have hl0:d0.lasts.length=9:=by decide +kernel
  have hok0:d0.OK:=newDev_ok 9 (by decide)
  have hoff0:d0.off=false:=rfl
  have g1:=openP_good hok0 hoff0 (by decide) (by omega) ho
  have hl1:d1.lasts.length=9:=by have:=openP_len d0 3; rw [ho] at this; rw [← hl0]; exact this
  apply f8_call
  unfold f8_B
  refine wCall_of (new_call 9 (fun H1 i jl hd1 f1 hi hjl=>opP_at ?_))
  have hs9:sectorsOf 9=9:=by decide
  rw [hs9] at hd1
  have hd1:DevAt H1 i jl i d0:=hd1
  refine wCall_of (open_call (per:=3) hd1 hok0 hoff0 (by decide) (by omega) (by omega) (by show 0≤_; omega) (fun H2 jw2 v hv=>by rw [ho] at hv; cases hv) (fun H2 il jw2 bc cc L' recs rb rn rc hv x2 hrs f12 hj2 hil hcb=>opT_at rfl (opP_at (opL_at (opI_at ?_)))))
  rw [ho] at hv x2
  cases hv
  have x2:LD H2 il i jl jw2 bc cc L d1:=x2
  have F2:Fr [] H H2:=f1.trans' f12 (fun z hz=>.inr (by simp at hz; omega))
  refine wIf_nf rfl (wIf_f rfl ?_)
  have hrl:=hrs.len
  have hrn:rn=1:=by rw [strs_length] at hrl; simpa using hrl
  subst hrn
  refine wIf_nf rfl ?_
  rcases hrs with ⟨_, h0, _⟩ | ⟨ro, rfl, rfl, _, hro, _⟩
  · cases h0
  refine wIx_at (by decide) (by decide) (ldS_at hro rfl (wIf_nf rfl ?_))
  refine wCall_of (frees_call x2.lg x2.dv x2.ok (by have:=g1.per2; omega) (by have:=g1.chl; omega) (fun H3 f23=>opI_at ?_))
  rw [hfree, f8_J0_eq]
  unfold f8_J0_B
  refine wIf_f rfl ?_
  rw [f8_J1_eq]
  unfold f8_J1_B
  have x3:=x2.fr f23
  refine append1 x3 g1 (by omega) txA (Fr.refl [] H3) (fun H4 jw4 b4 c4 x4 f34 hj4 hb4=>opI_at ?_)
  have g4:=appP_good g1 x3.ok [txA]
  rw [ha] at x4 g4 ⊢
  refine append1 x4 g4 (by omega) txB (Fr.refl [] H4) (fun H5 jw5 b5 c5 x5 f45 hj5 hb5=>opI_at ?_)
  have g5:=appP_good g4 x4.ok [txB]
  rw [hb] at x5 g5 ⊢
  refine append1 x5 g5 (by omega) txC (Fr.refl [] H5) (fun H6 jw6 b6 c6 x6 f56 hj6 hb6=>opI_at ?_)
  have g6:=appP_good g5 x5.ok [txC]
  rw [hc] at x6 g6 ⊢
  refine append1 x6 g6 (by omega) txD (Fr.refl [] H6) (fun H7 jw7 b7 c7 x7 f67 hj7 hb7=>opI_at ?_)
  have g7:=appP_good g6 x6.ok [txD]
  rw [he] at x7 g7 ⊢
  have hle:(e.2.2.kill ⟨0, -1, 0⟩).lasts.length=9:=by
    rw [kill_len]
    have h1:=appP_len L d1 [txA]
    rw [ha] at h1
    have h2:=appP_len a.2.1 a.2.2 [txB]
    rw [hb] at h2
    have h3:=appP_len b.2.1 b.2.2 [txC]
    rw [hc] at h3
    have h4:=appP_len c.2.1 c.2.2 [txD]
    rw [he] at h4
    omega
  refine wCall_of (kill_call x7.dv x7.ok ⟨0, -1, 0⟩ (fun H8 jw8 hd8 f78 hj8=>?_))
  obtain ⟨Lz, rz, dz, hoz, hrz, hr3⟩:=awC_facts hC
  refine wCall_of (open_call (per:=3) hd8 (x7.ok.kill _) (kill_off _ _) (by decide) (by omega) (by omega) (by have:=kill_waits e.2.2 ⟨0, -1, 0⟩; omega) (fun H9 jw9 v hv=>by rw [hoz] at hv; cases hv) (fun H9 il9 jw9 bc9 cc9 L9 recs9 rb9 rn9 rc9 hv x9 hrs9 f89 hj9 hil9 hcb9=>opT_at rfl (opP_at (opL_at (opI_at ?_)))))
  rw [hoz] at hv
  cases hv
  rw [ha0, hb0, hc0, he0]
  have hrl9:=hrs9.len
  have hrn9:rn9=4:=by rw [strs_length] at hrl9; omega
  subst hrn9
  refine wIf_t rfl (wIf_t rfl (wIf_t rfl (wIf_t rfl (wIf_t rfl (wIf_t rfl ?_)))))
  rcases hrs9 with ⟨_, h0, _⟩ | ⟨ro9, rfl, rfl, _, hro9, _⟩
  · cases h0
  have h3:(strs rz)[0 + Int.toNat 3 * 1]?=some (.string txC):=by
    have:(strs rz)[3]?=some (.string (rz.getD 3 ByteArray.empty)):=strs_getD rz 3 (by omega)
    rw [hr3] at this; exact this
  refine wIx_at (by decide) (by decide) (ldS_at hro9 h3 ?_)
  have hfin:decide (txC=(⟨#[99]⟩:ByteArray))=true:=by decide
  rw [hfin]
  refine h H9 ?_
  have n1:=f1.next
  have F3:=F2.trans f23
  have F4:Fr [] H H4:=F3.trans' f34 (fun z hz=>.inr (by simp at hz; omega))
  have n3:=F3.next
  have n4:=F4.next
  have F5:Fr [] H H5:=F4.trans' f45 (fun z hz=>.inr (by simp at hz; omega))
  have n5:=F5.next
  have F6:Fr [] H H6:=F5.trans' f56 (fun z hz=>.inr (by simp at hz; omega))
  have n6:=F6.next
  have F7:Fr [] H H7:=F6.trans' f67 (fun z hz=>.inr (by simp at hz; omega))
  have n7:=F7.next
  have F8:Fr [] H H8:=F7.trans' f78 (fun z hz=>.inr (by simp at hz; omega))
  exact F8.trans' f89 (fun z hz=>.inr (by simp at hz; omega))
end
end Go.Proofs.YtjhbbbcelnlnpaaGreatDoor
namespace Go.Proofs.YtjhbbbcelnlnpaaGreatDoor
open Go.RowKit

abbrev AllTrue:AEnd→AH→Prop:=fun e _=>e=.ret (.bool true)
def AH0:AH:=⟨0, fun _=>none, fun _=>none⟩
def mu0:Mu:=fun _=>none
theorem rel0 (w:World):Rel w.heap.size w mu0 AH0 w :=
  ⟨Below.refl _ _, Nat.le_refl _, fun i p h=>by simp [mu0] at h, fun i o h=>by simp [AH0] at h, fun i j o o' p q _ h=>by simp [AH0] at h, fun i x h=>by simp [AH0] at h⟩
theorem calls_of {P:Program} {f:FuncId} {args:List Value} {cargs:Array Value} {H:AH} {μ:Mu} {w:World} (hr:Rel w.heap.size w μ H w) (ha:LR μ args cargs) (h:ACall P f args H AllTrue) :
    Calls P f cargs w fun e w'=>e=.returned (.bool true)∧Below w.heap.size w w':=by
  refine (h w.heap.size w μ w cargs hr ha).mono ?_
  rintro e w' ⟨e', H', μ', rfl, h2, h3, h4⟩
  cases e with
  | returned v=>cases h4; exact ⟨rfl, h3.below⟩
  | panicked ch=>exact h4.elim
  | outgrown=>exact h4.elim
end Go.Proofs.YtjhbbbcelnlnpaaGreatDoor
namespace Go.Proofs.YtjhbbbcelnlnpaaGreatDoor
open Go.RowKit
section
variable {H:AH} {R:AEnd→AH→Prop}
set_option maxRecDepth 20000 in
theorem open_nil (per:Int) (h:∀ H', Fr [] H H'→R (.ret (.tuple #[.pointer none, .slice none 0 0, .int .i64 1])) H'):ACall Tryz.prog 13 [.pointer none, .int .i64 per] H R:=by
  refine f13_start _ _ H R (rwp_step f13_s0 f13p0_ok (f13p0_awp ?_))
  unfold f13p0_B
  have g1:=((Has.new H (.row [.pointer none] 0)).push (.row [.slice none 0 0] 0)).push (.row [.int .i64 0] 0)
  have g2:=(Has.new (H.push (.row [.pointer none] 0)) (.row [.slice none 0 0] 0)).push (.row [.int .i64 0] 0)
  have g3:=Has.new ((H.push (.row [.pointer none] 0)).push (.row [.slice none 0 0] 0)) (.row [.int .i64 0] 0)
  have f1:Fr [] H (((H.push (.row [.pointer none] 0)).push (.row [.slice none 0 0] 0)).push (.row [.int .i64 0] 0)):=(((Fr.refl [] H).push _).push _).push _
  refine wNew_at (wNew_at (wNew_at ?_))
  have e1:(H.push (.row [.pointer none] 0)).next=H.next + 1:=rfl
  have e2:((H.push (.row [.pointer none] 0)).push (.row [.slice none 0 0] 0)).next=H.next + 2:=rfl
  rw [e1] at g2 ⊢
  rw [e2] at g3 ⊢
  generalize (((H.push (.row [.pointer none] 0)).push (.row [.slice none 0 0] 0)).push (.row [.int .i64 0] 0))=H1 at g1 g2 g3 f1 ⊢
  refine rwp_step f13_s1 f13p1_ok (f13p1_awp ?_)
  unfold f13p1_B
  refine wIf_t rfl (wSt_at g1 (by simp) (wSt_at (g2.setne (by omega) _) (by simp) (wSt_at ((g3.setne (by omega) _).setne (by omega) _) (by simp) ?_)))
  have k1:=((g1.set (.row (setCells [.pointer none] 0 [.pointer none]) 0)).setne (j:=H.next + 1) (by omega) (.row (setCells [.slice none 0 0] 0 [.slice none 0 0]) 0)).setne (j:=H.next + 2) (by omega) (.row (setCells [.int .i64 0] 0 [.int .i64 1]) 0)
  have k2:=((g2.setne (j:=H.next) (by omega) (.row (setCells [.pointer none] 0 [.pointer none]) 0)).set (.row (setCells [.slice none 0 0] 0 [.slice none 0 0]) 0)).setne (j:=H.next + 2) (by omega) (.row (setCells [.int .i64 0] 0 [.int .i64 1]) 0)
  have k3:=((g3.setne (j:=H.next) (by omega) (.row (setCells [.pointer none] 0 [.pointer none]) 0)).setne (j:=H.next + 1) (by omega) (.row (setCells [.slice none 0 0] 0 [.slice none 0 0]) 0)).set (.row (setCells [.int .i64 0] 0 [.int .i64 1]) 0)
  show aPost _ _ R .ret _ _
  rw [f13_ret]
  exact wPt_at (ldP_at k1 rfl (wPt_at (ldL_at k2 rfl (wPt_at (ldI_at k3 rfl (h _ (((f1.set (.inr (by omega)) _).set (.inr (by omega)) _).set (.inr (by omega)) _)))))))
set_option maxRecDepth 20000 in
theorem open_arg {i jl jw:Nat} {d:Dev} (hd:DevAt H i jl jw d) (hfew:d.lasts.length≤4096) (per:Nat) (hp:per<2∨d.lasts.length / per<3) (h:∀ H', Fr [] H H'→R (.ret (.tuple #[.pointer none, .slice none 0 0, .int .i64 2])) H'):ACall Tryz.prog 13 [.pointer (some ⟨i, 0, none⟩), .int .i64 (per:Int)] H R:=by
  refine f13_start _ _ H R (rwp_step f13_s0 f13p0_ok (f13p0_awp ?_))
  unfold f13p0_B
  have g1:=((Has.new H (.row [.pointer none] 0)).push (.row [.slice none 0 0] 0)).push (.row [.int .i64 0] 0)
  have g2:=(Has.new (H.push (.row [.pointer none] 0)) (.row [.slice none 0 0] 0)).push (.row [.int .i64 0] 0)
  have g3:=Has.new ((H.push (.row [.pointer none] 0)).push (.row [.slice none 0 0] 0)) (.row [.int .i64 0] 0)
  have f1:Fr [] H (((H.push (.row [.pointer none] 0)).push (.row [.slice none 0 0] 0)).push (.row [.int .i64 0] 0)):=(((Fr.refl [] H).push _).push _).push _
  refine wNew_at (wNew_at (wNew_at ?_))
  have e1:(H.push (.row [.pointer none] 0)).next=H.next + 1:=rfl
  have e2:((H.push (.row [.pointer none] 0)).push (.row [.slice none 0 0] 0)).next=H.next + 2:=rfl
  rw [e1] at g2 ⊢
  rw [e2] at g3 ⊢
  generalize (((H.push (.row [.pointer none] 0)).push (.row [.slice none 0 0] 0)).push (.row [.int .i64 0] 0))=H1 at g1 g2 g3 f1 ⊢
  have hd1:=hd.fr f1 (by simp)
  refine rwp_step f13_s1 f13p1_ok (f13p1_awp ?_)
  unfold f13p1_B
  have out:∀ tm, (∀ HX, aPost Tryz.prog Tryz.f13 R .ret tm HX=(ldP H.next 0 HX fun a=>ldL (H.next + 1) 0 HX fun b l c=>ldI .i64 (H.next + 2) 0 HX fun n=>R (.ret (.tuple #[.pointer a, .slice b l c, .int .i64 n])) HX)) →
      wSt H.next 0 [.pointer none] H1 fun H2=>wSt (H.next + 1) 0 [.slice none 0 0] H2 fun H3=>wSt (H.next + 2) 0 [.int .i64 2] H3 fun H4=>aPost Tryz.prog Tryz.f13 R .ret tm H4:=by
    intro tm htm
    refine wSt_at g1 (by simp) (wSt_at (g2.setne (by omega) _) (by simp) (wSt_at ((g3.setne (by omega) _).setne (by omega) _) (by simp) ?_))
    have k1:=((g1.set (.row (setCells [.pointer none] 0 [.pointer none]) 0)).setne (j:=H.next + 1) (by omega) (.row (setCells [.slice none 0 0] 0 [.slice none 0 0]) 0)).setne (j:=H.next + 2) (by omega) (.row (setCells [.int .i64 0] 0 [.int .i64 2]) 0)
    have k2:=((g2.setne (j:=H.next) (by omega) (.row (setCells [.pointer none] 0 [.pointer none]) 0)).set (.row (setCells [.slice none 0 0] 0 [.slice none 0 0]) 0)).setne (j:=H.next + 2) (by omega) (.row (setCells [.int .i64 0] 0 [.int .i64 2]) 0)
    have k3:=((g3.setne (j:=H.next) (by omega) (.row (setCells [.pointer none] 0 [.pointer none]) 0)).setne (j:=H.next + 1) (by omega) (.row (setCells [.slice none 0 0] 0 [.slice none 0 0]) 0)).set (.row (setCells [.int .i64 0] 0 [.int .i64 2]) 0)
    rw [htm]
    exact ldP_at k1 rfl (ldL_at k2 rfl (ldI_at k3 rfl (h _ (((f1.set (.inr (by omega)) _).set (.inr (by omega)) _).set (.inr (by omega)) _))))
  refine wIf_f rfl (wIf_d (fun hlt=>?_) (fun hge=>?_))
  · rw [f13p1_J0_eq]
    unfold f13p1_J0_B
    refine wIf_t rfl (out _ fun HX=>?_)
    rw [f13_ret]; rfl
  · have hp2:2≤per:=by omega
    refine wCall_of (dsectors_call hd1 (opI_at (wNz_at (by omega) ?_)))
    have hNle:=Nat.div_le_self d.lasts.length per
    have eq:IntKind.i64.wrap (Int.tdiv ((d.lasts.length:Nat):Int) (per:Int))=((d.lasts.length / per:Nat):Int):=by
      have e:Int.tdiv ((d.lasts.length:Nat):Int) (per:Int)=((d.lasts.length / per:Nat):Int):=rfl
      rw [e]
      generalize d.lasts.length / per=z at hNle ⊢
      exact wi _ (by omega) (by omega)
    rw [eq, f13p1_J0_eq]
    unfold f13p1_J0_B
    refine wIf_dt (by omega) (out _ fun HX=>?_)
    rw [f13_ret]; rfl
set_option maxRecDepth 20000 in
theorem walNil_law (H:AH):ACall Tryz.prog 6 [] H AllTrue:=by
  apply f6_call
  unfold f6_B
  refine wCall_of (awake_call fun H1 f1=>opB_at (wIf_f rfl ?_))
  refine wCall_of (open_nil 3 fun H2 f2=>opT_at rfl (opP_at (opL_at (opI_at ?_))))
  have hs8:sectorsOf 8=8:=by decide
  have hl8:(newDev 8).lasts.length=8:=by decide +kernel
  refine wCall_of (new_call 8 (fun H3 i jl hd3 f3 hi hjl=>opP_at ?_))
  rw [hs8] at hd3
  refine wCall_of (open_arg hd3 (by omega) 3 (.inr (by omega)) fun H4 f4=>opT_at rfl (opP_at (opL_at (opI_at ?_))))
  refine wCall_of (new_call 8 (fun H5 i5 jl5 hd5 f5 hi5 hjl5=>opP_at ?_))
  rw [hs8] at hd5
  refine wCall_of (open_arg hd5 (by omega) 1 (.inl (by omega)) fun H6 f6=>opT_at rfl (opP_at (opL_at (opI_at ?_))))
  refine wCall_of (awake_call fun H7 f7=>opB_at (wIf_t rfl (wIf_t rfl (wIf_t rfl (wIf_t rfl ?_)))))
  refine wBs_at (wCall_of (append_nil _ _ _ (opI_at (wIf_t rfl (wCall_of (ckpt_nil _ (opI_at (wIf_t rfl (wCall_of (frees_nil (opI_at (wIf_t rfl (wCall_of (seq_nil (opI_at (wIf_t rfl (wCall_of (serial_nil (opI_at ?_)))))))))))))))))))
  exact rfl
end
end Go.Proofs.YtjhbbbcelnlnpaaGreatDoor
