/- The log's reader: all sectors, and the heads of the segments. -/
import Derived.Test.YtjhbbbcelnlnpaaGreatDoorWNba
namespace Go.Proofs.YtjhbbbcelnlnpaaGreatDoor
open Go.RowKit

def Dev.secs (d:Dev):List ByteArray:=(List.range d.lasts.length).map fun (k:Nat)=>(d.read (k:Int)).1
theorem Dev.secs_length (d:Dev):d.secs.length=d.lasts.length:=by simp [Dev.secs]
theorem Dev.secs_at (d:Dev) (k:Nat) (h:k<d.lasts.length):d.secs[k]?=some (d.read (k:Int)).1:=by simp [Dev.secs, h]
theorem lastW_mem (i:Nat):∀ (l:List (Nat × ByteArray)) (s:ByteArray), lastW i l=some s→∃ w ∈ l, w.2=s:=by
  intro l
  induction l with
  | nil=>intro s h; cases h
  | cons w l ih =>
    intro s h
    simp only [lastW] at h
    cases hq:lastW i l with
    | some t =>
      rw [hq] at h
      obtain ⟨w', h1, h2⟩:=ih t hq
      simp at h
      exact ⟨w', List.mem_cons_of_mem _ h1, by rw [h2]; exact h⟩
    | none =>
      rw [hq] at h
      simp at h
      exact ⟨w, List.mem_cons_self .., h.2⟩
theorem Dev.read_ok {d:Dev} (hok:d.OK) (hoff:d.off=false) (k:Nat) (h:k<d.lasts.length):(d.read (k:Int)).2=0∧(d.read (k:Int)).1.size=64:=by
  unfold Dev.read
  rw [if_neg (by rw [hoff]; simp), if_neg (by omega)]
  refine ⟨rfl, ?_⟩
  show ((lastW (k:Int).toNat d.waits).getD (d.lasts.getD (k:Int).toNat ByteArray.empty)).size=64
  rw [Int.toNat_natCast]
  cases hq:lastW k d.waits with
  | some s =>
    obtain ⟨w, h1, rfl⟩:=lastW_mem k _ _ hq
    exact (hok.waits w h1).2
  | none=>exact hok.lasts _ (getD_mem h)
theorem Dev.secs_size {d:Dev} (hok:d.OK) (hoff:d.off=false):∀ s ∈ d.secs, s.size=64:=by
  intro s hs
  unfold Dev.secs at hs
  obtain ⟨k, hk, rfl⟩:=List.mem_map.1 hs
  exact (Dev.read_ok hok hoff k (List.mem_range.1 hk)).2

def hfind (l:List (HV × Nat)) (s:Nat):Option (HV × Nat):=l.find? fun e=>e.1.sr == s
def hmap (l:List (HV × Nat)):List (Nat × Value):=l.map fun e=>(e.1.sr, .agg (hvC e.1).toArray)
def pmap (l:List (HV × Nat)):List (Nat × Value):=l.map fun e=>(e.1.sr, .int .i64 (e.2:Int))
theorem ufind_map {f:HV × Nat→Value}:∀ (l:List (HV × Nat)) (s:Nat), ufind (l.map fun e=>(e.1.sr, f e)) s=(hfind l s).map f:=by
  intro l s
  unfold ufind hfind
  induction l with
  | nil=>rfl
  | cons e l ih =>
    rw [List.map_cons, List.find?_cons, List.find?_cons]
    cases h:e.1.sr == s with
    | true=>rfl
    | false=>exact ih
theorem ufind_h (l:List (HV × Nat)) (s:Nat):ufind (hmap l) s=(hfind l s).map fun e=>.agg (hvC e.1).toArray:=ufind_map l s
theorem ufind_p (l:List (HV × Nat)) (s:Nat):ufind (pmap l) s=(hfind l s).map fun e=>.int .i64 (e.2:Int):=ufind_map l s
def mostS (l:List (HV × Nat)):Nat:=l.foldl (fun m e=>if m<e.1.sr then e.1.sr else m) 0
theorem mostS_snoc (l:List (HV × Nat)) (e:HV × Nat):mostS (l ++ [e])=if mostS l<e.1.sr then e.1.sr else mostS l:=by
  unfold mostS; rw [List.foldl_append]; rfl
def scanStep (secs:List ByteArray) (per:Nat) (l:List (HV × Nat)) (i:Nat):List (HV × Nat) :=
  if (getH (secs.getD (i * per) ByteArray.empty)).2=true∧hfind l (getH (secs.getD (i * per) ByteArray.empty)).1.sr=none then l ++ [((getH (secs.getD (i * per) ByteArray.empty)).1, i)] else l
def scanN (secs:List ByteArray) (per:Nat):Nat→List (HV × Nat)
  | 0=>[]
  | i + 1=>scanStep secs per (scanN secs per i) i
def scan (secs:List ByteArray) (per:Nat):List (HV × Nat):=scanN secs per (secs.length / per)

structure RdAt (H:AH) (ir js im ip:Nat) (secs:List ByteArray) (per:Nat) (l:List (HV × Nat)):Prop where
  own:Has H ir (.row [.slice (some ⟨js, 0, none⟩) secs.length 0, .int .i64 (per:Int), .map (some im), .map (some ip), .int .u32 (mostS l:Int)] 0)
  secs:Has H js (.row (strs secs) 1)
  heads:UMap H im (hmap l)
  places:UMap H ip (pmap l)
theorem RdAt.fr {S:List Nat} {H H':AH} {ir js im ip:Nat} {secs:List ByteArray} {per:Nat} {l:List (HV × Nat)} (h:RdAt H ir js im ip secs per l) (x:Fr S H H') (hs:ir ∉ S∧js ∉ S∧im ∉ S∧ip ∉ S):RdAt H' ir js im ip secs per l :=
  ⟨h.own.fr x hs.1, h.secs.fr x hs.2.1, h.heads.fr x hs.2.2.1, h.places.fr x hs.2.2.2⟩

theorem getH_fits (s:ByteArray):(getH s).1.fits:=by
  unfold getH
  split
  · exact ⟨by decide, by decide, by decide, by decide⟩
  · split
    · exact ⟨by decide, by decide, by decide, by decide⟩
    · split
      · exact hOf_fits s
      · exact ⟨by decide, by decide, by decide, by decide⟩

section
variable {H:AH} {R:AEnd→AH→Prop} {i jl jw:Nat} {d:Dev}
abbrev rrow (b:Option Addr) (l c per im ip:Nat) (m:Int):AObj:=.row [.slice b l c, .int .i64 (per:Int), .map (some im), .map (some ip), .int .u32 m] 0
set_option maxRecDepth 30000 in
set_option maxHeartbeats 1600000 in
theorem read_all (hd:DevAt H i jl jw d) (hok:d.OK) (hoff:d.off=false) {per:Nat} (hp:1≤per) (hn:1≤d.lasts.length) (hpb:per≤1099511627776)
    (h:∀ H' ir js im ip, RdAt H' ir js im ip d.secs per (scan d.secs per)→Fr [] H H'→H.next≤ir→H.next≤js→H.next≤im→H.next≤ip→R (.ret (.tuple #[.pointer (some ⟨ir, 0, none⟩), .int .i64 0])) H') :
    ACall Tryz.prog 33 [.pointer (some ⟨i, 0, none⟩), .int .i64 (per:Int)] H R:=by
  apply f33_call
  unfold f33_B
  have hfew:=hok.few
  -- the reader is laid
  obtain ⟨H3, hH3⟩:∃ H3, ((H.push (.map [] 0)).push (.map [] 0)).push (rrow none 0 0 per H.next (H.next + 1) 0)=H3:=⟨_, rfl⟩
  have n3:H3.next=H.next + 3:=by rw [← hH3]; rfl
  have f3:Fr [] H H3:=by rw [← hH3]; exact (((Fr.refl [] H).push _).push _).push _
  have hm3:Has H3 H.next (.map [] 0):=by rw [← hH3]; exact ((Has.new H _).push _).push _
  have hq3:Has H3 (H.next + 1) (.map [] 0):=by rw [← hH3]; exact (Has.new (H.push (.map [] 0)) _).push _
  have hr3:Has H3 (H.next + 2) (rrow none 0 0 per H.next (H.next + 1) 0):=by rw [← hH3]; exact Has.new ((H.push (.map [] 0)).push (.map [] 0)) _
  refine wMm_at (wMm_at (wNew_at ?_))
  show wCall _ _ _ (((H.push (.map [] 0)).push (.map [] 0)).push (rrow none 0 0 per H.next (H.next + 1) 0)) _ _
  rw [hH3]
  have e2:((H.push (.map [] 0)).push (.map [] 0)).next=H.next + 2:=rfl
  rw [e2]
  generalize him:H.next=im at hm3 hr3 ⊢
  have hq3':Has H3 (im + 1) (.map [] 0):=by rw [← him]; exact hq3
  have hr3':Has H3 (im + 2) (rrow none 0 0 per im (im + 1) 0):=by rw [← him] at hr3 ⊢; exact hr3
  clear hq3 hr3
  generalize hip:im + 1=ip at hq3' hr3' ⊢
  generalize hir:im + 2=ir at hr3' ⊢
  have hd3:=hd.fr f3 (by simp)
  refine wCall_of (dsectors_call hd3 (opI_at ?_))
  refine f33_L0_rule (J:=fun m s H'=>∃ (k:Nat) (b:Option Addr) (l c:Nat), k≤d.lasts.length∧s=(k:Int)∧m=d.lasts.length - k∧OwnC H3.next H' 1 b l c (strs (d.secs.take k)) ∧
      Has H' ir (rrow b l c per im ip 0)∧Has H' im (.map [] 0)∧Has H' ip (.map [] 0)∧Fr [] H H'∧H3.next≤H'.next) d.lasts.length
    ⟨0, none, 0, 0, Nat.zero_le _, rfl, rfl, OwnC.nil _ _ _, hr3', hm3, hq3', f3, Nat.le_refl _⟩ ?_
  rintro m s H4 ⟨k, b, l, c, hk, rfl, rfl, hown, hr4, hm4, hq4, f4, hn4⟩
  intros
  unfold f33_R0
  have hlen:=hown.len
  rw [strs_length, List.length_take, Dev.secs_length, Nat.min_eq_left hk, Nat.mul_one] at hlen
  subst hlen
  refine wIf_d (fun hlt=>?_) (fun hge=>?_)
  · have hlt:l<d.lasts.length:=by omega
    have hd4:=hd.fr f4 (by simp)
    obtain ⟨r1, r2⟩:=Dev.read_ok hok hoff l hlt
    refine wCall_of (read_call hd4 hok (l:Int) (opT_at rfl (opS_at (opI_at ?_))))
    refine wIf_nf r1 ?_
    refine wPt_at (ldL_at hr4 rfl ?_)
    refine app1 hown hn4 rfl rfl (by omega) (by omega) (fun o H5 hown5 f5 ho=>?_)
    have hir3:ir<H3.next:=by rw [n3]; omega
    have hbo:∀ x, x<H3.next→x ∉ ownS b:=by
      intro x hx hxb
      rcases hown with ⟨rfl, _⟩ | ⟨o', rfl, _, _, _, hb⟩
      · simp [ownS] at hxb
      · simp [ownS] at hxb; omega
    have hr5:=hr4.fr f5 (hbo _ hir3)
    have hm5:=hm4.fr f5 (hbo _ (by rw [n3]; omega))
    have hq5:=hq4.fr f5 (hbo _ (by rw [n3]; omega))
    refine wPt_at (wSt_at hr5 (by simp) ?_)
    have hs5:Has (H5.set ir (.row (setCells [.slice b l c, .int .i64 (per:Int), .map (some im), .map (some ip), .int .u32 0] 0 [.slice (some ⟨o, 0, none⟩) (l + 1) 0]) 0)) ir (rrow (some ⟨o, 0, none⟩) (l + 1) 0 per im ip 0):=hr5.set _
    have e1:strs (d.secs.take l) ++ [.string (d.read (l:Int)).1]=strs (d.secs.take (l + 1)):=by
      rw [List.take_add_one, Dev.secs_at d l hlt]; simp [strs]
    rw [e1] at hown5
    have f45:Fr [] H H5:=f4.trans' f5 (fun x hx=>.inr (by
      rcases Nat.lt_or_ge x H3.next with hh | hh
      · exact absurd hx (hbo x hh)
      · omega))
    refine ⟨d.lasts.length - (l + 1), by omega, f33_I0_mk ⟨l + 1, some ⟨o, 0, none⟩, l + 1, 0, hlt, wi1 l (by omega), rfl, ?_, hs5, hm5.setne (by omega) _, hq5.setne (by omega) _, f45.set (.inr (by omega)) _, ?_⟩⟩
    · rcases hown5 with ⟨e, _⟩ | ⟨o', e, a1, a2, a3, a4⟩
      · cases e
      · cases e
        exact .inr ⟨o, rfl, rfl, a2, a3.setne (by omega) _, a4⟩
    · show H3.next≤H5.next
      have:=f5.next; omega
  · have hk:l=d.lasts.length:=by omega
    subst hk
    rw [← Dev.secs_length d, List.take_length] at hown
    have hN:=Dev.secs_length d
    have hfewS:d.secs.length≤4096:=by omega
    rcases hown with ⟨rfl, e0, _⟩ | ⟨js, rfl, rfl, _, hjs, hjc⟩
    · omega
    rw [f33_J0_eq]
    unfold f33_J0_B
    refine wPt_at (ldL_at hr4 rfl (wNz_at (by omega) ?_))
    have hdiv:IntKind.i64.wrap (Int.tdiv ((d.lasts.length:Nat):Int) (per:Int))=((d.lasts.length / per:Nat):Int):=by
      have e:Int.tdiv ((d.lasts.length:Nat):Int) (per:Int)=((d.lasts.length / per:Nat):Int):=rfl
      rw [e]
      have:=Nat.div_le_self d.lasts.length per
      generalize d.lasts.length / per=z at this ⊢
      exact wi _ (by omega) (by omega)
    rw [hdiv]
    have hmul:d.lasts.length / per * per≤d.lasts.length:=Nat.div_mul_le_self _ _
    have hNle:=Nat.div_le_self d.lasts.length per
    generalize hNN:d.lasts.length / per=N at hmul hNle ⊢
    have hjn:∀ x, x<H3.next→x ≠ js:=fun x hx e=>by omega
    have hjlt:=hjs.lt
    clear hn4
    have hjr:js ≠ ir:=by omega
    refine f33_L1_rule (J:=fun m s H'=>∃ k:Nat, k≤N∧s=(k:Int)∧m=N - k∧Has H' ir (rrow (some ⟨js, 0, none⟩) d.lasts.length 0 per im ip (mostS (scanN d.secs per k):Int))∧Has H' js (.row (strs d.secs) 1) ∧
        UMap H' im (hmap (scanN d.secs per k))∧UMap H' ip (pmap (scanN d.secs per k))∧Fr [] H H'∧H4.next≤H'.next) N ⟨0, Nat.zero_le _, rfl, rfl, hr4, hjs, hm4, hq4, f4, Nat.le_refl _⟩ ?_
    have hfits:=fun k=>getH_fits (d.secs.getD (k * per) ByteArray.empty)
    clear hr4 hm4 hq4 hjs f4
    rintro m s H5 ⟨k, hk, rfl, rfl, hr5, hjs5, hm5, hq5, f5, hn5⟩
    intros
    unfold f33_R1
    refine wIf_d (fun hlt=>?_) (fun hge=>?_)
    · have hlt:k<N:=by omega
      have hkp:k * per<d.lasts.length:=by
        have:(k + 1) * per≤N * per:=Nat.mul_le_mul_right _ hlt
        rw [Nat.add_mul] at this; omega
      have e1:IntKind.i64.wrap ((k:Int) * (per:Int))=((k * per:Nat):Int):=by
        have e:(k:Int) * (per:Int)=((k * per:Nat):Int):=by push_cast; rfl
        rw [e, wi _ (by omega) (by omega)]
      refine wPt_at (ldL_at hr5 rfl ?_)
      rw [e1]
      have hget:(strs d.secs)[0 + Int.toNat ((k * per:Nat):Int) * 1]?=some (.string (d.secs.getD (k * per) ByteArray.empty)):=by
        rw [Int.toNat_natCast, Nat.zero_add, Nat.mul_one]
        exact strs_getD _ _ (by rw [hN]; exact hkp)
      have hsz:(d.secs.getD (k * per) ByteArray.empty).size=64:=Dev.secs_size hok hoff _ (getD_mem (by rw [hN]; exact hkp))
      have hff:=hfits k
      have hstep:scanN d.secs per (k + 1)=scanStep d.secs per (scanN d.secs per k) k:=rfl
      unfold scanStep at hstep
      generalize d.secs.getD (k * per) ByteArray.empty=t at hget hsz hff hstep
      generalize scanN d.secs per k=l at hr5 hm5 hq5 hstep
      refine wIx_at (by omega) (by omega) (ldS_at hjs5 hget ?_)
      refine wCall_of (geth_call t (by omega) (fun H6 f6=>opT_at rfl (opA_at rfl (opI_at (opI_at (opI_at (opI_at (opB_at ?_))))))))
      have hr6:=hr5.fr f6 (by simp)
      have hjs6:=hjs5.fr f6 (by simp)
      have hm6:=hm5.fr f6 (by simp)
      have hq6:=hq5.fr f6 (by simp)
      have f06:=f5.trans f6
      have hn6:H4.next≤H6.next:=Nat.le_trans hn5 f6.next
      clear hr5 hjs5 hm5 hq5 f5 hn5 f6
      obtain ⟨ok, hok2⟩:∃ b, (getH t).2=b:=⟨_, rfl⟩
      obtain ⟨v, hv⟩:∃ v, (getH t).1=v:=⟨_, rfl⟩
      rw [hv] at hff hstep
      rw [hok2] at hstep ⊢
      rw [hv]
      refine wNew_at ?_
      have hz:=Has.new H6 (.row zhC 0)
      obtain ⟨q, hqq⟩:∃ q, H6.next=q:=⟨_, rfl⟩
      rw [hqq] at hz ⊢
      refine wSt_at hz (by simp) ?_
      have hz7:Has ((H6.push (.row zhC 0)).set q (.row (setCells zhC 0 [.int .u32 (v.sr:Int), .int .u32 (v.ba:Int), .int .u32 (v.pr:Int), .int .u64 (v.sq:Int)]) 0)) q (.row (hvC v) 0):=hz.set _
      have f67:Fr [] H6 ((H6.push (.row zhC 0)).set q (.row (setCells zhC 0 [.int .u32 (v.sr:Int), .int .u32 (v.ba:Int), .int .u32 (v.pr:Int), .int .u64 (v.sq:Int)]) 0)):=((Fr.refl [] H6).push _).set (.inr (by omega)) _
      generalize ((H6.push (.row zhC 0)).set q (.row (setCells zhC 0 [.int .u32 (v.sr:Int), .int .u32 (v.ba:Int), .int .u32 (v.pr:Int), .int .u64 (v.sq:Int)]) 0))=H7 at hz7 f67 ⊢
      have hr7:=hr6.fr f67 (by simp)
      have hjs7:=hjs6.fr f67 (by simp)
      have hm7:=hm6.fr f67 (by simp)
      have hq7:=hq6.fr f67 (by simp)
      have f07:=f06.trans f67
      have hn7:H4.next≤H7.next:=Nat.le_trans hn6 f67.next
      have hqi:q ≠ ir:=by have:=hr6.lt; omega
      have hqm:q ≠ im:=by have:=Has.lt hm6; omega
      have hqp:q ≠ ip:=by have:=Has.lt hq6; omega
      have hqj:q ≠ js:=by have:=hjs6.lt; omega
      clear hr6 hjs6 hm6 hq6 f06 f67 hz
      refine wPt_at (ldM_at hr7 rfl (ldI_at hz7 rfl ?_))
      -- nothing new
      have skip:(ok=false∨hfind l v.sr ≠ none)→∃ k':Nat, k'≤N∧IntKind.i64.wrap ((k:Int) + 1)=(k':Int)∧N - (k + 1)=N - k'∧Has H7 ir (rrow (some ⟨js, 0, none⟩) d.lasts.length 0 per im ip (mostS (scanN d.secs per k'):Int))∧Has H7 js (.row (strs d.secs) 1) ∧
          UMap H7 im (hmap (scanN d.secs per k'))∧UMap H7 ip (pmap (scanN d.secs per k'))∧Fr [] H H7∧H4.next≤H7.next:=by
        intro e
        have:scanN d.secs per (k + 1)=l:=by
          rw [hstep, if_neg]
          rintro ⟨a, b⟩
          rcases e with e | e
          · rw [e] at a; cases a
          · exact e b
        refine ⟨k + 1, hlt, wi1 k (by omega), rfl, ?_, hjs7, ?_, ?_, f07, hn7⟩
        · rw [this]; exact hr7
        · rw [this]; exact hm7
        · rw [this]; exact hq7
      have two:∀ (z:Int) (b:Bool), (b=true→hfind l v.sr ≠ none)→(b=false→hfind l v.sr=none)→True:=fun _ _ _ _=>trivial
      cases hf:hfind l v.sr with
      | some e =>
        have hu:ufind (pmap l) v.sr=some (.int .i64 (e.2:Int)):=by rw [ufind_p, hf]; rfl
        refine wLk_some hq7 hu (opI_at ?_)
        rw [f33_J1_eq]
        unfold f33_J1_B
        cases ok with
        | false =>
          refine wIf_t rfl ?_
          rw [f33_J2_eq]
          unfold f33_J2_B
          exact wIf_t rfl ⟨N - (k + 1), by omega, f33_I1_mk (skip (.inl rfl))⟩
        | true =>
          refine wIf_f rfl ?_
          rw [f33_J2_eq]
          unfold f33_J2_B
          exact wIf_t rfl ⟨N - (k + 1), by omega, f33_I1_mk (skip (.inr (by rw [hf]; simp)))⟩
      | none =>
        have hu:ufind (pmap l) v.sr=none:=by rw [ufind_p, hf]; rfl
        have hu2:ufind (hmap l) v.sr=none:=by rw [ufind_h, hf]; rfl
        refine wLk_none hq7 hu (opI_at ?_)
        rw [f33_J1_eq]
        unfold f33_J1_B
        cases ok with
        | false =>
          refine wIf_t rfl ?_
          rw [f33_J2_eq]
          unfold f33_J2_B
          exact wIf_t rfl ⟨N - (k + 1), by omega, f33_I1_mk (skip (.inl rfl))⟩
        | true =>
          rw [if_pos ⟨rfl, hf⟩] at hstep
          refine wIf_f rfl ?_
          rw [f33_J2_eq]
          unfold f33_J2_B
          refine wIf_f rfl ?_
          rw [f33_J3_eq]
          unfold f33_J3_B
          have pin1:∀ H', Has H' q (.row (hvC v) 0)→PinOK q 0 [.int .u32 (v.sr:Int)] H':=fun H' hh=>PinOK_at hh (by simp) rfl
          refine wPt_at (wPt_at (ldM_at hr7 rfl (ldI_at hz7 rfl (ldM_at hr7 rfl (ldI_at hz7 rfl (ldI_at hz7 rfl (ldI_at hz7 rfl (ldI_at hz7 rfl (ldI_at hz7 rfl ?_)))))))))
          have hlh:l.length=(hmap l).length:=by simp [hmap]
          have hlp:l.length=(pmap l).length:=by simp [pmap]
          refine wMe_new hm7 hu2 (fun H8 hm8 f78=>opA_at rfl (opI_at (opI_at (opI_at (opI_at ?_)))))
          have hz8:=hz7.fr f78 (by simp [hqm])
          refine ⟨PinOK_at hz8 (by simp) rfl, pin1 _ hz8, ?_⟩
          refine wEs_new hm8 (fun H9 hm9 f89=>⟨pin1 _ (hz8.fr f89 (by simp [hqm])), ?_⟩)
          have f79:Fr [im] H7 H9:=f78.trans f89
          have hq9:=hq7.fr f79 (by simp; omega)
          refine wMe_new hq9 hu (fun H10 hq10 f910=>opI_at (wEs_new hq10 (fun H11 hq11 f1011=>?_)))
          have f911:Fr [ip] H9 H11:=f910.trans f1011
          have hm11:=hm9.fr f911 (by simp; omega)
          have hr11:=(hr7.fr f79 (by simp; omega)).fr f911 (by simp; omega)
          have hjs11:=(hjs7.fr f79 (by simp; omega)).fr f911 (by simp; omega)
          have hz11:=(hz7.fr f79 (by simp [hqm])).fr f911 (by simp [hqp])
          have f011:Fr [] H H11:=(f07.trans' f79 (fun x hx=>.inr (by simp at hx; omega))).trans' f911 (fun x hx=>.inr (by simp at hx; omega))
          have hn11:H4.next≤H11.next:=Nat.le_trans hn7 (Nat.le_trans f79.next f911.next)
          rw [f33_J4_eq]
          unfold f33_J4_B
          refine wPt_at (ldI_at hr11 rfl (ldI_at hz11 rfl (wPt_at (wSt_at hr11 (by simp) ?_))))
          have hlm:hmap l ++ [(v.sr, .agg #[.int .u32 (v.sr:Int), .int .u32 (v.ba:Int), .int .u32 (v.pr:Int), .int .u64 (v.sq:Int)])]=hmap (l ++ [(v, k)]):=by simp [hmap]
          have hlq:pmap l ++ [(v.sr, .int .i64 (k:Int))]=pmap (l ++ [(v, k)]):=by simp [pmap]
          rw [hlm] at hm11
          rw [hlq] at hq11
          rw [← hstep] at hm11 hq11
          have hmx:(if ((mostS l:Nat):Int)<(v.sr:Int) then (v.sr:Int) else ((mostS l:Nat):Int))=((mostS (scanN d.secs per (k + 1)):Nat):Int):=by
            rw [hstep, mostS_snoc]
            by_cases hc:mostS l<v.sr
            · rw [if_pos hc, if_pos (by omega)]
            · rw [if_neg hc, if_neg (by omega)]
          rw [hmx]
          exact ⟨N - (k + 1), by omega, f33_I1_mk ⟨k + 1, hlt, wi1 k (by omega), rfl, hr11.set _, hjs11.setne (Ne.symm hjr.symm) _, hm11.setne (by omega) _, hq11.setne (by omega) _, f011.set (.inr (by omega)) _, hn11⟩⟩
    · have hk:k=N:=by omega
      subst hk
      rw [f33_J5_eq]
      unfold f33_J5_B
      have hsc:scanN d.secs per k=scan d.secs per:=by unfold scan; rw [hN, hNN]
      rw [hsc] at hr5 hm5 hq5
      refine h H5 ir js im ip ⟨?_, hjs5, hm5, hq5⟩ f5 (by omega) (by omega) (by omega) (by omega)
      rw [hN]; exact hr5
end
end Go.Proofs.YtjhbbbcelnlnpaaGreatDoor
