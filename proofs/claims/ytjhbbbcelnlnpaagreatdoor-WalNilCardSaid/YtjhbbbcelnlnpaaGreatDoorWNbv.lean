/- The log: Open. -/
import Derived.Test.YtjhbbbcelnlnpaaGreatDoorWNbu
namespace Go.Proofs.YtjhbbbcelnlnpaaGreatDoor
open Go.RowKit

structure Ob (H0:AH) (d:Dev) (per b1 b2 b3 br bl il ir js im ip i jl jw:Nat) (H:AH):Prop where
  r1:Has H b1 (.row [.pointer none] 0)
  r2:Has H b2 (.row [.slice none 0 0] 0)
  r3:Has H b3 (.row [.int .i64 0] 0)
  rb:Has H br (.row [.pointer (some ⟨ir, 0, none⟩)] 0)
  lb:Has H bl (.row [.pointer (some ⟨il, 0, none⟩)] 0)
  lg:Has H il (.row (lrow i none 0 0 (newL per (mostS (scan d.secs per)))) 0)
  rd:RdAt H ir js im ip d.secs per (scan d.secs per)
  dv:DevAt H i jl jw d
  fr:Fr [] H0 H
  low:H0.next≤b1∧b1<b2∧b2<b3∧b3<br∧b3<il∧il<bl∧H0.next≤ir∧H0.next≤js∧H0.next≤im∧H0.next≤ip∧ir ≠ il∧js ≠ il∧br<il
section
variable {H0 H H':AH} {d:Dev} {per b1 b2 b3 br bl il ir js im ip i jl jw:Nat}
theorem Ob.step (h:Ob H0 d per b1 b2 b3 br bl il ir js im ip i jl jw H) (f:Fr [] H H'):Ob H0 d per b1 b2 b3 br bl il ir js im ip i jl jw H' :=
  ⟨h.r1.fr f (by simp), h.r2.fr f (by simp), h.r3.fr f (by simp), h.rb.fr f (by simp), h.lb.fr f (by simp), h.lg.fr f (by simp), h.rd.fr f (by simp), h.dv.fr f (by simp), h.fr.trans f, h.low⟩
theorem UMap.oth {m:Nat} {l:List (Nat × Value)} {z:Nat} {x y:Obj} (h:UMap H m l) (hz:H.get z=some (.other x)):UMap (H.set z (.other y)) m l :=
  Has.setne h (fun e=>by subst e; rw [Has.get h] at hz; cases hz) _
theorem RdAt.oth {secs:List ByteArray} {l:List (HV × Nat)} {z:Nat} {x y:Obj} (h:RdAt H ir js im ip secs per l) (hz:H.get z=some (.other x)):RdAt (H.set z (.other y)) ir js im ip secs per l :=
  ⟨h.own.oth hz, h.secs.oth hz, h.heads.oth hz, h.places.oth hz⟩
theorem DevAt.oth {z:Nat} {x y:Obj} (h:DevAt H i jl jw d) (hz:H.get z=some (.other x)):DevAt (H.set z (.other y)) i jl jw d :=
  ⟨h.own.oth hz, h.lasts.oth hz, fun e=>(h.waits e).oth hz, h.ne, h.emp, h.nw⟩
theorem Ob.oth {z:Nat} {x y:Obj} (h:Ob H0 d per b1 b2 b3 br bl il ir js im ip i jl jw H) (hz:H.get z=some (.other x)) (hn:H0.next≤z):Ob H0 d per b1 b2 b3 br bl il ir js im ip i jl jw (H.set z (.other y)) :=
  ⟨h.r1.oth hz, h.r2.oth hz, h.r3.oth hz, h.rb.oth hz, h.lb.oth hz, h.lg.oth hz, h.rd.oth hz, h.dv.oth hz, h.fr.set (.inr hn) _, h.low⟩
structure Oe (H0:AH) (b1 b2 b3 il i jl jw jw':Nat) (b:Option Addr) (c:Nat) (L:Lg) (d':Dev) (rb:Option Addr) (rn rc:Nat) (recs:List ByteArray) (H:AH):Prop where
  r1:Has H b1 (.row [.pointer (some ⟨il, 0, none⟩)] 0)
  r2:Has H b2 (.row [.slice rb rn rc] 0)
  r3:Has H b3 (.row [.int .i64 0] 0)
  ld:LD H il i jl jw' b c L d'
  rs:OwnC H0.next H 1 rb rn rc (strs recs)
  fr:Fr [i, jl, jw] H0 H
  jj:jw'=i∨jw'=jw∨H0.next≤jw'
  ll:H0.next≤il
  cc:∀ o, b=some ⟨o, 0, none⟩→H0.next≤o
theorem OwnC.oth {c0 esz l c:Nat} {b:Option Addr} {cs:List Value} {z:Nat} {x y:Obj} (h:OwnC c0 H esz b l c cs) (hz:H.get z=some (.other x)):OwnC c0 (H.set z (.other y)) esz b l c cs:=by
  rcases h with h | ⟨o, h1, h2, h3, h4, h5⟩
  · exact .inl h
  · exact .inr ⟨o, h1, h2, h3, h4.oth hz, h5⟩
theorem LD.oth {b:Option Addr} {c:Nat} {L:Lg} {z:Nat} {x y:Obj} (h:LD H il i jl jw b c L d) (hz:H.get z=some (.other x)):LD (H.set z (.other y)) il i jl jw b c L d :=
  ⟨⟨h.lg.own.oth hz, OwnC.oth h.lg.chain hz, h.lg.ne⟩, h.dv.oth hz, h.ok, h.ai, h.al, h.aw, h.ch⟩
theorem Oe.oth {jw':Nat} {b:Option Addr} {c:Nat} {L:Lg} {d':Dev} {rb:Option Addr} {rn rc:Nat} {recs:List ByteArray} {z:Nat} {x y:Obj} (h:Oe H0 b1 b2 b3 il i jl jw jw' b c L d' rb rn rc recs H) (hz:H.get z=some (.other x)) (hn:H0.next≤z) :
    Oe H0 b1 b2 b3 il i jl jw jw' b c L d' rb rn rc recs (H.set z (.other y)) :=
  ⟨h.r1.oth hz, h.r2.oth hz, h.r3.oth hz, h.ld.oth hz, h.rs.oth hz, h.fr.set (.inr hn) _, h.jj, h.ll, h.cc⟩
theorem backward_call {R:AEnd→AH→Prop} (sb:Option Addr) (sl sc:Nat) (h:R (.ret (.func (.func 66) #[] #[.pointer (some ⟨H.next, 0, none⟩)])) (H.push (.row [.slice sb sl sc] 0))) :
    ACall Tryz.prog 35 [.slice sb sl sc] H R:=by
  apply f35_call
  unfold f35_B
  exact wNew_at h
theorem pick_none {secs:List ByteArray} {l:List (HV × Nat)}:∀ {r:List Nat}, (∀ s ∈ r, chainP secs per l s=none)→pickP secs per l r=none
  | [], _=>rfl
  | s :: r, h=>by
    unfold pickP
    rw [h s (by simp)]
    exact pick_none fun x hx=>h x (by simp [hx])
theorem pick_split {secs:List ByteArray} {l:List (HV × Nat)} {s:Nat} {ch:List Nat}:∀ {r t:List Nat}, (∀ s ∈ r, chainP secs per l s=none)→chainP secs per l s=some ch→pickP secs per l (r ++ s :: t)=some ch
  | [], t, _, hc=>by rw [List.nil_append]; unfold pickP; rw [hc]
  | a :: r, t, h, hc=>by
    rw [List.cons_append]
    unfold pickP
    rw [h a (by simp)]
    exact pick_split (fun x hx=>h x (by simp [hx])) hc
end
theorem sli_of {H:AH} {sb:Option Addr} {sl sc:Nat} {ys:List Nat} (h:OwnC 0 H 1 sb sl sc (u32s ys)) (hn:ys=[]→sb=none):SlI H .u32 (.slice sb sl sc) (ys.map fun (x:Nat)=>(x:Int)):=by
  have hl:=h.len
  rw [u32s_length] at hl
  rcases h with ⟨rfl, rfl, rfl, e⟩ | ⟨o, rfl, rfl, h3, h4, _⟩
  · have:ys=[]:=List.length_eq_zero_iff.1 (by omega)
    subst this
    exact .inl ⟨rfl, rfl⟩
  · refine .inr ⟨o, 0, 0, u32s ys, 1, by rw [List.length_map]; congr 1; omega, fun e=>?_, .inl h4.get, fun j hj=>?_⟩
    · have:ys=[]:=by simpa using e
      exact absurd (hn this) (by simp)
    · rw [List.length_map] at hj
      rw [Nat.zero_add, u32s_at ys j hj, List.getElem?_map, List.getElem?_eq_getElem hj, List.getD_eq_getElem?_getD, List.getElem?_eq_getElem hj]; rfl
theorem Two.fr {N:Nat} {oL:Obj} {H H':AH} {S:List Nat} (h:Two N oL H) (f:Fr S H H') (hn:N + 2≤H.next) (hs:∀ x ∈ S, x<N):Two N oL H':=by
  refine ⟨?_, ?_⟩
  · rw [f.get N (by omega) (fun e=>by have:=hs _ e; omega)]; exact h.1
  · rw [f.get (N + 1) (by omega) (fun e=>by have:=hs _ e; omega)]; exact h.2
theorem LD.frs {S:List Nat} {H H':AH} {il i jl jw:Nat} {b:Option Addr} {c:Nat} {L:Lg} {d:Dev} (h:LD H il i jl jw b c L d) (f:Fr S H H') (hs:il ∉ S∧i ∉ S∧jl ∉ S∧jw ∉ S∧∀ o, b=some ⟨o, 0, none⟩→o ∉ S):LD H' il i jl jw b c L d :=
  ⟨h.lg.fr f ⟨hs.1, hs.2.2.2.2⟩, h.dv.fr f ⟨hs.2.1, hs.2.2.1, hs.2.2.2.1⟩, h.ok, h.ai, h.al, h.aw, h.ch⟩
theorem open_some {d:Dev} {per:Nat} {ch:List Nat} (h:pickP d.secs per (scan d.secs per) (isort ((scan d.secs per).map fun e=>e.1.sr)).reverse=some ch) :
    openP d per=(.inr (foundL d.secs per (scan d.secs per) ch, (recs0 d.secs per (scan d.secs per) ch).1), d):=by unfold openP; rw [h]
theorem open_err {d:Dev} {per:Nat} (h:pickP d.secs per (scan d.secs per) (isort ((scan d.secs per).map fun e=>e.1.sr)).reverse=none) (he:(ckP (newL per (mostS (scan d.secs per))) d ByteArray.empty).1 ≠ 0) :
    openP d per=(.inl (ckP (newL per (mostS (scan d.secs per))) d ByteArray.empty).1, (ckP (newL per (mostS (scan d.secs per))) d ByteArray.empty).2.2):=by unfold openP; rw [h]; simp only [if_pos he]
theorem open_new {d:Dev} {per:Nat} (h:pickP d.secs per (scan d.secs per) (isort ((scan d.secs per).map fun e=>e.1.sr)).reverse=none) (he:(ckP (newL per (mostS (scan d.secs per))) d ByteArray.empty).1=0) :
    openP d per=(.inr ((ckP (newL per (mostS (scan d.secs per))) d ByteArray.empty).2.1, [ByteArray.empty]), (ckP (newL per (mostS (scan d.secs per))) d ByteArray.empty).2.2):=by unfold openP; rw [h]; simp only [he, ne_eq, not_true_eq_false, if_false]
attribute [local irreducible] getH scan chainP recs0 secsN putH putU doP ckP openP mostS
set_option maxRecDepth 20000 in
set_option maxHeartbeats 4000000 in
theorem open_call {H:AH} {R:AEnd→AH→Prop} {i jl jw:Nat} {d:Dev} (hd:DevAt H i jl jw d) (hok:d.OK) (hoff:d.off=false) {per:Nat} (hp:2≤per) (h3:3 * per≤d.lasts.length) (hseg:d.lasts.length / per≤12) (hw:d.waits.length≤1099500000000)
    (hinl:∀ H' jw' e, (openP d per).1=.inl e→DevAt H' i jl jw' (openP d per).2→Fr [i, jl, jw] H H'→(jw'=i∨jw'=jw∨H.next≤jw')→R (.ret (.tuple #[.pointer none, .slice none 0 0, .int .i64 e])) H')
    (hinr:∀ H' il jw' b c L recs rb rn rc, (openP d per).1=.inr (L, recs)→LD H' il i jl jw' b c L (openP d per).2→OwnC H.next H' 1 rb rn rc (strs recs)→Fr [i, jl, jw] H H'→(jw'=i∨jw'=jw∨H.next≤jw')→H.next≤il→(∀ o, b=some ⟨o, 0, none⟩→H.next≤o) →
      R (.ret (.tuple #[.pointer (some ⟨il, 0, none⟩), .slice rb rn rc, .int .i64 0])) H') :
    ACall Tryz.prog 13 [.pointer (some ⟨i, 0, none⟩), .int .i64 (per:Int)] H R:=by
  have hfew:=hok.few
  have hlen:=d.secs_length
  have wf:Wf d.secs per (scan d.secs per):=scan_wf (Dev.secs_size hok hoff) (by omega) hp (by omega)
  refine f13_start _ _ H R (rwp_step f13_s0 f13p0_ok (f13p0_awp ?_))
  unfold f13p0_B
  -- the results' boxes
  obtain ⟨H1, hH1⟩:∃ H1, ((H.push (.row [.pointer none] 0)).push (.row [.slice none 0 0] 0)).push (.row [.int .i64 0] 0)=H1:=⟨_, rfl⟩
  have g1:Has H1 H.next (.row [.pointer none] 0):=by rw [← hH1]; exact ((Has.new H _).push _).push _
  have g2:Has H1 (H.next + 1) (.row [.slice none 0 0] 0):=by rw [← hH1]; exact (Has.new (H.push (.row [.pointer none] 0)) _).push _
  have g3:Has H1 (H.next + 2) (.row [.int .i64 0] 0):=by rw [← hH1]; exact Has.new ((H.push (.row [.pointer none] 0)).push (.row [.slice none 0 0] 0)) _
  have f1:Fr [] H H1:=by rw [← hH1]; exact (((Fr.refl [] H).push _).push _).push _
  have n1:H1.next=H.next + 3:=by rw [← hH1]; rfl
  refine wNew_at (wNew_at (wNew_at ?_))
  rw [hH1]
  have e1:(H.push (.row [.pointer none] 0)).next=H.next + 1:=rfl
  have e2:((H.push (.row [.pointer none] 0)).push (.row [.slice none 0 0] 0)).next=H.next + 2:=rfl
  rw [e1, e2]
  refine rwp_step f13_s1 f13p1_ok (f13p1_awp ?_)
  unfold f13p1_B
  have hd1:=hd.fr f1 (by simp)
  have hN3:3≤d.lasts.length / per:=(Nat.le_div_iff_mul_le (by omega)).2 h3
  have hNle:=Nat.div_le_self d.lasts.length per
  refine wIf_f rfl (wIf_df (by omega) (wCall_of (dsectors_call hd1 (opI_at (wNz_at (by omega) ?_)))))
  have eq:IntKind.i64.wrap (Int.tdiv ((d.lasts.length:Nat):Int) (per:Int))=((d.lasts.length / per:Nat):Int):=by
    have e:Int.tdiv ((d.lasts.length:Nat):Int) (per:Int)=((d.lasts.length / per:Nat):Int):=rfl
    rw [e]
    generalize d.lasts.length / per=z at hNle ⊢
    exact wi _ (by omega) (by omega)
  rw [eq, f13p1_J0_eq]
  unfold f13p1_J0_B
  refine wIf_df (by omega) ?_
  refine rwp_step f13_s2 f13p2_ok (f13p2_awp ?_)
  unfold f13p2_B
  refine wCall_of (read_all hd1 hok hoff (by omega) (by omega) (by omega) (fun H2 ir js im ip rd2 f12 hir hjs him hip=>opT_at rfl (opP_at (opI_at (wNew_at ?_)))))
  have f2:=f1.trans f12
  have n2:=f12.next
  -- the reader's box
  refine wSt_at (Has.new H2 _) (by simp) ?_
  have hx:=(Has.new H2 (.row [.pointer none] 0)).set (.row [.pointer (some ⟨ir, 0, none⟩)] 0)
  have f23:Fr [] H2 ((H2.push (.row [.pointer none] 0)).set H2.next (.row [.pointer (some ⟨ir, 0, none⟩)] 0)):=((Fr.refl [] H2).push _).set (.inr (Nat.le_refl _)) _
  have n3:((H2.push (.row [.pointer none] 0)).set H2.next (.row [.pointer (some ⟨ir, 0, none⟩)] 0)).next=H2.next + 1:=rfl
  have es:setCells [.pointer none] 0 [.pointer (some ⟨ir, 0, none⟩)]=[.pointer (some ⟨ir, 0, none⟩)]:=rfl
  rw [es]
  obtain ⟨br, hbr⟩:∃ br, H2.next=br:=⟨_, rfl⟩
  rw [hbr] at hx f23 n3 ⊢
  generalize ((H2.push (.row [.pointer none] 0)).set br (.row [.pointer (some ⟨ir, 0, none⟩)] 0))=H3 at hx f23 n3 ⊢
  have f3:=f2.trans f23
  refine rwp_step f13_s3 f13p3_ok (f13p3_awp ?_)
  unfold f13p3_B
  refine wIf_nf rfl ?_
  refine rwp_step f13_s4 f13p4_ok (f13p4_awp ?_)
  unfold f13p4_B
  have rd3:=rd2.fr f23 (by simp)
  refine ldP_at hx rfl (wPt_at (ldI_at rd3.own rfl (wNew_at (wNew_at (wSt_at (Has.new _ _) (by simp) ?_)))))
  have en:(H3.push (.row [.pointer (some ⟨i, 0, none⟩), .int .i64 (per:Int), .slice none 0 0, .int .u32 0, .int .u32 0, .int .u32 (mostS (scan d.secs per):Int), .int .u64 0, .int .i64 0, .bool false] 0)).next=H3.next + 1:=rfl
  rw [en]
  have es:setCells [.pointer none] 0 [.pointer (some ⟨H3.next, 0, none⟩)]=[.pointer (some ⟨H3.next, 0, none⟩)]:=rfl
  rw [es]
  obtain ⟨il, hil⟩:∃ il, H3.next=il:=⟨_, rfl⟩
  have ho4:=Has.new H3 (.row (lrow i none 0 0 (newL per (mostS (scan d.secs per)))) 0)
  rw [hil] at ho4 ⊢
  have ho5:=ho4.push (.row [.pointer none] 0)
  have hb5:=Has.new (H3.push (.row (lrow i none 0 0 (newL per (mostS (scan d.secs per)))) 0)) (.row [.pointer none] 0)
  have en2:(H3.push (.row (lrow i none 0 0 (newL per (mostS (scan d.secs per)))) 0)).next=il + 1:=by show H3.next + 1=_; omega
  rw [en2] at hb5
  have hb6:=hb5.set (.row [.pointer (some ⟨il, 0, none⟩)] 0)
  have ho6:=ho5.setne (j:=il + 1) (by omega) (.row [.pointer (some ⟨il, 0, none⟩)] 0)
  have f36:Fr [] H3 (((H3.push (.row (lrow i none 0 0 (newL per (mostS (scan d.secs per)))) 0)).push (.row [.pointer none] 0)).set (il + 1) (.row [.pointer (some ⟨il, 0, none⟩)] 0)):=(((Fr.refl [] H3).push _).push _).set (.inr (by omega)) _
  have hgoal:(((H3.push (.row [.pointer (some ⟨i, 0, none⟩), .int .i64 (per:Int), .slice none 0 0, .int .u32 0, .int .u32 0, .int .u32 (mostS (scan d.secs per):Int), .int .u64 0, .int .i64 0, .bool false] 0)).push (.row [.pointer none] 0)).set (il + 1) (.row [.pointer (some ⟨il, 0, none⟩)] 0))=(((H3.push (.row (lrow i none 0 0 (newL per (mostS (scan d.secs per)))) 0)).push (.row [.pointer none] 0)).set (il + 1) (.row [.pointer (some ⟨il, 0, none⟩)] 0)):=rfl
  rw [hgoal]
  generalize (((H3.push (.row (lrow i none 0 0 (newL per (mostS (scan d.secs per)))) 0)).push (.row [.pointer none] 0)).set (il + 1) (.row [.pointer (some ⟨il, 0, none⟩)] 0))=H6 at hb6 ho6 f36 ⊢
  have f26:=f23.trans f36
  have f6:=f3.trans f36
  have f16:=f12.trans f26
  have hrl:=rd2.own.lt
  have hjl:=rd2.secs.lt
  have hml:=Has.lt rd2.heads
  have hpl:=Has.lt rd2.places
  have ob6:Ob H d per H.next (H.next + 1) (H.next + 2) br (il + 1) il ir js im ip i jl jw H6 :=
    ⟨g1.fr f16 (by simp), g2.fr f16 (by simp), g3.fr f16 (by simp), hx.fr f36 (by simp), hb6, ho6, rd2.fr f26 (by simp), hd.fr f6 (by simp), f6, by omega⟩
  have hilt6:il + 1<H6.next:=hb6.lt
  refine rwp_step f13_s5 f13p5_ok (f13p5_awp ?_)
  unfold f13p5_B
  refine rwp_step f13_s6 f13p6_ok (f13p6_awp ?_)
  unfold f13p6_B
  obtain ⟨l, hl⟩:∃ l, scan d.secs per=l:=⟨_, rfl⟩
  have hll:(hmap l).length=l.length:=by simp [hmap]
  have hl12:l.length≤12:=by
    have h:=(scanN_ok d.secs per (d.secs.length / per)).len
    have h2:scan d.secs per=scanN d.secs per (d.secs.length / per):=by unfold scan; rfl
    rw [← h2, hl, hlen] at h
    omega
  refine ldP_at ob6.rb rfl (wPt_at (ldM_at ob6.rd.own rfl (wMr_at ob6.rd.heads ?_)))
  rw [hl, hll]
  obtain ⟨r, hr⟩:∃ r, H6.next=r:=⟨_, rfl⟩
  have hr7:=Has.new H6 (.miter (some im) l.length [] l.length)
  have f67:Fr [] H6 (H6.push (.miter (some im) l.length [] l.length)):=(Fr.refl [] H6).push _
  rw [hr] at hr7 ⊢
  have n7:(H6.push (.miter (some im) l.length [] l.length)).next=r + 1:=by show H6.next + 1=_; omega
  generalize (H6.push (.miter (some im) l.length [] l.length))=H7 at hr7 f67 n7 ⊢
  have ob7:=ob6.step f67
  have f7:=f6.trans f67
  refine f13p6_L0_rule (J:=fun m b n c H'=>∃ seen:List Nat, m=l.length - seen.length∧seen.Nodup∧(∀ j ∈ seen, j<l.length)∧OwnC H7.next H' 1 b n c (u32s (seen.map fun j=>((hmap l).getD j (0, undef)).1))∧(seen ≠ []∨b=none)∧Has H' r (.miter (some im) l.length seen l.length)∧Fr [r] H7 H') l.length
    ⟨[], rfl, .nil, fun j hj=>absurd hj (List.not_mem_nil), OwnC.nil _ _ _, .inr rfl, hr7, Fr.refl _ _⟩ ?_
  rintro m sb sl sc H8 ⟨seen, rfl, hnd, hsl, hown, hsn, hr8, f78⟩
  intros
  unfold f13p6_R0
  have hh8:UMap H8 im (hmap l):=by
    have:=ob7.rd.heads
    rw [hl] at this
    exact this.fr f78 (by simp; omega)
  have hr8':Has H8 r (.miter (some im) (hmap l).length seen (hmap l).length):=by rw [hll]; exact hr8
  have hnl:=hown.len
  rw [u32s_length, List.length_map] at hnl
  have hseen:=nodup_le hnd hsl
  refine wMn_at hr8' hh8 (fun hall=>?_) (fun j x hx hj=>?_)
  rotate_left
  · have hjl':j<l.length:=by
      have:=(List.getElem?_eq_some_iff.1 hx).1
      rw [hll] at this; exact this
    have hr9:=hr8'.set (.miter (some im) (hmap l).length (seen ++ [j]) (hmap l).length)
    have f89:Fr [r] H8 (H8.set r (.miter (some im) (hmap l).length (seen ++ [j]) (hmap l).length)):=Fr.set1 H8 r _
    have hh9:=hh8.fr f89 (by simp; omega)
    have hown9:OwnC H7.next (H8.set r (.miter (some im) (hmap l).length (seen ++ [j]) (hmap l).length)) 1 sb sl sc (u32s (seen.map fun j=>((hmap l).getD j (0, undef)).1)):=hown.fr f89 (by simp; omega)
    have n89:(H8.set r (.miter (some im) (hmap l).length (seen ++ [j]) (hmap l).length)).next=H8.next:=rfl
    generalize (H8.set r (.miter (some im) (hmap l).length (seen ++ [j]) (hmap l).length))=H9 at hr9 f89 hh9 hown9 n89 ⊢
    have f79:Fr [r] H7 H9:=f78.trans f89
    refine wEn_at hr9 hh9 hx (opI_at ?_)
    refine app1 hown9 f79.next rfl rfl (by omega) (by omega) (fun o H10 hown10 f910 ho=>?_)
    have hnd':(seen ++ [j]).Nodup:=List.nodup_append.2 ⟨hnd, by simp, fun a ha b hb e=>hj (by rw [List.mem_singleton.1 hb] at e; rw [← e]; exact ha)⟩
    have hsl':∀ z ∈ seen ++ [j], z<l.length:=fun z hz=>by
      rcases List.mem_append.1 hz with hz | hz
      · exact hsl z hz
      · rw [List.mem_singleton.1 hz]; exact hjl'
    have hlen':=nodup_le hnd' hsl'
    rw [List.length_append, List.length_singleton] at hlen'
    have hrn:r ∉ ownS sb:=fun hz=>by
      have:=(hown9.low r hz).1
      omega
    refine ⟨l.length - (seen ++ [j]).length, by rw [List.length_append, List.length_singleton]; omega, f13p6_I0_mk ⟨seen ++ [j], rfl, hnd', hsl', ?_, .inl (by simp), ?_, f79.trans' f910 (fun z hz=>.inr ((hown9.low z hz).1))⟩⟩
    · have e:(seen ++ [j]).map (fun j=>((hmap l).getD j (0, undef)).1)=seen.map (fun j=>((hmap l).getD j (0, undef)).1) ++ [x.1]:=by
        rw [List.map_append, List.map_singleton, List.getD_eq_getElem?_getD, hx]; rfl
      rw [e, ← u32s_snoc]; exact hown10
    · rw [hll] at hr9; exact hr9.fr f910 hrn
  -- all serials
  have hperm:=seen_perm hnd (by rw [hll]; exact hsl) hall
  have hmm:(hmap l).map (·.1)=l.map fun e=>e.1.sr:=by simp [hmap]
  rw [hmm] at hperm
  obtain ⟨xs, hxs⟩:∃ xs, (seen.map fun j=>((hmap l).getD j (0, undef)).1)=xs:=⟨_, rfl⟩
  rw [hxs] at hperm hown
  have hxl:xs.length=l.length:=by rw [hperm.length_eq, List.length_map]
  refine rwp_step f13_s7 f13p7_ok (f13p7_awp ?_)
  unfold f13p7_B
  have f68:Fr [] H6 H8:=f67.trans' f78 (fun z hz=>.inr (by simp at hz; omega))
  have n68:=f68.next
  have n67:=f67.next
  refine wCall_of (sort_call (hown.weak (Nat.zero_le _)) (by omega) (fun H9 hown9 f89=>?_))
  have f69:Fr [] H6 H9:=f68.trans' f89 (fun z hz=>.inr (by have:=(hown.low z hz).1; omega))
  have ob9:=ob6.step f69
  obtain ⟨ys, hys⟩:∃ ys, isort xs=ys:=⟨_, rfl⟩
  rw [hys] at hown9
  have hys2:ys=isort (l.map fun e=>e.1.sr):=by
    rw [← hys]
    exact isort_of ((isort_perm xs).trans hperm) (isort_sorted xs)
  have hyl:ys.length=l.length:=by rw [← hys, (isort_perm xs).length_eq, hxl]
  have hyf:∀ s ∈ ys, ∃ e, hfind l s=some e:=by
    intro s hs
    rw [hys2] at hs
    have hs2:=(isort_perm _).mem_iff.1 hs
    obtain ⟨e, he, rfl⟩:=List.mem_map.1 hs2
    have:=wf.all e (by rw [hl]; exact he)
    rw [hl] at this
    exact ⟨e, this⟩
  have hyn:ys=[]→sb=none:=by
    intro e
    rw [e] at hyl
    rcases hsn with h | h
    · have:xs.length=0:=by rw [hxl, ← hyl]; rfl
      rw [← hxs, List.length_map] at this
      exact absurd (List.length_eq_zero_iff.1 this) h
    · exact h
  clear hown hr8 hr8' hh8 hnd hsl hall hperm hxs hsn hys f78 hnl hseen f89
  clear hr7 hb6 ho6 f36 hx f23 rd2 rd3 g1 g2 g3 ho4 ho5 hb5
  rw [f13_range]
  refine rwp_range mixed back_at (by kernel_rfl) f13r_ok f13a_ok f13a_nd f13b_ok f13b_nd f13t_ok f13t_dr (f13r_awp ?_)
  unfold f13r_B
  refine wCall_of (backward_call sb sl sc (opV_at rfl ?_))
  obtain ⟨ib, hib⟩:∃ ib, H9.next=ib:=⟨_, rfl⟩
  have hbx:=Has.new H9 (.row [.slice sb sl sc] 0)
  have f9a:Fr [] H9 (H9.push (.row [.slice sb sl sc] 0)):=(Fr.refl [] H9).push _
  rw [hib] at hbx ⊢
  generalize (H9.push (.row [.slice sb sl sc] 0))=H10 at hbx f9a ⊢
  have ob10:=ob9.step f9a
  have hown10:=hown9.fr f9a (by simp)
  have hN:=f9a.next
  have hibl:ib<H10.next:=hbx.lt
  have n69:=f69.next
  have n06:=f6.next
  have hbig:il + 1<H10.next:=by omega
  have hlow:=ob6.low
  have h3':=h3
  rw [hl] at wf
  -- an end
  have stop:∀ (jw':Nat) (b:Option Addr) (c:Nat) (L:Lg) (d':Dev) (rb:Option Addr) (rn rc:Nat) (recs:List ByteArray) (HX:AH) (x o:Obj), openP d per=(.inr (L, recs), d')→Oe H H.next (H.next + 1) (H.next + 2) il i jl jw jw' b c L d' rb rn rc recs HX→HX.get H10.next=some (.other x) →
      R (.ret (.tuple #[.pointer (some ⟨il, 0, none⟩), .slice rb rn rc, .int .i64 0])) (HX.set H10.next (.other o)):=by
    intro jw' b c L d' rb rn rc recs HX x o he oe hx
    have oe2:=oe.oth (y:=o) hx (by omega)
    refine hinr _ il jw' b c L recs rb rn rc (by rw [he]) ?_ oe2.rs oe2.fr oe2.jj oe2.ll oe2.cc
    rw [he]; exact oe2.ld
  refine ⟨ib, .slice sb sl sc, ys.map fun (x:Nat)=>(x:Int),
    fun k oL H'=>Two H10.next oL H'∧H10.next + 2≤H'.next∧Ob H d per H.next (H.next + 1) (H.next + 2) br (il + 1) il ir js im ip i jl jw H'∧Has H' ib (.row [.slice sb sl sc] 0)∧OwnC 0 H' 1 sb sl sc (u32s ys)∧(∀ j (hj:j<ys.length), k≤j→chainP d.secs per l ys[j]=none),
    fun oL H'=>Two H10.next oL H'∧∃ b c L rb rn rc recs, openP d per=(.inr (L, recs), d)∧Oe H H.next (H.next + 1) (H.next + 2) il i jl jw jw b c L d rb rn rc recs H',
    by rw [List.length_map]; omega, ⟨_, _, hbx.get⟩, sli_of hown10 hyn, rfl, ?_, ?_, ?_, ?_, ?_, ?_, ?_, ?_⟩
  · rintro k oL H' ⟨h1, h2, h3, h4, h5, h6⟩
    exact ⟨h1, ⟨_, _, h4.get, rfl⟩, sli_of h5 hyn⟩
  · rintro oL H' ⟨h1, _⟩
    exact h1
  · intro oL
    have fp:Fr [] H10 ((H10.push (.other (.deferred (some [])))).push (.other oL)):=((Fr.refl [] H10).push _).push _
    refine ⟨⟨?_, ?_⟩, Nat.le_refl _, ob10.step fp, hbx.fr fp (by simp), hown10.fr fp (by simp), fun j hj hjk=>?_⟩
    · exact ((Has.new H10 (.other (.deferred (some [])))).push _).get
    · exact (Has.new (H10.push (.other (.deferred (some [])))) (.other oL)).get
    · rw [List.length_map] at hjk; omega
  · rintro k oL oL' H' ⟨h1, h2, h3, h4, h5, h6⟩
    refine ⟨⟨?_, ?_⟩, h2, h3.oth h1.2 (by omega), h4.oth h1.2, OwnC.oth h5 h1.2, h6⟩
    · rw [AH.get_set, if_neg (by omega)]; exact h1.1
    · rw [AH.get_set, if_pos rfl]
  · rintro oL oL' H' ⟨h1, b, c, L, rb, rn, rc, recs, h2, h3⟩
    refine ⟨⟨?_, ?_⟩, b, c, L, rb, rn, rc, recs, h2, h3.oth h1.2 (by omega)⟩
    · rw [AH.get_set, if_neg (by omega)]; exact h1.1
    · rw [AH.get_set, if_pos rfl]
  · rintro k oL H' hk ⟨h1, h2, h3, h4, h5, h6⟩
    rw [List.length_map] at hk
    rw [f13_sets]
    refine f13a_awp ?_
    unfold f13a_B
    refine ⟨h1.2, fun oL'=>f13b_awp ?_⟩
    unfold f13b_B
    have ek:(ys.map fun (x:Nat)=>(x:Int))[k]?.getD 0=((ys[k]:Nat):Int):=by rw [List.getElem?_map, List.getElem?_eq_getElem hk]; rfl
    rw [ek]
    obtain ⟨e0, he0⟩:=hyf ys[k] (List.getElem_mem hk)
    have hTb:Two H10.next oL' (H'.set (H10.next + 1) (.other oL')):=by
      refine ⟨?_, ?_⟩
      · rw [AH.get_set, if_neg (by omega)]; exact h1.1
      · rw [AH.get_set, if_pos rfl]
    have obb:=h3.oth (y:=oL') h1.2 (by omega)
    have hbxb:=h4.oth (y:=oL') h1.2
    have hownb:=OwnC.oth (y:=oL') h5 h1.2
    have hnb:H10.next + 2≤(H'.set (H10.next + 1) (.other oL')).next:=h2
    generalize (H'.set (H10.next + 1) (.other oL'))=Hb at hTb obb hbxb hownb hnb ⊢
    clear h1 h2 h3 h4 h5
    have rdb:=obb.rd
    rw [hl] at rdb
    refine ldP_at obb.rb rfl (wCall_of (chain_call rdb wf he0 (fun hc Hc fc=>opL_at (wIf_t rfl ?_)) (fun ch hc hne hlo Hc oc hoc hocn fc=>opL_at (wIf_f rfl ?_))))
    · refine ⟨hTb.fr fc hnb (by simp), by have:=fc.next; omega, obb.step fc, hbxb.fr fc (by simp), hownb.fr fc (by simp), fun j hj hkj=>?_⟩
      rcases Nat.lt_or_ge k j with hh | hh
      · exact h6 j hj hh
      · have:j=k:=by omega
        subst this; exact hc
    -- a chain is found
    obtain ⟨hall, tt, htt⟩:=chainP_facts hc
    have hpick:pickP d.secs per l ys.reverse=some ch:=by
      have e:ys.reverse=(ys.drop (k + 1)).reverse ++ ys[k] :: (ys.take k).reverse:=by
        have e2:ys=ys.take k ++ ys[k] :: ys.drop (k + 1):=by simp
        have e3:=congrArg List.reverse e2
        rw [List.reverse_append, List.reverse_cons, List.append_assoc] at e3
        exact e3
      rw [e]
      refine pick_split (fun s hs=>?_) hc
      obtain ⟨j, hj, rfl⟩:=List.getElem_of_mem (List.mem_reverse.1 hs)
      rw [List.length_drop] at hj
      rw [List.getElem_drop]
      exact h6 (k + 1 + j) (by omega) (by omega)
    have hop:=open_some (d:=d) (per:=per) (ch:=ch) (by rw [hl, ← hys2]; exact hpick)
    rw [hl] at hop
    have obc:=obb.step fc
    have rdc:=rdb.fr fc (by simp)
    have hpos:=recs0_pos (secs:=d.secs) (per:=per) hne hall
    refine ldP_at obc.rb rfl (wCall_of (records_call rdc wf hoc hne hlo hall (fun Hd rb rn rc hrs hrn fd=>opT_at rfl (opL_at (opI_at (opI_at ?_))))))
    obtain ⟨n, hn⟩:∃ n, (recs0 d.secs per l ch).2.2=n:=⟨_, rfl⟩
    obtain ⟨sq, hsq⟩:∃ sq, (recs0 d.secs per l ch).2.1=sq:=⟨_, rfl⟩
    obtain ⟨recs, hrecs⟩:∃ recs, (recs0 d.secs per l ch).1=recs:=⟨_, rfl⟩
    rw [hn, hsq]
    rw [hn] at hrn hpos
    rw [hrecs] at hrs hop
    have hfound:foundL d.secs per l ch=⟨per, (ch.take n).map (placeP l), ch.headD 0, ch.getD (n - 1) 0, mostS l, sq, 0, false⟩:=by unfold foundL; rw [hn, hsq]
    rw [hfound] at hop
    have obd:=obc.step fd
    have hocd:=hoc.fr fd (by simp)
    have hTd:=(hTb.fr fc hnb (by simp)).fr fd (by have:=fc.next; omega) (by simp)
    have hnd:H10.next + 2≤Hd.next:=by have:=fc.next; have:=fd.next; omega
    have hnbc:=fc.next
    have hncd:=fd.next
    have hocl:oc<Hd.next:=hocd.lt
    refine wSl_at (by omega) (by omega) (by omega) hocd (by rw [u32s_length]; omega) ?_
    have e1:((n:Int) - 0).toNat=n:=by omega
    rw [e1]
    have rdd:=rdc.fr fd (by simp)
    refine f13b_L0_rule (J:=fun m s86 HX=>∃ (t:Nat) (cb:Option Addr), s86=(t:Int)∧t≤n∧m=n - t∧Has HX il (.row (lrow i cb t 0 (newL per (mostS l))) 0)∧OwnC Hd.next HX 1 cb t 0 (ints ((ch.take t).map (placeP l)))∧Fr [il] Hd HX) n
      ⟨0, none, rfl, Nat.zero_le _, rfl, by have:=obd.lg; rw [hl] at this; exact this, OwnC.nil _ _ _, Fr.refl _ _⟩ ?_
    rintro m s86 H1' ⟨t, cb, rfl, ht, rfl, lg1, own1, fx⟩
    intros
    have hbr1:Has H1' br (.row [.pointer (some ⟨ir, 0, none⟩)] 0):=obd.rb.fr fx (by simp; omega)
    have hbl1:Has H1' (il + 1) (.row [.pointer (some ⟨il, 0, none⟩)] 0):=obd.lb.fr fx (by simp)
    have hoc1:=hocd.fr fx (by simp; omega)
    unfold f13b_R0
    refine wIf_d (fun hlt=>?_) (fun hge=>?_)
    · have htn:t<n:=by omega
      have hpl:(hfind l (ch.getD t 0)).isSome=true:=hall _ (by rw [List.getD_eq_getElem?_getD, List.getElem?_eq_getElem (by omega)]; exact List.getElem_mem _)
      have hc1:(u32s ch)[0 + Int.toNat 0 * 1 + Int.toNat (t:Int) * 1]?=some (.int .u32 ((ch.getD t 0:Nat):Int)):=by
        have e:0 + Int.toNat 0 * 1 + Int.toNat (t:Int) * 1=t:=by omega
        rw [e]; exact u32s_at ch t (by omega)
      have hirl:ir ≠ il:=hlow.2.2.2.2.2.2.2.2.2.2.1
      have rdo1:=rdd.own.fr fx (by simpa using hirl)
      have hpm:=rdd.places
      have hip1:UMap H1' ip (pmap l):=Has.fr hpm fx (by
        have:=hpm.diff obd.lg (by intro e; cases e)
        simpa using this)
      refine wIx_at (by omega) (by omega) (ldI_at hoc1 hc1 (ldP_at hbl1 rfl (ldP_at hbl1 rfl (wPt_at (ldP_at hbr1 rfl (wPt_at (ldM_at rdo1 rfl ?_)))))))
      obtain ⟨s, hs⟩:∃ s, ch.getD t 0=s:=⟨_, rfl⟩
      rw [hs] at hpl ⊢
      have hu:ufind (pmap l) s=some (.int .i64 (placeP l s:Int)):=by
        rw [ufind_p]
        unfold placeP
        cases he:hfind l s with
        | none=>rw [he] at hpl; cases hpl
        | some e=>rfl
      have htk:(ch.take (t + 1)).map (placeP l)=(ch.take t).map (placeP l) ++ [placeP l s]:=by
        rw [List.take_add_one, List.map_append, List.getElem?_eq_getElem (by omega)]
        rw [List.getD_eq_getElem?_getD, List.getElem?_eq_getElem (by omega)] at hs
        have hs:ch[t]=s:=hs
        rw [hs]; rfl
      have hx:=Has.new H1' (.row [.int .i64 (placeP l s:Int)] 1)
      have fp:Fr [] H1' (H1'.push (.row [.int .i64 (placeP l s:Int)] 1)):=(Fr.refl [] H1').push _
      have hn1:=fx.next
      have app:∀ {K:Option Addr→Nat→Nat→AH→Prop}, (∀ o H4, OwnC Hd.next H4 1 (some ⟨o, 0, none⟩) (t + 1) 0 (ints ((ch.take (t + 1)).map (placeP l)))→Fr [il] Hd H4→Has H4 il (.row (lrow i cb t 0 (newL per (mostS l))) 0)→Has H4 br (.row [.pointer (some ⟨ir, 0, none⟩)] 0)→Has H4 (il + 1) (.row [.pointer (some ⟨il, 0, none⟩)] 0)→K (some ⟨o, 0, none⟩) (t + 1) 0 H4) →
          wAppL 3 1 8 cb t 0 (some ⟨H1'.next, 0, none⟩) 1 0 (H1'.push (.row [.int .i64 (placeP l s:Int)] 1)) K:=by
        intro K hK
        refine app_row (own1.fr fp (by simp)) (by have:=fp.next; omega) hx rfl rfl (by omega) (by omega) (fun o H4 ho4 f4 hge4=>?_)
        rw [ints_snoc, ← htk] at ho4
        have f5:Fr [il] Hd H4:=(fx.trans (fp.mono (by simp))).trans' f4 (fun z hz=>.inr ((own1.low z hz).1))
        have hno:∀ z, z<Hd.next→z ∉ ownS cb:=fun z hz hzz=>by have:=(own1.low z hzz).1; omega
        exact hK o H4 ho4 f5 ((lg1.fr fp (by simp)).fr f4 (hno _ (by omega))) ((hbr1.fr fp (by simp)).fr f4 (hno _ (by omega))) ((hbl1.fr fp (by simp)).fr f4 (hno _ (by omega)))
      have pin3:∀ {HX:AH} {Q:Prop}, Has HX br (.row [.pointer (some ⟨ir, 0, none⟩)] 0)→Has HX (il + 1) (.row [.pointer (some ⟨il, 0, none⟩)] 0)→Q→wPin br 0 [.pointer (some ⟨ir, 0, none⟩)] HX (wPin (il + 1) 0 [.pointer (some ⟨il, 0, none⟩)] HX (wPin (il + 1) 0 [.pointer (some ⟨il, 0, none⟩)] HX Q)) :=
        fun h1 h2 hq=>⟨PinOK_at h1 (by simp) rfl, PinOK_at h2 (by simp) rfl, PinOK_at h2 (by simp) rfl, hq⟩
      have hbrx:=hbr1.fr fp (by simp)
      have hblx:=hbl1.fr fp (by simp)
      have fin:∀ (o:Nat) (H4:AH), Fr [il] Hd H4→OwnC Hd.next H4 1 (some ⟨o, 0, none⟩) (t + 1) 0 (ints ((ch.take (t + 1)).map (placeP l)))→Has H4 il (.row (lrow i cb t 0 (newL per (mostS l))) 0) →
          Has (H4.set il (.row (setCells (lrow i cb t 0 (newL per (mostS l))) (0 + 2) [.slice (some ⟨o, 0, none⟩) (t + 1) 0]) 0)) il (.row (lrow i (some ⟨o, 0, none⟩) (t + 1) 0 (newL per (mostS l))) 0) ∧
          OwnC Hd.next (H4.set il (.row (setCells (lrow i cb t 0 (newL per (mostS l))) (0 + 2) [.slice (some ⟨o, 0, none⟩) (t + 1) 0]) 0)) 1 (some ⟨o, 0, none⟩) (t + 1) 0 (ints ((ch.take (t + 1)).map (placeP l))) ∧
          Fr [il] Hd (H4.set il (.row (setCells (lrow i cb t 0 (newL per (mostS l))) (0 + 2) [.slice (some ⟨o, 0, none⟩) (t + 1) 0]) 0)) :=
        fun o H4 f4 ho4 hl4=>⟨hl4.set _, ho4.fr (Fr.set1 H4 il _) (by simp; omega), f4.set (.inl (by simp)) _⟩
      refine ⟨?_, ?_⟩
      · refine ldL_at lg1 rfl ⟨PinOK_at rdo1 (by simp) rfl, pin3 hbr1 hbl1 (wLk_some hip1 hu (opI_at (pin3 hbr1 hbl1 (wBs_at (pin3 hbrx hblx (app (fun o H4 ho4 f4 hl4 hr4 hb4=>pin3 hr4 hb4 (wPt_at (wSt_at hl4 (by simp) ?_)))))))))⟩
        obtain ⟨q1, q2, q3⟩:=fin o H4 f4 ho4 hl4
        exact ⟨n - (t + 1), by omega, f13b_I0_mk ⟨t + 1, some ⟨o, 0, none⟩, wi1 t (by omega), by omega, rfl, q1, q2, q3⟩⟩
      · refine wLk_some hip1 hu (opI_at (pin3 hbr1 hbl1 ⟨?_, ?_⟩))
        · refine ldL_at lg1 rfl (pin3 hbr1 hbl1 (wBs_at (pin3 hbrx hblx (app (fun o H4 ho4 f4 hl4 hr4 hb4=>pin3 hr4 hb4 (wPt_at (wSt_at hl4 (by simp) ?_)))))))
          obtain ⟨q1, q2, q3⟩:=fin o H4 f4 ho4 hl4
          exact ⟨n - (t + 1), by omega, f13b_I0_mk ⟨t + 1, some ⟨o, 0, none⟩, wi1 t (by omega), by omega, rfl, q1, q2, q3⟩⟩
        · refine wBs_at (pin3 hbrx hblx (ldL_at (lg1.fr fp (by simp)) rfl (app (fun o H4 ho4 f4 hl4 hr4 hb4=>pin3 hr4 hb4 (wPt_at (wSt_at hl4 (by simp) ?_))))))
          obtain ⟨q1, q2, q3⟩:=fin o H4 f4 ho4 hl4
          exact ⟨n - (t + 1), by omega, f13b_I0_mk ⟨t + 1, some ⟨o, 0, none⟩, wi1 t (by omega), by omega, rfl, q1, q2, q3⟩⟩
    · have htn:t=n:=by omega
      subst htn
      rw [f13b_J0_eq]
      unfold f13b_J0_B
      have ew:IntKind.i64.wrap ((t:Int) - 1)=((t - 1:Nat):Int):=by rw [wi _ (by omega) (by omega)]; omega
      rw [ew]
      have c0:(u32s ch)[0 + Int.toNat 0 * 1]?=some (.int .u32 ((ch.headD 0:Nat):Int)):=by rw [htt]; rfl
      have c1:(u32s ch)[0 + Int.toNat ((t - 1:Nat):Int) * 1]?=some (.int .u32 ((ch.getD (t - 1) 0:Nat):Int)):=by
        have e:0 + Int.toNat ((t - 1:Nat):Int) * 1=t - 1:=by omega
        rw [e]; exact u32s_at ch _ (by omega)
      refine wIx_at (by omega) (by omega) (wIx_at (by omega) (by omega) (ldP_at hbl1 rfl (ldP_at hbl1 rfl (ldP_at hbl1 rfl (ldI_at hoc1 c0 (ldI_at hoc1 c1 (wPt_at ?_)))))))
      refine wSt_at lg1 (by simp) ?_
      have l2:=lg1.set (.row (setCells (lrow i cb t 0 (newL per (mostS l))) (0 + 3) [.int .u32 ((ch.headD 0:Nat):Int)]) 0)
      have hb2:=hbl1.setne (j:=il) (by omega) (.row (setCells (lrow i cb t 0 (newL per (mostS l))) (0 + 3) [.int .u32 ((ch.headD 0:Nat):Int)]) 0)
      refine ⟨PinOK_at hb2 (by simp) rfl, PinOK_at hb2 (by simp) rfl, wPt_at (wSt_at l2 (by simp [setCells]) ?_)⟩
      have l3:=l2.set (.row (setCells (setCells (lrow i cb t 0 (newL per (mostS l))) (0 + 3) [.int .u32 ((ch.headD 0:Nat):Int)]) (0 + 4) [.int .u32 ((ch.getD (t - 1) 0:Nat):Int)]) 0)
      have hb3:=hb2.setne (j:=il) (by omega) (.row (setCells (setCells (lrow i cb t 0 (newL per (mostS l))) (0 + 3) [.int .u32 ((ch.headD 0:Nat):Int)]) (0 + 4) [.int .u32 ((ch.getD (t - 1) 0:Nat):Int)]) 0)
      refine ⟨PinOK_at hb3 (by simp) rfl, wPt_at (wSt_at l3 (by simp [setCells]) ?_)⟩
      have l4:=l3.set (.row (setCells (setCells (setCells (lrow i cb t 0 (newL per (mostS l))) (0 + 3) [.int .u32 ((ch.headD 0:Nat):Int)]) (0 + 4) [.int .u32 ((ch.getD (t - 1) 0:Nat):Int)]) (0 + 6) [.int .u64 (sq:Int)]) 0)
      have hb4:=hb3.setne (j:=il) (by omega) (.row (setCells (setCells (setCells (lrow i cb t 0 (newL per (mostS l))) (0 + 3) [.int .u32 ((ch.headD 0:Nat):Int)]) (0 + 4) [.int .u32 ((ch.getD (t - 1) 0:Nat):Int)]) (0 + 6) [.int .u64 (sq:Int)]) 0)
      have f14:Fr [il] H1' (((H1'.set il (.row (setCells (lrow i cb t 0 (newL per (mostS l))) (0 + 3) [.int .u32 ((ch.headD 0:Nat):Int)]) 0)).set il (.row (setCells (setCells (lrow i cb t 0 (newL per (mostS l))) (0 + 3) [.int .u32 ((ch.headD 0:Nat):Int)]) (0 + 4) [.int .u32 ((ch.getD (t - 1) 0:Nat):Int)]) 0)).set il
          (.row (setCells (setCells (setCells (lrow i cb t 0 (newL per (mostS l))) (0 + 3) [.int .u32 ((ch.headD 0:Nat):Int)]) (0 + 4) [.int .u32 ((ch.getD (t - 1) 0:Nat):Int)]) (0 + 6) [.int .u64 (sq:Int)]) 0)) :=
        (((Fr.refl [il] H1').set (.inl (by simp)) _).set (.inl (by simp)) _).set (.inl (by simp)) _
      have e4:setCells (setCells (setCells (lrow i cb t 0 (newL per (mostS l))) (0 + 3) [.int .u32 ((ch.headD 0:Nat):Int)]) (0 + 4) [.int .u32 ((ch.getD (t - 1) 0:Nat):Int)]) (0 + 6) [.int .u64 (sq:Int)] =
          lrow i cb t 0 ⟨per, (ch.take t).map (placeP l), ch.headD 0, ch.getD (t - 1) 0, mostS l, sq, 0, false⟩:=rfl
      rw [e4] at l4 hb4 f14 ⊢
      generalize (((H1'.set il (.row (setCells (lrow i cb t 0 (newL per (mostS l))) (0 + 3) [.int .u32 ((ch.headD 0:Nat):Int)]) 0)).set il (.row (setCells (setCells (lrow i cb t 0 (newL per (mostS l))) (0 + 3) [.int .u32 ((ch.headD 0:Nat):Int)]) (0 + 4) [.int .u32 ((ch.getD (t - 1) 0:Nat):Int)]) 0)).set il
          (.row (lrow i cb t 0 ⟨per, (ch.take t).map (placeP l), ch.headD 0, ch.getD (t - 1) 0, mostS l, sq, 0, false⟩) 0))=H4 at l4 hb4 f14 ⊢
      clear l2 l3 hb2 hb3
      have fd4:Fr [il] Hd H4:=fx.trans f14
      have hnd4:=fd4.next
      have hn14:=f14.next
      have q1:=obd.r1.fr fd4 (by simp; omega)
      have q2:=obd.r2.fr fd4 (by simp; omega)
      have q3:=obd.r3.fr fd4 (by simp; omega)
      rw [f13b_J1_eq]
      unfold f13b_J1_B
      refine ldP_at hb4 rfl (wSt_at q1 (by simp) (wSt_at (q2.setne (by omega) _) (by simp) (wSt_at ((q3.setne (by omega) _).setne (by omega) _) (by simp) ?_)))
      have k1:Has (H4.set H.next (.row (setCells [.pointer none] 0 [.pointer (some ⟨il, 0, none⟩)]) 0)) H.next (.row [.pointer (some ⟨il, 0, none⟩)] 0):=q1.set _
      have k2:Has ((H4.set H.next (.row (setCells [.pointer none] 0 [.pointer (some ⟨il, 0, none⟩)]) 0)).set (H.next + 1) (.row (setCells [.slice none 0 0] 0 [.slice rb rn rc]) 0)) (H.next + 1) (.row [.slice rb rn rc] 0):=(q2.setne (by omega) _).set _
      have k3:Has (((H4.set H.next (.row (setCells [.pointer none] 0 [.pointer (some ⟨il, 0, none⟩)]) 0)).set (H.next + 1) (.row (setCells [.slice none 0 0] 0 [.slice rb rn rc]) 0)).set (H.next + 2) (.row (setCells [.int .i64 0] 0 [.int .i64 0]) 0)) (H.next + 2) (.row [.int .i64 0] 0):=((q3.setne (by omega) _).setne (by omega) _).set _
      have f47:Fr [H.next, H.next + 1, H.next + 2] H4 (((H4.set H.next (.row (setCells [.pointer none] 0 [.pointer (some ⟨il, 0, none⟩)]) 0)).set (H.next + 1) (.row (setCells [.slice none 0 0] 0 [.slice rb rn rc]) 0)).set (H.next + 2) (.row (setCells [.int .i64 0] 0 [.int .i64 0]) 0)) :=
        (((Fr.refl [H.next, H.next + 1, H.next + 2] H4).set (.inl (by simp)) _).set (.inl (by simp)) _).set (.inl (by simp)) _
      have k1':=(k1.setne (j:=H.next + 1) (by omega) (.row (setCells [.slice none 0 0] 0 [.slice rb rn rc]) 0)).setne (j:=H.next + 2) (by omega) (.row (setCells [.int .i64 0] 0 [.int .i64 0]) 0)
      have k2':=k2.setne (j:=H.next + 2) (by omega) (.row (setCells [.int .i64 0] 0 [.int .i64 0]) 0)
      have l7:=l4.fr f47 (by simp; omega)
      generalize (((H4.set H.next (.row (setCells [.pointer none] 0 [.pointer (some ⟨il, 0, none⟩)]) 0)).set (H.next + 1) (.row (setCells [.slice none 0 0] 0 [.slice rb rn rc]) 0)).set (H.next + 2) (.row (setCells [.int .i64 0] 0 [.int .i64 0]) 0))=H7x at k3 k1' k2' f47 l7 ⊢
      have hilt:=hd.own.lt
      have hjlt:=hd.lasts.lt
      have hjwlt:=hd.jwlt
      have fd7:Fr [il, H.next, H.next + 1, H.next + 2] Hd H7x:=(fd4.mono (by simp)).trans (f47.mono (by simp))
      have htl:((ch.take t).map (placeP l)).length=t:=by rw [List.length_map, List.length_take]; omega
      refine ⟨hTd.fr fd7 hnd (by simp; omega), cb, 0, _, rb, rn, rc, recs, hop, ⟨k1', k2', k3, ⟨⟨?_, ?_, ?_⟩, obd.dv.fr fd7 (by simp; omega), hok, by omega, by omega, by omega, ?_⟩, ?_, (obd.fr.mono (by simp)).trans' fd7 (fun z hz=>.inr (by simp at hz; omega)), .inr (.inl rfl), by omega, ?_⟩⟩
      · show Has H7x il (.row (lrow i cb ((ch.take t).map (placeP l)).length 0 _) 0)
        rw [htl]; exact l7
      · show OwnC 0 H7x 1 cb ((ch.take t).map (placeP l)).length 0 (ints ((ch.take t).map (placeP l)))
        rw [htl]
        exact ((own1.fr f14 (by simp; omega)).fr f47 (by simp; omega)).weak (Nat.zero_le _)
      · intro o e
        have:=(own1.low o (by rw [e]; simp [ownS])).1
        omega
      · intro o e
        have:=(own1.low o (by rw [e]; simp [ownS])).1
        omega
      · exact (hrs.fr fd7 (by simp; omega)).weak (by omega)
      · intro o e
        have:=(own1.low o (by rw [e]; simp [ownS])).1
        omega
  · rintro oL H' ⟨h1, h2, h3, h4, h5, h6⟩
    refine f13t_awp ?_
    unfold f13t_B
    have hpick:pickP d.secs per l ys.reverse=none:=pick_none fun s hs=>by
      obtain ⟨j, hj, rfl⟩:=List.getElem_of_mem (List.mem_reverse.1 hs)
      exact h6 j hj (Nat.zero_le _)
    rw [hys2, ← hl] at hpick
    have hilt:=hd.own.lt
    have hjlt:=hd.lasts.lt
    have hjwlt:=hd.jwlt
    have x:LD H' il i jl jw none 0 (newL per (mostS (scan d.secs per))) d:=⟨⟨h3.lg, .inl ⟨rfl, rfl, rfl, rfl⟩, fun o e=>by cases e⟩, h3.dv, hok, by omega, by omega, by omega, fun o e=>by cases e⟩
    refine ldP_at h3.lb rfl (wCall_of (ckpt_call x (newL_ok hp h3' scan_most) hw ByteArray.empty (fun H4 jw4 b4 c4 x4 f4 hj4 hb4=>opI_at ?_)))
    have f04:Fr [i, jl, jw] H H4:=(h3.fr.mono (by simp)).trans' f4 (fun z hz=>by
      simp at hz
      rcases hz with rfl | rfl | rfl | rfl
      · exact .inr (by omega)
      · exact .inl (by simp)
      · exact .inl (by simp)
      · exact .inl (by simp))
    have hj5:jw4=i∨jw4=jw∨H.next≤jw4:=by have:=h3.fr.next; omega
    have q1:=h3.r1.fr f4 (by simp; omega)
    have q2:=h3.r2.fr f4 (by simp; omega)
    have q3:=h3.r3.fr f4 (by simp; omega)
    have hN4:H4.get H10.next=some (.other (.deferred (some []))):=by
      rw [f4.get H10.next (by omega) (by simp; omega)]; exact h1.1
    obtain ⟨r', hr'⟩:∃ r', ckP (newL per (mostS (scan d.secs per))) d ByteArray.empty=r':=⟨_, rfl⟩
    have herr:=open_err (d:=d) (per:=per) hpick
    have hnew:=open_new (d:=d) (per:=per) hpick
    rw [hr'] at herr hnew x4 ⊢
    have hn4:=f4.next
    refine wIf_n (fun hne=>?_) (fun heq=>?_)
    · have hop:=herr hne
      refine wSt_at q1 (by simp) (wSt_at (q2.setne (by omega) _) (by simp) (wSt_at ((q3.setne (by omega) _).setne (by omega) _) (by simp) ?_))
      refine ⟨?_, fun o=>?_⟩
      · rw [AH.get_set, if_neg (by omega), AH.get_set, if_neg (by omega), AH.get_set, if_neg (by omega)]; exact hN4
      · have fS:Fr [i, jl, jw] H ((((H4.set H.next (.row (setCells [.pointer none] 0 [.pointer none]) 0)).set (H.next + 1) (.row (setCells [.slice none 0 0] 0 [.slice none 0 0]) 0)).set (H.next + 2) (.row (setCells [.int .i64 0] 0 [.int .i64 r'.1]) 0)).set H10.next (.other o)) :=
          (((f04.set (.inr (by omega)) _).set (.inr (by omega)) _).set (.inr (by omega)) _).set (.inr (by omega)) _
        have d4:DevAt ((((H4.set H.next (.row (setCells [.pointer none] 0 [.pointer none]) 0)).set (H.next + 1) (.row (setCells [.slice none 0 0] 0 [.slice none 0 0]) 0)).set (H.next + 2) (.row (setCells [.int .i64 0] 0 [.int .i64 r'.1]) 0)).set H10.next (.other o)) i jl jw4 r'.2.2:=by
          have hjne:r'.2.2.waits ≠ []→jw4 ≠ H.next∧jw4 ≠ H.next + 1∧jw4 ≠ H.next + 2∧jw4 ≠ H10.next:=fun hw=>by
            have w4:=x4.dv.waits hw
            refine ⟨row_ne w4 q1 (by decide), row_ne w4 q2 (by decide), row_ne w4 q3 (by decide), fun e=>?_⟩
            rw [e] at w4
            rw [w4.get] at hN4; cases hN4
          refine ⟨(((x4.dv.own.setne (by omega) _).setne (by omega) _).setne (by omega) _).setne (by omega) _, (((x4.dv.lasts.setne (by omega) _).setne (by omega) _).setne (by omega) _).setne (by omega) _, fun hw=>?_, x4.dv.ne, x4.dv.emp, x4.dv.nw⟩
          have:=hjne hw
          exact ((((x4.dv.waits hw).setne (by omega) _).setne (by omega) _).setne (by omega) _).setne (by omega) _
        have:=hinl _ jw4 r'.1 (by rw [hop]) (by rw [hop]; exact d4) fS hj5
        rw [f13_ret]
        have k1:Has (H4.set H.next (.row (setCells [.pointer none] 0 [.pointer none]) 0)) H.next (.row [.pointer none] 0):=q1.set _
        have k2:Has ((H4.set H.next (.row (setCells [.pointer none] 0 [.pointer none]) 0)).set (H.next + 1) (.row (setCells [.slice none 0 0] 0 [.slice none 0 0]) 0)) (H.next + 1) (.row [.slice none 0 0] 0):=(q2.setne (by omega) _).set _
        have k3:Has (((H4.set H.next (.row (setCells [.pointer none] 0 [.pointer none]) 0)).set (H.next + 1) (.row (setCells [.slice none 0 0] 0 [.slice none 0 0]) 0)).set (H.next + 2) (.row (setCells [.int .i64 0] 0 [.int .i64 r'.1]) 0)) (H.next + 2) (.row [.int .i64 r'.1] 0):=((q3.setne (by omega) _).setne (by omega) _).set _
        exact wPt_at (ldP_at (((k1.setne (by omega) _).setne (by omega) _).setne (by omega) _) rfl (wPt_at (ldL_at ((k2.setne (by omega) _).setne (by omega) _) rfl (wPt_at (ldI_at (k3.setne (by omega) _) rfl this)))))
    · have hop:=hnew heq
      have hb4':=h3.lb.fr f4 (by simp; omega)
      have hx:=Has.new H4 (.row [.string ByteArray.empty] 1)
      have fp:Fr [] H4 (H4.push (.row [.string ByteArray.empty] 1)):=(Fr.refl [] H4).push _
      refine ldP_at hb4' rfl (wBs_at ?_)
      have hgx:(H4.push (.row [.string (⟨#[]⟩:ByteArray)] 1))=(H4.push (.row [.string ByteArray.empty] 1)):=rfl
      rw [hgx]
      have q1x:=q1.fr fp (by simp)
      have q2x:=q2.fr fp (by simp)
      have q3x:=q3.fr fp (by simp)
      have x5:=x4.fr fp
      have hN5:(H4.push (.row [.string ByteArray.empty] 1)).get H10.next=some (.other (.deferred (some []))):=by rw [fp.get H10.next (by omega) (by simp)]; exact hN4
      have f05:=f04.trans (fp.mono (by simp))
      have hnp:=fp.next
      obtain ⟨qn, hqn⟩:∃ qn, H4.next=qn:=⟨_, rfl⟩
      rw [hqn] at hx ⊢
      generalize (H4.push (.row [.string ByteArray.empty] 1))=H5 at hx q1x q2x q3x x5 hN5 f05 hnp ⊢
      refine wSt_at q1x (by simp) (wSt_at (q2x.setne (by omega) _) (by simp) (wSt_at ((q3x.setne (by omega) _).setne (by omega) _) (by simp) ?_))
      have k1:Has (H5.set H.next (.row (setCells [.pointer none] 0 [.pointer (some ⟨il, 0, none⟩)]) 0)) H.next (.row [.pointer (some ⟨il, 0, none⟩)] 0):=q1x.set _
      have k2:Has ((H5.set H.next (.row (setCells [.pointer none] 0 [.pointer (some ⟨il, 0, none⟩)]) 0)).set (H.next + 1) (.row (setCells [.slice none 0 0] 0 [.slice (some ⟨qn, 0, none⟩) 1 0]) 0)) (H.next + 1) (.row [.slice (some ⟨qn, 0, none⟩) 1 0] 0):=(q2x.setne (by omega) _).set _
      have k3:Has (((H5.set H.next (.row (setCells [.pointer none] 0 [.pointer (some ⟨il, 0, none⟩)]) 0)).set (H.next + 1) (.row (setCells [.slice none 0 0] 0 [.slice (some ⟨qn, 0, none⟩) 1 0]) 0)).set (H.next + 2) (.row (setCells [.int .i64 0] 0 [.int .i64 0]) 0)) (H.next + 2) (.row [.int .i64 0] 0):=((q3x.setne (by omega) _).setne (by omega) _).set _
      have f57:Fr [H.next, H.next + 1, H.next + 2] H5 (((H5.set H.next (.row (setCells [.pointer none] 0 [.pointer (some ⟨il, 0, none⟩)]) 0)).set (H.next + 1) (.row (setCells [.slice none 0 0] 0 [.slice (some ⟨qn, 0, none⟩) 1 0]) 0)).set (H.next + 2) (.row (setCells [.int .i64 0] 0 [.int .i64 0]) 0)) :=
        (((Fr.refl [H.next, H.next + 1, H.next + 2] H5).set (.inl (by simp)) _).set (.inl (by simp)) _).set (.inl (by simp)) _
      have k1':=(k1.setne (j:=H.next + 1) (by omega) (.row (setCells [.slice none 0 0] 0 [.slice (some ⟨qn, 0, none⟩) 1 0]) 0)).setne (j:=H.next + 2) (by omega) (.row (setCells [.int .i64 0] 0 [.int .i64 0]) 0)
      have k2':=k2.setne (j:=H.next + 2) (by omega) (.row (setCells [.int .i64 0] 0 [.int .i64 0]) 0)
      generalize (((H5.set H.next (.row (setCells [.pointer none] 0 [.pointer (some ⟨il, 0, none⟩)]) 0)).set (H.next + 1) (.row (setCells [.slice none 0 0] 0 [.slice (some ⟨qn, 0, none⟩) 1 0]) 0)).set (H.next + 2) (.row (setCells [.int .i64 0] 0 [.int .i64 0]) 0))=H7x at k3 k1' k2' f57 ⊢
      have hN7:H7x.get H10.next=some (.other (.deferred (some []))):=by rw [f57.get H10.next (by omega) (by simp; omega)]; exact hN5
      have hcc:∀ o, b4=some ⟨o, 0, none⟩→H'.next≤o:=fun o e=>by
        rcases hb4 o e with h | h
        · cases h
        · exact h
      have hjne:jw4 ∉ [H.next, H.next + 1, H.next + 2]:=by
        rcases hj4 with e | e | e <;> (simp; omega)
      have oe:Oe H H.next (H.next + 1) (H.next + 2) il i jl jw jw4 b4 c4 r'.2.1 r'.2.2 (some ⟨qn, 0, none⟩) 1 0 [ByteArray.empty] H7x:=by
        refine ⟨k1', k2', k3, x5.frs f57 ⟨by simp; omega, by simp; omega, by simp; omega, hjne, fun o e=>?_⟩, .inr ⟨qn, rfl, rfl, rfl, hx.fr f57 (by simp; omega), by omega⟩, f05.trans' f57 (fun z hz=>.inr (by simp at hz; omega)), hj5, by omega, fun o e=>by have:=hcc o e; omega⟩
        have:=hcc o e
        simp; omega
      refine ⟨hN7, fun o=>?_⟩
      have h4:=stop jw4 b4 c4 r'.2.1 r'.2.2 _ _ _ _ H7x _ o hop oe hN7
      have h5:=oe.oth (y:=o) hN7 (by omega)
      rw [f13_ret]
      exact wPt_at (ldP_at h5.r1 rfl (wPt_at (ldL_at h5.r2 rfl (wPt_at (ldI_at h5.r3 rfl h4)))))
  · rintro oL H' ⟨h1, b, c, L, rb, rn, rc, recs, h2, h3⟩ o
    have h4:=stop jw b c L d rb rn rc recs H' _ o h2 h3 h1.1
    have h5:=h3.oth (y:=o) h1.1 (by omega)
    rw [f13_ret]
    exact wPt_at (ldP_at h5.r1 rfl (wPt_at (ldL_at h5.r2 rfl (wPt_at (ldI_at h5.r3 rfl h4)))))
end Go.Proofs.YtjhbbbcelnlnpaaGreatDoor
