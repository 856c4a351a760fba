/- The device of sectors: the calls that write, and a loss of power by hand. The device of sectors: Flush, Read, Fill, New. -/
import Derived.Test.YtjhbbbcelnlnpaaGreatDoorWNaw
namespace Go.Proofs.YtjhbbbcelnlnpaaGreatDoor
open Go.RowKit

def Dev.blow (d:Dev):Bool × Dev :=
  if d.left=0 then (false, d) else if 0<d.left - 1 then (false, { d with left:=d.left - 1 }) else (true, { d.lost d.crash with off:=true, left:=d.left - 1 })
def Dev.write (d:Dev) (k:Int) (s:ByteArray):Int × Dev :=
  if d.off then (10, d) else if k<0∨(d.lasts.length:Int)≤k∨s.size ≠ 64 then (2, d)
  else (if ({ d with waits:=d.waits ++ [(k.toNat, s)] }:Dev).blow.1 then 10 else 0, ({ d with waits:=d.waits ++ [(k.toNat, s)] }:Dev).blow.2)
def Dev.kill (d:Dev) (c:Cr):Dev:=if d.off then { d with off:=false, left:=0 } else { d.lost c with off:=false, left:=0 }

theorem Dev.OK.blow {d:Dev} (h:d.OK):d.blow.2.OK:=by
  unfold Dev.blow
  split
  · exact h
  · split
    · exact ⟨h.lasts, h.waits, h.few, h.many, by have:=h.left; show 0≤d.left - 1∧d.left - 1≤_; omega⟩
    · have:=h.lost d.crash
      have hl:=h.left
      exact ⟨this.lasts, this.waits, this.few, this.many, by show 0≤d.left - 1∧d.left - 1≤_; omega⟩
theorem Dev.OK.write {d:Dev} (h:d.OK) (hm:d.waits.length<1099511627775) (k:Int) (s:ByteArray):(d.write k s).2.OK:=by
  unfold Dev.write
  split
  · exact h
  · split
    · exact h
    · rename_i hk
      refine Dev.OK.blow ⟨h.lasts, fun w hw=>?_, h.few, by simp; omega, h.left⟩
      rcases List.mem_append.1 hw with hw | hw
      · exact h.waits w hw
      · rw [List.mem_singleton] at hw
        subst hw
        have h1:¬ k<0:=fun e=>hk (.inl e)
        have h2:¬ (d.lasts.length:Int)≤k:=fun e=>hk (.inr (.inl e))
        have h3:s.size=64:=Decidable.byContradiction fun e=>hk (.inr (.inr e))
        exact ⟨by show k.toNat<d.lasts.length; omega, h3⟩
theorem Dev.OK.kill {d:Dev} (h:d.OK) (c:Cr):(d.kill c).OK:=by
  unfold Dev.kill
  split
  · exact ⟨h.lasts, h.waits, h.few, h.many, ⟨by show (0:Int)≤0; omega, by show (0:Int)≤_; omega⟩⟩
  · have:=h.lost c
    exact ⟨this.lasts, this.waits, this.few, this.many, ⟨by show (0:Int)≤0; omega, by show (0:Int)≤_; omega⟩⟩

section
variable {H:AH} {i jl jw:Nat} {d:Dev} {R:AEnd→AH→Prop}
set_option maxRecDepth 20000 in
theorem blows_call (hd:DevAt H i jl jw d) (hok:d.OK) (h:∀ H' jw', DevAt H' i jl jw' d.blow.2→Fr [i, jl] H H'→(jw'=i∨jw'=jw)→R (.ret (.bool d.blow.1)) H') :
    ACall Tryz.prog 136 [.pointer (some ⟨i, 0, none⟩)] H R:=by
  apply f136_call
  unfold f136_B
  have hl:=hok.left
  unfold Dev.blow at h
  refine wPt_at (ldI_at hd.own rfl (wIf_d (fun e=>?_) (fun e=>?_)))
  · rw [if_pos e] at h
    exact h _ jw hd (Fr.refl _ _) (.inr rfl)
  · rw [if_neg e] at h
    have h1:=hd.upd { d with left:=d.left - 1 } rfl rfl
    refine wPt_at (ldI_at hd.own rfl (wPt_at (wSt_at hd.own (by simp) ?_)))
    rw [wi _ (by omega) (by omega)]
    refine wPt_at (ldI_at h1.own rfl (wIf_d (fun e2=>?_) (fun e2=>?_)))
    · rw [if_pos (by omega)] at h
      exact h _ jw h1 ((Fr.set1 _ _ _).mono (by simp)) (.inr rfl)
    · rw [if_neg (by omega)] at h
      refine wPt_at (ldI_at h1.own rfl (ldI_at h1.own rfl (ldI_at h1.own rfl (wCall_of (lose_call h1 ⟨hok.lasts, hok.waits, hok.few, hok.many, by show 0≤d.left - 1∧d.left - 1≤_; omega⟩ d.crash (fun H' hd' hf'=>?_))))))
      refine wPt_at (wSt_at hd'.own (by simp) ?_)
      exact h _ i (hd'.upd { d.lost d.crash with off:=true, left:=d.left - 1 } rfl rfl) ((((Fr.set1 _ _ _).mono (by simp)).trans hf').trans ((Fr.set1 _ _ _).mono (by simp))) (.inl rfl)

set_option maxRecDepth 20000 in
theorem write_call (hd:DevAt H i jl jw d) (hok:d.OK) (hm:d.waits.length<1099511627775) (k:Int) (s:ByteArray)
    (h:∀ H' jw', DevAt H' i jl jw' (d.write k s).2→Fr [i, jl, jw] H H'→(jw'=i∨jw'=jw∨H.next≤jw')→R (.ret (.int .i64 (d.write k s).1)) H') :
    ACall Tryz.prog 114 [.pointer (some ⟨i, 0, none⟩), .int .i64 k, .string s] H R:=by
  apply f114_call
  unfold f114_B
  refine wCall_of (refused_call hd ?_)
  unfold Dev.write at h
  by_cases hoff:d.off=true
  · rw [if_pos hoff] at h
    rw [if_pos hoff]
    refine opI_at (wIf_nt (by omega) ?_)
    exact h H jw hd (Fr.refl _ _) (.inr (.inl rfl))
  · rw [if_neg hoff] at h
    rw [if_neg hoff]
    refine opI_at (wIf_nf rfl ?_)
    have bad:(k<0∨(d.lasts.length:Int)≤k∨s.size ≠ 64)→R (.ret (.int .i64 2)) H:=by
      intro e
      rw [if_pos e] at h
      exact h H jw hd (Fr.refl _ _) (.inr (.inl rfl))
    refine wIf_d (fun hk=>?_) (fun hk=>?_)
    · rw [f114_J0_eq]
      unfold f114_J0_B
      exact wIf_t rfl (bad (.inl hk))
    · refine wPt_at (ldL_at hd.own rfl (wIf_d (fun hk2=>?_) (fun hk2=>?_)))
      · rw [f114_J0_eq]
        unfold f114_J0_B
        exact wIf_t rfl (bad (.inr (.inl hk2)))
      · rw [f114_J0_eq]
        unfold f114_J0_B
        refine wIf_n (fun hs=>bad (.inr (.inr (fun e=>hs (by rw [e]; rfl))))) (fun hs=>?_)
        have hs:s.size=64:=by omega
        rw [if_neg (by omega)] at h
        rw [f114_J1_eq]
        unfold f114_J1_B
        obtain ⟨a, ha, ha1, ha2⟩:=wval_eq jw d.waits
        have hk:=hd.own
        unfold devRow at hk
        rw [ha] at hk
        refine wPt_at (ldL_at hk rfl (wBs_at ?_))
        have hkn:k=((k.toNat:Nat):Int):=by omega
        generalize hkk:k.toNat=kn at hkn h
        subst hkn
        have hx:=Has.new H (.row [.int .i64 (kn:Int), .string s] 2)
        have hf1:Fr [] H (H.push (.row [.int .i64 (kn:Int), .string s] 2)):=(Fr.refl [] H).push _
        have hd1:=hd.fr hf1 (by simp)
        have hsc:=sliceCells_new (H.push (.row [.int .i64 (kn:Int), .string s] 2)) [.int .i64 (kn:Int), .string s] 2 1 0 rfl hx
        generalize hH1:H.push (.row [.int .i64 (kn:Int), .string s] 2)=H1 at hx hf1 hd1 hsc ⊢
        have hn1:H.next<H1.next:=hx.lt
        have hwc:wcells (d.waits ++ [(kn, s)])=wcells d.waits ++ [.int .i64 (kn:Int), .string s]:=by simp [wcells]
        -- what stands behind the append
        have hrest:∀ (H3:AH), H1.next<H3.next→Has H3 i (devRow jl jw d)→Has H3 jl (.row (strs d.lasts) 1)→Has H3 H1.next (.row (wcells (d.waits ++ [(kn, s)])) 2)→Fr [i, jl, jw] H H3 →
            (wPt (some ⟨i, 0, none⟩) fun i8 k9=>wSt i8 (k9 + 1) [(.slice (some ⟨H1.next, 0, none⟩) (d.waits ++ [(kn, s)]).length 0)] H3 fun H10 =>
              wCall Tryz.prog 136 [(.pointer (some ⟨i, 0, none⟩))] H10 (fun r11 H12=>opB r11 fun b15=>wIf b15 (R (.ret (.int .i64 10)) H12) (R (.ret (.int .i64 0)) H12)) (fun v14 H13=>R (.panic v14) H13)):=by
          intro H3 hn3 h1 h2 h3 h4
          refine wPt_at (wSt_at h1 (by simp) ?_)
          have hni:H1.next ≠ i:=by have:=hd1.own.lt; omega
          have hnl:H1.next ≠ jl:=by have:=hd1.lasts.lt; omega
          have hwv:wval H1.next (d.waits ++ [(kn, s)])=.slice (some ⟨H1.next, 0, none⟩) (d.waits ++ [(kn, s)]).length 0:=by
            cases hq:d.waits ++ [(kn, s)] with
            | nil=>simp at hq
            | cons w l=>rfl
          have hdn:DevAt (H3.set i (devRow jl H1.next { d with waits:=d.waits ++ [(kn, s)] })) i jl H1.next { d with waits:=d.waits ++ [(kn, s)] } :=
            ⟨h1.set _, h2.setne hd.ne.symm _, fun _=>h3.setne hni _, hd.ne, fun e=>by simp at e, fun _=>⟨hni, hnl⟩⟩
          have he:(AObj.row (setCells [.slice (some ⟨jl, 0, none⟩) d.lasts.length 0, wval jw d.waits, .bool d.off, .int .i64 d.left, .int .u64 d.crash.keep, .int .i64 d.crash.torn, .int .i64 d.crash.at_] (0 + 1) [.slice (some ⟨H1.next, 0, none⟩) (d.waits ++ [(kn, s)]).length 0]) 0) =
              devRow jl H1.next { d with waits:=d.waits ++ [(kn, s)] }:=by
            rw [← hwv]; rfl
          show wCall _ _ _ (H3.set i (AObj.row (setCells _ (0 + 1) _) 0)) _ _
          rw [he]
          have hok1:({ d with waits:=d.waits ++ [(kn, s)] }:Dev).OK:=⟨hok.lasts, fun w hw=>by
            rcases List.mem_append.1 hw with hw | hw
            · exact hok.waits w hw
            · rw [List.mem_singleton] at hw
              subst hw
              exact ⟨by show kn<d.lasts.length; omega, hs⟩, hok.few, by simp; omega, hok.left⟩
          refine wCall_of (blows_call hdn hok1 (fun H' jw' hd' hf' hj=>?_))
          have hR:=h H' jw' hd' ((h4.set (.inl (by simp)) _).trans (hf'.mono (by simp))) (by rcases hj with e | e; exact .inl e; exact .inr (.inr (by have:=hf1.next; omega)))
          refine wIf_b (fun e=>?_) (fun e=>?_)
          · rw [e] at hR; exact hR
          · rw [e] at hR; exact hR
        by_cases hwe:d.waits=[]
        · rw [ha2 hwe, hwe]
          refine wAppL_nil (n:=0) hsc rfl rfl (by omega) (by omega) ?_
          have hl:(d.waits ++ [(kn, s)]).length=1:=by rw [hwe]; rfl
          have:=fun t=>hrest (H1.pushT (.row [.int .i64 (kn:Int), .string s] 2) t) (Nat.lt_succ_self _) (hd1.own.pushT _ _) (hd1.lasts.pushT _ _) (by rw [hwc, hwe]; exact Has.newT _ _ _) ((hf1.mono (by simp)).pushT _ _)
          rw [hl] at this
          exact this _
        · rw [ha1 hwe]
          have hw1:=hd1.waits hwe
          refine wAppL_own hw1 (by rw [wcells_length]; omega) hsc rfl rfl (by omega) (by omega) ?_
          have hl:(d.waits ++ [(kn, s)]).length=d.waits.length + 1:=by simp
          have:=fun t=>hrest ((H1.drop jw).pushT (.row (wcells d.waits ++ [.int .i64 (kn:Int), .string s]) 2) t) (Nat.lt_succ_self _) ((hd1.own.dropne (hd.nw hwe).1.symm).pushT _ _) ((hd1.lasts.dropne (hd.nw hwe).2.symm).pushT _ _)
            (by rw [hwc]; exact Has.newT (H1.drop jw) _ _) (((hf1.mono (by simp)).drop (.inl (by simp))).pushT _ _)
          rw [hl] at this
          exact this _
set_option maxRecDepth 20000 in
theorem kill_call (hd:DevAt H i jl jw d) (hok:d.OK) (c:Cr) (h:∀ H' jw', DevAt H' i jl jw' (d.kill c)→Fr [i, jl] H H'→(jw'=i∨jw'=jw)→R (.ret (.tuple #[])) H') :
    ACall Tryz.prog 25 [.pointer (some ⟨i, 0, none⟩), .agg #[.int .u64 c.keep, .int .i64 c.torn, .int .i64 c.at_]] H R:=by
  apply f25_call
  unfold f25_B
  have hn:=Has.new H (.row c.val 0)
  have hf1:Fr [] H (H.push (.row c.val 0)):=(Fr.refl [] H).push _
  have hd1:=hd.fr hf1 (by simp)
  unfold Dev.kill at h
  refine wNew_at (wIf_f rfl (wPt_at (ldB_at hd1.own rfl (wIf_b (fun e=>?_) (fun e=>?_)))))
  · have hoff:¬ d.off=true:=by simpa using e
    rw [if_neg hoff] at h
    refine ldI_at hn rfl (ldI_at hn rfl (ldI_at hn rfl (wCall_of (lose_call hd1 hok c (fun H' hd' hf'=>wCall_of (up_call hd' (fun H2 hd2 hf2=>?_)))))))
    exact h _ i hd2 (((hf1.mono (by simp)).trans hf').trans (hf2.mono (by simp))) (.inl rfl)
  · have hoff:d.off=true:=by simpa using e
    rw [if_pos hoff] at h
    exact wCall_of (up_call hd1 (fun H2 hd2 hf2=>h _ jw hd2 ((hf1.mono (by simp)).trans (hf2.mono (by simp))) (.inr rfl)))
end
end Go.Proofs.YtjhbbbcelnlnpaaGreatDoor
namespace Go.Proofs.YtjhbbbcelnlnpaaGreatDoor
open Go.RowKit

def flushN (ws:List (Nat × ByteArray)):Nat→List ByteArray→List ByteArray
  | 0, ls=>ls
  | k + 1, ls=>(flushN ws k ls).set (ws.getD k (0, ByteArray.empty)).1 (ws.getD k (0, ByteArray.empty)).2
def Dev.flush (d:Dev):Int × Dev :=
  if d.off then (10, d) else if d.blow.1 then (10, d.blow.2) else (0, { d.blow.2 with lasts:=flushN d.waits d.waits.length d.lasts, waits:=[] })
theorem flushN_ok {ws:List (Nat × ByteArray)} {ls:List ByteArray} (h:∀ s ∈ ls, s.size=64) (hw:∀ w ∈ ws, w.2.size=64) (k:Nat) (hk:k≤ws.length) :
    (flushN ws k ls).length=ls.length∧∀ s ∈ flushN ws k ls, s.size=64:=by
  induction k with
  | zero=>exact ⟨rfl, h⟩
  | succ k ih =>
    obtain ⟨h1, h2⟩:=ih (by omega)
    refine ⟨by rw [flushN, List.length_set]; exact h1, fun s hs=>?_⟩
    rw [flushN] at hs
    rcases List.mem_or_eq_of_mem_set hs with hs | rfl
    · exact h2 s hs
    · exact hw _ (getW_mem (show k<ws.length by omega))
theorem blow_false {d:Dev} (h:¬ d.blow.1=true):d.blow.2.lasts=d.lasts∧d.blow.2.waits=d.waits:=by
  unfold Dev.blow at h ⊢
  split
  · exact ⟨rfl, rfl⟩
  · rename_i e
    rw [if_neg e] at h
    split
    · exact ⟨rfl, rfl⟩
    · rename_i e2
      rw [if_neg e2] at h
      exact absurd rfl h
theorem Dev.OK.flush {d:Dev} (h:d.OK):d.flush.2.OK:=by
  unfold Dev.flush
  split
  · exact h
  · split
    · exact h.blow
    · rename_i hb
      have hb2:=h.blow
      obtain ⟨h1, h2⟩:=flushN_ok h.lasts (fun w hw=>(h.waits w hw).2) d.waits.length (Nat.le_refl _)
      exact ⟨h2, fun w hw=>(by cases hw), by show (flushN _ _ _).length≤_; rw [h1]; exact h.few, by show 0<_; omega, hb2.left⟩

theorem lastW_snoc (i:Nat) (l:List (Nat × ByteArray)) (w:Nat × ByteArray):lastW i (l ++ [w])=if w.1=i then some w.2 else lastW i l:=by
  induction l with
  | nil=>simp only [List.nil_append, lastW]
  | cons x l ih =>
    simp only [List.cons_append, lastW, ih]
    by_cases h:w.1=i
    · simp [h]
    · simp [h]

section
variable {H:AH} {i jl jw:Nat} {d:Dev} {R:AEnd→AH→Prop}
set_option maxRecDepth 20000 in
theorem flush_call (hd:DevAt H i jl jw d) (hok:d.OK) (h:∀ H' jw', DevAt H' i jl jw' d.flush.2→Fr [i, jl] H H'→(jw'=i∨jw'=jw)→R (.ret (.int .i64 d.flush.1)) H') :
    ACall Tryz.prog 115 [.pointer (some ⟨i, 0, none⟩)] H R:=by
  apply f115_call
  unfold f115_B
  refine wCall_of (refused_call hd ?_)
  unfold Dev.flush at h
  by_cases hoff:d.off=true
  · rw [if_pos hoff] at h
    rw [if_pos hoff]
    exact opI_at (wIf_nt (by omega) (h H jw hd (Fr.refl _ _) (.inr rfl)))
  · rw [if_neg hoff] at h
    rw [if_neg hoff]
    refine opI_at (wIf_nf rfl (wCall_of (blows_call hd hok (fun H1 jw1 hd1 hf1 hj=>?_))))
    by_cases hb:d.blow.1=true
    · rw [if_pos hb] at h
      rw [hb]
      exact opB_at (wIf_t rfl (h H1 jw1 hd1 hf1 hj))
    · rw [if_neg hb] at h
      have hbf:d.blow.1=false:=by simpa using hb
      rw [hbf]
      obtain ⟨hbl, hbw⟩:=blow_false hb
      obtain ⟨a, ha, ha1, ha2⟩:=wval_eq jw1 d.waits
      have hk:=hd1.own
      unfold devRow at hk
      rw [hbw, ha] at hk
      refine opB_at (wIf_f rfl (wPt_at (ldL_at hk rfl ?_)))
      have hmany:=hok.many
      have hw1:d.waits ≠ []→Has H1 jw1 (.row (wcells d.waits) 2):=fun e=>by have:=hd1.waits (by rw [hbw]; exact e); rw [hbw] at this; exact this
      have hnw:d.waits ≠ []→jw1 ≠ i∧jw1 ≠ jl:=fun e=>hd1.nw (by rw [hbw]; exact e)
      refine f115_L0_rule (J:=fun m r H'=>∃ k:Nat, k≤d.waits.length∧r=(k:Int)∧m=d.waits.length - k∧Has H' i (devRow jl jw1 { d.blow.2 with lasts:=flushN d.waits k d.lasts }) ∧
          Has H' jl (.row (strs (flushN d.waits k d.lasts)) 1)∧(d.waits ≠ []→Has H' jw1 (.row (wcells d.waits) 2))∧Fr [i, jl] H H') d.waits.length
        ⟨0, Nat.zero_le _, rfl, rfl, by have:=hd1.own; unfold devRow at this ⊢; rw [hbl] at this; exact this, by have:=hd1.lasts; rw [hbl] at this; exact this, hw1, hf1⟩ ?_
      rintro m r H2 ⟨k, hkl, rfl, rfl, ho, hl, hw, hf⟩
      intros
      unfold f115_R0
      obtain ⟨hlen, hsz⟩:=flushN_ok hok.lasts (fun w hw=>(hok.waits w hw).2) k hkl
      refine wIf_d (fun hlt=>?_) (fun hge=>?_)
      · have hlt:k<d.waits.length:=by omega
        have hne:d.waits ≠ []:=by intro e; rw [e] at hlt; simp at hlt
        obtain ⟨hc1, hc2⟩:=wcells_getD d.waits k hlt
        have hwk:=hok.waits _ (getW_mem hlt)
        generalize hwv:d.waits.getD k (0, ByteArray.empty)=wv at hc1 hc2 hwk
        rw [ha1 hne]
        refine wIx_at (by omega) (by omega) (ldI_at (hw hne) hc1 (ldS_at (hw hne) hc2 (wNew_at (wSt_at (Has.new _ _) (by simp) ?_))))
        have hx:Fr [] H2 ((H2.push (.row [.int .i64 0, .string ⟨#[]⟩] 0)).set H2.next (.row (setCells [.int .i64 0, .string ⟨#[]⟩] 0 [.int .i64 (wv.1:Int), .string wv.2]) 0)):=((Fr.refl [] H2).push _).set (.inr (Nat.le_refl _)) _
        have hb:=(Has.new H2 (.row [.int .i64 0, .string ⟨#[]⟩] 0)).set (.row (setCells [.int .i64 0, .string ⟨#[]⟩] 0 [.int .i64 (wv.1:Int), .string wv.2]) 0)
        generalize hH3:(H2.push (.row [.int .i64 0, .string ⟨#[]⟩] 0)).set H2.next (.row (setCells [.int .i64 0, .string ⟨#[]⟩] 0 [.int .i64 (wv.1:Int), .string wv.2]) 0)=H3 at hx hb ⊢
        have ho2:=ho.fr hx (by simp)
        have hl2:=hl.fr hx (by simp)
        have hf2:Fr [i, jl] H H3:=hf.trans (hx.mono (by simp))
        have hw2':d.waits ≠ []→Has H3 jw1 (.row (wcells d.waits) 2):=fun e=>(hw e).fr hx (by simp)
        have hdl:({ d.blow.2 with lasts:=flushN d.waits k d.lasts }:Dev).lasts.length=d.lasts.length:=hlen
        have hw1l:wv.1<d.lasts.length:=hwk.1
        refine wPt_at (ldL_at ho2 rfl (ldI_at hb rfl (ldS_at hb rfl (wIx_at (by omega) (by rw [hdl]; omega) (wSt_at hl2 ?_ ?_)))))
        · rw [strs_length, hlen]; simp; omega
        · have hN:flushN d.waits (k + 1) d.lasts=(flushN d.waits k d.lasts).set wv.1 wv.2:=by rw [flushN, hwv]
          refine ⟨d.waits.length - (k + 1), by omega, f115_I0_mk ⟨k + 1, hlt, wi1 k (by omega), rfl, ?_, ?_, fun e=>(hw2' e).setne (hnw e).2 _, hf2.set (.inl (by simp)) _⟩⟩
          · have:=ho2.setne hd.ne (.row (setCells (strs (flushN d.waits k d.lasts)) (0 + ((wv.1:Nat):Int).toNat * 1) [.string wv.2]) 1)
            unfold devRow at this ⊢
            rw [hN]
            simpa using this
          · rw [hN, Int.toNat_natCast, Nat.zero_add, Nat.mul_one, strs_set]
            exact hl2.set _
      · have hkk:k=d.waits.length:=by omega
        rw [f115_J0_eq]
        unfold f115_J0_B
        refine wPt_at (wSt_at ho (by simp) ?_)
        rw [hkk] at hlen hl ho ⊢
        refine h _ i ⟨?_, hl.setne hd.ne.symm _, fun e=>absurd rfl e, hd.ne, fun _=>rfl, fun e=>absurd rfl e⟩ (hf.set (.inl (by simp)) _) (.inl rfl)
        exact ho.set _
set_option maxRecDepth 20000 in
theorem read_call (hd:DevAt H i jl jw d) (hok:d.OK) (k:Int) (h:R (.ret (.tuple #[.string (d.read k).1, .int .i64 (d.read k).2])) H) :
    ACall Tryz.prog 62 [.pointer (some ⟨i, 0, none⟩), .int .i64 k] H R:=by
  apply f62_call
  unfold f62_B
  refine wCall_of (refused_call hd ?_)
  unfold Dev.read at h
  by_cases hoff:d.off=true
  · rw [if_pos hoff] at h
    rw [if_pos hoff]
    exact opI_at (wIf_nt (by omega) h)
  · rw [if_neg hoff] at h
    rw [if_neg hoff]
    refine opI_at (wIf_nf rfl ?_)
    refine wIf_d (fun hk=>?_) (fun hk=>?_)
    · rw [f62_J0_eq]
      unfold f62_J0_B
      rw [if_pos (.inl hk)] at h
      exact wIf_t rfl h
    · refine wPt_at (ldL_at hd.own rfl ?_)
      rw [f62_J0_eq]
      unfold f62_J0_B
      refine wIf_d (fun hk2=>?_) (fun hk2=>?_)
      · rw [if_pos (.inr hk2)] at h
        exact h
      · rw [if_neg (by omega)] at h
        rw [f62_J1_eq]
        unfold f62_J1_B
        obtain ⟨a, ha, ha1, ha2⟩:=wval_eq jw d.waits
        have hkk:=hd.own
        unfold devRow at hkk
        rw [ha] at hkk
        refine wPt_at (ldL_at hkk rfl ?_)
        have hmany:=hok.many
        rw [wi _ (by omega) (by omega)]
        refine f62_L0_rule (J:=fun m r H'=>H'=H∧m≤d.waits.length∧r=(m:Int) - 1∧lastW k.toNat d.waits=lastW k.toNat (d.waits.take m)) d.waits.length
          ⟨rfl, Nat.le_refl _, rfl, by rw [List.take_length]⟩ ?_
        rintro m r H' ⟨rfl, hm, rfl, hlw⟩
        intros
        unfold f62_R0
        refine wIf_d (fun hge=>?_) (fun hlt=>?_)
        · obtain ⟨n, rfl⟩:∃ n, m=n + 1:=⟨m - 1, by omega⟩
          have hn:((n + 1:Nat):Int) - 1=(n:Int):=by omega
          rw [hn]
          have hlt:n<d.waits.length:=by omega
          have hne:d.waits ≠ []:=by intro e; rw [e] at hlt; simp at hlt
          obtain ⟨hc1, hc2⟩:=wcells_getD d.waits n hlt
          have htk:d.waits.take (n + 1)=d.waits.take n ++ [d.waits.getD n (0, ByteArray.empty)]:=by
            rw [List.take_add_one, List.getD_eq_getElem?_getD, List.getElem?_eq_getElem hlt]; rfl
          rw [htk, lastW_snoc] at hlw
          generalize hwv:d.waits.getD n (0, ByteArray.empty)=wv at hc1 hc2 hlw
          rw [ha1 hne] at hkk ⊢
          refine wPt_at (ldL_at hkk rfl (wIx_at (by omega) (by omega) (ldI_at (hd.waits hne) hc1 (wIf_d (fun he=>?_) (fun he=>?_)))))
          · refine wPt_at (ldL_at hkk rfl (wIx_at (by omega) (by omega) (ldS_at (hd.waits hne) hc2 ?_)))
            rw [if_pos (by omega)] at hlw
            rw [hlw] at h
            exact h
          · rw [if_neg (by omega)] at hlw
            refine ⟨n, by omega, f62_I0_mk ⟨rfl, by omega, ?_, hlw⟩⟩
            rw [wi _ (by omega) (by omega)]
        · have hm0:m=0:=by omega
          rw [hm0] at hlw
          rw [f62_J2_eq]
          unfold f62_J2_B
          have hkl:k.toNat<d.lasts.length:=by omega
          refine wPt_at (ldL_at hkk rfl (wIx_at (by omega) (by omega) (ldS_at hd.lasts (by rw [Nat.zero_add, Nat.mul_one]; exact strs_getD _ _ hkl) ?_)))
          rw [hlw] at h
          exact h
end
end Go.Proofs.YtjhbbbcelnlnpaaGreatDoor
