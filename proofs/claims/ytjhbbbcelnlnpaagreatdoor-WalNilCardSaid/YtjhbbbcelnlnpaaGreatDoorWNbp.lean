/- The log: what Open, Checkpoint and Append leave is a log that was opened. -/
import Derived.Test.YtjhbbbcelnlnpaaGreatDoorWNbo
namespace Go.Proofs.YtjhbbbcelnlnpaaGreatDoor
open Go.RowKit

theorem nodup_le:∀ {n:Nat} {l:List Nat}, l.Nodup→(∀ x ∈ l, x<n)→l.length≤n
  | 0, l, _, h=>by
    cases l with
    | nil=>exact Nat.le_refl _
    | cons a l=>exact absurd (h a (by simp)) (Nat.not_lt_zero _)
  | n + 1, l, hn, h=>by
    have h1:=nodup_le (n:=n) (l:=l.filter (· != n)) (hn.filter _) (fun x hx=>by
      have:=List.mem_filter.1 hx
      have h2:=h x this.1
      have h3:x ≠ n:=by simpa using this.2
      omega)
    have h2:(l.filter (· == n)).length≤1:=by
      have:(l.filter (· == n)).Nodup:=hn.filter _
      have hall:∀ x ∈ l.filter (· == n), x=n:=fun x hx=>by simpa using (List.mem_filter.1 hx).2
      generalize l.filter (· == n)=m at this hall
      match m with
      | []=>exact Nat.zero_le _
      | [a]=>exact Nat.le_refl _
      | a :: b :: m =>
        have e1:=hall a (by simp)
        have e2:=hall b (by simp)
        rw [List.nodup_cons] at this
        exact absurd (by rw [e1, ← e2]; simp) this.1
    have h3:l.length=(l.filter (· == n)).length + (l.filter (· != n)).length:=by
      clear hn h h1 h2
      induction l with
      | nil=>rfl
      | cons a l ih =>
        rw [List.filter_cons, List.filter_cons]
        by_cases e:a=n
        · subst e; simp; omega
        · have e1:(a == n)=false:=by simpa using e
          have e2:(a != n)=true:=by simpa using e
          rw [e1, e2]; simp; omega
    omega
theorem loseN_len (c:Cr) (ws:List (Nat × ByteArray)):∀ (k:Nat) (ls:List ByteArray), (loseN c ws k ls).length=ls.length
  | 0, ls=>rfl
  | k + 1, ls=>by
    have h:=loseN_len c ws k ls
    rw [loseN]
    unfold loseStep
    split
    · rw [List.length_set, h]
    · split
      · rw [List.length_set, h]
      · exact h
theorem flushN_len (ws:List (Nat × ByteArray)):∀ (k:Nat) (ls:List ByteArray), (flushN ws k ls).length=ls.length
  | 0, ls=>rfl
  | k + 1, ls=>by
    rw [flushN, List.length_set, flushN_len ws k ls]
theorem blow_len (d:Dev):d.blow.2.lasts.length=d.lasts.length:=by
  unfold Dev.blow
  split
  · rfl
  · split
    · rfl
    · exact loseN_len _ _ _ _
theorem write_len (d:Dev) (k:Int) (s:ByteArray):(d.write k s).2.lasts.length=d.lasts.length:=by
  unfold Dev.write
  split
  · rfl
  · split
    · rfl
    · exact blow_len _
theorem flush_len (d:Dev):d.flush.2.lasts.length=d.lasts.length:=by
  unfold Dev.flush
  split
  · rfl
  · split
    · exact blow_len d
    · exact flushN_len _ _ _
theorem kill_len (d:Dev) (c:Cr):(d.kill c).lasts.length=d.lasts.length:=by
  unfold Dev.kill
  split
  · rfl
  · exact loseN_len _ _ _ _
theorem writesP_len:∀ (l:List (Nat × ByteArray)) (d:Dev), (writesP l d).2.lasts.length=d.lasts.length
  | [], d=>rfl
  | w :: l, d=>by
    have h:=write_len d (w.1:Int) w.2
    unfold writesP
    split
    · exact h
    · rw [writesP_len l, h]
theorem putP_len (l:List (Nat × ByteArray)) (d:Dev):(putP l d).2.lasts.length=d.lasts.length:=by
  have h:=writesP_len (flat l) d
  unfold putP
  split
  · exact h
  · rw [flush_len, h]
theorem stepP_len (l:List (Nat × ByteArray)) (d:Dev):(stepP l d).2.lasts.length=d.lasts.length:=by
  unfold stepP
  split
  · rfl
  · exact putP_len l d
theorem doP_len (per:Nat) (bg:List Nat) (ea la:List (Nat × ByteArray)) (d:Dev):(doP per bg ea la d).2.lasts.length=d.lasts.length:=by
  show (if (stepP (blankW per bg) d).1 ≠ 0 then stepP (blankW per bg) d else if (stepP ea (stepP (blankW per bg) d).2).1 ≠ 0 then stepP ea (stepP (blankW per bg) d).2 else putP la (stepP ea (stepP (blankW per bg) d).2).2).2.lasts.length=_
  split
  · exact stepP_len _ _
  · split
    · rw [stepP_len, stepP_len]
    · rw [putP_len, stepP_len, stepP_len]
theorem unitsN_sq {secs:List ByteArray} {per place s:Nat}:∀ (f at_ seq:Nat) (kind:Int) (out:List ByteArray), seq<18446744073709551616→(unitsN secs per place s f at_ seq kind out).2<18446744073709551616
  | 0, _, seq, _, out, h=>h
  | f + 1, at_, seq, kind, out, h=>by
    unfold unitsN
    split
    · split
      · exact unitsN_sq f _ _ _ _ (Nat.mod_lt _ (by decide))
      · exact h
    · exact h
theorem recsP_sq {secs:List ByteArray} {per:Nat} {l:List (HV × Nat)}:∀ (ch:List Nat) (n seq:Nat) (out:List ByteArray), seq<18446744073709551616→(recsP secs per l ch n seq out).2.1<18446744073709551616
  | [], n, seq, out, h=>h
  | s :: ch, n, seq, out, h=>by
    unfold recsP
    split
    · exact h
    · split
      · exact h
      · exact recsP_sq ch _ _ _ (unitsN_sq _ _ _ _ _ h)
theorem recsP_ub (secs:List ByteArray) (per:Nat) (l:List (HV × Nat)):∀ (ch:List Nat) (n seq:Nat) (out:List ByteArray), (recsP secs per l ch n seq out).2.2≤n + ch.length
  | [], n, seq, out=>Nat.le_refl _
  | s :: ch, n, seq, out=>by
    unfold recsP
    split
    · exact Nat.le_add_right _ _
    · split
      · exact Nat.le_add_right _ _
      · refine Nat.le_trans (recsP_ub secs per l ch (n + 1) _ _) ?_
        simp only [List.length_cons]; omega
theorem place_lt {secs:List ByteArray} {per:Nat} {l:List (HV × Nat)} (wf:Wf secs per l) {s:Nat} (h:(hfind l s).isSome=true):placeP l s<secs.length / per:=by
  unfold placeP
  cases he:hfind l s with
  | none=>rw [he] at h; cases h
  | some e =>
    have:=(wf.ok s e he).2.2.2
    have hp:=wf.per1
    exact (Nat.le_div_iff_mul_le (by omega)).2 this
theorem found_le {l:List (HV × Nat)} {s:Nat} (h:(hfind l s).isSome=true):s≤mostS l:=by
  cases he:hfind l s with
  | none=>rw [he] at h; cases h
  | some e =>
    obtain ⟨h1, h2⟩:=hfind_mem he
    rw [← h2]; exact mostS_le l e h1
theorem scan_most {secs:List ByteArray} {per:Nat}:mostS (scan secs per)<4294967296 :=
  mostS_lt _ fun e he=>((scanN_ok secs per (secs.length / per)).good e he).2.1.1
theorem found_good {d:Dev} {per:Nat} (wf:Wf d.secs per (scan d.secs per)) {s:Nat} {ch:List Nat} (hs:(hfind (scan d.secs per) s).isSome=true) (hc:chainP d.secs per (scan d.secs per) s=some ch) (hl:ch.length≤4294967296) :
    LgGood (foundL d.secs per (scan d.secs per) ch) d:=by
  obtain ⟨hm, t, ht⟩:=chainP_facts hc
  have hne:ch ≠ []:=by rw [ht]; simp
  have hn1:=recs0_pos (secs:=d.secs) (per:=per) hne hm
  have hn2:(recs0 d.secs per (scan d.secs per) ch).2.2≤ch.length:=by
    cases ch with
    | nil=>exact absurd rfl hne
    | cons a ch=>have:=recsP_ub d.secs per (scan d.secs per) (a :: ch) 0 (match hfind (scan d.secs per) a with | some e=>e.1.sq | none=>0) []; rw [Nat.zero_add] at this; exact this
  have hlen:=d.secs_length
  have h0:ch.headD 0 ∈ ch:=by rw [ht]; simp
  have h1:ch.getD ((recs0 d.secs per (scan d.secs per) ch).2.2 - 1) 0 ∈ ch:=by
    rw [List.getD_eq_getElem?_getD, List.getElem?_eq_getElem (by omega)]; exact List.getElem_mem _
  have hb:ch.headD 0=baseOf (scan d.secs per) s:=by rw [ht]; rfl
  have hmost:=scan_most (secs:=d.secs) (per:=per)
  refine ⟨⟨wf.per1, by have:=wf.seg3; rw [hlen] at this; exact this, hmost, ?_, ?_, ?_, Nat.zero_le _, ?_, ?_⟩, ?_, found_le (hm _ h0), found_le (hm _ h1), ?_, ?_⟩
  · exact Nat.lt_of_le_of_lt (found_le (hm _ h1)) hmost
  · exact Nat.lt_of_le_of_lt (found_le (hm _ h0)) hmost
  · show (recs0 d.secs per (scan d.secs per) ch).2.1<_
    cases ch with
    | nil=>exact absurd rfl hne
    | cons a ch =>
      refine recsP_sq _ _ _ _ ?_
      cases he:hfind (scan d.secs per) a with
      | none=>simp
      | some e=>exact (wf.ok a e he).2.2.1.2.2.2
  · show (List.map _ _).length≤_
    rw [List.length_map, List.length_take]; omega
  · intro x hx
    obtain ⟨y, hy, rfl⟩:=List.mem_map.1 (show x ∈ (ch.take _).map (placeP _) from hx)
    have:=place_lt wf (hm y (List.mem_of_mem_take hy))
    rw [hlen] at this; exact this
  · show 1≤ch.headD 0
    rw [hb]
    unfold baseOf
    cases he:hfind (scan d.secs per) s with
    | none=>rw [he] at hs; cases hs
    | some e=>exact (wf.ok s e he).2.1.1
  · show (ch.take _).map _ ≠ []
    intro e
    have:=congrArg List.length e
    rw [List.length_map, List.length_take, List.length_nil] at this
    omega
  · show ((ch.take _).map _).Nodup
    have hnd:=chainP_nodup (fun s e he=>⟨(wf.ok s e he).1, (wf.ok s e he).2.1⟩) hc
    refine List.pairwise_map.2 (List.Pairwise.imp_of_mem ?_ (hnd.sublist (List.take_sublist _ _)))
    intro a b ha hb hab e
    refine hab ?_
    have fa:=hm a (List.mem_of_mem_take ha)
    have fb:=hm b (List.mem_of_mem_take hb)
    unfold placeP at e
    cases ea:hfind (scan d.secs per) a with
    | none=>rw [ea] at fa; cases fa
    | some x =>
      cases eb:hfind (scan d.secs per) b with
      | none=>rw [eb] at fb; cases fb
      | some y =>
        rw [ea, eb] at e
        obtain ⟨ma, sa⟩:=hfind_mem ea
        obtain ⟨mb, sb⟩:=hfind_mem eb
        have:=(scanN_ok d.secs per (d.secs.length / per)).uniq x ma y mb e
        rw [← sa, ← sb, this]
theorem LgGood.dev {L:Lg} {d d':Dev} (g:LgGood L d) (h:d'.lasts.length=d.lasts.length):LgGood L d' :=
  ⟨⟨g.per2, by rw [h]; exact g.seg3, g.ser, g.las, g.bas, g.sq, g.atp, g.chl, by rw [h]; exact g.chm⟩, g.b1, g.bs, g.ls, g.cne, g.nd⟩
theorem LgGood.shut {L:Lg} {d:Dev} (g:LgGood L d):LgGood { L with closed:=true } d :=
  ⟨⟨g.per2, g.seg3, g.ser, g.las, g.bas, g.sq, g.atp, g.chl, g.chm⟩, g.b1, g.bs, g.ls, g.cne, g.nd⟩
theorem ckEnd_good {L:Lg} {d:Dev} (g:LgOK L d) (hok:d.OK) {body:ByteArray} (hl:longP L.per body=false) (hs:L.serial ≠ 4294967295) {f:Nat} (hf:f<d.lasts.length / L.per):LgGood (ckEnd L f body) d:=by
  have h8:=(ck_sized g hok hf hl hs).2.2.2.2.2.2.2
  unfold longP at hl
  simp only [Bool.or_eq_false_iff, decide_eq_false_iff_not] at hl
  have hser:=g.ser
  refine ⟨⟨g.per2, g.seg3, by show L.serial + 1<_; omega, by show L.serial + 1<_; omega, by show L.serial + 1<_; omega, Nat.mod_lt _ (by decide), by show 1 + secsN _≤L.per; omega, by show 1≤_; omega, fun x hx=>?_⟩, by show 1≤L.serial + 1; omega, Nat.le_refl _, Nat.le_refl _, by show [f] ≠ []; simp, by show [f].Nodup; simp⟩
  have:x=f:=List.mem_singleton.1 hx
  rw [this]; exact hf
theorem ckP_len (L:Lg) (d:Dev) (body:ByteArray):(ckP L d body).2.2.lasts.length=d.lasts.length:=by
  unfold ckP
  split
  · rfl
  · split
    · rfl
    · split
      · rfl
      · split
        · rfl
        · split
          · exact doP_len _ _ _ _ _
          · exact doP_len _ _ _ _ _
theorem ckP_good {L:Lg} {d:Dev} (g:LgOK L d) (hok:d.OK) {body:ByteArray} (h:(ckP L d body).1=0):LgGood (ckP L d body).2.1 (ckP L d body).2.2:=by
  have hlen:=ckP_len L d body
  refine LgGood.dev (d:=d) ?_ hlen
  revert h
  unfold ckP
  split
  · intro h; cases h
  · split
    · intro h; cases h
    · rename_i h1 h2
      split
      · intro h; cases h
      · rename_i f fr hfr
        split
        · intro h; cases h
        · rename_i h3
          split
          · rename_i h4
            intro h; exact absurd h h4
          · intro _
            exact ckEnd_good g hok (by simpa using h2) h3 (freeP_lt (by rw [hfr]; simp))
theorem apN_f {L:Lg} {N C:Nat} (hb1:1≤L.base) (hN:N * L.per≤4096):∀ (bs:List ByteArray) (k:Nat) (st st':Ast), (∀ b ∈ bs, longP L.per b=false)→ApF L N C k st→apN bs st=some st'→ApF L N C (k + bs.length) st'
  | [], k, st, st', _, h, e=>by cases e; exact h
  | b :: bs, k, st, st', hl, h, e=>by
    have hb:=hl b (by simp)
    have hl':∀ b ∈ bs, longP L.per b=false:=fun x hx=>hl x (by simp [hx])
    have key:∀ st1, ApF L N C (k + 1) st1→apN bs st1=some st'→ApF L N C (k + (b :: bs).length) st':=by
      intro st1 h1 e1
      have:=apN_f hb1 hN bs (k + 1) st1 st' hl' h1 e1
      have e2:k + (b :: bs).length=k + 1 + bs.length:=by simp; omega
      rw [e2]; exact this
    unfold apN at e
    split at e
    · rename_i hn
      split at e
      · cases e
      · rename_i hf
        exact key _ (apSeg_f hb1 hN hb h (by simpa using hf)) e
    · rename_i hn
      exact key _ (apUnit_f hN hb h (by simpa using hn)) e
theorem appP_len (L:Lg) (d:Dev) (bs:List ByteArray):(appP L d bs).2.2.lasts.length=d.lasts.length:=by
  unfold appP
  split
  · rfl
  · split
    · rfl
    · split
      · rfl
      · split
        · rfl
        · split
          · exact doP_len _ _ _ _ _
          · exact doP_len _ _ _ _ _
theorem appP_good {L:Lg} {d:Dev} (g:LgGood L d) (hok:d.OK) (bs:List ByteArray):LgGood (appP L d bs).2.1 (appP L d bs).2.2:=by
  refine LgGood.dev (d:=d) ?_ (appP_len L d bs)
  have hNm:d.lasts.length / L.per * L.per≤4096:=Nat.le_trans (Nat.div_mul_le_self _ _) hok.few
  unfold appP
  split
  · exact g
  · rename_i h1
    split
    · exact g
    · rename_i h2
      split
      · exact g
      · rename_i st hst
        split
        · exact g
        · split
          · exact g.shut
          · have hl:∀ b ∈ bs, longP L.per b=false:=by
              intro b hb
              have:=List.any_eq_false.1 (by simpa using h2:bs.any (longP L.per)=false) b hb
              simpa using this
            have hf:=apN_f g.b1 hNm bs 0 _ st hl (ap0_f g (by simpa using h1)) hst
            have hcnt:=hf.cnt
            have hchl:=g.chl
            have hp2:=g.per2
            have hs3:=g.seg3
            have hfew:=hok.few
            have hnd:=hf.nd
            rw [List.nodup_append] at hnd
            have hcl:=nodup_le hnd.1 hf.chm
            have hdl:=Nat.div_le_self d.lasts.length L.per
            exact ⟨⟨by rw [hf.per]; exact g.per2, by rw [hf.per]; exact g.seg3, hf.ser, Nat.lt_of_le_of_lt hf.las hf.ser, by rw [hf.bas]; exact g.bas, hf.sq, by rw [hf.per]; exact hf.atp, (by show st.nx.chain.length≤_; omega), by rw [hf.per]; exact hf.chm⟩, by rw [hf.bas]; exact g.b1, by rw [hf.bas]; exact hf.bse, hf.las, hf.cne, hnd.1⟩
end Go.Proofs.YtjhbbbcelnlnpaaGreatDoor
