/- The log: the small calls. -/
import Derived.Test.YtjhbbbcelnlnpaaGreatDoorWNbe
import Derived.Test.YtjhbbbcelnlnpaaGreatDoorWNau
namespace Go.Proofs.YtjhbbbcelnlnpaaGreatDoor
open Go.RowKit

def ints (l:List Nat):List Value:=l.map fun (x:Nat)=>.int .i64 (x:Int)
theorem ints_length (l:List Nat):(ints l).length=l.length:=by simp [ints]
theorem ints_at (l:List Nat) (k:Nat) (h:k<l.length):(ints l)[k]?=some (.int .i64 ((l.getD k 0:Nat):Int)):=by simp [ints, h]
theorem ints_snoc (l:List Nat) (x:Nat):ints l ++ [.int .i64 (x:Int)]=ints (l ++ [x]):=by simp [ints]
structure Lg where
  per:Nat
  chain:List Nat
  base:Nat
  last:Nat
  serial:Nat
  seq:Nat
  at_:Nat
  closed:Bool
abbrev lrow (i:Nat) (b:Option Addr) (n c:Nat) (L:Lg):List Value:=[.pointer (some ⟨i, 0, none⟩), .int .i64 (L.per:Int), .slice b n c, .int .u32 (L.base:Int), .int .u32 (L.last:Int), .int .u32 (L.serial:Int), .int .u64 (L.seq:Int), .int .i64 (L.at_:Int), .bool L.closed]
def Sli (H:AH) (b:Option Addr) (n c:Nat) (l:List Nat):Prop:=OwnC 0 H 1 b n c (ints l)
structure LogAt (H:AH) (il i:Nat) (b:Option Addr) (c:Nat) (L:Lg):Prop where
  own:Has H il (.row (lrow i b L.chain.length c L) 0)
  chain:Sli H b L.chain.length c L.chain
  ne:∀ o, b=some ⟨o, 0, none⟩→o ≠ il
theorem Sli.fr {S:List Nat} {H H':AH} {b:Option Addr} {n c:Nat} {l:List Nat} (h:Sli H b n c l) (x:Fr S H H') (hs:∀ o, b=some ⟨o, 0, none⟩→o ∉ S):Sli H' b n c l:=by
  rcases h with h | ⟨o, h1, h2, h3, h4, h5⟩
  · exact .inl h
  · exact .inr ⟨o, h1, h2, h3, h4.fr x (hs o h1), h5⟩
theorem LogAt.fr {S:List Nat} {H H':AH} {il i:Nat} {b:Option Addr} {c:Nat} {L:Lg} (h:LogAt H il i b c L) (x:Fr S H H') (hs:il ∉ S∧∀ o, b=some ⟨o, 0, none⟩→o ∉ S):LogAt H' il i b c L :=
  ⟨h.own.fr x hs.1, h.chain.fr x hs.2, h.ne⟩
theorem Sli.len {H:AH} {b:Option Addr} {n c:Nat} {l:List Nat} (h:Sli H b n c l):n=l.length:=by
  have:=OwnC.len h
  rw [ints_length, Nat.mul_one] at this; exact this
theorem Sli.cases {H:AH} {b:Option Addr} {n c:Nat} {l:List Nat} (h:Sli H b n c l):(b=none∧n=0∧c=0∧l=[])∨∃ o, b=some ⟨o, 0, none⟩∧c=0∧n=l.length∧Has H o (.row (ints l) 1):=by
  have hl:=h.len
  rcases h with ⟨h1, h2, h3, h4⟩ | ⟨o, h1, h2, h3, h4, h5⟩
  · refine .inl ⟨h1, h2, h3, ?_⟩
    rw [h2] at hl; exact List.length_eq_zero_iff.1 hl.symm
  · exact .inr ⟨o, h1, h2, hl, h4⟩

def freeP (n:Nat) (chain:List Nat):List Nat:=(List.range n).filter fun i=>!chain.contains i
theorem freeP_succ (n:Nat) (chain:List Nat):freeP (n + 1) chain=if chain.contains n=true then freeP n chain else freeP n chain ++ [n]:=by
  unfold freeP
  rw [List.range_succ, List.filter_append]
  by_cases h:chain.contains n=true
  · rw [if_pos h, List.filter_cons]
    simp only [h, Bool.not_true, List.filter_nil, List.append_nil]
    simp
  · rw [if_neg h, List.filter_cons]
    have h2:chain.contains n=false:=Bool.eq_false_iff.2 h
    simp only [h2, Bool.not_false, List.filter_nil]
    simp
theorem freeP_le (n:Nat) (chain:List Nat):(freeP n chain).length≤n:=by
  unfold freeP
  have:=List.length_filter_le (fun i=>!chain.contains i) (List.range n)
  simpa using this
theorem freeP_lt {n:Nat} {chain:List Nat} {x:Nat} (h:x ∈ freeP n chain):x<n:=List.mem_range.1 (List.mem_filter.1 h).1
def longP (per:Nat) (body:ByteArray):Bool:=decide (secsN (body.size:Int)=0) || decide (per≤secsN (body.size:Int))
attribute [local irreducible] secsN
section
variable {H:AH} {R:AEnd→AH→Prop}
theorem index_call {b:Option Addr} {n c:Nat} {l:List Nat} (hs:Sli H b n c l) (hl:l.length≤8589934592) (x:Nat) (h:∀ v:Int, (0≤v ↔ l.contains x=true)→R (.ret (.int .i64 v)) H) :
    ACall Tryz.prog 106 [.slice b n c, .int .i64 (x:Int)] H R:=by
  apply f106_call
  unfold f106_B
  have hn:=hs.len
  refine f106_L0_rule (J:=fun m r H'=>∃ k:Nat, k≤n∧r=(k:Int)∧m=n - k∧(∀ j, j<k→l.getD j 0 ≠ x)∧H'=H) n ⟨0, Nat.zero_le _, rfl, rfl, fun j hj=>by omega, rfl⟩ ?_
  rintro m r H' ⟨k, hk, rfl, rfl, hno, rfl⟩
  intros
  unfold f106_R0
  refine wIf_d (fun hlt=>?_) (fun hge=>?_)
  · have hlt:k<n:=by omega
    rcases hs.cases with ⟨_, e, _⟩ | ⟨o, rfl, rfl, _, ho⟩
    · omega
    have t0:0 + Int.toNat (k:Int) * 1=k:=by omega
    refine wIx_at (by omega) (by omega) ?_
    rw [t0]
    refine ldI_at ho (ints_at l k (by omega)) (wIf_d (fun he=>?_) (fun he=>?_))
    · refine h _ ⟨fun _=>?_, fun _=>by omega⟩
      have e:l.getD k 0=x:=by omega
      rw [List.contains_iff_mem, ← e, List.getD_eq_getElem?_getD, List.getElem?_eq_getElem (by omega)]
      exact List.getElem_mem _
    · refine ⟨n - (k + 1), by omega, f106_I0_mk ⟨k + 1, hlt, wi1 k (by omega), rfl, fun j hj=>?_, rfl⟩⟩
      by_cases e:j=k
      · subst e; omega
      · exact hno j (by omega)
  · refine h _ ⟨fun hh=>by omega, fun hc=>?_⟩
    rw [List.contains_iff_mem] at hc
    obtain ⟨j, hj, e⟩:=List.getElem_of_mem hc
    exact absurd (by rw [List.getD_eq_getElem?_getD, List.getElem?_eq_getElem hj]; exact e) (hno j (by omega))
theorem contains_call {b:Option Addr} {n c:Nat} {l:List Nat} (hs:Sli H b n c l) (hl:l.length≤8589934592) (x:Nat) (h:R (.ret (.bool (l.contains x))) H) :
    ACall Tryz.prog 74 [.slice b n c, .int .i64 (x:Int)] H R:=by
  apply f74_call
  unfold f74_B
  refine wCall_of (index_call hs hl x (fun v hv=>opI_at ?_))
  have e:decide (v ≥ 0)=l.contains x:=by
    by_cases hc:l.contains x=true
    · rw [hc]; exact decide_eq_true (hv.2 hc)
    · rw [decide_eq_false (fun hh=>hc (hv.1 hh))]
      have:l.contains x=false:=by simpa using hc
      exact this.symm
  rw [e]; exact h
variable {il i jl jw:Nat} {b:Option Addr} {c:Nat} {L:Lg} {d:Dev}
theorem segments_call (lg:LogAt H il i b c L) (hd:DevAt H i jl jw d) (hok:d.OK) (hp:1≤L.per) (h:R (.ret (.int .i64 ((d.lasts.length / L.per:Nat):Int))) H) :
    ACall Tryz.prog 73 [.pointer (some ⟨il, 0, none⟩)] H R:=by
  apply f73_call
  unfold f73_B
  have hfew:=hok.few
  refine wPt_at (wPt_at (ldP_at lg.own rfl (ldI_at lg.own rfl (wCall_of (dsectors_call hd (opI_at ⟨PinOK_at lg.own (by simp) rfl, wNz_at (by omega) ?_⟩))))))
  have e:Int.tdiv ((d.lasts.length:Nat):Int) (L.per:Int)=((d.lasts.length / L.per:Nat):Int):=rfl
  rw [e]
  have:=Nat.div_le_self d.lasts.length L.per
  have e2:IntKind.i64.wrap ((d.lasts.length / L.per:Nat):Int)=((d.lasts.length / L.per:Nat):Int):=by
    generalize d.lasts.length / L.per=z at this ⊢
    exact wi _ (by omega) (by omega)
  rw [e2]; exact h
set_option maxRecDepth 20000 in
theorem free_call (lg:LogAt H il i b c L) (hd:DevAt H i jl jw d) (hok:d.OK) (hp:1≤L.per) (hl:L.chain.length≤8589934592)
    (h:∀ H' b' c', OwnC H.next H' 1 b' (freeP (d.lasts.length / L.per) L.chain).length c' (ints (freeP (d.lasts.length / L.per) L.chain))→Fr [] H H'→R (.ret (.slice b' (freeP (d.lasts.length / L.per) L.chain).length c')) H') :
    ACall Tryz.prog 47 [.pointer (some ⟨il, 0, none⟩)] H R:=by
  apply f47_call
  unfold f47_B
  have hfew:=hok.few
  refine wCall_of (segments_call lg hd hok hp (opI_at ?_))
  have hN:=Nat.div_le_self d.lasts.length L.per
  generalize d.lasts.length / L.per=N at h hN ⊢
  refine f47_L0_rule (J:=fun m b' n' c' r H'=>∃ k:Nat, k≤N∧r=(k:Int)∧m=N - k∧OwnC H.next H' 1 b' n' c' (ints (freeP k L.chain))∧Fr [] H H') N
    ⟨0, Nat.zero_le _, rfl, rfl, OwnC.nil _ _ _, Fr.refl _ _⟩ ?_
  rintro m b' n' c' r H1 ⟨k, hk, rfl, rfl, hown, f1⟩
  intros
  have hnl:=hown.len
  rw [ints_length, Nat.mul_one] at hnl
  subst hnl
  have hfl:=freeP_le k L.chain
  have lg1:=lg.fr f1 (by simp)
  unfold f47_R0
  refine wIf_d (fun hlt=>?_) (fun hge=>?_)
  · have hlt:k<N:=by omega
    have hsucc:=freeP_succ k L.chain
    refine wPt_at (ldL_at lg1.own rfl (wCall_of (contains_call lg1.chain hl k (opB_at ?_))))
    refine wIf_b (fun hc=>?_) (fun hc=>?_)
    · have hc:L.chain.contains k=false:=by simpa using hc
      rw [if_neg (by rw [hc]; simp)] at hsucc
      refine app1 hown f1.next rfl rfl (by omega) (by omega) (fun o H2 hown2 f12 ho=>?_)
      rw [ints_snoc, ← hsucc] at hown2
      have hno:=own_no hown
      exact ⟨N - (k + 1), by omega, f47_I0_mk ⟨k + 1, hlt, wi1 k (by omega), rfl, hown2, f1.trans' f12 (fun x hx=>.inr (by
        rcases Nat.lt_or_ge x H.next with hh | hh
        · exact absurd hx (hno x hh)
        · exact hh))⟩⟩
    · have hc:L.chain.contains k=true:=by simpa using hc
      rw [if_pos hc] at hsucc
      exact ⟨N - (k + 1), by omega, f47_I0_mk ⟨k + 1, hlt, wi1 k (by omega), rfl, by rw [hsucc]; exact hown, f1⟩⟩
  · have hk:k=N:=by omega
    subst hk
    exact h _ _ _ hown f1
theorem long_call (lg:LogAt H il i b c L) (hp:1≤L.per) (hpb:L.per≤1099511627776) (body:ByteArray) (h:R (.ret (.bool (longP L.per body))) H) :
    ACall Tryz.prog 45 [.pointer (some ⟨il, 0, none⟩), .string body] H R:=by
  apply f45_call
  unfold f45_B
  refine wCall_of (sectors_call _ (opI_at ?_))
  unfold longP at h
  refine wIf_d (fun h0=>?_) (fun h0=>?_)
  · rw [decide_eq_true (by omega:secsN (body.size:Int)=0)] at h; exact h
  · rw [decide_eq_false (by omega:¬ secsN (body.size:Int)=0)] at h
    refine wPt_at (ldI_at lg.own rfl ?_)
    have e:IntKind.i64.wrap ((L.per:Int) - 1)=(L.per:Int) - 1:=wi _ (by omega) (by omega)
    rw [e]
    have e2:decide (((secsN (body.size:Int):Nat):Int) > (L.per:Int) - 1)=decide (L.per≤secsN (body.size:Int)):=by
      by_cases hc:L.per≤secsN (body.size:Int)
      · rw [decide_eq_true hc, decide_eq_true (by omega)]
      · rw [decide_eq_false hc, decide_eq_false (by omega)]
    rw [e2]; exact h
theorem frees_call (lg:LogAt H il i b c L) (hd:DevAt H i jl jw d) (hok:d.OK) (hp:1≤L.per) (hl:L.chain.length≤8589934592)
    (h:∀ H', Fr [] H H'→R (.ret (.int .i64 ((freeP (d.lasts.length / L.per) L.chain).length:Int))) H'):ACall Tryz.prog 30 [.pointer (some ⟨il, 0, none⟩)] H R:=by
  apply f30_call
  unfold f30_B
  exact wIf_f rfl (wCall_of (free_call lg hd hok hp hl (fun H' b' c' _ f=>opL_at (h _ f))))
theorem seq_nil (h:R (.ret (.int .u64 0)) H):ACall Tryz.prog 28 [.pointer none] H R:=by
  apply f28_call
  unfold f28_B
  exact wIf_t rfl h
theorem serial_nil (h:R (.ret (.int .i64 0)) H):ACall Tryz.prog 29 [.pointer none] H R:=by
  apply f29_call
  unfold f29_B
  exact wIf_t rfl h
theorem frees_nil (h:R (.ret (.int .i64 0)) H):ACall Tryz.prog 30 [.pointer none] H R:=by
  apply f30_call
  unfold f30_B
  exact wIf_t rfl h
theorem ckpt_nil (s:ByteArray) (h:R (.ret (.int .i64 1)) H):ACall Tryz.prog 23 [.pointer none, .string s] H R:=by
  apply f23_call
  unfold f23_B
  exact wIf_t rfl h
theorem append_nil (a:Option Addr) (n c:Nat) (h:R (.ret (.int .i64 1)) H):ACall Tryz.prog 18 [.pointer none, .slice a n c] H R:=by
  apply f18_call
  unfold f18_B
  exact wIf_t rfl h
end
end Go.Proofs.YtjhbbbcelnlnpaaGreatDoor
