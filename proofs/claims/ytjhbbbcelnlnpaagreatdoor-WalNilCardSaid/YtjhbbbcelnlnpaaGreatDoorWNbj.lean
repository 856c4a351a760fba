/- The log: an append under way. The log: what an append comes to. -/
import Derived.Test.YtjhbbbcelnlnpaaGreatDoorWNbi
namespace Go.Proofs.YtjhbbbcelnlnpaaGreatDoor
open Go.RowKit

def Apart (a b:Option Addr):Prop:=∀ x ∈ ownS a, x ∉ ownS b
theorem Apart.none_l (b:Option Addr):Apart none b:=fun x h=>by cases h
theorem Apart.none_r (b:Option Addr):Apart b none:=fun x _ h=>by cases h
theorem Apart.symm {a b:Option Addr} (h:Apart a b):Apart b a:=fun x h1 h2=>h x h2 h1
theorem OwnC.fr2 {c0:Nat} {H H':AH} {esz:Nat} {b:Option Addr} {l c:Nat} {cs:List Value} {S:List Nat} (h:OwnC c0 H esz b l c cs) (x:Fr S H H') (hs:∀ z ∈ ownS b, z ∉ S):OwnC c0 H' esz b l c cs:=by
  rcases h with h | ⟨o, rfl, h2, h3, h4, h5⟩
  · exact .inl h
  · exact .inr ⟨o, rfl, h2, h3, h4.fr x (hs o (by simp [ownS])), h5⟩
theorem OwnC.low {c0:Nat} {H:AH} {esz:Nat} {b:Option Addr} {l c:Nat} {cs:List Value} (h:OwnC c0 H esz b l c cs):∀ z ∈ ownS b, c0≤z∧z<H.next∧Has H z (.row cs esz):=by
  intro z hz
  rcases h with ⟨rfl, _⟩ | ⟨o, rfl, h2, h3, h4, h5⟩
  · cases hz
  · simp [ownS] at hz; subst hz; exact ⟨h5, h4.lt, h4⟩
theorem OwnC.apart {c0 c1:Nat} {H:AH} {e1 e2:Nat} {b1 b2:Option Addr} {l1 k1 l2 k2:Nat} {cs1 cs2:List Value} (h:OwnC c0 H e1 b1 l1 k1 cs1) (h':OwnC c1 H e2 b2 l2 k2 cs2) (he:e1 ≠ e2):Apart b1 b2:=by
  intro z h1 h2
  have g1:=(h.low z h1).2.2.get
  have g2:=(h'.low z h2).2.2.get
  rw [g1] at g2
  cases g2
  exact he rfl
def FrS (c0:Nat) (H:AH) (b:Option Addr) (n:Nat) (l:List Nat):Prop:=(b=none∧n=0∧l=[])∨∃ o k cs, b=some ⟨o, k, none⟩∧Has H o (.row cs 1)∧c0≤o∧cs.drop k=ints l∧k≤cs.length∧n=l.length
theorem FrS.len {c0:Nat} {H:AH} {b:Option Addr} {n:Nat} {l:List Nat} (h:FrS c0 H b n l):n=l.length:=by
  rcases h with ⟨_, rfl, rfl⟩ | ⟨_, _, _, _, _, _, _, _, h⟩
  · rfl
  · exact h
theorem FrS.fr2 {c0:Nat} {H H':AH} {b:Option Addr} {n:Nat} {l:List Nat} {S:List Nat} (h:FrS c0 H b n l) (x:Fr S H H') (hs:∀ z ∈ ownS b, z ∉ S):FrS c0 H' b n l:=by
  rcases h with h | ⟨o, k, cs, rfl, h2, h3⟩
  · exact .inl h
  · exact .inr ⟨o, k, cs, rfl, h2.fr x (hs o (by simp [ownS])), h3⟩
theorem FrS.low {c0:Nat} {H:AH} {b:Option Addr} {n:Nat} {l:List Nat} (h:FrS c0 H b n l):∀ z ∈ ownS b, c0≤z∧z<H.next∧∃ cs, Has H z (.row cs 1):=by
  intro z hz
  rcases h with ⟨rfl, _⟩ | ⟨o, k, cs, rfl, h2, h3, h4⟩
  · cases hz
  · simp [ownS] at hz; subst hz; exact ⟨h3, h2.lt, cs, h2⟩
structure Ap (H:AH) (c0 iN i:Nat) (cb:Option Addr) (nx:Lg) (fb:Option Addr) (fl:Nat) (fr:List Nat) (bb:Option Addr) (bl:Nat) (bg:List Nat) (eb:Option Addr) (el:Nat) (ea:List (Nat × ByteArray)) (lb:Option Addr) (ll:Nat) (la:List (Nat × ByteArray)):Prop where
  own:Has H iN (.row (lrow i cb nx.chain.length 0 nx) 0)
  low:c0≤iN
  ch:OwnC c0 H 1 cb nx.chain.length 0 (ints nx.chain)
  fre:FrS c0 H fb fl fr
  beg:OwnC c0 H 1 bb bl 0 (ints bg)
  ear:OwnC c0 H 2 eb el 0 (wcells ea)
  lat:OwnC c0 H 2 lb ll 0 (wcells la)
  d1:Apart cb fb
  d2:Apart cb bb
  d3:Apart fb bb
  d4:Apart eb lb
section
variable {H H':AH} {c0 iN i:Nat} {cb:Option Addr} {nx:Lg} {fb:Option Addr} {fl:Nat} {fr:List Nat} {bb:Option Addr} {bl:Nat} {bg:List Nat} {eb:Option Addr} {el:Nat} {ea:List (Nat × ByteArray)} {lb:Option Addr} {ll:Nat} {la:List (Nat × ByteArray)}
theorem row_ne {H:AH} {a b:Nat} {cs ds:List Value} {e f:Nat} (h:Has H a (.row cs e)) (h':Has H b (.row ds f)) (he:e ≠ f):a ≠ b:=h.diff h' (by intro hh; cases hh; exact he rfl)
theorem Ap.frm (h:Ap H c0 iN i cb nx fb fl fr bb bl bg eb el ea lb ll la) (f:Fr [] H H'):Ap H' c0 iN i cb nx fb fl fr bb bl bg eb el ea lb ll la :=
  ⟨h.own.fr f (by simp), h.low, h.ch.fr2 f (by simp), h.fre.fr2 f (by simp), h.beg.fr2 f (by simp), h.ear.fr2 f (by simp), h.lat.fr2 f (by simp), h.d1, h.d2, h.d3, h.d4⟩
theorem Ap.setN (h:Ap H c0 iN i cb nx fb fl fr bb bl bg eb el ea lb ll la) {vs:List Value} {k:Nat} {nx':Lg} (e:setCells (lrow i cb nx.chain.length 0 nx) k vs=lrow i cb nx'.chain.length 0 nx') (hc:nx'.chain=nx.chain) :
    Ap (H.set iN (.row (setCells (lrow i cb nx.chain.length 0 nx) k vs) 0)) c0 iN i cb nx' fb fl fr bb bl bg eb el ea lb ll la:=by
  rw [e]
  have f:Fr [iN] H (H.set iN (.row (lrow i cb nx'.chain.length 0 nx') 0)):=Fr.set1 H iN _
  have hn:∀ (e:Nat) (b:Option Addr) (l:Nat) (cs:List Value), e ≠ 0→OwnC c0 H e b l 0 cs→∀ z ∈ ownS b, z ∉ [iN]:=fun e b l cs he ho z hz=>by
    simp; exact Ne.symm (row_ne h.own (ho.low z hz).2.2 (Ne.symm he))
  refine ⟨h.own.set _, h.low, by have:=h.ch.fr2 f (hn _ _ _ _ (by decide) h.ch); rw [← hc] at this; exact this, h.fre.fr2 f ?_, h.beg.fr2 f (hn _ _ _ _ (by decide) h.beg), h.ear.fr2 f (hn _ _ _ _ (by decide) h.ear), h.lat.fr2 f (hn _ _ _ _ (by decide) h.lat), h.d1, h.d2, h.d3, h.d4⟩
  intro z hz
  obtain ⟨_, _, cs, hh⟩:=h.fre.low z hz
  simp; exact Ne.symm (row_ne h.own hh (by decide))
theorem Ap.begA (h:Ap H c0 iN i cb nx fb fl fr bb bl bg eb el ea lb ll la) {o:Nat} {bg':List Nat} (hn:OwnC c0 H' 1 (some ⟨o, 0, none⟩) (bl + 1) 0 (ints bg')) (f:Fr (ownS bb) H H') (ho:H.next≤o) :
    Ap H' c0 iN i cb nx fb fl fr (some ⟨o, 0, none⟩) (bl + 1) bg' eb el ea lb ll la:=by
  refine ⟨h.own.fr f (fun hz=>row_ne h.own (h.beg.low _ hz).2.2 (by decide) rfl), h.low, h.ch.fr2 f h.d2, h.fre.fr2 f h.d3, hn, h.ear.fr2 f (h.ear.apart h.beg (by decide)), h.lat.fr2 f (h.lat.apart h.beg (by decide)), h.d1, ?_, ?_, h.d4⟩
  · intro z hz; have:=(h.ch.low z hz).2.1; simp [ownS]; omega
  · intro z hz; have:=(h.fre.low z hz).2.1; simp [ownS]; omega
theorem Ap.earA (h:Ap H c0 iN i cb nx fb fl fr bb bl bg eb el ea lb ll la) {o:Nat} {ea':List (Nat × ByteArray)} (hn:OwnC c0 H' 2 (some ⟨o, 0, none⟩) (el + 1) 0 (wcells ea')) (f:Fr (ownS eb) H H') (ho:H.next≤o) :
    Ap H' c0 iN i cb nx fb fl fr bb bl bg (some ⟨o, 0, none⟩) (el + 1) ea' lb ll la:=by
  refine ⟨h.own.fr f (fun hz=>row_ne h.own (h.ear.low _ hz).2.2 (by decide) rfl), h.low, h.ch.fr2 f (h.ch.apart h.ear (by decide)), h.fre.fr2 f ?_, h.beg.fr2 f (h.beg.apart h.ear (by decide)), hn, h.lat.fr2 f h.d4.symm, h.d1, h.d2, h.d3, ?_⟩
  · intro z hz hz2
    obtain ⟨_, _, cs, hh⟩:=h.fre.low z hz
    exact row_ne hh (h.ear.low z hz2).2.2 (by decide) rfl
  · intro z hz hz2; have:=(h.lat.low z hz2).2.1; simp [ownS] at hz; omega
theorem Ap.latA (h:Ap H c0 iN i cb nx fb fl fr bb bl bg eb el ea lb ll la) {o:Nat} {la':List (Nat × ByteArray)} (hn:OwnC c0 H' 2 (some ⟨o, 0, none⟩) (ll + 1) 0 (wcells la')) (f:Fr (ownS lb) H H') (ho:H.next≤o) :
    Ap H' c0 iN i cb nx fb fl fr bb bl bg eb el ea (some ⟨o, 0, none⟩) (ll + 1) la':=by
  refine ⟨h.own.fr f (fun hz=>row_ne h.own (h.lat.low _ hz).2.2 (by decide) rfl), h.low, h.ch.fr2 f (h.ch.apart h.lat (by decide)), h.fre.fr2 f ?_, h.beg.fr2 f (h.beg.apart h.lat (by decide)), h.ear.fr2 f h.d4, hn, h.d1, h.d2, h.d3, ?_⟩
  · intro z hz hz2
    obtain ⟨_, _, cs, hh⟩:=h.fre.low z hz
    exact row_ne hh (h.lat.low z hz2).2.2 (by decide) rfl
  · intro z hz hz2; have:=(h.ear.low z hz).2.1; simp [ownS] at hz2; omega
theorem Ap.chA (h:Ap H c0 iN i cb nx fb fl fr bb bl bg eb el ea lb ll la) {o x:Nat} (hn:OwnC c0 H' 1 (some ⟨o, 0, none⟩) (nx.chain.length + 1) 0 (ints (nx.chain ++ [x]))) (f:Fr (ownS cb) H H') (ho:H.next≤o) (hiN:iN<H.next) :
    Has H' iN (.row (lrow i cb nx.chain.length 0 nx) 0) ∧
    Ap (H'.set iN (.row (setCells (lrow i cb nx.chain.length 0 nx) 2 [.slice (some ⟨o, 0, none⟩) (nx.chain.length + 1) 0]) 0)) c0 iN i (some ⟨o, 0, none⟩) { nx with chain:=nx.chain ++ [x] } fb fl fr bb bl bg eb el ea lb ll la:=by
  have hown:Has H' iN (.row (lrow i cb nx.chain.length 0 nx) 0):=h.own.fr f (fun hz=>row_ne h.own (h.ch.low _ hz).2.2 (by decide) rfl)
  refine ⟨hown, ?_⟩
  have fs:Fr [iN] H' (H'.set iN (.row (setCells (lrow i cb nx.chain.length 0 nx) 2 [.slice (some ⟨o, 0, none⟩) (nx.chain.length + 1) 0]) 0)):=Fr.set1 H' iN _
  have hl:(nx.chain ++ [x]).length=nx.chain.length + 1:=by simp
  have hns:∀ z, z ≠ iN→z ∉ [iN]:=fun z hz=>by simpa using hz
  have e:setCells (lrow i cb nx.chain.length 0 nx) 2 [.slice (some ⟨o, 0, none⟩) (nx.chain.length + 1) 0]=lrow i (some ⟨o, 0, none⟩) (nx.chain ++ [x]).length 0 { nx with chain:=nx.chain ++ [x] }:=by rw [hl]; rfl
  refine ⟨by have:=hown.set (.row (setCells (lrow i cb nx.chain.length 0 nx) 2 [.slice (some ⟨o, 0, none⟩) (nx.chain.length + 1) 0]) 0); rw [e] at this ⊢; exact this, h.low, ?_, ?_, ?_, ?_, ?_, ?_, ?_, h.d3, h.d4⟩
  · show OwnC c0 _ 1 _ (nx.chain ++ [x]).length 0 (ints (nx.chain ++ [x]))
    rw [hl]
    exact hn.fr2 fs (fun z hz=>hns z (by simp [ownS] at hz; omega))
  · refine (h.fre.fr2 f h.d1.symm).fr2 fs (fun z hz=>hns z ?_)
    obtain ⟨_, _, cs, hh⟩:=h.fre.low z hz
    exact row_ne hh h.own (by decide)
  · exact (h.beg.fr2 f h.d2.symm).fr2 fs (fun z hz=>hns z (row_ne (h.beg.low z hz).2.2 h.own (by decide)))
  · exact (h.ear.fr2 f (h.ear.apart h.ch (by decide))).fr2 fs (fun z hz=>hns z (row_ne (h.ear.low z hz).2.2 h.own (by decide)))
  · exact (h.lat.fr2 f (h.lat.apart h.ch (by decide))).fr2 fs (fun z hz=>hns z (row_ne (h.lat.low z hz).2.2 h.own (by decide)))
  · intro z hz hz2; have:=(h.fre.low z hz2).2.1; simp [ownS] at hz; omega
  · intro z hz hz2; have:=(h.beg.low z hz2).2.1; simp [ownS] at hz; omega
end
section
variable {H:AH} {R:AEnd→AH→Prop}
theorem clone_call {b:Option Addr} {n c:Nat} {l:List Nat} (hs:Sli H b n c l) (hl:l.length≤8589934592) (h:∀ H' b', OwnC H.next H' 1 b' l.length 0 (ints l)→Fr [] H H'→R (.ret (.slice b' l.length 0)) H') :
    ACall Tryz.prog 46 [.slice b n c] H R:=by
  apply f46_call
  unfold f46_B
  rcases hs.cases with ⟨rfl, rfl, rfl, rfl⟩ | ⟨o, rfl, rfl, rfl, ho⟩
  · exact wIf_t rfl (h H none (OwnC.nil _ _ _) (Fr.refl _ _))
  · refine wIf_f rfl (wBs_at ?_)
    have hx:=Has.new H (.row [] 1)
    have f1:Fr [] H (H.push (.row [] 1)):=(Fr.refl [] H).push _
    have ho1:=ho.fr f1 (by simp)
    have hsc:=sliceCells_new (H.push (.row [] 1)) (ints l) 1 l.length 0 (by rw [ints_length]; omega) ho1
    refine wAppL_own hx rfl hsc (by rw [ints_length]; omega) (by simp [ints, oneCell]) (by omega) (by omega) ?_
    rw [Nat.zero_add, List.nil_append]
    refine h _ _ (.inr ⟨_, rfl, rfl, by rw [ints_length]; omega, Has.newT _ _ _, by show H.next≤H.next + 1; omega⟩) ((f1.drop (.inr (Nat.le_refl _))).pushT _ _)
end
end Go.Proofs.YtjhbbbcelnlnpaaGreatDoor
namespace Go.Proofs.YtjhbbbcelnlnpaaGreatDoor
open Go.RowKit

structure Ast where
  nx:Lg
  fr:List Nat
  bg:List Nat
  ea:List (Nat × ByteArray)
  la:List (Nat × ByteArray)
def apNeed (st:Ast) (b:ByteArray):Bool:=decide (st.nx.at_=0) || decide (st.nx.per<st.nx.at_ + secsN (b.size:Int))
def apFull (st:Ast):Bool:=decide (st.fr.length<2) || decide (st.nx.serial=4294967295)
def apHead (st:Ast):ByteArray:=(putH ⟨st.nx.serial + 1, st.nx.base, st.nx.last, st.nx.seq⟩).1
def apSeg (st:Ast):Ast :=
  ⟨{ st.nx with chain:=st.nx.chain ++ [st.fr.headD 0], last:=st.nx.serial + 1, serial:=st.nx.serial + 1, at_:=1 }, st.fr.tail, st.bg ++ [st.fr.headD 0], st.ea ++ [(st.fr.headD 0 * st.nx.per, apHead st)], st.la⟩
def apBytes (st:Ast) (b:ByteArray):ByteArray:=(putU st.nx.last st.nx.seq 2 b).1
def apAt (st:Ast):Nat:=st.nx.chain.getLastD 0 * st.nx.per + st.nx.at_
def apUnit (st:Ast) (b:ByteArray):Ast :=
  ⟨{ st.nx with seq:=(st.nx.seq + 1) % 18446744073709551616, at_:=st.nx.at_ + secsN (b.size:Int) }, st.fr, st.bg,
    if 64<(apBytes st b).size then st.ea ++ [(apAt st + 1, (apBytes st b).extract 64 (apBytes st b).size)] else st.ea, st.la ++ [(apAt st, (apBytes st b).extract 0 64)]⟩
def apN:List ByteArray→Ast→Option Ast
  | [], st=>some st
  | b :: l, st=>if apNeed st b=true then (if apFull st=true then none else apN l (apUnit (apSeg st) b)) else apN l (apUnit st b)
def ap0 (L:Lg) (n:Nat):Ast:=⟨L, freeP n L.chain, [], [], []⟩
def appP (L:Lg) (d:Dev) (bs:List ByteArray):Int × Lg × Dev :=
  if L.closed=true then (12, L, d) else if bs.any (longP L.per)=true then (5, L, d) else
  match apN bs (ap0 L (d.lasts.length / L.per)) with
  | none=>(11, L, d)
  | some st=>if bs=[] then (0, L, d) else
    if (doP L.per st.bg st.ea st.la d).1 ≠ 0 then ((doP L.per st.bg st.ea st.la d).1, { L with closed:=true }, (doP L.per st.bg st.ea st.la d).2)
    else (0, st.nx, (doP L.per st.bg st.ea st.la d).2)
structure LgGood (L:Lg) (d:Dev):Prop extends LgOK L d where
  b1:1≤L.base
  bs:L.base≤L.serial
  ls:L.last≤L.serial
  cne:L.chain ≠ []
  nd:L.chain.Nodup
theorem flat_snoc (ws:List (Nat × ByteArray)) (w:Nat × ByteArray):(flat (ws ++ [w])).length=(flat ws).length + w.2.size / 64:=by
  rw [flat_length, flat_length]; simp
theorem sized_snoc {ws:List (Nat × ByteArray)} {a:Nat} {s:ByteArray} (h:sized ws) (h1:s.size % 64=0) (h2:s.size≤1099511627776) (h3:a≤1099511627776):sized (ws ++ [(a, s)]):=by
  intro w hw
  rcases List.mem_append.1 hw with hw | hw
  · exact h w hw
  · simp at hw; subst hw; exact ⟨h1, h2, h3⟩
structure ApF (L:Lg) (N C k:Nat) (st:Ast):Prop where
  per:st.nx.per=L.per
  bas:st.nx.base=L.base
  clo:st.nx.closed=false
  ser:st.nx.serial<4294967296
  las:st.nx.last≤st.nx.serial
  bse:L.base≤st.nx.serial
  sq:st.nx.seq<18446744073709551616
  atp:st.nx.at_≤L.per
  cne:st.nx.chain ≠ []
  chm:∀ x ∈ st.nx.chain, x<N
  cnt:st.nx.chain.length + st.fr.length=C
  frm:∀ x ∈ st.fr, x<N
  bgm:∀ x ∈ st.bg, x<N
  bgn:st.bg.length + st.fr.length≤N
  esz:sized st.ea
  lsz:sized st.la
  efl:(flat st.ea).length≤5000 * k
  lfl:(flat st.la).length≤k
  eal:st.ea.length≤2 * k
  lal:st.la.length=k
  nd:(st.nx.chain ++ st.fr).Nodup
section
variable {L:Lg} {N C k:Nat} {st:Ast} {b:ByteArray}
attribute [local irreducible] secsN putH putU
theorem apHead_size (hb1:1≤L.base) (h:ApF L N C k st):(apHead st).size=64 :=
  putH_size ⟨by show 1≤st.nx.base; rw [h.bas]; exact hb1, by show st.nx.base≤st.nx.serial + 1; rw [h.bas]; have:=h.bse; omega, by show st.nx.last<st.nx.serial + 1; have:=h.las; omega⟩
theorem apBytes_size (hl:longP L.per b=false):(apBytes st b).size=64 * secsN (b.size:Int)∧1≤secsN (b.size:Int)∧secsN (b.size:Int)<L.per:=by
  unfold longP at hl
  simp only [Bool.or_eq_false_iff, decide_eq_false_iff_not] at hl
  exact ⟨putU_size hl.1 (by omega) (by omega), by omega, by omega⟩

theorem mul_seg (h:N * L.per≤4096) {x:Nat} (hx:x<N):x * L.per + L.per≤4096:=by
  have:(x + 1) * L.per≤N * L.per:=Nat.mul_le_mul_right _ hx
  rw [Nat.add_mul] at this; omega
theorem getLastD_mem {l:List Nat} (h:l ≠ []):l.getLastD 0 ∈ l:=by
  cases l with
  | nil=>exact absurd rfl h
  | cons a l =>
    have e:(a :: l).getLastD 0=(a :: l).getLast (by simp):=by rw [List.getLastD_eq_getLast?, List.getLast?_eq_some_getLast (by simp)]; rfl
    rw [e]; exact List.getLast_mem _

theorem apUnit_gen (hN:N * L.per≤4096) (hl:longP L.per b=false) (h1:st.nx.per=L.per) (h2:st.nx.base=L.base) (h3:st.nx.closed=false) (h4:st.nx.serial<4294967296) (h5:st.nx.last≤st.nx.serial) (h6:L.base≤st.nx.serial)
    (h7:st.nx.seq<18446744073709551616) (h8:st.nx.at_ + secsN (b.size:Int)≤L.per) (h9:st.nx.chain ≠ []) (h10:∀ x ∈ st.nx.chain, x<N) (h11:st.nx.chain.length + st.fr.length=C) (h12:∀ x ∈ st.fr, x<N) (h13:∀ x ∈ st.bg, x<N)
    (h14:st.bg.length + st.fr.length≤N) (h15:sized st.ea) (h16:sized st.la) (h17:(flat st.ea).length≤5000 * k + 1) (h18:(flat st.la).length≤k) (h19:st.ea.length≤2 * k + 1) (h20:st.la.length=k) (h21:(st.nx.chain ++ st.fr).Nodup):ApF L N C (k + 1) (apUnit st b):=by
  obtain ⟨z1, z2, z3⟩:=apBytes_size (st:=st) hl
  have hm:=mul_seg hN (h10 _ (getLastD_mem h9))
  have hat:apAt st + secsN (b.size:Int)≤4096:=by unfold apAt; rw [h1]; omega
  have e2:((apBytes st b).extract 0 64).size=64:=by rw [ByteArray.size_extract]; omega
  have e1:((apBytes st b).extract 64 (apBytes st b).size).size=(apBytes st b).size - 64:=by rw [ByteArray.size_extract]; omega
  have hpN:secsN (b.size:Int)≤4096:=by omega
  have hsl:(flat (st.la ++ [(apAt st, (apBytes st b).extract 0 64)])).length≤k + 1:=by
    rw [flat_snoc, e2]; omega
  have hsz:sized (st.la ++ [(apAt st, (apBytes st b).extract 0 64)]):=sized_snoc h16 (by rw [e2]) (by rw [e2]; omega) (by omega)
  have hE:sized (apUnit st b).ea∧(flat (apUnit st b).ea).length≤5000 * (k + 1)∧(apUnit st b).ea.length≤2 * (k + 1):=by
    have e:(apUnit st b).ea=if 64<(apBytes st b).size then st.ea ++ [(apAt st + 1, (apBytes st b).extract 64 (apBytes st b).size)] else st.ea:=rfl
    rw [e]
    by_cases hc:64<(apBytes st b).size
    · rw [if_pos hc]
      refine ⟨sized_snoc h15 (by rw [e1]; omega) (by rw [e1]; omega) (by omega), ?_, ?_⟩
      · rw [flat_snoc, e1]; omega
      · rw [List.length_append]; show st.ea.length + 1≤_; omega
    · rw [if_neg hc]
      exact ⟨h15, by omega, by omega⟩
  exact ⟨h1, h2, h3, h4, h5, h6, Nat.mod_lt _ (by decide), h8, h9, h10, h11, h12, h13, h14, hE.1, hsz, hE.2.1, hsl, hE.2.2, by show (st.la ++ [_]).length=_; rw [List.length_append, h20]; rfl, h21⟩
theorem apUnit_f (hN:N * L.per≤4096) (hl:longP L.per b=false) (h:ApF L N C k st) (hn:apNeed st b=false):ApF L N C (k + 1) (apUnit st b):=by
  unfold apNeed at hn
  simp only [Bool.or_eq_false_iff, decide_eq_false_iff_not] at hn
  have h8:=hn.2
  rw [h.per] at h8
  exact apUnit_gen hN hl h.per h.bas h.clo h.ser h.las h.bse h.sq (by omega) h.cne h.chm h.cnt h.frm h.bgm h.bgn h.esz h.lsz (by have:=h.efl; omega) h.lfl (by have:=h.eal; omega) h.lal h.nd
theorem apSeg_f (hb1:1≤L.base) (hN:N * L.per≤4096) (hl:longP L.per b=false) (h:ApF L N C k st) (hn:apFull st=false):ApF L N C (k + 1) (apUnit (apSeg st) b):=by
  unfold apFull at hn
  simp only [Bool.or_eq_false_iff, decide_eq_false_iff_not] at hn
  obtain ⟨hf, hs⟩:=hn
  obtain ⟨z1, z2, z3⟩:=apBytes_size (st:=st) hl
  have hh:=apHead_size hb1 h
  obtain ⟨f, fr, hfr⟩:∃ f fr, st.fr=f :: fr:=by
    cases e:st.fr with
    | nil=>rw [e] at hf; simp at hf
    | cons f fr=>exact ⟨f, fr, rfl⟩
  have hfN:f<N:=h.frm f (by rw [hfr]; simp)
  have hfm:=mul_seg hN hfN
  have hd:st.fr.headD 0=f:=by rw [hfr]; rfl
  have ht:st.fr.tail=fr:=by rw [hfr]; rfl
  have hlen:st.fr.length=fr.length + 1:=by rw [hfr]; rfl
  have hcnt:=h.cnt
  have hbgn:=h.bgn
  have hser:=h.ser
  refine apUnit_gen (st:=apSeg st) hN hl h.per h.bas h.clo ?_ (Nat.le_refl _) ?_ h.sq ?_ ?_ ?_ ?_ ?_ ?_ ?_ ?_ h.lsz ?_ h.lfl ?_ h.lal ?_
  · show st.nx.serial + 1<_; omega
  · show L.base≤st.nx.serial + 1; have:=h.bse; omega
  · show 1 + secsN (b.size:Int)≤L.per; omega
  · show st.nx.chain ++ _ ≠ []; simp
  · intro x hx
    rcases List.mem_append.1 (show x ∈ st.nx.chain ++ [st.fr.headD 0] from hx) with hx | hx
    · exact h.chm x hx
    · rw [hd] at hx; simp at hx; omega
  · show (st.nx.chain ++ [st.fr.headD 0]).length + st.fr.tail.length=C
    rw [ht, List.length_append]; simp; omega
  · intro x hx
    exact h.frm x (List.mem_of_mem_tail hx)
  · intro x hx
    rcases List.mem_append.1 (show x ∈ st.bg ++ [st.fr.headD 0] from hx) with hx | hx
    · exact h.bgm x hx
    · rw [hd] at hx; simp at hx; omega
  · show (st.bg ++ [st.fr.headD 0]).length + st.fr.tail.length≤N
    rw [ht, List.length_append]; simp; omega
  · show sized (st.ea ++ [(st.fr.headD 0 * st.nx.per, apHead st)])
    refine sized_snoc h.esz (by rw [hh]) (by rw [hh]; omega) ?_
    rw [hd, h.per]; omega
  · show (flat (st.ea ++ [(st.fr.headD 0 * st.nx.per, apHead st)])).length≤_
    rw [flat_snoc]
    show _ + (apHead st).size / 64≤_
    rw [hh]
    have:=h.efl; omega
  · show (st.ea ++ [(st.fr.headD 0 * st.nx.per, apHead st)]).length≤_
    rw [List.length_append]
    have:=h.eal
    show _ + 1≤_
    omega
  · show ((st.nx.chain ++ [st.fr.headD 0]) ++ st.fr.tail).Nodup
    have e:(st.nx.chain ++ [st.fr.headD 0]) ++ st.fr.tail=st.nx.chain ++ st.fr:=by rw [hfr]; simp
    rw [e]; exact h.nd
theorem freeP_nodup (n:Nat) (ch:List Nat):(freeP n ch).Nodup:=List.Pairwise.filter _ List.nodup_range
theorem freeP_not {n:Nat} {ch:List Nat} {x:Nat} (h:x ∈ freeP n ch):x ∉ ch:=by
  have:=(List.mem_filter.1 h).2
  simpa using this
theorem ap0_f {d:Dev} (g:LgGood L d) (hc:L.closed=false):ApF L (d.lasts.length / L.per) (L.chain.length + (freeP (d.lasts.length / L.per) L.chain).length) 0 (ap0 L (d.lasts.length / L.per)) :=
  ⟨rfl, rfl, hc, g.ser, g.ls, g.bs, g.sq, g.atp, g.cne, g.chm, rfl, fun x hx=>freeP_lt hx, fun x hx=>absurd hx (List.not_mem_nil), (by show 0 + (freeP _ _).length≤_; have:=freeP_le (d.lasts.length / L.per) L.chain; omega), fun w hw=>absurd hw (List.not_mem_nil), fun w hw=>absurd hw (List.not_mem_nil), Nat.zero_le _, Nat.zero_le _, Nat.zero_le _, rfl, List.nodup_append.2 ⟨g.nd, freeP_nodup _ _, fun a ha b hb e=>freeP_not hb (e ▸ ha)⟩⟩
end
end Go.Proofs.YtjhbbbcelnlnpaaGreatDoor
