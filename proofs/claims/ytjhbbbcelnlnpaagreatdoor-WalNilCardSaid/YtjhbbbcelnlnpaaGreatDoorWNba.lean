/- Maps with keys of 32 bits that grow alone; a row that grows by one element. The log's reader: what stands at a place of a segment. -/
import Derived.Test.YtjhbbbcelnlnpaaGreatDoorWNaq
import Derived.Test.YtjhbbbcelnlnpaaGreatDoorWNak
import Derived.Test.YtjhbbbcelnlnpaaGreatDoorWNat
import Derived.Test.YtjhbbbcelnlnpaaGreatDoorWNau
import Derived.Test.YtjhbbbcelnlnpaaGreatDoorWNay
import Derived.Test.YtjhbbbcelnlnpaaGreatDoorWNar
import Derived.Test.YtjhbbbcelnlnpaaGreatDoorWNaz
namespace Go.Proofs.YtjhbbbcelnlnpaaGreatDoor
open Go.RowKit

def ents:List (Nat × Value)→Nat→List (Value × Value × Nat)
  | [], _=>[]
  | e :: l, n=>(.int .u32 (e.1:Int), e.2, n) :: ents l (n + 1)
theorem ents_length:∀ (l:List (Nat × Value)) (n:Nat), (ents l n).length=l.length
  | [], _=>rfl
  | e :: l, n=>by simp [ents, ents_length l]
theorem ents_append:∀ (l m:List (Nat × Value)) (n:Nat), ents (l ++ m) n=ents l n ++ ents m (n + l.length)
  | [], m, n=>by simp [ents]
  | e :: l, m, n=>by
    simp only [List.cons_append, ents, ents_append l m (n + 1), List.length_cons]
    rw [Nat.add_assoc, Nat.add_comm 1]
theorem ents_get:∀ (l:List (Nat × Value)) (n j:Nat), (ents l n)[j]?=(l[j]?).map fun e=>(.int .u32 (e.1:Int), e.2, n + j)
  | [], n, j=>by simp [ents]
  | e :: l, n, 0=>rfl
  | e :: l, n, j + 1=>by
    simp only [ents, List.getElem?_cons_succ, ents_get l (n + 1) j]
    cases l[j]? with
    | none=>rfl
    | some x=>simp only [Option.map_some]; congr 3; omega
theorem mfind_ents (k:Nat):∀ (l:List (Nat × Value)) (n i:Nat), mfind (.int .u32) (.int .u32 (k:Int)) (ents l n) i=some ((l.findIdx? (fun e=>e.1 == k)).map (i + ·))
  | [], n, i=>rfl
  | e :: l, n, i=>by
    have hs:Instr.sameNow (.int .u32) (.int .u32 (k:Int)) (.int .u32 (e.1:Int))=some (e.1 == k):=by
      simp only [Instr.sameNow]
      by_cases h:e.1=k
      · subst h; simp
      · have h2:¬ ((k:Int)=(e.1:Int)):=by omega
        have h3:((k:Int) == (e.1:Int))=false:=by simpa using h2
        have h4:(e.1 == k)=false:=by simpa using h
        simp [h3, h4]
    simp only [ents, mfind, hs]
    by_cases h:e.1=k
    · have hb:(e.1 == k)=true:=by simp [h]
      rw [hb, List.findIdx?_cons, hb]
      rfl
    · have hb:(e.1 == k)=false:=by simp [h]
      rw [hb, List.findIdx?_cons, hb]
      simp only [mfind_ents k l (n + 1) (i + 1)]
      cases l.findIdx? (fun e=>e.1 == k) with
      | none=>rfl
      | some j=>simp; omega

def UMap (H:AH) (i:Nat) (l:List (Nat × Value)):Prop:=Has H i (.map (ents l 0) l.length)
def ufind (l:List (Nat × Value)) (k:Nat):Option Value:=(l.find? (fun e=>e.1 == k)).map (·.2)
theorem find_idx {l:List (Nat × Value)} {k:Nat}:(∃ j e, l.findIdx? (fun e=>e.1 == k)=some j∧l[j]?=some e∧e.1=k∧ufind l k=some e.2)∨(l.findIdx? (fun e=>e.1 == k)=none∧ufind l k=none):=by
  induction l with
  | nil=>exact .inr ⟨rfl, rfl⟩
  | cons a l ih =>
    by_cases h:a.1=k
    · exact .inl ⟨0, a, by rw [List.findIdx?_cons]; simp [h], rfl, h, by unfold ufind; rw [List.find?_cons]; simp [h]⟩
    · have hb:(a.1 == k)=false:=by simp [h]
      have hu:ufind (a :: l) k=ufind l k:=by unfold ufind; rw [List.find?_cons, hb]
      rw [List.findIdx?_cons, hb, hu]
      rcases ih with ⟨j, e, h1, h2, h3, h4⟩ | ⟨h1, h2⟩
      · exact .inl ⟨j + 1, e, by rw [h1]; rfl, by simpa using h2, h3, h4⟩
      · exact .inr ⟨by rw [h1]; rfl, h2⟩
section
variable {H:AH} {i k:Nat} {l:List (Nat × Value)}
theorem UMap.fr (h:UMap H i l) {S:List Nat} {H':AH} (x:Fr S H H') (hs:i ∉ S):UMap H' i l:=Has.fr h x hs
theorem wLk_some {v z:Value} {K:Value→Bool→Prop} (h:UMap H i l) (hv:ufind l k=some v) (hk:K v true):wLk (.int .u32) (some i) (.int .u32 (k:Int)) z H K:=by
  unfold wLk
  have hg:H.get i=some (.map (ents l 0) l.length):=h.get
  simp only [hg, mfind_ents]
  rcases find_idx (l:=l) (k:=k) with ⟨j, e, h1, h2, h3, h4⟩ | ⟨h1, h2⟩
  · rw [h1]
    rw [h4] at hv; cases hv
    simp only [Option.map_some, Nat.zero_add, ents_get, h2]
    exact hk
  · rw [h2] at hv; cases hv
theorem wLk_none {z:Value} {K:Value→Bool→Prop} (h:UMap H i l) (hv:ufind l k=none) (hk:K z false):wLk (.int .u32) (some i) (.int .u32 (k:Int)) z H K:=by
  unfold wLk
  have hg:H.get i=some (.map (ents l 0) l.length):=h.get
  simp only [hg, mfind_ents]
  rcases find_idx (l:=l) (k:=k) with ⟨j, e, h1, h2, h3, h4⟩ | ⟨h1, h2⟩
  · rw [h4] at hv; cases hv
  · rw [h1]; exact hk
theorem wMe_new {z:Value} {K:Value→Nat→AH→Prop} (h:UMap H i l) (hv:ufind l k=none) (hk:∀ H', UMap H' i (l ++ [(k, z)])→Fr [i] H H'→K z l.length H'):wMe (.int .u32) (some i) (.int .u32 (k:Int)) z H K:=by
  unfold wMe
  have hg:H.get i=some (.map (ents l 0) l.length):=h.get
  simp only [hg, mfind_ents]
  rcases find_idx (l:=l) (k:=k) with ⟨j, e, h1, h2, h3, h4⟩ | ⟨h1, h2⟩
  · rw [h4] at hv; cases hv
  · rw [h1]
    refine hk _ ?_ ((Fr.refl [i] H).set (.inl (by simp)) _)
    have e:ents l 0 ++ [(Value.int .u32 (k:Int), z, l.length)]=ents (l ++ [(k, z)]) 0:=by
      rw [ents_append]; simp [ents]
    rw [e]
    have:=Has.set h (.map (ents (l ++ [(k, z)]) 0) (l.length + 1))
    unfold UMap
    rw [List.length_append]
    exact this
theorem born_idx (l:List (Nat × Value)) (k:Nat) (z:Value):(ents (l ++ [(k, z)]) 0).findIdx? (fun e=>(e.2.2:Int) == (l.length:Int))=some l.length:=by
  rw [ents_append, List.findIdx?_append]
  have h1:(ents l 0).findIdx? (fun e=>(e.2.2:Int) == (l.length:Int))=none:=by
    rw [List.findIdx?_eq_none_iff]
    intro e he
    obtain ⟨j, hj⟩:=List.getElem?_of_mem he
    rw [ents_get] at hj
    obtain ⟨x, hx, rfl⟩:=Option.map_eq_some_iff.1 hj
    have:=(List.getElem?_eq_some_iff.1 hx).1
    simp; omega
  rw [h1]
  simp [ents, ents_length, List.findIdx?_cons]
theorem wEs_new {z v:Value} {K:AH→Prop} (h:UMap H i (l ++ [(k, z)])) (hk:∀ H', UMap H' i (l ++ [(k, v)])→Fr [i] H H'→K H'):wEs (some i) (l.length:Int) v H K:=by
  unfold wEs
  have hg:H.get i=some (.map (ents (l ++ [(k, z)]) 0) (l ++ [(k, z)]).length):=h.get
  simp only [hg, born_idx]
  refine hk _ ?_ ((Fr.refl [i] H).set (.inl (by simp)) _)
  have e:((ents (l ++ [(k, z)]) 0).modify l.length fun e=>(e.1, v, e.2.2))=ents (l ++ [(k, v)]) 0:=by
    apply List.ext_getElem?
    intro j
    rw [List.getElem?_modify, ents_get, ents_get]
    by_cases hj:j<l.length
    · rw [List.getElem?_append_left hj, List.getElem?_append_left hj]
      have hne:¬ (l.length=j):=by omega
      simp only [if_neg hne]
      cases l[j]? <;> rfl
    · rw [List.getElem?_append_right (by omega), List.getElem?_append_right (by omega)]
      by_cases e:j=l.length
      · subst e; simp
      · have:j - l.length ≠ 0:=by omega
        obtain ⟨m, hm⟩:=Nat.exists_eq_succ_of_ne_zero this
        rw [hm]; simp
  rw [e]
  have:=Has.set h (.map (ents (l ++ [(k, v)]) 0) (l ++ [(k, z)]).length)
  unfold UMap
  have e2:(l ++ [(k, v)]).length=(l ++ [(k, z)]).length:=by simp
  rw [e2]
  exact this

theorem wMm_at {H:AH} {K:Nat→AH→Prop} (hk:K H.next (H.push (.map [] 0))):wMm H K:=hk
def ownS:Option Addr→List Nat
  | some ⟨o, _, _⟩=>[o]
  | none=>[]
theorem app1 {e:TypeId} {c0 l c esz by_:Nat} {b:Option Addr} {cs new:List Value} {K:Nat→Option Addr→Nat→Nat→AH→Prop} (h:OwnC c0 H esz b l c cs) (hc0:c0≤H.next)
    (hn:new.length=esz) (h1:(new.all oneCell)=true) (h2:(l + 1) * by_≤140737488355328) (h3:l + 1≤9223372036854775807)
    (hk:∀ o H', OwnC c0 H' esz (some ⟨o, 0, none⟩) (l + 1) 0 (cs ++ new)→Fr (ownS b) H H'→H.next≤o→K H.next (some ⟨o, 0, none⟩) (l + 1) 0 H') :
    wBs new esz H fun i H2=>wAppL e esz by_ b l c (some ⟨i, 0, none⟩) 1 0 H2 (K i):=by
  have hq:=Has.new H (.row new esz)
  have hsc:=sliceCells_new (H.push (.row new esz)) new esz 1 0 (by omega) hq
  have f0:∀ S, Fr S H (H.push (.row new esz)):=fun S=>(Fr.refl S H).push _
  have hnx:(H.push (.row new esz)).next=H.next + 1:=rfl
  show wAppL _ _ _ _ _ _ _ _ _ (H.push (.row new esz)) _
  rcases h with ⟨rfl, rfl, rfl, rfl⟩ | ⟨o, rfl, rfl, hl, ho, hb⟩
  · refine wAppL_nil (n:=0) hsc (by omega) h1 (by omega) (by omega) ?_
    exact hk _ _ (.inr ⟨_, rfl, rfl, by rw [List.nil_append]; omega, by rw [List.nil_append]; exact Has.newT _ _ _, by omega⟩) ((f0 _).pushT _ _) (by omega)
  · have ho':=ho.fr (f0 []) (by simp)
    refine wAppL_own ho' hl hsc (by omega) h1 h2 h3 (hk _ _ (.inr ⟨_, rfl, rfl, ?_, Has.newT ((H.push (.row new esz)).drop o) _ _, by show c0≤H.next + 1; omega⟩) (((f0 _).drop (.inl (by simp [ownS]))).pushT _ _) (by show H.next≤H.next + 1; omega))
    rw [List.length_append, ← hl, hn, Nat.add_mul]; omega
end
end Go.Proofs.YtjhbbbcelnlnpaaGreatDoor
namespace Go.Proofs.YtjhbbbcelnlnpaaGreatDoor
open Go.RowKit

theorem join_cat (l:List (List UInt8)):Lib.join l []=l.flatten:=by
  unfold Lib.join
  induction l with
  | nil=>rfl
  | cons x l ih =>
    cases l with
    | nil=>simp [List.intercalate]
    | cons y l =>
      have:List.intercalate [] (x :: y :: l)=x ++ List.intercalate [] (y :: l):=by simp [List.intercalate]
      rw [this, ih]; rfl
theorem two_args {cargs:Array Value} {a b:Value} (h:cargs.size=2) (h0:cargs[0]?=some a) (h1:cargs[1]?=some b):cargs=#[a, b]:=by
  apply Array.ext (by simp [h])
  intro i hi hj
  have:i=0∨i=1:=by omega
  rcases this with rfl | rfl
  · have:=(Array.getElem?_eq_some_iff.1 h0).2; simpa using this
  · have:=(Array.getElem?_eq_some_iff.1 h1).2; simpa using this
theorem strs_part {B:Nat} {w0:World} {μ:Mu} {H:AH} {w:World} (hr:Rel B w0 μ H w) {j k n:Nat} {l:List ByteArray} (h:Has H j (.row (strs l) 1)) (hkn:k + n≤l.length) {cv:Value} (hv:VR μ (.slice (some ⟨j, k, none⟩) n 0) cv) :
    (n=0∧∃ a c, cv=.slice a 0 c)∨∃ bk o c, cv=.slice (some ⟨bk, o, none⟩) n c∧bk<w.heap.size∧n≤c∧∀ (m:Nat) x, ((l.drop k).take n)[m]?=some x→w.cell? ⟨bk, o + m, none⟩=some (.string x):=by
  cases hv with
  | slice hp hc ha =>
    rename_i p a cap
    obtain ⟨q, hq, hE, hB, c, ty, fz, h1, h2, h3, h4, h5⟩:=hr.obj j _ h.get
    rw [hp] at hq
    cases hq
    have hcap:cap=(p.cap - k) / p.esz:=hc
    rw [hE, Nat.div_one] at hcap
    rw [strs_length] at h3
    rcases ha with rfl | ⟨h0, h00⟩
    · refine .inr ⟨_, _, _, rfl, (Array.getElem?_eq_some_iff.1 h1).1, by omega, fun m x hm=>?_⟩
      have hm':l[k + m]?=some x:=by
        rw [List.getElem?_take] at hm
        split at hm
        · rwa [List.getElem?_drop] at hm
        · cases hm
      obtain ⟨v', g1, g2⟩:=h5 (k + m) (.string x) (by simp [strs, hm'])
      cases g2
      rw [Nat.add_assoc]
      simp [World.cell?, h1, g1]
    · exact .inl ⟨h0, _, _, by rw [h0]⟩
theorem join_part {H:AH} {R:AEnd→AH→Prop} {j k n:Nat} {l:List ByteArray} (h:Has H j (.row (strs l) 1)) (hkn:k + n≤l.length) (hN:n≤140737488355328) (hlen:(catL ((l.drop k).take n)).size≤140737488355328)
    (hR:R (.ret (.string (catL ((l.drop k).take n)))) H):ACall Tryz.prog 101 [.slice (some ⟨j, k, none⟩) n 0, .string ⟨#[]⟩] H R:=by
  refine acall_keep (.string (catL ((l.drop k).take n))) ?_ hR
  intro B w0 μ w cargs hr ha
  obtain ⟨hs, hat⟩:=ha
  obtain ⟨cv, h0, hv⟩:=hat 0 _ rfl
  obtain ⟨c1, h1, hv1⟩:=hat 1 _ rfl
  cases hv1
  obtain rfl:=two_args (by simpa using hs.symm) h0 h1
  have hl:((l.drop k).take n).length=n:=by rw [List.length_take, List.length_drop]; omega
  rcases strs_part hr h hkn hv with ⟨rfl, a, c, rfl⟩ | ⟨bk, o, c, rfl, hbk, hc, hcells⟩
  · refine (Shl.strings_Join_none a c _ w).mono ?_
    rintro e w' ⟨rfl, rfl⟩
    exact ⟨⟨_, rfl, by rw [List.take_zero]; exact .string _⟩, Below.refl _ _⟩
  · have e:(Lib.join (((l.drop k).take n).map (·.data.toList)) (⟨#[]⟩:ByteArray).data.toList)=(((l.drop k).take n).map (·.data.toList)).flatten:=join_cat _
    have hj:=Shl.strings_Join bk o c ((l.drop k).take n) ⟨#[]⟩ w hcells hbk (by rw [hl]; exact hN) (by rw [hl]; exact hc) (by
      rw [e]
      unfold catL at hlen
      rwa [ofL_size] at hlen)
    rw [hl] at hj
    refine hj.mono ?_
    rintro e' w' ⟨rfl, hb⟩
    rw [e]
    exact ⟨⟨_, rfl, .string _⟩, hb⟩

theorem secs_mem {l:List ByteArray} (h:∀ s ∈ l, s.size=64) (k n:Nat):∀ s ∈ (l.drop k).take n, s.size=64:=fun s hs=>h s (List.mem_of_mem_drop (List.mem_of_mem_take hs))
def unitS (secs:List ByteArray) (per seg at_:Nat):ByteArray:=catL ((secs.drop (seg * per + at_)).take (per - at_))
def unitP (secs:List ByteArray) (per seg at_:Nat):UV × Bool:=((getU (unitS secs per seg at_)).1, decide ((getU (unitS secs per seg at_)).2=0))

section
variable {H:AH} {R:AEnd→AH→Prop}
structure Gu (H0:AH) (ir js iu:Nat) (cs:List Value) (secs:List ByteArray) (H:AH):Prop where
  own:Has H ir (.row cs 0)
  secs:Has H js (.row (strs secs) 1)
  u:Has H iu (.row zC 0)
  new:H0.next≤iu
  fr:Fr [] H0 H
theorem Gu.step {H0 H1 H2:AH} {ir js iu:Nat} {cs:List Value} {secs:List ByteArray} (g:Gu H0 ir js iu cs secs H1) (f:Fr [] H1 H2):Gu H0 ir js iu cs secs H2 :=
  ⟨g.own.fr f (by simp), g.secs.fr f (by simp), g.u.fr f (by simp), g.new, g.fr.trans f⟩
set_option maxRecDepth 20000 in
set_option maxHeartbeats 800000 in
theorem unit_call {ir js per seg at_:Nat} {cs:List Value} {secs:List ByteArray} (ho:Has H ir (.row cs 0)) (h0:cs[0]?=some (.slice (some ⟨js, 0, none⟩) secs.length 0)) (h1:cs[1]?=some (.int .i64 (per:Int)))
    (hs:Has H js (.row (strs secs) 1)) (h64:∀ s ∈ secs, s.size=64) (hfew:secs.length≤4096) (hp:1≤per) (hin:(seg + 1) * per≤secs.length) (hat:at_≤per)
    (h:∀ H', Fr [] H H'→R (.ret (.tuple #[.agg (uvC (unitP secs per seg at_).1).toArray, .bool (unitP secs per seg at_).2])) H') :
    ACall Tryz.prog 68 [.pointer (some ⟨ir, 0, none⟩), .int .i64 (seg:Int), .int .i64 (at_:Int)] H R:=by
  apply f68_call
  unfold f68_B
  have hm:(seg + 1) * per=seg * per + per:=by rw [Nat.add_mul]; omega
  have hseg:seg≤4096:=by
    have:(seg + 1) * 1≤(seg + 1) * per:=Nat.mul_le_mul_left _ (by omega)
    omega
  have e1:IntKind.i64.wrap ((seg:Int) * (per:Int))=((seg * per:Nat):Int):=by
    have e:(seg:Int) * (per:Int)=((seg * per:Nat):Int):=by push_cast; rfl
    rw [e, wi _ (by omega) (by omega)]
  have e2:IntKind.i64.wrap (((seg * per:Nat):Int) + (at_:Int))=((seg * per + at_:Nat):Int):=by
    rw [wi _ (by omega) (by omega)]; push_cast; rfl
  have e3:IntKind.i64.wrap (IntKind.i64.wrap ((seg:Int) + 1) * (per:Int))=(((seg + 1) * per:Nat):Int):=by
    have e0:IntKind.i64.wrap ((seg:Int) + 1)=((seg + 1:Nat):Int):=by rw [wi _ (by omega) (by omega)]; push_cast; rfl
    rw [e0]
    have e:((seg + 1:Nat):Int) * (per:Int)=(((seg + 1) * per:Nat):Int):=by push_cast; rfl
    rw [e, wi _ (by omega) (by omega)]
  have hsc:(strs secs).length=secs.length:=strs_length _
  have hz:Int.toNat ((((seg + 1) * per:Nat):Int) - ((seg * per + at_:Nat):Int))=per - at_:=by omega
  have hto:0 + Int.toNat ((seg * per + at_:Nat):Int) * 1=seg * per + at_:=by omega
  have hus:(unitS secs per seg at_).size≤140737488355328:=by
    unfold unitS
    rw [catL_size _ (secs_mem h64 _ _), List.length_take]; omega
  refine wNew_at ?_
  have g0:Gu H ir js H.next cs secs (H.push (.row zC 0)):=⟨ho.push _, hs.push _, Has.new _ _, Nat.le_refl _, (Fr.refl [] H).push _⟩
  generalize H.push (.row zC 0)=H1 at g0 ⊢
  generalize hiu:H.next=iu at g0 ⊢
  have hl1:1<cs.length:=(List.getElem?_eq_some_iff.1 h1).1
  have hd1:(cs.drop (0 + 1)).take [Value.int .i64 (per:Int)].length=[.int .i64 (per:Int)]:=by
    have:=(List.getElem?_eq_some_iff.1 h1).2
    rw [List.drop_eq_getElem_cons (by omega:0 + 1<cs.length)]
    simp [this]
  have pin:∀ (H2:AH), Gu H ir js iu cs secs H2→∀ {K:Prop}, K→wPin ir (0 + 1) [.int .i64 (per:Int)] H2 K:=fun H2 g K hk=>⟨PinOK_at g.own (by simp; omega) hd1, hk⟩
  have hR:∀ H', Fr [] H H'→R (.ret (.tuple #[.agg #[.int .u32 ((getU (unitS secs per seg at_)).1.sr:Int), .int .u64 ((getU (unitS secs per seg at_)).1.sq:Int), .int .i64 (getU (unitS secs per seg at_)).1.kd, .string (getU (unitS secs per seg at_)).1.body], .bool (decide ((getU (unitS secs per seg at_)).2=0))])) H':=h
  clear h
  have hU:unitS secs per seg at_=catL ((secs.drop (seg * per + at_)).take (per - at_)):=rfl
  -- the end
  have fin:∀ (H2:AH) (q:Nat), Gu H ir js iu cs secs H2→Has H2 q (.row (uvC (getU (unitS secs per seg at_)).1) 0)→f68_J0_B iu q (getU (unitS secs per seg at_)).2 H2 R:=by
    intro H2 q g hq
    unfold f68_J0_B
    refine ldI_at hq rfl (ldI_at hq rfl (ldI_at hq rfl (ldS_at hq rfl ?_)))
    exact st4_at g.u rfl (hR _ (g.fr.set (.inr g.new) _))
  refine wPt_at (ldI_at g0.own h1 (wPt_at (wPt_at (ldI_at g0.own h1 ?_))))
  rw [e1, e2, e3]
  have sl:∀ (H2:AH), Gu H ir js iu cs secs H2→∀ {K:Option Addr→Nat→Nat→Prop}, K (some ⟨js, seg * per + at_, none⟩) (per - at_) 0→wSl 1 (some ⟨js, 0, none⟩) secs.length 0 ((seg * per + at_:Nat):Int) (((seg + 1) * per:Nat):Int) H2 K:=by
    intro H2 g K hk
    refine ⟨by omega, by omega, by omega, rfl, ⟨_, .inl g.secs.get, by rw [hsc]; omega⟩, ?_⟩
    rw [hto, hz]; exact hk
  have join:∀ (H2:AH), Gu H ir js iu cs secs H2→∀ {R':AEnd→AH→Prop}, R' (.ret (.string (unitS secs per seg at_))) H2→ACall Tryz.prog 101 [.slice (some ⟨js, seg * per + at_, none⟩) (per - at_) 0, .string ⟨#[]⟩] H2 R' :=
    fun H2 g R' hk=>join_part g.secs (by omega) (by omega) (by rw [← hU]; exact hus) (by rw [← hU]; exact hk)
  have g1:∀ (H2:AH), Gu H ir js iu cs secs H2→Gu H ir js iu cs secs (H2.push (.row zC 0)):=fun H2 g=>g.step ((Fr.refl [] H2).push _)
  have st:∀ (H2:AH) (q:Nat), Gu H ir js iu cs secs H2→Has H2 q (.row zC 0)→q ≠ iu→q ≠ ir→q ≠ js→H.next≤q→∀ {K:AH→Prop}, (∀ H3, Gu H ir js iu cs secs H3→Has H3 q (.row (uvC (getU (unitS secs per seg at_)).1) 0)→K H3) →
      wSt q 0 [.int .u32 ((getU (unitS secs per seg at_)).1.sr:Int), .int .u64 ((getU (unitS secs per seg at_)).1.sq:Int), .int .i64 (getU (unitS secs per seg at_)).1.kd, .string (getU (unitS secs per seg at_)).1.body] H2 K:=by
    intro H2 q g hq n1 n2 n3 n4 K hk
    refine wSt_at hq (by simp) (hk _ ⟨g.own.setne (Ne.symm n2) _, g.secs.setne (Ne.symm n3) _, g.u.setne (Ne.symm n1) _, g.new, g.fr.set (.inr n4) _⟩ ?_)
    exact hq.set _
  have nw:∀ (H2:AH), Gu H ir js iu cs secs H2→H2.next ≠ iu∧H2.next ≠ ir∧H2.next ≠ js∧H.next≤H2.next:=fun H2 g=>⟨g.u.ne', g.own.ne', g.secs.ne', g.fr.next⟩
  refine ⟨?_, ?_⟩
  · refine ldL_at g0.own h0 (pin _ g0 (sl _ g0 ⟨?_, ?_⟩))
    · refine wCall_of (join _ g0 (opS_at (pin _ g0 ⟨?_, ?_⟩)))
      · refine wCall_of (get_call _ hus (fun H2 f2=>opT_at rfl (opA_at rfl (opI_at (opI_at (opI_at (opS_at (opI_at ?_))))))))
        have g2:=g0.step f2
        obtain ⟨n1, n2, n3, n4⟩:=nw _ g2
        refine pin _ g2 (wNew_at (pin _ (g1 _ g2) (st _ _ (g1 _ g2) (Has.new _ _) n1 n2 n3 n4 (fun H3 g3 hq=>?_))))
        rw [f68_J0_eq]
        exact fin _ _ g3 hq
      · obtain ⟨n1, n2, n3, n4⟩:=nw _ g0
        refine wNew_at (pin _ (g1 _ g0) (wCall_of (get_call _ hus (fun H2 f2=>opT_at rfl (opA_at rfl (opI_at (opI_at (opI_at (opS_at (opI_at ?_))))))))))
        have g2:=(g1 _ g0).step f2
        refine pin _ g2 (st _ _ g2 ((Has.new _ _).fr f2 (by simp)) n1 n2 n3 n4 (fun H3 g3 hq=>?_))
        rw [f68_J0_eq]
        exact fin _ _ g3 hq
    · obtain ⟨n1, n2, n3, n4⟩:=nw _ g0
      refine wNew_at (pin _ (g1 _ g0) (wCall_of (join _ (g1 _ g0) (opS_at (pin _ (g1 _ g0) (wCall_of (get_call _ hus (fun H2 f2=>opT_at rfl (opA_at rfl (opI_at (opI_at (opI_at (opS_at (opI_at ?_))))))))))))))
      have g2:=(g1 _ g0).step f2
      refine pin _ g2 (st _ _ g2 ((Has.new _ _).fr f2 (by simp)) n1 n2 n3 n4 (fun H3 g3 hq=>?_))
      rw [f68_J0_eq]
      exact fin _ _ g3 hq
  · obtain ⟨n1, n2, n3, n4⟩:=nw _ g0
    refine wNew_at (pin _ (g1 _ g0) (ldL_at (g1 _ g0).own h0 (pin _ (g1 _ g0) (sl _ (g1 _ g0) (wCall_of (join _ (g1 _ g0) (opS_at (pin _ (g1 _ g0) (wCall_of (get_call _ hus (fun H2 f2=>opT_at rfl (opA_at rfl (opI_at (opI_at (opI_at (opS_at (opI_at ?_)))))))))))))))))
    have g2:=(g1 _ g0).step f2
    refine pin _ g2 (st _ _ g2 ((Has.new _ _).fr f2 (by simp)) n1 n2 n3 n4 (fun H3 g3 hq=>?_))
    rw [f68_J0_eq]
    exact fin _ _ g3 hq
end
end Go.Proofs.YtjhbbbcelnlnpaaGreatDoor
