/- The device of sectors: what its memory is, and the small calls. The device of sectors: a loss of power; the calls that write. -/
import Derived.Test.YtjhbbbcelnlnpaaGreatDoorWNav
import Derived.Test.YtjhbbbcelnlnpaaGreatDoorWNaq
namespace Go.Proofs.YtjhbbbcelnlnpaaGreatDoor
open Go.RowKit

structure Cr where
  keep:Int
  torn:Int
  at_:Int
structure Dev where
  lasts:List ByteArray
  waits:List (Nat × ByteArray)
  off:Bool
  left:Int
  crash:Cr

def Cr.val (c:Cr):List Value:=[.int .u64 c.keep, .int .i64 c.torn, .int .i64 c.at_]
def strs (l:List ByteArray):List Value:=l.map Value.string
def wcells (l:List (Nat × ByteArray)):List Value:=(l.map fun w=>[Value.int .i64 (w.1:Int), .string w.2]).flatten
def wval (jw:Nat):List (Nat × ByteArray)→Value
  | []=>.slice none 0 0
  | l=>.slice (some ⟨jw, 0, none⟩) l.length 0
def devRow (jl jw:Nat) (d:Dev):AObj :=
  .row [.slice (some ⟨jl, 0, none⟩) d.lasts.length 0, wval jw d.waits, .bool d.off, .int .i64 d.left, .int .u64 d.crash.keep, .int .i64 d.crash.torn, .int .i64 d.crash.at_] 0
structure DevAt (H:AH) (i jl jw:Nat) (d:Dev):Prop where
  own:Has H i (devRow jl jw d)
  lasts:Has H jl (.row (strs d.lasts) 1)
  waits:d.waits ≠ []→Has H jw (.row (wcells d.waits) 2)
  ne:i ≠ jl
  emp:d.waits=[]→jw=i
  nw:d.waits ≠ []→jw ≠ i∧jw ≠ jl
theorem DevAt.fr {S:List Nat} {H H':AH} {i jl jw:Nat} {d:Dev} (h:DevAt H i jl jw d) (x:Fr S H H') (hs:i ∉ S∧jl ∉ S∧jw ∉ S):DevAt H' i jl jw d :=
  ⟨h.own.fr x hs.1, h.lasts.fr x hs.2.1, fun e=>(h.waits e).fr x hs.2.2, h.ne, h.emp, h.nw⟩

section
variable {H:AH} {i jl jw:Nat} {d:Dev} {R:AEnd→AH→Prop}
theorem refused_call (hd:DevAt H i jl jw d) (h:R (.ret (.int .i64 (if d.off then 10 else 0))) H):ACall Tryz.prog 86 [.pointer (some ⟨i, 0, none⟩)] H R:=by
  apply f86_call
  unfold f86_B
  refine wIf_f rfl (wPt_at (ldB_at hd.own rfl (wIf_b (fun e=>?_) (fun e=>?_))))
  · rw [e] at h; exact h
  · rw [e] at h; exact h
theorem dsectors_call (hd:DevAt H i jl jw d) (h:R (.ret (.int .i64 d.lasts.length)) H):ACall Tryz.prog 32 [.pointer (some ⟨i, 0, none⟩)] H R:=by
  apply f32_call
  unfold f32_B
  exact wIf_f rfl (wPt_at (ldL_at hd.own rfl h))
theorem wval_eq (jw:Nat) (l:List (Nat × ByteArray)):∃ a, wval jw l=.slice a l.length 0∧(l ≠ []→a=some ⟨jw, 0, none⟩)∧(l=[]→a=none):=by
  cases l with
  | nil=>exact ⟨none, rfl, fun h=>absurd rfl h, fun _=>rfl⟩
  | cons w l=>exact ⟨some ⟨jw, 0, none⟩, rfl, fun _=>rfl, fun h=>by cases h⟩
theorem DevAt.upd (hd:DevAt H i jl jw d) (d':Dev) (hl:d'.lasts=d.lasts) (hw:d'.waits=d.waits):DevAt (H.set i (devRow jl jw d')) i jl jw d' :=
  ⟨hd.own.set _, by rw [hl]; exact hd.lasts.setne hd.ne.symm _, fun e=>by rw [hw]; exact (hd.waits (by rw [← hw]; exact e)).setne (hd.nw (by rw [← hw]; exact e)).1 _, hd.ne, fun e=>hd.emp (by rw [← hw]; exact e), fun e=>hd.nw (by rw [← hw]; exact e)⟩
theorem AH.set_set (H:AH) (i:Nat) (a b:AObj):(H.set i a).set i b=H.set i b:=by
  unfold AH.set
  congr 1
  funext j
  by_cases h:j=i <;> simp [h]
theorem Fr.set1 (H:AH) (i:Nat) (o:AObj):Fr [i] H (H.set i o):=(Fr.refl [i] H).set (.inl (by simp)) _
theorem up_call (hd:DevAt H i jl jw d) (h:∀ H', DevAt H' i jl jw { d with off:=false, left:=0 }→Fr [i] H H'→R (.ret (.tuple #[])) H'):ACall Tryz.prog 20 [.pointer (some ⟨i, 0, none⟩)] H R:=by
  apply f20_call
  unfold f20_B
  refine wIf_t rfl (wPt_at (wSt_at hd.own (by simp) (wPt_at (wSt_at (hd.own.set _) (by simp [setCells]) ?_))))
  rw [AH.set_set]
  exact h _ (hd.upd { d with off:=false, left:=0 } rfl rfl) (Fr.set1 _ _ _)
/-! Reading. -/
theorem wcells_at (l:List (Nat × ByteArray)) (k:Nat) (h:k<l.length):(wcells l)[2 * k]?=some (.int .i64 ((l[k]).1:Int))∧(wcells l)[2 * k + 1]?=some (.string (l[k]).2):=by
  unfold wcells
  induction l generalizing k with
  | nil=>simp at h
  | cons w l ih =>
    cases k with
    | zero=>exact ⟨rfl, rfl⟩
    | succ k =>
      have:=ih k (by simpa using h)
      simp only [List.map_cons, List.flatten_cons, List.cons_append, List.nil_append]
      rw [show 2 * (k + 1)=2 * k + 1 + 1 by omega, List.getElem?_cons_succ, List.getElem?_cons_succ, List.getElem?_cons_succ, List.getElem?_cons_succ]
      exact this
theorem wcells_length (l:List (Nat × ByteArray)):(wcells l).length=2 * l.length:=by
  unfold wcells
  induction l with
  | nil=>rfl
  | cons w l ih=>simp only [List.map_cons, List.flatten_cons, List.cons_append, List.nil_append, List.length_cons, ih]; omega
theorem strs_at (l:List ByteArray) (k:Nat) (h:k<l.length):(strs l)[k]?=some (.string l[k]):=by simp [strs, h]
def lastW (i:Nat):List (Nat × ByteArray)→Option ByteArray
  | []=>none
  | w :: l=>match lastW i l with
    | some s=>some s
    | none=>if w.1=i then some w.2 else none
def Dev.read (d:Dev) (k:Int):ByteArray × Int :=
  if d.off then (ByteArray.empty, 10) else if k<0∨(d.lasts.length:Int)≤k then (ByteArray.empty, 2)
  else ((lastW k.toNat d.waits).getD (d.lasts.getD k.toNat ByteArray.empty), 0)
end
end Go.Proofs.YtjhbbbcelnlnpaaGreatDoor
namespace Go.Proofs.YtjhbbbcelnlnpaaGreatDoor
open Go.RowKit

theorem strs_set (l:List ByteArray) (k:Nat) (s:ByteArray):setCells (strs l) k [.string s]=strs (l.set k s):=by
  simp [setCells, strs, List.map_set]
theorem strs_length (l:List ByteArray):(strs l).length=l.length:=by simp [strs]
theorem strs_getD (l:List ByteArray) (k:Nat) (h:k<l.length):(strs l)[k]?=some (.string (l.getD k ByteArray.empty)):=by
  rw [strs_at l k h, List.getD_eq_getElem?_getD, List.getElem?_eq_getElem h]; rfl

def tornAt (c:Cr):Nat:=(Int.tmod (if 0<c.at_ then c.at_ else 0) 65).toNat
def bitOn (c:Cr) (k:Nat):Prop:=(IntKind.u64.wrap ((BitVec.ofInt IntKind.u64.bits (Int.fdiv c.keep (2 ^ (min (Int.toNat (Int.tmod (k:Int) 64)) IntKind.u64.bits)))) &&& (BitVec.ofInt IntKind.u64.bits 1)).toNat)=1
instance (c:Cr) (k:Nat):Decidable (bitOn c k):=inferInstanceAs (Decidable (_=_))
def loseStep (c:Cr) (k:Nat) (w:Nat × ByteArray) (ls:List ByteArray):List ByteArray :=
  if (k:Int)=c.torn then ls.set w.1 (w.2.extract 0 (tornAt c) ++ (ls.getD w.1 ByteArray.empty).extract (tornAt c) (ls.getD w.1 ByteArray.empty).size)
  else if bitOn c k then ls.set w.1 w.2 else ls
def loseN (c:Cr) (ws:List (Nat × ByteArray)):Nat→List ByteArray→List ByteArray
  | 0, ls=>ls
  | k + 1, ls=>loseStep c k (ws.getD k (0, ByteArray.empty)) (loseN c ws k ls)
def Dev.lost (d:Dev) (c:Cr):Dev:={ d with lasts:=loseN c d.waits d.waits.length d.lasts, waits:=[] }
structure Dev.OK (d:Dev):Prop where
  lasts:∀ s ∈ d.lasts, s.size=64
  waits:∀ w ∈ d.waits, w.1<d.lasts.length∧w.2.size=64
  few:d.lasts.length≤4096
  many:d.waits.length<1099511627776
  left:0≤d.left∧d.left≤9223372036854775807

theorem tornAt_le (c:Cr):0≤Int.tmod (if 0<c.at_ then c.at_ else 0) 65∧Int.tmod (if 0<c.at_ then c.at_ else 0) 65≤64:=by
  have h:0≤(if 0<c.at_ then c.at_ else 0):=by split <;> omega
  generalize (if 0<c.at_ then c.at_ else 0)=a at h
  rw [Int.tmod_eq_emod_of_nonneg h]
  omega
theorem getD_mem {l:List ByteArray} {k:Nat} (h:k<l.length):l.getD k ByteArray.empty ∈ l:=by
  rw [List.getD_eq_getElem?_getD, List.getElem?_eq_getElem h]; exact List.getElem_mem h
theorem getW_mem {l:List (Nat × ByteArray)} {k:Nat} (h:k<l.length):l.getD k (0, ByteArray.empty) ∈ l:=by
  rw [List.getD_eq_getElem?_getD, List.getElem?_eq_getElem h]; exact List.getElem_mem h
theorem loseStep_ok {c:Cr} {k:Nat} {w:Nat × ByteArray} {ls:List ByteArray} (h:∀ s ∈ ls, s.size=64) (hw:w.2.size=64) :
    (loseStep c k w ls).length=ls.length∧∀ s ∈ loseStep c k w ls, s.size=64:=by
  have ht:=tornAt_le c
  unfold loseStep
  split
  · refine ⟨by simp, fun s hs=>?_⟩
    rcases List.mem_or_eq_of_mem_set hs with hs | rfl
    · exact h s hs
    · by_cases hlt:w.1<ls.length
      · have:=h _ (getD_mem hlt)
        unfold tornAt
        rw [ByteArray.size_append, ByteArray.size_extract, ByteArray.size_extract, hw, this]
        omega
      · rw [List.set_eq_of_length_le (by omega)] at hs
        exact h _ hs
  · split
    · refine ⟨by simp, fun s hs=>?_⟩
      rcases List.mem_or_eq_of_mem_set hs with hs | rfl
      · exact h s hs
      · exact hw
    · exact ⟨rfl, h⟩
theorem loseN_ok {c:Cr} {ws:List (Nat × ByteArray)} {ls:List ByteArray} (h:∀ s ∈ ls, s.size=64) (hw:∀ w ∈ ws, w.2.size=64) (k:Nat) (hk:k≤ws.length) :
    (loseN c ws k ls).length=ls.length∧∀ s ∈ loseN c ws k ls, s.size=64:=by
  induction k with
  | zero=>exact ⟨rfl, h⟩
  | succ k ih =>
    obtain ⟨h1, h2⟩:=ih (by omega)
    obtain ⟨h3, h4⟩:=loseStep_ok (c:=c) (k:=k) h2 (hw _ (getW_mem (show k<ws.length by omega)))
    exact ⟨h3.trans h1, h4⟩
theorem Dev.OK.lost {d:Dev} (h:d.OK) (c:Cr):(d.lost c).OK:=by
  obtain ⟨h1, h2⟩:=loseN_ok (c:=c) h.lasts (fun w hw=>(h.waits w hw).2) d.waits.length (Nat.le_refl _)
  exact ⟨h2, fun w hw=>(by cases hw), by show (loseN _ _ _ _).length≤_; rw [h1]; exact h.few, by show 0<_; omega, h.left⟩

theorem wcells_getD (l:List (Nat × ByteArray)) (k:Nat) (h:k<l.length) :
    (wcells l)[0 + ((k:Nat):Int).toNat * 2]?=some (.int .i64 ((l.getD k (0, ByteArray.empty)).1:Int))∧(wcells l)[0 + ((k:Nat):Int).toNat * 2 + 1]?=some (.string (l.getD k (0, ByteArray.empty)).2):=by
  have e:l.getD k (0, ByteArray.empty)=l[k]:=by rw [List.getD_eq_getElem?_getD, List.getElem?_eq_getElem h]; rfl
  rw [e, Int.toNat_natCast, Nat.zero_add, Nat.mul_comm]
  exact wcells_at l k h

section
variable {H:AH} {i jl jw:Nat} {d:Dev} {R:AEnd→AH→Prop}
set_option maxHeartbeats 4000000 in
set_option maxRecDepth 20000 in
theorem lose_call (hd:DevAt H i jl jw d) (hok:d.OK) (c:Cr) (h:∀ H', DevAt H' i jl i (d.lost c)→Fr [i, jl] H H'→R (.ret (.tuple #[])) H') :
    ACall Tryz.prog 60 [.pointer (some ⟨i, 0, none⟩), .agg #[.int .u64 c.keep, .int .i64 c.torn, .int .i64 c.at_]] H R:=by
  apply f60_call
  unfold f60_B
  refine wNew_at (wPt_at ?_)
  have hc0:=Has.new H (.row c.val 0)
  have hf0:Fr [i, jl] H (H.push (.row c.val 0)):=(Fr.refl _ _).push _
  have hci:H.next ≠ i:=hd.own.ne'
  have hcl:H.next ≠ jl:=hd.lasts.ne'
  have hd0:DevAt (H.push (.row c.val 0)) i jl jw d:=hd.fr (S:=[]) ((Fr.refl [] H).push _) (by simp)
  obtain ⟨a, ha, ha1, ha2⟩:=wval_eq jw d.waits
  have hk:=hd0.own
  unfold devRow at hk
  rw [ha] at hk
  refine ldL_at hk rfl ?_
  have hmany:=hok.many
  refine f60_L0_rule (J:=fun m r H'=>∃ k:Nat, k≤d.waits.length∧r=(k:Int)∧m=d.waits.length - k∧Has H' i (devRow jl jw { d with lasts:=loseN c d.waits k d.lasts }) ∧
      Has H' jl (.row (strs (loseN c d.waits k d.lasts)) 1)∧(d.waits ≠ []→Has H' jw (.row (wcells d.waits) 2))∧Has H' H.next (.row c.val 0)∧Fr [i, jl] H H') d.waits.length
    ⟨0, Nat.zero_le _, rfl, rfl, hd0.own, hd0.lasts, hd0.waits, hc0, hf0⟩ ?_
  rintro m r H1 ⟨k, hkl, rfl, rfl, ho, hl, hw, hc, hf⟩
  intros
  unfold f60_R0
  obtain ⟨hlen, hsz⟩:=loseN_ok (c:=c) hok.lasts (fun w hw=>(hok.waits w hw).2) k hkl
  refine wIf_d (fun hlt=>?_) (fun hge=>?_)
  · have hlt:k<d.waits.length:=by omega
    have hne:d.waits ≠ []:=by intro e; rw [e] at hlt; simp at hlt
    obtain ⟨hw1, hw2⟩:=wcells_getD d.waits k hlt
    have hwk:=hok.waits _ (getW_mem hlt)
    generalize hwv:d.waits.getD k (0, ByteArray.empty)=wv at hw1 hw2 hwk
    rw [ha1 hne]
    refine wIx_at (by omega) (by omega) (ldI_at (hw hne) hw1 (ldS_at (hw hne) hw2 (wNew_at (wSt_at (Has.new _ _) (by simp) (wPt_at ?_)))))
    have hx:Fr [] H1 ((H1.push (.row [.int .i64 0, .string ⟨#[]⟩] 0)).set H1.next (.row (setCells [.int .i64 0, .string ⟨#[]⟩] 0 [.int .i64 (wv.1:Int), .string wv.2]) 0)):=((Fr.refl [] H1).push _).set (.inr (Nat.le_refl _)) _
    have hb:=(Has.new H1 (.row [.int .i64 0, .string ⟨#[]⟩] 0)).set (.row (setCells [.int .i64 0, .string ⟨#[]⟩] 0 [.int .i64 (wv.1:Int), .string wv.2]) 0)
    generalize hH2:(H1.push (.row [.int .i64 0, .string ⟨#[]⟩] 0)).set H1.next (.row (setCells [.int .i64 0, .string ⟨#[]⟩] 0 [.int .i64 (wv.1:Int), .string wv.2]) 0)=H2 at hx hb ⊢
    have ho2:=ho.fr hx (by simp)
    have hl2:=hl.fr hx (by simp)
    have hc2:=hc.fr hx (by simp)
    have hf2:Fr [i, jl] H H2:=hf.trans (hx.mono (by simp))
    have hw2':d.waits ≠ []→Has H2 jw (.row (wcells d.waits) 2):=fun e=>(hw e).fr hx (by simp)
    have hidx:wv.1<(loseN c d.waits k d.lasts).length:=by rw [hlen]; exact hwk.1
    have hsl:(strs (loseN c d.waits k d.lasts))[0 + ((wv.1:Nat):Int).toNat * 1]?=some (.string ((loseN c d.waits k d.lasts).getD wv.1 ByteArray.empty)):=by
      rw [Int.toNat_natCast, Nat.zero_add, Nat.mul_one]; exact strs_getD _ _ hidx
    have hsz1:=hsz _ (getD_mem hidx)
    have hw1l:wv.1<d.lasts.length:=hwk.1
    have hdl:({ d with lasts:=loseN c d.waits k d.lasts }:Dev).lasts.length=d.lasts.length:=hlen
    have hfin:∀ (s:ByteArray) (H3:AH), H3=H2.set jl (.row (setCells (strs (loseN c d.waits k d.lasts)) (0 + ((wv.1:Nat):Int).toNat * 1) [.string s]) 1)→loseStep c k wv (loseN c d.waits k d.lasts)=(loseN c d.waits k d.lasts).set wv.1 s →
        ∃ k':Nat, k'≤d.waits.length∧IntKind.i64.wrap ((k:Int) + 1)=(k':Int)∧d.waits.length - (k + 1)=d.waits.length - k'∧Has H3 i (devRow jl jw { d with lasts:=loseN c d.waits k' d.lasts }) ∧
      Has H3 jl (.row (strs (loseN c d.waits k' d.lasts)) 1)∧(d.waits ≠ []→Has H3 jw (.row (wcells d.waits) 2))∧Has H3 H.next (.row c.val 0)∧Fr [i, jl] H H3:=by
      rintro s H3 rfl hst
      have hN:loseN c d.waits (k + 1) d.lasts=(loseN c d.waits k d.lasts).set wv.1 s:=by rw [loseN, hwv]; exact hst
      refine ⟨k + 1, hlt, wi1 k (by omega), rfl, ?_, ?_, fun e=>(hw2' e).setne (hd.nw e).2 _, hc2.setne hcl _, hf2.set (.inl (by simp)) _⟩
      · have:=ho2.setne hd.ne (.row (setCells (strs (loseN c d.waits k d.lasts)) (0 + ((wv.1:Nat):Int).toNat * 1) [.string s]) 1)
        unfold devRow at this ⊢
        rw [hN]
        simpa using this
      · rw [hN, Int.toNat_natCast, Nat.zero_add, Nat.mul_one, strs_set]
        exact hl2.set _
    refine ldI_at hc2 rfl (wIf_d (fun ht=>?_) (fun ht=>?_))
    · refine wPt_at (ldI_at hc2 rfl (wPt_at (wPt_at ?_)))
      obtain ⟨ht0, ht1⟩:=tornAt_le c
      refine ldL_at ho2 rfl (ldI_at hb rfl (ldS_at hb rfl (wSlS_at (by omega) ht0 (by rw [hwk.2]; exact ht1) (ldL_at ho2 rfl (ldI_at hb rfl (wIx_at (by omega) (by rw [hdl]; omega) (ldS_at hl2 hsl (wSlS_at ht0 (by rw [hsz1]; exact ht1) (by omega) (wCat_at ?_ (wIx_at (by omega) (by rw [hdl]; omega) (wSt_at hl2 ?_ ?_)))))))))))
      · rw [ByteArray.size_extract, ByteArray.size_extract, hwk.2, hsz1]; omega
      · rw [strs_length]; simp; omega
      · refine ⟨d.waits.length - (k + 1), by omega, f60_I0_mk (hfin _ _ rfl ?_)⟩
        unfold loseStep
        rw [if_pos ht]
        rfl
    · refine wPt_at (ldI_at hc2 rfl (wNn_at (by rw [Int.tmod_eq_emod_of_nonneg (by omega)]; omega) (wIf_d (fun hbit=>?_) (fun hbit=>?_))))
      · refine wPt_at (ldL_at ho2 rfl (ldI_at hb rfl (ldS_at hb rfl (wIx_at (by omega) (by rw [hdl]; omega) (wSt_at hl2 ?_ ?_)))))
        · rw [strs_length]; simp; omega
        · refine ⟨d.waits.length - (k + 1), by omega, f60_I0_mk (hfin _ _ rfl ?_)⟩
          unfold loseStep
          rw [if_neg ht, if_pos (show bitOn c k from hbit)]
      · refine ⟨d.waits.length - (k + 1), by omega, f60_I0_mk ⟨k + 1, hlt, wi1 k (by omega), rfl, ?_, ?_, hw2', hc2, hf2⟩⟩
        · rw [loseN, hwv, loseStep, if_neg ht, if_neg (show ¬ bitOn c k from hbit)]; exact ho2
        · rw [loseN, hwv, loseStep, if_neg ht, if_neg (show ¬ bitOn c k from hbit)]; exact hl2
  · have hkk:k=d.waits.length:=by omega
    rw [f60_J0_eq]
    unfold f60_J0_B
    refine wPt_at (wSt_at ho (by simp) ?_)
    rw [hkk] at hlen hl ho ⊢
    refine h _ ⟨?_, hl.setne hd.ne.symm _, fun e=>absurd rfl e, hd.ne, fun _=>rfl, fun e=>absurd rfl e⟩ (hf.set (.inl (by simp)) _)
    exact ho.set _
end
end Go.Proofs.YtjhbbbcelnlnpaaGreatDoor
