/- The device of sectors: Fill, New; the statements' helpers. A device with a fuse beside one without: the plain law. All sectors in a row; what was flushed stays: the plain law. Calls that are deferred, and recover. -/
import Derived.Test.YtjhbbbcelnlnpaaGreatDoorWNax
import Derived.Test.YtjhbbbcelnlnpaaGreatDoorWNao
import Derived.Test.YtjhbbbcelnlnpaaGreatDoorWNan
import Derived.Defers
import Derived.Recover
namespace Go.Proofs.YtjhbbbcelnlnpaaGreatDoor
open Go.RowKit

theorem wCpS_at {H:AH} {o d:Nat} {l:List UInt8} {s:ByteArray} {K:Int→AH→Prop} (h:Has H o (.row (bcells l) 1)) (hl:d=l.length)
    (hk:∀ H', Has H' o (.row (bcells (s.data.toList.take (min s.size d) ++ l.drop (min s.size d))) 1)→Fr [o] H H'→K ((min s.size d:Nat):Int) H'):wCpS (some ⟨o, 0, none⟩) d 0 s H K:=by
  unfold wCpS aCopy copySrc
  simp only [if_true]
  cases hm:min s.size d with
  | zero =>
    rw [hm] at hk
    simp only
    refine opI_at (hk H ?_ (Fr.refl _ _))
    simpa using h
  | succ n =>
    rw [hm] at hk
    simp only [h.get]
    have hle:n + 1≤d:=by omega
    have hle2:n + 1≤s.size:=by omega
    have hb:byteCells s=bcells s.data.toList:=rfl
    have hsz:s.data.toList.length=s.size:=by simp
    refine ⟨by rw [bcells_length]; omega, by rw [hb, bcells_take]; exact bcells_one _, opI_at (hk _ ?_ ((Fr.refl _ _).set (.inl (by simp)) _))⟩
    have:setCells (bcells l) 0 ((byteCells s).take ((n + 1) * 1))=bcells (s.data.toList.take (n + 1) ++ l.drop (n + 1)):=by
      rw [hb, Nat.mul_one, bcells_take]
      have:=setCells_app (bcells (s.data.toList.take (n + 1))) [] (bcells l) (by rw [bcells_length, bcells_length, List.length_take]; omega)
      simp only [List.nil_append, List.length_nil] at this
      rw [this, ← bcells_app, bcells_length, List.length_take, hsz, Nat.min_eq_left hle2]
      congr 1
      simp [bcells, List.map_drop]
    rw [this]
    exact h.set _

def zeros (n:Nat):ByteArray:=ofL (List.replicate n 0)
def pad64 (s:ByteArray):ByteArray:=ofL (s.data.toList.take (min s.size 64) ++ (List.replicate 64 0).drop (min s.size 64))
def fillL:Nat→ByteArray→List ByteArray
  | 0, _=>[]
  | n + 1, s=>pad64 s :: fillL n (s.extract (min s.size 64) s.size)
theorem fillL_length (n:Nat) (s:ByteArray):(fillL n s).length=n:=by
  induction n generalizing s with
  | zero=>rfl
  | succ n ih=>simp [fillL, ih]
theorem pad64_size (s:ByteArray):(pad64 s).size=64:=by
  unfold pad64; rw [ofL_size, List.length_append, List.length_take, List.length_drop, List.length_replicate]
  have:s.data.toList.length=s.size:=by simp
  omega
theorem fillL_size (n:Nat) (s:ByteArray):∀ x ∈ fillL n s, x.size=64:=by
  induction n generalizing s with
  | zero=>intro x hx; cases hx
  | succ n ih =>
    intro x hx
    rcases List.mem_cons.1 hx with rfl | hx
    · exact pad64_size s
    · exact ih _ x hx
def Dev.fill (d:Dev) (s:ByteArray):Dev:={ d with lasts:=fillL d.lasts.length s, waits:=[] }
def newDev (n:Nat):Dev:=⟨fillL n ByteArray.empty, [], false, 0, ⟨0, 0, 0⟩⟩
theorem newDev_ok (n:Nat) (h:n≤4096):(newDev n).OK:=⟨fillL_size _ _, fun w hw=>(by cases hw), by show (fillL _ _).length≤_; rw [fillL_length]; exact h, by show 0<_; omega, ⟨by show (0:Int)≤0; omega, by show (0:Int)≤_; omega⟩⟩

section
variable {H:AH} {i jl jw:Nat} {d:Dev} {R:AEnd→AH→Prop}
set_option maxHeartbeats 1000000 in
set_option maxRecDepth 20000 in
theorem fill_call (hd:DevAt H i jl jw d) (hfew:d.lasts.length≤4096) (s:ByteArray) (h:∀ H', DevAt H' i jl i (d.fill s)→Fr [i, jl] H H'→R (.ret (.tuple #[])) H') :
    ACall Tryz.prog 27 [.pointer (some ⟨i, 0, none⟩), .string s] H R:=by
  apply f27_call
  unfold f27_B
  refine wIf_f rfl (wPt_at (ldL_at hd.own rfl ?_))
  refine f27_L0_rule (J:=fun m s' r H'=>∃ (k:Nat) (L:List ByteArray), k≤d.lasts.length∧r=(k:Int)∧m=d.lasts.length - k∧L.length=d.lasts.length∧L.take k ++ fillL (d.lasts.length - k) s'=fillL d.lasts.length s ∧
      Has H' i (devRow jl jw d)∧Has H' jl (.row (strs L) 1)∧Fr [i, jl] H H') d.lasts.length
    ⟨0, d.lasts, Nat.zero_le _, rfl, rfl, rfl, rfl, hd.own, hd.lasts, Fr.refl _ _⟩ ?_
  rintro m s' r H1 ⟨k, L, hkl, rfl, rfl, hL, hfl, ho, hl, hf⟩
  intros
  unfold f27_R0
  refine wIf_d (fun hlt=>?_) (fun hge=>?_)
  · have hlt:k<d.lasts.length:=by omega
    refine wMk_at (by omega) (by omega) (by omega) (by omega) ?_
    rw [bcells_rep]
    have hb:=Has.new H1 (.row (bcells (List.replicate (Int.toNat 64) 0)) 1)
    have hx0:Fr [] H1 (H1.push (.row (bcells (List.replicate (Int.toNat 64) 0)) 1)):=(Fr.refl [] H1).push _
    refine wCpS_at hb (by simp) (fun H2 hb2 hf2=>?_)
    have hbi:H1.next ≠ i:=by have:=ho.lt; omega
    have hbl:H1.next ≠ jl:=by have:=hl.lt; omega
    have hx:Fr [] H1 H2:=hx0.trans' hf2 (fun j hj=>.inr (by simp at hj; omega))
    have ho2:=ho.fr hx (by simp)
    have hl2:=hl.fr hx (by simp)
    have hmn:min s'.size (Int.toNat 64)=min s'.size 64:=rfl
    rw [hmn] at hb2 ⊢
    have hfin:Has (H2.set jl (.row (setCells (strs L) (0 + ((k:Nat):Int).toNat * 1) [.string (pad64 s')]) 1)) i (devRow jl jw d)∧Has (H2.set jl (.row (setCells (strs L) (0 + ((k:Nat):Int).toNat * 1) [.string (pad64 s')]) 1)) jl (.row (strs (L.set k (pad64 s'))) 1):=by
      refine ⟨ho2.setne hd.ne _, ?_⟩
      rw [Int.toNat_natCast, Nat.zero_add, Nat.mul_one, strs_set]
      exact hl2.set _
    have hfill:(L.set k (pad64 s')).take (k + 1) ++ fillL (d.lasts.length - (k + 1)) (s'.extract (min s'.size 64) s'.size)=fillL d.lasts.length s:=by
      rw [← hfl]
      have e:d.lasts.length - k=(d.lasts.length - (k + 1)) + 1:=by omega
      rw [e, fillL, List.take_set, List.take_add_one, List.getElem?_eq_getElem (by omega)]
      have:((L.take k ++ (some L[k]).toList).set k (pad64 s'))=L.take k ++ [pad64 s']:=by
        have hlk:(L.take k).length=k:=by rw [List.length_take]; omega
        rw [List.set_append_right _ _ (by omega), hlk]; simp
      rw [this]; simp
    have done:∀ (H3:AH), H3=H2.set jl (.row (setCells (strs L) (0 + ((k:Nat):Int).toNat * 1) [.string (pad64 s')]) 1) →
        ∃ (k':Nat) (L':List ByteArray), k'≤d.lasts.length∧IntKind.i64.wrap ((k:Int) + 1)=(k':Int)∧d.lasts.length - (k + 1)=d.lasts.length - k'∧L'.length=d.lasts.length∧L'.take k' ++ fillL (d.lasts.length - k') (s'.extract (min s'.size 64) s'.size)=fillL d.lasts.length s ∧
          Has H3 i (devRow jl jw d)∧Has H3 jl (.row (strs L') 1)∧Fr [i, jl] H H3:=by
      rintro H3 rfl
      exact ⟨k + 1, L.set k (pad64 s'), hlt, wi1 k (by omega), rfl, by rw [List.length_set]; exact hL, hfill, hfin.1, hfin.2, (hf.trans (hx.mono (by simp))).set (.inl (by simp)) _⟩
    have htn:((min s'.size 64:Nat):Int).toNat=min s'.size 64:=by omega
    have hsn:((s'.size:Nat):Int).toNat=s'.size:=by omega
    have hkk:k<(strs L).length:=by rw [strs_length, hL]; exact hlt
    refine wSlS_at (by omega) (by omega) (by omega) (wPt_at ⟨?_, ?_⟩)
    · refine ldL_at ho2 rfl (wB2S_at hb2 ?_ (wIx_at (by omega) (by omega) (wSt_at hl2 (by simp; omega) ?_)))
      · rw [List.length_append, List.length_take, List.length_drop, List.length_replicate]
        have:s'.data.toList.length=s'.size:=by simp
        show 64=_; omega
      · rw [htn, hsn]
        exact ⟨d.lasts.length - (k + 1), by omega, f27_I0_mk (done _ rfl)⟩
    · refine wB2S_at hb2 ?_ (ldL_at ho2 rfl (wIx_at (by omega) (by omega) (wSt_at hl2 (by simp; omega) ?_)))
      · rw [List.length_append, List.length_take, List.length_drop, List.length_replicate]
        have:s'.data.toList.length=s'.size:=by simp
        show 64=_; omega
      · rw [htn, hsn]
        exact ⟨d.lasts.length - (k + 1), by omega, f27_I0_mk (done _ rfl)⟩
  · have hk:k=d.lasts.length:=by omega
    subst hk
    rw [Nat.sub_self, fillL, List.append_nil, ← hL, List.take_length] at hfl
    rw [f27_J0_eq]
    unfold f27_J0_B
    refine wPt_at (wSt_at ho (by simp) ?_)
    refine h _ ⟨?_, ?_, fun e=>absurd rfl e, hd.ne, fun _=>rfl, fun e=>absurd rfl e⟩ (hf.set (.inl (by simp)) _)
    · have:=ho.set (devRow jl i (d.fill s))
      unfold devRow at this ⊢
      have e:(d.fill s).lasts.length=d.lasts.length:=fillL_length _ _
      rw [e] at this ⊢
      exact this
    · have:(d.fill s).lasts=L:=by show fillL _ _=_; rw [hfl, hL]
      rw [this]
      exact hl.setne hd.ne.symm _
def sectorsOf (n:Int):Nat:=(if 0<(if 4096<n then 4096 else n) then (if 4096<n then 4096 else n) else 0).toNat
theorem sectorsOf_le (n:Int):sectorsOf n≤4096:=by unfold sectorsOf; split <;> split <;> omega
set_option maxRecDepth 20000 in
theorem new_call (n:Int) (h:∀ H' i jl, DevAt H' i jl i (newDev (sectorsOf n))→Fr [] H H'→H.next≤i→H.next≤jl→R (.ret (.pointer (some ⟨i, 0, none⟩))) H'):ACall Tryz.prog 9 [.int .i64 n] H R:=by
  apply f9_call
  unfold f9_B
  have hle:=sectorsOf_le n
  have hm:(if 0<(if 4096<n then 4096 else n) then (if 4096<n then 4096 else n) else 0)=((sectorsOf n:Nat):Int):=by unfold sectorsOf; split <;> split <;> omega
  rw [hm]
  generalize sectorsOf n=m at hle h
  refine wMk_at (by omega) (by omega) (by omega) (by omega) (wNew_at ?_)
  rw [Int.toNat_natCast, repl1]
  have hl:=Has.new H (.row (List.replicate m (.string ⟨#[]⟩)) 1)
  have hd:DevAt ((H.push (.row (List.replicate m (.string ⟨#[]⟩)) 1)).push (devRow H.next (H.push (.row (List.replicate m (.string ⟨#[]⟩)) 1)).next ⟨List.replicate m ByteArray.empty, [], false, 0, ⟨0, 0, 0⟩⟩))
      (H.push (.row (List.replicate m (.string ⟨#[]⟩)) 1)).next H.next (H.push (.row (List.replicate m (.string ⟨#[]⟩)) 1)).next ⟨List.replicate m ByteArray.empty, [], false, 0, ⟨0, 0, 0⟩⟩:=by
    refine ⟨Has.new _ _, ?_, fun e=>absurd rfl e, by rw [AH.next_push]; omega, fun _=>rfl, fun e=>absurd rfl e⟩
    have:strs (List.replicate m ByteArray.empty)=List.replicate m (.string ⟨#[]⟩):=by simp only [strs, List.map_replicate]; rfl
    show Has _ _ (.row (strs (List.replicate m ByteArray.empty)) 1)
    rw [this]
    exact hl.push _
  have hrow:devRow H.next (H.push (.row (List.replicate m (.string ⟨#[]⟩)) 1)).next ⟨List.replicate m ByteArray.empty, [], false, 0, ⟨0, 0, 0⟩⟩ =
      .row [.slice (some ⟨H.next, 0, none⟩) m 0, .slice none 0 0, .bool false, .int .i64 0, .int .u64 0, .int .i64 0, .int .i64 0] 0:=by
    simp [devRow, wval]
  rw [hrow] at hd
  refine wCall_of (fill_call hd (by simpa using hle) _ (fun H' hd' hf'=>?_))
  have e:(Dev.fill ⟨List.replicate m ByteArray.empty, [], false, 0, ⟨0, 0, 0⟩⟩ ⟨#[]⟩)=newDev m:=by
    simp only [Dev.fill, newDev, List.length_replicate]; rfl
  rw [e] at hd'
  exact h _ _ _ hd' ((((Fr.refl [] H).push _).push _).trans' hf' (fun j hj=>.inr (by
    rw [AH.next_push] at hj
    simp at hj; omega))) (by rw [AH.next_push]; omega) (Nat.le_refl _)
end
end Go.Proofs.YtjhbbbcelnlnpaaGreatDoor
namespace Go.Proofs.YtjhbbbcelnlnpaaGreatDoor
open Go.RowKit

theorem Dev.lost_len (d:Dev) (c:Cr) (h:d.OK):(d.lost c).lasts.length=d.lasts.length :=
  (loseN_ok (c:=c) h.lasts (fun w hw=>(h.waits w hw).2) d.waits.length (Nat.le_refl _)).1
theorem Dev.blow_len (d:Dev) (h:d.OK):d.blow.2.lasts.length=d.lasts.length:=by
  unfold Dev.blow
  split
  · rfl
  · split
    · rfl
    · exact d.lost_len _ h
theorem Dev.flush_len (d:Dev) (h:d.OK):d.flush.2.lasts.length=d.lasts.length:=by
  unfold Dev.flush
  split
  · rfl
  · split
    · exact d.blow_len h
    · exact (flushN_ok h.lasts (fun w hw=>(h.waits w hw).2) d.waits.length (Nat.le_refl _)).1
theorem Dev.write_len (d:Dev) (h:d.OK) (hm:d.waits.length<1099511627775) (k:Int) (s:ByteArray):(d.write k s).2.lasts.length=d.lasts.length:=by
  unfold Dev.write
  split
  · rfl
  · split
    · rfl
    · rename_i hk
      have h1:¬ k<0:=fun e=>hk (.inl e)
      have h2:¬ (d.lasts.length:Int)≤k:=fun e=>hk (.inr (.inl e))
      have h3:s.size=64:=Decidable.byContradiction fun e=>hk (.inr (.inr e))
      refine Dev.blow_len _ ⟨h.lasts, fun w hw=>?_, h.few, by simp; omega, h.left⟩
      rcases List.mem_append.1 hw with hw | hw
      · exact h.waits w hw
      · rw [List.mem_singleton] at hw
        subst hw
        exact ⟨by show k.toNat<d.lasts.length; omega, h3⟩

structure Fused (n done:Nat) (d f:Dev):Prop where
  off:d.off=false
  left:d.left=0
  dok:d.OK
  fok:f.OK
  dl:d.lasts.length=4
  fl:f.lasts.length=4
  same:done<n→f.off=false∧f.lasts=d.lasts∧f.waits=d.waits∧f.left=((n - done:Nat):Int)
  gone:n≤done→f.off=true
structure FStep (n done:Nat) (x y:Int) (d f:Dev):Prop where
  inv:Fused n done d f
  same:done<n→x=y∧d.waits.length=f.waits.length
  gone:n≤done→y=10
theorem blow_zero {d:Dev} (h:d.left=0):d.blow=(false, d):=by unfold Dev.blow; rw [if_pos h]
theorem blow_more {d:Dev} (h:1<d.left):d.blow=(false, { d with left:=d.left - 1 }):=by unfold Dev.blow; rw [if_neg (by omega), if_pos (by omega)]
theorem blow_one {d:Dev} (h:d.left=1):d.blow=(true, { d.lost d.crash with off:=true, left:=d.left - 1 }):=by unfold Dev.blow; rw [if_neg (by omega), if_neg (by omega)]

theorem flush_off {d:Dev} (h:d.off=true):d.flush=(10, d):=by unfold Dev.flush; rw [if_pos h]
theorem flush_zero {d:Dev} (h:d.off=false) (hl:d.left=0):d.flush=(0, { d with lasts:=flushN d.waits d.waits.length d.lasts, waits:=[] }):=by
  unfold Dev.flush; rw [if_neg (by rw [h]; simp), blow_zero hl, if_neg (by simp)]
theorem flush_more {d:Dev} (h:d.off=false) (hl:1<d.left):d.flush=(0, { d with lasts:=flushN d.waits d.waits.length d.lasts, waits:=[], left:=d.left - 1 }):=by
  unfold Dev.flush; rw [if_neg (by rw [h]; simp), blow_more hl, if_neg (by simp)]
theorem flush_one {d:Dev} (h:d.off=false) (hl:d.left=1):d.flush=(10, { d.lost d.crash with off:=true, left:=d.left - 1 }):=by
  unfold Dev.flush; rw [if_neg (by rw [h]; simp), blow_one hl, if_pos rfl]
abbrev BadW (d:Dev) (k:Int) (s:ByteArray):Prop:=k<0∨(d.lasts.length:Int)≤k∨s.size ≠ 64
abbrev Dev.more (d:Dev) (k:Int) (s:ByteArray):Dev:={ d with waits:=d.waits ++ [(k.toNat, s)] }
theorem write_off {d:Dev} {k:Int} {s:ByteArray} (h:d.off=true):d.write k s=(10, d):=by unfold Dev.write; rw [if_pos h]
theorem write_bad {d:Dev} {k:Int} {s:ByteArray} (h:d.off=false) (hb:BadW d k s):d.write k s=(2, d):=by unfold Dev.write; rw [if_neg (by rw [h]; simp), if_pos hb]
theorem write_zero {d:Dev} {k:Int} {s:ByteArray} (h:d.off=false) (hb:¬ BadW d k s) (hl:d.left=0):d.write k s=(0, d.more k s):=by
  unfold Dev.write; rw [if_neg (by rw [h]; simp), if_neg hb, blow_zero (d:=d.more k s) hl, if_neg (by simp)]
theorem write_more {d:Dev} {k:Int} {s:ByteArray} (h:d.off=false) (hb:¬ BadW d k s) (hl:1<d.left):d.write k s=(0, { d.more k s with left:=d.left - 1 }):=by
  unfold Dev.write; rw [if_neg (by rw [h]; simp), if_neg hb, blow_more (d:=d.more k s) hl, if_neg (by simp)]
theorem write_one {d:Dev} {k:Int} {s:ByteArray} (h:d.off=false) (hb:¬ BadW d k s) (hl:d.left=1):d.write k s=(10, { (d.more k s).lost d.crash with off:=true, left:=d.left - 1 }):=by
  unfold Dev.write; rw [if_neg (by rw [h]; simp), if_neg hb, blow_one (d:=d.more k s) hl, if_pos rfl]

theorem Fused.flush {n done:Nat} {d f:Dev} (h:Fused n done d f) (hn:n≤1000):d.flush.1=0∧FStep n (done + 1) d.flush.1 f.flush.1 d.flush.2 f.flush.2:=by
  have e1:=flush_zero h.off h.left
  have dl:=d.flush_len h.dok
  have fl:=f.flush_len h.fok
  have dok:=h.dok.flush
  have fok:=h.fok.flush
  refine ⟨by rw [e1], ?_⟩
  rw [e1] at dok dl ⊢
  by_cases c:done<n
  · obtain ⟨s1, s2, s3, s4⟩:=h.same c
    by_cases c2:done + 1<n
    · rw [flush_more s1 (by omega)] at fok fl ⊢
      refine ⟨⟨h.off, h.left, dok, fok, dl.trans h.dl, fl.trans h.fl, fun _=>⟨s1, by show flushN f.waits f.waits.length f.lasts=flushN d.waits d.waits.length d.lasts; rw [s2, s3], rfl, ?_⟩, fun e=>by omega⟩, fun _=>⟨rfl, rfl⟩, fun e=>by omega⟩
      show f.left - 1=_
      omega
    · rw [flush_one s1 (by omega)] at fok fl ⊢
      exact ⟨⟨h.off, h.left, dok, fok, dl.trans h.dl, fl.trans h.fl, fun e=>by omega, fun _=>rfl⟩, fun e=>by omega, fun _=>rfl⟩
  · have g:=h.gone (by omega)
    rw [flush_off g]
    exact ⟨⟨h.off, h.left, dok, h.fok, dl.trans h.dl, h.fl, fun e=>by omega, fun _=>g⟩, fun e=>by omega, fun _=>rfl⟩

theorem Fused.write {n done:Nat} {d f:Dev} (h:Fused n done d f) (hn:n≤1000) (hd:d.waits.length<1000) (hf:f.waits.length<1000) (k:Int) (s:ByteArray) :
    FStep n (if (d.write k s).1=0 then done + 1 else done) (d.write k s).1 (f.write k s).1 (d.write k s).2 (f.write k s).2:=by
  have dl:=d.write_len h.dok (by omega) k s
  have fl:=f.write_len h.fok (by omega) k s
  have dok:=h.dok.write (by omega) k s
  have fok:=h.fok.write (by omega) k s
  by_cases b:BadW d k s
  · have b2:BadW f k s:=by unfold BadW at b ⊢; rw [h.fl]; rw [h.dl] at b; exact b
    rw [write_bad h.off b] at dok dl ⊢
    rw [if_neg (by show ¬ (2:Int)=0; omega)]
    by_cases c:done<n
    · obtain ⟨s1, s2, s3, s4⟩:=h.same c
      rw [write_bad s1 b2]
      exact ⟨h, fun _=>⟨rfl, by rw [s3]⟩, fun e=>by omega⟩
    · rw [write_off (h.gone (by omega))]
      exact ⟨h, fun e=>by omega, fun _=>rfl⟩
  · have b2:¬ BadW f k s:=by unfold BadW at b ⊢; rw [h.fl]; rw [h.dl] at b; exact b
    rw [write_zero h.off b h.left] at dok dl ⊢
    rw [if_pos rfl]
    by_cases c:done<n
    · obtain ⟨s1, s2, s3, s4⟩:=h.same c
      by_cases c2:done + 1<n
      · rw [write_more s1 b2 (by omega)] at fok fl ⊢
        refine ⟨⟨h.off, h.left, dok, fok, dl.trans h.dl, fl.trans h.fl, fun _=>⟨s1, s2, by show f.waits ++ _=d.waits ++ _; rw [s3], ?_⟩, fun e=>by omega⟩, fun _=>⟨rfl, by show (d.waits ++ _).length=(f.waits ++ _).length; rw [s3]⟩, fun e=>by omega⟩
        show f.left - 1=_
        omega
      · rw [write_one s1 b2 (by omega)] at fok fl ⊢
        exact ⟨⟨h.off, h.left, dok, fok, dl.trans h.dl, fl.trans h.fl, fun e=>by omega, fun _=>rfl⟩, fun e=>by omega, fun _=>rfl⟩
    · have g:=h.gone (by omega)
      rw [write_off g]
      exact ⟨⟨h.off, h.left, dok, h.fok, dl.trans h.dl, h.fl, fun e=>by omega, fun _=>g⟩, fun e=>by omega, fun _=>rfl⟩

theorem Dev.blow_waits (d:Dev):d.blow.2.waits.length≤d.waits.length:=by
  unfold Dev.blow
  split
  · exact Nat.le_refl _
  · split
    · exact Nat.le_refl _
    · exact Nat.zero_le _
theorem Dev.write_waits (d:Dev) (k:Int) (s:ByteArray):(d.write k s).2.waits.length≤d.waits.length + 1:=by
  unfold Dev.write
  split
  · exact Nat.le_succ _
  · split
    · exact Nat.le_succ _
    · exact Nat.le_trans (Dev.blow_waits _) (by simp)
theorem Dev.flush_waits (d:Dev):d.flush.2.waits.length≤d.waits.length:=by
  unfold Dev.flush
  split
  · exact Nat.le_refl _
  · split
    · exact d.blow_waits
    · exact Nat.zero_le _
end Go.Proofs.YtjhbbbcelnlnpaaGreatDoor
namespace Go.Proofs.YtjhbbbcelnlnpaaGreatDoor
open Go.RowKit

def catL (l:List ByteArray):ByteArray:=ofL (l.map (·.data.toList)).flatten
theorem flat64_length:∀ (L:List (List UInt8)) (h:∀ x ∈ L, x.length=64), L.flatten.length=L.length * 64:=by
  intro L
  induction L with
  | nil=>intro h; rfl
  | cons x L ih =>
    intro h
    rw [List.flatten_cons, List.length_append, h x (by simp), ih (fun y hy=>h y (by simp [hy])), List.length_cons]
    omega
theorem catL_size (l:List ByteArray) (h:∀ s ∈ l, s.size=64):(catL l).size=l.length * 64:=by
  unfold catL
  rw [ofL_size, flat64_length _ (by
    intro x hx
    obtain ⟨s, hs, rfl⟩:=List.mem_map.1 hx
    rw [data_len]; exact h s hs), List.length_map]
end Go.Proofs.YtjhbbbcelnlnpaaGreatDoor
namespace Go.Proofs.YtjhbbbcelnlnpaaGreatDoor
open Go.RowKit

section
variable {P:Program}
end
end Go.Proofs.YtjhbbbcelnlnpaaGreatDoor
