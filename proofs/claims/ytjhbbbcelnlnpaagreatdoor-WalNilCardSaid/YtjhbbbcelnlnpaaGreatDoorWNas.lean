/- The frame's small functions. A unit's sectors. -/
import Derived.Test.YtjhbbbcelnlnpaaGreatDoorWNaq
import Derived.Test.YtjhbbbcelnlnpaaGreatDoorWNar
namespace Go.Proofs.YtjhbbbcelnlnpaaGreatDoor
open Go.RowKit

theorem PinOK_at {H:AH} {o k:Nat} {cells cs:List Value} {e:Nat} (h:Has H o (.row cs e)) (hl:k + cells.length≤cs.length) (hc:(cs.drop k).take cells.length=cells):PinOK o k cells H :=
  ⟨cs, by simp only [AH.cells, h.get], hl, hc⟩
theorem wb64 (n i:Nat) (hn:n<18446744073709551616) (hi:i<8):IntKind.u8.wrap (Int.fdiv (n:Int) (2 ^ (min (Int.toNat (IntKind.i64.wrap (8 * (i:Int)))) IntKind.u64.bits)))=((UInt8.ofNat (n / 256 ^ i)).toNat:Int):=by
  rw [wi _ (by omega) (by omega), show (8 * (i:Int))=((8 * i:Nat):Int) by omega, shr_nat n (8 * i) _ (by show 8 * i≤64; omega), wb, Nat.pow_mul]
theorem bcells_setIdx (l:List UInt8) (k:Nat) (x:UInt8) {v:Int} (h:v=(x.toNat:Int)):setCells (bcells l) k [.int .u8 v]=bcells (l.set k x):=by rw [h]; exact bcells_set l k x
theorem be_fill (size n i:Nat) (l:List UInt8) (h:i<size) (hl:l.length=size) (hd:l.drop (size - i)=(be size n).drop (size - i)) :
    (l.set (size - 1 - i) (UInt8.ofNat (n / 256 ^ i))).drop (size - (i + 1))=(be size n).drop (size - (i + 1)):=by
  have e:size - (i + 1)=size - 1 - i:=by omega
  rw [e]
  have hb:=be_at size n i h
  have hlt:size - 1 - i<(be size n).length:=by rw [be_length]; omega
  rw [List.drop_eq_getElem_cons hlt, List.drop_eq_getElem_cons (by rw [List.length_set]; omega)]
  have hb2:(be size n)[size - 1 - i]=UInt8.ofNat (n / 256 ^ i):=by
    rw [List.getElem?_eq_getElem hlt] at hb
    exact Option.some.inj hb
  rw [hb2, List.getElem_set_self, List.drop_set_of_lt (by omega), show size - 1 - i + 1=size - i by omega, hd]

section
variable {H:AH} {R:AEnd→AH→Prop}
set_option maxRecDepth 20000 in
theorem fixed_call (n size:Nat) (hn:n<18446744073709551616) (hs:size≤8) (h:∀ H', Fr [] H H'→R (.ret (.string (ofL (be size n)))) H'):ACall Tryz.prog 76 [.int .u64 (n:Int), .int .i64 (size:Int)] H R:=by
  apply f76_call
  unfold f76_B
  refine wMk_at (by omega) (by omega) (by omega) (by omega) ?_
  rw [bcells_rep, Int.toNat_natCast]
  have hb:=Has.new H (.row (bcells (List.replicate size 0)) 1)
  have f0:Fr [] H (H.push (.row (bcells (List.replicate size 0)) 1)):=(Fr.refl [] H).push _
  have hge:H.next≤H.next:=Nat.le_refl _
  generalize H.push (.row (bcells (List.replicate size 0)) 1)=H1 at hb f0 ⊢
  generalize ho:H.next=o at hb
  refine f76_L0_rule (J:=fun m s11 H'=>∃ (i:Nat) (l:List UInt8), i≤size∧m=size - i∧s11=(i:Int)∧l.length=size∧l.drop (size - i)=(be size n).drop (size - i)∧Has H' o (.row (bcells l) 1)∧Fr [] H H') size
    ⟨0, List.replicate size 0, by omega, by omega, rfl, by simp, by rw [Nat.sub_zero, List.drop_of_length_le (by simp), List.drop_of_length_le (by rw [be_length]; omega)], hb, f0⟩ ?_
  rintro m s11 H2 ⟨i, l, hi, rfl, rfl, hl, hd, hb2, f2⟩
  intros
  unfold f76_R0
  refine wIf_d (fun hlt=>?_) (fun hlt=>?_)
  · have hlt:i<size:=by omega
    have e1:IntKind.i64.wrap (8 * (i:Int))=8 * (i:Int):=wi _ (by omega) (by omega)
    have e2:IntKind.i64.wrap (IntKind.i64.wrap ((size:Int) - 1) - (i:Int))=((size - 1 - i:Nat):Int):=by rw [wi ((size:Int) - 1) (by omega) (by omega), wi _ (by omega) (by omega)]; omega
    refine wNn_at (by rw [e1]; omega) ?_
    rw [e2]
    refine wIx_at (by omega) (by omega) (wSt_at hb2 (by rw [bcells_length]; simp; omega) ?_)
    have e3:setCells (bcells l) (0 + ((size - 1 - i:Nat):Int).toNat * 1) [.int .u8 (IntKind.u8.wrap (Int.fdiv (n:Int) (2 ^ (min (Int.toNat (IntKind.i64.wrap (8 * (i:Int)))) IntKind.u64.bits))))]=bcells (l.set (size - 1 - i) (UInt8.ofNat (n / 256 ^ i))):=by
      rw [Int.toNat_natCast, Nat.zero_add, Nat.mul_one]
      exact bcells_setIdx _ _ _ (wb64 n i hn (by omega))
    rw [e3]
    exact ⟨size - (i + 1), by omega, f76_I0_mk ⟨i + 1, _, by omega, rfl, wi1 i (by omega), by rw [List.length_set]; exact hl, be_fill size n i l hlt hl hd, hb2.set _, f2.set (.inr (by omega)) _⟩⟩
  · have:i=size:=by omega
    subst this
    rw [Nat.sub_self, List.drop_zero, List.drop_zero] at hd
    subst hd
    rw [f76_J0_eq]
    unfold f76_J0_B
    exact wB2S_at hb2 (by rw [be_length]) (h _ f2)
theorem or_word (a:Nat) (c:UInt8) (ha:a<72057594037927936) :
    IntKind.u64.wrap ((BitVec.ofInt IntKind.u64.bits (IntKind.u64.wrap ((a:Int) * (2 ^ (min (Int.toNat 8) IntKind.u64.bits))))) ||| (BitVec.ofInt IntKind.u64.bits (IntKind.u64.wrap (c.toNat:Int)))).toNat=((a * 256 + c.toNat:Nat):Int):=by
  have hc:=UInt8.toNat_lt c
  have e1:IntKind.u64.wrap ((a:Int) * (2 ^ (min (Int.toNat 8) IntKind.u64.bits)))=((a * 256:Nat):Int):=by
    show IntKind.u64.wrap ((a:Int) * 2 ^ 8)=_
    rw [show (a:Int) * 2 ^ 8=((a * 256:Nat):Int) by omega, wu _ (by omega)]
  rw [e1, wu c.toNat (by omega), u64_or _ _ (by omega) (by omega)]
  have:=Nat.shiftLeft_add_eq_or_of_lt (i:=8) (b:=c.toNat) (by omega) a
  rw [Nat.shiftLeft_eq] at this
  rw [← this]
theorem nval_take (l:List UInt8) (k:Nat) (h:k<l.length):nval (l.take (k + 1))=nval (l.take k) * 256 + (l.getD k 0).toNat:=by
  rw [List.take_succ_eq_append_getElem h, nval_snoc, List.getD_eq_getElem?_getD, List.getElem?_eq_getElem h]; rfl
theorem nval8 {l:List UInt8} (h:l.length≤8):nval l<18446744073709551616:=by
  have h1:=nval_lt l
  have h2:256 ^ l.length≤256 ^ 8:=Nat.pow_le_pow_right (by omega) h
  omega
theorem nval7 {l:List UInt8} (h:l.length≤7):nval l<72057594037927936:=by
  have h1:=nval_lt l
  have h2:256 ^ l.length≤256 ^ 7:=Nat.pow_le_pow_right (by omega) h
  omega
set_option maxRecDepth 20000 in
theorem number_call (s:ByteArray) (hs:s.size≤8) (h:∀ H', Fr [] H H'→R (.ret (.int .u64 ((nval s.data.toList:Nat):Int))) H'):ACall Tryz.prog 87 [.string s] H R:=by
  apply f87_call
  unfold f87_B
  refine wS2B_at (by omega) ?_
  have hb:=Has.new H (.row (byteCells s) 1)
  have f0:Fr [] H (H.push (.row (byteCells s) 1)):=(Fr.refl [] H).push _
  rw [byteCells_eq] at hb f0 ⊢
  generalize H.push (.row (bcells s.data.toList) 1)=H1 at hb f0 ⊢
  generalize H.next=o at hb
  have hlen:=data_len s
  refine f87_L0_rule (J:=fun n x3 x9 H'=>∃ k:Nat, k≤s.size∧n=s.size - k∧x9=(k:Int)∧x3=((nval (s.data.toList.take k):Nat):Int)∧H'=H1) s.size
    ⟨0, by omega, by omega, rfl, rfl, rfl⟩ ?_
  rintro n x3 x9 H' ⟨k, hk, rfl, rfl, rfl, rfl⟩
  intros
  unfold f87_R0
  refine wIf_d (fun hlt=>?_) (fun hlt=>?_)
  · have hlt:k<s.size:=by omega
    refine wIx_at (by omega) (by omega) (ldI_at hb (byteCells_at' s k hlt) ?_)
    rw [or_word _ _ (nval7 (by rw [List.length_take]; omega))]
    exact ⟨s.size - (k + 1), by omega, f87_I0_mk ⟨k + 1, by omega, rfl, wi1 k (by omega), by rw [nval_take _ _ (by omega)], rfl⟩⟩
  · have:k=s.size:=by omega
    subst this
    rw [List.take_of_length_le (by omega)]
    exact h _ f0
/-! What the library does. -/
theorem rep_zero (n:Nat):Lib.repeatL [0] n=List.replicate n 0:=by
  induction n with
  | zero=>rfl
  | succ n ih=>show 0 :: Lib.repeatL [0] n=_; rw [ih, List.replicate_succ]
theorem repeat_call (n:Nat) (hn:n≤1000) (hR:R (.ret (.string (ofL (List.replicate n 0)))) H):ACall Tryz.prog 77 [.string ⟨#[0]⟩, .int .i64 (n:Int)] H R:=by
  refine acall_keep _ ?_ hR
  intro B w0 μ w cargs hr ha
  obtain ⟨hs, hat⟩:=ha
  obtain ⟨c0, h0, hv0⟩:=hat 0 _ rfl
  obtain ⟨c1, h1, hv1⟩:=hat 1 _ rfl
  cases hv0
  cases hv1
  obtain rfl:cargs=#[.string ⟨#[0]⟩, .int .i64 (n:Int)]:=by
    apply Array.ext (by simpa using hs.symm)
    intro i hi hj
    have:i=0∨i=1:=by simp at hj; omega
    rcases this with rfl | rfl
    · have:=(Array.getElem?_eq_some_iff.1 h0).2; simpa using this
    · have:=(Array.getElem?_eq_some_iff.1 h1).2; simpa using this
  refine (Shl.strings_Repeat ⟨#[0]⟩ n w (by omega) (by show 1 * n≤_; omega)).mono ?_
  rintro e w' ⟨rfl, hb⟩
  have e:Lib.repeatL (⟨#[0]⟩:ByteArray).data.toList n=List.replicate n 0:=rep_zero n
  rw [e]
  exact ⟨⟨_, rfl, .string _⟩, hb⟩
theorem trim_call (s:ByteArray) (hs:s.size≤9223372036854775807) (hR:R (.ret (.string (ofL (Lib.trimB s.data.toList 0)))) H):ACall Tryz.prog 88 [.string s, .string ⟨#[0]⟩] H R:=by
  refine acall_keep _ ?_ hR
  intro B w0 μ w cargs hr ha
  obtain ⟨hz, hat⟩:=ha
  obtain ⟨c0, h0, hv0⟩:=hat 0 _ rfl
  obtain ⟨c1, h1, hv1⟩:=hat 1 _ rfl
  cases hv0
  cases hv1
  obtain rfl:cargs=#[.string s, .string ⟨#[0]⟩]:=by
    apply Array.ext (by simpa using hz.symm)
    intro i hi hj
    have:i=0∨i=1:=by simp at hj; omega
    rcases this with rfl | rfl
    · have:=(Array.getElem?_eq_some_iff.1 h0).2; simpa using this
    · have:=(Array.getElem?_eq_some_iff.1 h1).2; simpa using this
  refine (Shl.strings_Trim_one s 0 (by decide) w hs).mono ?_
  rintro e w' ⟨rfl, hb⟩
  refine ⟨⟨_, rfl, .string _⟩, ?_⟩
  rcases hb with rfl | rfl
  · exact Below.refl _ _
  · exact (Below.refl _ _).drew
end
end Go.Proofs.YtjhbbbcelnlnpaaGreatDoor
namespace Go.Proofs.YtjhbbbcelnlnpaaGreatDoor
open Go.RowKit

def padN (n:Nat):Nat:=(64 - n % 64) % 64
def padL (l:List UInt8):List UInt8:=l ++ List.replicate (padN l.length) 0
def unitL (sr sq kd:Nat) (body:List UInt8):List UInt8:=be 4 sr ++ be 8 sq ++ be 1 kd ++ be 4 body.length ++ body
def sumL (l:List UInt8):Nat:=(crcSum (ofL l)).toNat
def sectL (sr sq kd:Nat) (body:List UInt8):List UInt8:=padL (be 4 (sumL (unitL sr sq kd body)) ++ unitL sr sq kd body)
def putU (sr sq:Nat) (kd:Int) (body:ByteArray):ByteArray × Int :=
  if 1048576<body.size then (ByteArray.empty, 5) else if kd<0∨255<kd then (ByteArray.empty, 2) else (ofL (sectL sr sq kd.toNat body.data.toList), 0)
def secsN (n:Int):Nat:=if n<0∨1048576<n then 0 else (n.toNat + 84) / 64
theorem unitL_length (sr sq kd:Nat) (body:List UInt8):(unitL sr sq kd body).length=17 + body.length:=by
  unfold unitL; simp only [List.length_append, be_length]
theorem padN_lt (n:Nat):padN n<64:=by unfold padN; omega
theorem padL_length (l:List UInt8):(padL l).length=l.length + padN l.length:=by unfold padL; simp
theorem sumL_lt (l:List UInt8):sumL l<4294967296:=(crcSum (ofL l)).isLt
theorem sectL_length (sr sq kd:Nat) (body:List UInt8) (h:body.length≤1048576):(sectL sr sq kd body).length=64 * secsN body.length:=by
  unfold sectL
  rw [padL_length, List.length_append, be_length, unitL_length]
  unfold padN secsN
  rw [if_neg (by omega)]
  omega

section
variable {H:AH} {R:AEnd→AH→Prop}
theorem padded_call (l:List UInt8) (hl:l.length≤140737488355328) (h:R (.ret (.string (ofL (padL l)))) H):ACall Tryz.prog 79 [.string (ofL l)] H R:=by
  apply f79_call
  unfold f79_B
  have hp:=padN_lt l.length
  have e:Int.tmod (IntKind.i64.wrap (64 - (Int.tmod ((ofL l).size:Int) 64))) 64=((padN l.length:Nat):Int):=by
    rw [ofL_size]
    have e1:Int.tmod ((l.length:Nat):Int) 64=((l.length % 64:Nat):Int):=rfl
    rw [e1, wi _ (by omega) (by omega), show (64:Int) - ((l.length % 64:Nat):Int)=((64 - l.length % 64:Nat):Int) by omega]
    rfl
  rw [e]
  refine wCall_of (repeat_call _ (by omega) (opS_at (wCat_at (by rw [ofL_size, ofL_size]; simp; omega) ?_)))
  rw [ofL_append]
  exact h
theorem sectors_call (n:Int) (h:R (.ret (.int .i64 ((secsN n:Nat):Int))) H):ACall Tryz.prog 48 [.int .i64 n] H R:=by
  apply f48_call
  unfold f48_B
  unfold secsN at h
  refine wIf_d (fun e=>?_) (fun e=>?_)
  · rw [if_pos (.inl e)] at h
    rw [f48_J0_eq]
    unfold f48_J0_B
    exact wIf_t rfl h
  · rw [f48_J0_eq]
    unfold f48_J0_B
    refine wIf_d (fun e2=>?_) (fun e2=>?_)
    · rw [if_pos (.inr e2)] at h
      exact h
    · rw [if_neg (by omega)] at h
      rw [f48_J1_eq]
      unfold f48_J1_B
      have e3:IntKind.i64.wrap (Int.tdiv (IntKind.i64.wrap ((IntKind.i64.wrap ((IntKind.i64.wrap (n + 21)) + 64)) - 1)) 64)=(((n.toNat + 84) / 64:Nat):Int):=by
        rw [wi (n + 21) (by omega) (by omega), wi (n + 21 + 64) (by omega) (by omega), wi (n + 21 + 64 - 1) (by omega) (by omega), Int.tdiv_eq_ediv_of_nonneg (by omega), wi _ (by omega) (by omega)]
        omega
      rw [e3]
      exact h
abbrev unitC (sr sq:Nat) (kd:Int) (body:ByteArray):List Value:=[.int .u32 (sr:Int), .int .u64 (sq:Int), .int .i64 kd, .string body]
set_option maxRecDepth 20000 in
theorem put_call (sr sq:Nat) (kd:Int) (body:ByteArray) (h1:sr<4294967296) (h2:sq<18446744073709551616) (h:∀ H', Fr [] H H'→R (.ret (.tuple #[.string (putU sr sq kd body).1, .int .i64 (putU sr sq kd body).2])) H') :
    ACall Tryz.prog 50 [.agg (unitC sr sq kd body).toArray] H R:=by
  apply f50_call
  unfold f50_B
  unfold putU at h
  refine wNew_at ?_
  have hb:=Has.new H (.row (unitC sr sq kd body) 0)
  have f0:Fr [] H (H.push (.row (unitC sr sq kd body) 0)):=(Fr.refl [] H).push _
  generalize H.push (.row (unitC sr sq kd body) 0)=H1 at hb f0 ⊢
  generalize H.next=o at hb
  refine ldS_at hb rfl (wIf_d (fun c1=>?_) (fun c1=>?_))
  · rw [if_pos (by omega)] at h
    exact h _ f0
  · rw [if_neg (by omega)] at h
    refine ldI_at hb rfl (wIf_d (fun c2=>?_) (fun c2=>?_))
    · rw [if_pos (.inl c2)] at h
      rw [f50_J0_eq]
      unfold f50_J0_B
      exact wIf_t rfl (h _ f0)
    · refine ldI_at hb rfl ?_
      rw [f50_J0_eq]
      unfold f50_J0_B
      refine wIf_d (fun c3=>?_) (fun c3=>?_)
      · rw [if_pos (.inr c3)] at h
        exact h _ f0
      · rw [if_neg (by omega)] at h
        rw [f50_J1_eq]
        unfold f50_J1_B
        have e1:IntKind.u64.wrap (sr:Int)=(sr:Int):=wu _ (by omega)
        have e2:IntKind.u64.wrap kd=((kd.toNat:Nat):Int):=by rw [show kd=((kd.toNat:Nat):Int) by omega, wu _ (by omega)]; simp
        have e3:IntKind.u64.wrap (body.size:Int)=(body.size:Int):=wu _ (by omega)
        have hsz:=data_len body
        refine wPt_at (wPt_at (wPt_at (wPt_at (wPt_at (ldI_at hb rfl (ldI_at hb rfl (ldI_at hb rfl (ldS_at hb rfl (ldS_at hb rfl ?_)))))))))
        rw [e1, e2, e3]
        refine wCall_of (fixed_call sr 4 (by omega) (by omega) (fun H2 f2=>opS_at ?_))
        have hb2:=hb.fr f2 (by simp)
        refine ⟨PinOK_at hb2 (by simp) rfl, PinOK_at hb2 (by simp) rfl, PinOK_at hb2 (by simp) rfl, PinOK_at hb2 (by simp) rfl, PinOK_at hb2 (by simp) rfl, ?_⟩
        refine wCall_of (fixed_call sq 8 (by omega) (by omega) (fun H3 f3=>opS_at ?_))
        have hb3:=hb2.fr f3 (by simp)
        refine ⟨PinOK_at hb3 (by simp) rfl, PinOK_at hb3 (by simp) rfl, PinOK_at hb3 (by simp) rfl, PinOK_at hb3 (by simp) rfl, wCat_at (by rw [ofL_size, ofL_size, be_length, be_length]; omega) ?_⟩
        refine wCall_of (fixed_call kd.toNat 1 (by omega) (by omega) (fun H4 f4=>opS_at ?_))
        have hb4:=hb3.fr f4 (by simp)
        refine ⟨PinOK_at hb4 (by simp) rfl, PinOK_at hb4 (by simp) rfl, PinOK_at hb4 (by simp) rfl, PinOK_at hb4 (by simp) rfl, wCat_at (by rw [ofL_append, ofL_size, ofL_size]; simp only [List.length_append, be_length]; omega) ?_⟩
        refine wCall_of (fixed_call body.size 4 (by omega) (by omega) (fun H5 f5=>opS_at ?_))
        have hb5:=hb4.fr f5 (by simp)
        refine ⟨PinOK_at hb5 (by simp) rfl, PinOK_at hb5 (by simp) rfl, PinOK_at hb5 (by simp) rfl, PinOK_at hb5 (by simp) rfl, wCat_at (by rw [ofL_append, ofL_append, ofL_size, ofL_size]; simp only [List.length_append, be_length]; omega) (wCat_at (by rw [ofL_append, ofL_append, ofL_append, ofL_size]; simp only [List.length_append, be_length]; omega) ?_)⟩
        have f05:=(((f0.trans f2).trans f3).trans f4).trans f5
        have eu:ofL (be 4 sr) ++ ofL (be 8 sq) ++ ofL (be 1 kd.toNat) ++ ofL (be 4 body.size) ++ body=ofL (unitL sr sq kd.toNat body.data.toList):=by
          unfold unitL
          rw [data_len, ← ofL_append, ← ofL_append, ← ofL_append, ← ofL_append, ofL_data]
        rw [eu, f50_J2_eq]
        unfold f50_J2_B
        have hul:=unitL_length sr sq kd.toNat body.data.toList
        have hsl:=sumL_lt (unitL sr sq kd.toNat body.data.toList)
        refine wCall_of (sum_call _ (by rw [ofL_size]; omega) (fun H6 f6=>opI_at ?_))
        have e4:IntKind.u64.wrap (((crcSum (ofL (unitL sr sq kd.toNat body.data.toList))).toNat:Nat):Int)=((sumL (unitL sr sq kd.toNat body.data.toList):Nat):Int):=wu _ (by unfold sumL at hsl; omega)
        rw [e4]
        refine wCall_of (fixed_call _ 4 (by omega) (by omega) (fun H7 f7=>opS_at (wCat_at (by rw [ofL_size, ofL_size, be_length]; omega) ?_)))
        rw [ofL_append]
        refine wCall_of (padded_call _ (by rw [List.length_append, be_length]; omega) (opS_at ?_))
        exact h _ ((f05.trans f6).trans f7)
end
end Go.Proofs.YtjhbbbcelnlnpaaGreatDoor
