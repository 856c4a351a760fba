/- Bodies of functions as nested rules: printed by genw.py,a program of this claim. Rows that a function grows itself; bytes; words as natural numbers. The register of the checksum as words: a step is linear, so is what is made of steps. Plain Lean, no program. The sums of bytes: the program's and the document's. Numbers as bytes, the highest first: plain facts. Contracts of the library as calls of the abstract memory. -/
import Derived.Test.YtjhbbbcelnlnpaaGreatDoorWNap
import Derived.Test.YtjhbbbcelnlnpaaGreatDoorWNao
import Derived.Lib.Join
namespace Go.Proofs.YtjhbbbcelnlnpaaGreatDoor
open Go.RowKit
set_option maxRecDepth 100000

end Go.Proofs.YtjhbbbcelnlnpaaGreatDoor
namespace Go.Proofs.YtjhbbbcelnlnpaaGreatDoor
open Go.RowKit

/-! Bytes as cells. -/
def bcells (l:List UInt8):List Value:=l.map fun b=>.int .u8 b.toNat
def ofL (l:List UInt8):ByteArray:=⟨l.toArray⟩
theorem bcells_all (l:List UInt8):(bcells l).all isByte=true:=by
  rw [List.all_eq_true]; intro v hv
  obtain ⟨b, _, rfl⟩:=List.mem_map.1 hv
  rfl
theorem bcells_one (l:List UInt8):(bcells l).all oneCell=true:=by
  rw [List.all_eq_true]; intro v hv
  obtain ⟨b, _, rfl⟩:=List.mem_map.1 hv
  rfl
theorem bcells_bytes (l:List UInt8):bytesOfCells (bcells l)=ofL l:=by
  unfold bytesOfCells bcells ofL
  rw [List.map_map]
  congr 2
  refine (List.map_congr_left fun b _=>?_).trans (List.map_id l)
  show UInt8.ofNat (b.toNat:Int).toNat=b
  simp
theorem bcells_length (l:List UInt8):(bcells l).length=l.length:=by simp [bcells]
theorem bcells_rep (n:Nat):repl [.int .u8 0] n=bcells (List.replicate n 0):=by rw [repl1]; simp [bcells]
theorem bcells_take (l:List UInt8) (n:Nat):(bcells l).take n=bcells (l.take n):=by simp [bcells, List.map_take]
theorem bcells_app (a b:List UInt8):bcells a ++ bcells b=bcells (a ++ b):=by simp [bcells]
theorem bcells_set (l:List UInt8) (k:Nat) (x:UInt8):setCells (bcells l) k [.int .u8 x.toNat]=bcells (l.set k x):=by simp [setCells, bcells, List.map_set]
theorem byteCells_eq (s:ByteArray):byteCells s=bcells s.data.toList:=rfl
theorem ofL_size (l:List UInt8):(ofL l).size=l.length:=by simp [ofL, ByteArray.size]
theorem ofL_append (a b:List UInt8):ofL a ++ ofL b=ofL (a ++ b):=by
  apply ByteArray.ext
  simp [ofL]
theorem ofL_data (s:ByteArray):ofL s.data.toList=s:=by cases s; rfl
theorem data_len (s:ByteArray):s.data.toList.length=s.size:=by simp
theorem setCells_app (vs:List Value):∀ (p r:List Value), vs.length≤r.length→setCells (p ++ r) p.length vs=p ++ vs ++ r.drop vs.length:=by
  induction vs with
  | nil=>intro p r _; simp [setCells]
  | cons v vs ih =>
    intro p r h
    cases r with
    | nil=>simp at h
    | cons x r =>
      have:(p ++ x :: r).set p.length v=(p ++ [v]) ++ r:=by simp
      simp only [setCells, this]
      have:=ih (p ++ [v]) r (by simpa using h)
      rw [List.length_append] at this
      simp only [List.length_cons, List.length_nil, Nat.zero_add] at this
      rw [this]
      simp

theorem sliceCells_new (H:AH) (cs:List Value) (esz n c:Nat) (hl:n * esz=cs.length) {o:Nat} (h:Has H o (.row cs esz)):sliceCells H esz (.slice (some ⟨o, 0, none⟩) n c)=some cs:=by
  simp only [sliceCells, AH.cells, h.get]
  rw [if_pos (by omega), hl]
  simp
theorem wB2S_at {H:AH} {o n:Nat} {l:List UInt8} {K:ByteArray→Prop} (h:Has H o (.row (bcells l) 1)) (hl:n=l.length) (hk:K (ofL l)):wB2S (some ⟨o, 0, none⟩) n 0 H K:=by
  unfold wB2S
  rw [sliceCells_new H (bcells l) 1 n 0 (by rw [bcells_length]; omega) h]
  exact ⟨bcells_all l, by rw [bcells_bytes]; exact hk⟩
/-! A row of the function's own, of which a slice is the whole; c0 is the memory in which the function began. -/
def OwnC (c0:Nat) (H:AH) (esz:Nat) (b:Option Addr) (l c:Nat) (cs:List Value):Prop :=
  (b=none∧l=0∧c=0∧cs=[])∨∃ o, b=some ⟨o, 0, none⟩∧c=0∧l * esz=cs.length∧Has H o (.row cs esz)∧c0≤o
theorem OwnC.nil (c0:Nat) (H:AH) (esz:Nat):OwnC c0 H esz none 0 0 []:=.inl ⟨rfl, rfl, rfl, rfl⟩
theorem OwnC.fr {c0:Nat} {H H':AH} {esz:Nat} {b:Option Addr} {l c:Nat} {cs:List Value} {S:List Nat} (h:OwnC c0 H esz b l c cs) (x:Fr S H H') (hs:∀ i ∈ S, i<c0):OwnC c0 H' esz b l c cs:=by
  rcases h with h | ⟨o, h1, h2, h3, h4, h5⟩
  · exact .inl h
  · exact .inr ⟨o, h1, h2, h3, h4.fr x (fun e=>by have:=hs o e; omega), h5⟩
theorem OwnC.len {c0:Nat} {H:AH} {esz:Nat} {b:Option Addr} {l c:Nat} {cs:List Value} (h:OwnC c0 H esz b l c cs):l * esz=cs.length:=by
  rcases h with ⟨_, rfl, _, rfl⟩ | ⟨o, _, _, h3, _⟩
  · simp
  · exact h3
/-! Words. -/
theorem wrap32_eq (n:Int):IntKind.u32.wrap n=n % 4294967296:=by simp [IntKind.wrap, IntKind.bits, IntKind.signed]
theorem wrapu64_eq (n:Int):IntKind.u64.wrap n=n % 18446744073709551616:=by simp [IntKind.wrap, IntKind.bits, IntKind.signed]
theorem wrapu8_eq (n:Int):IntKind.u8.wrap n=n % 256:=by simp [IntKind.wrap, IntKind.bits, IntKind.signed]
theorem wrapi64_eq (n:Int):IntKind.i64.wrap n=if 9223372036854775808≤n % 18446744073709551616 then n % 18446744073709551616 - 18446744073709551616 else n % 18446744073709551616:=by
  simp [IntKind.wrap, IntKind.bits, IntKind.signed]
theorem wi (n:Int) (h:-9223372036854775808≤n) (h':n≤9223372036854775807):IntKind.i64.wrap n=n:=by
  rw [wrapi64_eq]; split <;> omega
theorem wi1 (k:Nat) (h:k<4611686018427387904):IntKind.i64.wrap ((k:Int) + 1)=((k + 1:Nat):Int):=by rw [wi _ (by omega) (by omega)]; omega
theorem wu (n:Nat) (h:n<18446744073709551616):IntKind.u64.wrap (n:Int)=n:=by rw [wrapu64_eq]; omega
theorem wb (n:Nat):IntKind.u8.wrap (n:Int)=((UInt8.ofNat n).toNat:Int):=by rw [wrapu8_eq, UInt8.toNat_ofNat']; omega
theorem ofInt_nat (w n:Nat):BitVec.ofInt w (n:Int)=BitVec.ofNat w n:=by simp
theorem u64_or (a b:Nat) (ha:a<18446744073709551616) (hb:b<18446744073709551616):IntKind.u64.wrap ((BitVec.ofInt IntKind.u64.bits (a:Int)) ||| (BitVec.ofInt IntKind.u64.bits (b:Int))).toNat=((a ||| b:Nat):Int):=by
  show IntKind.u64.wrap ((BitVec.ofInt 64 (a:Int)) ||| (BitVec.ofInt 64 (b:Int))).toNat=_
  rw [ofInt_nat, ofInt_nat, BitVec.toNat_or, BitVec.toNat_ofNat, BitVec.toNat_ofNat, Nat.mod_eq_of_lt (by omega), Nat.mod_eq_of_lt (by omega), wu _ (Nat.or_lt_two_pow (n:=64) ha hb)]
theorem shr_nat (a k:Nat) (B:Nat) (hk:k≤B):Int.fdiv (a:Int) (2 ^ (min (Int.toNat (k:Int)) B))=((a / 2 ^ k:Nat):Int):=by
  rw [Int.toNat_natCast, Nat.min_eq_left hk, Int.fdiv_eq_ediv_of_nonneg _ (Int.pow_nonneg (by omega))]
  simp
end Go.Proofs.YtjhbbbcelnlnpaaGreatDoor
namespace Go.Proofs.YtjhbbbcelnlnpaaGreatDoor

def poly:BitVec 32:=0x82F63B78#32
def crcStep (b:BitVec 32):BitVec 32:=(b >>> 1) ^^^ (poly &&& -(b &&& 1#32))
def steps:Nat→BitVec 32→BitVec 32
  | 0, b=>b
  | n + 1, b=>steps n (crcStep b)
theorem steps_succ (n:Nat) (b:BitVec 32):steps (n + 1) b=crcStep (steps n b):=by
  induction n generalizing b with
  | zero=>rfl
  | succ n ih=>exact ih (crcStep b)
def one:BitVec 32:=0x80000000#32
def byteStep (r:BitVec 32) (c:UInt8):BitVec 32:=steps 8 (r ^^^ BitVec.ofNat 32 c.toNat)
def fold (r:BitVec 32) (l:List UInt8):BitVec 32:=l.foldl byteStep r
def crcSum (s:ByteArray):BitVec 32 := ~~~ (fold 0xFFFFFFFF#32 s.data.toList)
theorem not_xor (a:BitVec 32) : ~~~ a=a ^^^ 0xFFFFFFFF#32:=by
  have:(0xFFFFFFFF#32)=BitVec.allOnes 32:=by decide
  rw [this, BitVec.xor_allOnes]

/-! What is turned within four bytes in a row. -/
def b32 (c:UInt8):BitVec 32:=BitVec.ofNat 32 c.toNat
end Go.Proofs.YtjhbbbcelnlnpaaGreatDoor
namespace Go.Proofs.YtjhbbbcelnlnpaaGreatDoor
open Go.RowKit

/-! Words of 32 bits. -/
theorem w32 (x:BitVec 32):IntKind.u32.wrap ((x.toNat:Nat):Int)=((x.toNat:Nat):Int):=by rw [wrap32_eq]; have:=x.isLt; omega
theorem u32_xor {x y:Int} {a b:BitVec 32} (hx:x=((a.toNat:Nat):Int)) (hy:y=((b.toNat:Nat):Int)) :
    IntKind.u32.wrap ((BitVec.ofInt IntKind.u32.bits x) ^^^ (BitVec.ofInt IntKind.u32.bits y)).toNat=(((a ^^^ b).toNat:Nat):Int):=by
  subst hx; subst hy
  show IntKind.u32.wrap ((BitVec.ofInt 32 ((a.toNat:Nat):Int)) ^^^ (BitVec.ofInt 32 ((b.toNat:Nat):Int))).toNat=_
  rw [show BitVec.ofInt 32 ((a.toNat:Nat):Int)=a by simp, show BitVec.ofInt 32 ((b.toNat:Nat):Int)=b by simp, w32]
theorem u32_and {x y:Int} {a b:BitVec 32} (hx:x=((a.toNat:Nat):Int)) (hy:y=((b.toNat:Nat):Int)) :
    IntKind.u32.wrap ((BitVec.ofInt IntKind.u32.bits x) &&& (BitVec.ofInt IntKind.u32.bits y)).toNat=(((a &&& b).toNat:Nat):Int):=by
  subst hx; subst hy
  show IntKind.u32.wrap ((BitVec.ofInt 32 ((a.toNat:Nat):Int)) &&& (BitVec.ofInt 32 ((b.toNat:Nat):Int))).toNat=_
  rw [show BitVec.ofInt 32 ((a.toNat:Nat):Int)=a by simp, show BitVec.ofInt 32 ((b.toNat:Nat):Int)=b by simp, w32]
theorem u32_shr1 (b:BitVec 32):Int.fdiv ((b.toNat:Nat):Int) (2 ^ (min (Int.toNat 1) IntKind.u32.bits))=(((b >>> 1).toNat:Nat):Int):=by
  show Int.fdiv ((b.toNat:Nat):Int) (2 ^ 1)=_
  rw [Int.fdiv_eq_ediv_of_nonneg _ (by omega), BitVec.toNat_ushiftRight, Nat.shiftRight_eq_div_pow]
  omega
theorem u32_neg (b:BitVec 32):IntKind.u32.wrap (0 - ((b.toNat:Nat):Int))=(((-b).toNat:Nat):Int):=by
  rw [wrap32_eq, BitVec.toNat_neg]
  have:=b.isLt
  omega
theorem c1_32:(1:Int)=(((1#32:BitVec 32).toNat:Nat):Int):=by decide
theorem cp_32:(2197175160:Int)=((poly.toNat:Nat):Int):=by decide
theorem cm_32:(if IntKind.u32.signed then -1 else IntKind.u32.max)=(((0xFFFFFFFF#32:BitVec 32).toNat:Nat):Int):=by decide
theorem fold_take (r:BitVec 32) (l:List UInt8) (k:Nat) (h:k<l.length):fold r (l.take (k + 1))=byteStep (fold r (l.take k)) l[k]:=by
  unfold fold
  rw [List.take_succ_eq_append_getElem h, List.foldl_append]
  rfl
theorem byte_32 (n:Nat) (h:n<256):IntKind.u32.wrap (n:Int)=(((BitVec.ofNat 32 n).toNat:Nat):Int):=by
  rw [wrap32_eq, BitVec.toNat_ofNat]
  omega
theorem reg0:(4294967295:Int)=(((0xFFFFFFFF#32:BitVec 32).toNat:Nat):Int):=by decide
theorem byteCells_at' (s:ByteArray) (k:Nat) (h:k<s.size):(bcells s.data.toList)[0 + ((k:Nat):Int).toNat * 1]?=some (.int .u8 ((s.data.toList.getD k 0).toNat:Int)):=by
  have hl:k<s.data.toList.length:=by rw [data_len]; exact h
  rw [Int.toNat_natCast, Nat.zero_add, Nat.mul_one]
  unfold bcells
  rw [List.getElem?_map, List.getElem?_eq_getElem hl, List.getD_eq_getElem?_getD, List.getElem?_eq_getElem hl]
  rfl

section
variable {H:AH} {R:AEnd→AH→Prop}
theorem step_call (b:BitVec 32) (h:R (.ret (.int .u32 (((crcStep b).toNat:Nat):Int))) H):ACall Tryz.prog 113 [.int .u32 ((b.toNat:Nat):Int)] H R:=by
  apply f113_call
  unfold f113_B
  rw [u32_shr1, u32_and rfl c1_32, u32_neg, u32_and cp_32 rfl, u32_xor rfl rfl]
  exact h
set_option maxRecDepth 20000 in
theorem sum_call (s:ByteArray) (hs:s.size≤140737488355328) (h:∀ H', Fr [] H H'→R (.ret (.int .u32 (((crcSum s).toNat:Nat):Int))) H'):ACall Tryz.prog 78 [.string s] H R:=by
  apply f78_call
  unfold f78_B
  refine wS2B_at hs ?_
  have hb:=Has.new H (.row (byteCells s) 1)
  have f0:Fr [] H (H.push (.row (byteCells s) 1)):=(Fr.refl [] H).push _
  rw [byteCells_eq] at hb f0 ⊢
  generalize H.push (.row (bcells s.data.toList) 1)=H1 at hb f0 ⊢
  generalize H.next=o at hb
  have hlen:=data_len s
  refine f78_L0_rule (J:=fun n x3 x9 H'=>∃ k:Nat, k≤s.size∧n=s.size - k∧x9=(k:Int)∧x3=(((fold 0xFFFFFFFF#32 (s.data.toList.take k)).toNat:Nat):Int)∧H'=H1) s.size
    ⟨0, by omega, by omega, rfl, reg0, rfl⟩ ?_
  rintro n x3 x9 H' ⟨k, hk, rfl, rfl, rfl, rfl⟩
  intros
  unfold f78_R0
  refine wIf_d (fun hlt=>?_) (fun hlt=>?_)
  · have hlt:k<s.size:=by omega
    have hx:=UInt8.toNat_lt (s.data.toList.getD k 0)
    refine wIx_at (by omega) (by omega) (ldI_at hb (byteCells_at' s k hlt) ?_)
    have ex:s.data.toList.getD k 0=s.data.toList[k]'(by omega):=by rw [List.getD_eq_getElem?_getD, List.getElem?_eq_getElem (by omega)]; rfl
    have hst:(IntKind.u32.wrap ((BitVec.ofInt IntKind.u32.bits (((fold 0xFFFFFFFF#32 (s.data.toList.take k)).toNat:Nat):Int)) ^^^ (BitVec.ofInt IntKind.u32.bits (IntKind.u32.wrap ((s.data.toList.getD k 0).toNat:Int)))).toNat) =
        (((fold 0xFFFFFFFF#32 (s.data.toList.take k) ^^^ BitVec.ofNat 32 (s.data.toList[k]'(by omega)).toNat).toNat:Nat):Int):=by
      rw [u32_xor rfl (byte_32 _ hx), ex]
    rw [hst]
    refine f78_L1_rule (J:=fun n x3 x17 H2=>∃ j:Nat, j≤8∧n=8 - j∧x17=(j:Int)∧x3=(((steps j (fold 0xFFFFFFFF#32 (s.data.toList.take k) ^^^ BitVec.ofNat 32 (s.data.toList[k]'(by omega)).toNat)).toNat:Nat):Int)∧H2=H') 8
      ⟨0, by omega, by omega, rfl, rfl, rfl⟩ ?_
    rintro n x3 x17 H2 ⟨j, hj, rfl, rfl, rfl, rfl⟩
    intros
    unfold f78_R1
    refine wIf_d (fun hj8=>?_) (fun hj8=>?_)
    · refine wCall_of (step_call _ (opI_at ⟨8 - (j + 1), by omega, f78_I1_mk ⟨j + 1, by omega, rfl, wi1 j (by omega), by rw [steps_succ], rfl⟩⟩))
    · have:j=8:=by omega
      subst this
      exact ⟨s.size - (k + 1), by omega, f78_I0_mk ⟨k + 1, by omega, rfl, wi1 k (by omega), by rw [fold_take _ _ _ (by omega)]; rfl, rfl⟩⟩
  · have:k=s.size:=by omega
    subst this
    rw [f78_J0_eq]
    unfold f78_J0_B
    have e:s.data.toList.take s.size=s.data.toList:=List.take_of_length_le (by omega)
    rw [e, u32_xor cm_32 rfl]
    have:=h H' f0
    unfold crcSum at this
    rw [not_xor, BitVec.xor_comm] at this
    exact this
end
end Go.Proofs.YtjhbbbcelnlnpaaGreatDoor
namespace Go.Proofs.YtjhbbbcelnlnpaaGreatDoor
open Go.RowKit

def be (k n:Nat):List UInt8:=(List.range k).map fun j=>UInt8.ofNat (n / 256 ^ (k - 1 - j))
theorem be_length (k n:Nat):(be k n).length=k:=by simp [be]
theorem be_at (k n i:Nat) (h:i<k):(be k n)[k - 1 - i]?=some (UInt8.ofNat (n / 256 ^ i)):=by
  unfold be
  rw [List.getElem?_map, List.getElem?_range (by omega)]
  show some (UInt8.ofNat (n / 256 ^ (k - 1 - (k - 1 - i))))=_
  rw [show k - 1 - (k - 1 - i)=i by omega]
def nval (l:List UInt8):Nat:=l.foldl (fun n c=>n * 256 + c.toNat) 0
theorem nfold (l:List UInt8):∀ n, l.foldl (fun n c=>n * 256 + c.toNat) n=n * 256 ^ l.length + nval l:=by
  induction l with
  | nil=>intro n; simp [nval]
  | cons x l ih =>
    intro n
    rw [List.foldl_cons, ih, List.length_cons]
    unfold nval
    rw [List.foldl_cons, ih (0 * 256 + x.toNat)]
    simp only [Nat.zero_mul, Nat.zero_add, Nat.add_mul, Nat.pow_succ, Nat.add_assoc, nval]
    congr 1
    rw [Nat.mul_assoc, Nat.mul_comm 256]
theorem nval_cons (x:UInt8) (l:List UInt8):nval (x :: l)=x.toNat * 256 ^ l.length + nval l:=by
  have:=nfold l x.toNat
  unfold nval at this ⊢
  rw [List.foldl_cons, Nat.zero_mul, Nat.zero_add]
  exact this
theorem nval_snoc (l:List UInt8) (x:UInt8):nval (l ++ [x])=nval l * 256 + x.toNat:=by
  unfold nval; rw [List.foldl_append]; rfl
theorem nval_lt (l:List UInt8):nval l<256 ^ l.length:=by
  induction l with
  | nil=>simp [nval]
  | cons x l ih =>
    rw [nval_cons, List.length_cons, Nat.pow_succ]
    have hx:=UInt8.toNat_lt x
    have h1:x.toNat * 256 ^ l.length≤255 * 256 ^ l.length:=Nat.mul_le_mul_right _ (by omega)
    omega
/-! Pieces of texts. -/
theorem extract_ofL (s:ByteArray) (a b:Nat):s.extract a b=ofL ((s.data.toList.drop a).take (b - a)):=by
  apply ByteArray.ext
  apply Array.ext'
  unfold ofL
  simp only [ByteArray.data_extract, Array.toList_extract, List.extract_eq_take_drop]
theorem data_extract_l (s:ByteArray) (a b:Nat):(s.extract a b).data.toList=(s.data.toList.drop a).take (b - a):=by rw [extract_ofL]; rfl
theorem ofL_inj {a b:List UInt8} (h:ofL a=ofL b):a=b:=congrArg (fun s:ByteArray=>s.data.toList) h
end Go.Proofs.YtjhbbbcelnlnpaaGreatDoor
namespace Go.Proofs.YtjhbbbcelnlnpaaGreatDoor
open Go.RowKit
section
variable {P:Program} {B:Nat} {w0:World} {μ:Mu} {H:AH} {w w':World}

theorem Rel.keep (hr:Rel B w0 μ H w) (h:Below w.heap.size w w'):Rel B w0 μ H w':=by
  refine ⟨hr.below.trans (h.mono hr.size), Nat.le_trans hr.size h.size, hr.fresh, fun i o hi=>?_, hr.excl, fun i x hx=>let ⟨q, n, a, b, c⟩:=hr.tys i x hx; ⟨q, n, a, b, (shape_of (h.block _ (shape_lt c))).trans c⟩⟩
  obtain ⟨p, hp, ho⟩:=hr.obj i o hi
  exact ⟨p, hp, ho.mono (Mu.le_refl _) (h.block _ ho.lt)⟩

theorem acall_keep {f:FuncId} {args:List Value} {R:AEnd→AH→Prop} (v:Value)
    (h:∀ B w0 μ w cargs, Rel B w0 μ H w→LR μ args cargs→Calls P f cargs w fun e w'=>(∃ cv, e=.returned cv∧VR μ v cv)∧Below w.heap.size w w') (hR:R (.ret v) H):ACall P f args H R:=by
  intro B w0 μ w cargs hr ha
  refine (h B w0 μ w cargs hr ha).mono ?_
  rintro e w' ⟨⟨cv, rfl, hv⟩, hb⟩
  exact ⟨.ret v, H, μ, hR, Mu.le_refl _, hr.keep hb, hv⟩

end
end Go.Proofs.YtjhbbbcelnlnpaaGreatDoor
