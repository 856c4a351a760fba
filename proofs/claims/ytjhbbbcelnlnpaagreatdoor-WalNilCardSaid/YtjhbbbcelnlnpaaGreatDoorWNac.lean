/- The rules of the small program logic are right: operations that write nothing. -/
import Derived.Test.YtjhbbbcelnlnpaaGreatDoorWNab
namespace Go.Proofs.YtjhbbbcelnlnpaaGreatDoor
open Go.RowKit

def PureOK (P:Program) (μ:Mu) (s:Sem Value) (K:Value→Prop):Prop:=∃ v cv, (∀ w, s.run P w=.ok cv w)∧K v∧VR μ v cv
def ReadOK (P:Program) (μ:Mu) (w:World) (s:Sem Value) (K:Value→Prop):Prop:=∃ v cv, s.run P w=.ok cv w∧K v∧VR μ v cv
theorem PureOK.read {P:Program} {μ:Mu} {s:Sem Value} {K:Value→Prop} (h:PureOK P μ s K) (w:World):ReadOK P μ w s K :=
  let ⟨v, cv, h1, h2⟩:=h; ⟨v, cv, h1 w, h2⟩

section
variable {P:Program} {μ:Mu} {w:World} {K:Value→Prop}

theorem ev_ok {tm:List Value} {ca:Array Value} (ht:LR μ tm ca) {x:Operand} (h:operOK x=true) {ds:List Deferred}:VR μ (ev tm x) (Act.eval { tmps:=ca, defers:=ds } x):=by
  cases x with
  | tmp t=>exact ht.getD t
  | const v=>exact VR.const h
  | global g=>simp [operOK] at h
  | func f=>exact .func rfl rfl (by simp) (by simp)

theorem run_und {t:TypeId} {d:TypeDesc} (h:P.underlying t=some d):(underlying t).run P w=.ok d w:=Go.run_underlying h w
theorem und_of {t:TypeId} (h:tyOK P t=true):(P.underlying t).isSome=true:=by simp [tyOK] at h; exact h.2
theorem run_info {t:TypeId} (h:tyOK P t=true):∃ i, P.info? t=some i∧i.size=P.cellsOf t∧i.bytes=P.bytesOf t∧(typeInfo t).run P w=.ok i w∧(sizeOf t).run P w=.ok (P.cellsOf t) w:=by
  obtain ⟨i, hi⟩:=Option.isSome_iff_exists.1 (by simp [tyOK] at h; exact h.1:(P.info? t).isSome=true)
  have h1:i.size=P.cellsOf t:=by simp [Program.cellsOf, hi]
  have h2:(typeInfo t).run P w=.ok i w:=by simp [typeInfo, hi]
  exact ⟨i, hi, h1, by simp [Program.bytesOf, hi], h2, by simp [sizeOf, h2, h1]⟩

theorem run_infoA {t:TypeId} (h:tyOK P t=true):∀ w, (sizeOf t).run P w=.ok (P.cellsOf t) w:=fun w=>let ⟨_, _, _, _, _, h⟩:=run_info (w:=w) h; h

theorem pick_ok {c a b c' a' b':Value} (hc:VR μ c c') (ha:VR μ a a') (hb:VR μ b b') (h:aPick c a b K) :
    PureOK P μ (do pure (if ← asBool c' then a' else b')) K:=by
  cases hc with
  | bool x =>
    cases x with
    | true=>exact ⟨a, a', fun _=>rfl, h, ha⟩
    | false=>exact ⟨b, b', fun _=>rfl, h, hb⟩
  | _=>exact h.elim

theorem int_ok {op:BinOp} {k:IntKind} {a b:Int} (h:aInt op k a b K) (h1:op ≠ .shl) (h2:op ≠ .shr) {t:TypeId}:PureOK P μ (binOp op t (.int k a) (.int k b)) K:=by
  cases op with
  | add=>exact ⟨_, _, fun w=>by simp only [binOp]; rw [if_neg (by simp)]; rfl, h, .int _ _⟩
  | sub=>exact ⟨_, _, fun w=>by simp only [binOp]; rw [if_neg (by simp)]; rfl, h, .int _ _⟩
  | mul=>exact ⟨_, _, fun w=>by simp only [binOp]; rw [if_neg (by simp)]; rfl, h, .int _ _⟩
  | quo=>exact ⟨_, _, fun w=>by simp [binOp, Op.intDiv, h.1], h.2, .int _ _⟩
  | rem=>exact ⟨_, _, fun w=>by simp [binOp, Op.intDiv, h.1], h.2, .int _ _⟩
  | and=>exact ⟨_, _, fun w=>by simp only [binOp]; rw [if_neg (by simp)]; rfl, h, .int _ _⟩
  | or=>exact ⟨_, _, fun w=>by simp only [binOp]; rw [if_neg (by simp)]; rfl, h, .int _ _⟩
  | xor=>exact ⟨_, _, fun w=>by simp only [binOp]; rw [if_neg (by simp)]; rfl, h, .int _ _⟩
  | andNot=>exact ⟨_, _, fun w=>by simp only [binOp]; rw [if_neg (by simp)]; rfl, h, .int _ _⟩
  | eql=>exact ⟨_, _, fun w=>by simp only [binOp]; rw [if_neg (by simp)]; rfl, h, .bool _⟩
  | neq=>exact ⟨_, _, fun w=>by simp only [binOp]; rw [if_neg (by simp)]; rfl, h, .bool _⟩
  | lss=>exact ⟨_, _, fun w=>by simp only [binOp]; rw [if_neg (by simp)]; rfl, h, .bool _⟩
  | leq=>exact ⟨_, _, fun w=>by simp only [binOp]; rw [if_neg (by simp)]; rfl, h, .bool _⟩
  | gtr=>exact ⟨_, _, fun w=>by simp only [binOp]; rw [if_neg (by simp)]; rfl, h, .bool _⟩
  | geq=>exact ⟨_, _, fun w=>by simp only [binOp]; rw [if_neg (by simp)]; rfl, h, .bool _⟩
  | shl=>exact absurd rfl h1
  | shr=>exact absurd rfl h2

theorem str_beq (a b:ByteArray):(a.toList == b.toList)=decide (a=b):=by
  rw [ByteArray.toList_eq, ByteArray.toList_eq]
  by_cases e:a=b
  · subst e; simp
  · have:a.data ≠ b.data:=fun h=>e (by cases a; cases b; simp at h; simp [h])
    simp [e, this]
theorem str_ok {op:BinOp} {a b:ByteArray} (h:aStr op a b K) {t:TypeId}:PureOK P μ (binOp op t (.string a) (.string b)) K:=by
  cases op with
  | add =>
    obtain ⟨h1, h2⟩:=h
    refine ⟨_, _, fun w=>?_, h2, .string _⟩
    simp only [binOp, Op.stringOp]
    rw [if_neg]
    · rfl
    · have:IntKind.i64.max=9223372036854775807:=by decide
      rw [this]; omega
  | eql=>exact ⟨_, _, fun w=>by simp only [binOp, Op.stringOp, str_beq]; rfl, h, .bool _⟩
  | neq=>exact ⟨_, _, fun w=>by simp only [binOp, Op.stringOp, str_beq]; rfl, h, .bool _⟩
  | lss=>exact ⟨_, _, fun w=>by simp only [binOp, Op.stringOp, ByteArray.toList_eq]; rfl, h, .bool _⟩
  | leq=>exact ⟨_, _, fun w=>by simp only [binOp, Op.stringOp, str_beq]; rw [ByteArray.toList_eq a, ByteArray.toList_eq b]; rfl, h, .bool _⟩
  | gtr=>exact ⟨_, _, fun w=>by simp only [binOp, Op.stringOp, str_beq]; rw [ByteArray.toList_eq a, ByteArray.toList_eq b]; rfl, h, .bool _⟩
  | geq=>exact ⟨_, _, fun w=>by simp only [binOp, Op.stringOp, ByteArray.toList_eq]; rfl, h, .bool _⟩
  | _=>exact h.elim

theorem part_flat {t:TypeId} {cs:Array Value} {off:Nat} {v:Value} (hs:isStruct P t=false) (hu:(P.underlying t).isSome=true) (h:cs[off]?=some v) (w:World):(part t cs off).run P w=.ok v w:=by
  obtain ⟨d, hd⟩:=Option.isSome_iff_exists.1 hu
  unfold isStruct at hs
  rw [hd] at hs
  unfold part isAgg
  rw [Sem.run_bind, Sem.run_bind, run_und hd]
  cases d <;> simp_all
theorem eqF_ok (d:Nat) (xs' ys':Array Value):∀ (fs:List Field) (n:Nat) (l m:List Value) (K:Bool→Prop), aEqF P fs n l m K→xs'.toList.drop n=l→ys'.toList.drop n=m →
    ∃ b, (∀ w, (Op.eqFields (d + 1) xs' ys' fs).run P w=.ok b w)∧K b:=by
  intro fs
  induction fs with
  | nil =>
    intro n l m K h _ _
    cases l <;> cases m <;> first | exact ⟨true, fun w=>by simp [Op.eqFields], h⟩ | exact False.elim h
  | cons f fs ih =>
    intro n l m K h hl hm
    cases l with
    | nil=>exact False.elim h
    | cons x l =>
      cases m with
      | nil=>cases x <;> exact False.elim h
      | cons y m =>
        have hx:xs'[n]?=some x:=by
          rw [← Array.getElem?_toList, ← List.head?_drop, hl]; rfl
        have hy:ys'[n]?=some y:=by
          rw [← Array.getElem?_toList, ← List.head?_drop, hm]; rfl
        have hl':xs'.toList.drop (n + 1)=l:=by rw [← List.tail_drop, hl]; rfl
        have hm':ys'.toList.drop (n + 1)=m:=by rw [← List.tail_drop, hm]; rfl
        have key:∀ (eb:Bool) (K':Bool→Prop), f.offset=n→f.name ≠ "_"→isStruct P f.type=false→(P.underlying f.type).isSome=true→(∀ w, (Op.equalIn (d + 1) f.type x y).run P w=.ok eb w) →
            aEqF P fs (n + 1) l m (fun r=>K (eb && r))→∃ b, (∀ w, (Op.eqFields (d + 1) xs' ys' (f :: fs)).run P w=.ok b w)∧K b:=by
          intro eb _ h1 h2 h3 h4 h5 h6
          obtain ⟨b, g1, g2⟩:=ih (n + 1) l m _ h6 hl' hm'
          refine ⟨eb && b, fun w=>?_, g2⟩
          simp only [Op.eqFields]
          rw [if_pos h2, Sem.run_bind, part_flat h3 h4 (by rw [h1]; exact hx), Result.andThen_ok, Sem.run_bind, part_flat h3 h4 (by rw [h1]; exact hy), Result.andThen_ok, Sem.run_bind, h5, Result.andThen_ok]
          cases eb with
          | true=>simpa using g1 w
          | false=>simp
        cases x <;> cases y <;> first
          | exact False.elim h
          | (obtain ⟨⟨h1, h2, h3, h4, h5⟩, h6⟩:=h
             subst h5
             exact key _ K h1 h2 h3 (by rw [h4]; rfl) (fun w=>run_equalIn_int w d f.type _ _ _ _ h4) h6)
          | (obtain ⟨⟨h1, h2, h3, h4⟩, h6⟩:=h
             exact key _ K h1 h2 h3 (by rw [h4]; rfl) (fun w=>by rw [run_equalIn_string w d f.type _ _ h4, str_beq]) h6)
          | (obtain ⟨⟨h1, h2, h3, h4⟩, h6⟩:=h
             exact key _ K h1 h2 h3 (by rw [h4]; rfl) (fun w=>run_equalIn_bool' w d f.type _ _ h4) h6)
theorem agg_plain {P:Program}:∀ (fs:List Field) (n:Nat) (l m:List Value) (K:Bool→Prop), aEqF P fs n l m K→(l.all plainV=true)∧(m.all plainV=true):=by
  intro fs
  induction fs with
  | nil =>
    intro n l m K h
    cases l <;> cases m <;> first | exact ⟨rfl, rfl⟩ | exact False.elim h
  | cons f fs ih =>
    intro n l m K h
    cases l with
    | nil=>exact False.elim h
    | cons x l =>
      cases m with
      | nil=>cases x <;> exact False.elim h
      | cons y m =>
        cases x <;> cases y <;> first
          | exact False.elim h
          | (have:=ih _ _ _ _ h.2; exact ⟨by simp [plainV, this.1], by simp [plainV, this.2]⟩)
theorem VR.plain_eq {μ:Mu} {v v':Value} (h:plainV v=true) (r:VR μ v v'):v'=v:=by
  cases r <;> first | rfl | (simp [plainV] at h)
theorem VR.agg_eq {μ:Mu} {xs xs':Array Value} (h1:xs.size=xs'.size) (h2:∀ (j:Nat) v v', xs[j]?=some v→xs'[j]?=some v'→VR μ v v') (hp:xs.toList.all plainV=true):xs'=xs:=by
  apply Array.ext h1.symm
  intro j hj hj'
  exact VR.plain_eq (List.all_eq_true.1 hp _ (by simp)) (h2 j xs[j] xs'[j] (by simp) (by simp))
theorem eq_ok {cst:Bool} {t:TypeId} {x y x' y':Value} (hx:VR μ x x') (hy:VR μ y y') {K:Bool→Prop} (h:aEq cst P t x y K) :
    ∃ b, (∀ w, (Op.equal t x' y').run P w=.ok b w)∧K b:=by
  have hd:Op.equal t x' y'=Op.equalIn (9999 + 1) t x' y':=rfl
  have hd0:(9999:Nat) ≠ 0:=by omega
  rw [hd]
  generalize 9999=d at hd0
  clear hd
  unfold aEq at h
  split at h
  · cases hx; cases hy
    exact ⟨_, fun w=>by simp [Op.equalIn, run_und h.1], h.2⟩
  · obtain ⟨⟨e, he⟩, h⟩:=h
    cases hx
    cases hy with
    | nilptr=>exact ⟨_, fun w=>by simp [Op.equalIn, run_und he], h⟩
    | ptr hp=>exact ⟨_, fun w=>by simp [Op.equalIn, run_und he], h⟩
  · obtain ⟨⟨e, he⟩, h⟩:=h
    cases hx; cases hy
    exact ⟨_, fun w=>by simp [Op.equalIn, run_und he], h⟩
  · obtain ⟨⟨e, he⟩, h⟩:=h
    cases hx
    cases hy with
    | nilslice=>exact ⟨_, fun w=>by simp [Op.equalIn, run_und he], h⟩
    | slice hp _ _=>exact ⟨_, fun w=>by simp [Op.equalIn, run_und he], h⟩
  · obtain ⟨⟨e, he⟩, h⟩:=h
    cases hx; cases hy
    exact ⟨_, fun w=>by simp [Op.equalIn, run_und he], h⟩
  · obtain ⟨⟨k, e, he⟩, h⟩:=h
    cases hx
    cases hy with
    | nilmap=>exact ⟨_, fun w=>by simp [Op.equalIn, run_und he], h⟩
    | map hp=>exact ⟨_, fun w=>by simp [Op.equalIn, run_und he], h⟩
  · obtain ⟨⟨k, e, he⟩, h⟩:=h
    cases hx; cases hy
    exact ⟨_, fun w=>by simp [Op.equalIn, run_und he], h⟩
  · obtain ⟨_, ⟨m, he⟩, h⟩:=h
    cases hx; cases hy
    exact ⟨_, fun w=>by simp [Op.equalIn, run_und he], h⟩
  · obtain ⟨⟨m, he⟩, h⟩:=h
    cases hx; cases hy
    exact ⟨_, fun w=>by simp [Op.equalIn, run_und he], h⟩
  · obtain ⟨⟨m, he⟩, h⟩:=h
    cases hx; cases hy
    exact ⟨_, fun w=>by simp [Op.equalIn, run_und he], h⟩
  · obtain ⟨h1, h2, h3, h4⟩:=h
    obtain ⟨p1, p2⟩:=agg_plain _ _ _ _ _ h4
    cases hx with
    | agg s1 r1 =>
      cases hy with
      | agg s2 r2 =>
        obtain rfl:=VR.agg_eq s1 r1 p1
        obtain rfl:=VR.agg_eq s2 r2 p2
        cases d with
        | zero=>exact absurd rfl hd0
        | succ d =>
          obtain ⟨b, g1, g2⟩:=eqF_ok d _ _ _ 0 _ _ K h4 rfl rfl
          exact ⟨b, fun w=>by rw [run_equalIn_agg w (d + 1) t _ _ h1 h2]; exact g1 w, g2⟩
  · exact h.elim

theorem guard_ok {op:BinOp} {t:TypeId} {x y:Operand} {a b a' b':Value} (hx:VR μ a a') (hy:VR μ b b') (h:aBin (isK x || isK y) P op t a b K) :
    ∀ w, (eqGuard op t x y a' b').run P w=.ok () w:=by
  intro w
  by_cases hagg:∃ xs ys, a=.agg xs∧b=.agg ys
  · obtain ⟨xs, ys, rfl, rfl⟩:=hagg
    cases hx
    cases hy
    have h3:P.eqGuardType P.depth t=false:=by
      cases op <;> first | exact False.elim h | exact h.2.2.1
    exact run_eqGuard_agg w op t x y _ _ h3
  unfold eqGuard
  cases hx <;> cases hy <;> first
    | (cases op <;> rfl)
    | exact absurd ⟨_, _, rfl, rfl⟩ hagg
    | (cases op <;> first | rfl | exact h.elim | (have hc:=h.1; cases x <;> cases y <;> first | rfl | (simp [isK] at hc)))

theorem bin_ok {op:BinOp} {t:TypeId} {x y:Operand} {a b a' b':Value} (hx:VR μ a a') (hy:VR μ b b') (h:aBin (isK x || isK y) P op t a b K) :
    PureOK P μ (do eqGuard op t x y a' b'; binOp op t a' b') K:=by
  have hg:=guard_ok (x:=x) (y:=y) hx hy h
  have hb:PureOK P μ (binOp op t a' b') K:=by
    unfold aBin at h
    split at h
    · cases hx; cases hy
      exact ⟨_, _, fun w=>by simp only [binOp, Op.shift]; rw [if_neg (by omega)]; rfl, h.2, .int _ _⟩
    · cases hx; cases hy
      exact ⟨_, _, fun w=>by simp only [binOp, Op.shift]; rw [if_neg (by omega)]; rfl, h.2, .int _ _⟩
    · cases hx; cases hy
      obtain ⟨rfl, h⟩:=h
      exact int_ok h (by rintro rfl; simp_all) (by rintro rfl; simp_all)
    · cases hx; cases hy; exact str_ok h
    · rename_i n1 n2 n3
      obtain ⟨r, h1, h2⟩:=eq_ok hx hy h
      refine ⟨_, _, fun w=>?_, h2, .bool _⟩
      cases hx <;> cases hy <;> first
        | exact h.elim
        | (simp only [binOp]; simp [h1])
    · rename_i n1 n2 n3
      obtain ⟨r, h1, h2⟩:=eq_ok hx hy h
      refine ⟨_, _, fun w=>?_, h2, .bool _⟩
      cases hx <;> cases hy <;> first
        | exact h.elim
        | (simp only [binOp]; simp [h1])
    · exact h.elim
  obtain ⟨v, cv, h1, h2, h3⟩:=hb
  exact ⟨v, cv, fun w=>by simp [hg, h1], h2, h3⟩

theorem un_ok {op:UnOp} {x x':Value} (hx:VR μ x x') (h:aUn op x K):PureOK P μ (Op.unary op x') K:=by
  unfold aUn at h
  split at h
  · cases hx; exact ⟨_, _, fun w=>by simp only [Op.unary, Op.intArith]; rfl, h, .int _ _⟩
  · cases hx; exact ⟨_, _, fun w=>by simp only [Op.unary, Op.intBits]; rfl, h, .int _ _⟩
  · cases hx; exact ⟨_, _, fun w=>by simp only [Op.unary]; rfl, h, .bool _⟩
  · exact h.elim

theorem extract_ok {x x':Value} {n:Nat} (hx:VR μ x x') (h:aExtract x n K):PureOK P μ (Instr.extract x' n) K:=by
  cases hx with
  | tuple h1 h2 =>
    simp only [aExtract] at h
    split at h
    · rename_i cs v hv
      rename_i cs'
      have hlt:=(Array.getElem?_eq_some_iff.1 hv).1
      obtain ⟨v', hv'⟩:∃ v', cs'[n]?=some v':=⟨cs'[n]'(by omega), by simp⟩
      exact ⟨v, v', fun w=>by simp [Instr.extract, hv'], h, h2 n v v' hv hv'⟩
    · exact h.elim
  | _=>exact h.elim

theorem field_ok {t:TypeId} {x x':Value} {n:Nat} (hx:VR μ x x') (h:aField P t x n K):PureOK P μ (Instr.fieldAt t x' n) K:=by
  unfold aField at h
  split at h
  · rename_i fs hfs
    split at h
    · rename_i f hf
      split at h
      · rename_i i k
        cases hx with
        | ptr hp =>
          rename_i p
          obtain ⟨h1, h2, h3⟩:=h
          have hsz:=run_infoA h1
          refine ⟨_, .pointer (some ⟨p.block, p.off + k + f.offset, none⟩), fun w=>?_, h3, by rw [Nat.add_assoc]; exact .ptr hp⟩
          have:Instr.fieldAt t (.pointer (some ⟨p.block, p.off + k, none⟩)) n=(do
            let .struct fields ← underlying t | stuck "fieldAddr: struct type expected"
            let some f:=fields[n]? | stuck "fieldAddr: no such field"
            let a ← Instr.sureAddr (.pointer (some ⟨p.block, p.off + k, none⟩))
            pure (.pointer (some (← fieldPlace a f)))):=rfl
          rw [this]
          simp only [Sem.run_bind, run_und hfs, Result.andThen_ok, hf, Instr.sureAddr, Sem.run_pure, fieldPlace, hsz]
          simp only [if_neg h2, Sem.run_pure, Result.andThen_ok, Addr.add]
          by_cases h0:f.offset=0 <;> simp [h0]
      · exact h.elim
    · exact h.elim
  · exact h.elim

end
end Go.Proofs.YtjhbbbcelnlnpaaGreatDoor
