/- The rules of the small program logic are right: literals, calls, code. The rules of 'make' and 'copy' are right. -/
import Derived.Test.YtjhbbbcelnlnpaaGreatDoorWNag
import Derived.Laws.MakeOwn
namespace Go.Proofs.YtjhbbbcelnlnpaaGreatDoor
open Go.RowKit

section
variable {P:Program} {B:Nat} {w0:World} {μ:Mu} {H:AH} {w:World}

def PR (μ:Mu) (ps ps':List (Nat × Value)):Prop:=ps.length=ps'.length∧∀ (j:Nat) q, ps[j]?=some q→∃ q', ps'[j]?=some q'∧q.1=q'.1∧VR μ q.2 q'.2

theorem setCells_foldl (vs:List Value):∀ (vs':List Value) (cs:List Value) (cs':Array Value) (off i:Nat), LR μ cs cs'→LR μ vs vs'.toArray →
    LR μ (setCells cs (off + i) vs) ((vs'.zipIdx i).foldl (fun cs (x:Value × Nat)=>cs.setIfInBounds (off + x.2) x.1) cs'):=by
  induction vs with
  | nil =>
    intro vs' cs cs' off i h1 h2
    have:vs'=[]:=List.length_eq_zero_iff.1 (by have:=h2.1; simpa using this.symm)
    subst this
    simpa [setCells] using h1
  | cons v vs ih =>
    intro vs' cs cs' off i h1 h2
    cases vs' with
    | nil=>have:=h2.1; simp at this
    | cons v' vs' =>
      obtain ⟨x, g1, g2⟩:=h2.2 0 v rfl
      simp at g1; subst g1
      have h2':LR μ vs vs'.toArray:=⟨by have:=h2.1; simpa using this, fun j y hy=>by
        obtain ⟨z, k1, k2⟩:=h2.2 (j + 1) y (by simpa using hy)
        exact ⟨z, by simpa using k1, k2⟩⟩
      have:=ih vs' (cs.set (off + i) v) (cs'.setIfInBounds (off + i) v') off (i + 1) (h1.set _ g2) h2'
      simpa [setCells, List.zipIdx_cons, Nat.add_assoc] using this

theorem fill_ok {place:Nat→Option (Nat × Nat)}:∀ (ps ps':List (Nat × Value)) (cs:List Value) (cs':Array Value) (r:List Value), PR μ ps ps'→LR μ cs cs'→aFill cs place ps=some r →
    ∃ r', Instr.fill place cs' ps'=some r'∧LR μ r r':=by
  intro ps
  induction ps with
  | nil =>
    intro ps' cs cs' r hp hc h
    have:ps'=[]:=List.length_eq_zero_iff.1 hp.1.symm
    subst this
    simp [aFill] at h; subst h
    exact ⟨cs', rfl, hc⟩
  | cons q ps ih =>
    intro ps' cs cs' r hp hc h
    cases ps' with
    | nil=>have:=hp.1; simp at this
    | cons q' ps' =>
      obtain ⟨x, g1, g2, g3⟩:=hp.2 0 q rfl
      simp at g1; subst g1
      obtain ⟨i, v⟩:=q
      obtain ⟨i', v'⟩:=q'
      simp only at g2 g3
      subst g2
      have hp':PR μ ps ps':=⟨by have:=hp.1; simpa using this, fun j y hy=>by
        obtain ⟨z, k1, k2⟩:=hp.2 (j + 1) y (by simpa using hy)
        exact ⟨z, by simpa using k1, k2⟩⟩
      simp only [aFill] at h
      simp only [Instr.fill]
      split at h
      · cases h
      · rename_i off size hpl
        rw [hpl]
        have hl:=vr_cells g3
        have hsz:v'.cells.size=v.cells.size:=by have:=hl.1; simp at this; exact this.symm
        simp only [hsz, ← hc.1]
        split at h
        · cases h
        · rename_i hcond
          rw [if_neg hcond]
          have hs:=setCells_foldl (μ:=μ) v.cells.toList v'.cells.toList cs cs' off 0 hc (by simpa using hl)
          rw [Nat.add_zero] at hs
          obtain ⟨r', k1, k2⟩:=ih ps' _ _ r hp' hs h
          refine ⟨r', ?_, k2⟩
          rw [← k1]
          congr 1
          rw [← Array.foldl_toList]
          congr 1
          simp [Array.toList_zipIdx]

theorem mapM_sizes (fs:List Field):∀ (w:World), (fs.all fun f=>tyOK P f.type)=true →
    (fs.mapM fun f=>do pure (f.offset, ← sizeOf f.type):Sem (List (Nat × Nat))).run P w=.ok (fs.map fun f=>(f.offset, P.cellsOf f.type)) w:=by
  induction fs with
  | nil=>intro w _; simp
  | cons f fs ih =>
    intro w h
    simp only [List.all_cons, Bool.and_eq_true] at h
    obtain ⟨ti, _, _, _, _, hsz⟩:=run_info (w:=w) h.1
    simp only [List.mapM_cons, Sem.run_bind, hsz, Result.andThen_ok, Sem.run_pure, ih w h.2, List.map_cons]

theorem build_ok {t:TypeId} {ps:List (Nat × Value)} {ps':Array (Nat × Value)} (hp:PR μ ps ps'.toList) {K:Value→Prop} (h:aBuild P t ps K):PureOK P μ (Instr.build t ps') K:=by
  unfold aBuild at h
  split at h
  · rename_i z fs hz hfs
    obtain ⟨h1, h2, h⟩:=h
    split at h
    · rename_i cs hcs
      obtain ⟨i, hi, hz⟩:=Option.bind_eq_some_iff.1 hz
      have hzr:∀ w, (zeroValue t).run P w=.ok z w:=by intro w; simp [zeroValue, typeInfo, hi, hz]
      obtain ⟨r', k1, k2⟩:=fill_ok (μ:=μ) ps ps'.toList z.cells.toList z.cells cs hp (vr_cells (VR.const h1)) hcs
      refine ⟨_, .agg r', fun w=>?_, h, ?_⟩
      · have hm:=mapM_sizes (P:=P) fs.toList w (by simpa using h2)
        have hm':(fs.mapM fun f=>do pure (f.offset, ← sizeOf f.type):Sem (Array (Nat × Nat))).run P w=.ok (fs.map fun f=>(f.offset, P.cellsOf f.type)) w:=by
          rw [Array.mapM_eq_mapM_toList]
          simp only [bind_pure_comp] at hm ⊢
          rw [Sem.run_map, hm]
          simp only [Result.andThen_ok]
          congr 1
          apply Array.ext'
          simp
        simp only [Instr.build, Sem.run_bind, hzr, Result.andThen_ok, run_und hfs, hm']
        have hpl:(fun x:Nat=>(fs.map fun f=>(f.offset, P.cellsOf f.type))[x]?)=fun (i:Nat)=>(fs[i]?).map fun f:Field=>(f.offset, P.cellsOf f.type):=by
          funext x; simp
        rw [hpl, k1]
        rfl
      · refine .agg (by simpa using k2.1) fun j v v' hv hv'=>?_
        obtain ⟨v'', g1, g2⟩:=k2.2 j v (by simpa using hv)
        rw [g1] at hv'; cases hv'; exact g2
    · exact h.elim
  · exact h.elim

theorem aFill_length {place:Nat→Option (Nat × Nat)}:∀ (ps:List (Nat × Value)) (cs r:List Value), aFill cs place ps=some r→r.length=cs.length:=by
  intro ps
  induction ps with
  | nil=>intro cs r h; simp [aFill] at h; rw [h]
  | cons q ps ih =>
    intro cs r h
    obtain ⟨i, v⟩:=q
    simp only [aFill] at h
    split at h
    · cases h
    · split at h
      · cases h
      · rw [ih _ _ h, setCells_length]

theorem rep_at (l:List Value):∀ (n j:Nat), j<n * l.length→((List.replicate n l).flatten)[j]?=l[j % l.length]?:=by
  intro n
  induction n with
  | zero=>intro j h; simp at h
  | succ n ih =>
    intro j h
    rw [List.replicate_succ, List.flatten_cons]
    by_cases hj:j<l.length
    · rw [List.getElem?_append_left hj, Nat.mod_eq_of_lt hj]
    · have hb:j - l.length<n * l.length:=by rw [Nat.add_mul] at h; omega
      rw [List.getElem?_append_right (by omega), ih _ hb, ← Nat.mod_eq_sub_mod (by omega)]

theorem buildSlice_ok (hr:Rel B w0 μ H w) {t:TypeId} {len:Nat} {ps:List (Nat × Value)} {ps':Array (Nat × Value)} (hp:PR μ ps ps'.toList) {K:KV} (h:aBuildSlice P t len ps H K) :
    SemOK P B w0 μ w (Instr.buildSlice t len ps') K:=by
  unfold aBuildSlice at h
  split at h
  · rename_i e ht
    split at h
    · rename_i z hz
      obtain ⟨h1, h2, h3, h5, h⟩:=h
      split at h
      · rename_i cs hcs
        obtain ⟨h6, h7⟩:=h
        obtain ⟨i, hi, hz⟩:=Option.bind_eq_some_iff.1 hz
        have hzr:(zeroValue e).run P w=.ok z w:=by simp [zeroValue, typeInfo, hi, hz]
        have hsz:(sizeOf e).run P w=.ok (P.cellsOf e) w:=by simp [sizeOf, typeInfo, hi, Program.cellsOf]
        have hz0:LR μ ((List.replicate len z.cells.toList).flatten) ((Array.range (len * P.cellsOf e)).map (z.cells[· % z.cells.size]!)):=by
          have hpos:0<z.cells.size:=by omega
          refine ⟨by simp [h2], fun j v hj=>?_⟩
          have hlt:j<len * P.cellsOf e:=by have:=(List.getElem?_eq_some_iff.1 hj).1; simpa [h2] using this
          rw [rep_at _ _ _ (by simpa [h2] using hlt)] at hj
          have hzc:=(vr_cells (VR.const (μ:=μ) h1)).2
          have hmod:j % z.cells.size<z.cells.size:=Nat.mod_lt _ hpos
          rw [Array.length_toList] at hj
          obtain ⟨v', g1, g2⟩:=hzc _ v hj
          refine ⟨v', ?_, g2⟩
          rw [Array.getElem?_map, Array.getElem?_range, if_pos hlt]
          simp only [Option.map_some]
          rw [← g1, getElem!_pos z.cells (j % z.cells.size) hmod, Array.getElem?_eq_getElem hmod]
        obtain ⟨r', k1, k2⟩:=fill_ok (μ:=μ) ps ps'.toList _ _ cs hp hz0 hcs
        have hcl:cs.length=len * P.cellsOf e:=by rw [aFill_length _ _ _ hcs]; simp [h2]
        refine ⟨_, .slice (some ⟨w.heap.size, 0, none⟩) len len, _, _, w.alloc (.cells r' e), ?_, h7, Mu.put_le hr.fresh ⟨w.heap.size, 0, len * P.cellsOf e, P.cellsOf e⟩, ?_, ?_⟩
        · simp only [Instr.buildSlice, Sem.run_bind, run_und ht, Result.andThen_ok, hsz]
          rw [if_neg (by omega)]
          by_cases hl:len * P.cellsOf e=0
          · have k1':=k1
            have e0:∀ f:Nat→Value, (Array.range 0).map f=#[]:=fun f=>Array.ext (by simp) (fun i h1 h2=>by simp at h2)
            rw [hl, e0] at k1'
            simp [hl, hzr, e0, k1', newRow]
          · simp [hl, hzr, k1, newRow]
        · refine Rel.push (w:=w) hr rfl rfl rfl rfl rfl ⟨rfl, hr.size, _, e, (0, 0), Array.getElem?_push_size, ?_, ?_, by intro j _; simp, (k2.mono (Mu.put_le hr.fresh _)).cellsAt⟩
          · have:=k2.1; simp only; omega
          · simp only; omega
        · refine .slice (Mu.put_self _ _) ?_ (.inl (by simp))
          show len=_
          simp only [Nat.sub_zero]
          exact (Nat.mul_div_cancel _ (by omega)).symm
      · exact h.elim
    · exact h.elim
  · exact h.elim

end
end Go.Proofs.YtjhbbbcelnlnpaaGreatDoor
namespace Go.Proofs.YtjhbbbcelnlnpaaGreatDoor
open Go.RowKit

section
variable {P:Program} {B:Nat} {w0:World} {μ:Mu} {H:AH} {w:World}

theorem repl_length (zc:List Value) (n:Nat):(repl zc n).length=n * zc.length:=by
  unfold repl; rw [List.length_flatten, List.map_replicate, List.sum_replicate_nat]
theorem makeSlice_ok (hr:Rel B w0 μ H w) {t:TypeId} {l c l' c':Value} (hl:VR μ l l') (hc:VR μ c c') {K:KV} (h:aMakeSlice P t l c H K):SemOK P B w0 μ w (Instr.makeSlice t l' c') K:=by
  unfold aMakeSlice at h
  split at h
  · rename_i e he
    split at h
    · rename_i z hz
      split at h
      · rename_i kl l kc c
        obtain ⟨h1, h2, h3, h4, h5, h6, h7, h8, h9⟩:=h
        cases hl; cases hc
        obtain ⟨i, hi, hz⟩:=Option.bind_eq_some_iff.1 hz
        have hsz:P.cellsOf e=i.size:=by simp [Program.cellsOf, hi]
        have hby:P.bytesOf e=i.bytes:=by simp [Program.bytesOf, hi]
        have hzl:z.cells.size=i.size:=h2.trans hsz
        have hrun:=run_make (P:=P) w t e i z he hi hz kl kc l c h5 h6 (by rw [← hby]; exact h7) h8
        have hle:=Mu.put_le hr.fresh ⟨w.heap.size, 0, c.toNat * i.size, i.size⟩
        have hpos:0<i.size:=by rw [← hsz]; omega
        have hlc:l.toNat≤c.toNat:=by omega
        have hmul:l.toNat * i.size≤c.toNat * i.size:=Nat.mul_le_mul_right _ hlc
        have hvz:VR μ z z:=VR.const h1
        refine ⟨_, _, _, _, _, hrun, h9, hle, ?_, ?_⟩
        · refine Rel.push (p:=⟨w.heap.size, 0, c.toNat * i.size, i.size⟩) (w:=w) (obj:=.cells (madeCells z.cells (c.toNat * i.size)) e) hr rfl rfl rfl rfl rfl ?_
          refine ⟨hsz.symm, hr.size, madeCells z.cells (c.toNat * i.size), e, (0, 0), by show (w.heap.push _)[_]?=_; simp, by simp [madeCells], by rw [repl_length, Array.length_toList, hzl]; exact hmul, fun j hj=>by simp, ?_⟩
          intro j v hv
          have hjl:j<l.toNat * i.size:=by
            have:=(List.getElem?_eq_some_iff.1 hv).1
            rw [repl_length, Array.length_toList, hzl] at this; exact this
          unfold repl at hv
          rw [rep_at _ _ _ (by rw [Array.length_toList, hzl]; exact hjl), Array.length_toList, hzl] at hv
          refine ⟨v, ?_, ?_⟩
          · simp only [Nat.zero_add, madeCells]
            have hj2:j<c.toNat * i.size:=by omega
            have hm:j % i.size<z.cells.size:=by rw [hzl]; exact Nat.mod_lt _ hpos
            rw [Array.getElem?_map, Array.getElem?_range]
            simp only [hj2, if_true, Option.map_some, hzl]
            rw [Array.getElem?_toList] at hv
            rw [← hv, Array.getElem?_eq_getElem hm, getElem!_pos z.cells _ hm]
          · obtain ⟨v', g1, g2⟩:=(vr_cells (VR.const (μ:=μ.put H.next ⟨w.heap.size, 0, c.toNat * i.size, i.size⟩) h1)).2 _ v hv
            rw [← Array.getElem?_toList, hv] at g1
            cases g1
            exact g2
        · refine .slice (Mu.put_self _ _) ?_ (.inl (by simp))
          simp [capOf, Nat.mul_div_cancel _ hpos]
      · exact h.elim
    · exact h.elim
  · exact h.elim

theorem byteCells_take (s:ByteArray) (n:Nat) (h:n≤s.size):(byteCells s).take n=byteCells (s.extract 0 n):=by
  unfold byteCells
  rw [← List.map_take]
  congr 1
  simp [ByteArray.extract, ByteArray.copySlice, List.extract_eq_take_drop]

theorem copySrc_ok (hr:Rel B w0 μ H w) {esz m:Nat} {y y':Value} {new:List Value} (hy:VR μ y y') (h:copySrc H esz y=some (m, new)) :
    (Builtin.lenOf y').run P w=.ok m w∧new.length=m * esz∧∀ n, n≤m→∃ l:List Value, (Builtin.firstCells esz n y').run P w=.ok l.toArray w∧LR μ (new.take (n * esz)) l.toArray:=by
  unfold copySrc at h
  split at h
  · rename_i s
    split at h
    · rename_i he
      cases h
      cases hy
      subst he
      refine ⟨by simp [Builtin.lenOf], by rw [byteCells_length]; omega, fun n hn=>⟨byteCells (s.extract 0 n), ?_, ?_⟩⟩
      · simp only [Builtin.firstCells, Sem.run_pure]
        congr 2
        apply Array.ext'
        simp [byteCells]
      · rw [Nat.mul_one, byteCells_take s n hn]
        refine ⟨by simp, fun j v hv=>⟨v, by simpa using hv, ?_⟩⟩
        obtain ⟨_, rfl⟩:=byteCells_at _ j v hv
        exact .int _ _
    · cases h
  · rename_i b n c
    obtain ⟨l, hl, hm⟩:=Option.map_eq_some_iff.1 h
    cases hm
    cases hy with
    | nilslice =>
      simp only [sliceCells] at hl
      cases hl
      exact ⟨by simp [Builtin.lenOf], by simp, fun n hn=>⟨[], by simp [Builtin.firstCells], by simp [LR]⟩⟩
    | slice hp hc ha =>
      rename_i i k p a' cap
      simp only [sliceCells] at hl
      split at hl
      · rename_i cs hcs
        split at hl
        · rename_i hk
          cases hl
          refine ⟨by simp [Builtin.lenOf], by simp; omega, fun n' hn=>?_⟩
          have hmul:n' * esz≤m * esz:=Nat.mul_le_mul_right _ hn
          rcases ha with rfl | ⟨h0, h00⟩
          · obtain ⟨l, g1, g2, g3⟩:=piece_ok (P:=P) (k:=k) (n:=n' * esz) hr hp hcs (by omega)
            refine ⟨l, by simp only [Builtin.firstCells]; exact g1 w.drawn, ?_⟩
            rw [List.take_take, Nat.min_eq_left hmul]
            exact g3
          · have:n'=0:=by omega
            subst this
            exact ⟨[], by simp [Builtin.firstCells, loadCells, loadCellsFrom], by simp [LR]⟩
        · cases hl
      · cases hl
  · cases h

theorem copy_ok (hr:Rel B w0 μ H w) {t e ty:TypeId} {types:Array TypeId} (ht0:types[0]?=some t) (ht:P.underlying t=some (.slice e)) (h1:tyOK P e=true) {x y x' y':Value} (hx:VR μ x x') (hy:VR μ y y') {K:KV}
    (h:aCopy (P.cellsOf e) x y H K):SemOK P B w0 μ w (Builtin.copy_ types ty #[x', y']) K:=by
  obtain ⟨ti, _, _, _, _, hsz⟩:=run_info (w:=w) h1
  unfold aCopy at h
  split at h
  · exact h.elim
  · rename_i m new hsrc
    obtain ⟨hlen, hnl, hfirst⟩:=copySrc_ok (P:=P) hr hy hsrc
    have none_case:∀ (b:Option Addr) (d cap:Nat), x'=.slice b d cap→min m d=0→K (.int .i64 0) H→SemOK P B w0 μ w (Builtin.copy_ types ty #[x', y']) K:=by
      intro b d cap hxe hmin hK
      obtain ⟨l, g1, g2⟩:=hfirst 0 (Nat.zero_le _)
      have hl0:l=[]:=by have:=g2.1; simp at this; exact List.length_eq_zero_iff.1 this.symm
      subst hl0
      refine ⟨.int .i64 0, .int .i64 0, H, μ, w, ?_, hK, Mu.le_refl _, hr, .int _ _⟩
      have hmin':Nat.min m d=0:=hmin
      subst hxe
      simp only [Builtin.copy_, ht0, List.getElem?_toArray, List.getElem?_cons_zero, List.getElem?_cons_succ, Sem.run_bind, run_und ht, Result.andThen_ok, hlen, hsz, hmin', g1]
      cases b <;> simp [storeCells, goInt]
    split at h
    · cases hx
      exact none_case none 0 0 rfl (by simp) h
    · rename_i i k d c0
      cases hx with
      | slice hp hc ha =>
        rename_i p a' cap
        split at h
        · rename_i hmin
          exact none_case _ d cap rfl hmin h
        · rename_i n hmin
          split at h
          · rename_i cs es hg
            obtain ⟨h2, h3, h4⟩:=h
            have hd:0<d:=by omega
            rcases ha with rfl | ⟨h0, _⟩
            · obtain ⟨q, hq, hE, hB, cc, tyy, fz, g1, g2, g3, g4, g5⟩:=hr.obj i _ hg
              rw [hp] at hq; cases hq
              obtain ⟨l, k1, k2⟩:=hfirst (n + 1) (by omega)
              have hle:((n + 1) * P.cellsOf e)≤new.length:=by rw [hnl]; exact Nat.mul_le_mul_right _ (by omega)
              have htl:(new.take ((n + 1) * P.cellsOf e)).length=(n + 1) * P.cellsOf e:=by rw [List.length_take]; omega
              obtain ⟨w', c', s1, s2, s3, s4, s5, s6, s7, s8, s9, s10, s11⟩:=storeCells_ok (P:=P) (μ:=μ) ⟨p.block, p.off + k, none⟩ rfl (new.take ((n + 1) * P.cellsOf e)) l 0 k cs cc w k2 h3 g1 (by simp) g2 (by rw [htl]; omega) g3 g4 g5
              refine ⟨_, .int .i64 ((n + 1:Nat):Int), _, μ, w', ?_, h4, Mu.le_refl _, hr.set hp hg rfl rfl s2 s3 s4 s5 s6 (by unfold World.shape?; rw [g1, s7]; simp [s8]) ⟨hE, hB, c', tyy, fz, s7, by omega, by rw [setCells_length]; exact g3, g4, s9⟩, .int _ _⟩
              have hmin':Nat.min m d=n + 1:=hmin
              simp only [Builtin.copy_, ht0, List.getElem?_toArray, List.getElem?_cons_zero, List.getElem?_cons_succ, Sem.run_bind, run_und ht, Result.andThen_ok, hlen, hsz, hmin', k1, s1]
              simp [goInt]
            · omega
          · exact h.elim
    · exact h.elim
end
end Go.Proofs.YtjhbbbcelnlnpaaGreatDoor
