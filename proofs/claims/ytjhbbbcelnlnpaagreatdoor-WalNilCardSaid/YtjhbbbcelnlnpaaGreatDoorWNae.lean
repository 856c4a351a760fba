/- The rules of the small program logic are right: new objects, stores. -/
import Derived.Test.YtjhbbbcelnlnpaaGreatDoorWNad
namespace Go.Proofs.YtjhbbbcelnlnpaaGreatDoor
open Go.RowKit

def SemOK (P:Program) (B:Nat) (w0:World) (μ:Mu) (w:World) (s:Sem Value) (K:KV):Prop :=
  ∃ v cv H' μ' w', s.run P w=.ok cv w'∧K v H'∧Mu.le μ μ'∧Rel B w0 μ' H' w'∧VR μ' v cv

section
variable {P:Program} {B:Nat} {w0:World} {μ:Mu} {H:AH} {w:World}

theorem ReadOK.sem (hr:Rel B w0 μ H w) {s:Sem Value} {K:KV} (h:ReadOK P μ w s fun v=>K v H):SemOK P B w0 μ w s K :=
  let ⟨v, cv, h1, h2, h3⟩:=h; ⟨v, cv, H, μ, w, h1, h2, Mu.le_refl _, hr, h3⟩
theorem PureOK.sem (hr:Rel B w0 μ H w) {s:Sem Value} {K:KV} (h:PureOK P μ s fun v=>K v H):SemOK P B w0 μ w s K:=(h.read w).sem hr

theorem CellsAt.mono {μ ν:Mu} (h:Mu.le μ ν) {c:Array Value} {off:Nat} {cs:List Value} (k:CellsAt μ c off cs):CellsAt ν c off cs :=
  fun j v hj=>let ⟨v', h1, h2⟩:=k j v hj; ⟨v', h1, h2.mono h⟩

theorem ObjR.mono {ν:Mu} (h:Mu.le μ ν) {w':World} {p:Pl} {o:AObj} (k:ObjR B μ w p o) (hw:w'.heap[p.block]?=w.heap[p.block]?):ObjR B ν w' p o:=by
  cases o with
  | row cs e =>
    obtain ⟨h1, h2, c, ty, fz, h3, h4, h5, h6, h7⟩:=k
    exact ⟨h1, h2, c, ty, fz, hw.trans h3, h4, h5, h6, h7.mono h⟩
  | ro cs e =>
    obtain ⟨h1, c, ty, fz, h3, h4, h5, h7⟩:=k
    exact ⟨h1, c, ty, fz, hw.trans h3, h4, h5, h7.mono h⟩
  | map es cl =>
    obtain ⟨h1, en, h3, h4, h5⟩:=k
    exact ⟨h1, en, hw.trans h3, h4, fun j e he=>let ⟨e', h7, h8, h9, h10⟩:=h5 j e he; ⟨e', h7, h8.mono h, h9.mono h, h10⟩⟩
  | miter m since seen last =>
    obtain ⟨h0, h1, m', h3, h4⟩:=k
    exact ⟨h0, h1, m', hw.trans h3, h4.elim .inl fun ⟨i, q, g1, g2, g3⟩=>.inr ⟨i, q, g1, h _ _ g2, g3⟩⟩
  | siter s pos=>exact ⟨k.1, k.2.1, hw.trans k.2.2⟩
  | other o=>exact ⟨k.1, k.2.1, hw.trans k.2.2⟩

theorem ObjR.lt {p:Pl} {o:AObj} (k:ObjR B μ w p o):p.block<w.heap.size:=by
  cases o with
  | row cs e=>obtain ⟨_, _, c, ty, fz, h3, _⟩:=k; exact (Array.getElem?_eq_some_iff.1 h3).1
  | ro cs e=>obtain ⟨_, c, ty, fz, h3, _⟩:=k; exact (Array.getElem?_eq_some_iff.1 h3).1
  | map es cl=>obtain ⟨_, en, h3, _⟩:=k; exact (Array.getElem?_eq_some_iff.1 h3).1
  | miter m since seen last=>obtain ⟨_, _, m', h3, _⟩:=k; exact (Array.getElem?_eq_some_iff.1 h3).1
  | siter s pos=>exact (Array.getElem?_eq_some_iff.1 k.2.2).1
  | other o=>exact (Array.getElem?_eq_some_iff.1 k.2.2).1

theorem ObjR.base {p:Pl} {o:AObj} (k:ObjR B μ w p o) (h:o.rw=true):B≤p.block:=by
  cases o with
  | row cs e=>exact k.2.1
  | ro cs e=>cases h
  | map es cl=>exact k.1
  | siter s pos=>exact k.2.1
  | other o=>exact k.2.1
  | miter m since seen last=>exact k.2.1

def Mu.put (μ:Mu) (i:Nat) (p:Pl):Mu:=fun j=>if j=i then some p else μ j
theorem Mu.put_le (hf:∀ i p, μ i=some p→i<H.next) (p:Pl):Mu.le μ (μ.put H.next p):=fun i q hq=>by
  have:=hf i q hq
  unfold Mu.put
  rw [if_neg (by omega)]; exact hq
theorem Mu.put_self (i:Nat) (p:Pl):μ.put i p i=some p:=by simp [Mu.put]

theorem Rel.push (hr:Rel B w0 μ H w) {w':World} {obj:Obj} {o:AObj} {p:Pl} (hheap:w'.heap=w.heap.push obj) (hos:w'.os=w.os) (htape:w'.tape=w.tape) (hout:w'.output=w.output)
    (hp:p.block=w.heap.size) (ho:ObjR B (μ.put H.next p) w' p o):Rel B w0 (μ.put H.next p) (H.push o) w':=by
  have hle:=Mu.put_le hr.fresh p
  have hold:∀ b, b<w.heap.size→w'.heap[b]?=w.heap[b]?:=fun b hb=>by rw [hheap, Array.getElem?_push, if_neg (by omega)]
  have hget:∀ i o', (H.push o).get i=some o'→(i=H.next∧o'=o)∨(i ≠ H.next∧H.get i=some o'):=by
    intro i o' hi
    simp only [AH.push] at hi
    split at hi
    · rename_i e; cases hi; exact .inl ⟨e, rfl⟩
    · rename_i e; exact .inr ⟨e, hi⟩
  refine ⟨?_, ?_, ?_, ?_, ?_, fun i x hx=>let ⟨q, n, a, b, c⟩:=hr.tys i x hx; ⟨q, n, hle _ _ a, b, (shape_of (hold _ (shape_lt c))).trans c⟩⟩
  · refine hr.below.trans ⟨hos, htape, hout, by rw [hheap]; simp, fun k hk=>hold k ?_⟩
    have:=hr.size; omega
  · have:=hr.size; rw [hheap]; simp; omega
  · intro i q hq
    show i<H.next + 1
    unfold Mu.put at hq
    split at hq
    · omega
    · have:=hr.fresh i q hq; omega
  · intro i o' hi
    rcases hget i o' hi with ⟨rfl, rfl⟩ | ⟨hne, hi⟩
    · exact ⟨p, Mu.put_self _ _, ho⟩
    · obtain ⟨q, hq, hk⟩:=hr.obj i o' hi
      exact ⟨q, hle _ _ hq, hk.mono hle (hold _ hk.lt)⟩
  · intro i j o1 o2 q r hne hi hrw hj hq hr'
    rcases hget i o1 hi with ⟨rfl, rfl⟩ | ⟨hni, hi⟩
    · rcases hget j o2 hj with ⟨rfl, rfl⟩ | ⟨hnj, hj⟩
      · exact absurd rfl hne
      · rw [Mu.put_self] at hq; cases hq
        obtain ⟨r', h1, h2⟩:=hr.obj j o2 hj
        have:=hle _ _ h1
        rw [this] at hr'; cases hr'
        have:=h2.lt; omega
    · obtain ⟨q', h1, h2⟩:=hr.obj i o1 hi
      have:=hle _ _ h1
      rw [this] at hq; cases hq
      rcases hget j o2 hj with ⟨rfl, rfl⟩ | ⟨hnj, hj⟩
      · rw [Mu.put_self] at hr'; cases hr'
        have:=h2.lt; omega
      · obtain ⟨r', h3, h4⟩:=hr.obj j o2 hj
        have:=hle _ _ h3
        rw [this] at hr'; cases hr'
        exact hr.excl i j o1 o2 q r hne hi hrw hj h1 h3

theorem Rel.drop (hr:Rel B w0 μ H w) (i:Nat):Rel B w0 μ (H.drop i) w:=by
  have hget:∀ j o', (H.drop i).get j=some o'→H.get j=some o':=by
    intro j o' hj
    simp only [AH.drop] at hj
    split at hj
    · cases hj
    · exact hj
  exact ⟨hr.below, hr.size, hr.fresh, fun j o' hj=>hr.obj j o' (hget j o' hj), fun a b o1 o2 p q hne ha hrw hb=>hr.excl a b o1 o2 p q hne (hget a o1 ha) hrw (hget b o2 hb), hr.tys⟩

theorem Rel.drawn (hr:Rel B w0 μ H w) (n:Nat):Rel B w0 μ H { w with drawn:=n } :=
  ⟨hr.below.trans ⟨rfl, rfl, rfl, Nat.le_refl _, fun _ _=>rfl⟩, hr.size, hr.fresh, fun i o hi=>let ⟨p, h1, h2⟩:=hr.obj i o hi; ⟨p, h1, h2.mono (Mu.le_refl _) rfl⟩, hr.excl, hr.tys⟩

theorem Rel.set (hr:Rel B w0 μ H w) {w':World} {i:Nat} {o o':AObj} {p:Pl} (hp:μ i=some p) (hi:H.get i=some o) (hrw:o.rw=true) (hrw':o'.rw=true)
    (hos:w'.os=w.os) (htape:w'.tape=w.tape) (hout:w'.output=w.output) (hsize:w'.heap.size=w.heap.size)
    (hheap:∀ b, b ≠ p.block→w'.heap[b]?=w.heap[b]?) (hsh:w'.shape? p.block=w.shape? p.block) (ho:ObjR B μ w' p o'):Rel B w0 μ (H.set i o') w':=by
  have hB:B≤p.block:=by
    obtain ⟨q, hq, hk⟩:=hr.obj i o hi
    rw [hp] at hq; cases hq
    exact hk.base hrw
  have hget:∀ j x, (H.set i o').get j=some x→(j=i∧x=o')∨(j ≠ i∧H.get j=some x):=by
    intro j x hj
    simp only [AH.set] at hj
    split at hj
    · rename_i e; cases hj; exact .inl ⟨e, rfl⟩
    · rename_i e; exact .inr ⟨e, hj⟩
  refine ⟨?_, ?_, hr.fresh, ?_, ?_, fun i x hx=>?_⟩
  · exact hr.below.trans ⟨hos, htape, hout, by rw [hsize]; exact Nat.le_refl _, fun k hk=>hheap k (by omega)⟩
  · rw [hsize]; exact hr.size
  · intro j x hj
    rcases hget j x hj with ⟨rfl, rfl⟩ | ⟨hne, hj⟩
    · exact ⟨p, hp, ho⟩
    · obtain ⟨q, hq, hk⟩:=hr.obj j x hj
      exact ⟨q, hq, hk.mono (Mu.le_refl _) (hheap _ fun e=>hr.excl i j o x p q (fun h=>hne h.symm) hi hrw hj hp hq e.symm)⟩
  · intro a b x y q r hne ha hx hb hq hrr
    rcases hget a x ha with ⟨rfl, rfl⟩ | ⟨hna, ha1⟩
    · rcases hget b y hb with ⟨rfl, rfl⟩ | ⟨hnb, hb⟩
      · exact absurd rfl hne
      · exact hr.excl _ b o y q r hne hi hrw hb hq hrr
    · rcases hget b y hb with ⟨rfl, rfl⟩ | ⟨hnb, hb⟩
      · have:=hr.excl _ a o x r q (fun h=>hne h.symm) hi hrw ha1 hrr hq
        exact fun e=>this e.symm
      · exact hr.excl a b x y q r hne ha1 hx hb hq hrr
  · obtain ⟨q, n, h1, h2, h3⟩:=hr.tys i x hx
    refine ⟨q, n, h1, h2, ?_⟩
    by_cases e:q.block=p.block
    · rw [e] at h3 ⊢; exact hsh.trans h3
    · exact (shape_of (hheap _ e)).trans h3

theorem vr_cells {v v':Value} (h:VR μ v v'):LR μ v.cells.toList v'.cells:=by
  cases h with
  | agg h1 h2 =>
    refine ⟨by simpa [Value.cells] using h1, fun j v hv=>?_⟩
    rename_i cs cs'
    simp only [Value.cells] at hv ⊢
    rw [Array.getElem?_toList] at hv
    have hlt:=(Array.getElem?_eq_some_iff.1 hv).1
    obtain ⟨v', hv'⟩:∃ v', cs'[j]?=some v':=⟨cs'[j]'(by omega), by simp⟩
    exact ⟨v', hv', h2 _ _ _ hv hv'⟩
  | _ =>
    refine ⟨rfl, fun j v hv=>?_⟩
    simp only [Value.cells] at hv ⊢
    cases j with
    | zero=>simp at hv; subst hv; exact ⟨_, rfl, by constructor <;> assumption⟩
    | succ j=>simp at hv

theorem LR.cellsAt {l:List Value} {a:Array Value} (h:LR μ l a):CellsAt μ a 0 l:=fun j v hj=>by
  obtain ⟨v', h1, h2⟩:=h.2 j v hj
  exact ⟨v', by simpa using h1, h2⟩

theorem new_ok (hr:Rel B w0 μ H w) {t:TypeId} {v v':Value} (hv:VR μ v v') {K:KV} (h:aNew v H K) :
    SemOK P B w0 μ w (do pure (.pointer (some (← newVar t v')))) K:=by
  obtain ⟨h1, h2⟩:=h
  have hc:=vr_cells hv
  have hle:=Mu.put_le hr.fresh ⟨w.heap.size, 0, v.cells.toList.length, 0⟩
  refine ⟨_, .pointer (some ⟨w.heap.size, 0, none⟩), _, _, _, rfl, h2, hle, ?_, ?_⟩
  · refine hr.push rfl rfl rfl rfl rfl ⟨rfl, hr.size, v'.cells, t, (0, 0), by simp, ?_, Nat.le_refl _, by intro j _; simp, ?_⟩
    · have:=hc.1; simp at this ⊢; omega
    · exact (hc.mono hle).cellsAt
  · have:=VR.ptr (k:=0) (Mu.put_self (μ:=μ) H.next ⟨w.heap.size, 0, v.cells.toList.length, 0⟩)
    simpa using this

theorem newT_ok (hr:Rel B w0 μ H w) {t:TypeId} {v v':Value} (hv:VR μ v v') {K:KV} (h:aNewT P t v H K) :
    SemOK P B w0 μ w (do pure (.pointer (some (← newVar t v')))) K:=by
  unfold aNewT at h
  split at h
  · obtain ⟨h1, h2⟩:=h
    have hc:=vr_cells hv
    have hle:=Mu.put_le hr.fresh ⟨w.heap.size, 0, v.cells.toList.length, 0⟩
    refine ⟨_, .pointer (some ⟨w.heap.size, 0, none⟩), _, μ.put H.next ⟨w.heap.size, 0, v.cells.toList.length, 0⟩, w.alloc (.cells v'.cells t), rfl, h2, hle, ?_, ?_⟩
    · have hall:(w.alloc (.cells v'.cells t)).heap[w.heap.size]?=some (.cells v'.cells t (0, 0)):=by
        show (w.heap.push _)[w.heap.size]?=_
        exact Array.getElem?_push_size
      have hp:Rel B w0 (μ.put H.next ⟨w.heap.size, 0, v.cells.toList.length, 0⟩) (H.push (.row v.cells.toList 0)) (w.alloc (.cells v'.cells t)):=by
        refine hr.push rfl rfl rfl rfl rfl ⟨rfl, hr.size, v'.cells, t, (0, 0), hall, ?_, Nat.le_refl _, by intro j _; simp, ?_⟩
        · have:=hc.1; simp at this ⊢; omega
        · exact (hc.mono hle).cellsAt
      refine Rel.retype hp _ (fun x hx=>?_)
      cases hx
      exact ⟨_, v'.cells.size, Mu.put_self _ _, rfl, by unfold World.shape?; rw [hall]⟩
    · have:=VR.ptr (k:=0) (Mu.put_self (μ:=μ) H.next ⟨w.heap.size, 0, v.cells.toList.length, 0⟩)
      simpa using this
  · exact new_ok hr hv h
theorem alloc_ok (hr:Rel B w0 μ H w) {t:TypeId} {K:KV} (h:aAlloc P t H K):SemOK P B w0 μ w (Instr.alloc t true (.tuple #[])) K:=by
  unfold aAlloc at h
  split at h
  · rename_i z hz
    obtain ⟨h1, h2⟩:=h
    obtain ⟨i, hi, hz⟩:=Option.bind_eq_some_iff.1 hz
    obtain ⟨v, cv, H', μ', w', h3, h4, h5, h6, h7⟩:=newT_ok (P:=P) (t:=t) hr (VR.const h1) h2
    refine ⟨v, cv, H', μ', w', ?_, h4, h5, h6, h7⟩
    rw [← h3]
    simp [Instr.alloc, zeroValue, typeInfo, hi, hz]
  · exact h.elim

theorem vr_one {v v':Value} (h:VR μ v v') (k:oneCell v=true):v'.oneCell'=true:=by
  cases h <;> simp_all [oneCell, Value.oneCell']

theorem setCell_heap (w:World) (b o:Nat) (v:Value) {c:Array Value} {ty:TypeId} {fz:Nat × Nat} (h:w.heap[b]?=some (.cells c ty fz)) :
    (w.setCell ⟨b, o, none⟩ v).heap[b]?=some (.cells (c.setIfInBounds o v) ty fz):=by
  simp [World.setCell, Array.getElem?_modify, h]
theorem setCell_other (w:World) (b o:Nat) (v:Value) (b':Nat) (h:b' ≠ b):(w.setCell ⟨b, o, none⟩ v).heap[b']?=w.heap[b']?:=by
  simp only [World.setCell, Array.getElem?_modify]
  rw [if_neg (fun e=>h e.symm)]

theorem setCells_length (vs:List Value):∀ (cs:List Value) (k:Nat), (setCells cs k vs).length=cs.length:=by
  induction vs with
  | nil=>intro cs k; rfl
  | cons v vs ih=>intro cs k; simp [setCells, ih]

theorem storeCells_ok (a:Addr) (hs:a.spot=none) {ty:TypeId} {fz:Nat × Nat} {off:Nat} {cap:Nat} :
    ∀ (vs:List Value) (vs':List Value) (i k:Nat) (cs:List Value) (c:Array Value) (w:World), LR μ vs vs'.toArray →
    (vs.all oneCell)=true→w.heap[a.block]?=some (.cells c ty fz)→a.off + i=off + k→off + cap≤c.size→k + vs.length≤cap→cs.length≤cap →
    (∀ j, j<cap→¬ (fz.1≤off + j∧off + j<fz.2))→CellsAt μ c off cs →
    ∃ w' c', (storeCells a vs' i).run P w=.ok () w'∧w'.os=w.os∧w'.tape=w.tape∧w'.output=w.output∧w'.heap.size=w.heap.size∧(∀ b, b ≠ a.block→w'.heap[b]?=w.heap[b]?) ∧
      w'.heap[a.block]?=some (.cells c' ty fz)∧c'.size=c.size∧CellsAt μ c' off (setCells cs k vs)∧(∀ j, (j<off + k∨off + k + vs.length≤j)→c'[j]?=c[j]?) ∧
      (∀ j v, vs[j]?=some v→∃ v', c'[off + k + j]?=some v'∧VR μ v v'):=by
  intro vs
  induction vs with
  | nil =>
    intro vs' i k cs c w hl _ hw _ _ _ _ _ hc
    have:vs'=[]:=by have:=hl.1; simp at this; exact List.length_eq_zero_iff.1 this.symm
    subst this
    exact ⟨w, c, by simp [storeCells], rfl, rfl, rfl, rfl, fun _ _=>rfl, hw, rfl, hc, fun _ _=>rfl, by simp⟩
  | cons v vs ih =>
    intro vs' i k cs c w hl hone hw hoff hcap hk hcs hfz hc
    cases vs' with
    | nil=>have:=hl.1; simp at this
    | cons v' vs' =>
      have hv:VR μ v v':=by
        obtain ⟨x, h1, h2⟩:=hl.2 0 v rfl
        simp at h1; subst h1; exact h2
      have hl':LR μ vs vs'.toArray:=⟨by have:=hl.1; simpa using this, fun j x hx=>by
        obtain ⟨y, h1, h2⟩:=hl.2 (j + 1) x (by simpa using hx)
        exact ⟨y, by simpa using h1, h2⟩⟩
      simp only [List.all_cons, Bool.and_eq_true] at hone
      simp only [List.length_cons] at hk
      have hbound:off + k<c.size:=by omega
      have hcell:w.cell? ⟨a.block, off + k, none⟩=some c[off + k]:=by rw [cell_of hw]; simp [hbound]
      have hfr:w.frozen? ⟨a.block, off + k, none⟩=false:=by
        simp only [World.frozen?, hw]
        have:=hfz k (by omega)
        simpa using this
      have hc':CellsAt μ (c.setIfInBounds (off + k) v') off (cs.set k v):=by
        intro j x hx
        by_cases e:k=j
        · subst e
          have hlt:k<cs.length:=by have:=(List.getElem?_eq_some_iff.1 hx).1; simpa using this
          rw [List.getElem?_set_self hlt] at hx
          cases hx
          exact ⟨v', by rw [Array.getElem?_setIfInBounds]; simp [hbound], hv⟩
        · rw [List.getElem?_set_ne e] at hx
          obtain ⟨y, h1, h2⟩:=hc j x hx
          exact ⟨y, by rw [Array.getElem?_setIfInBounds, if_neg (by omega)]; exact h1, h2⟩
      obtain ⟨w', c', h1, h2, h3, h4, h5, h6, h7, h8, h9, h10, h11⟩:=ih vs' (i + 1) (k + 1) (cs.set k v) (c.setIfInBounds (off + k) v') (w.setCell ⟨a.block, off + k, none⟩ v') hl' hone.2
        (setCell_heap w _ _ _ hw) (by omega) (by simpa using hcap) (by omega) (by simpa using hcs) hfz hc'
      refine ⟨w', c', ?_, h2.trans rfl, h3.trans rfl, h4.trans rfl, h5.trans (by simp [World.setCell]), fun b hb=>(h6 b hb).trans (setCell_other _ _ _ _ _ hb), h7, by simpa using h8, h9, ?_, ?_⟩
      · simp only [storeCells, Sem.run_bind]
        rw [add_at _ _ hs, hoff, run_store _ _ _ _ _ (vr_one hv hone.1), hcell]
        simp only [hfr, Bool.false_eq_true, if_false, Result.andThen_ok]
        exact h1
      · intro j hj
        rw [h10 j (by simp only [List.length_cons] at hj; omega), Array.getElem?_setIfInBounds, if_neg (by simp only [List.length_cons] at hj; omega)]
      · intro j x hx
        cases j with
        | zero =>
          simp at hx; subst hx
          refine ⟨v', ?_, hv⟩
          rw [Nat.add_zero, h10 _ (.inl (by omega)), Array.getElem?_setIfInBounds]; simp [hbound]
        | succ j =>
          obtain ⟨y, h12, h13⟩:=h11 j x (by simpa using hx)
          exact ⟨y, by rw [← h12]; congr 1; omega, h13⟩

theorem store_ok (hr:Rel B w0 μ H w) {t:TypeId} {x v x' v':Value} (hx:VR μ x x') (hv:VR μ v v') {K:AH→Prop} (h:aStore P t x v H K) :
    ∃ H' w', (Instr.storeAt t x' v').run P w=.ok () w'∧K H'∧Rel B w0 μ H' w':=by
  unfold aStore at h
  split at h
  · rename_i i k
    cases hx with
    | ptr hp =>
      rename_i p
      split at h
      · rename_i cs e hg
        obtain ⟨h1, h2, h3, h4, h5⟩:=h
        obtain ⟨ti, _, _, _, _, hsz⟩:=run_info (w:=w) h1
        obtain ⟨q, hq, hE, hB, c, ty, fz, g1, g2, g3, g4, g5⟩:=hr.obj i _ hg
        rw [hp] at hq; cases hq
        have hl:=vr_cells hv
        have hsz':v'.cells.size=v.cells.size:=by have:=hl.1; simp at this; exact this.symm
        obtain ⟨w', c', s1, s2, s3, s4, s5, s6, s7, s8, s9, s10, s11⟩:=storeCells_ok (P:=P) (μ:=μ) ⟨p.block, p.off + k, none⟩ rfl v.cells.toList v'.cells.toList 0 k cs c w
          (by simpa using hl) h4 g1 (by simp) g2 (by simp; omega) g3 g4 g5
        refine ⟨_, w', ?_, h5, hr.set hp hg rfl rfl s2 s3 s4 s5 s6 ?_ ?_⟩
        · simp only [Instr.storeAt, Instr.sureAddr, storeVar, Sem.run_bind, Sem.run_pure, Result.andThen_ok, hsz]
          rw [if_neg (by rw [hsz', h2]; simp)]
          simpa using s1
        · unfold World.shape?; rw [g1, s7]; simp [s8]
        · exact ⟨hE, hB, c', ty, fz, s7, by omega, by rw [setCells_length]; exact g3, g4, s9⟩
      · exact h.elim
  · exact h.elim

end
end Go.Proofs.YtjhbbbcelnlnpaaGreatDoor
