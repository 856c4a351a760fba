/- The rules of the small program logic are right: append, literals. -/
import Derived.Test.YtjhbbbcelnlnpaaGreatDoorWNaf
namespace Go.Proofs.YtjhbbbcelnlnpaaGreatDoor
open Go.RowKit

section
variable {P:Program} {B:Nat} {w0:World} {μ:Mu} {H:AH} {w:World}

theorem LR.append {l1 l2:List Value} {a1 a2:Array Value} (h1:LR μ l1 a1) (h2:LR μ l2 a2):LR μ (l1 ++ l2) (a1 ++ a2):=by
  refine ⟨by simp [h1.1, h2.1], fun j v hv=>?_⟩
  by_cases hj:j<l1.length
  · rw [List.getElem?_append_left hj] at hv
    obtain ⟨v', g1, g2⟩:=h1.2 j v hv
    exact ⟨v', by rw [Array.getElem?_append_left (by rw [← h1.1]; exact hj)]; exact g1, g2⟩
  · rw [List.getElem?_append_right (by omega)] at hv
    obtain ⟨v', g1, g2⟩:=h2.2 _ v hv
    refine ⟨v', ?_, g2⟩
    rw [Array.getElem?_append_right (by rw [← h1.1]; omega), ← h1.1]; exact g1

theorem Rel.replace (hr:Rel B w0 μ H w) {w':World} {i:Nat} {o o':AObj} {p p':Pl} (hp:μ i=some p) (hi:H.get i=some o) (hrw:o.rw=true) (hrw':o'.rw=true) (hb:p'.block=p.block)
    (hos:w'.os=w.os) (htape:w'.tape=w.tape) (hout:w'.output=w.output) (hsize:w'.heap.size=w.heap.size)
    (hheap:∀ b, b ≠ p.block→w'.heap[b]?=w.heap[b]?) (hsh:w'.shape? p.block=w.shape? p.block) (ho:ObjR B (μ.put H.next p') w' p' o'):Rel B w0 (μ.put H.next p') ((H.drop i).push o') w':=by
  have hle:=Mu.put_le hr.fresh p'
  have hB:B≤p.block:=by
    obtain ⟨q, hq, hk⟩:=hr.obj i o hi
    rw [hp] at hq; cases hq
    exact hk.base hrw
  have hget:∀ j x, ((H.drop i).push o').get j=some x→(j=H.next∧x=o')∨(j ≠ H.next∧j ≠ i∧H.get j=some x):=by
    intro j x hj
    have hE:((H.drop i).push o').get j=if j=H.next then some o' else if j=i then none else H.get j:=rfl
    rw [hE] at hj
    by_cases e:j=H.next
    · rw [if_pos e] at hj; cases hj; exact .inl ⟨e, rfl⟩
    · rw [if_neg e] at hj
      by_cases e2:j=i
      · rw [if_pos e2] at hj; cases hj
      · rw [if_neg e2] at hj; exact .inr ⟨e, e2, hj⟩
  refine ⟨?_, ?_, ?_, ?_, ?_, fun j x hx=>by
    obtain ⟨q, n, h1, h2, h3⟩:=hr.tys j x hx
    refine ⟨q, n, hle _ _ h1, h2, ?_⟩
    by_cases e:q.block=p.block
    · rw [e] at h3 ⊢; exact hsh.trans h3
    · exact (shape_of (hheap _ e)).trans h3⟩
  · exact hr.below.trans ⟨hos, htape, hout, by rw [hsize]; exact Nat.le_refl _, fun k hk=>hheap k (by omega)⟩
  · rw [hsize]; exact hr.size
  · intro j q hq
    show j<H.next + 1
    unfold Mu.put at hq
    split at hq
    · omega
    · have:=hr.fresh j q hq; omega
  · intro j x hj
    rcases hget j x hj with ⟨rfl, rfl⟩ | ⟨hne, hni, hj⟩
    · exact ⟨p', Mu.put_self _ _, ho⟩
    · obtain ⟨q, hq, hk⟩:=hr.obj j x hj
      exact ⟨q, hle _ _ hq, hk.mono hle (hheap _ fun e=>hr.excl i j o x p q (fun h=>hni h.symm) hi hrw hj hp hq e.symm)⟩
  · intro a b x y q r hne ha hx hb' hq hrr
    rcases hget a x ha with ⟨rfl, rfl⟩ | ⟨hna, hai, ha1⟩
    · rw [Mu.put_self] at hq; cases hq
      rcases hget b y hb' with ⟨rfl, rfl⟩ | ⟨hnb, hbi, hb1⟩
      · exact absurd rfl hne
      · obtain ⟨r', h1, h2⟩:=hr.obj b y hb1
        have:=hle _ _ h1
        rw [this] at hrr; cases hrr
        rw [hb]
        exact hr.excl i b o y p r (fun h=>hbi h.symm) hi hrw hb1 hp h1
    · obtain ⟨q', h1, h2⟩:=hr.obj a x ha1
      have:=hle _ _ h1
      rw [this] at hq; cases hq
      rcases hget b y hb' with ⟨rfl, rfl⟩ | ⟨hnb, hbi, hb1⟩
      · rw [Mu.put_self] at hrr; cases hrr
        rw [hb]
        exact fun e=>hr.excl i a o x p q (fun h=>hai h.symm) hi hrw ha1 hp h1 e.symm
      · obtain ⟨r', h3, h4⟩:=hr.obj b y hb1
        have:=hle _ _ h3
        rw [this] at hrr; cases hrr
        exact hr.excl a b x y q r hne ha1 hx hb1 h1 h3

theorem grown_ok (hr:Rel B w0 μ H w) {e:TypeId} {z:Value} {need oldCap:Nat} {cs:List Value} {l:List Value} (hz:z.cells.size=P.cellsOf e) (hpos:0<P.cellsOf e)
    (hl:LR μ cs l.toArray) (hlen:cs.length=need * P.cellsOf e) :
    let cap:=grownCap w need oldCap e
    let w':World:=(w.drew).alloc (.cells (l.toArray ++ Builtin.zeroCells z.cells (cap - need)) e)
    ∃ p, (p.off=0∧∃ n, w'.shape? p.block=some (e, n))∧Rel B w0 (μ.put H.next p) (H.push (.row cs (P.cellsOf e))) w'∧VR (μ.put H.next p) (.slice (some ⟨H.next, 0, none⟩) need 0) (.slice (some ⟨w.heap.size, 0, none⟩) need cap):=by
  intro cap w'
  have hge:need≤cap:=grownCap_ge w need oldCap e
  have hll:l.length=cs.length:=by have:=hl.1; simp at this; omega
  refine ⟨⟨w.heap.size, 0, cap * P.cellsOf e, P.cellsOf e⟩, ⟨rfl, _, by unfold World.shape?; simp only [w', World.alloc]; rw [show w.drew.heap=w.heap from rfl, Array.getElem?_push_size]⟩, ?_, ?_⟩
  · have hle:=Mu.put_le hr.fresh ⟨w.heap.size, 0, cap * P.cellsOf e, P.cellsOf e⟩
    refine Rel.push (w:=w) hr rfl rfl rfl rfl rfl ⟨rfl, hr.size, _, e, (0, 0), Array.getElem?_push_size, ?_, ?_, by intro j _; simp, ?_⟩
    · simp only [Array.size_append, List.size_toArray, size_zeroCells, hz, Nat.zero_add]
      rw [hll, hlen, ← Nat.add_mul]
      exact Nat.mul_le_mul_right _ (by omega)
    · rw [hlen]; exact Nat.mul_le_mul_right _ hge
    · intro j v hv
      obtain ⟨v', g1, g2⟩:=hl.2 j v hv
      refine ⟨v', ?_, g2.mono hle⟩
      rw [Nat.zero_add, Array.getElem?_append_left (by have:=(Array.getElem?_eq_some_iff.1 g1).1; exact this)]
      exact g1
  · refine .slice (Mu.put_self _ _) ?_ (.inl (by simp))
    show cap=_
    simp [Nat.mul_div_cancel _ hpos]

theorem run_append_any {t u e ty:TypeId} (ht:P.underlying t=some (.slice e)) {d:TypeDesc} (hu:P.underlying u=some d) (hd:d=.string∨∃ e', d=.slice e') (h1:tyOK P e=true)
    {z:Value} (hz:(P.info? e).bind (·.zero)=some z) {base:Option Addr} {sLen sCap n:Nat} {y':Value} {l lo:List Value} (hn:(Builtin.lenOf y').run P w=.ok n w)
    (hnew:∀ k, (Builtin.firstCells (P.cellsOf e) n y').run P { w with drawn:=k }=.ok l.toArray { w with drawn:=k })
    (hold:(Builtin.firstCells (P.cellsOf e) sLen (.slice base sLen sCap)).run P w.drew=.ok lo.toArray w.drew)
    (h63:sLen + n≤9223372036854775807) (hfit:(sLen + n) * P.bytesOf e≤140737488355328) :
    (Builtin.append_ #[t, u] ty #[.slice base sLen sCap, y']).run P w =
      if sLen + n≤sCap then (match base with
        | some a=>(storeCells (a.add (sLen * P.cellsOf e)) l).run P w
        | none=>.ok () w).andThen fun _ w'=>.ok (.slice base (sLen + n) sCap) w'
      else .ok (.slice (some ⟨w.heap.size, 0, none⟩) (sLen + n) (grownCap w (sLen + n) sCap e))
        (w.drew.alloc (.cells ((lo ++ l).toArray ++ Builtin.zeroCells z.cells (grownCap w (sLen + n) sCap e - (sLen + n))) e)):=by
  obtain ⟨i, hi, hsize, hbytes, hti, hsz⟩:=run_info (w:=w) h1
  rw [hi] at hz
  simp only [Option.bind_some] at hz
  have hnw:(Builtin.firstCells (P.cellsOf e) n y').run P w=.ok l.toArray w:=hnew w.drawn
  have hnw':(Builtin.firstCells (P.cellsOf e) n y').run P w.drew=.ok l.toArray w.drew:=hnew _
  have hsz':∀ w, (sizeOf e).run P w=.ok (P.cellsOf e) w:=by intro w; simp [sizeOf, typeInfo, hi, hsize]
  have hti':∀ w, (typeInfo e).run P w=.ok i w:=by intro w; simp [typeInfo, hi]
  have h63':¬ (9223372036854775807<((sLen:Int) + (n:Int))):=by omega
  have hb:¬ (sLen + n≤sCap)→¬ (281474976710656<Builtin.nextslicecap (sLen + n) sCap * i.bytes):=by
    intro hg
    have:=nextslicecap_le (need:=sLen + n) (old:=sCap) (by omega)
    have h2:Builtin.nextslicecap (sLen + n) sCap * i.bytes≤2 * (sLen + n) * i.bytes:=Nat.mul_le_mul_right _ this
    rw [hbytes] at h2 ⊢
    rw [Nat.mul_assoc] at h2
    omega
  by_cases hroom:sLen + n≤sCap
  · rw [if_pos hroom]
    rcases hd with rfl | ⟨e', rfl⟩
    · cases base with
      | none=>simp [Builtin.append_, run_und ht, run_und hu, hsz', hn, hroom, hnw]
      | some a=>simp [Builtin.append_, run_und ht, run_und hu, hsz', hn, hroom, hnw]
    · cases base with
      | none=>simp [Builtin.append_, run_und ht, run_und hu, hsz', hn, hroom, hnw]
      | some a=>simp [Builtin.append_, run_und ht, run_und hu, hsz', hn, hroom, hnw]
  · rw [if_neg hroom]
    have hb':=hb hroom
    have hzr:∀ w, (zeroValue e).run P w=.ok z w:=by intro w; simp [zeroValue, typeInfo, hi, hz]
    rcases hd with rfl | ⟨e', rfl⟩
    · simp [Builtin.append_, run_und ht, run_und hu, hsz', hti', hzr, hn, hroom, h63', hb', Question.forced, newRow, hold, hnw', grownCap]
      congr 2
      apply Array.ext'
      simp
    · simp [Builtin.append_, run_und ht, run_und hu, hsz', hti', hzr, hn, hroom, h63', hb', Question.forced, newRow, hold, hnw', grownCap]
      congr 2
      apply Array.ext'
      simp

theorem append_ok (hr:Rel B w0 μ H w) {t u e ty:TypeId} (ht:P.underlying t=some (.slice e)) {d:TypeDesc} (hu:P.underlying u=some d) (hd:d=.string∨∃ e', d=.slice e') {x x' y':Value} (hx:VR μ x x')
    {new:List Value} {n:Nat} {l:List Value} (hn:(Builtin.lenOf y').run P w=.ok n w) (hnew:∀ k, (Builtin.firstCells (P.cellsOf e) n y').run P { w with drawn:=k }=.ok l.toArray { w with drawn:=k })
    (hl:LR μ new l.toArray) {K:KV} (h:aAppend P e x new n H K):SemOK P B w0 μ w (Builtin.append_ #[t, u] ty #[x', y']) K:=by
  obtain ⟨h1, h2, h3, h4, h5, h⟩:=h
  have hpos:0<P.cellsOf e:=by omega
  obtain ⟨z, hz, hzs⟩:∃ z, (P.info? e).bind (·.zero)=some z∧z.cells.size=P.cellsOf e:=by
    cases hz:(P.info? e).bind (·.zero) with
    | none=>rw [hz] at h5; simp at h5
    | some z=>rw [hz] at h5; exact ⟨z, rfl, by simpa using h5⟩
  have hllen:l.length=new.length:=by have:=hl.1; simp at this; omega
  split at h
  · -- nil
    cases hx
    have hold:(Builtin.firstCells (P.cellsOf e) 0 (.slice none 0 0)).run P w.drew=.ok ([]:List Value).toArray w.drew:=by simp [Builtin.firstCells]
    split at h
    · refine ⟨_, .slice none 0 0, H, μ, w, ?_, h, Mu.le_refl _, hr, .nilslice⟩
      rw [run_append_any (ty:=ty) ht hu hd h1 hz hn hnew hold (by omega) (by omega)]
      simp
    · rename_i n
      obtain ⟨g1, g2, g3⟩:=h
      have hrun:=run_append_any (ty:=ty) ht hu hd h1 hz hn hnew hold (by omega) (by simpa using g1)
      rw [if_neg (by omega)] at hrun
      obtain ⟨p, ⟨q0, q3⟩, q1, q2⟩:=grown_ok (oldCap:=0) hr hzs hpos hl h3
      refine ⟨_, _, _, _, _, hrun, g3, Mu.put_le hr.fresh p, ?_, ?_⟩
      · refine Rel.retype (by simpa using q1) _ (fun x hx=>?_)
        cases hx
        obtain ⟨nn, q3⟩:=q3
        exact ⟨p, nn, Mu.put_self _ _, q0, by simpa using q3⟩
      · simpa using q2
  · rename_i i k len
    cases hx with
    | slice hp hcap ha =>
      rename_i p a cap
      split at h
      · rename_i cs es hg
        obtain ⟨g1, g2, g3, g4, g5⟩:=h
        subst g1
        obtain ⟨q, hq, hE, hB, c, ty', fz, r1, r2, r3, r4, r5⟩:=hr.obj i _ hg
        rw [hp] at hq; cases hq
        have hcapv:cap=(p.cap - k) / p.esz:=hcap
        rw [hE] at hcapv
        have hcells:H.cells i=some cs:=by simp [AH.cells, hg]
        -- the elder cells
        obtain ⟨lo, s1, s2, s3⟩:=piece_ok (P:=P) (k:=k) (n:=len * P.cellsOf e) hr hp hcells (by omega)
        have hdrop:(cs.drop k).take (len * P.cellsOf e)=cs.drop k:=List.take_of_length_le (by simp; omega)
        rw [hdrop] at s3
        have hold:(Builtin.firstCells (P.cellsOf e) len (.slice (some a) len cap)).run P w.drew=.ok lo.toArray w.drew:=by
          simp only [Builtin.firstCells]
          rcases ha with rfl | ⟨h0, _⟩
          · exact s1 (w.drawn + 1)
          · subst h0
            have:lo=[]:=List.length_eq_zero_iff.1 (by simpa using s2)
            subst this
            simp [loadCells, loadCellsFrom]
        have hrun:=run_append_any (ty:=ty) ht hu hd h1 hz hn hnew hold g4 g3
        by_cases hroom:len + n≤cap
        · rw [if_pos hroom] at hrun
          -- there is room
          have hmul:cap * P.cellsOf e≤p.cap - k:=by rw [hcapv]; exact Nat.div_mul_le_self _ _
          have hmul2:(len + n) * P.cellsOf e≤cap * P.cellsOf e:=Nat.mul_le_mul_right _ hroom
          rw [Nat.add_mul] at hmul2
          by_cases hne:n=0
          · subst hne
            have hl0:l=[]:=List.length_eq_zero_iff.1 (by rw [hllen, h3]; simp)
            have hn0:new=[]:=List.length_eq_zero_iff.1 (by rw [h3]; simp)
            subst hl0; subst hn0
            have hst:(storeCells (a.add (len * P.cellsOf e)) []).run P w=.ok () w:=by simp [storeCells]
            simp only [hst, Result.andThen_ok] at hrun
            refine ⟨_, _, _, _, w, hrun, g5, Mu.put_le hr.fresh ⟨p.block, p.off + k, p.cap - k, p.esz⟩, ?_, ?_⟩
            · refine Rel.retype (?_:Rel _ _ _ ((H.drop i).push _) _) _ (fun x hx=>?_)
              rotate_left
              · obtain ⟨rfl, e1, rfl⟩:=grownTy_of hx
                obtain ⟨q, nn, z1, z2, z3⟩:=hr.tys i _ e1
                rw [hp] at z1; cases z1
                exact ⟨_, nn, Mu.put_self _ _, by simpa using z2, z3⟩
              refine hr.replace hp hg rfl rfl rfl rfl rfl rfl rfl (fun _ _=>rfl) rfl ⟨hE, hB, c, ty', fz, r1, by simp only; omega, by simp; omega, ?_, ?_⟩
              · intro j hj
                simp only at hj ⊢
                have:=r4 (k + j) (by omega)
                rw [Nat.add_assoc]; exact this
              · intro j v hv
                simp only [List.append_nil, List.getElem?_drop] at hv
                obtain ⟨v', x1, x2⟩:=r5 _ _ hv
                exact ⟨v', by rw [Nat.add_assoc]; exact x1, x2.mono (Mu.put_le hr.fresh _)⟩
            · refine .slice (Mu.put_self _ _) ?_ ?_
              · show cap=_
                simp only [Nat.sub_zero]; rw [hE]; exact hcapv
              · rcases ha with rfl | ⟨e1, e2⟩
                · exact .inl (by simp)
                · exact .inr ⟨by omega, e2⟩
          · have ha':a=⟨p.block, p.off + k, none⟩:=by
              rcases ha with h | ⟨h0, h00⟩
              · exact h
              · omega
            subst ha'
            have hadd:(⟨p.block, p.off + k, none⟩:Addr).add (len * P.cellsOf e)=⟨p.block, p.off + k + len * P.cellsOf e, none⟩:=add_at _ _ rfl
            simp only [hadd] at hrun
            have hkc:k≤cs.length:=by omega
            obtain ⟨w', c', t1, t2, t3, t4, t5, t6, t7, t8, t9, t10, t11⟩:=storeCells_ok (P:=P) (μ:=μ) (off:=p.off) (cap:=p.cap) ⟨p.block, p.off + k + len * P.cellsOf e, none⟩ rfl new l 0 (k + len * P.cellsOf e) cs c w
              hl h4 r1 (by simp [Nat.add_assoc]) r2 (by rw [h3]; omega) r3 r4 r5
            simp only [t1, Result.andThen_ok] at hrun
            refine ⟨_, _, _, _, w', hrun, g5, Mu.put_le hr.fresh ⟨p.block, p.off + k, p.cap - k, p.esz⟩, ?_, ?_⟩
            · refine Rel.retype (?_:Rel _ _ _ ((H.drop i).push _) _) _ (fun x hx=>?_)
              rotate_left
              · obtain ⟨rfl, e1, rfl⟩:=grownTy_of hx
                obtain ⟨q, nn, z1, z2, z3⟩:=hr.tys i _ e1
                rw [hp] at z1; cases z1
                exact ⟨_, nn, Mu.put_self _ _, by simpa using z2, (show w'.shape? p.block=w.shape? p.block by unfold World.shape?; rw [r1, t7]; simp [t8]).trans z3⟩
              refine hr.replace hp hg rfl rfl rfl t2 t3 t4 t5 t6 (by unfold World.shape?; rw [r1, t7]; simp [t8]) ⟨hE, hB, c', ty', fz, t7, by simp only; omega, by simp; omega, ?_, ?_⟩
              · intro j hj
                simp only at hj ⊢
                have:=r4 (k + j) (by omega)
                rw [Nat.add_assoc]; exact this
              · intro j v hv
                have hle:=Mu.put_le hr.fresh (⟨p.block, p.off + k, p.cap - k, p.esz⟩:Pl)
                by_cases hj:j<(cs.drop k).length
                · rw [List.getElem?_append_left hj, List.getElem?_drop] at hv
                  obtain ⟨v', x1, x2⟩:=r5 _ _ hv
                  refine ⟨v', ?_, x2.mono hle⟩
                  simp only
                  rw [t10 _ (.inl (by simp at hj; omega)), Nat.add_assoc]; exact x1
                · rw [List.getElem?_append_right (by omega)] at hv
                  obtain ⟨v', x1, x2⟩:=t11 _ _ hv
                  refine ⟨v', ?_, x2.mono hle⟩
                  rw [← x1]
                  congr 1
                  simp at hj ⊢
                  omega
            · refine .slice (Mu.put_self _ _) ?_ (.inl (by simp))
              show cap=_
              simp only [Nat.sub_zero]; rw [hE]; exact hcapv
        · rw [if_neg hroom] at hrun
          obtain ⟨p', ⟨q0, q3⟩, q1, q2⟩:=grown_ok (e:=e) (need:=len + n) (cs:=cs.drop k ++ new) (l:=lo ++ l) (oldCap:=cap) (hr.drop i) hzs hpos (by simpa using s3.append hl)
            (by rw [List.length_append, List.length_drop, h3, Nat.add_mul]; omega)
          exact ⟨_, _, _, _, _, hrun, g5, Mu.put_le (H:=H.drop i) (hr.drop i).fresh p', Rel.retype q1 _ (fun x hx=>by
            obtain ⟨_, _, rfl⟩:=grownTy_of hx
            obtain ⟨nn, q3⟩:=q3
            exact ⟨p', nn, Mu.put_self _ _, q0, q3⟩), q2⟩
      · exact h.elim
  · rename_i i k len c
    obtain ⟨rfl, h⟩:=h
    split at h
    case h_2=>exact h.elim
    rename_i old hs
    rcases slice_cells (P:=P) hr hx hs with ⟨h', _⟩ | ⟨ad, cap, lo, rfl, k1, k2, k3⟩
    · cases h'
    have hcap:cap=c:=by
      cases hx with
      | slice hp hcap ha=>exact hcap
    subst hcap
    have hold:(Builtin.firstCells (P.cellsOf e) cap (.slice (some ad) cap cap)).run P w.drew=.ok lo.toArray w.drew:=by
      simp only [Builtin.firstCells]
      exact k1 (w.drawn + 1)
    split at h
    · have hl0:l=[]:=List.length_eq_zero_iff.1 (by rw [hllen, h3]; simp)
      subst hl0
      refine ⟨_, .slice (some ad) cap cap, H, μ, w, ?_, h, Mu.le_refl _, hr, hx⟩
      have hfit:(cap + 0) * P.bytesOf e≤140737488355328∨¬ (cap + 0) * P.bytesOf e≤140737488355328:=Classical.em _
      obtain ⟨i0, hi, hsize, hbytes, hti, hsz⟩:=run_info (w:=w) h1
      have hsz':∀ w, (sizeOf e).run P w=.ok (P.cellsOf e) w:=by intro w; simp [sizeOf, typeInfo, hi, hsize]
      have hnw:(Builtin.firstCells (P.cellsOf e) 0 y').run P w=.ok ([]:List Value).toArray w:=hnew w.drawn
      have hst:(storeCells (ad.add (cap * P.cellsOf e)) []).run P w=.ok () w:=by simp [storeCells]
      rcases hd with rfl | ⟨e', rfl⟩ <;> simp [Builtin.append_, run_und ht, run_und hu, hsz', hn, hnw, storeCells]
    · rename_i n
      obtain ⟨g1, g2, g3⟩:=h
      have hrun:=run_append_any (ty:=ty) ht hu hd h1 hz hn hnew hold g2 g1
      rw [if_neg (by omega)] at hrun
      obtain ⟨p', ⟨q0, q3⟩, q1, q2⟩:=grown_ok (e:=e) (need:=cap + (n + 1)) (cs:=old ++ new) (l:=lo ++ l) (oldCap:=cap) hr hzs hpos (by simpa using k3.append hl)
        (by
          have:=k3.1
          simp at this
          rw [List.length_append, h3, Nat.add_mul, this, k2])
      exact ⟨_, _, _, _, _, hrun, g3, Mu.put_le hr.fresh p', q1, q2⟩
  · exact h.elim

end
end Go.Proofs.YtjhbbbcelnlnpaaGreatDoor
