/- The rules of the small program logic are right: texts, cuts, append, literals. The rules of the small program logic are right: cuts, append, literals. -/
import Derived.Test.YtjhbbbcelnlnpaaGreatDoorWNae
import Derived.Lib.ConvBytes
namespace Go.Proofs.YtjhbbbcelnlnpaaGreatDoor
open Go.RowKit

section
variable {P:Program} {B:Nat} {w0:World} {μ:Mu} {H:AH} {w:World}

theorem byteCells_length (s:ByteArray):(byteCells s).length=s.size:=by simp [byteCells]
theorem byteCells_at (s:ByteArray) (j:Nat) (v:Value) (h:(byteCells s)[j]?=some v):j<s.size∧v=.int .u8 (s.data.toList.getD j 0).toNat:=by
  have hlt:=(List.getElem?_eq_some_iff.1 h).1
  rw [byteCells_length] at hlt
  refine ⟨hlt, ?_⟩
  simp only [byteCells, List.getElem?_map, Option.map_eq_some_iff] at h
  obtain ⟨b, hb, rfl⟩:=h
  rw [List.getD_eq_getElem?_getD, hb]; rfl

theorem bytes_ok (hr:Rel B w0 μ H w) {src dst e:TypeId} (hs:P.underlying src=some .string) (hd:P.underlying dst=some (.slice e)) (he:P.underlying e=some (.int .u8)) (s:ByteArray) {K:KV}
    (h:K (.slice (some ⟨H.next, 0, none⟩) s.size 0) (H.push (.row (byteCells s) 1))):SemOK P B w0 μ w (convert src dst (.string s)) K:=by
  have hge:=grownCap_ge w s.size 0 e
  have hle:=Mu.put_le hr.fresh ⟨w.heap.size, 0, grownCap w s.size 0 e, 1⟩
  have hcs:(Lib.bytesCells w e s).size=grownCap w s.size 0 e:=by
    simp only [Lib.bytesCells, Array.size_append, Array.size_map, Array.size_replicate]
    show s.size + _=_
    omega
  have hcell:∀ j, j<s.size→(Lib.bytesCells w e s)[j]?=some (.int .u8 (s.data.toList.getD j 0).toNat):=by
    intro j hj
    have:=Lib.bytesWorld_cell w e s j hj
    simp only [World.cell?, Lib.bytesWorld_at_new] at this
    simpa using this
  refine ⟨_, _, _, _, _, Lib.run_convert_string_bytes w src dst e s hs hd he, h, hle, ?_, ?_⟩
  · refine Rel.push (p:=⟨w.heap.size, 0, grownCap w s.size 0 e, 1⟩) (w:=w) (obj:=.cells (Lib.bytesCells w e s) e ((Lib.bytesCells w e s).size, (Lib.bytesCells w e s).size + 1)) hr ?_ rfl rfl rfl rfl ?_
    · apply Array.ext_getElem?
      intro j
      by_cases hj:j<w.heap.size
      · rw [Lib.bytesWorld_at_old w e s j hj, Array.getElem?_push, if_neg (by omega)]
      · by_cases e1:j=w.heap.size
        · subst e1; rw [Lib.bytesWorld_at_new, Array.getElem?_push_size]
        · rw [Array.getElem?_eq_none (by rw [Lib.bytesWorld_size]; omega), Array.getElem?_eq_none (by simp; omega)]
    · refine ⟨rfl, hr.size, _, _, _, Lib.bytesWorld_at_new w e s, by simp [hcs], by rw [byteCells_length]; exact hge, ?_, ?_⟩
      · intro j hj
        simp only at hj ⊢
        rw [hcs]; omega
      · intro j v hv
        obtain ⟨hlt, rfl⟩:=byteCells_at s j v hv
        exact ⟨_, by rw [Nat.zero_add]; exact hcell j hlt, .int _ _⟩
  · exact .slice (Mu.put_self _ _) (by simp [capOf]) (.inl (by simp))

theorem foldl_push (ns:List Int):∀ (s:ByteArray), ns.foldl (fun r n=>r.push (UInt8.ofNat n.toNat)) s=⟨s.data ++ (ns.map fun n=>UInt8.ofNat n.toNat).toArray⟩:=by
  induction ns with
  | nil=>intro s; simp
  | cons n ns ih=>intro s; rw [List.foldl_cons, ih]; simp [ByteArray.push]

theorem slice_cells (hr:Rel B w0 μ H w) {esz n c:Nat} {a:Option Addr} {x':Value} (hx:VR μ (.slice a n c) x') {new:List Value} (h:sliceCells H esz (.slice a n c)=some new) :
    (a=none∧n=0∧new=[]∧x'=.slice none 0 0) ∨
    ∃ (ad:Addr) (cap:Nat) (l:List Value), x'=.slice (some ad) n cap∧(∀ dr, (loadCells ad (n * esz)).run P { w with drawn:=dr }=.ok l.toArray { w with drawn:=dr })∧l.length=n * esz∧LR μ new l.toArray:=by
  cases hx with
  | nilslice=>simp only [sliceCells] at h; exact .inl ⟨rfl, rfl, by simpa using h.symm, rfl⟩
  | slice hp hc ha =>
    rename_i i k p a' cap
    simp only [sliceCells] at h
    split at h
    · rename_i cs hcs
      split at h
      · rename_i hk
        cases h
        rcases ha with rfl | ⟨h0, h00⟩
        · obtain ⟨l, h1, h2, h3⟩:=piece_ok (P:=P) hr hp hcs hk
          exact .inr ⟨_, _, l, rfl, h1, h2, h3⟩
        · subst h0
          exact .inr ⟨a', cap, [], rfl, by simp [loadCells, loadCellsFrom], by simp, by simp [LR]⟩
      · cases h
    · cases h

theorem bytesStr_ok (hr:Rel B w0 μ H w) {a:Option Addr} {n c:Nat} {x':Value} (hx:VR μ (.slice a n c) x') {cs:List Value} (h:sliceCells H 1 (.slice a n c)=some cs) (hb:cs.all isByte=true) :
    (Conv.bytesToString x').run P w=.ok (.string (bytesOfCells cs)) w:=by
  rcases slice_cells (P:=P) hr hx h with ⟨rfl, rfl, rfl, rfl⟩ | ⟨ad, cap, l, rfl, h1, h2, h3⟩
  · simp [Conv.bytesToString, bytesOfCells]; rfl
  · replace h1:(loadCells ad (n * 1)).run P w=.ok l.toArray w:=h1 w.drawn
    have hlen:cs.length=l.length:=by simpa using h3.1
    have heq:l=cs:=by
      apply List.ext_getElem?
      intro j
      by_cases hj:j<cs.length
      · have hcj:cs[j]?=some cs[j]:=by simp [hj]
        obtain ⟨v', g1, g2⟩:=h3.2 j _ hcj
        have hby:isByte cs[j]=true:=List.all_eq_true.1 hb _ (List.getElem_mem hj)
        have:v'=cs[j]:=by
          cases hv:cs[j] with
          | int k m=>rw [hv] at g2; cases g2; rfl
          | _=>rw [hv] at hby; simp [isByte] at hby
        rw [hcj, ← this]
        simpa using g1
      · rw [List.getElem?_eq_none (by omega), List.getElem?_eq_none (by omega)]
    subst heq
    have hall:∀ v ∈ l, ∃ n, v=Value.int .u8 n:=by
      intro v hv
      have:=List.all_eq_true.1 hb v hv
      cases v with
      | int k m=>cases k <;> simp [isByte] at this; exact ⟨m, rfl⟩
      | _=>simp [isByte] at this
    have hns:l=(l.map intOf).map (Value.int .u8):=by
      rw [List.map_map]
      refine (List.map_congr_left (f:=id) fun v hv=>?_).symm.trans (by simp) |>.symm
      obtain ⟨m, rfl⟩:=hall v hv
      rfl
    rw [Nat.mul_one, hns] at h1
    rw [run_bytesToString w ad n cap _ h1, foldl_push]
    have hm:(l.map intOf).map (fun n:Int=>UInt8.ofNat n.toNat)=l.map (fun v=>match v with | .int _ n=>UInt8.ofNat n.toNat | _=>0):=by
      rw [List.map_map]
      exact List.map_congr_left fun v hv=>by obtain ⟨m, rfl⟩:=hall v hv; rfl
    rw [hm]
    have he:∀ (x:Array UInt8), ByteArray.empty.data ++ x=x:=fun x=>by show #[] ++ x=x; simp
    rw [he]
    rfl

theorem convert_ok (hr:Rel B w0 μ H w) {src dst:TypeId} {x x':Value} (hx:VR μ x x') {K:KV} (h:aConvert P src dst x H K):SemOK P B w0 μ w (convert src dst x') K:=by
  unfold aConvert at h
  split at h
  · rename_i k k0 n hd
    cases hx
    obtain ⟨h1, h2, h3⟩:=h
    obtain ⟨d, hs⟩:=Option.isSome_iff_exists.1 h2
    exact ReadOK.sem hr ⟨_, _, by simp [convert, run_und hs, run_und hd, Conv.intToInt], h3, .int _ _⟩
  · rename_i s hd
    cases hx
    obtain ⟨h2, h3⟩:=h
    obtain ⟨d, hs⟩:=Option.isSome_iff_exists.1 h2
    exact ReadOK.sem hr ⟨_, _, by simp [convert, run_und hs, run_und hd], h3, .string _⟩
  · rename_i e s hd
    cases hx
    obtain ⟨hs, h1, h2, h3, h4⟩:=h
    exact bytes_ok hr hs hd h2 s h4
  · rename_i a l c hd
    obtain ⟨⟨e, hs, he⟩, h⟩:=h
    split at h
    · rename_i cs hcs
      obtain ⟨h1, h2⟩:=h
      have hb:=bytesStr_ok (P:=P) hr hx hcs h1
      refine ReadOK.sem hr ⟨_, _, ?_, h2, .string _⟩
      cases hx with
      | nilslice=>rw [← hb]; simp [convert, run_und hs, run_und hd, run_und he]
      | slice _ _ _=>rw [← hb]; simp [convert, run_und hs, run_und hd, run_und he]
    · exact h.elim
  · exact h.elim

theorem len_ok (hr:Rel B w0 μ H w) {t:TypeId} {x:Value} {x':Value} {K:Value→Prop} {types:Array TypeId} {ty:TypeId} {args:Array Value} (ht:types[0]?=some t) (ha:args[0]?=some x') (hx:VR μ x x') (h:aLen P t x H K) :
    ReadOK P μ w (Builtin.len_ types ty args) K:=by
  unfold aLen at h
  split at h
  · cases hx
    exact ⟨_, _, by simp [Builtin.len_, ht, ha, run_und h.1]; rfl, h.2, .int _ _⟩
  · obtain ⟨⟨e, he⟩, h⟩:=h
    cases hx with
    | nilslice=>exact ⟨_, _, by simp [Builtin.len_, ht, ha, run_und he]; rfl, h, .int _ _⟩
    | slice _ _ _=>exact ⟨_, _, by simp [Builtin.len_, ht, ha, run_und he]; rfl, h, .int _ _⟩
  · obtain ⟨⟨k, e, he⟩, h⟩:=h
    cases hx
    exact ⟨_, _, by simp [Builtin.len_, ht, ha, run_und he]; rfl, h, .int _ _⟩
  · obtain ⟨⟨k, e, he⟩, h⟩:=h
    split at h
    · rename_i es hg
      cases hx with
      | map hp =>
        obtain ⟨p, hp', h1, en, h3, h4, h5⟩:=hr.obj _ _ hg
        rw [hp] at hp'; cases hp'
        refine ⟨_, _, ?_, h, .int _ _⟩
        simp [Builtin.len_, ht, ha, run_und he, getObj, Sem.run, h3, goInt, h4]
    · exact h.elim
  · exact h.elim

theorem len_pure {t:TypeId} {x:Value} {x':Value} {K:Value→Prop} {types:Array TypeId} {ty:TypeId} {args:Array Value} (ht:types[0]?=some t) (ha:args[0]?=some x') (hx:VR μ x x')
    (hs:(match P.underlying t with | some .string | some (.slice _)=>true | _=>false)=true) (h:aLen P t x H K):PureOK P μ (Builtin.len_ types ty args) K:=by
  unfold aLen at h
  split at h
  · cases hx
    exact ⟨_, _, fun w=>by simp [Builtin.len_, ht, ha, run_und h.1]; rfl, h.2, .int _ _⟩
  · obtain ⟨⟨e, he⟩, h⟩:=h
    cases hx with
    | nilslice=>exact ⟨_, _, fun w=>by simp [Builtin.len_, ht, ha, run_und he]; rfl, h, .int _ _⟩
    | slice _ _ _=>exact ⟨_, _, fun w=>by simp [Builtin.len_, ht, ha, run_und he]; rfl, h, .int _ _⟩
  · obtain ⟨⟨k, e, he⟩, h⟩:=h
    rw [he] at hs; simp at hs
  · obtain ⟨⟨k, e, he⟩, h⟩:=h
    rw [he] at hs; simp at hs
  · exact h.elim

end
end Go.Proofs.YtjhbbbcelnlnpaaGreatDoor
namespace Go.Proofs.YtjhbbbcelnlnpaaGreatDoor
open Go.RowKit

def OR (μ:Mu) (v v':Option Value):Prop:=(v=none∧v'=none)∨∃ x x', v=some x∧v'=some x'∧VR μ x x'

theorem OR.none' {μ:Mu} {v':Option Value} (h:OR μ none v'):v'=none:=by
  rcases h with ⟨_, h⟩ | ⟨_, _, h, _⟩
  · exact h
  · cases h
theorem OR.some' {μ:Mu} {x:Value} {v':Option Value} (h:OR μ (some x) v'):∃ x', v'=some x'∧VR μ x x':=by
  rcases h with ⟨h, _⟩ | ⟨y, y', h, h2, h3⟩
  · cases h
  · cases h; exact ⟨y', h2, h3⟩

section
variable {P:Program} {B:Nat} {w0:World} {μ:Mu} {H:AH} {w:World}

theorem bound_some {d:Nat} {x x':Value} {n:Int} (hx:VR μ x x') (h:bound d (some x)=some n):∃ k, x'=.int k n:=by
  cases hx <;> simp [bound] at h
  subst h
  exact ⟨_, rfl⟩
theorem bound_none {d:Nat} {n:Int} (h:bound d none=some n):n=d:=by simp [bound] at h; exact h.symm
theorem run_sb {k:IntKind} {n:Int} {y:Nat} {code:BoundsCode} (h0:0≤n) (h1:n≤y):(Instr.sliceBound (.int k n) y code).run P w=.ok n.toNat w:=by
  simp only [Instr.sliceBound, asIntOf, Sem.run_bind, Sem.run_pure, Result.andThen_ok]
  rw [if_pos ⟨h0, h1⟩]
  rfl

theorem bounds_ok {lo hi lo' hi':Option Value} (hlo:OR μ lo lo') (hhi:OR μ hi hi') {len cap:Nat} (is:Bool) {l h:Int} (h1:bound 0 lo=some l) (h2:bound len hi=some h)
    (h3:0≤l) (h4:l≤h) (h5:h≤len) (h6:len≤cap):(Instr.sliceBounds is len cap lo' hi' none).run P w=.ok (l.toNat, h.toNat, cap) w:=by
  have e0:((h.toNat:Nat):Int)=h:=by omega
  have eb:l≤((h.toNat:Nat):Int):=by omega
  have ec:h≤((cap:Nat):Int):=by omega
  rcases hlo with ⟨rfl, rfl⟩ | ⟨x, x', rfl, rfl, hx⟩
  · have:=bound_none h1
    subst this
    rcases hhi with ⟨rfl, rfl⟩ | ⟨y, y', rfl, rfl, hy⟩
    · have:=bound_none h2
      subst this
      simp [Instr.sliceBounds]
    · obtain ⟨k, rfl⟩:=bound_some hy h2
      simp [Instr.sliceBounds, run_sb (show 0≤h by omega) ec]
  · obtain ⟨k, rfl⟩:=bound_some hx h1
    rcases hhi with ⟨rfl, rfl⟩ | ⟨y, y', rfl, rfl, hy⟩
    · have:=bound_none h2
      subst this
      simp [Instr.sliceBounds, run_sb h3 h4]
    · obtain ⟨k, rfl⟩:=bound_some hy h2
      simp [Instr.sliceBounds, run_sb (show 0≤h by omega) ec, run_sb h3 eb]

theorem bounds3_ok {lo hi lo' hi':Option Value} (hlo:OR μ lo lo') (hhi:OR μ hi hi') {len cap:Nat} (is:Bool) {l h m:Int} {k:IntKind} (h1:bound 0 lo=some l) (h2:bound len hi=some h) (hs:hi.isSome=true)
    (h3:0≤l) (h4:l≤h) (h5:h≤m) (h6:m≤cap):(Instr.sliceBounds is len cap lo' hi' (some (.int k m))).run P w=.ok (l.toNat, h.toNat, m.toNat) w:=by
  have eb:l≤((h.toNat:Nat):Int):=by omega
  have em:h≤((m.toNat:Nat):Int):=by omega
  rcases hhi with ⟨rfl, rfl⟩ | ⟨y, y', rfl, rfl, hy⟩
  · simp at hs
  · obtain ⟨k, rfl⟩:=bound_some hy h2
    rcases hlo with ⟨rfl, rfl⟩ | ⟨x, x', rfl, rfl, hx⟩
    · have:=bound_none h1
      subst this
      simp [Instr.sliceBounds, run_sb (show 0≤m by omega) h6, run_sb (show 0≤h by omega) em]
    · obtain ⟨k, rfl⟩:=bound_some hx h1
      simp [Instr.sliceBounds, run_sb (show 0≤m by omega) h6, run_sb (show 0≤h by omega) em, run_sb h3 eb]

theorem capOf_le {p:Pl} {k c cap:Nat} (h:capOf p k c cap) (hc:c=0):cap=(p.cap - k) / p.esz:=by subst hc; exact h

theorem slice_ok (hr:Rel B w0 μ H w) {t:TypeId} {x x':Value} {lo hi mx lo' hi' mx':Option Value} (hx:VR μ x x') (hlo:OR μ lo lo') (hhi:OR μ hi hi') (hmx:OR μ mx mx') {K:Value→Prop}
    (h:aSlice P t x lo hi mx H K):PureOK P μ (Instr.sliceAt t x' lo' hi' mx') K:=by
  unfold aSlice at h
  split at h
  · rename_i ht
    split at h
    · rename_i s
      cases hx
      obtain rfl:=hmx.none'
      split at h
      · rename_i l hh hl hhe
        obtain ⟨h1, h2, h3, h4⟩:=h
        refine ⟨_, _, fun w=>?_, h4, .string _⟩
        have:=bounds_ok (P:=P) (w:=w) hlo hhi (cap:=s.size) false hl hhe h1 h2 h3 (Nat.le_refl _)
        simp [Instr.sliceAt, Instr.slice, run_und ht, this]
      · exact h.elim
    · exact h.elim
  · rename_i e ht
    split at h
    · cases hx with
      | nilslice =>
        split at h
        · rename_i l hh hl hhe
          obtain ⟨hte, rfl, rfl, h⟩:=h
          have hsz:=run_infoA hte
          obtain rfl:=hmx.none'
          have:=fun w=>bounds_ok (P:=P) (w:=w) hlo hhi (cap:=0) true hl hhe (by omega) (by omega) (by omega) (Nat.le_refl _)
          refine ⟨_, _, fun w=>?_, h, .nilslice⟩
          simp [Instr.sliceAt, Instr.slice, run_und ht, this, hsz]
        · rename_i l hh kk m hl hhe
          obtain ⟨hte, rfl, rfl, rfl, hs, h⟩:=h
          have hsz:=run_infoA hte
          obtain ⟨y', rfl, hy⟩:=hmx.some'
          cases hy
          have:=fun w=>bounds3_ok (P:=P) (w:=w) hlo hhi (cap:=0) (k:=kk) (m:=0) true hl hhe hs (by omega) (by omega) (by omega) (by omega)
          refine ⟨_, _, fun w=>?_, h, .nilslice⟩
          simp [Instr.sliceAt, Instr.slice, run_und ht, this, hsz]
        · exact h.elim
    · rename_i i k len c
      cases hx with
      | slice hp hcap ha =>
        rename_i p a cap
        split at h
        · rename_i l hh hl hhe
          obtain ⟨h1, h2, h3, h4, h5, ⟨cs, hcs, hlen⟩, h⟩:=h
          have hsz:=run_infoA h1
          have hpe:p.esz=P.cellsOf e∧cs.length≤p.cap:=by
            rcases hcs with hcs | hcs
            · obtain ⟨q, hq, hk⟩:=hr.obj _ _ hcs
              rw [hp] at hq; cases hq
              obtain ⟨g1, _, c', ty, fz, _, _, g5, _⟩:=hk
              exact ⟨g1, g5⟩
            · obtain ⟨q, hq, hk⟩:=hr.obj _ _ hcs
              rw [hp] at hq; cases hq
              obtain ⟨g1, c', ty, fz, _, _, g5, _⟩:=hk
              exact ⟨g1, g5⟩
          obtain ⟨hpe, hpc⟩:=hpe
          have hpos:0<P.cellsOf e:=by omega
          split at h
          · obtain rfl:=hmx.none'
            obtain ⟨hc0, h⟩:=h
            have hcapv:=capOf_le hcap hc0
            have hlc:len≤cap:=by
              rw [hcapv, hpe, Nat.le_div_iff_mul_le hpos]; omega
            have hb:=fun w=>bounds_ok (P:=P) (w:=w) hlo hhi (cap:=cap) true hl hhe h3 h4 h5 hlc
            refine ⟨_, .slice (some (if cap=l.toNat then a else a.add (l.toNat * P.cellsOf e))) (hh.toNat - l.toNat) (cap - l.toNat), fun w=>?_, h, ?_⟩
            · simp [Instr.sliceAt, Instr.slice, run_und ht, hb, hsz]
              split <;> rfl
            · have hn:(hh - l).toNat=hh.toNat - l.toNat:=by omega
              rw [hn]
              refine .slice hp ?_ ?_
              · show _=_
                rw [hcapv, hpe, Nat.sub_add_eq, Nat.mul_comm l.toNat, Nat.sub_mul_div]
              · by_cases e1:cap=l.toNat
                · exact .inr ⟨by omega, by omega⟩
                · refine .inl ?_
                  rw [if_neg e1]
                  rcases ha with rfl | ⟨g1, g2⟩
                  · rw [add_at _ _ rfl]; simp [Nat.add_assoc]
                  · omega
          · rename_i kk m
            obtain ⟨y', rfl, hy⟩:=hmx.some'
            cases hy
            obtain ⟨g1, g2, g3, hc0, h⟩:=h
            have hcapv:=capOf_le hcap hc0
            have hlc:len≤cap:=by
              rw [hcapv, hpe, Nat.le_div_iff_mul_le hpos]; omega
            have hb:=fun w=>bounds3_ok (P:=P) (w:=w) hlo hhi (cap:=cap) (k:=kk) true hl hhe g3 h3 h4 g1 (by omega)
            refine ⟨_, .slice (some (if m.toNat=l.toNat then a else a.add (l.toNat * P.cellsOf e))) (hh.toNat - l.toNat) (m.toNat - l.toNat), fun w=>?_, h, ?_⟩
            · simp only [Instr.sliceAt, Instr.slice, Sem.run_bind, run_und ht, Result.andThen_ok, hb, hsz, Sem.run_pure]
              split <;> rfl
            · have hn:(hh - l).toNat=hh.toNat - l.toNat:=by omega
              rw [hn]
              refine .slice hp ?_ ?_
              · show _=_
                omega
              · by_cases e1:m.toNat=l.toNat
                · exact .inr ⟨by omega, by omega⟩
                · refine .inl ?_
                  rw [if_neg e1]
                  rcases ha with rfl | ⟨g1, g2⟩
                  · rw [add_at _ _ rfl]; simp [Nat.add_assoc]
                  · omega
          · exact h.elim
        · exact h.elim
    · exact h.elim
  · exact h.elim

end
end Go.Proofs.YtjhbbbcelnlnpaaGreatDoor
