/- The rules of the small program logic are right: reads, cuts, places. -/
import Derived.Test.YtjhbbbcelnlnpaaGreatDoorWNac
namespace Go.Proofs.YtjhbbbcelnlnpaaGreatDoor
open Go.RowKit

section
variable {P:Program} {μ:Mu} {w:World} {K:Value→Prop}

theorem und_struct {t:TypeId} (h:isStruct P t=true):(isAgg t).run P w=.ok true w:=by
  unfold isStruct at h
  split at h
  · rename_i fs hf; simp [isAgg, run_und hf]
  · rename_i n e hf; simp [isAgg, run_und hf]
  · cases h
theorem und_flat {t:TypeId} (hi:(P.underlying t).isSome=true) (h:isStruct P t=false):(isAgg t).run P w=.ok false w:=by
  obtain ⟨d, hd⟩:=Option.isSome_iff_exists.1 hi
  unfold isStruct at h
  cases d <;> simp_all [isAgg, run_und hd]

theorem vr_extract {cs cs':Array Value} (h1:cs.size=cs'.size) (h2:∀ (j:Nat) v v', cs[j]?=some v→cs'[j]?=some v'→VR μ v v') (a b:Nat) :
    VR μ (.agg (cs.extract a b)) (.agg (cs'.extract a b)):=by
  refine .agg (by simp [h1]) fun j v v' hv hv'=>?_
  rw [Array.getElem?_extract] at hv hv'
  rw [h1] at hv
  split at hv
  · rename_i hlt; rw [if_pos hlt] at hv'; exact h2 _ _ _ hv hv'
  · cases hv

theorem part_ok {t:TypeId} {cs cs':Array Value} {off:Nat} (h1:cs.size=cs'.size) (h2:∀ (j:Nat) v v', cs[j]?=some v→cs'[j]?=some v'→VR μ v v')
    (h:aPart P t cs off K):PureOK P μ (part t cs' off) K:=by
  unfold aPart at h
  cases hs:isStruct P t with
  | true =>
    rw [hs] at h
    obtain ⟨hi, h⟩:=h
    have hsz:=run_infoA hi
    exact ⟨_, _, fun w=>by simp [part, und_struct hs, hsz], h, vr_extract h1 h2 _ _⟩
  | false =>
    rw [hs] at h
    obtain ⟨hi, h⟩:=h
    split at h
    · rename_i v hv
      have hlt:=(Array.getElem?_eq_some_iff.1 hv).1
      obtain ⟨v', hv'⟩:∃ v', cs'[off]?=some v':=⟨cs'[off]'(by omega), by simp⟩
      exact ⟨v, v', fun w=>by simp [part, und_flat (und_of hi) hs, hv'], h, h2 _ _ _ hv hv'⟩
    · exact h.elim

theorem fieldOf_ok {t:TypeId} {x x':Value} {n:Nat} (hx:VR μ x x') (h:aFieldOf P t x n K):PureOK P μ (Instr.field t x' n) K:=by
  unfold aFieldOf at h
  split at h
  · rename_i fs hfs
    split at h
    · rename_i f hf
      split at h
      · cases hx with
        | agg h1 h2 =>
          obtain ⟨v, cv, h3, h4, h5⟩:=part_ok h1 h2 h
          exact ⟨v, cv, fun w=>by simp [Instr.field, run_und hfs, hf, asAgg, h3], h4, h5⟩
      · exact h.elim
    · exact h.elim
  · exact h.elim

theorem index_ok {t:TypeId} {x i x' i':Value} (hx:VR μ x x') (hi:VR μ i i') (h:aIndex P t x i K):PureOK P μ (Instr.index t x' i') K:=by
  unfold aIndex at h
  split at h
  · rename_i s k n
    cases hx; cases hi
    obtain ⟨h1, h2, h3, h4⟩:=h
    refine ⟨_, _, fun w=>?_, h4, .int _ _⟩
    have hs:s[n.toNat]?=some (s.data.toList.getD n.toNat 0):=by
      have hlt:n.toNat<s.size:=by omega
      have hl:s.data.toList.length=s.size:=by simp
      rw [getElem?_pos s n.toNat hlt, List.getD_eq_getElem?_getD, List.getElem?_eq_getElem (by omega)]
      simp; rfl
    simp [Instr.index, asIntOf, run_und h1, h2, hs]
  · exact h.elim

theorem indexAddr_ok {t:TypeId} {x i x' i':Value} (hx:VR μ x x') (hi:VR μ i i') (h:aIndexAddr P t x i K):PureOK P μ (Instr.indexAt t x' i') K:=by
  unfold aIndexAddr at h
  split at h
  · rename_i e he
    split at h
    · rename_i o k len c kd n
      cases hi
      cases hx with
      | slice hp hc ha =>
        rename_i p a cap
        obtain ⟨h1, h2, h3, h4⟩:=h
        have hsz:=run_infoA h1
        rcases ha with rfl | ⟨h0, _⟩
        · refine ⟨_, .pointer (some ⟨p.block, p.off + k + n.toNat * P.cellsOf e, none⟩), fun w=>?_, h4, by rw [Nat.add_assoc]; exact .ptr hp⟩
          simp only [Instr.indexAt, asIntOf, Sem.run_bind, Sem.run_pure, Result.andThen_ok, run_und he]
          rw [if_pos ⟨h2, h3⟩]
          simp only [Sem.run_bind, hsz, Result.andThen_ok, Sem.run_pure, Addr.add]
          by_cases hz:n.toNat * P.cellsOf e=0 <;> simp [hz]
        · omega
    · exact h.elim
  · exact h.elim

theorem maxmin_ok {mx:Bool} {args:List Value} {args':Array Value} {types:Array TypeId} {ty:TypeId} (ha:LR μ args args') (h:aMaxMin mx args K) :
    PureOK P μ (if mx then Builtin.max_ types ty args' else Builtin.min_ types ty args') K:=by
  unfold aMaxMin at h
  split at h
  · rename_i k a k' b
    obtain ⟨rfl, h⟩:=h
    obtain ⟨hsz, hv⟩:=ha
    obtain ⟨a', ha1, ha2⟩:=hv 0 _ rfl
    obtain ⟨b', hb1, hb2⟩:=hv 1 _ rfl
    cases ha2; cases hb2
    have hl:args'=#[.int k a, .int k b]:=by
      apply Array.ext
      · simpa using hsz.symm
      · intro j h1 h2
        have:j=0∨j=1:=by simp at h2; omega
        rcases this with rfl | rfl
        · rw [Array.getElem?_eq_getElem h1] at ha1; simpa using ha1
        · rw [Array.getElem?_eq_getElem h1] at hb1; simpa using hb1
    subst hl
    cases mx with
    | true=>exact ⟨_, _, fun w=>by simp [Builtin.max_, Builtin.max2], h, .int _ _⟩
    | false=>exact ⟨_, _, fun w=>by simp [Builtin.min_, Builtin.min2], h, .int _ _⟩
  · exact h.elim

end

section
variable {P:Program} {B:Nat} {w0:World} {μ:Mu} {H:AH} {w:World} {K:Value→Prop}

theorem cells_at (hr:Rel B w0 μ H w) {i:Nat} {cs:List Value} (h:H.cells i=some cs) :
    ∃ p c ty fz, μ i=some p∧w.heap[p.block]?=some (.cells c ty fz)∧p.off + p.cap≤c.size∧cs.length≤p.cap∧CellsAt μ c p.off cs:=by
  unfold AH.cells at h
  split at h
  · rename_i cs' e hg
    cases h
    obtain ⟨p, hp, hE, hB, c, ty, fz, h1, h2, h3, h4, h5⟩:=hr.obj i _ hg
    exact ⟨p, c, ty, fz, hp, h1, h2, h3, h5⟩
  · rename_i cs' e hg
    cases h
    obtain ⟨p, hp, hE, c, ty, fz, h1, h2, h3, h5⟩:=hr.obj i _ hg
    exact ⟨p, c, ty, fz, hp, h1, h2, h3, h5⟩
  · cases h

theorem cell_of {b:Nat} {c:Array Value} {ty:TypeId} {fz:Nat × Nat} (h:w.heap[b]?=some (.cells c ty fz)) (o:Nat):w.cell? ⟨b, o, none⟩=c[o]?:=by
  simp [World.cell?, h]

theorem add_at (a:Addr) (n:Nat) (h:a.spot=none):a.add n=⟨a.block, a.off + n, none⟩:=by
  unfold Addr.add
  split
  · rename_i h0; subst h0; cases a; simp_all
  · simp

theorem loadCellsFrom_ok (a:Addr) (hs:a.spot=none) {l:List Value}:∀ (n i:Nat) (acc:Array Value),
    (∀ j, j<n→∃ v', w.cell? ⟨a.block, a.off + (i + j), none⟩=some v'∧l[j]?=some v')→l.length=n →
    (loadCellsFrom a i n acc).run P w=.ok (acc ++ l.toArray) w:=by
  intro n
  induction n generalizing l with
  | zero =>
    intro i acc _ hl
    have:l=[]:=List.length_eq_zero_iff.1 hl
    subst this
    simp [loadCellsFrom]
  | succ n ih =>
    intro i acc hc hl
    cases l with
    | nil=>simp at hl
    | cons v l =>
      obtain ⟨v', h1, h2⟩:=hc 0 (by omega)
      simp at h2; subst h2
      simp only [loadCellsFrom, Sem.run_bind, run_load]
      rw [add_at _ _ hs]
      simp only [Nat.add_zero] at h1
      rw [h1]
      simp only [Result.andThen_ok]
      have:=ih (l:=l) (i + 1) (acc.push v) (fun j hj=>by
        obtain ⟨v'', h3, h4⟩:=hc (j + 1) (by omega)
        refine ⟨v'', ?_, by simpa using h4⟩
        rw [← h3]; congr 2; omega) (by simpa using hl)
      rw [this]
      simp

theorem loadCells_ok (a:Addr) (hs:a.spot=none) {l:List Value} {n:Nat} (hc:∀ j, j<n→∃ v', w.cell? ⟨a.block, a.off + j, none⟩=some v'∧l[j]?=some v') (hl:l.length=n) :
    (loadCells a n).run P w=.ok l.toArray w:=by
  have:=loadCellsFrom_ok (P:=P) (w:=w) a hs n 0 #[] (by simpa using hc) hl
  simpa [loadCells] using this

theorem piece_ok (hr:Rel B w0 μ H w) {i k n:Nat} {cs:List Value} {p:Pl} (hp:μ i=some p) (h:H.cells i=some cs) (hk:k + n≤cs.length) :
    ∃ l:List Value, (∀ dr, (loadCells ⟨p.block, p.off + k, none⟩ n).run P { w with drawn:=dr }=.ok l.toArray { w with drawn:=dr })∧l.length=n∧LR μ ((cs.drop k).take n) l.toArray:=by
  obtain ⟨p', c, ty, fz, hp', hc, h2, h3, h5⟩:=cells_at hr h
  rw [hp] at hp'; cases hp'
  refine ⟨(c.toList.drop (p.off + k)).take n, ?_, ?_, ?_⟩
  · intro dr
    apply loadCells_ok
    · rfl
    · intro j hj
      have hlt:p.off + k + j<c.size:=by omega
      refine ⟨c[p.off + k + j], ?_, ?_⟩
      · rw [cell_of (w:={ w with drawn:=dr }) hc]; simp [hlt]
      · rw [List.getElem?_take_of_lt hj, List.getElem?_drop]; simp [hlt]
    · simp; omega
  · simp; omega
  · refine ⟨by simp; omega, fun j v hj=>?_⟩
    have hjn:j<n:=by
      have:=(List.getElem?_eq_some_iff.1 hj).1; simp at this; omega
    rw [List.getElem?_take_of_lt hjn, List.getElem?_drop] at hj
    obtain ⟨v', h6, h7⟩:=h5 _ _ hj
    refine ⟨v', ?_, h7⟩
    rw [← Nat.add_assoc] at h6
    simp only [List.getElem?_toArray]
    rw [List.getElem?_take_of_lt hjn, List.getElem?_drop, Array.getElem?_toList]; exact h6

theorem load_ok (hr:Rel B w0 μ H w) {t:TypeId} {x x':Value} (hx:VR μ x x') (h:aLoad P t x H K):ReadOK P μ w (Instr.loadAt t x') K:=by
  unfold aLoad at h
  split at h
  · rename_i i k
    cases hx with
    | ptr hp =>
      rename_i p
      split at h
      · rename_i cs hcs
        split at h
        · rename_i hs
          obtain ⟨h1, h2, h3⟩:=h
          obtain ⟨ti, _, _, _, _, hsz⟩:=run_info (w:=w) h2
          obtain ⟨l, h4, h5, h6⟩:=piece_ok (P:=P) hr hp hcs h1
          replace h4:(loadCells ⟨p.block, p.off + k, none⟩ (P.cellsOf t)).run P w=.ok l.toArray w:=h4 w.drawn
          refine ⟨_, .agg l.toArray, ?_, h3, ?_⟩
          · simp only [Instr.loadAt, Instr.sureAddr, loadVar, Sem.run_bind, Sem.run_pure, Result.andThen_ok, und_struct hs, if_true, hsz, h4]
          · refine .agg (by simpa using h6.1) fun j v v' hv hv'=>?_
            obtain ⟨v'', h7, h8⟩:=h6.2 j v (by simpa using hv)
            rw [h7] at hv'; cases hv'; exact h8
        · rename_i hs
          obtain ⟨h2, h⟩:=h
          split at h
          · rename_i v hv
            obtain ⟨p', c, ty, fz, hp', hc, _, _, h5⟩:=cells_at hr hcs
            rw [hp] at hp'; cases hp'
            obtain ⟨v', h6, h7⟩:=h5 _ _ hv
            refine ⟨v, v', ?_, h, h7⟩
            simp only [Instr.loadAt, Instr.sureAddr, loadVar, Sem.run_bind, Sem.run_pure, Result.andThen_ok, und_flat (und_of h2) hs, Bool.false_eq_true, if_false, run_load, cell_of hc, h6]
          · exact h.elim
      · exact h.elim
  · exact h.elim

end
end Go.Proofs.YtjhbbbcelnlnpaaGreatDoor
