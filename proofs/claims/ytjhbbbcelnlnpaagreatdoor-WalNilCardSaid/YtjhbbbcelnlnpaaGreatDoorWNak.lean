/- The rules of the small program logic are right: maps. -/
import Derived.Test.YtjhbbbcelnlnpaaGreatDoorWNaf
import Derived.MapKept
namespace Go.Proofs.YtjhbbbcelnlnpaaGreatDoor
open Go.RowKit Go.MapKept

section
variable {P:Program} {B:Nat} {w0:World} {μ:Mu} {H:AH} {w:World}
theorem mapD_some {t:TypeId} {d:TypeDesc} {e:TypeId} (h:mapD P t=some (d, e)):∃ kt, P.underlying t=some (.map kt e)∧P.underlying kt=some d∧keyD d=true:=by
  unfold mapD at h
  split at h
  · rename_i k e' ht
    split at h
    · rename_i d' hk
      split at h
      · rename_i hd
        cases h
        exact ⟨k, ht, hk, hd⟩
      · cases h
    · cases h
  · cases h
theorem same_key {a a' b b':Value} {d:TypeDesc} {r:Bool} (ha:VR μ a a') (hb:VR μ b b') (h:Instr.sameNow d a b=some r):Instr.sameNow d a' b'=some r∧a'=a∧b'=b:=by
  cases d <;> cases ha <;> first | (simp [Instr.sameNow] at h; done) | skip
  all_goals cases hb <;> first | exact ⟨h, rfl, rfl⟩ | (simp [Instr.sameNow] at h)
theorem find_ok {d:TypeDesc} {k k':Value} (hk:VR μ k k'):∀ (es:List (Value × Value × Nat)) (en:List MapEntry) (i:Nat), es.length=en.length→(∀ (j:Nat) e, es[j]?=some e→∃ e', en[j]?=some e'∧VR μ e.1 e'.key∧VR μ e.2.1 e'.val∧e'.born=e.2.2) →
    ∀ r, mfind d k es i=some r→(r=none∧Instr.findNow d k' en i=some none)∨∃ j e e', r=some (i + j)∧es[j]?=some e∧en[j]?=some e'∧VR μ e.1 e'.key∧VR μ e.2.1 e'.val∧e'.born=e.2.2∧Instr.findNow d k' en i=some (some (i + j, e'.val))∧Instr.sameNow d k' e'.key=some true:=by
  intro es
  induction es with
  | nil =>
    intro en i hl he r h
    cases en with
    | nil=>simp only [mfind] at h; cases h; exact .inl ⟨rfl, rfl⟩
    | cons a en=>simp at hl
  | cons e es ih =>
    intro en i hl he r h
    cases en with
    | nil=>simp at hl
    | cons e' en =>
      obtain ⟨e2, h1, h2, h3, h4⟩:=he 0 e rfl
      simp at h1; subst h1
      simp only [mfind] at h
      cases hs:Instr.sameNow d k e.1 with
      | none=>rw [hs] at h; cases h
      | some b =>
        rw [hs] at h
        have hs':=(same_key hk h2 hs).1
        cases b with
        | true =>
          cases h
          exact .inr ⟨0, e, e', rfl, rfl, rfl, h2, h3, h4, by simp only [Instr.findNow, hs']; rfl, hs'⟩
        | false =>
          rcases ih en (i + 1) (by simpa using hl) (fun j e he'=>he (j + 1) e (by simpa using he')) r h with ⟨g1, g2⟩ | ⟨j, e3, e4, g1, g2, g3, g4, g5, g6, g7, g8⟩
          · exact .inl ⟨g1, by simp only [Instr.findNow, hs']; exact g2⟩
          · refine .inr ⟨j + 1, e3, e4, by rw [g1]; congr 1; omega, by simpa using g2, by simpa using g3, g4, g5, g6, ?_, g8⟩
            simp only [Instr.findNow, hs']
            rw [g7]; congr 3; omega
theorem ba_beq {a b:ByteArray} (h:(a == b)=true):a=b:=by
  obtain ⟨x⟩:=a
  obtain ⟨y⟩:=b
  have h2:(x == y)=true:=h
  rw [eq_of_beq h2]
theorem same_eq {d:TypeDesc} {a b:Value} (h:Instr.sameNow d a b=some true):b=a:=by
  cases d <;> cases a <;> first | (simp [Instr.sameNow] at h; done) | skip
  all_goals cases b <;> first | (simp [Instr.sameNow] at h; done) | skip
  · simp [Instr.sameNow] at h; rw [h]
  · rename_i k n k' n'
    simp only [Instr.sameNow] at h
    split at h
    · rename_i e; subst e; simp at h; rw [h]
    · cases h
  · rename_i s t
    simp only [Instr.sameNow, Option.some.injEq] at h
    rw [ba_beq h]
theorem isKey_of {d:TypeDesc} {k k':Value} (hk:VR μ k k') (h:isKeyD d k=true):k'=k∧IsKey d k':=by
  cases d <;> cases hk <;> simp [isKeyD] at h <;> first | exact ⟨rfl, h⟩ | exact ⟨rfl, trivial⟩
theorem run_zero {e:TypeId} {z:Value} (h:(P.info? e).bind (·.zero)=some z) (w:World):(zeroValue e).run P w=.ok z w:=by
  obtain ⟨i, hi, hz⟩:=Option.bind_eq_some_iff.1 h
  simp [zeroValue, typeInfo, hi, hz]
theorem lookup_ok (hr:Rel B w0 μ H w) {t:TypeId} {x x' k k':Value} {ok:Bool} {K:Value→Prop} (hx:VR μ x x') (hk:VR μ k k') (h:aLookup P t x k ok H K):ReadOK P μ w (Instr.lookup t x' k' ok) K:=by
  unfold aLookup at h
  split at h
  case h_2=>exact h.elim
  rename_i d e hd
  split at h
  case h_2=>exact h.elim
  rename_i z hz
  obtain ⟨hc, hkd, h⟩:=h
  obtain ⟨kt, ht, hkt, _⟩:=mapD_some hd
  obtain ⟨rfl, hik⟩:=isKey_of hk hkd
  have hz':=run_zero (P:=P) hz w
  have hvz:VR μ z z:=VR.const hc
  have fin:∀ (v v':Value) (b:Bool), VR μ v v'→K (okV ok v b)→∃ a a', (if ok=true then Value.tuple #[v', .bool b] else v')=a'∧K a∧VR μ a a':=by
    intro v v' b hv hK
    cases ok with
    | false=>exact ⟨v, v', rfl, hK, hv⟩
    | true =>
      refine ⟨_, _, rfl, hK, .tuple rfl fun j a b h1 h2=>?_⟩
      match j, h1, h2 with
      | 0, h1, h2=>simp at h1 h2; subst h1; subst h2; exact hv
      | 1, h1, h2=>simp at h1 h2; subst h1; subst h2; exact .bool _
      | j + 2, h1, h2=>simp at h1
  split at h
  case h_2=>exact h.elim
  rename_i m
  unfold wLk at h
  cases m with
  | none =>
    cases hx
    replace h:K (okV ok z false):=h
    obtain ⟨a, a', h1, h2, h3⟩:=fin z z false hvz h
    refine ⟨a, a', ?_, h2, h3⟩
    have hf:(Instr.findKey kt k' []).run P w=.ok none w:=run_findKey hkt rfl
    simp only [Instr.lookup, Sem.run_bind, run_und ht, Result.andThen_ok, Sem.run_pure, run_checkKey hkt hik]
    show Result.andThen ((Instr.findKey kt k' []).run P w) _=_
    rw [hf]
    simp only [Result.andThen_ok, Sem.run_bind, hz', Sem.run_pure]
    rw [← h1]
  | some i =>
    dsimp only at h
    split at h
    case h_2=>exact h.elim
    rename_i es cl hg
    cases hx with
    | map hp =>
      rename_i p
      obtain ⟨q, hq, hB, en, hh, hsz, hent⟩:=hr.obj i _ hg
      rw [hp] at hq; cases hq
      have hent':∀ (j:Nat) e, es[j]?=some e→∃ e', en.toList[j]?=some e'∧VR μ e.1 e'.key∧VR μ e.2.1 e'.val∧e'.born=e.2.2:=fun j e he=>by
        obtain ⟨e', g1, g2⟩:=hent j e he
        exact ⟨e', by rw [Array.getElem?_toList]; exact g1, g2⟩
      split at h
      · rename_i j hm
        rcases find_ok hk es en.toList 0 (by simpa using hsz.symm) hent' _ hm with ⟨g1, _⟩ | ⟨j', e1, e', g1, g2, g3, g4, g5, g6, g7, _⟩
        · cases g1
        · have hjj:j=j':=by cases g1; omega
          subst hjj
          rw [g2] at h
          replace h:K (okV ok e1.2.1 true):=h
          obtain ⟨a, a', h1, h2, h3⟩:=fin e1.2.1 e'.val true g5 h
          refine ⟨a, a', ?_, h2, h3⟩
          simp only [Instr.lookup, Sem.run_bind, run_und ht, Result.andThen_ok, Go.MapKept.run_getObj_map hh, Sem.run_pure, run_checkKey hkt hik, run_findKey hkt g7]
          rw [← h1]
      · rename_i hm
        rcases find_ok hk es en.toList 0 (by simpa using hsz.symm) hent' _ hm with ⟨_, g1⟩ | ⟨j', e1, e', g1, _⟩
        · replace h:K (okV ok z false):=h
          obtain ⟨a, a', h1, h2, h3⟩:=fin z z false hvz h
          refine ⟨a, a', ?_, h2, h3⟩
          simp only [Instr.lookup, Sem.run_bind, run_und ht, Result.andThen_ok, Go.MapKept.run_getObj_map hh, Sem.run_pure, run_checkKey hkt hik, run_findKey hkt g1, hz']
          rw [← h1]
        · cases g1
      · exact h.elim
def UnitOK (P:Program) (B:Nat) (w0:World) (μ:Mu) (w:World) (s:Sem Unit) (K:AH→Prop):Prop:=∃ H' w', s.run P w=.ok () w'∧K H'∧Rel B w0 μ H' w'
theorem set_map (hr:Rel B w0 μ H w) {i:Nat} {p:Pl} {es:List (Value × Value × Nat)} {cl:Nat} {en:Array MapEntry} (hp:μ i=some p) (hg:H.get i=some (.map es cl)) (hh:w.heap[p.block]?=some (.map en cl)) {o':AObj} (ob:Obj) (hrw:o'.rw=true)
    (hsh:(match ob with | .cells _ _ _=>false | .view _ _=>false | .pending _ _=>false | _=>true)=true) (ho:∀ w', w'.heap[p.block]?=some ob→ObjR B μ w' p o'):Rel B w0 μ (H.set i o') { w with heap:=w.heap.setIfInBounds p.block ob }:=by
  obtain ⟨h1, h2⟩:=heap_set (o':=ob) hh
  refine hr.set hp hg rfl hrw rfl rfl rfl (by simp) (fun b hb=>h2 b hb) ?_ (ho _ h1)
  unfold World.shape?
  rw [h1, hh]
  cases ob <;> first | rfl | cases hsh
theorem upd_ent {es:List (Value × Value × Nat)} {en:Array MapEntry} (hent:∀ (j:Nat) e, es[j]?=some e→∃ e', en[j]?=some e'∧VR μ e.1 e'.key∧VR μ e.2.1 e'.val∧e'.born=e.2.2) {j:Nat} {k v v':Value} (hk:VR μ k k) (hv:VR μ v v') :
    ∀ (i:Nat) e, (es.modify j fun e=>(k, v, e.2.2))[i]?=some e→∃ e', (en.modify j fun e=>{ e with key:=k, val:=v' })[i]?=some e'∧VR μ e.1 e'.key∧VR μ e.2.1 e'.val∧e'.born=e.2.2:=by
  intro i e he
  rw [List.getElem?_modify] at he
  rw [Array.getElem?_modify]
  cases hq:es[i]? with
  | none=>rw [hq] at he; simp at he
  | some e0 =>
    rw [hq] at he
    obtain ⟨e', g1, g2, g3, g4⟩:=hent i e0 hq
    rw [g1]
    simp only [Option.map_eq_map, Option.map_some, Option.some.injEq] at he ⊢
    by_cases e5:j=i
    · rw [if_pos e5] at he ⊢
      subst he
      exact ⟨_, rfl, hk, hv, g4⟩
    · rw [if_neg e5] at he ⊢
      subst he
      exact ⟨_, rfl, g2, g3, g4⟩
theorem mapUpdate_ok (hr:Rel B w0 μ H w) {t:TypeId} {x x' k k' v v':Value} {K:AH→Prop} (hx:VR μ x x') (hk:VR μ k k') (hv:VR μ v v') (h:aMapUpdate P t x k v H K):UnitOK P B w0 μ w (Instr.mapUpdate t x' k' v') K:=by
  unfold aMapUpdate at h
  split at h
  case h_2=>exact h.elim
  rename_i d e hd
  obtain ⟨kt, ht, hkt, _⟩:=mapD_some hd
  split at h
  case h_2=>exact h.elim
  rename_i m
  obtain ⟨hkd, h⟩:=h
  obtain ⟨rfl, hik⟩:=isKey_of hk hkd
  unfold wMu at h
  cases m with
  | none=>exact h.elim
  | some i =>
    dsimp only at h
    split at h
    case h_2=>exact h.elim
    rename_i es cl hg
    cases hx with
    | map hp =>
      rename_i p
      obtain ⟨q, hq, hB, en, hh, hsz, hent⟩:=hr.obj i _ hg
      rw [hp] at hq; cases hq
      have hent':∀ (j:Nat) e, es[j]?=some e→∃ e', en.toList[j]?=some e'∧VR μ e.1 e'.key∧VR μ e.2.1 e'.val∧e'.born=e.2.2:=fun j e he=>by
        obtain ⟨e', g1, g2⟩:=hent j e he
        exact ⟨e', by rw [Array.getElem?_toList]; exact g1, g2⟩
      split at h
      · rename_i j hm
        rcases find_ok hk es en.toList 0 (by simpa using hsz.symm) hent' _ hm with ⟨g1, _⟩ | ⟨j', e1, e', g1, g2, g3, g4, g5, g6, g7, g8⟩
        · cases g1
        · have hjj:j=j':=by cases g1; omega
          subst hjj
          rw [Nat.zero_add] at g7
          have hkk:e'.key=k':=same_eq g8
          have g3':en[j]?=some e':=by rw [← Array.getElem?_toList]; exact g3
          refine ⟨_, { w with heap:=w.heap.setIfInBounds p.block (.map (en.modify j fun e=>{ e with key:=k', val:=v' }) cl) }, ?_, h, set_map hr hp hg hh _ rfl rfl (fun w' hw'=>⟨hB, _, hw', by simp [hsz], upd_ent hent hk hv⟩)⟩
          simp only [Instr.mapUpdate, Sem.run_bind, run_und ht, Result.andThen_ok, Go.MapKept.run_getObj_map hh, run_checkKey hkt hik, run_findKey hkt g7, g3', Option.map_some, Option.getD_some, hkk, run_keyThatStays hik, run_setObj_map _ hh]
      · rename_i hm
        rcases find_ok hk es en.toList 0 (by simpa using hsz.symm) hent' _ hm with ⟨_, g1⟩ | ⟨j', e1, e', g1, _⟩
        · refine ⟨_, { w with heap:=w.heap.setIfInBounds p.block (.map (en.push { key:=k', val:=v', born:=cl }) (cl + 1)) }, ?_, h, set_map hr hp hg hh _ rfl rfl (fun w' hw'=>⟨hB, _, hw', by simp [hsz], fun i e he=>?_⟩)⟩
          · simp only [Instr.mapUpdate, Sem.run_bind, run_und ht, Result.andThen_ok, Go.MapKept.run_getObj_map hh, run_checkKey hkt hik, run_findKey hkt g1, run_setObj_map _ hh]
          · rw [Array.getElem?_push]
            by_cases hi:i<es.length
            · rw [List.getElem?_append_left hi] at he
              rw [if_neg (by omega)]
              exact hent i e he
            · rw [List.getElem?_append_right (by omega)] at he
              have hi0:i - es.length=0:=by
                have:=(List.getElem?_eq_some_iff.1 he).1; simp at this; omega
              rw [hi0] at he
              simp at he; subst he
              rw [if_pos (by omega)]
              exact ⟨_, rfl, hk, hv, rfl⟩
        · cases g1
      · exact h.elim
theorem delete_ok (hr:Rel B w0 μ H w) {types:Array TypeId} {ty:TypeId} {args:List Value} {args':Array Value} (ha:LR μ args args') {K:KV} (h:bDelete P types.toList args H K):SemOK P B w0 μ w (Builtin.delete_ types ty args') K:=by
  unfold bDelete at h
  split at h
  case h_2=>exact h.elim
  rename_i t ts m k htl
  split at h
  case h_2=>exact h.elim
  rename_i d e hd
  obtain ⟨hkd, h⟩:=h
  obtain ⟨kt, ht, hkt, _⟩:=mapD_some hd
  obtain ⟨hsz0, hv⟩:=ha
  obtain ⟨x', hx1, hx⟩:=hv 0 _ rfl
  obtain ⟨k', hk1, hk⟩:=hv 1 _ rfl
  obtain ⟨rfl, hik⟩:=isKey_of hk hkd
  have ht0:types[0]?=some t:=by rw [← Array.getElem?_toList, htl]; rfl
  have fin:∀ (H':AH) (w':World), (Builtin.delete_ types ty args').run P w=.ok (.tuple #[]) w'→K (.tuple #[]) H'→Rel B w0 μ H' w'→SemOK P B w0 μ w (Builtin.delete_ types ty args') K:=fun H' w' h1 h2 h3=>⟨_, _, H', μ, w', h1, h2, Mu.le_refl _, h3, VR.const (by simp [constOK])⟩
  unfold wDl at h
  cases m with
  | none =>
    cases hx
    refine fin H w ?_ h hr
    simp only [Builtin.delete_, ht0, hx1, hk1, Sem.run_bind, run_und ht, Result.andThen_ok, run_checkKey hkt hik, Sem.run_pure]
  | some i =>
    dsimp only at h
    split at h
    case h_2=>exact h.elim
    rename_i es cl hg
    cases hx with
    | map hp =>
      rename_i p
      obtain ⟨q, hq, hB, en, hh, hsz, hent⟩:=hr.obj i _ hg
      rw [hp] at hq; cases hq
      have hent':∀ (j:Nat) e, es[j]?=some e→∃ e', en.toList[j]?=some e'∧VR μ e.1 e'.key∧VR μ e.2.1 e'.val∧e'.born=e.2.2:=fun j e he=>by
        obtain ⟨e', g1, g2⟩:=hent j e he
        exact ⟨e', by rw [Array.getElem?_toList]; exact g1, g2⟩
      split at h
      · rename_i j hm
        rcases find_ok hk es en.toList 0 (by simpa using hsz.symm) hent' _ hm with ⟨g1, _⟩ | ⟨j', e1, e', g1, g2, g3, g4, g5, g6, g7, g8⟩
        · cases g1
        · have hjj:j=j':=by cases g1; omega
          subst hjj
          rw [Nat.zero_add] at g7
          have hjl:j<es.length:=(List.getElem?_eq_some_iff.1 g2).1
          refine fin _ { w with heap:=w.heap.setIfInBounds p.block (.map (en.eraseIdxIfInBounds j) cl) } ?_ h (set_map hr hp hg hh _ rfl rfl (fun w' hw'=>⟨hB, _, hw', ?_, fun i e he=>?_⟩))
          · simp only [Builtin.delete_, ht0, hx1, hk1, Sem.run_bind, run_und ht, Result.andThen_ok, Go.MapKept.run_getObj_map hh, run_checkKey hkt hik, run_findKey hkt g7, run_setObj_map _ hh, Sem.run_pure]
          · rw [Array.eraseIdxIfInBounds, dif_pos (by omega), Array.size_eraseIdx, List.length_eraseIdx, if_pos hjl, hsz]
          · have hle:(en.eraseIdxIfInBounds j)[i]?=(en.toList.eraseIdx j)[i]?:=by
              rw [Array.eraseIdxIfInBounds, dif_pos (by omega), ← Array.getElem?_toList, Array.toList_eraseIdx]
            rw [hle]
            rw [List.getElem?_eraseIdx] at he ⊢
            split at he
            · rename_i hlt; rw [if_pos hlt]; exact hent' _ _ he
            · rename_i hlt; rw [if_neg hlt]; exact hent' _ _ he
      · rename_i hm
        rcases find_ok hk es en.toList 0 (by simpa using hsz.symm) hent' _ hm with ⟨_, g1⟩ | ⟨j', e1, e', g1, _⟩
        · have hsame:({ w with heap:=w.heap.setIfInBounds p.block (.map en cl) }:World)=w:=by
            have:w.heap.setIfInBounds p.block (.map en cl)=w.heap:=by
              apply Array.ext
              · simp
              · intro n h1 h2
                rw [Array.getElem_setIfInBounds]
                split
                · rename_i e5
                  have:=(Array.getElem?_eq_some_iff.1 hh).2
                  subst e5
                  exact this.symm
                · rfl
            rw [this]
          refine fin H w ?_ h hr
          simp only [Builtin.delete_, ht0, hx1, hk1, Sem.run_bind, run_und ht, Result.andThen_ok, Go.MapKept.run_getObj_map hh, run_checkKey hkt hik, run_findKey hkt g1, run_setObj_map _ hh, Sem.run_pure, hsame]
        · cases g1
      · exact h.elim
theorem mapRange_ok (hr:Rel B w0 μ H w) {t:TypeId} {m:Option Nat} {x':Value} (hx:VR μ (.map m) x') {K:KV} (ht:∃ k e, P.underlying t=some (.map k e)) (h:wMr m H fun i H'=>K (.pointer (some ⟨i, 0, none⟩)) H'):SemOK P B w0 μ w (Instr.range t x') K:=by
  obtain ⟨kt, et, ht⟩:=ht
  unfold wMr at h
  cases m with
  | none =>
    cases hx
    refine ⟨_, .pointer (some ⟨w.heap.size, 0, none⟩), _, μ.put H.next ⟨w.heap.size, 0, 0, 0⟩, w.alloc (.mapIter none 0 #[] 0), ?_, h, Mu.put_le hr.fresh _, ?_, .ptr (p:=⟨w.heap.size, 0, 0, 0⟩) (Mu.put_self _ _)⟩
    · simp [Instr.range, run_und ht]
    · exact Rel.push (w:=w) hr rfl rfl rfl rfl rfl ⟨rfl, hr.size, none, Array.getElem?_push_size, .inl ⟨rfl, rfl⟩⟩
  | some i =>
    dsimp only at h
    split at h
    case h_2=>exact h.elim
    rename_i es cl hg
    cases hx with
    | map hp =>
      rename_i p
      obtain ⟨q, hq, hB, en, hh, hsz, hent⟩:=hr.obj i _ hg
      rw [hp] at hq; cases hq
      refine ⟨_, .pointer (some ⟨w.heap.size, 0, none⟩), _, μ.put H.next ⟨w.heap.size, 0, 0, 0⟩, w.alloc (.mapIter (some p.block) cl #[] cl), ?_, h, Mu.put_le hr.fresh _, ?_, .ptr (p:=⟨w.heap.size, 0, 0, 0⟩) (Mu.put_self _ _)⟩
      · simp [Instr.range, run_und ht, Go.MapKept.run_getObj_map hh]
      · exact Rel.push (w:=w) hr rfl rfl rfl rfl rfl ⟨rfl, hr.size, some p.block, Array.getElem?_push_size, .inr ⟨i, p, rfl, Mu.put_le hr.fresh _ _ _ hp, rfl⟩⟩
theorem makeMap_ok (hr:Rel B w0 μ H w) {t:TypeId} {K:KV} (h:wMm H fun i H'=>K (.map (some i)) H'):SemOK P B w0 μ w (Instr.makeMap t none) K:=by
  unfold wMm at h
  refine ⟨_, .map (some w.heap.size), _, μ.put H.next ⟨w.heap.size, 0, 0, 0⟩, w.alloc (.map #[] 0), ?_, h, Mu.put_le hr.fresh _, ?_, .map (p:=⟨w.heap.size, 0, 0, 0⟩) (Mu.put_self _ _)⟩
  · simp [Instr.makeMap]
  · exact Rel.push (w:=w) hr rfl rfl rfl rfl rfl ⟨hr.size, #[], Array.getElem?_push_size, rfl, fun j e he=>by simp at he⟩
theorem run_pick {α:Type} {c:Array α} (hc:0<c.size) (w:World):∃ n x w', (choose (.mapNext c.size)).run P w=.ok n w'∧c[n]?=some x∧x ∈ c∧(w'=w∨w'={ w with drawn:=w.drawn + 1 }):=by
  rw [run_choose_drew]
  by_cases hf:c.size≤1
  · have h1:(Question.mapNext c.size).forced=true:=by simp [Question.forced, hf]
    rw [if_pos h1]
    exact ⟨0, c[0], w, rfl, by simp [hc], Array.getElem_mem _, .inl rfl⟩
  · have h1:(Question.mapNext c.size).forced=false:=by simp [Question.forced]; omega
    rw [h1, if_neg (by decide)]
    have hlt:(Question.mapNext c.size).cut (w.tape w.drawn (.mapNext c.size))<c.size:=Nat.mod_lt _ hc
    exact ⟨_, c[(Question.mapNext c.size).cut (w.tape w.drawn (.mapNext c.size))], _, rfl, by simp [hlt], Array.getElem_mem _, .inr rfl⟩
theorem run_getObj_it {r:Nat} {a:Option Nat} {b:Nat} {c:Array Nat} {d:Nat} (h:w.heap[r]?=some (.mapIter a b c d)):(getObj r).run P w=.ok (.mapIter a b c d) w:=by simp [getObj, Sem.run, h]
theorem run_setObj_it {r:Nat} {a:Option Nat} {b:Nat} {c:Array Nat} {d:Nat} (o':Obj) (h:w.heap[r]?=some (.mapIter a b c d)):(setObj r o').run P w=.ok () { w with heap:=w.heap.setIfInBounds r o' }:=by simp [setObj, Sem.run, h]
theorem mapNext_ok (hr:Rel B w0 μ H w) {x x':Value} (hx:VR μ x x') {ty:TypeId} {K:KV} (h:aNextM x H K):SemOK P B w0 μ w (Instr.next x' false ty) K:=by
  unfold aNextM at h
  split at h
  case h_2=>exact h.elim
  rename_i a
  unfold wMn at h
  split at h
  case h_2=>exact h.elim
  rename_i r
  cases hx with
  | ptr hp =>
    rename_i p
    split at h
    · rename_i s1 s2 s3 hg
      obtain ⟨q, hq, hoff, hB, m', hh, hm⟩:=hr.obj r _ hg
      rw [hp] at hq; cases hq
      have hm':m'=none:=by
        rcases hm with ⟨_, h1⟩ | ⟨i, q, h1, _⟩
        · exact h1
        · cases h1
      subst hm'
      refine ⟨_, .tuple #[.bool false], H, μ, w, ?_, h, Mu.le_refl _, hr, VR.const (by simp [constOK, plainV])⟩
      rw [show p.off + 0=0 by omega]
      simp [Instr.next, run_getObj_it hh]
    · rename_i i since seen last hg
      split at h
      case h_2=>exact h.elim
      rename_i es cl hgm
      obtain ⟨q, hq, hoff, hB, m', hh, hm⟩:=hr.obj r _ hg
      rw [hp] at hq; cases hq
      obtain ⟨qm, hqm, hm'⟩:∃ q, μ i=some q∧m'=some q.block:=by
        rcases hm with ⟨h1, _⟩ | ⟨i', q, h1, h2, h3⟩
        · cases h1
        · cases h1; exact ⟨q, h2, h3⟩
      subst hm'
      obtain ⟨q, hq, hBm, en, hhm, hsz, hent⟩:=hr.obj i _ hgm
      rw [hqm] at hq; cases hq
      obtain ⟨h1, h2, h3⟩:=h
      -- each of the machine's entries is one of the map's
      have back:∀ e' ∈ en, ∃ e ∈ es, VR μ e.1 e'.key∧VR μ e.2.1 e'.val∧e'.born=e.2.2:=by
        intro e' he
        obtain ⟨j, hj, rfl⟩:=Array.mem_iff_getElem.1 he
        have hjl:j<es.length:=by omega
        obtain ⟨e2, g1, g2⟩:=hent j es[j] (by simp [hjl])
        rw [Array.getElem?_eq_getElem hj] at g1
        cases g1
        exact ⟨es[j], List.getElem_mem hjl, g2⟩
      have fore:∀ e ∈ es, ∃ e' ∈ en, e'.born=e.2.2:=by
        intro e he
        obtain ⟨j, hj, rfl⟩:=List.mem_iff_getElem.1 he
        obtain ⟨e2, g1, g2⟩:=hent j es[j] (by simp [hj])
        exact ⟨e2, Array.mem_of_getElem? g1, g2.2.2⟩
      have htest:(!seen.toArray.isEmpty && !en.isEmpty && en.all fun e=>decide (e.born ≥ last))=false:=by
        rcases h1 with h1 | h1 | ⟨e, he, hlt⟩
        · subst h1; rfl
        · subst h1
          have:en=#[]:=Array.eq_empty_of_size_eq_zero (by simpa using hsz)
          subst this
          simp
        · obtain ⟨e', g1, g2⟩:=fore e he
          have:(en.all fun e=>decide (e.born ≥ last))=false:=by
            rw [Array.all_eq_false]
            obtain ⟨j, hj, hje⟩:=Array.mem_iff_getElem.1 g1
            exact ⟨j, hj, by rw [hje]; simp; omega⟩
          rw [this, Bool.and_false]
      have hseen:∀ b, seen.toArray.contains b=decide (b ∈ seen):=fun b=>by simp
      rw [show p.off + 0=0 by omega]
      obtain ⟨cands, hcands⟩:∃ c, c=(if ((en.filter fun e=>!seen.toArray.contains e.born).filter fun e=>decide (e.born<since)).isEmpty then #[none] else #[]) ++ (((en.filter fun e=>!seen.toArray.contains e.born).filter fun e=>decide (e.born<since)) ++ ((en.filter fun e=>!seen.toArray.contains e.born).filter fun e=>decide (e.born ≥ since))).map some:=⟨_, rfl⟩
      have hpos:0<cands.size:=by
        rw [hcands]
        split
        · simp; omega
        · rename_i hne
          rw [Array.isEmpty_iff_size_eq_zero] at hne
          simp only [Array.size_append, Array.size_map, Array.size_empty]
          omega
      obtain ⟨n, c, w1, g1, g2, g3, g4⟩:=run_pick (P:=P) hpos w
      have hrun:(Instr.next (.pointer (some ⟨p.block, 0, none⟩)) false ty).run P w=((match c with
          | some e=>(do setObj p.block (.mapIter (some qm.block) since (seen.toArray.push e.born) cl); pure (.tuple #[.bool true, e.key, e.val]))
          | none=>pure (.tuple #[.bool false])):Sem Value).run P w1:=by
        simp only [Instr.next, Sem.run_bind, run_getObj_it hh, Go.MapKept.run_getObj_map hhm, Result.andThen_ok, htest, Bool.false_eq_true, if_false, ← hcands, g1, g2, Sem.run_pure]
        cases c <;> rfl
      rw [hcands] at g3
      have hr1:Rel B w0 μ H w1:=by
        rcases g4 with e | e
        · rw [e]; exact hr
        · rw [e]; exact hr.drawn _
      have hh1:w1.heap[p.block]?=some (.mapIter (some qm.block) since seen.toArray last):=by
        rcases g4 with e | e <;> rw [e] <;> exact hh
      cases c with
      | none =>
        refine ⟨_, .tuple #[.bool false], H, μ, w1, by rw [hrun]; rfl, h2 (fun e he=>?_), Mu.le_refl _, hr1, VR.const (by simp [constOK, plainV])⟩
        have hemp:((en.filter fun e=>!seen.toArray.contains e.born).filter fun e=>decide (e.born<since)).isEmpty=true:=by
          cases hb:((en.filter fun e=>!seen.toArray.contains e.born).filter fun e=>decide (e.born<since)).isEmpty with
          | true=>rfl
          | false=>rw [hb] at g3; simp at g3
        obtain ⟨e', k1, k2⟩:=fore e he
        by_cases hs:e.2.2 ∈ seen
        · exact .inl hs
        · refine .inr (fun hlt=>?_)
          have hmem:e' ∈ (en.filter fun e=>!seen.toArray.contains e.born).filter fun e=>decide (e.born<since):=by
            rw [Array.mem_filter, Array.mem_filter]
            exact ⟨⟨k1, by rw [k2, hseen]; simp [hs]⟩, by rw [k2]; simpa using hlt⟩
          rw [Array.isEmpty_iff] at hemp
          rw [hemp] at hmem
          simp at hmem
      | some e' =>
        have hmem:e' ∈ en∧e'.born ∉ seen:=by
          have hall:∀ x:Option MapEntry, x ∈ (if ((en.filter fun e=>!seen.toArray.contains e.born).filter fun e=>decide (e.born<since)).isEmpty then #[none] else #[]) ++ (((en.filter fun e=>!seen.toArray.contains e.born).filter fun e=>decide (e.born<since)) ++ ((en.filter fun e=>!seen.toArray.contains e.born).filter fun e=>decide (e.born ≥ since))).map some→∀ y, x=some y→y ∈ en.filter fun e=>!seen.toArray.contains e.born:=by
            intro x hx y hy
            subst hy
            rw [Array.mem_append] at hx
            rcases hx with hx | hx
            · split at hx <;> simp at hx
            · rw [Array.mem_map] at hx
              obtain ⟨z, hz, hzy⟩:=hx
              cases hzy
              rw [Array.mem_append] at hz
              rcases hz with hz | hz <;> exact (Array.mem_filter.1 hz).1
          have:=hall _ g3 e' rfl
          rw [Array.mem_filter, hseen] at this
          exact ⟨this.1, by simpa using this.2⟩
        obtain ⟨e, k1, k2, k3, k4⟩:=back e' hmem.1
        have hK:=h3 e k1 (by rw [← k4]; exact hmem.2)
        refine ⟨_, .tuple #[.bool true, e'.key, e'.val], _, μ, { w1 with heap:=w1.heap.setIfInBounds p.block (.mapIter (some qm.block) since (seen.toArray.push e'.born) cl) }, ?_, hK, Mu.le_refl _, ?_, ?_⟩
        · rw [hrun]
          simp only [Sem.run_bind, run_setObj_it _ hh1, Result.andThen_ok, Sem.run_pure]
        · obtain ⟨u1, u2⟩:=heap_set (w:=w1) (o':=.mapIter (some qm.block) since (seen.toArray.push e'.born) cl) hh1
          refine hr1.set hp hg rfl rfl rfl rfl rfl (by simp) (fun b hb=>u2 b hb) ?_ ⟨hoff, hB, some qm.block, ?_, .inr ⟨i, qm, rfl, hqm, rfl⟩⟩
          · unfold World.shape?
            rw [u1, hh1]
          · rw [u1, k4]; simp
        · refine .tuple rfl fun j a b v1 v2=>?_
          match j, v1, v2 with
          | 0, v1, v2=>simp at v1 v2; subst v1; subst v2; exact .bool _
          | 1, v1, v2=>simp at v1 v2; subst v1; subst v2; exact k2
          | 2, v1, v2=>simp at v1 v2; subst v1; subst v2; exact k3
          | j + 3, v1, v2=>simp at v1
    · exact h.elim
theorem mapEntry_ok (hr:Rel B w0 μ H w) {x x':Value} (hx:VR μ x x') {K:Value→Prop} (h:aEntry x H K):ReadOK P μ w (Instr.entry x') K:=by
  unfold aEntry at h
  split at h
  case h_2=>exact h.elim
  rename_i a
  unfold wEn at h
  split at h
  case h_2=>exact h.elim
  rename_i r
  cases hx with
  | ptr hp =>
    rename_i p
    split at h
    case h_2=>exact h.elim
    rename_i i since seen last hg
    split at h
    case h_2=>exact h.elim
    rename_i es cl hgm
    split at h
    case h_2=>exact h.elim
    rename_i b hb
    obtain ⟨hcl, h⟩:=h
    split at h
    case h_2=>exact h.elim
    rename_i e he
    obtain ⟨q, hq, hoff, hB, m', hh, hm⟩:=hr.obj r _ hg
    rw [hp] at hq; cases hq
    obtain ⟨qm, hqm, hm'⟩:∃ q, μ i=some q∧m'=some q.block:=by
      rcases hm with ⟨h1, _⟩ | ⟨i', q, h1, h2, h3⟩
      · cases h1
      · cases h1; exact ⟨q, h2, h3⟩
    subst hm'
    obtain ⟨q, hq, hBm, en, hhm, hsz, hent⟩:=hr.obj i _ hgm
    rw [hqm] at hq; cases hq
    subst hcl
    have hf:∃ e', en.find? (fun e=>e.born == b)=some e'∧VR μ e.1 e'.key∧VR μ e.2.1 e'.val:=by
      rw [← Array.find?_toList]
      have hent':∀ (j:Nat) e, es[j]?=some e→∃ e', en.toList[j]?=some e'∧VR μ e.1 e'.key∧VR μ e.2.1 e'.val∧e'.born=e.2.2:=fun j e he=>by
        obtain ⟨e', g1, g2⟩:=hent j e he
        exact ⟨e', by rw [Array.getElem?_toList]; exact g1, g2⟩
      have hl:es.length=en.toList.length:=by simpa using hsz.symm
      clear hent hhm hsz
      generalize en.toList=l at hent' hl
      clear hg hgm
      induction es generalizing l with
      | nil=>simp at he
      | cons a es ih =>
        cases l with
        | nil=>simp at hl
        | cons a' l =>
          obtain ⟨a2, k1, k2, k3, k4⟩:=hent' 0 a rfl
          simp at k1; subst k1
          rw [List.find?_cons] at he ⊢
          rw [k4]
          cases hab:(a.2.2 == b) with
          | true =>
            rw [hab] at he
            cases he
            exact ⟨_, rfl, k2, k3⟩
          | false =>
            rw [hab] at he
            exact ih he l (fun j e hj=>hent' (j + 1) e (by simpa using hj)) (by simpa using hl)
    obtain ⟨e', f1, f2, f3⟩:=hf
    refine ⟨_, .tuple #[e'.key, e'.val], ?_, h, ?_⟩
    · rw [show p.off + 0=0 by omega]
      have hbk:seen.toArray.back?=some b:=by rw [← hb]; simp
      simp only [Instr.entry, Sem.run_bind, run_getObj_it hh, Go.MapKept.run_getObj_map hhm, Result.andThen_ok, hbk, bne_self_eq_false, Bool.false_eq_true, if_false, f1]
      rfl
    · refine .tuple rfl fun j a b v1 v2=>?_
      match j, v1, v2 with
      | 0, v1, v2=>simp at v1 v2; subst v1; subst v2; exact f2
      | 1, v1, v2=>simp at v1 v2; subst v1; subst v2; exact f3
      | j + 2, v1, v2=>simp at v1
theorem mapEntryAt_ok (hr:Rel B w0 μ H w) {t:TypeId} {x x' k k':Value} {K:KV} (hx:VR μ x x') (hk:VR μ k k') (h:aMapEntry P t x k H K):SemOK P B w0 μ w (Instr.mapEntry t x' k') K:=by
  unfold aMapEntry at h
  split at h
  case h_2=>exact h.elim
  rename_i d e hd
  split at h
  case h_2=>exact h.elim
  rename_i z hz
  obtain ⟨hc, hkd, h⟩:=h
  obtain ⟨kt, ht, hkt, _⟩:=mapD_some hd
  obtain ⟨rfl, hik⟩:=isKey_of hk hkd
  have hz':=fun w=>run_zero (P:=P) hz w
  have hvz:VR μ z z:=VR.const hc
  have two:∀ (v v':Value) (b:Nat), VR μ v v'→VR μ (.tuple #[v, .int .i64 b]) (.tuple #[v', .int .i64 b]):=fun v v' b hv=>.tuple rfl fun j a c h1 h2=>by
    match j, h1, h2 with
    | 0, h1, h2=>simp at h1 h2; subst h1; subst h2; exact hv
    | 1, h1, h2=>simp at h1 h2; subst h1; subst h2; exact .int _ _
    | j + 2, h1, h2=>simp at h1
  split at h
  case h_2=>exact h.elim
  rename_i m
  unfold wMe at h
  cases m with
  | none=>exact h.elim
  | some i =>
    dsimp only at h
    split at h
    case h_2=>exact h.elim
    rename_i es cl hg
    cases hx with
    | map hp =>
      rename_i p
      obtain ⟨q, hq, hB, en, hh, hsz, hent⟩:=hr.obj i _ hg
      rw [hp] at hq; cases hq
      have hent':∀ (j:Nat) e, es[j]?=some e→∃ e', en.toList[j]?=some e'∧VR μ e.1 e'.key∧VR μ e.2.1 e'.val∧e'.born=e.2.2:=fun j e he=>by
        obtain ⟨e', g1, g2⟩:=hent j e he
        exact ⟨e', by rw [Array.getElem?_toList]; exact g1, g2⟩
      split at h
      · rename_i j hm
        rcases find_ok hk es en.toList 0 (by simpa using hsz.symm) hent' _ hm with ⟨g1, _⟩ | ⟨j', e1, e', g1, g2, g3, g4, g5, g6, g7, g8⟩
        · cases g1
        · have hjj:j=j':=by cases g1; omega
          subst hjj
          rw [Nat.zero_add] at g7
          have hkk:e'.key=k':=same_eq g8
          have g3':en[j]?=some e':=by rw [← Array.getElem?_toList]; exact g3
          rw [g2] at h
          replace h:K (.tuple #[e1.2.1, .int .i64 e1.2.2]) (H.set i (.map (es.modify j fun e=>(k', e.2.1, e.2.2)) cl)):=h
          refine ⟨_, .tuple #[e'.val, .int .i64 e'.born], _, μ, { w with heap:=w.heap.setIfInBounds p.block (.map (en.modify j fun e=>{ e with key:=k' }) cl) }, ?_, h, Mu.le_refl _, set_map hr hp hg hh _ rfl rfl (fun w' hw'=>⟨hB, _, hw', by simp [hsz], fun i e he=>?_⟩), by rw [g6]; exact two _ _ _ g5⟩
          · simp only [Instr.mapEntry, Sem.run_bind, run_und ht, Result.andThen_ok, Go.MapKept.run_getObj_map hh, run_checkKey hkt hik, run_findKey hkt g7, g3', Option.map_some, Option.getD_some, hkk, run_keyThatStays hik, run_setObj_map _ hh, Sem.run_pure]
            rfl
          · rw [List.getElem?_modify] at he
            rw [Array.getElem?_modify]
            cases hq:es[i]? with
            | none=>rw [hq] at he; simp at he
            | some e0 =>
              rw [hq] at he
              obtain ⟨e'', k1, k2, k3, k4⟩:=hent i e0 hq
              rw [k1]
              simp only [Option.map_eq_map, Option.map_some, Option.some.injEq] at he ⊢
              by_cases e5:j=i
              · rw [if_pos e5] at he ⊢
                subst he
                exact ⟨_, rfl, hk, k3, k4⟩
              · rw [if_neg e5] at he ⊢
                subst he
                exact ⟨_, rfl, k2, k3, k4⟩
      · rename_i hm
        rcases find_ok hk es en.toList 0 (by simpa using hsz.symm) hent' _ hm with ⟨_, g1⟩ | ⟨j', e1, e', g1, _⟩
        · refine ⟨_, .tuple #[z, .int .i64 cl], _, μ, { w with heap:=w.heap.setIfInBounds p.block (.map (en.push { key:=k', val:=z, born:=cl }) (cl + 1)) }, ?_, h, Mu.le_refl _, set_map hr hp hg hh _ rfl rfl (fun w' hw'=>⟨hB, _, hw', by simp [hsz], fun i e he=>?_⟩), two _ _ _ hvz⟩
          · simp only [Instr.mapEntry, Sem.run_bind, run_und ht, Result.andThen_ok, Go.MapKept.run_getObj_map hh, run_checkKey hkt hik, run_findKey hkt g1, hz', run_setObj_map _ hh, Sem.run_pure]
            rfl
          · rw [Array.getElem?_push]
            by_cases hi:i<es.length
            · rw [List.getElem?_append_left hi] at he
              rw [if_neg (by omega)]
              exact hent i e he
            · rw [List.getElem?_append_right (by omega)] at he
              have hi0:i - es.length=0:=by
                have:=(List.getElem?_eq_some_iff.1 he).1; simp at this; omega
              rw [hi0] at he
              simp at he; subst he
              rw [if_pos (by omega)]
              exact ⟨_, rfl, hk, hvz, rfl⟩
        · cases g1
      · exact h.elim
theorem findIdx_ok {b:Int}:∀ (es:List (Value × Value × Nat)) (en:List MapEntry), es.length=en.length→(∀ (j:Nat) e, es[j]?=some e→∃ e', en[j]?=some e'∧e'.born=e.2.2)→en.findIdx? (fun e=>(e.born:Int) == b)=es.findIdx? (fun e=>(e.2.2:Int) == b):=by
  intro es
  induction es with
  | nil=>intro en hl _; cases en with
    | nil=>rfl
    | cons a en=>simp at hl
  | cons e es ih =>
    intro en hl he
    cases en with
    | nil=>simp at hl
    | cons e' en =>
      obtain ⟨e2, h1, h2⟩:=he 0 e rfl
      simp at h1; subst h1
      rw [List.findIdx?_cons, List.findIdx?_cons, h2, ih en (by simpa using hl) (fun j e hj=>he (j + 1) e (by simpa using hj))]
theorem entryStore_ok (hr:Rel B w0 μ H w) {t:TypeId} {x x' b b' v v':Value} {K:AH→Prop} (hx:VR μ x x') (hb:VR μ b b') (hv:VR μ v v') (h:aEntryStore x b v H K):UnitOK P B w0 μ w (Instr.entryStore t x' b' v') K:=by
  unfold aEntryStore at h
  split at h
  case h_2=>exact h.elim
  rename_i m kd n
  cases hb
  unfold wEs at h
  cases m with
  | none=>exact h.elim
  | some i =>
    dsimp only at h
    split at h
    case h_2=>exact h.elim
    rename_i es cl hg
    cases hx with
    | map hp =>
      rename_i p
      obtain ⟨q, hq, hB, en, hh, hsz, hent⟩:=hr.obj i _ hg
      rw [hp] at hq; cases hq
      split at h
      case h_2=>exact h.elim
      rename_i j hj
      have hfi:en.findIdx? (fun e=>(e.born:Int) == n)=some j:=by
        rw [← hj, ← findIdx_ok es en.toList (by simpa using hsz.symm) (fun j e he=>by
          obtain ⟨e', g1, _, _, g4⟩:=hent j e he
          exact ⟨e', by rw [Array.getElem?_toList]; exact g1, g4⟩)]
        exact (fun (a:Array MapEntry) q=>by cases a; simp:∀ (a:Array MapEntry) q, a.findIdx? q=a.toList.findIdx? q) _ _
      refine ⟨_, { w with heap:=w.heap.setIfInBounds p.block (.map (en.modify j fun e=>{ e with val:=v' }) cl) }, ?_, h, set_map hr hp hg hh _ rfl rfl (fun w' hw'=>⟨hB, _, hw', by simp [hsz], fun i e he=>?_⟩)⟩
      · simp only [Instr.entryStore, Sem.run_bind, Go.MapKept.run_getObj_map hh, Result.andThen_ok, asInt, asIntOf, Sem.run_pure, Sem.run_bind, Result.andThen_ok, hfi, run_setObj_map _ hh]
      · rw [List.getElem?_modify] at he
        rw [Array.getElem?_modify]
        cases hq:es[i]? with
        | none=>rw [hq] at he; simp at he
        | some e0 =>
          rw [hq] at he
          obtain ⟨e'', k1, k2, k3, k4⟩:=hent i e0 hq
          rw [k1]
          simp only [Option.map_eq_map, Option.map_some, Option.some.injEq] at he ⊢
          by_cases e5:j=i
          · rw [if_pos e5] at he ⊢
            subst he
            exact ⟨_, rfl, k2, hv, k4⟩
          · rw [if_neg e5] at he ⊢
            subst he
            exact ⟨_, rfl, k2, k3, k4⟩
end
end Go.Proofs.YtjhbbbcelnlnpaaGreatDoor
