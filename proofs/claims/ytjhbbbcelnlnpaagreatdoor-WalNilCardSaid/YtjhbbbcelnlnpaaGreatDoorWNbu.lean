/- A map of numbers, gone through. -/
import Derived.Test.YtjhbbbcelnlnpaaGreatDoorWNbp
import Derived.Test.YtjhbbbcelnlnpaaGreatDoorWNbs
import Derived.Test.YtjhbbbcelnlnpaaGreatDoorWNbt
namespace Go.Proofs.YtjhbbbcelnlnpaaGreatDoor
open Go.RowKit

theorem ents_find (x:Nat × Value):∀ (l:List (Nat × Value)) (n j:Nat), l[j]?=some x→(ents l n).find? (fun e=>e.2.2 == n + j)=some (.int .u32 (x.1:Int), x.2, n + j)
  | [], n, j, h=>by simp at h
  | e :: l, n, 0, h=>by
    have:e=x:=by simpa using h
    subst this
    rw [ents, List.find?_cons]; simp
  | e :: l, n, j + 1, h=>by
    have hb:(n == n + (j + 1))=false:=by simp
    rw [ents, List.find?_cons]
    simp only [hb]
    have:=ents_find x l (n + 1) j (by simpa using h)
    have e1:n + (j + 1)=n + 1 + j:=by omega
    rw [e1]; exact this
theorem ents_mem {l:List (Nat × Value)} {e:Value × Value × Nat} (h:e ∈ ents l 0):∃ j x, l[j]?=some x∧e=(.int .u32 (x.1:Int), x.2, j):=by
  obtain ⟨j, hj⟩:=List.mem_iff_getElem?.1 h
  rw [ents_get, Nat.zero_add] at hj
  cases hx:l[j]? with
  | none=>rw [hx] at hj; cases hj
  | some x=>rw [hx] at hj; cases hj; exact ⟨j, x, hx, rfl⟩
section
variable {H:AH} {r im:Nat} {l:List (Nat × Value)} {seen:List Nat}
theorem wMr_at {K:Nat→AH→Prop} (h:UMap H im l) (hk:K H.next (H.push (.miter (some im) l.length [] l.length))):wMr (some im) H K:=by
  unfold wMr; simp only [h.get]; exact hk
theorem wMn_at {K1:Value→Value→AH→Prop} {K2:Prop} (hr:Has H r (.miter (some im) l.length seen l.length)) (h:UMap H im l) (h2:(∀ j, j<l.length→j ∈ seen)→K2)
    (h1:∀ j x, l[j]?=some x→j ∉ seen→K1 (.int .u32 (x.1:Int)) x.2 (H.set r (.miter (some im) l.length (seen ++ [j]) l.length))):wMn (some ⟨r, 0, none⟩) H K1 K2:=by
  unfold wMn
  simp only [hr.get, h.get]
  refine ⟨?_, fun ha=>h2 fun j hj=>?_, fun e he hs=>?_⟩
  · cases l with
    | nil=>exact .inr (.inl rfl)
    | cons a l=>exact .inr (.inr ⟨_, by rw [ents]; exact List.mem_cons_self .., by simp⟩)
  · have hm:(.int .u32 ((l[j]).1:Int), (l[j]).2, j) ∈ ents l 0:=by
      rw [List.mem_iff_getElem?]
      exact ⟨j, by rw [ents_get, List.getElem?_eq_getElem hj, Nat.zero_add]; rfl⟩
    rcases ha _ hm with hh | hh
    · exact hh
    · exact absurd hj hh
  · obtain ⟨j, x, hx, rfl⟩:=ents_mem he
    exact h1 j x hx hs
theorem wEn_at {j:Nat} {x:Nat × Value} {K:Value→Value→Prop} (hr:Has H r (.miter (some im) l.length (seen ++ [j]) l.length)) (h:UMap H im l) (hx:l[j]?=some x) (hk:K (.int .u32 (x.1:Int)) x.2):wEn (some ⟨r, 0, none⟩) H K:=by
  have hf:=ents_find x l 0 j hx
  rw [Nat.zero_add] at hf
  unfold wEn
  simp only [hr.get, h.get, List.getLast?_concat, hf]
  exact ⟨trivial, hk⟩
end
theorem seen_perm {l:List (Nat × Value)} {seen:List Nat} (hn:seen.Nodup) (hl:∀ j ∈ seen, j<l.length) (ha:∀ j, j<l.length→j ∈ seen):(seen.map fun j=>(l.getD j (0, undef)).1).Perm (l.map (·.1)):=by
  have hp:seen.Perm (List.range l.length):=(List.perm_ext_iff_of_nodup hn List.nodup_range).2 fun a=>⟨fun h=>List.mem_range.2 (hl a h), fun h=>ha a (List.mem_range.1 h)⟩
  have e:(List.range l.length).map (fun j=>(l.getD j (0, undef)).1)=l.map (·.1):=by
    apply List.ext_getElem
    · simp
    · intro j h1 h2
      have hj:j<l.length:=by simpa using h2
      simp [List.getD_eq_getElem?_getD, hj]
  rw [← e]
  exact hp.map _
theorem Has.oth {H:AH} {i z:Nat} {cs:List Value} {e:Nat} {x y:Obj} (h:Has H i (.row cs e)) (hz:H.get z=some (.other x)):Has (H.set z (.other y)) i (.row cs e) :=
  h.setne (fun e=>by subst e; rw [h.get] at hz; cases hz) _
theorem rwp_step {fn:Func} {R:AEnd→AH→Prop} {c a b:Code} {tm:List Value} {H:AH} (h:c=.seq a b) (hc:codeOK a=true)
    (h':awp Tryz.prog a (fun e tm H=>match e with
      | .normal=>RWP Tryz.prog fn R b tm H
      | .ret=>aPost Tryz.prog fn R .ret tm H
      | .panic v=>R (.panic v) H
      | _=>False) tm H):RWP Tryz.prog fn R c tm H:=by
  rw [h]; exact rwp_seq mixed hc h'
end Go.Proofs.YtjhbbbcelnlnpaaGreatDoor
