/- The log: what Open comes to. -/
import Derived.Test.YtjhbbbcelnlnpaaGreatDoorWNbn
namespace Go.Proofs.YtjhbbbcelnlnpaaGreatDoor
open Go.RowKit

section
attribute [local irreducible] getH
theorem getH_ok (s:ByteArray) (h:(getH s).2=true):okH (getH s).1:=by
  unfold getH at h ⊢
  split at h
  · cases h
  · split at h
    · cases h
    · split at h
      · rename_i h1 h2 h3
        rw [if_neg h1, if_neg h2, if_pos h3]; exact h3
      · cases h
theorem hfind_append (l:List (HV × Nat)) (e:HV × Nat) (s:Nat):hfind (l ++ [e]) s=match hfind l s with
    | some x=>some x
    | none=>if e.1.sr=s then some e else none:=by
  unfold hfind
  rw [List.find?_append]
  cases List.find? (fun e=>e.1.sr == s) l with
  | some x=>rfl
  | none =>
    rw [List.find?_cons]
    by_cases h:e.1.sr=s
    · simp [h]
    · have:(e.1.sr == s)=false:=by simpa using h
      simp [h, this]
structure ScanOK (secs:List ByteArray) (per i:Nat) (l:List (HV × Nat)):Prop where
  good:∀ e ∈ l, okH e.1∧e.1.fits∧e.2<i
  all:∀ e ∈ l, hfind l e.1.sr=some e
  len:l.length≤i
  uniq:∀ e ∈ l, ∀ e' ∈ l, e.2=e'.2→e=e'
theorem scanN_ok (secs:List ByteArray) (per:Nat):∀ i, ScanOK secs per i (scanN secs per i)
  | 0=>⟨fun e he=>absurd he (List.not_mem_nil), fun e he=>absurd he (List.not_mem_nil), Nat.le_refl _, fun e he=>absurd he (List.not_mem_nil)⟩
  | i + 1=>by
    have ih:=scanN_ok secs per i
    show ScanOK secs per (i + 1) (scanStep secs per (scanN secs per i) i)
    unfold scanStep
    split
    · rename_i h
      refine ⟨fun e he=>?_, fun e he=>?_, ?_, fun e he e' he' h2=>?_⟩
      · rcases List.mem_append.1 he with he | he
        · have:=ih.good e he; exact ⟨this.1, this.2.1, by omega⟩
        · have he:=List.mem_singleton.1 he; subst he
          exact ⟨getH_ok _ h.1, getH_fits _, Nat.lt_succ_self _⟩
      · rw [hfind_append]
        rcases List.mem_append.1 he with he | he
        · rw [ih.all e he]
        · have he:=List.mem_singleton.1 he; subst he
          rw [h.2]
          simp only [if_true]
      · rw [List.length_append]; have:=ih.len; simp; omega
      · rcases List.mem_append.1 he with he | he <;> rcases List.mem_append.1 he' with he' | he'
        · exact ih.uniq e he e' he' h2
        · have he':=List.mem_singleton.1 he'; subst he'
          have:=(ih.good e he).2.2; have h2:e.2=i:=h2; omega
        · have he:=List.mem_singleton.1 he; subst he
          have:=(ih.good e' he').2.2; have h2:i=e'.2:=h2; omega
        · rw [List.mem_singleton.1 he, List.mem_singleton.1 he']
    · exact ⟨fun e he=>by have:=ih.good e he; exact ⟨this.1, this.2.1, by omega⟩, ih.all, by have:=ih.len; omega, ih.uniq⟩
theorem hfind_mem {l:List (HV × Nat)} {s:Nat} {e:HV × Nat} (h:hfind l s=some e):e ∈ l∧e.1.sr=s:=by
  unfold hfind at h
  exact ⟨List.mem_of_find?_eq_some h, by simpa using List.find?_some h⟩
theorem scan_wf {secs:List ByteArray} {per:Nat} (h64:∀ s ∈ secs, s.size=64) (hfew:secs.length≤4096) (hp:2≤per) (h3:3 * per≤secs.length):Wf secs per (scan secs per):=by
  have ok:=scanN_ok secs per (secs.length / per)
  refine ⟨fun s e he=>?_, ok.all, h64, hfew, hp, h3⟩
  obtain ⟨hm, hs⟩:=hfind_mem he
  obtain ⟨g1, g2, g3⟩:=ok.good e hm
  refine ⟨hs, g1, g2, ?_⟩
  exact Nat.le_trans (Nat.mul_le_mul_right _ (Nat.succ_le_of_lt g3)) (Nat.div_mul_le_self _ _)
theorem mostS_le (l:List (HV × Nat)):∀ e ∈ l, e.1.sr≤mostS l:=by
  have key:∀ (l:List (HV × Nat)) (m:Nat), m≤l.foldl (fun m e=>if m<e.1.sr then e.1.sr else m) m∧∀ e ∈ l, e.1.sr≤l.foldl (fun m e=>if m<e.1.sr then e.1.sr else m) m:=by
    intro l
    induction l with
    | nil=>exact fun m=>⟨Nat.le_refl _, fun e he=>absurd he (List.not_mem_nil)⟩
    | cons a l ih =>
      intro m
      have h:=ih (if m<a.1.sr then a.1.sr else m)
      rw [List.foldl_cons]
      refine ⟨Nat.le_trans ?_ h.1, fun e he=>?_⟩
      · split <;> omega
      · rcases List.mem_cons.1 he with rfl | he
        · exact Nat.le_trans (by split <;> omega) h.1
        · exact h.2 e he
  exact (key l 0).2
theorem mostS_lt (l:List (HV × Nat)) (h:∀ e ∈ l, e.1.sr<4294967296):mostS l<4294967296:=by
  have key:∀ (l:List (HV × Nat)) (m:Nat), m<4294967296→(∀ e ∈ l, e.1.sr<4294967296)→l.foldl (fun m e=>if m<e.1.sr then e.1.sr else m) m<4294967296:=by
    intro l
    induction l with
    | nil=>exact fun m hm _=>hm
    | cons a l ih =>
      intro m hm ha
      rw [List.foldl_cons]
      exact ih _ (by have:=ha a (by simp); split <;> omega) (fun e he=>ha e (by simp [he]))
  exact key l 0 (by decide) h
end
theorem chainN_facts {l:List (HV × Nat)} {base:Nat}:∀ (f s:Nat) (acc out:List Nat), chainN l base f s acc=some out→(∀ x ∈ acc, (hfind l x).isSome=true)→(∀ x ∈ out, (hfind l x).isSome=true)∧∃ pre, out=pre ++ [base]
  | 0, s, acc, out, h, _=>by cases h
  | f + 1, s, acc, out, h, ha=>by
    unfold chainN at h
    split at h
    · cases h
    · rename_i e he
      have hs:∀ x ∈ acc ++ [s], (hfind l x).isSome=true:=by
        intro x hx
        rcases List.mem_append.1 hx with hx | hx
        · exact ha x hx
        · simp at hx; subst hx; rw [he]; rfl
      split at h
      · cases h
      · split at h
        · rename_i hsb
          cases h
          subst hsb
          exact ⟨hs, acc, rfl⟩
        · exact chainN_facts f _ _ _ h hs
theorem chainN_down {l:List (HV × Nat)} {base:Nat} (hok:∀ s e, hfind l s=some e→e.1.sr=s∧okH e.1):∀ (f s:Nat) (acc out:List Nat), chainN l base f s acc=some out→(∀ x ∈ acc, s<x)→acc.Nodup→out.Nodup
  | 0, s, acc, out, h, _, _=>by cases h
  | f + 1, s, acc, out, h, ha, hn=>by
    unfold chainN at h
    split at h
    · cases h
    · rename_i e he
      have hnd:(acc ++ [s]).Nodup:=List.nodup_append.2 ⟨hn, by simp, fun a h1 b h2 e=>by have:=ha a h1; rw [List.mem_singleton.1 h2] at e; omega⟩
      obtain ⟨h1, h2⟩:=hok s e he
      have hlt:e.1.pr<s:=by have:=h2.2.2; omega
      split at h
      · cases h
      · split at h
        · cases h; exact hnd
        · refine chainN_down hok f _ _ _ h (fun x hx=>?_) hnd
          rcases List.mem_append.1 hx with hx | hx
          · have:=ha x hx; omega
          · rw [List.mem_singleton.1 hx]; exact hlt
theorem chainP_nodup {secs:List ByteArray} {per:Nat} {l:List (HV × Nat)} (hok:∀ s e, hfind l s=some e→e.1.sr=s∧okH e.1) {s:Nat} {out:List Nat} (h:chainP secs per l s=some out):out.Nodup:=by
  unfold chainP at h
  split at h
  · cases h
  · rename_i out' ho
    have hn:=chainN_down hok _ _ _ _ ho (fun x hx=>absurd hx (List.not_mem_nil)) .nil
    split at h
    · cases h
    · split at h
      · cases h
        exact List.pairwise_reverse.2 (hn.imp (fun h e=>h e.symm))
      · cases h
theorem chainP_facts {secs:List ByteArray} {per:Nat} {l:List (HV × Nat)} {s:Nat} {out:List Nat} (h:chainP secs per l s=some out):(∀ x ∈ out, (hfind l x).isSome=true)∧∃ t, out=baseOf l s :: t:=by
  unfold chainP at h
  split at h
  · cases h
  · rename_i out' ho
    obtain ⟨h1, pre, rfl⟩:=chainN_facts _ _ _ _ ho (fun x hx=>absurd hx (List.not_mem_nil))
    split at h
    · cases h
    · split at h
      · cases h
        exact ⟨fun x hx=>h1 x (List.mem_reverse.1 hx), pre.reverse, by simp⟩
      · cases h
theorem recsP_le (secs:List ByteArray) (per:Nat) (l:List (HV × Nat)):∀ (ch:List Nat) (n seq:Nat) (out:List ByteArray), n≤(recsP secs per l ch n seq out).2.2
  | [], n, seq, out=>Nat.le_refl _
  | s :: ch, n, seq, out=>by
    unfold recsP
    split
    · exact Nat.le_refl _
    · split
      · exact Nat.le_refl _
      · exact Nat.le_trans (Nat.le_succ n) (recsP_le secs per l ch (n + 1) _ _)
theorem recs0_pos {secs:List ByteArray} {per:Nat} {l:List (HV × Nat)} {ch:List Nat} (hne:ch ≠ []) (h:∀ x ∈ ch, (hfind l x).isSome=true):1≤(recs0 secs per l ch).2.2:=by
  cases ch with
  | nil=>exact absurd rfl hne
  | cons s ch =>
    have hs:=h s (by simp)
    cases he:hfind l s with
    | none=>rw [he] at hs; cases hs
    | some e =>
      show 1≤(recsP secs per l (s :: ch) 0 (match hfind l s with | some e=>e.1.sq | none=>0) []).2.2
      rw [he]
      unfold recsP
      rw [he]
      simp only []
      rw [if_neg (by simp)]
      exact recsP_le _ _ _ _ _ _ _
def placeP (l:List (HV × Nat)) (s:Nat):Nat:=match hfind l s with
  | some e=>e.2
  | none=>0
def pickP (secs:List ByteArray) (per:Nat) (l:List (HV × Nat)):List Nat→Option (List Nat)
  | []=>none
  | s :: r=>match chainP secs per l s with
    | some ch=>some ch
    | none=>pickP secs per l r
def foundL (secs:List ByteArray) (per:Nat) (l:List (HV × Nat)) (ch:List Nat):Lg :=
  ⟨per, (ch.take (recs0 secs per l ch).2.2).map (placeP l), ch.headD 0, ch.getD ((recs0 secs per l ch).2.2 - 1) 0, mostS l, (recs0 secs per l ch).2.1, 0, false⟩
def newL (per most:Nat):Lg:=⟨per, [], 0, 0, most, 0, 0, false⟩
def openP (d:Dev) (per:Nat):(Int ⊕ (Lg × List ByteArray)) × Dev :=
  match pickP d.secs per (scan d.secs per) (isort ((scan d.secs per).map fun e=>e.1.sr)).reverse with
  | some ch=>(.inr (foundL d.secs per (scan d.secs per) ch, (recs0 d.secs per (scan d.secs per) ch).1), d)
  | none=>if (ckP (newL per (mostS (scan d.secs per))) d ByteArray.empty).1 ≠ 0 then (.inl (ckP (newL per (mostS (scan d.secs per))) d ByteArray.empty).1, (ckP (newL per (mostS (scan d.secs per))) d ByteArray.empty).2.2)
    else (.inr ((ckP (newL per (mostS (scan d.secs per))) d ByteArray.empty).2.1, [ByteArray.empty]), (ckP (newL per (mostS (scan d.secs per))) d ByteArray.empty).2.2)
theorem pickP_some {secs:List ByteArray} {per:Nat} {l:List (HV × Nat)} {ch:List Nat}:∀ {r:List Nat}, pickP secs per l r=some ch→∃ s ∈ r, chainP secs per l s=some ch
  | [], h=>by cases h
  | s :: r, h=>by
    unfold pickP at h
    split at h
    · rename_i c hc
      cases h
      exact ⟨s, by simp, hc⟩
    · obtain ⟨s', hs', h'⟩:=pickP_some h
      exact ⟨s', by simp [hs'], h'⟩
theorem newL_ok {d:Dev} {per most:Nat} (hp:2≤per) (h3:3 * per≤d.lasts.length) (hm:most<4294967296):LgOK (newL per most) d :=
  ⟨hp, h3, hm, by show 0<_; omega, by show 0<_; omega, by show 0<_; omega, Nat.zero_le _, Nat.zero_le _, fun x hx=>absurd hx (List.not_mem_nil)⟩
end Go.Proofs.YtjhbbbcelnlnpaaGreatDoor
