/- Plain: bytes that are read are those that the thing is written in; a byte more behind it is refused. What is got of any bytes: the thing and the error, in one; what was put is got. -/
import Derived.Test.YtfghglacfjncmaaWCdO
import Derived.Test.YtfghglacfjncmaaWCodAD
import Derived.Test.YtfghglacfjncmaaWCdP
/-! Plain: bytes that are read are those that the thing is written in; a byte more behind it is refused. -/
namespace Go.Proofs.Ytfghglacfjncmaa
set_option linter.unusedVariables false
set_option linter.unusedSimpArgs false
open Go.RowKit

/-- What is read so is written so. -/
def Bw {α : Type} (p : ByteArray → Rd α) (e : α → List UInt8) (ok : α → Prop) : Prop := ∀ s a s', p s = .ok (a, s') → s.data.toList = e a ++ s'.data.toList ∧ ok a
theorem data_drop (s : ByteArray) (k : Nat) : (s.extract k s.size).data.toList = s.data.toList.drop k := by
  conv => lhs; rw [← ofL_data s, extract_ofL, ofL_size, List.take_length, data_ofL]
theorem data_mid (s : ByteArray) (k n : Nat) : (s.extract k n).data.toList = (s.data.toList.take n).drop k := by
  conv => lhs; rw [← ofL_data s, extract_ofL, data_ofL]
theorem pc_vbE {l : List UInt8} {n k : Nat} (h : pc l = .ok (n, k)) : l = vb n ++ l.drop k ∧ (vb n).length = k := by
  have h1 : l.take k = vb n := (pcF_ok 9 true l n k h).2.2.2.1
  have h2 := pc_le h
  exact ⟨by rw [← h1, List.take_append_drop], by rw [← h1, List.length_take]; omega⟩
theorem bw_num : Bw pNum (fun n => vb (zz n)) (fun n => i64ok n) := by
  intro s a s' h
  refine ⟨?_, pNum_ok h⟩
  obtain ⟨h1, rfl, rfl⟩ := ofRd_eq h
  unfold rdC at h1 ⊢
  rw [if_pos rfl] at h1 ⊢
  cases hp : pc s.data.toList with
  | error e => rw [hp] at h1; exact absurd (by simpa using h1) (pc_err hp)
  | ok p =>
    obtain ⟨n, k⟩ := p
    dsimp only
    rw [zz_uz, data_drop]
    exact (pc_vbE hp).1
theorem bw_cnt {m : Int} (hm : 0 ≤ m) : Bw (pCnt m) (fun n => vb n.toNat) (fun n => 0 ≤ n ∧ n ≤ m) := by
  intro s a s' h
  refine ⟨?_, pCnt_range hm h⟩
  obtain ⟨h1, rfl, rfl⟩ := ofRd_eq h
  unfold rdM at h1 ⊢
  rw [if_pos rfl] at h1 ⊢
  cases hp : pc s.data.toList with
  | error e => rw [hp] at h1; exact absurd (by simpa using h1) (pc_err hp)
  | ok p =>
    obtain ⟨n, k⟩ := p
    rw [hp] at h1
    dsimp only at h1 ⊢
    by_cases h2 : m < n
    · rw [if_pos h2] at h1; simp at h1
    · rw [if_neg h2]
      dsimp only
      rw [Int.toNat_natCast, data_drop]
      exact (pc_vbE hp).1
theorem bw_txt {m : Int} : Bw (pTxt m) tbl (fun t => (t.size : Int) ≤ m) := by
  intro s a s' h
  obtain ⟨h1, rfl, rfl⟩ := ofRd_eq h
  unfold rdT at h1 ⊢
  rw [if_pos rfl] at h1 ⊢
  cases hp : pc s.data.toList with
  | error e => rw [hp] at h1; exact absurd (by simpa using h1) (pc_err hp)
  | ok p =>
    obtain ⟨n, k⟩ := p
    rw [hp] at h1
    dsimp only at h1 ⊢
    by_cases h2 : m < n
    · rw [if_pos h2] at h1; simp at h1
    · rw [if_neg h2] at h1 ⊢
      by_cases h3 : s.size < k + n
      · rw [if_pos h3] at h1; simp at h1
      · rw [if_neg h3]
        dsimp only
        have hz : (s.extract k (k + n)).size = n := by simp; omega
        refine ⟨?_, by rw [hz]; omega⟩
        unfold tbl
        rw [hz, data_drop, data_mid]
        obtain ⟨g1, g2⟩ := pc_vbE hp
        conv => lhs; rw [g1]
        rw [List.append_assoc]
        congr 1
        have hl : (s.data.toList.take (k + n)).length = k + n := by rw [List.length_take, data_len]; omega
        conv => lhs; rw [← List.take_append_drop (k + n) s.data.toList]
        rw [List.drop_append_of_le_length (by omega)]
theorem fst8_eq {s : ByteArray} (h : s.size ≠ 0) : s.data.toList = UInt8.ofNat (fst8 s) :: s.data.toList.drop 1 := by
  have hl := data_len s
  unfold fst8
  cases hd : s.data.toList with
  | nil => rw [hd] at hl; exact absurd hl.symm h
  | cons c l => simp
theorem bw_byte : Bw pByte (fun n => [UInt8.ofNat n]) (fun n => n < 256) := by
  intro s a s' h
  obtain ⟨h1, rfl, rfl⟩ := ofRd_eq h
  unfold rdB at h1 ⊢
  rw [if_pos rfl] at h1 ⊢
  by_cases h2 : s.size = 0
  · rw [if_pos h2] at h1; simp at h1
  · rw [if_neg h2]
    dsimp only
    rw [data_drop]
    exact ⟨fst8_eq h2, fst8_lt s⟩
theorem bw_tru : Bw pTru (fun b => [if b = true then 1 else 0]) (fun _ => True) := by
  intro s a s' h
  refine ⟨?_, trivial⟩
  obtain ⟨h1, rfl, rfl⟩ := ofRd_eq h
  unfold rdH at h1 ⊢
  by_cases h2 : (0 : Int) = 0 ∧ s.size ≠ 0 ∧ 1 < fst8 s
  · rw [if_pos h2] at h1; simp at h1
  · rw [if_neg h2] at h1 ⊢
    dsimp only at h1 ⊢
    unfold rdB at h1 ⊢
    rw [if_pos rfl] at h1 ⊢
    by_cases h3 : s.size = 0
    · rw [if_pos h3] at h1; simp at h1
    · rw [if_neg h3]
      dsimp only
      rw [data_drop]
      conv => lhs; rw [fst8_eq h3]
      have : fst8 s = 0 ∨ fst8 s = 1 := by
        have : ¬ 1 < fst8 s := fun y => h2 ⟨rfl, h3, y⟩
        omega
      rcases this with e | e <;> rw [e] <;> rfl
theorem bw_rep {α : Type} {p : ByteArray → Rd α} {e : α → List UInt8} {ok : α → Prop} (hp : Bw p e ok) (n : Nat) : Bw (pRep p n) (fun l => (l.map e).flatten) (fun l => l.length = n ∧ ∀ a ∈ l, ok a) := by
  induction n with
  | zero =>
    intro s a s' h
    cases h
    exact ⟨by simp, rfl, fun a ha => by simp at ha⟩
  | succ n ih =>
    intro s a s' h
    rw [pRep] at h
    obtain ⟨b, s1, h1, h2⟩ := pBind_ok h
    obtain ⟨l, s2, h3, h4⟩ := pBind_ok h2
    cases h4
    obtain ⟨g1, g2⟩ := hp _ _ _ h1
    obtain ⟨g3, g4, g5⟩ := ih _ _ _ h3
    dsimp only at g3 ⊢
    refine ⟨by rw [List.map_cons, List.flatten_cons, List.append_assoc, g1, g3], by rw [List.length_cons, g4], fun x hx => ?_⟩
    rcases List.mem_cons.1 hx with rfl | hx
    · exact g2
    · exact g5 x hx
theorem bw_val : Bw pVal valB (fun v => rightV v = true) := by
  intro s v s' h
  refine ⟨?_, (pVal_ok h).2.1⟩
  unfold pVal at h
  obtain ⟨k, s1, h1, h2⟩ := pBind_ok h
  obtain ⟨w, s2, h3, h4⟩ := pBind_ok h2
  split at h4
  case isFalse => cases h4
  cases h4
  obtain ⟨e1, hk⟩ := bw_byte _ _ _ h1
  have key : v.kind = (k : Int) ∧ s1.data.toList = valBody v ++ s'.data.toList := by
    unfold pBody at h3
    unfold valBody
    split at h3
    · rename_i c
      obtain ⟨n, s3, h5, h6⟩ := pBind_ok h3
      cases h6
      dsimp only
      rw [if_pos c]
      exact ⟨rfl, (bw_num _ _ _ h5).1⟩
    rename_i c1
    split at h3
    · rename_i c
      obtain ⟨n, s3, h5, h6⟩ := pBind_ok h3
      cases h6
      dsimp only
      rw [if_neg c1, if_pos c]
      refine ⟨rfl, ?_⟩
      have := (bw_tru _ _ _ h5).1
      rw [this]
      cases n <;> rfl
    rename_i c2
    split at h3
    · rename_i c
      obtain ⟨n, s3, h5, h6⟩ := pBind_ok h3
      cases h6
      dsimp only
      rw [if_neg c1, if_neg c2, if_pos (.inl c)]
      exact ⟨rfl, (bw_txt _ _ _ h5).1⟩
    rename_i c3
    split at h3
    · rename_i c
      obtain ⟨n, s3, h5, h6⟩ := pBind_ok h3
      cases h6
      dsimp only
      rw [if_neg c1, if_neg c2, if_pos (.inr c)]
      exact ⟨rfl, (bw_txt _ _ _ h5).1⟩
    rename_i c4
    split at h3
    · rename_i c
      obtain ⟨n, s3, h5, h6⟩ := pBind_ok h3
      obtain ⟨l, s4, h7, h8⟩ := pBind_ok h6
      cases h8
      dsimp only
      rw [if_neg c1, if_neg c2, if_neg (show ¬ ((k : Int) = 3 ∨ (k : Int) = 4) by omega), if_pos c]
      refine ⟨rfl, ?_⟩
      obtain ⟨g1, g2⟩ := bw_cnt (m := 16) (by omega) _ _ _ h5
      rw [pNums_rep] at h7
      obtain ⟨g3, g4, _⟩ := bw_rep bw_num n.toNat _ _ _ h7
      rw [g1, g3, g4, List.append_assoc]
      rfl
    · rename_i c
      cases h3
      dsimp only
      rw [if_neg c1, if_neg c2, if_neg (show ¬ ((k : Int) = 3 ∨ (k : Int) = 4) by omega), if_neg c]
      exact ⟨rfl, rfl⟩
  unfold valB
  rw [key.1, e1, key.2, Int.toNat_natCast]
  rfl
theorem bw_row : Bw pRow rowB rowOK := by
  intro s a s' h
  refine ⟨?_, (pRow_ok h).1⟩
  unfold pRow at h
  obtain ⟨n, s1, h1, h2⟩ := pBind_ok h
  obtain ⟨g1, g2⟩ := bw_cnt (m := 16) (by omega) _ _ _ h1
  obtain ⟨g3, g4, _⟩ := bw_rep bw_val n.toNat _ _ _ h2
  unfold rowB
  rw [g1, g3, g4, List.append_assoc]
  rfl
theorem bw_mail : Bw pMail mailB mailOK := by
  intro s x s' h
  refine ⟨?_, (pMail_ok h).1⟩
  unfold pMail at h
  obtain ⟨a, s1, h1, h⟩ := pBind_ok h
  obtain ⟨b, s2, h2, h⟩ := pBind_ok h
  obtain ⟨c, s3, h3, h⟩ := pBind_ok h
  obtain ⟨d, s4, h4, h⟩ := pBind_ok h
  cases h
  unfold mailB
  rw [(bw_num _ _ _ h1).1, (bw_txt _ _ _ h2).1, (bw_row _ _ _ h3).1, (bw_row _ _ _ h4).1]
  simp only [List.append_assoc]
theorem bw_event : Bw pEvent (fun x => vb (zz x.n) ++ (vb (zz x.tick) ++ (vb (zz x.item) ++ (tbl x.name ++ (tbl x.typ ++ (tbl x.state ++ rowB x.attrs)))))) (fun x => x.name.size ≤ 24 ∧ x.typ.size ≤ 24 ∧ x.state.size ≤ 24 ∧ rowOK x.attrs) := by
  intro s x s' h
  unfold pEvent at h
  obtain ⟨a, s1, h1, h⟩ := pBind_ok h
  obtain ⟨b, s2, h2, h⟩ := pBind_ok h
  obtain ⟨c, s3, h3, h⟩ := pBind_ok h
  obtain ⟨d, s4, h4, h⟩ := pBind_ok h
  obtain ⟨e, s5, h5, h⟩ := pBind_ok h
  obtain ⟨f, s6, h6, h⟩ := pBind_ok h
  obtain ⟨g, s7, h7, h⟩ := pBind_ok h
  cases h
  obtain ⟨e1, o1⟩ := bw_num _ _ _ h1
  obtain ⟨e2, o2⟩ := bw_num _ _ _ h2
  obtain ⟨e3, o3⟩ := bw_num _ _ _ h3
  obtain ⟨e4, o4⟩ := bw_txt _ _ _ h4
  obtain ⟨e5, o5⟩ := bw_txt _ _ _ h5
  obtain ⟨e6, o6⟩ := bw_txt _ _ _ h6
  obtain ⟨e7, o7⟩ := bw_row _ _ _ h7
  refine ⟨?_, by dsimp only; omega, by dsimp only; omega, by dsimp only; omega, o7⟩
  dsimp only
  rw [e1, e2, e3, e4, e5, e6, e7]
  simp only [List.append_assoc]
theorem pAll_ok {α : Type} {p : ByteArray → Rd α} {s : ByteArray} {a : α} (h : pAll (p s) = .ok a) : ∃ s', p s = .ok (a, s') ∧ s'.data.toList = [] := by
  cases hp : p s with
  | error e => rw [hp] at h; cases h
  | ok x =>
    obtain ⟨b, s'⟩ := x
    rw [hp] at h
    replace h : (if s'.size = 0 then (Except.ok b : Except Int α) else .error 4) = Except.ok a := h
    split at h
    · rename_i hz
      cases h
      exact ⟨s', rfl, List.eq_nil_of_length_eq_zero (by rw [data_len]; exact hz)⟩
    · cases h
/-- All of the bytes are the thing's. -/
theorem Bw.all {α : Type} {p : ByteArray → Rd α} {e : α → List UInt8} {ok : α → Prop} (h : Bw p e ok) {s : ByteArray} {a : α} (hs : pAll (p s) = .ok a) : s = ofL (e a) ∧ ok a := by
  obtain ⟨s', h1, h2⟩ := pAll_ok hs
  obtain ⟨h3, h4⟩ := h _ _ _ h1
  rw [h2, List.append_nil] at h3
  exact ⟨by rw [← h3, ofL_data], h4⟩
end Go.Proofs.Ytfghglacfjncmaa

/-! What is got of any bytes: the thing and the error, in one; what was put is got. -/
namespace Go.Proofs.Ytfghglacfjncmaa
set_option linter.unusedVariables false
set_option linter.unusedSimpArgs false
open Go.RowKit

def gA {α : Type} (z : α) (r : Except Int α) : α := match r with | .ok a => a | .error _ => z
def gE {α : Type} (r : Except Int α) : Int := match r with | .ok _ => 0 | .error e => e
abbrev zVal : Val := ⟨0, 0, ⟨#[]⟩, []⟩
abbrev zMai : Mai := ⟨0, ⟨#[]⟩, [], []⟩
abbrev zIte : Ite := ⟨0, ⟨#[]⟩, ⟨#[]⟩, 0, [], [], []⟩
abbrev zDea : Dea := ⟨0, zMai, 0⟩
abbrev zEvt : Evt := ⟨0, 0, ⟨#[]⟩, 0, ⟨#[]⟩, ⟨#[]⟩, []⟩
abbrev zSbs : Sbs := ⟨0, ⟨#[]⟩, 0⟩
theorem i64_0 : i64ok 0 := by unfold i64ok; omega
section
variable {H : AH} {R : AEnd → AH → Prop} {s : ByteArray}
theorem VIs.z : VIs H zVal none := ⟨i64_0, fun n hn => by simp at hn, 0, Vw.nil _ _⟩
theorem RIs.z : RIs H none [] := ⟨0, [], ⟨rfl, fun e => absurd rfl e⟩, fun k hk => by simp at hk⟩
theorem BIs.z : BIs H none [] := ⟨0, [], ⟨rfl, fun e => absurd rfl e⟩, fun k hk => by simp at hk⟩
theorem MIs.z : MIs H zMai none none := ⟨i64_0, RIs.z, RIs.z⟩
theorem IIs.z : IIs H zIte none none none := ⟨i64_0, i64_0, RIs.z, ⟨fun n hn => by simp at hn, 0, Vw.nil _ _⟩, BIs.z⟩
theorem anyd_call (hs : s.size ≤ 4611686018427387904) (h : ∀ H' w kb kc fb fc e, w = gA zDea (pAll (pDead s)) → e = gE (pAll (pDead s)) → Fr [] H H' → i64ok w.n → MIs H' w.mail kb fb → R (.ret (.tuple #[.agg (deaC w kb kc fb fc).toArray, .int .i64 e])) H') : ACall Try.prog 41 [.string s] H R :=
  xgetd_call hs (fun v hv H' val f ⟨kb, kc, fb, fc, g1, g2, g3⟩ => by rw [g1]; exact h H' v kb kc fb fc 0 (by rw [hv]; rfl) (by rw [hv]; rfl) f g2 g3.is)
    (fun e he H' f => h H' zDea none 0 none 0 e (by rw [he]; rfl) (by rw [he]; rfl) f i64_0 MIs.z)
theorem anye_call (hs : s.size ≤ 4611686018427387904) (h : ∀ H' w ab ac e, w = gA zEvt (pAll (pEvent s)) → e = gE (pAll (pEvent s)) → Fr [] H H' → (i64ok w.n ∧ i64ok w.tick ∧ i64ok w.item) → RIs H' ab w.attrs → R (.ret (.tuple #[.agg (evtC w ab ac).toArray, .int .i64 e])) H') : ACall Try.prog 43 [.string s] H R :=
  xgete_call hs (fun v hv H' val f ⟨ab, ac, g1, g2, g3⟩ => by rw [g1]; exact h H' v ab ac 0 (by rw [hv]; rfl) (by rw [hv]; rfl) f g2 g3.is)
    (fun e he H' f => h H' zEvt none 0 e (by rw [he]; rfl) (by rw [he]; rfl) f ⟨i64_0, i64_0, i64_0⟩ RIs.z)
theorem anys_call (hs : s.size ≤ 4611686018427387904) (h : ∀ H' w e, w = gA zSbs (pAll (pSub s)) → e = gE (pAll (pSub s)) → Fr [] H H' → (i64ok w.id ∧ i64ok w.past) → R (.ret (.tuple #[.agg (sbsC w).toArray, .int .i64 e])) H') : ACall Try.prog 45 [.string s] H R :=
  xgets_call hs (fun v hv H' val f ⟨g1, g2⟩ => by rw [g1]; exact h H' v 0 (by rw [hv]; rfl) (by rw [hv]; rfl) f g2)
    (fun e he H' f => h H' zSbs e (by rw [he]; rfl) (by rw [he]; rfl) f ⟨i64_0, i64_0⟩)
end
end Go.Proofs.Ytfghglacfjncmaa
