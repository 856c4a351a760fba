/- CodeAgain: the law. -/
import Derived.Test.YtfghglacfjncmaaWCodAG
import Derived.Test.YtfghglacfjncmaaWGenV
namespace Go.Proofs.Ytfghglacfjncmaa
set_option linter.unusedVariables false
set_option linter.unusedSimpArgs false
open Go.RowKit

/-- Errors that are errors. -/
def Nz {α : Type} (p : ByteArray → Rd α) : Prop := ∀ s e, p s = .error e → e ≠ 0
theorem nz_of {α : Type} {x : α × ByteArray × Int} {e : Int} (h : ofRd x = .error e) : e ≠ 0 := by
  unfold ofRd at h
  split at h
  · cases h
  · rename_i hx; cases h; exact hx
theorem nz_num : Nz pNum := fun _ _ h => nz_of h
theorem nz_cnt {m : Int} : Nz (pCnt m) := fun _ _ h => nz_of h
theorem nz_txt {m : Int} : Nz (pTxt m) := fun _ _ h => nz_of h
theorem nz_byte : Nz pByte := fun _ _ h => nz_of h
theorem nz_tru : Nz pTru := fun _ _ h => nz_of h
theorem nz_bind {α β : Type} {x : Rd α} {f : α → ByteArray → Rd β} {e : Int} (hx : ∀ e, x = .error e → e ≠ 0) (hf : ∀ a s, x = .ok (a, s) → f a s = .error e → e ≠ 0) (h : pBind x f = .error e) : e ≠ 0 := by
  cases hq : x with
  | error e' => rw [hq] at h; cases h; exact hx _ hq
  | ok y => rw [hq] at h; exact hf y.1 y.2 hq h
theorem nz_ret {α : Type} {a : α × ByteArray} {e : Int} (h : (Except.ok a : Rd α) = .error e) : e ≠ 0 := by cases h
theorem nz_rep {α : Type} {p : ByteArray → Rd α} (hp : Nz p) (n : Nat) : Nz (pRep p n) := by
  induction n with
  | zero => intro s e h; cases h
  | succ n ih => exact fun s e h => nz_bind (hp _) (fun a s1 _ h => nz_bind (ih _) (fun l s2 _ h => nz_ret h) h) h
theorem nz_val : Nz pVal := by
  intro s e h
  unfold pVal at h
  refine nz_bind (nz_byte _) (fun k s1 _ h => nz_bind (fun e h => ?_) (fun v s2 _ h => ?_) h) h
  · unfold pBody at h
    split at h
    · exact nz_bind (nz_num _) (fun a s _ h => nz_ret h) h
    split at h
    · exact nz_bind (nz_tru _) (fun a s _ h => nz_ret h) h
    split at h
    · exact nz_bind (nz_txt _) (fun a s _ h => nz_ret h) h
    split at h
    · exact nz_bind (nz_txt _) (fun a s _ h => nz_ret h) h
    split at h
    · exact nz_bind (nz_cnt _) (fun a s _ h => nz_bind (fun e h => nz_rep nz_num _ _ _ (by rw [pNums_rep] at h; exact h)) (fun a s _ h => nz_ret h) h) h
    · exact nz_ret h
  · split at h
    · exact nz_ret h
    · cases h; decide
theorem nz_row : Nz pRow := fun s e h => nz_bind (nz_cnt _) (fun a s _ h => nz_rep nz_val _ _ _ h) h
theorem nz_mail : Nz pMail := fun s e h => nz_bind (nz_num _) (fun _ _ _ h => nz_bind (nz_txt _) (fun _ _ _ h => nz_bind (nz_row _) (fun _ _ _ h => nz_bind (nz_row _) (fun _ _ _ h => nz_ret h) h) h) h) h
theorem nz_item : Nz pItem := fun s e h => nz_bind (nz_num _) (fun _ _ _ h => nz_bind (nz_num _) (fun _ _ _ h => nz_bind (nz_txt _) (fun _ _ _ h => nz_bind (nz_txt _) (fun _ _ _ h => nz_bind (nz_row _) (fun _ _ _ h =>
  nz_bind (nz_cnt _) (fun _ _ _ h => nz_bind (nz_rep nz_cnt _ _) (fun _ _ _ h => nz_bind (nz_cnt _) (fun _ _ _ h => nz_bind (nz_rep nz_mail _ _) (fun _ _ _ h => nz_ret h) h) h) h) h) h) h) h) h) h
theorem nz_dead : Nz pDead := fun s e h => nz_bind (nz_num _) (fun _ _ _ h => nz_bind (nz_mail _) (fun _ _ _ h => nz_bind (nz_cnt _) (fun _ _ _ h => nz_ret h) h) h) h
theorem nz_event : Nz pEvent := fun s e h => nz_bind (nz_num _) (fun _ _ _ h => nz_bind (nz_num _) (fun _ _ _ h => nz_bind (nz_num _) (fun _ _ _ h => nz_bind (nz_txt _) (fun _ _ _ h => nz_bind (nz_txt _) (fun _ _ _ h => nz_bind (nz_txt _) (fun _ _ _ h =>
  nz_bind (nz_row _) (fun _ _ _ h => nz_ret h) h) h) h) h) h) h) h
theorem nz_sub : Nz pSub := fun s e h => nz_bind (nz_num _) (fun _ _ _ h => nz_bind (nz_num _) (fun _ _ _ h => nz_bind (nz_txt _) (fun _ _ _ h => nz_ret h) h) h) h
theorem Nz.ok {α : Type} {p : ByteArray → Rd α} (h : Nz p) {s : ByteArray} {z : α} (he : gE (pAll (p s)) = 0) : ∃ a, pAll (p s) = .ok a ∧ gA z (pAll (p s)) = a := by
  cases hp : p s with
  | error e => rw [hp] at he; exact absurd he (h _ _ hp)
  | ok x =>
    obtain ⟨a, s'⟩ := x
    rw [hp] at he
    by_cases hz : s'.size = 0
    · exact ⟨a, by show (if s'.size = 0 then _ else _) = _; rw [if_pos hz], by show gA z (if s'.size = 0 then _ else _) = _; rw [if_pos hz]; rfl⟩
    · replace he : gE (if s'.size = 0 then (Except.ok a : Except Int α) else .error 4) = 0 := he
      rw [if_neg hz] at he; cases he
/-- What is got, put again. -/
theorem again_of {α : Type} {p : ByteArray → Rd α} {enc : α → List UInt8} {ok : α → Prop} (h : Bw p enc ok) {P : α → Option (List UInt8)} (hP : ∀ a, ok a → P a = some (enc a)) {s : ByteArray} {a : α} (hs : pAll (p s) = .ok a) : putS (P a) = s ∧ putE (P a) = 0 := by
  obtain ⟨h1, h2⟩ := h.all hs
  rw [hP a h2, h1]
  exact ⟨rfl, rfl⟩
theorem eventP_some (x : Evt) (h : x.name.size ≤ 24 ∧ x.typ.size ≤ 24 ∧ x.state.size ≤ 24 ∧ rowOK x.attrs) : eventP x = some (vb (zz x.n) ++ (vb (zz x.tick) ++ (vb (zz x.item) ++ (tbl x.name ++ (tbl x.typ ++ (tbl x.state ++ rowB x.attrs)))))) := by
  unfold eventP nameP rowP
  rw [if_pos h.1, if_pos h.2.1, if_pos h.2.2.1, if_pos h.2.2.2]
  rfl
theorem subP_some (x : Sbs) (h : x.role.size ≤ 24) : subP x = some (vb (zz x.id) ++ (vb (zz x.past) ++ tbl x.role)) := by
  unfold subP nameP
  rw [if_pos h]
  rfl
theorem mailP_some (x : Mai) (h : mailOK x) : mailP x = some (mailB x) := by rw [mailP_eq, if_pos h]
theorem itemP_some (x : Ite) (h : itemOK x) : itemP x = some (itemB x) := by rw [itemP_eq, if_pos h]
theorem wNewSt_at {A B : List Value} {H : AH} {K : Nat → AH → Prop} (hl : 0 + B.length ≤ A.length) (h : ∀ i H', Has H' i (.row (setCells A 0 B) 0) → Fr [] H H' → K i H') : wNew A H fun i H1 => wSt i 0 B H1 (K i) :=
  wNew_at (wSt_at (Has.new _ _) hl (h _ _ ((Has.new _ _).set _) (((Fr.refl [] H).push _).set (.inr (Nat.le_refl _)) _)))
section
variable {H : AH} {R : AEnd → AH → Prop}
set_option maxRecDepth 20000 in
set_option maxHeartbeats 16000000 in
theorem again_walk (hT : ∀ H', R (.ret (.bool true)) H') (s : ByteArray) : ACall Try.prog 9 [.string s] H R := by
  apply f9_call
  unfold f9_B
  refine wCall_of (awake_call (fun H2 f2 => opB_at (wIf_f rfl (wIf_d (fun e => wCall_of (awake_call (fun H3 f3 => opB_at (hT _)))) (fun hs => ?_)))))
  refine wCall_of (anyi_call (by omega) (fun H3 x ab ac cb cc bb bc e hx he f3 hi => opT_at rfl (opA_at rfl (opI_at (opS_at (opS_at (opI_at (opL_at (opL_at (opL_at (opI_at (wNewSt_at (Nat.le_of_ble_eq_true rfl) (fun q H4 st f4 => ?_)))))))))))))
  replace hi := hi.fr f4
  refine wIf_d (fun e0 => ?_) (fun e0 => ?_)
  rw [e0] at he
  obtain ⟨x', hok, hx'⟩ := nz_item.ok (z := zIte) he.symm
  obtain rfl : x = x' := hx.trans hx'
  obtain ⟨g1, g2⟩ := again_of bw_item (P := itemP) itemP_some hok
  refine ldI_at st rfl (ldS_at st rfl (ldS_at st rfl (ldI_at st rfl (ldL_at st rfl (ldL_at st rfl (ldL_at st rfl ?_))))))
  refine wCall_of (xputi_call x hi (fun H5 f5 => opT_at rfl (opS_at (opI_at ?_))))
  rw [g1, g2]
  refine wCat_at (by show s.size + 1 ≤ _; omega) ?_
  refine wCall_of (anyi_call (by rw [ByteArray.size_append]; show s.size + 1 ≤ _; omega) (fun H6 y ab' ac' cb' cc' bb' bc' e' hy he' f6 hi' => opT_at rfl (opA_at rfl (opI_at (opS_at (opS_at (opI_at (opL_at (opL_at (opL_at (opI_at (wNewSt_at (Nat.le_of_ble_eq_true rfl) (fun q' H7 st' f7 => ?_)))))))))))))
  have h4 : e' = 4 := by
    rw [he']
    have := item_more hok
    show gE (pAll (pItem (s ++ ofL [0]))) = 4
    rw [this]; rfl
  rw [h4]
  refine wIf_f rfl (wIf_n (fun y => absurd rfl y) (fun _ => ?_))
  rw [f9_J0_eq]; unfold f9_J0_B
  refine wIf_f rfl ?_
  all_goals
    clear he hx e0 st f3 f4 hi f2
    rw [f9_J1_eq]; unfold f9_J1_B
    refine wCall_of (anym_call (by omega) (fun H3 x kb kc fb fc e hx he f3 hi => opT_at rfl (opA_at rfl (opI_at (opS_at (opL_at (opL_at (opI_at (wNewSt_at (Nat.le_of_ble_eq_true rfl) (fun q H4 st f4 => ?_))))))))))
    replace hi := hi.fr f4
    refine wIf_d (fun e0 => ?_) (fun e0 => ?_)
    rw [e0] at he
    obtain ⟨x', hok, hx'⟩ := nz_mail.ok (z := zMai) he.symm
    obtain rfl : x = x' := hx.trans hx'
    obtain ⟨g1, g2⟩ := again_of bw_mail (P := mailP) mailP_some hok
    refine ldI_at st rfl (ldS_at st rfl (ldL_at st rfl (ldL_at st rfl ?_)))
    refine wCall_of (xputm_call x hi (fun H5 f5 => opT_at rfl (opS_at (opI_at ?_))))
    rw [g1, g2]
    refine wIf_f rfl ?_
    rw [f9_J2_eq]; unfold f9_J2_B
    refine wIf_n (fun y => absurd rfl y) (fun _ => ?_)
    all_goals
      clear he hx e0 st f3 f4 hi
      rw [f9_J3_eq]; unfold f9_J3_B
      refine wCall_of (anye_call (by omega) (fun H3 x ab ac e hx he f3 hn hi => opT_at rfl (opA_at rfl (opI_at (opI_at (opS_at (opI_at (opS_at (opS_at (opL_at (opI_at (wNewSt_at (Nat.le_of_ble_eq_true rfl) (fun q H4 st f4 => ?_)))))))))))))
      replace hi := hi.fr f4
      refine wIf_d (fun e0 => ?_) (fun e0 => ?_)
      rw [e0] at he
      obtain ⟨x', hok, hx'⟩ := nz_event.ok (z := zEvt) he.symm
      obtain rfl : x = x' := hx.trans hx'
      obtain ⟨g1, g2⟩ := again_of bw_event (P := eventP) eventP_some hok
      refine ldI_at st rfl (ldI_at st rfl (ldS_at st rfl (ldI_at st rfl (ldS_at st rfl (ldS_at st rfl (ldL_at st rfl ?_))))))
      refine wCall_of (xpute_call x hn.1 hn.2.1 hn.2.2 hi (fun H5 f5 => opT_at rfl (opS_at (opI_at ?_))))
      rw [g1, g2]
      refine wIf_f rfl ?_
      rw [f9_J4_eq]; unfold f9_J4_B
      refine wIf_n (fun y => absurd rfl y) (fun _ => ?_)
      all_goals
        clear he hx e0 st f3 f4 hi hn
        rw [f9_J5_eq]; unfold f9_J5_B
        refine wCall_of (anys_call (by omega) (fun H3 x e hx he f3 hn => opT_at rfl (opA_at rfl (opI_at (opS_at (opI_at (opI_at (wNewSt_at (Nat.le_of_ble_eq_true rfl) (fun q H4 st f4 => ?_)))))))))
        refine wIf_d (fun e0 => ?_) (fun e0 => wCall_of (awake_call (fun H3 f3 => opB_at (hT _))))
        rw [e0] at he
        obtain ⟨x', hok, hx'⟩ := nz_sub.ok (z := zSbs) he.symm
        obtain rfl : x = x' := hx.trans hx'
        obtain ⟨g1, g2⟩ := again_of bw_sub (P := subP) subP_some hok
        refine ldI_at st rfl (ldS_at st rfl (ldI_at st rfl ?_))
        refine wCall_of (xputs_call x hn.1 hn.2 (fun H5 f5 => opT_at rfl (opS_at (opI_at ?_))))
        rw [g1, g2]
        refine wIf_f rfl ?_
        rw [f9_J6_eq]; unfold f9_J6_B
        exact wIf_n (fun y => absurd rfl y) (fun _ => wCall_of (awake_call (fun H3 f3 => opB_at (hT _))))
end
theorem codeAgain_law (H : AH) (a0 : ByteArray) (w0 : a0.size ≤ 140737488351232) : ACall Try.prog 9 [.string a0] H AllTrue := again_walk (fun _ => rfl) a0
end Go.Proofs.Ytfghglacfjncmaa
