/- The writers: numbers, counts, names, values. The writers: values, rows, messages. The writers: rows. -/
import Derived.Test.YtfghglacfjncmaaWCdB
import Derived.Test.YtfghglacfjncmaaWGenW
import Derived.Test.YtfghglacfjncmaaWAbsQ
/-! The writers: numbers, counts, names, values. -/
namespace Go.Proofs.Ytfghglacfjncmaa
set_option linter.unusedVariables false
set_option linter.unusedSimpArgs false
open Go.RowKit

/-- Why bytes are none. -/
abbrev STOP (e : Int) : Value := .iface 157 (.agg #[.int .i64 e])
/-- A writer at work, over memory that stays. -/
structure WS (H0 H : AH) (i o : Nat) (bs : List UInt8) : Prop where
  bw : BW H i o bs
  fr : Fr [] H0 H
  gi : H0.next ≤ i
  go : H0.next ≤ o
theorem WS.fr0 {H0 H H' : AH} {i o : Nat} {bs : List UInt8} (h : WS H0 H i o bs) (x : Fr [] H H') : WS H0 H' i o bs := ⟨h.bw.fr0 x, h.fr.trans x, h.gi, h.go⟩
/-- What a call of a writer may end in: these bytes more, or no bytes. -/
structure Puts (H0 H : AH) (i o : Nat) (bs : List UInt8) (r : Option (List UInt8)) (R : AEnd → AH → Prop) : Prop where
  yes : ∀ l, r = some l → ∀ H' o', WS H0 H' i o' (bs ++ l) → Fr [i, o] H H' → (o' = o ∨ H.next ≤ o') → R (.ret (.tuple #[])) H'
  no : r = none → ∀ H', Fr [] H0 H' → Fr [i, o] H H' → R (.panic (STOP 4)) H'
def cat (a b : Option (List UInt8)) : Option (List UInt8) := a.bind fun x => b.map (x ++ ·)
section
variable {H0 H : AH} {i o : Nat} {bs : List UInt8} {R : AEnd → AH → Prop}
theorem Puts.ret {a b : Option (List UInt8)} (h : Puts H0 H i o bs (cat a b) R) {l : List UInt8} (ha : a = some l) {H1 : AH} {o1 : Nat} (ws : WS H0 H1 i o1 (bs ++ l)) (f : Fr [i, o] H H1) (ho : o1 = o ∨ H.next ≤ o1) : Puts H0 H1 i o1 (bs ++ l) b R := by
  have hn := f.next
  have tr : ∀ H', Fr [i, o1] H1 H' → Fr [i, o] H H' := fun H' x => f.trans' x (fun y hy => by simp at hy; rcases hy with rfl | rfl; exact .inl (by simp); rcases ho with rfl | ho; exact .inl (by simp); exact .inr ho)
  refine ⟨fun l2 e H' o' ws' f' ho' => ?_, fun e H' x y => h.no (by rw [ha, e]; rfl) H' x (tr H' y)⟩
  refine h.yes (l ++ l2) (by rw [ha, e]; rfl) H' o' (by rw [← List.append_assoc]; exact ws') (tr H' f') (by omega)
theorem Puts.nil (h : Puts H0 H i o bs (some []) R) (ws : WS H0 H i o bs) : R (.ret (.tuple #[])) H := h.yes [] rfl H o (by rw [List.append_nil]; exact ws) (Fr.refl _ _) (.inl rfl)
theorem need_t {x : Option Addr} {b : Bool} (hb : b = true) (h : R (.ret (.tuple #[])) H) : ACall Try.prog 92 [.pointer x, .bool b] H R := by
  apply f92_call
  unfold f92_B
  subst hb
  exact wIf_f rfl h
theorem need_f {x : Option Addr} {b : Bool} (hb : b = false) (h : R (.panic (STOP 4)) H) : ACall Try.prog 92 [.pointer x, .bool b] H R := by
  apply f92_call
  unfold f92_B
  subst hb
  exact wIf_t rfl h
/-- A text is put. -/
theorem ws_str (ws : WS H0 H i o bs) (s : ByteArray) (l : List UInt8) (hs : s.data.toList = l) (hl : bs.length + l.length ≤ 70368744177664)
    (h : ∀ H' o', WS H0 H' i o' (bs ++ l) → Fr [i, o] H H' → (o' = o ∨ H.next ≤ o') → R (.ret (.tuple #[.int .i64 (s.size : Int), .nilIface])) H') : ACall Try.prog 96 [.pointer (some ⟨i, 0, none⟩), .string s] H R := by
  subst hs
  have hz := data_len s
  have h0 := ws.fr.next
  refine wstr_call ws.bw s (by omega) (fun H' o' hb f ho => h H' o' ⟨hb, ws.fr.trans' f (fun x hx => .inr ?_), ws.gi, ?_⟩ f ho)
  · have := ws.gi; have := ws.go; simp at hx; omega
  · have := ws.go; omega
theorem wnumber_call (ws : WS H0 H i o bs) (n : Int) (hn : -9223372036854775808 ≤ n ∧ n ≤ 9223372036854775807) (hl : bs.length ≤ 70000000000000) (h : Puts H0 H i o bs (some (vb (zz n))) R) : ACall Try.prog 95 [.pointer (some ⟨i, 0, none⟩), .int .i64 n] H R := by
  apply f95_call
  unfold f95_B
  have hv := vb_length (zz n)
  refine wPt_at (wCall_of (number_call n hn.1 hn.2 (fun H1 f1 => opS_at (wCall_of (ws_str (ws.fr0 f1) _ (vb (zz n)) rfl (by omega) (fun H2 o2 ws2 f2 ho2 => opT_at rfl (opI_at (opV_at rfl ?_))))))))
  have := f1.next
  exact h.yes _ rfl H2 o2 ws2 ((f1.mono (by simp)).trans f2) (by omega)
def cntP (n most : Int) : Option (List UInt8) := if 0 ≤ n ∧ n ≤ most then some (vb n.toNat) else none
theorem wcount_call (ws : WS H0 H i o bs) (n most : Int) (hm : most ≤ 4096) (hl : bs.length ≤ 70000000000000) (h : Puts H0 H i o bs (cntP n most) R) : ACall Try.prog 99 [.pointer (some ⟨i, 0, none⟩), .int .i64 n, .int .i64 most] H R := by
  apply f99_call
  unfold f99_B
  unfold cntP at h
  refine wIf_d (fun e => ?_) (fun e => ?_)
  · by_cases e2 : n ≤ most
    · refine wCall_of (need_t (decide_eq_true e2) ?_)
      rw [if_pos ⟨e, e2⟩] at h
      show f99_J0 _ _ _
      rw [f99_J0_eq]
      unfold f99_J0_B
      have hw : IntKind.u64.wrap n = ((n.toNat : Nat) : Int) := by
        have : n = ((n.toNat : Nat) : Int) := by omega
        rw [this]; exact wu _ (by omega)
      rw [hw]
      have hv := vb_length n.toNat
      refine wPt_at (wCall_of (count_call n.toNat (by omega) (fun H1 f1 => opS_at (wCall_of (ws_str (ws.fr0 f1) _ (vb n.toNat) rfl (by omega) (fun H2 o2 ws2 f2 ho2 => opT_at rfl (opI_at (opV_at rfl ?_))))))))
      have := f1.next
      exact h.yes _ rfl H2 o2 ws2 ((f1.mono (by simp)).trans f2) (by omega)
    · rw [if_neg (by omega)] at h
      exact wCall_of (need_f (decide_eq_false e2) (h.no rfl H ws.fr (Fr.refl _ _)))
  · rw [if_neg (by omega)] at h
    exact wCall_of (need_f rfl (h.no rfl H ws.fr (Fr.refl _ _)))
def tbl (s : ByteArray) : List UInt8 := vb s.size ++ s.data.toList
theorem tb_data (s : ByteArray) : (tb s).data.toList = tbl s := by
  unfold tb tbl
  rw [← ofL_data s, ofL_append, data_ofL, ofL_data]
theorem tbl_length (s : ByteArray) : (tbl s).length ≤ s.size + 10 := by
  have := vb_length s.size
  have hd : s.data.toList.length = s.size := data_len s
  unfold tbl; rw [List.length_append]; omega
end
/-! Slices that are read. -/
/-- The cells of a slice. -/
structure Vw (H : AH) (b : Option Addr) (n j z : Nat) (cs : List Value) : Prop where
  len : cs.length = n * z
  at_ : n ≠ 0 → b = some ⟨j, 0, none⟩ ∧ (Has H j (.ro cs z) ∨ Has H j (.row cs z))
theorem Vw.fr {H H' : AH} {b : Option Addr} {n j z : Nat} {cs : List Value} (h : Vw H b n j z cs) (x : Fr [] H H') : Vw H' b n j z cs :=
  ⟨h.len, fun e => ⟨(h.at_ e).1, (h.at_ e).2.elim (fun y => .inl (y.fr x (by simp))) (fun y => .inr (y.fr x (by simp)))⟩⟩
section
variable {H : AH} {b : Option Addr} {n j z : Nat} {cs : List Value}
theorem Vw.ix {K : Nat → Nat → Prop} (h : Vw H b n j z cs) {k : Int} {q : Nat} (hk : k = (q : Int)) (hq : q < n) (hK : K j (q * z)) : wIx b n z k K := by
  subst hk
  rw [(h.at_ (by omega)).1]
  exact wIx_at (by omega) (by omega) (by rw [Nat.zero_add, Int.toNat_natCast]; exact hK)
theorem Vw.ldI {kd : IntKind} {k : Nat} {x : Int} {K : Int → Prop} (h : Vw H b n j z cs) (hn : n ≠ 0) (hc : cs[k]? = some (.int kd x)) (hK : K x) : ldI kd j k H K := by
  rcases (h.at_ hn).2 with y | y
  · exact ldI_ro y hc hK
  · exact ldI_at y hc hK
theorem Vw.ldS {k : Nat} {x : ByteArray} {K : ByteArray → Prop} (h : Vw H b n j z cs) (hn : n ≠ 0) (hc : cs[k]? = some (.string x)) (hK : K x) : ldS j k H K := by
  rcases (h.at_ hn).2 with y | y
  · exact ldS_ro y hc hK
  · exact ldS_at y hc hK
end
end Go.Proofs.Ytfghglacfjncmaa

/-! The writers: values, rows, messages. -/
namespace Go.Proofs.Ytfghglacfjncmaa
set_option linter.unusedVariables false
set_option linter.unusedSimpArgs false
open Go.RowKit

theorem PinOK_has {H : AH} {o k : Nat} {cells cs : List Value} {e : Nat} (h : Has H o (.row cs e)) (hl : k + cells.length ≤ cs.length) (hc : (cs.drop k).take cells.length = cells) : PinOK o k cells H :=
  ⟨cs, by simp only [AH.cells, h.get], hl, hc⟩
def i64ok (n : Int) : Prop := -9223372036854775808 ≤ n ∧ n ≤ 9223372036854775807
def numsB (l : List Int) : List UInt8 := (l.map fun n => vb (zz n)).flatten
theorem numsB_length (l : List Int) : (numsB l).length ≤ 10 * l.length := by
  unfold numsB
  induction l with
  | nil => simp
  | cons n l ih =>
    have := vb_length (zz n)
    simp only [List.map_cons, List.flatten_cons, List.length_append, List.length_cons]; omega
theorem numsB_snoc (l : List Int) (n : Int) : numsB (l ++ [n]) = numsB l ++ vb (zz n) := by simp [numsB]
def valBody (v : Val) : List UInt8 :=
  if v.kind = 1 then vb (zz v.num) else if v.kind = 2 then [if v.num = 1 then 1 else 0] else if v.kind = 3 ∨ v.kind = 4 then tbl v.text else if v.kind = 5 then vb v.list.length ++ numsB v.list else []
def valB (v : Val) : List UInt8 := UInt8.ofNat v.kind.toNat :: valBody v
def valP (v : Val) : Option (List UInt8) := if rightV v = true then some (valB v) else none
/-- What a value that may be is. -/
theorem right_facts {v : Val} (h : rightV v = true) : 0 ≤ v.kind ∧ v.kind ≤ 5 ∧ (v.kind = 3 ∨ v.kind = 4 → v.text.size ≤ 64) ∧ v.list.length ≤ 16 := by
  unfold rightV at h
  repeat' (first
    | (split at h)
    | (cases h; done))
  all_goals (try simp only [decide_eq_true_eq] at h)
  all_goals first
    | (refine ⟨by omega, by omega, fun e => ?_, by omega⟩; first | (exfalso; omega) | omega | (rename_i z; have := z.2.1; omega))
    | (exact absurd h (by simp))
/-- A value's cells in memory. -/
structure VIs (H : AH) (v : Val) (b : Option Addr) : Prop where
  num : i64ok v.num
  nums : ∀ n ∈ v.list, i64ok n
  view : ∃ j, Vw H b v.list.length j 1 (v.list.map fun n => Value.int .i64 n)
theorem VIs.fr {H H' : AH} {v : Val} {b : Option Addr} (h : VIs H v b) (x : Fr [] H H') : VIs H' v b := ⟨h.num, h.nums, let ⟨j, hj⟩ := h.view; ⟨j, hj.fr x⟩⟩
section
variable {H0 H : AH} {i o : Nat} {bs : List UInt8} {R : AEnd → AH → Prop}
set_option maxRecDepth 20000 in
set_option maxHeartbeats 1000000 in
theorem wvalue_call (ws : WS H0 H i o bs) (v : Val) {b : Option Addr} {c : Nat} (hv : VIs H0 v b) (hl : bs.length ≤ 60000000000000) (h : Puts H0 H i o bs (valP v) R) :
    ACall Try.prog 50 [.pointer (some ⟨i, 0, none⟩), .agg #[.int .i64 v.kind, .int .i64 v.num, .string v.text, .slice b v.list.length c]] H R := by
  apply f50_call
  unfold f50_B
  refine wNew_at ?_
  have hq := Has.new H (.row [.int .i64 v.kind, .int .i64 v.num, .string v.text, .slice b v.list.length c] 0)
  have hf : Fr [] H (H.push (.row [.int .i64 v.kind, .int .i64 v.num, .string v.text, .slice b v.list.length c] 0)) := (Fr.refl [] H).push _
  have ws1 := ws.fr0 hf
  have hqi : H.next ≠ i := by have := ws.bw.lt; omega
  have hqo : H.next ≠ o := by have := ws.bw.olt; omega
  have hb0 : Fr [] H0 H := ws.fr
  have hge : H0.next ≤ H.next := hb0.next
  generalize H.push (.row [.int .i64 v.kind, .int .i64 v.num, .string v.text, .slice b v.list.length c] 0) = H1 at hq hf ws1 ⊢
  generalize hqe : H.next = q at hq hqi hqo
  refine ldI_at hq rfl (ldI_at hq rfl (ldS_at hq rfl (ldL_at hq rfl (wCall_of (right_call v b c (fun H2 f2 => opB_at ?_))))))
  have ws2 := ws1.fr0 f2
  have hq2 := hq.fr f2 (by simp)
  have f02 := hf.trans f2
  by_cases hr : rightV v = true
  · refine wCall_of (need_t hr ?_)
    have hfacts := right_facts hr
    obtain ⟨k1, k2, k3, k4⟩ := hfacts
    unfold valP at h
    rw [if_pos hr] at h
    have hk8 : IntKind.u8.wrap v.kind = v.kind := by rw [wrapu8_eq]; omega
    refine wPt_at (ldI_at hq2 rfl (wCall_of ?_))
    rw [hk8]
    refine wbyte_call ws2.bw v.kind (by omega) (by omega) (fun H3 o3 b3 f3 ho3 => opV_at rfl ?_)
    have n2 := f02.next
    have hq3 : Has H3 q (.row [.int .i64 v.kind, .int .i64 v.num, .string v.text, .slice b v.list.length c] 0) := hq2.fr f3 (by simp; omega)
    have f03 : Fr [i, o] H H3 := (f02.mono (by simp)).trans f3
    have gi := ws.gi
    have go := ws.go
    have ws3 : WS H0 H3 i o3 (bs ++ [UInt8.ofNat v.kind.toNat]) := ⟨b3, ws2.fr.trans' f3 (fun x hx => .inr (by simp at hx; omega)), gi, by omega⟩
    have ho3' : o3 = o ∨ H.next ≤ o3 := by omega
    have h3 : Puts H0 H3 i o3 (bs ++ [UInt8.ofNat v.kind.toNat]) (some (valBody v)) R := Puts.ret (a := some [UInt8.ofNat v.kind.toNat]) (b := some (valBody v)) h rfl ws3 f03 ho3'
    have hl3 : (bs ++ [UInt8.ofNat v.kind.toNat]).length ≤ 60000000000001 := by rw [List.length_append]; simp; omega
    have hqo3 : q ≠ o3 := by
      have := hq2.lt
      rcases ho3 with e | e <;> omega
    clear h hq hq2 ws1 ws2 b3 f3 f02
    refine ⟨PinOK_has hq3 (by simp) rfl, ?_⟩
    generalize bs ++ [UInt8.ofNat v.kind.toNat] = bs3 at h3 ws3 hl3
    have hqlt := hq3.lt
    rw [f50_J0_eq]
    unfold f50_J0_B
    unfold valBody at h3
    refine wPt_at (ldI_at hq3 rfl (wIf_d (fun e => ?_) (fun e => ?_)))
    · rw [if_pos e] at h3
      refine wPt_at (ldI_at hq3 rfl (wCall_of (wnumber_call ws3 v.num hv.num (by omega) ⟨fun l el H' o' w f ho => h3.yes l el H' o' w f ho, fun el => by cases el⟩)))
    · rw [if_neg e] at h3
      refine wIf_d (fun e2 => ?_) (fun e2 => ?_)
      · rw [if_pos e2] at h3
        have htr : (ofL [if (decide (v.num = 1)) = true then (1 : UInt8) else 0]).data.toList = [if v.num = 1 then 1 else 0] := by
          rw [data_ofL]
          by_cases e3 : v.num = 1 <;> simp [e3]
        refine wPt_at (wPt_at (ldI_at hq3 rfl (wCall_of (truth_call _ (opS_at ⟨PinOK_has hq3 (by simp) rfl, wCall_of (ws_str ws3 _ _ htr (by simp; omega) (fun H4 o4 ws4 f4 ho4 => opT_at rfl (opI_at (opV_at rfl ⟨PinOK_has (hq3.fr f4 (by simp; omega)) (by simp) rfl, ?_⟩))))⟩)))))
        exact h3.yes _ rfl H4 o4 ws4 f4 ho4
      · rw [if_neg e2] at h3
        refine wIf_d (fun e3 => ?_) (fun e3 => ?_)
        · rw [f50_J1_eq]
          unfold f50_J1_B
          refine wIf_t rfl ?_
          rw [if_pos (.inl e3)] at h3
          refine wPt_at (wPt_at (ldS_at hq3 rfl (wCall_of (text_call v.text (by have := k3 (.inl e3); omega) (fun H4 f4 => opS_at (wCall_of (ws_str (ws3.fr0 f4) _ (tbl v.text) (tb_data _) (by have := k3 (.inl e3); have := tbl_length v.text; omega) (fun H5 o5 ws5 f5 ho5 => opT_at rfl (opI_at (opV_at rfl ?_))))))))))
          have := f4.next
          exact h3.yes _ rfl H5 o5 ws5 ((f4.mono (by simp)).trans f5) (by omega)
        · rw [f50_J1_eq]
          unfold f50_J1_B
          refine wIf_d (fun e4 => ?_) (fun e4 => ?_)
          · rw [if_pos (.inr e4)] at h3
            refine wPt_at (wPt_at (ldS_at hq3 rfl (wCall_of (text_call v.text (by have := k3 (.inr e4); omega) (fun H4 f4 => opS_at (wCall_of (ws_str (ws3.fr0 f4) _ (tbl v.text) (tb_data _) (by have := k3 (.inr e4); have := tbl_length v.text; omega) (fun H5 o5 ws5 f5 ho5 => opT_at rfl (opI_at (opV_at rfl ?_))))))))))
            have := f4.next
            exact h3.yes _ rfl H5 o5 ws5 ((f4.mono (by simp)).trans f5) (by omega)
          · rw [if_neg (by omega)] at h3
            refine wIf_d (fun e5 => ?_) (fun e5 => ?_)
            · rw [if_pos e5] at h3
              have hcn : cntP (v.list.length : Int) 16 = some (vb v.list.length) := by
                unfold cntP; rw [if_pos (by omega), Int.toNat_natCast]
              obtain ⟨j, hvw⟩ := hv.view
              refine wPt_at (ldL_at hq3 rfl (wCall_of (wcount_call ws3 (v.list.length : Int) 16 (by omega) (by omega) ⟨fun l el H4 o4 ws4 f4 ho4 => ?_, fun el => by rw [hcn] at el; cases el⟩)))
              rw [hcn] at el
              cases el
              have hq4 := hq3.fr f4 (by simp; omega)
              refine wPt_at (ldL_at hq4 rfl ?_)
              have hvl := vb_length v.list.length
              refine f50_L0_rule (J := fun m r H' => ∃ k o', k ≤ v.list.length ∧ r = (k : Int) ∧ m = v.list.length - k ∧ WS H0 H' i o' (bs3 ++ (vb v.list.length ++ numsB (v.list.take k))) ∧ Fr [i, o3] H3 H' ∧ (o' = o3 ∨ H3.next ≤ o')) v.list.length
                ⟨0, o4, Nat.zero_le _, rfl, rfl, by simpa [numsB] using ws4, f4, ho4⟩ ?_
              rintro m r H5 ⟨k, o5, hk, rfl, rfl, ws5, f5, ho5⟩
              intros
              unfold f50_R0
              refine wIf_d (fun hlt => ?_) (fun hge => ?_)
              · have hlt : k < v.list.length := by omega
                have hw5 := hvw.fr ws5.fr
                have hcell : (v.list.map fun n => Value.int .i64 n)[k * 1]? = some (.int .i64 v.list[k]) := by
                  rw [Nat.mul_one, List.getElem?_map, List.getElem?_eq_getElem hlt]; rfl
                have hnb := numsB_length (v.list.take k)
                have hlt2 := List.length_take (i := k) (l := v.list)
                refine hw5.ix rfl hlt (hw5.ldI (by omega) hcell (wCall_of (wnumber_call ws5 v.list[k] (hv.nums _ (List.getElem_mem hlt)) (by rw [List.length_append, List.length_append]; omega) ⟨fun l el H6 o6 ws6 f6 ho6 => ?_, fun el => by cases el⟩)))
                cases el
                have n5 := f5.next
                refine ⟨v.list.length - (k + 1), by omega, f50_I0_mk ⟨k + 1, o6, hlt, wi1 k (by omega), rfl, ?_, f5.trans' f6 (fun x hx => ?_), by omega⟩⟩
                · have e6 : v.list.take (k + 1) = v.list.take k ++ [v.list[k]] := by rw [List.take_add_one, List.getElem?_eq_getElem hlt]; rfl
                  rw [e6, numsB_snoc]
                  simpa [List.append_assoc] using ws6
                · simp at hx ⊢; omega
              · have hkl : k = v.list.length := by omega
                subst hkl
                rw [List.take_length] at ws5
                exact h3.yes _ rfl H5 o5 ws5 f5 ho5
            · rw [if_neg e5] at h3
              exact h3.nil ws3
  · have hr : rightV v = false := by simpa using hr
    have h' := h.no (by unfold valP; rw [hr]; rfl)
    exact wCall_of (need_f hr (h' H2 ws2.fr (f02.mono (by simp))))
end
end Go.Proofs.Ytfghglacfjncmaa

/-! The writers: rows. -/
namespace Go.Proofs.Ytfghglacfjncmaa
set_option linter.unusedVariables false
set_option linter.unusedSimpArgs false
open Go.RowKit

/-- A slice of values in memory. -/
structure RIs (H : AH) (b : Option Addr) (vs : List Val) : Prop where
  ex : ∃ j cs, Vw H b vs.length j 4 cs ∧ ∀ k (hk : k < vs.length), ∃ b' c', cs[k * 4]? = some (.int .i64 vs[k].kind) ∧ cs[k * 4 + 1]? = some (.int .i64 vs[k].num) ∧ cs[k * 4 + 2]? = some (.string vs[k].text) ∧ cs[k * 4 + 3]? = some (.slice b' vs[k].list.length c') ∧ VIs H vs[k] b'
theorem RIs.fr {H H' : AH} {b : Option Addr} {vs : List Val} (h : RIs H b vs) (x : Fr [] H H') : RIs H' b vs := by
  obtain ⟨j, cs, h1, h2⟩ := h.ex
  refine ⟨j, cs, h1.fr x, fun k hk => ?_⟩
  obtain ⟨b', c', g1, g2, g3, g4, g5⟩ := h2 k hk
  exact ⟨b', c', g1, g2, g3, g4, g5.fr x⟩
def valsB (vs : List Val) : List UInt8 := (vs.map valB).flatten
def rowB (vs : List Val) : List UInt8 := vb vs.length ++ valsB vs
def rowOK (vs : List Val) : Prop := vs.length ≤ 16 ∧ ∀ v ∈ vs, rightV v = true
instance (vs : List Val) : Decidable (rowOK vs) := by unfold rowOK; infer_instance
def Short (r : Option (List UInt8)) : Prop := ∀ l, r = some l → l.length ≤ 4000
theorem Short.add {r : Option (List UInt8)} (h : Short r) {l : List UInt8} (e : r = some l) (bs : List UInt8) : (bs ++ l).length ≤ bs.length + 4000 := by
  rw [List.length_append]; have := h l e; omega
section
variable {H0 H : AH} {i o : Nat} {bs : List UInt8} {R : AEnd → AH → Prop}
theorem Vw.ldL {b : Option Addr} {n j z : Nat} {cs : List Value} {k : Nat} {x : Option Addr} {l c : Nat} {K : Option Addr → Nat → Nat → Prop} (h : Vw H b n j z cs) (hn : n ≠ 0) (hc : cs[k]? = some (.slice x l c)) (hK : K x l c) : ldL j k H K := by
  rcases (h.at_ hn).2 with y | y
  · exact ldL_ro y hc hK
  · exact ldL_at y hc hK
end
end Go.Proofs.Ytfghglacfjncmaa
