/- The document's device: a loss of power. -/
import Derived.Test.YtnjhcnefgeodcaaWBlkX
import Derived.Test.YtnjhcnefgeodcaaWBlkB
namespace Go.Proofs.Ytnjhcnefgeodcaa
set_option linter.unusedVariables false
set_option linter.unusedSimpArgs false
open Go.RowKit
section
variable {H : AH} {i jl jw jt n : Nat} {d : Dev} {R : AEnd → AH → Prop}
theorem refRow_eq {jl jw jt n : Nat} {d : Dev} {al aw at_ : Value} (h1 : slV jl d.lasts.length = al) (h2 : slV jw d.waits.length = aw) (h3 : slV jt n = at_) :
    refRow jl jw jt n d = .row [al, aw, .bool d.off, .int .i64 d.left, .int .u64 d.crash.keep, .int .i64 d.crash.torn, .int .i64 d.crash.at_, at_] 0 := by
  subst h1 h2 h3; rfl
theorem wf {p q : Prop} (h : p) (k : p → q) : q := k h
theorem torn_pos (c : Cr) (hp : c.at_ > 0) {k : Nat} {w : Nat × ByteArray} {L : List ByteArray} (ht : (k : Int) = c.torn) :
    (∃ t, loseStep c k w L = L.set w.1 t ∧ w.2.extract (Int.toNat 0) (Int.toNat (Int.tmod c.at_ 65)) ++ (L.getD w.1 ByteArray.empty).extract (Int.toNat (Int.tmod c.at_ 65)) (Int.toNat ((L.getD w.1 ByteArray.empty).size : Int)) = t) ∧ (0 : Int) ≤ (Int.tmod c.at_ 65) ∧ ((Int.tmod c.at_ 65) : Int) ≤ 64 := by
  have := tornAt_le c
  have e : tornAt c = Int.toNat (Int.tmod c.at_ 65) := by unfold tornAt; rw [if_pos hp]
  refine ⟨⟨_, ?_, rfl⟩, by rw [if_pos hp] at this; exact this⟩
  unfold loseStep
  rw [if_pos ht, e]
  rfl
theorem torn_neg (c : Cr) (hp : ¬ c.at_ > 0) {k : Nat} {w : Nat × ByteArray} {L : List ByteArray} (ht : (k : Int) = c.torn) :
    (∃ t, loseStep c k w L = L.set w.1 t ∧ w.2.extract (Int.toNat 0) (Int.toNat 0) ++ (L.getD w.1 ByteArray.empty).extract (Int.toNat 0) (Int.toNat ((L.getD w.1 ByteArray.empty).size : Int)) = t) ∧ (0 : Int) ≤ 0 ∧ (0 : Int) ≤ 64 := by
  have := tornAt_le c
  have e : tornAt c = Int.toNat 0 := by unfold tornAt; rw [if_neg hp]; rfl
  refine ⟨⟨_, ?_, rfl⟩, by rw [if_neg hp] at this; exact this⟩
  unfold loseStep
  rw [if_pos ht, e]
  rfl
/-- What the loop keeps. -/
structure LoseAt (H H' : AH) (i jl jw jt n : Nat) (d : Dev) (c : Cr) (k jt' n' : Nat) : Prop where
  own : Has H' i (refRow jl jw jt' n' { d with lasts := loseN c d.waits k d.lasts })
  lasts : Has H' jl (.row (strs (loseN c d.waits k d.lasts)) 1)
  waits : Has H' jw (.row (wcells d.waits) 2)
  tears : n' ≠ 0 → ∃ cs, cs.length = n' * 4 ∧ cs.all oneCell = true ∧ Has H' jt' (.row cs 4) ∧ jt' ≠ i ∧ jt' ≠ jl ∧ jt' ≠ jw ∧ jt' ≠ H.next
  old : jt' = jt ∨ H.next ≤ jt'
  cr : Has H' H.next (.row c.val 0)
  fr : Fr [i, jl, jt] H H'
  cnt : n' ≤ n + k
  zero : n' = 0 → jt' = jt
set_option maxHeartbeats 4000000 in
set_option maxRecDepth 20000 in
theorem rlose_some (hd : RefAt H i jl jw jt n d) (hok : d.OK) (hne0 : d.waits.length ≠ 0) (hn : n + d.waits.length ≤ 1099511627776) (c : Cr) (hc0 : 0 ≤ c.keep) (hc1 : c.keep < 18446744073709551616)
    (h : ∀ H' jt' n', RefAt H' i jl jw jt' n' (d.lost c) → Fr [i, jl, jt] H H' → (jt' = jt ∨ H.next ≤ jt') → n' ≤ n + d.waits.length → (jt' < H'.next ∨ jt' = jt) → R (.ret (.tuple #[])) H') :
    ACall Try.prog 37 [.pointer (some ⟨i, 0, none⟩), .agg #[.int .u64 c.keep, .int .i64 c.torn, .int .i64 c.at_]] H R := by
  apply f37_call
  unfold f37_B
  refine wNew_at (wPt_at ?_)
  have hcr := Has.new H (.row c.val 0)
  have hf0 : Fr [] H (H.push (.row c.val 0)) := (Fr.refl _ _).push _
  have hd0 := hd.fr0 hf0
  obtain ⟨aw, haw, aw1, aw2⟩ := slV_eq jw d.waits.length
  have own := hd0.own
  unfold refRow at own
  rw [haw] at own
  refine ldL_at own rfl ?_
  have hmany := hok.many
  have hwl := hok.waits _ (getW_mem (show 0 < d.waits.length by omega))
  have hl0 : d.lasts.length ≠ 0 := by omega
  refine f37_L0_rule (J := fun m r H' => ∃ k jt' n' : Nat, k ≤ d.waits.length ∧ r = (k : Int) ∧ m = d.waits.length - k ∧ LoseAt H H' i jl jw jt n d c k jt' n') d.waits.length
    ⟨0, jt, n, Nat.zero_le _, rfl, rfl, ⟨hd0.own, (hd0.lasts hl0).1, (hd0.waits hne0).1, fun e => ?_, .inl rfl, hcr, hf0.mono (by simp), Nat.le_refl _, fun _ => rfl⟩⟩ ?_
  · obtain ⟨cs, c1, c2, c3, c4, c5, c6⟩ := hd.tears e
    exact ⟨cs, c1, c2, c3.fr hf0 (by simp), c4, c5, c6 hne0, by have := c3.lt; omega⟩
  rintro m r H1 ⟨k, jt', n', hkl, rfl, rfl, s⟩
  intros
  unfold f37_R0
  refine wIf_d (fun hlt => ?_) (fun hge => ?_)
  · have hlt : k < d.waits.length := by omega
    obtain ⟨hw1, hw2⟩ := wcells_getD d.waits k hlt
    have hwk := hok.waits _ (getW_mem hlt)
    generalize hwv : d.waits.getD k (0, ByteArray.empty) = wv at hw1 hw2 hwk
    obtain ⟨hlen, hsz⟩ := loseN_ok (c := c) hok.lasts (fun w hw => (hok.waits w hw).2) k hkl
    obtain ⟨own, lasts, waits, tears, old, cr, fr, cnt, zero⟩ := s
    have hstep : loseN c d.waits (k + 1) d.lasts = loseStep c k wv (loseN c d.waits k d.lasts) := by rw [loseN, hwv]
    generalize loseN c d.waits k d.lasts = L at hlen hsz own lasts hstep
    have hLl : L.length ≠ 0 := by omega
    obtain ⟨at_, hat, at1, at2⟩ := slV_eq jt' n'
    rw [refRow_eq (d := { d with lasts := L }) (show slV jl L.length = .slice (some ⟨jl, 0, none⟩) L.length 0 from if_neg hLl) haw hat] at own
    have hji := (hd.lasts hl0).2
    have hwi := (hd.waits hne0).2.1
    have hwjl := (hd.waits hne0).2.2
    have hci : H.next ≠ i := hd.own.ne'
    have hcl : H.next ≠ jl := (hd.lasts hl0).1.ne'
    rw [aw1 hne0]
    refine wIx_at (by omega) (by omega) (ldI_at waits hw1 (ldS_at waits hw2 (wNew_at (wSt_at (Has.new _ _) (by simp) (wPt_at ?_)))))
    have hx : Fr [] H1 ((H1.push (.row [.int .i64 0, .string ⟨#[]⟩] 0)).set H1.next (.row (setCells [.int .i64 0, .string ⟨#[]⟩] 0 [.int .i64 (wv.1 : Int), .string wv.2]) 0)) := ((Fr.refl [] H1).push _).set (.inr (Nat.le_refl _)) _
    have hb : Has ((H1.push (.row [.int .i64 0, .string ⟨#[]⟩] 0)).set H1.next (.row (setCells [.int .i64 0, .string ⟨#[]⟩] 0 [.int .i64 (wv.1 : Int), .string wv.2]) 0)) H1.next (.row [.int .i64 (wv.1 : Int), .string wv.2] 0) := (Has.new H1 (.row [.int .i64 0, .string ⟨#[]⟩] 0)).set (.row (setCells [.int .i64 0, .string ⟨#[]⟩] 0 [.int .i64 (wv.1 : Int), .string wv.2]) 0)
    have hbi : H1.next ≠ i := own.ne'
    have hbl : H1.next ≠ jl := lasts.ne'
    generalize (H1.push (.row [.int .i64 0, .string ⟨#[]⟩] 0)).set H1.next (.row (setCells [.int .i64 0, .string ⟨#[]⟩] 0 [.int .i64 (wv.1 : Int), .string wv.2]) 0) = H2 at hx hb ⊢
    have own2 := own.fr hx (by simp)
    have lasts2 := lasts.fr hx (by simp)
    have waits2 := waits.fr hx (by simp)
    have cr2 := cr.fr hx (by simp)
    have fr2 : Fr [i, jl, jt] H H2 := fr.trans (hx.mono (by simp))
    have hidx : wv.1 < L.length := by rw [hlen]; exact hwk.1
    have hsl : (strs L)[0 + ((wv.1 : Nat) : Int).toNat * 1]? = some (.string (L.getD wv.1 ByteArray.empty)) := by
      rw [Int.toNat_natCast, Nat.zero_add, Nat.mul_one]; exact strs_getD _ _ hidx
    have hsz1 := hsz _ (getD_mem hidx)
    have hstl : 0 + ((wv.1 : Nat) : Int).toNat * 1 + 1 ≤ (strs L).length := by rw [strs_length, Int.toNat_natCast]; omega
    have hset : ∀ t : ByteArray, setCells (strs L) (0 + ((wv.1 : Nat) : Int).toNat * 1) [.string t] = strs (L.set wv.1 t) := fun t => by
      rw [Int.toNat_natCast, Nat.zero_add, Nat.mul_one, strs_set]
    have own0 : ∀ (L' : List ByteArray) (x : Value) (jx nx : Nat), L'.length = L.length → slV jx nx = x → refRow jl jw jx nx { d with lasts := L' } = .row [.slice (some ⟨jl, 0, none⟩) L.length 0, .slice aw d.waits.length 0, .bool d.off, .int .i64 d.left, .int .u64 d.crash.keep, .int .i64 d.crash.torn, .int .i64 d.crash.at_, x] 0 := fun L' x jx nx e1 e2 =>
      refRow_eq (d := { d with lasts := L' }) (show slV jl L'.length = .slice (some ⟨jl, 0, none⟩) L.length 0 by rw [e1]; exact if_neg hLl) haw e2
    have tears2 : n' ≠ 0 → ∃ cs, cs.length = n' * 4 ∧ cs.all oneCell = true ∧ Has H2 jt' (.row cs 4) ∧ jt' ≠ i ∧ jt' ≠ jl ∧ jt' ≠ jw ∧ jt' ≠ H.next := fun e => by
      obtain ⟨cs, c1, c2, c3, c4⟩ := tears e
      exact ⟨cs, c1, c2, c3.fr hx (by simp), c4⟩
    have plain : loseStep c k wv L = L → ∀ H3, H3 = H2 → LoseAt H H3 i jl jw jt n d c (k + 1) jt' n' := by
      rintro hst H3 rfl
      rw [hst] at hstep
      refine ⟨?_, ?_, waits2, tears2, old, cr2, fr2, by omega, zero⟩
      · rw [hstep, own0 L _ _ _ rfl hat]; exact own2
      · rw [hstep]; exact lasts2
    have stored : ∀ t : ByteArray, loseStep c k wv L = L.set wv.1 t → ∀ H3, H3 = H2.set jl (.row (setCells (strs L) (0 + ((wv.1 : Nat) : Int).toNat * 1) [.string t]) 1) → LoseAt H H3 i jl jw jt n d c (k + 1) jt' n' := by
      rintro t hst H3 rfl
      rw [hst] at hstep
      rw [hset]
      refine ⟨?_, ?_, waits2.setne hwjl _, fun e => ?_, old, cr2.setne hcl _, fr2.set (.inl (by simp)) _, by omega, zero⟩
      · rw [hstep, own0 _ _ _ _ (by simp) hat]; exact own2.setne hji.symm _
      · rw [hstep]; exact lasts2.set _
      · obtain ⟨cs, c1, c2, c3, c4, c5, c6⟩ := tears2 e
        exact ⟨cs, c1, c2, c3.setne c5 _, c4, c5, c6⟩
    refine ldL_at own2 rfl (ldI_at hb rfl (wIx_at (by omega) (by omega) (ldS_at lasts2 hsl ?_)))
    rw [f37_J0_eq]
    unfold f37_J0_B
    refine wPt_at (ldI_at cr2 rfl (wIf_d (fun ht => ?_) (fun ht => ?_)))
    · refine wPt_at (ldI_at cr2 rfl (wIf_d (fun hp => wPt_at (ldI_at cr2 rfl (wf (torn_pos c hp (w := wv) (L := L) ht) fun h78 => ?_))) (fun hp => wf (torn_neg c hp (w := wv) (L := L) ht) fun h78 => ?_)))
      all_goals
        obtain ⟨⟨t, htorn, h7⟩, h8⟩ := h78
        rw [f37_J1_eq]
        unfold f37_J1_B
        refine wPt_at (wPt_at (wPt_at (wSlS_at h8.1 (by rw [hsz1]; exact h8.2) (by omega) (ldL_at own2 rfl (ldI_at hb rfl (ldS_at hb rfl (wSlS_at (by omega) h8.1 (by rw [hwk.2]; exact h8.2) (wCat_at ?_ (wIx_at (by omega) (by omega) (wSt_at lasts2 hstl ?_))))))))))
        · rw [ByteArray.size_extract, ByteArray.size_extract, hwk.2, hsz1]; omega
        rw [h7]
        have hs := stored t htorn _ rfl
        have hb3 := hb.setne hbl (.row (setCells (strs L) (0 + ((wv.1 : Nat) : Int).toNat * 1) [.string t]) 1)
        generalize H2.set jl (.row (setCells (strs L) (0 + ((wv.1 : Nat) : Int).toNat * 1) [.string t]) 1) = H3 at hs hb3 ⊢
        rw [f37_J2_eq]
        unfold f37_J2_B
        rw [htorn] at hstep
        obtain ⟨own3, lasts3, waits3, tears3, old3, cr3, fr3, cnt3, zero3⟩ := hs
        rw [hstep] at own3 lasts3
        rw [own0 _ _ _ _ (by simp) hat] at own3
        have hll : (L.set wv.1 t).length = L.length := by simp
        have hsl3 : (strs (L.set wv.1 t))[0 + ((wv.1 : Nat) : Int).toNat * 1]? = some (.string t) := by
          rw [Int.toNat_natCast, Nat.zero_add, Nat.mul_one, strs_getD _ _ (by rw [hll]; exact hidx)]
          congr 2
          rw [List.getD_eq_getElem?_getD, List.getElem?_set_self hidx]; rfl
        have pa : PinOK H1.next 0 [.int .i64 (wv.1 : Int)] H3 := PinOK_has hb3 (by simp) rfl
        have ps : PinOK H1.next (0 + 1) [.string wv.2] H3 := PinOK_has hb3 (by simp) rfl
        have hpl : ∀ H4, Has H4 jl (.row (strs (L.set wv.1 t)) 1) → PinOK jl (0 + ((wv.1 : Nat) : Int).toNat * 1) [.string t] H4 := fun H4 h4 =>
          PinOK_has h4 (by rw [strs_length, hll, Int.toNat_natCast]; simp; omega) (by
            rw [Int.toNat_natCast, Nat.zero_add, Nat.mul_one]
            simp only [List.length_singleton]
            rw [List.take_one, List.head?_drop, strs_getD _ _ (by rw [hll]; exact hidx)]
            simp only [Option.toList]
            congr 2
            rw [List.getD_eq_getElem?_getD, List.getElem?_set_self hidx]; rfl)
        have x4 : Fr [] H3 (H3.push (.row [.int .i64 (wv.1 : Int), .string (L.getD wv.1 ByteArray.empty), .string wv.2, .string t] 4)) := (Fr.refl [] H3).push _
        have hq4 := Has.new H3 (.row [.int .i64 (wv.1 : Int), .string (L.getD wv.1 ByteArray.empty), .string wv.2, .string t] 4)
        have own4 := own3.fr x4 (by simp)
        have lasts4 := lasts3.fr x4 (by simp)
        have hb4 := hb3.fr x4 (by simp)
        have waits4 := waits3.fr x4 (by simp)
        have cr4 := cr3.fr x4 (by simp)
        obtain ⟨CS, hoc, hall, hown⟩ : ∃ CS : List Value, OwnC 0 (H3.push (.row [.int .i64 (wv.1 : Int), .string (L.getD wv.1 ByteArray.empty), .string wv.2, .string t] 4)) 4 at_ n' 0 CS ∧ CS.all oneCell = true ∧
            ∀ x, x ∈ ownS at_ → x = jt' ∧ x ≠ H3.next ∧ x ≠ i ∧ x ≠ jl ∧ x ≠ jw ∧ x ≠ H.next ∧ x ≠ H1.next ∧ (x ∈ [i, jl, jt] ∨ H.next ≤ x) := by
          by_cases e : n' = 0
          · refine ⟨[], ?_, rfl, fun x hm => ?_⟩
            · rw [at2 e, e]; exact OwnC.nil _ _ _
            · rw [at2 e] at hm; cases hm
          · obtain ⟨cs, c1, c2, c3, c4, c5, c6, c7⟩ := tears3 e
            obtain ⟨_, _, _, d3, _⟩ := tears e
            have := d3.lt
            have := c3.lt
            refine ⟨cs, ?_, c2, fun x hm => ?_⟩
            · rw [at1 e]; exact .inr ⟨jt', rfl, rfl, c1.symm, c3.fr x4 (by simp), Nat.zero_le _⟩
            · rw [at1 e] at hm
              obtain rfl := List.mem_singleton.1 hm
              refine ⟨rfl, by omega, c4, c5, c6, c7, by omega, ?_⟩
              rcases old with rfl | h0
              · exact .inl (by simp)
              · exact .inr h0
        have pa4 : PinOK H1.next 0 [.int .i64 (wv.1 : Int)] _ := PinOK_has hb4 (by simp) rfl
        have ps4 : PinOK H1.next (0 + 1) [.string wv.2] _ := PinOK_has hb4 (by simp) rfl
        refine wPt_at (wPt_at (wPt_at (wPt_at (wPt_at (ldI_at hb3 rfl (ldS_at hb3 rfl (ldI_at hb3 rfl
          ⟨ldL_at own3 rfl ⟨pa, ps, pa, ldL_at own3 rfl ⟨pa, ps, pa, wIx_at (by omega) (by omega) (ldS_at lasts3 hsl3 (wBs_at ⟨hpl _ lasts4, pa4, ps4, pa4, ?_⟩))⟩⟩,
           ldL_at own3 rfl ⟨pa, ps, pa, wIx_at (by omega) (by omega) (ldS_at lasts3 hsl3 ⟨ldL_at own3 rfl ⟨hpl _ lasts3, pa, ps, pa, wBs_at ⟨hpl _ lasts4, pa4, ps4, pa4, ?_⟩⟩, wBs_at ⟨hpl _ lasts4, pa4, ps4, pa4, ldL_at own4 rfl ?_⟩⟩)⟩⟩)))))))
        all_goals
          refine app_one (c0 := 0) (S := ownS at_) hoc (fun o e => by rw [e]; simp [ownS]) (Nat.zero_le _) rfl rfl (by omega) (by omega) hq4 (fun o e => ?_) (fun o H5 hoc5 f5 hno => ?_)
          · have := hown o (by rw [e]; simp [ownS]); omega
          have own5 := own4.fr f5 (fun m => (hown _ m).2.2.1 rfl)
          have lasts5 := lasts4.fr f5 (fun m => (hown _ m).2.2.2.1 rfl)
          have waits5 := waits4.fr f5 (fun m => (hown _ m).2.2.2.2.1 rfl)
          have cr5 := cr4.fr f5 (fun m => (hown _ m).2.2.2.2.2.1 rfl)
          have hb5 := hb4.fr f5 (fun m => (hown _ m).2.2.2.2.2.2.1 rfl)
          have pa5 : PinOK H1.next 0 [.int .i64 (wv.1 : Int)] H5 := PinOK_has hb5 (by simp) rfl
          have ps5 : PinOK H1.next (0 + 1) [.string wv.2] H5 := PinOK_has hb5 (by simp) rfl
          have no4 := own4.lt
          have nl4 := lasts4.lt
          have nw4 := waits4.lt
          have nc4 := cr4.lt
          have n3 := fr3.next
          have n4 := x4.next
          refine ⟨hpl _ lasts5, pa5, ps5, pa5, wPt_at (wSt_at own5 (by simp) ⟨d.waits.length - (k + 1), by omega, f37_I0_mk ⟨k + 1, o, n' + 1, hlt, wi1 k (by omega), rfl, ?_⟩⟩)⟩
          refine ⟨?_, ?_, waits5.setne hwi _, fun _ => ?_, .inr (by omega), cr5.setne hci _, ?_, by omega, fun e => by omega⟩
          · rw [hstep, own0 _ _ _ _ (by simp) (show slV o (n' + 1) = .slice (some ⟨o, 0, none⟩) (n' + 1) 0 from if_neg (by omega))]
            exact own5.set _
          · rw [hstep]; exact lasts5.setne hji _
          · rcases hoc5 with ⟨x, _⟩ | ⟨o', x1, _, x3, x4', x5⟩
            · cases x
            · cases x1
              refine ⟨_, x3.symm, ?_, x4'.setne (by omega) _, by omega, by omega, by omega, by omega⟩
              rw [List.all_append, hall]; rfl
          · exact (((fr3.trans (x4.mono (by simp))).trans' f5 (fun x hm => (hown x hm).2.2.2.2.2.2.2))).set (.inl (by simp)) _
    · refine wPt_at (ldI_at cr2 rfl (wNn_at ?_ (wIf_d (fun hbit => ?_) (fun hbit => ?_))))
      · have : IntKind.u64.wrap (Int.tmod (k : Int) 64) = ((k % 64 : Nat) : Int) := by
          rw [show Int.tmod (k : Int) 64 = ((k % 64 : Nat) : Int) from rfl]; exact wu _ (by omega)
        rw [this]; omega
      · have hbit := (bit_ref c k hc0 hc1).1 hbit
        refine wPt_at (wPt_at (wPt_at (ldL_at own2 rfl (ldI_at hb rfl (ldS_at hb rfl (wIx_at (by omega) (by omega) (wSt_at lasts2 hstl ?_)))))))
        refine ⟨d.waits.length - (k + 1), by omega, f37_I0_mk ⟨k + 1, jt', n', hlt, wi1 k (by omega), rfl, stored wv.2 ?_ _ rfl⟩⟩
        unfold loseStep
        rw [if_neg ht, if_pos hbit]
      · have hbit : ¬ bitOn c k := fun x => hbit ((bit_ref c k hc0 hc1).2 x)
        refine ⟨d.waits.length - (k + 1), by omega, f37_I0_mk ⟨k + 1, jt', n', hlt, wi1 k (by omega), rfl, plain ?_ _ rfl⟩⟩
        unfold loseStep
        rw [if_neg ht, if_neg hbit]
  · have hk : k = d.waits.length := by omega
    subst hk
    rw [f37_J3_eq]
    unfold f37_J3_B
    refine wPt_at (wSt_at s.own (by simp) ?_)
    have hlen := (loseN_ok (c := c) hok.lasts (fun w hw => (hok.waits w hw).2) d.waits.length (Nat.le_refl _)).1
    refine h _ jt' n' ⟨?_, fun e => ⟨s.lasts.setne (hd.lasts hl0).2 _, (hd.lasts hl0).2⟩, fun e => absurd rfl e, fun e => ?_⟩ (s.fr.set (.inl (by simp)) _) s.old s.cnt ?_
    · exact s.own.set _
    · obtain ⟨cs, c1, c2, c3, c4, c5, c6⟩ := s.tears e
      exact ⟨cs, c1, c2, c3.setne c4 _, c4, c5, fun x => absurd rfl x⟩
    · by_cases e : n' = 0
      · exact .inr (s.zero e)
      · obtain ⟨cs, c1, c2, c3, c4, c5, c6⟩ := s.tears e
        exact .inl (c3.setne c4 _).lt
end
end Go.Proofs.Ytnjhcnefgeodcaa
