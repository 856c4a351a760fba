/- The document's device: Flush, Write. -/
import Derived.Test.YtnjhcnefgeodcaaWBlkZ
import Derived.Test.YtnjhcnefgeodcaaWBlkD
namespace Go.Proofs.Ytnjhcnefgeodcaa
set_option linter.unusedVariables false
set_option linter.unusedSimpArgs false
open Go.RowKit
section
variable {H : AH} {i jl jw jt n : Nat} {d : Dev} {R : AEnd → AH → Prop}
/-- A sector written anew. -/
theorem RefAt.setLast (hd : RefAt H i jl jw jt n d) {q : Nat} (hq : q < d.lasts.length) (t : ByteArray) :
    RefAt (H.set jl (.row (setCells (strs d.lasts) (0 + ((q : Nat) : Int).toNat * 1) [.string t]) 1)) i jl jw jt n { d with lasts := d.lasts.set q t } := by
  have hl0 : d.lasts.length ≠ 0 := by omega
  obtain ⟨h1, h2⟩ := hd.lasts hl0
  refine ⟨?_, fun _ => ⟨?_, h2⟩, fun e => ⟨(hd.waits e).1.setne (hd.waits e).2.2 _, (hd.waits e).2⟩, fun e => ?_⟩
  · rw [show refRow jl jw jt n { d with lasts := d.lasts.set q t } = refRow jl jw jt n d by unfold refRow; simp]
    exact hd.own.setne h2.symm _
  · rw [Int.toNat_natCast, Nat.zero_add, Nat.mul_one, strs_set]
    exact h1.set _
  · obtain ⟨cs, c1, c2, c3, c4, c5, c6⟩ := hd.tears e
    exact ⟨cs, c1, c2, c3.setne c5 _, c4, c5, c6⟩
set_option maxHeartbeats 1000000 in
set_option maxRecDepth 20000 in
theorem rflush_call (hd : RefAt H i jl jw jt n d) (hok : d.OK) (hn : n + d.waits.length ≤ 1099511627776) (hc : d.crash.ok)
    (h : ∀ H' jt' n', RefAt H' i jl jw jt' n' d.flush.2 → Fr [i, jl, jt] H H' → (jt' = jt ∨ H.next ≤ jt') → n' ≤ n + d.waits.length → (jt' < H'.next ∨ jt' = jt) → R (.ret (.int .i64 d.flush.1)) H') :
    ACall Try.prog 23 [.pointer (some ⟨i, 0, none⟩)] H R := by
  apply f23_call
  unfold f23_B
  unfold Dev.flush at h
  refine wPt_at (ldB_at hd.own rfl (wIf_b (fun e => ?_) (fun e => ?_)))
  · rw [if_pos e] at h
    rw [f23_J0_eq]
    unfold f23_J0_B
    exact wIf_t rfl (h H jt n hd (Fr.refl _ _) (.inl rfl) (by omega) (.inr rfl))
  · have hoff : ¬ d.off = true := by simpa using e
    rw [if_neg hoff] at h
    refine wCall_of (rblown_call hd hok hn hc (fun H1 jt1 n1 hd1 hf1 ho1 hn1 hj1 => opB_at ?_))
    rw [f23_J0_eq]
    unfold f23_J0_B
    by_cases hb : d.blow.1 = true
    · rw [if_pos hb] at h
      exact wIf_t hb (h H1 jt1 n1 hd1 hf1 ho1 hn1 hj1)
    · rw [if_neg hb] at h
      have hbf : d.blow.1 = false := by simpa using hb
      refine wIf_f hbf ?_
      rw [f23_J1_eq]
      unfold f23_J1_B
      obtain ⟨hbl, hbw⟩ := blow_false hb
      obtain ⟨aw, haw, aw1, aw2⟩ := slV_eq jw d.waits.length
      have own1 := hd1.own
      rw [refRow_eq rfl (show slV jw d.blow.2.waits.length = .slice aw d.waits.length 0 by rw [hbw]; exact haw) rfl] at own1
      refine wPt_at (ldL_at own1 rfl ?_)
      have hmany := hok.many
      have hd1' : RefAt H1 i jl jw jt1 n1 { d.blow.2 with lasts := flushN d.waits 0 d.lasts } := by
        show RefAt H1 i jl jw jt1 n1 { d.blow.2 with lasts := d.lasts }
        rw [← hbl]; exact hd1
      refine f23_L0_rule (J := fun m r H' => ∃ k : Nat, k ≤ d.waits.length ∧ r = (k : Int) ∧ m = d.waits.length - k ∧ RefAt H' i jl jw jt1 n1 { d.blow.2 with lasts := flushN d.waits k d.lasts } ∧ Fr [i, jl, jt] H H' ∧ H1.next ≤ H'.next) d.waits.length
        ⟨0, Nat.zero_le _, rfl, rfl, hd1', hf1, Nat.le_refl _⟩ ?_
      rintro m r H2 ⟨k, hkl, rfl, rfl, hd2, hf, hnx⟩
      intros
      unfold f23_R0
      obtain ⟨hlen, hsz⟩ := flushN_ok hok.lasts (fun w hw => (hok.waits w hw).2) k hkl
      refine wIf_d (fun hlt => ?_) (fun hge => ?_)
      · have hlt : k < d.waits.length := by omega
        obtain ⟨hc1, hc2⟩ := wcells_getD d.waits k hlt
        have hwk := hok.waits _ (getW_mem hlt)
        have hN : flushN d.waits (k + 1) d.lasts = (flushN d.waits k d.lasts).set (d.waits.getD k (0, ByteArray.empty)).1 (d.waits.getD k (0, ByteArray.empty)).2 := rfl
        generalize hwv : d.waits.getD k (0, ByteArray.empty) = wv at hc1 hc2 hwk hN
        have hW : Has H2 jw (.row (wcells d.waits) 2) := by
          have := (hd2.waits (by show d.blow.2.waits.length ≠ 0; rw [hbw]; omega)).1
          have e2 : ({ d.blow.2 with lasts := flushN d.waits k d.lasts } : Dev).waits = d.waits := hbw
          rw [e2] at this
          exact this
        rw [aw1 (by omega)]
        refine wIx_at (by omega) (by omega) (ldI_at hW hc1 (ldS_at hW hc2 (wNew_at (wSt_at (Has.new _ _) (by simp) ?_))))
        have hx : Fr [] H2 ((H2.push (.row [.int .i64 0, .string ⟨#[]⟩] 0)).set H2.next (.row (setCells [.int .i64 0, .string ⟨#[]⟩] 0 [.int .i64 (wv.1 : Int), .string wv.2]) 0)) := ((Fr.refl [] H2).push _).set (.inr (Nat.le_refl _)) _
        have hb2 : Has ((H2.push (.row [.int .i64 0, .string ⟨#[]⟩] 0)).set H2.next (.row (setCells [.int .i64 0, .string ⟨#[]⟩] 0 [.int .i64 (wv.1 : Int), .string wv.2]) 0)) H2.next (.row [.int .i64 (wv.1 : Int), .string wv.2] 0) := (Has.new H2 (.row [.int .i64 0, .string ⟨#[]⟩] 0)).set (.row (setCells [.int .i64 0, .string ⟨#[]⟩] 0 [.int .i64 (wv.1 : Int), .string wv.2]) 0)
        generalize (H2.push (.row [.int .i64 0, .string ⟨#[]⟩] 0)).set H2.next (.row (setCells [.int .i64 0, .string ⟨#[]⟩] 0 [.int .i64 (wv.1 : Int), .string wv.2]) 0) = H3 at hx hb2 ⊢
        have hd3 := hd2.fr0 hx
        have hq : wv.1 < ({ d.blow.2 with lasts := flushN d.waits k d.lasts } : Dev).lasts.length := by show wv.1 < (flushN d.waits k d.lasts).length; rw [hlen]; exact hwk.1
        have hl0 : ({ d.blow.2 with lasts := flushN d.waits k d.lasts } : Dev).lasts.length ≠ 0 := by omega
        have own3 := hd3.own
        rw [refRow_eq (show slV jl ({ d.blow.2 with lasts := flushN d.waits k d.lasts } : Dev).lasts.length = .slice (some ⟨jl, 0, none⟩) (flushN d.waits k d.lasts).length 0 from if_neg hl0) rfl rfl] at own3
        have hq' : wv.1 < (flushN d.waits k d.lasts).length := hq
        refine wPt_at (ldL_at own3 rfl (ldI_at hb2 rfl (ldS_at hb2 rfl (wIx_at (by omega) (by omega) (wSt_at (hd3.lasts hl0).1 ?_ ?_)))))
        · rw [strs_length, Int.toNat_natCast]; simp; exact hq
        · have hnx3 := hx.next
          refine ⟨d.waits.length - (k + 1), by omega, f23_I0_mk ⟨k + 1, hlt, wi1 k (by omega), rfl, ?_, ((hf.trans (hx.mono (by simp))).set (.inl (by simp)) _), by show _ ≤ H3.next; omega⟩⟩
          have := hd3.setLast hq wv.2
          rw [hN]
          exact this
      · have hkk : k = d.waits.length := by omega
        subst hkk
        rw [f23_J2_eq]
        unfold f23_J2_B
        refine wPt_at (wSt_at hd2.own (by simp) ?_)
        refine h _ jt1 n1 ⟨hd2.own.set _, fun x => ⟨(hd2.lasts x).1.setne (hd2.lasts x).2 _, (hd2.lasts x).2⟩, fun x => absurd rfl x, fun x => ?_⟩ (hf.set (.inl (by simp)) _) ho1 hn1 (by show jt1 < H2.next ∨ _; omega)
        obtain ⟨cs, c1, c2, c3, c4, c5, c6⟩ := hd2.tears x
        exact ⟨cs, c1, c2, c3.setne c4 _, c4, c5, fun x => absurd rfl x⟩

set_option maxHeartbeats 1000000 in
set_option maxRecDepth 20000 in
theorem rwrite_call (hd : RefAt H i jl jw jt n d) (hok : d.OK) (hn : n + d.waits.length < 1099511627775) (hc : d.crash.ok) (k : Int) (s : ByteArray)
    (h : ∀ H' jw' jt' n', RefAt H' i jl jw' jt' n' (d.write k s).2 → Fr [i, jl, jw, jt] H H' → (jt' = jt ∨ H.next ≤ jt') → n' ≤ n + d.waits.length + 1 → (jt' < H'.next ∨ jt' = jt) → (jw' = jw ∨ H.next ≤ jw') → (jw' < H'.next ∨ jw' = jw) → R (.ret (.int .i64 (d.write k s).1)) H') :
    ACall Try.prog 29 [.pointer (some ⟨i, 0, none⟩), .int .i64 k, .string s] H R := by
  apply f29_call
  unfold f29_B
  unfold Dev.write at h
  refine wPt_at (ldB_at hd.own rfl (wIf_b (fun e => ?_) (fun e => ?_)))
  · rw [if_pos e] at h
    exact h H jw jt n hd (Fr.refl _ _) (.inl rfl) (by omega) (.inr rfl) (.inl rfl) (.inr rfl)
  · have hoff : ¬ d.off = true := by simpa using e
    rw [if_neg hoff] at h
    have bad : (k < 0 ∨ (d.lasts.length : Int) ≤ k ∨ s.size ≠ 64) → R (.ret (.int .i64 2)) H := by
      intro e
      rw [if_pos e] at h
      exact h H jw jt n hd (Fr.refl _ _) (.inl rfl) (by omega) (.inr rfl) (.inl rfl) (.inr rfl)
    obtain ⟨al, hal, al1, al2⟩ := slV_eq jl d.lasts.length
    have own := hd.own
    rw [refRow_eq hal rfl rfl] at own
    refine wIf_d (fun hk => ?_) (fun hk => ?_)
    · rw [f29_J0_eq]
      unfold f29_J0_B
      exact wIf_t rfl (bad (.inl hk))
    · refine wPt_at (ldL_at own rfl (wIf_d (fun hk2 => ?_) (fun hk2 => ?_)))
      · rw [f29_J0_eq]
        unfold f29_J0_B
        exact wIf_t rfl (bad (.inr (.inl hk2)))
      · rw [f29_J0_eq]
        unfold f29_J0_B
        refine wIf_n (fun hs => bad (.inr (.inr (fun e => hs (by rw [e]; rfl))))) (fun hs => ?_)
        have hs : s.size = 64 := by omega
        rw [if_neg (by omega)] at h
        rw [f29_J1_eq]
        unfold f29_J1_B
        obtain ⟨aw, haw, aw1, aw2⟩ := slV_eq jw d.waits.length
        have own := hd.own
        rw [refRow_eq rfl haw rfl] at own
        refine wPt_at (ldL_at own rfl (wBs_at ?_))
        have hkn : k = ((k.toNat : Nat) : Int) := by omega
        generalize hkk : k.toNat = kn at hkn h
        subst hkn
        have hq := Has.new H (.row [.int .i64 (kn : Int), .string s] 2)
        have hf1 : Fr [] H (H.push (.row [.int .i64 (kn : Int), .string s] 2)) := (Fr.refl [] H).push _
        have hd1 := hd.fr0 hf1
        have own1 := own.fr hf1 (by simp)
        generalize hH1 : H.push (.row [.int .i64 (kn : Int), .string s] 2) = H1 at hq hf1 hd1 own1 ⊢
        have hn1 : H.next < H1.next := hq.lt
        have hoc : OwnC 0 H1 2 aw d.waits.length 0 (wcells d.waits) := by
          by_cases e0 : d.waits.length = 0
          · rw [aw2 e0, e0, List.eq_nil_of_length_eq_zero e0]
            exact OwnC.nil _ _ _
          · rw [aw1 e0]
            exact .inr ⟨jw, rfl, rfl, by rw [wcells_length]; omega, (hd1.waits e0).1, Nat.zero_le _⟩
        have hown : ∀ x, x ∈ ownS aw → d.waits.length ≠ 0 ∧ x = jw := fun x hm => by
          by_cases e0 : d.waits.length = 0
          · rw [aw2 e0] at hm; cases hm
          · rw [aw1 e0] at hm; exact ⟨e0, List.mem_singleton.1 hm⟩
        refine app_one (c0 := 0) (S := ownS aw) hoc (fun o e => by rw [e]; simp [ownS]) (Nat.zero_le _) rfl rfl (by omega) (by omega) hq (fun o e => ?_) (fun o H3 hoc3 f3 hno => ?_)
        · obtain ⟨e0, rfl⟩ := hown o (by rw [e]; simp [ownS])
          have := (hd.waits e0).1.lt; omega
        have own3 := own1.fr f3 (fun m => by obtain ⟨e0, e1⟩ := hown _ m; exact (hd.waits e0).2.1 e1.symm)
        refine wPt_at (wSt_at own3 (by simp) ?_)
        have hoi : o ≠ i := by have := own1.lt; omega
        have hlw : (d.waits ++ [(kn, s)]).length = d.waits.length + 1 := by simp
        have hd4 : RefAt (H3.set i (.row (setCells [slV jl d.lasts.length, .slice aw d.waits.length 0, .bool d.off, .int .i64 d.left, .int .u64 d.crash.keep, .int .i64 d.crash.torn, .int .i64 d.crash.at_, slV jt n] (0 + 1) [.slice (some ⟨o, 0, none⟩) (d.waits.length + 1) 0]) 0)) i jl o jt n { d with waits := d.waits ++ [(kn, s)] } := by
          refine ⟨?_, fun x => ?_, fun _ => ?_, fun x => ?_⟩
          · rw [refRow_eq (d := { d with waits := d.waits ++ [(kn, s)] }) rfl (show slV o (d.waits ++ [(kn, s)]).length = .slice (some ⟨o, 0, none⟩) (d.waits.length + 1) 0 by rw [hlw]; exact if_neg (by omega)) rfl]
            exact own3.set _
          · obtain ⟨h1, h2⟩ := hd1.lasts x
            exact ⟨(h1.fr f3 (fun m => by obtain ⟨e0, e1⟩ := hown _ m; exact (hd.waits e0).2.2 e1.symm)).setne h2 _, h2⟩
          · rcases hoc3 with ⟨x, _⟩ | ⟨o', x1, _, x3, x4, x5⟩
            · cases x
            · cases x1
              have e2 : wcells (d.waits ++ [(kn, s)]) = wcells d.waits ++ [.int .i64 (kn : Int), .string s] := by simp [wcells]
              have hl : o ≠ jl := by
                have := (hd.lasts (by show d.lasts.length ≠ 0; omega)).1.lt
                omega
              refine ⟨?_, hoi, hl⟩
              show Has _ o (.row (wcells (d.waits ++ [(kn, s)])) 2)
              rw [e2]
              exact x4.setne hoi _
          · obtain ⟨cs, c1, c2, c3, c4, c5, c6⟩ := hd1.tears x
            refine ⟨cs, c1, c2, (c3.fr f3 (fun m => by obtain ⟨e0, e1⟩ := hown _ m; exact c6 e0 e1)).setne c4 _, c4, c5, fun _ => ?_⟩
            have := c3.lt
            omega
        have hok1 : ({ d with waits := d.waits ++ [(kn, s)] } : Dev).OK := ⟨hok.lasts, fun w hw => by
            rcases List.mem_append.1 hw with hw | hw
            · exact hok.waits w hw
            · rw [List.mem_singleton] at hw
              subst hw
              exact ⟨by show kn < d.lasts.length; omega, hs⟩, hok.few, by simp; omega, hok.left⟩
        have nx3 := f3.next
        refine wCall_of (rblown_call hd4 hok1 (by show n + (d.waits ++ [(kn, s)]).length ≤ _; omega) hc (fun H5 jt5 n5 hd5 hf5 ho5 hn5 hj5 => opB_at ?_))
        have nx5 := hf5.next
        have nx5' : H3.next ≤ H5.next := nx5
        have ho5' : jt5 = jt ∨ H3.next ≤ jt5 := ho5
        have hn5' : n5 ≤ n + (d.waits ++ [(kn, s)]).length := hn5
        have hno5 : o < H3.next := by
          rcases hoc3 with ⟨x, _⟩ | ⟨o', x1, _, x3, x4, x5⟩
          · cases x
          · cases x1; exact x4.lt
        have hfr : Fr [i, jl, jw, jt] H H5 := (((hf1.mono (by simp)).trans (f3.mono (fun x hm => by rw [(hown x hm).2]; simp))).set (.inl (by simp)) _).trans (hf5.mono (by simp))
        have hR := h H5 o jt5 n5 hd5 hfr (by omega) (by omega) hj5 (.inr (by omega)) (.inl (by omega))
        refine wIf_b (fun e => ?_) (fun e => ?_)
        · rw [e] at hR; exact hR
        · rw [e] at hR; exact hR
end
end Go.Proofs.Ytnjhcnefgeodcaa
