/- The statement: what was flushed stays, whatever is lost behind it. -/
import Derived.Test.YtnjhcnefgeodcaaWBlkJ
import Derived.Test.YtnjhcnefgeodcaaWBlkI
namespace Go.Proofs.Ytnjhcnefgeodcaa
set_option linter.unusedVariables false
set_option linter.unusedSimpArgs false
open Go.RowKit

def cutS (s : ByteArray) : ByteArray := s.extract (Int.toNat 0) (Int.toNat (if 60 < (s.size : Int) then 60 else (s.size : Int)))
theorem cutS_size (s : ByteArray) : (cutS s).size ≤ 60 := by
  unfold cutS
  rw [ByteArray.size_extract]
  split <;> omega
theorem sectorOf_size {s : ByteArray} (h : s.size ≤ 66) : (sectorOf s).size = 64 := by
  unfold sectorOf
  rw [if_neg (by omega), ByteArray.size_extract, ByteArray.size_append]
  unfold zeros
  rw [ofL_size]; simp
def secs (f : Nat → ByteArray) (k : Nat) : ByteArray := sectorOf (cutS (f k))
theorem secs_size (f : Nat → ByteArray) (k : Nat) : (secs f k).size = 64 := sectorOf_size (by have := cutS_size (f k); omega)
/-- The texts of a slice of such. -/
theorem Sl.strs {H : AH} {b : Option Addr} {len cap i : Nat} {vs : List Value} (S : Sl H [.str] 1 b len cap i vs) : ∃ f : Nat → ByteArray, ∀ k, k < len → vs[k * 1]? = some (.string (f k)) ∧ (f k).size ≤ 9223372036854775807 := by
  obtain ⟨f, hf⟩ := Go.Deep.choose_lt (n := len) (p := fun k s => vs[k * 1]? = some (.string s) ∧ s.size ≤ 9223372036854775807) (fun k hk => by
    obtain ⟨s, h1, h2⟩ := S.str hk 0 rfl
    exact ⟨s, h1, h2⟩)
  exact ⟨f, hf⟩
theorem lasting_as {H : AH} {R : AEnd → AH → Prop} {i jl jw : Nat} {d : Dev} (hd : DevAt H i jl jw d) (hok : d.OK) (L : List ByteArray) (hL : d.lasts = L) (h : R (.ret (.string (catL L))) H) : ACall Try.prog 19 [.pointer (some ⟨i, 0, none⟩)] H R :=
  lasting_call hd hok (by rw [hL]; exact h)

section
variable {H : AH} {R : AEnd → AH → Prop}
set_option maxRecDepth 20000 in
set_option maxHeartbeats 4000000 in
theorem blockLasts_law (H : AH) (v0 : Value) (d0 : CD) (l0 : Lie H d0 v0) (k0 : Kd (.sl 1 [.str]) d0) (v1 : Value) (d1 : CD) (l1 : Lie H d1 v1) (k1 : Kd (.sl 1 [.str]) d1) (v2 : List Value) (d2 : List CD) (l2 : Lies H d2 v2) (k2 : Kds crashK d2) :
    ACall Try.prog 5 [v0, v1, .agg v2.toArray] H AllTrue := by
  obtain ⟨b, len, cap, i0, vs, rfl, S⟩ := sl_of l0 k0 rfl
  obtain ⟨b', len', cap', i1, vs', rfl, S'⟩ := sl_of l1 k1 rfl
  obtain ⟨c0, e0, _⟩ := l2.int k2 0 rfl
  obtain ⟨c1, e1, _⟩ := l2.int k2 1 rfl
  obtain ⟨c2, e2, _⟩ := l2.int k2 2 rfl
  obtain rfl := three (l2.len.symm.trans k2.len) e0 e1 e2
  clear e0 e1 e2 l2 k2 l0 k0 l1 k1
  obtain ⟨f, hf⟩ := S.strs
  obtain ⟨g, hg⟩ := S'.strs
  apply f5_call
  unfold f5_B
  refine wNew_at (wCall_of (awake_call (fun H1 f1 => opB_at (wIf_f rfl ?_))))
  have hc := (Has.new H (crashRow ⟨c0, c1, c2⟩)).fr f1 (by simp)
  have f01 : Fr [] H H1 := ((Fr.refl [] H).push _).trans f1
  refine wIf_d (fun h20 => ?_) (fun h20 => ?_)
  · rw [f5_J0_eq]
    unfold f5_J0_B
    exact wIf_t rfl (wCall_of (awake_call (fun H2 f2 => opB_at rfl)))
  · rw [f5_J0_eq]
    unfold f5_J0_B
    refine wIf_d (fun h21 => wCall_of (awake_call (fun H2 f2 => opB_at rfl))) (fun h21 => ?_)
    rw [f5_J1_eq]
    unfold f5_J1_B
    have hl20 : len ≤ 20 := by omega
    have hl20' : len' ≤ 20 := by omega
    refine wCall_of (new_call 20 (fun H2 ia la hda f2 hi2 hl2 => opP_at ?_))
    have sec20 : sectorsOf 20 = 20 := by decide
    rw [sec20] at hda
    have n0 : H.next < H1.next := hc.lt
    have hc2 := hc.fr f2 (by simp)
    have f02 := f01.trans f2
    have dL : (newDev 20).lasts.length = 20 := fillL_length _ _
    have dok := newDev_ok 20 (by omega)
    refine f5_L0_rule (J := fun m s32 H' => ∃ (k ja : Nat), k ≤ len ∧ s32 = (k : Int) ∧ m = len - k ∧ DevAt H' ia la ja { newDev 20 with waits := Ws (secs f) k } ∧ ({ newDev 20 with waits := Ws (secs f) k } : Dev).OK ∧
        H.next < ja ∧ Has H' H.next (crashRow ⟨c0, c1, c2⟩) ∧ Fr [] H H') len
      ⟨0, ia, by omega, rfl, by omega, hda, dok, by omega, hc2, f02⟩ ?_
    rintro m s32 H3 ⟨k, ja, hk, rfl, rfl, hd, hok, hja, hc3, f3⟩
    intros
    unfold f5_R0
    refine wIf_d (fun hlt => ?_) (fun hge => ?_)
    · have hkl : k < len := by omega
      have S3 := S.fr f3
      refine wIx_sl S3 rfl hkl (ldS_ro (S3.has (by omega)) (hf k hkl).1 (wSlS_at (by omega) (by split <;> omega) (by split <;> omega) ?_))
      refine wCall_of (sector_call (cutS (f k)) (by have := cutS_size (f k); omega) (fun H4 f4 => opS_at ?_))
      have hlw : ({ newDev 20 with waits := Ws (secs f) k } : Dev).waits.length = k := Ws_length _ _
      refine wCall_of (write_call (hd.fr f4 (by simp)) hok (by rw [hlw]; omega) k (secs f k) (fun H5 j5 hd5 f5 hj5 => opI_at ?_))
      have hw := write_ws { newDev 20 with waits := Ws (secs f) k } (secs f) k rfl rfl (by show k < (newDev 20).lasts.length; omega) rfl (secs_size f k)
      have hok5 := hok.write (by rw [hlw]; omega) k (secs f k)
      rw [hw] at hd5 hok5
      have n3 := f3.next
      have n4 := f4.next
      have nc := hc3.lt
      exact ⟨len - (k + 1), by omega, f5_I0_mk ⟨k + 1, j5, by omega, wi1 k (by omega), rfl, hd5, hok5, by rcases hj5 with rfl | rfl | e <;> omega, (hc3.fr f4 (by simp)).fr f5 (by simp; omega), (f3.trans f4).trans' f5 (fun x hx => .inr (by simp at hx; omega))⟩⟩
    · have hkl : k = len := by omega
      subst hkl
      rw [f5_J2_eq]
      unfold f5_J2_B
      refine wCall_of (flush_call hd hok (fun H4 j4 hd4 f4 hj4 => opI_at ?_))
      have hok4 := hok.flush
      have hl4 := Dev.flush_len _ hok
      rw [flush_zero rfl rfl] at hd4 hok4 hl4 ⊢
      have hw4 : ({ ({ newDev 20 with waits := Ws (secs f) k } : Dev) with lasts := flushN (Ws (secs f) k) (Ws (secs f) k).length (newDev 20).lasts, waits := [] } : Dev) = { newDev 20 with lasts := flushN (Ws (secs f) k) (Ws (secs f) k).length (newDev 20).lasts, waits := [] } := rfl
      rw [hw4] at hd4 hok4 hl4
      have hl4 : (flushN (Ws (secs f) k) (Ws (secs f) k).length (newDev 20).lasts).length = 20 := hl4.trans dL
      generalize flushN (Ws (secs f) k) (Ws (secs f) k).length (newDev 20).lasts = L at hd4 hok4 hl4
      refine wIf_nf rfl (wCall_of (lasting_as hd4 hok4 L rfl (opS_at ?_)))
      have hc4 := hc3.fr f4 (by simp; omega)
      have n3 := f3.next
      have f04 : Fr [] H H4 := f3.trans' f4 (fun x hx => .inr (by simp at hx; omega))
      have hj4' : H.next < j4 := by omega
      refine f5_L1_rule (J := fun m s54 H' => ∃ (k ja : Nat), k ≤ len' ∧ s54 = (k : Int) ∧ m = len' - k ∧ DevAt H' ia la ja { newDev 20 with lasts := L, waits := Ws (secs g) k } ∧ ({ newDev 20 with lasts := L, waits := Ws (secs g) k } : Dev).OK ∧
          H.next < ja ∧ Has H' H.next (crashRow ⟨c0, c1, c2⟩) ∧ Fr [] H H') len'
        ⟨0, j4, by omega, rfl, by omega, hd4, hok4, hj4', hc4, f04⟩ ?_
      rintro m s54 H5 ⟨q, jb, hq, rfl, rfl, hd5, hok5, hjb, hc5, f5⟩
      intros
      unfold f5_R1
      refine wIf_d (fun hlt' => ?_) (fun hge' => ?_)
      · have hkl : q < len' := by omega
        have S5 := S'.fr f5
        refine wIx_sl S5 rfl hkl (ldS_ro (S5.has (by omega)) (hg q hkl).1 (wSlS_at (by omega) (by split <;> omega) (by split <;> omega) ?_))
        refine wCall_of (sector_call (cutS (g q)) (by have := cutS_size (g q); omega) (fun H6 f6 => opS_at ?_))
        have hlw : ({ newDev 20 with lasts := L, waits := Ws (secs g) q } : Dev).waits.length = q := Ws_length _ _
        refine wCall_of (write_call (hd5.fr f6 (by simp)) hok5 (by rw [hlw]; omega) q (secs g q) (fun H7 j7 hd7 f7 hj7 => opI_at ?_))
        have hw := write_ws { newDev 20 with lasts := L, waits := Ws (secs g) q } (secs g) q rfl rfl (by show q < L.length; omega) rfl (secs_size g q)
        have hok7 := hok5.write (by rw [hlw]; omega) q (secs g q)
        rw [hw] at hd7 hok7
        have n5 := f5.next
        have n6 := f6.next
        have nc := hc5.lt
        exact ⟨len' - (q + 1), by omega, f5_I1_mk ⟨q + 1, j7, by omega, wi1 q (by omega), rfl, hd7, hok7, by rcases hj7 with rfl | rfl | e <;> omega, (hc5.fr f6 (by simp)).fr f7 (by simp; omega), (f5.trans f6).trans' f7 (fun x hx => .inr (by simp at hx; omega))⟩⟩
      · have hql : q = len' := by omega
        subst hql
        rw [f5_J3_eq]
        unfold f5_J3_B
        refine wPt_at (ldI_at hc5 rfl (ldI_at hc5 rfl (ldI_at hc5 rfl (wCall_of (kill_call hd5 hok5 ⟨c0, c1, c2⟩ (fun H6 j6 hd6 f6 hj6 => ?_))))))
        have hok6 := hok5.kill ⟨c0, c1, c2⟩
        have hkd : Dev.kill { newDev 20 with lasts := L, waits := Ws (secs g) q } ⟨c0, c1, c2⟩ = { newDev 20 with lasts := loseN ⟨c0, c1, c2⟩ (Ws (secs g) q) (Ws (secs g) q).length L, waits := [] } := by
          unfold Dev.kill
          rw [if_neg (by show ¬ (false = true); simp)]
          rfl
        rw [hkd] at hd6 hok6
        rw [Ws_length] at hd6 hok6
        obtain ⟨hlen6, hlw6⟩ := lose_ws ⟨c0, c1, c2⟩ (secs g) q L (by omega) q (Nat.le_refl _)
        generalize loseN ⟨c0, c1, c2⟩ (Ws (secs g) q) q L = M at hd6 hok6 hlen6 hlw6
        refine wCall_of (lasting_as hd6 hok6 M rfl (opS_at ?_))
        have hc6 := hc5.fr f6 (by simp; omega)
        have n5 := f5.next
        have f06 : Fr [] H H6 := f5.trans' f6 (fun x hx => .inr (by simp at hx; omega))
        refine f5_L2_rule (J := fun m s74 H' => ∃ (k : Nat), k ≤ 20 ∧ s74 = (k : Int) ∧ m = 20 - k ∧ Has H' H.next (crashRow ⟨c0, c1, c2⟩) ∧ Fr [] H H') 20 ⟨0, by omega, rfl, rfl, hc6, f06⟩ ?_
        rintro m s74 H7 ⟨r, hr, rfl, rfl, hc7, f7⟩
        intros
        unfold f5_R2
        refine wIf_d (fun hr20 => ?_) (fun hr20 => ?_)
        · have hL : ∀ s ∈ L, s.size = 64 := hok4.lasts
          have hM : ∀ s ∈ M, s.size = 64 := hok6.lasts
          have zL := catL_size L hL
          have zM := catL_size M hM
          have e1 : IntKind.i64.wrap ((r : Int) * 64) = ((r * 64 : Nat) : Int) := by rw [wi _ (by omega) (by omega)]; omega
          have e2 : IntKind.i64.wrap (IntKind.i64.wrap ((r : Int) + 1) * 64) = (((r + 1) * 64 : Nat) : Int) := by rw [wi1 r (by omega), wi _ (by omega) (by omega)]; omega
          rw [e1, e2]
          refine wSlS_at (by omega) (by omega) (by omega) (wSlS_at (by omega) (by omega) (by omega) ?_)
          rw [Int.toNat_natCast, Int.toNat_natCast, catL_at L hL r (by omega), catL_at M hM r (by omega)]
          have hthis := hlw6 r
          refine wIf_d (fun hrl => ?_) (fun hrl => ?_)
          · have hrl' : r < q := by omega
            have S7 := S'.fr f7
            refine wIx_sl S7 rfl hrl' (wIx_sl S7 rfl hrl' (ldS_ro (S7.has (by omega)) (hg r hrl').1 (ldS_ro (S7.has (by omega)) (hg r hrl').1 (wSlS_at (by omega) (by split <;> omega) (by split <;> omega) ?_))))
            refine wCall_of (sector_call (cutS (g r)) (by have := cutS_size (g r); omega) (fun H8 f8 => opS_at ?_))
            have S8 := S7.fr f8
            have hp : PinOK i1 (r * 1) [.string (g r)] H8 := ⟨vs', by simp only [AH.cells, (S8.has (by omega)).get], by have := S'.size; simp; omega, by
              have h1 := (hg r hrl').1
              have h2 := (List.getElem?_eq_some_iff.1 h1)
              rw [List.drop_eq_getElem_cons h2.1, h2.2]; rfl⟩
            refine ⟨hp, hp, ?_⟩
            have hc8 := hc7.fr f8 (by simp)
            have f08 := f7.trans f8
            rw [f5_J4_eq]
            unfold f5_J4_B
            refine wIf_n (fun hba => ?_) (fun hba => ?_)
            · rcases hthis with h | ⟨_, h⟩
              · exact absurd h hba
              · refine wIf_n (fun hbn => ?_) (fun hbn => ?_)
                · rcases h with h | h
                  · exact absurd h hbn
                  · refine wPt_at (ldI_at hc8 rfl ?_)
                    rw [f5_J5_eq]
                    unfold f5_J5_B
                    exact wIf_nf h ⟨20 - (r + 1), by omega, f5_I2_mk ⟨r + 1, by omega, wi1 r (by omega), rfl, hc8, f08⟩⟩
                · rw [f5_J5_eq]
                  unfold f5_J5_B
                  exact wIf_f rfl ⟨20 - (r + 1), by omega, f5_I2_mk ⟨r + 1, by omega, wi1 r (by omega), rfl, hc8, f08⟩⟩
            · rw [f5_J5_eq]
              unfold f5_J5_B
              exact wIf_f rfl ⟨20 - (r + 1), by omega, f5_I2_mk ⟨r + 1, by omega, wi1 r (by omega), rfl, hc8, f08⟩⟩
          · rw [f5_J4_eq]
            unfold f5_J4_B
            rcases hthis with h | ⟨h, _⟩
            · refine wIf_nf h ?_
              rw [f5_J5_eq]
              unfold f5_J5_B
              exact wIf_f rfl ⟨20 - (r + 1), by omega, f5_I2_mk ⟨r + 1, by omega, wi1 r (by omega), rfl, hc7, f7⟩⟩
            · omega
        · exact wCall_of (awake_call (fun H8 f8 => opB_at rfl))
end
end Go.Proofs.Ytnjhcnefgeodcaa
