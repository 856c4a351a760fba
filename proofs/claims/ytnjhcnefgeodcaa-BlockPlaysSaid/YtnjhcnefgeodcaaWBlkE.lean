/- The device of sectors: Fill, New; the statements' helpers. -/
import Derived.Test.YtnjhcnefgeodcaaWBlkD
namespace Go.Proofs.Ytnjhcnefgeodcaa
set_option linter.unusedVariables false
set_option linter.unusedSimpArgs false
open Go.RowKit

theorem wCpS_at {H : AH} {o d : Nat} {l : List UInt8} {s : ByteArray} {K : Int → AH → Prop} (h : Has H o (.row (bcells l) 1)) (hl : d = l.length)
    (hk : ∀ H', Has H' o (.row (bcells (s.data.toList.take (min s.size d) ++ l.drop (min s.size d))) 1) → Fr [o] H H' → K ((min s.size d : Nat) : Int) H') : wCpS (some ⟨o, 0, none⟩) d 0 s H K := by
  unfold wCpS aCopy copySrc
  simp only [if_true]
  cases hm : min s.size d with
  | zero =>
    rw [hm] at hk
    simp only
    refine opI_at (hk H ?_ (Fr.refl _ _))
    simpa using h
  | succ n =>
    rw [hm] at hk
    simp only [h.get]
    have hle : n + 1 ≤ d := by omega
    have hle2 : n + 1 ≤ s.size := by omega
    have hb : byteCells s = bcells s.data.toList := rfl
    have hsz : s.data.toList.length = s.size := by simp
    refine ⟨by rw [bcells_length]; omega, by rw [hb, bcells_take]; exact bcells_one _, opI_at (hk _ ?_ ((Fr.refl _ _).set (.inl (by simp)) _))⟩
    have : setCells (bcells l) 0 ((byteCells s).take ((n + 1) * 1)) = bcells (s.data.toList.take (n + 1) ++ l.drop (n + 1)) := by
      rw [hb, Nat.mul_one, bcells_take]
      have := setCells_app (bcells (s.data.toList.take (n + 1))) [] (bcells l) (by rw [bcells_length, bcells_length, List.length_take]; omega)
      simp only [List.nil_append, List.length_nil] at this
      rw [this, ← bcells_app, bcells_length, List.length_take, hsz, Nat.min_eq_left hle2]
      congr 1
      simp [bcells, List.map_drop]
    rw [this]
    exact h.set _

def zeros (n : Nat) : ByteArray := ofL (List.replicate n 0)
def sectorOf (s : ByteArray) : ByteArray := if 66 < s.size then s else (s ++ zeros 64).extract 0 64
def pad64 (s : ByteArray) : ByteArray := ofL (s.data.toList.take (min s.size 64) ++ (List.replicate 64 0).drop (min s.size 64))
def fillL : Nat → ByteArray → List ByteArray
  | 0, _ => []
  | n + 1, s => pad64 s :: fillL n (s.extract (min s.size 64) s.size)
theorem fillL_length (n : Nat) (s : ByteArray) : (fillL n s).length = n := by
  induction n generalizing s with
  | zero => rfl
  | succ n ih => simp [fillL, ih]
theorem pad64_size (s : ByteArray) : (pad64 s).size = 64 := by
  unfold pad64; rw [ofL_size, List.length_append, List.length_take, List.length_drop, List.length_replicate]
  have : s.data.toList.length = s.size := by simp
  omega
theorem fillL_size (n : Nat) (s : ByteArray) : ∀ x ∈ fillL n s, x.size = 64 := by
  induction n generalizing s with
  | zero => intro x hx; cases hx
  | succ n ih =>
    intro x hx
    rcases List.mem_cons.1 hx with rfl | hx
    · exact pad64_size s
    · exact ih _ x hx
def Dev.fill (d : Dev) (s : ByteArray) : Dev := { d with lasts := fillL d.lasts.length s, waits := [] }
def newDev (n : Nat) : Dev := ⟨fillL n ByteArray.empty, [], false, 0, ⟨0, 0, 0⟩⟩
theorem newDev_ok (n : Nat) (h : n ≤ 4096) : (newDev n).OK := ⟨fillL_size _ _, fun w hw => (by cases hw), by show (fillL _ _).length ≤ _; rw [fillL_length]; exact h, by show 0 < _; omega, ⟨by show (0 : Int) ≤ 0; omega, by show (0 : Int) ≤ _; omega⟩⟩

section
variable {H : AH} {i jl jw : Nat} {d : Dev} {R : AEnd → AH → Prop}
theorem blank_call (n : Nat) (hn : n ≤ 1099511627776) (h : ∀ H', Fr [] H H' → R (.ret (.string (zeros n))) H') : ACall Try.prog 33 [.int .i64 n] H R := by
  apply f33_call
  unfold f33_B
  refine wMk_at (by omega) (by omega) (by omega) (by omega) ?_
  rw [bcells_rep, Int.toNat_natCast]
  exact wB2S_at (Has.new _ _) (by simp) (h _ ((Fr.refl [] H).push _))
theorem sector_call (s : ByteArray) (hs : s.size ≤ 9223372036854775807) (h : ∀ H', Fr [] H H' → R (.ret (.string (sectorOf s))) H') : ACall Try.prog 13 [.string s] H R := by
  apply f13_call
  unfold f13_B
  unfold sectorOf at h
  refine wIf_d (fun e => ?_) (fun e => ?_)
  · rw [if_pos (by omega)] at h; exact h H (Fr.refl _ _)
  · rw [if_neg (by omega)] at h
    refine wCall_of (blank_call 64 (by omega) (fun H' hf => opS_at (wCat_at ?_ (wSlS_at (by omega) (by omega) ?_ (h H' hf)))))
    · show s.size + (zeros 64).size ≤ _
      unfold zeros; rw [ofL_size]; simp; omega
    · rw [ByteArray.size_append]; unfold zeros; rw [ofL_size]; simp; omega

set_option maxHeartbeats 1000000 in
set_option maxRecDepth 20000 in
theorem fill_call (hd : DevAt H i jl jw d) (hfew : d.lasts.length ≤ 4096) (s : ByteArray) (h : ∀ H', DevAt H' i jl i (d.fill s) → Fr [i, jl] H H' → R (.ret (.tuple #[])) H') :
    ACall Try.prog 27 [.pointer (some ⟨i, 0, none⟩), .string s] H R := by
  apply f27_call
  unfold f27_B
  refine wIf_f rfl (wPt_at (ldL_at hd.own rfl ?_))
  refine f27_L0_rule (J := fun m s' r H' => ∃ (k : Nat) (L : List ByteArray), k ≤ d.lasts.length ∧ r = (k : Int) ∧ m = d.lasts.length - k ∧ L.length = d.lasts.length ∧ L.take k ++ fillL (d.lasts.length - k) s' = fillL d.lasts.length s ∧
      Has H' i (devRow jl jw d) ∧ Has H' jl (.row (strs L) 1) ∧ Fr [i, jl] H H') d.lasts.length
    ⟨0, d.lasts, Nat.zero_le _, rfl, rfl, rfl, rfl, hd.own, hd.lasts, Fr.refl _ _⟩ ?_
  rintro m s' r H1 ⟨k, L, hkl, rfl, rfl, hL, hfl, ho, hl, hf⟩
  intros
  unfold f27_R0
  refine wIf_d (fun hlt => ?_) (fun hge => ?_)
  · have hlt : k < d.lasts.length := by omega
    refine wMk_at (by omega) (by omega) (by omega) (by omega) ?_
    rw [bcells_rep]
    have hb := Has.new H1 (.row (bcells (List.replicate (Int.toNat 64) 0)) 1)
    have hx0 : Fr [] H1 (H1.push (.row (bcells (List.replicate (Int.toNat 64) 0)) 1)) := (Fr.refl [] H1).push _
    refine wCpS_at hb (by simp) (fun H2 hb2 hf2 => ?_)
    have hbi : H1.next ≠ i := by have := ho.lt; omega
    have hbl : H1.next ≠ jl := by have := hl.lt; omega
    have hx : Fr [] H1 H2 := hx0.trans' hf2 (fun j hj => .inr (by simp at hj; omega))
    have ho2 := ho.fr hx (by simp)
    have hl2 := hl.fr hx (by simp)
    have hmn : min s'.size (Int.toNat 64) = min s'.size 64 := rfl
    rw [hmn] at hb2 ⊢
    have hfin : Has (H2.set jl (.row (setCells (strs L) (0 + ((k : Nat) : Int).toNat * 1) [.string (pad64 s')]) 1)) i (devRow jl jw d) ∧ Has (H2.set jl (.row (setCells (strs L) (0 + ((k : Nat) : Int).toNat * 1) [.string (pad64 s')]) 1)) jl (.row (strs (L.set k (pad64 s'))) 1) := by
      refine ⟨ho2.setne hd.ne _, ?_⟩
      rw [Int.toNat_natCast, Nat.zero_add, Nat.mul_one, strs_set]
      exact hl2.set _
    have hfill : (L.set k (pad64 s')).take (k + 1) ++ fillL (d.lasts.length - (k + 1)) (s'.extract (min s'.size 64) s'.size) = fillL d.lasts.length s := by
      rw [← hfl]
      have e : d.lasts.length - k = (d.lasts.length - (k + 1)) + 1 := by omega
      rw [e, fillL, List.take_set, List.take_add_one, List.getElem?_eq_getElem (by omega)]
      have : ((L.take k ++ (some L[k]).toList).set k (pad64 s')) = L.take k ++ [pad64 s'] := by
        have hlk : (L.take k).length = k := by rw [List.length_take]; omega
        rw [List.set_append_right _ _ (by omega), hlk]; simp
      rw [this]; simp
    have done : ∀ (H3 : AH), H3 = H2.set jl (.row (setCells (strs L) (0 + ((k : Nat) : Int).toNat * 1) [.string (pad64 s')]) 1) →
        ∃ (k' : Nat) (L' : List ByteArray), k' ≤ d.lasts.length ∧ IntKind.i64.wrap ((k : Int) + 1) = (k' : Int) ∧ d.lasts.length - (k + 1) = d.lasts.length - k' ∧ L'.length = d.lasts.length ∧ L'.take k' ++ fillL (d.lasts.length - k') (s'.extract (min s'.size 64) s'.size) = fillL d.lasts.length s ∧
          Has H3 i (devRow jl jw d) ∧ Has H3 jl (.row (strs L') 1) ∧ Fr [i, jl] H H3 := by
      rintro H3 rfl
      exact ⟨k + 1, L.set k (pad64 s'), hlt, wi1 k (by omega), rfl, by rw [List.length_set]; exact hL, hfill, hfin.1, hfin.2, (hf.trans (hx.mono (by simp))).set (.inl (by simp)) _⟩
    have htn : ((min s'.size 64 : Nat) : Int).toNat = min s'.size 64 := by omega
    have hsn : ((s'.size : Nat) : Int).toNat = s'.size := by omega
    have hkk : k < (strs L).length := by rw [strs_length, hL]; exact hlt
    refine wSlS_at (by omega) (by omega) (by omega) (wPt_at ⟨?_, ?_⟩)
    · refine ldL_at ho2 rfl (wB2S_at hb2 ?_ (wIx_at (by omega) (by omega) (wSt_at hl2 (by simp; omega) ?_)))
      · rw [List.length_append, List.length_take, List.length_drop, List.length_replicate]
        have : s'.data.toList.length = s'.size := by simp
        show 64 = _; omega
      · rw [htn, hsn]
        exact ⟨d.lasts.length - (k + 1), by omega, f27_I0_mk (done _ rfl)⟩
    · refine wB2S_at hb2 ?_ (ldL_at ho2 rfl (wIx_at (by omega) (by omega) (wSt_at hl2 (by simp; omega) ?_)))
      · rw [List.length_append, List.length_take, List.length_drop, List.length_replicate]
        have : s'.data.toList.length = s'.size := by simp
        show 64 = _; omega
      · rw [htn, hsn]
        exact ⟨d.lasts.length - (k + 1), by omega, f27_I0_mk (done _ rfl)⟩
  · have hk : k = d.lasts.length := by omega
    subst hk
    rw [Nat.sub_self, fillL, List.append_nil, ← hL, List.take_length] at hfl
    rw [f27_J0_eq]
    unfold f27_J0_B
    refine wPt_at (wSt_at ho (by simp) ?_)
    refine h _ ⟨?_, ?_, fun e => absurd rfl e, hd.ne, fun _ => rfl, fun e => absurd rfl e⟩ (hf.set (.inl (by simp)) _)
    · have := ho.set (devRow jl i (d.fill s))
      unfold devRow at this ⊢
      have e : (d.fill s).lasts.length = d.lasts.length := fillL_length _ _
      rw [e] at this ⊢
      exact this
    · have : (d.fill s).lasts = L := by show fillL _ _ = _; rw [hfl, hL]
      rw [this]
      exact hl.setne hd.ne.symm _
theorem fill_nil (s : ByteArray) (h : R (.ret (.tuple #[])) H) : ACall Try.prog 27 [.pointer none, .string s] H R := by
  apply f27_call
  unfold f27_B
  exact wIf_t rfl h

def sectorsOf (n : Int) : Nat := (if 0 < (if 4096 < n then 4096 else n) then (if 4096 < n then 4096 else n) else 0).toNat
theorem sectorsOf_le (n : Int) : sectorsOf n ≤ 4096 := by unfold sectorsOf; split <;> split <;> omega
set_option maxRecDepth 20000 in
theorem new_call (n : Int) (h : ∀ H' i jl, DevAt H' i jl i (newDev (sectorsOf n)) → Fr [] H H' → H.next ≤ i → H.next ≤ jl → R (.ret (.pointer (some ⟨i, 0, none⟩))) H') : ACall Try.prog 9 [.int .i64 n] H R := by
  apply f9_call
  unfold f9_B
  have hle := sectorsOf_le n
  have hm : (if 0 < (if 4096 < n then 4096 else n) then (if 4096 < n then 4096 else n) else 0) = ((sectorsOf n : Nat) : Int) := by unfold sectorsOf; split <;> split <;> omega
  rw [hm]
  generalize sectorsOf n = m at hle h
  refine wMk_at (by omega) (by omega) (by omega) (by omega) (wNew_at ?_)
  rw [Int.toNat_natCast, repl1]
  have hl := Has.new H (.row (List.replicate m (.string ⟨#[]⟩)) 1)
  have hd : DevAt ((H.push (.row (List.replicate m (.string ⟨#[]⟩)) 1)).push (devRow H.next (H.push (.row (List.replicate m (.string ⟨#[]⟩)) 1)).next ⟨List.replicate m ByteArray.empty, [], false, 0, ⟨0, 0, 0⟩⟩))
      (H.push (.row (List.replicate m (.string ⟨#[]⟩)) 1)).next H.next (H.push (.row (List.replicate m (.string ⟨#[]⟩)) 1)).next ⟨List.replicate m ByteArray.empty, [], false, 0, ⟨0, 0, 0⟩⟩ := by
    refine ⟨Has.new _ _, ?_, fun e => absurd rfl e, by rw [AH.next_push]; omega, fun _ => rfl, fun e => absurd rfl e⟩
    have : strs (List.replicate m ByteArray.empty) = List.replicate m (.string ⟨#[]⟩) := by simp only [strs, List.map_replicate]; rfl
    show Has _ _ (.row (strs (List.replicate m ByteArray.empty)) 1)
    rw [this]
    exact hl.push _
  have hrow : devRow H.next (H.push (.row (List.replicate m (.string ⟨#[]⟩)) 1)).next ⟨List.replicate m ByteArray.empty, [], false, 0, ⟨0, 0, 0⟩⟩ =
      .row [.slice (some ⟨H.next, 0, none⟩) m 0, .slice none 0 0, .bool false, .int .i64 0, .int .u64 0, .int .i64 0, .int .i64 0] 0 := by
    simp [devRow, wval]
  rw [hrow] at hd
  refine wCall_of (fill_call hd (by simpa using hle) _ (fun H' hd' hf' => ?_))
  have e : (Dev.fill ⟨List.replicate m ByteArray.empty, [], false, 0, ⟨0, 0, 0⟩⟩ ⟨#[]⟩) = newDev m := by
    simp only [Dev.fill, newDev, List.length_replicate]; rfl
  rw [e] at hd'
  exact h _ _ _ hd' ((((Fr.refl [] H).push _).push _).trans' hf' (fun j hj => .inr (by
    rw [AH.next_push] at hj
    simp at hj; omega))) (by rw [AH.next_push]; omega) (Nat.le_refl _)
end
end Go.Proofs.Ytnjhcnefgeodcaa
