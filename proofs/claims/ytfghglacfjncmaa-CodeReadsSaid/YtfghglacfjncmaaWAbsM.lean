/- The rules of 'make' and 'copy' are right. -/
import Derived.Test.YtfghglacfjncmaaWAbsI
import Derived.Laws.MakeOwn
namespace Go.Proofs.Ytfghglacfjncmaa
set_option linter.unusedVariables false
set_option linter.unusedSimpArgs false
open Go.RowKit

section
variable {P : Program} {B : Nat} {w0 : World} {μ : Mu} {H : AH} {w : World}

theorem repl_length (zc : List Value) (n : Nat) : (repl zc n).length = n * zc.length := by
  unfold repl; rw [List.length_flatten, List.map_replicate, List.sum_replicate_nat]
theorem makeSlice_ok (hr : Rel B w0 μ H w) {t : TypeId} {l c l' c' : Value} (hl : VR μ l l') (hc : VR μ c c') {K : KV} (h : aMakeSlice P t l c H K) : SemOK P B w0 μ w (Instr.makeSlice t l' c') K := by
  unfold aMakeSlice at h
  split at h
  · rename_i e he
    split at h
    · rename_i z hz
      split at h
      · rename_i kl l kc c
        obtain ⟨h1, h2, h3, h4, h5, h6, h7, h8, h9⟩ := h
        cases hl; cases hc
        obtain ⟨i, hi, hz⟩ := Option.bind_eq_some_iff.1 hz
        have hsz : P.cellsOf e = i.size := by simp [Program.cellsOf, hi]
        have hby : P.bytesOf e = i.bytes := by simp [Program.bytesOf, hi]
        have hzl : z.cells.size = i.size := h2.trans hsz
        have hrun := run_make (P := P) w t e i z he hi hz kl kc l c h5 h6 (by rw [← hby]; exact h7) h8
        have hle := Mu.put_le hr.fresh ⟨w.heap.size, 0, c.toNat * i.size, i.size⟩
        have hpos : 0 < i.size := by rw [← hsz]; omega
        have hlc : l.toNat ≤ c.toNat := by omega
        have hmul : l.toNat * i.size ≤ c.toNat * i.size := Nat.mul_le_mul_right _ hlc
        have hvz : VR μ z z := VR.const h1
        refine ⟨_, _, _, _, _, hrun, h9, hle, ?_, ?_⟩
        · refine Rel.push (p := ⟨w.heap.size, 0, c.toNat * i.size, i.size⟩) (w := w) (obj := .cells (madeCells z.cells (c.toNat * i.size)) e) hr rfl rfl rfl rfl rfl ?_
          refine ⟨hsz.symm, hr.size, madeCells z.cells (c.toNat * i.size), e, (0, 0), by show (w.heap.push _)[_]? = _; simp, by simp [madeCells], by rw [repl_length, Array.length_toList, hzl]; exact hmul, fun j hj => by simp, ?_⟩
          intro j v hv
          have hjl : j < l.toNat * i.size := by
            have := (List.getElem?_eq_some_iff.1 hv).1
            rw [repl_length, Array.length_toList, hzl] at this; exact this
          unfold repl at hv
          rw [rep_at _ _ _ (by rw [Array.length_toList, hzl]; exact hjl), Array.length_toList, hzl] at hv
          refine ⟨v, ?_, ?_⟩
          · simp only [Nat.zero_add, madeCells]
            have hj2 : j < c.toNat * i.size := by omega
            have hm : j % i.size < z.cells.size := by rw [hzl]; exact Nat.mod_lt _ hpos
            rw [Array.getElem?_map, Array.getElem?_range]
            simp only [hj2, if_true, Option.map_some, hzl]
            rw [Array.getElem?_toList] at hv
            rw [← hv, Array.getElem?_eq_getElem hm, getElem!_pos z.cells _ hm]
          · obtain ⟨v', g1, g2⟩ := (vr_cells (VR.const (μ := μ.put H.next ⟨w.heap.size, 0, c.toNat * i.size, i.size⟩) h1)).2 _ v hv
            rw [← Array.getElem?_toList, hv] at g1
            cases g1
            exact g2
        · refine .slice (Mu.put_self _ _) ?_ (.inl (by simp))
          simp [capOf, Nat.mul_div_cancel _ hpos]
      · exact h.elim
    · exact h.elim
  · exact h.elim

theorem byteCells_take (s : ByteArray) (n : Nat) (h : n ≤ s.size) : (byteCells s).take n = byteCells (s.extract 0 n) := by
  unfold byteCells
  rw [← List.map_take]
  congr 1
  simp [ByteArray.extract, ByteArray.copySlice, List.extract_eq_take_drop]

theorem copySrc_ok (hr : Rel B w0 μ H w) {esz m : Nat} {y y' : Value} {new : List Value} (hy : VR μ y y') (h : copySrc H esz y = some (m, new)) :
    (Builtin.lenOf y').run P w = .ok m w ∧ new.length = m * esz ∧ ∀ n, n ≤ m → ∃ l : List Value, (Builtin.firstCells esz n y').run P w = .ok l.toArray w ∧ LR μ (new.take (n * esz)) l.toArray := by
  unfold copySrc at h
  split at h
  · rename_i s
    split at h
    · rename_i he
      cases h
      cases hy
      subst he
      refine ⟨by simp [Builtin.lenOf], by rw [byteCells_length]; omega, fun n hn => ⟨byteCells (s.extract 0 n), ?_, ?_⟩⟩
      · simp only [Builtin.firstCells, Sem.run_pure]
        congr 2
        apply Array.ext'
        simp [byteCells]
      · rw [Nat.mul_one, byteCells_take s n hn]
        refine ⟨by simp, fun j v hv => ⟨v, by simpa using hv, ?_⟩⟩
        obtain ⟨_, rfl⟩ := byteCells_at _ j v hv
        exact .int _ _
    · cases h
  · rename_i b n c
    obtain ⟨l, hl, hm⟩ := Option.map_eq_some_iff.1 h
    cases hm
    cases hy with
    | nilslice =>
      simp only [sliceCells] at hl
      cases hl
      exact ⟨by simp [Builtin.lenOf], by simp, fun n hn => ⟨[], by simp [Builtin.firstCells], by simp [LR]⟩⟩
    | slice hp hc ha =>
      rename_i i k p a' cap
      simp only [sliceCells] at hl
      split at hl
      · rename_i cs hcs
        split at hl
        · rename_i hk
          cases hl
          refine ⟨by simp [Builtin.lenOf], by simp; omega, fun n' hn => ?_⟩
          have hmul : n' * esz ≤ m * esz := Nat.mul_le_mul_right _ hn
          rcases ha with rfl | ⟨h0, h00⟩
          · obtain ⟨l, g1, g2, g3⟩ := piece_ok (P := P) (k := k) (n := n' * esz) hr hp hcs (by omega)
            refine ⟨l, by simp only [Builtin.firstCells]; exact g1 w.drawn, ?_⟩
            rw [List.take_take, Nat.min_eq_left hmul]
            exact g3
          · have : n' = 0 := by omega
            subst this
            exact ⟨[], by simp [Builtin.firstCells, loadCells, loadCellsFrom], by simp [LR]⟩
        · cases hl
      · cases hl
  · cases h

theorem copy_ok (hr : Rel B w0 μ H w) {t e ty : TypeId} {types : Array TypeId} (ht0 : types[0]? = some t) (ht : P.underlying t = some (.slice e)) (h1 : tyOK P e = true) {x y x' y' : Value} (hx : VR μ x x') (hy : VR μ y y') {K : KV}
    (h : aCopy (P.cellsOf e) x y H K) : SemOK P B w0 μ w (Builtin.copy_ types ty #[x', y']) K := by
  obtain ⟨ti, _, _, _, _, hsz⟩ := run_info (w := w) h1
  unfold aCopy at h
  split at h
  · exact h.elim
  · rename_i m new hsrc
    obtain ⟨hlen, hnl, hfirst⟩ := copySrc_ok (P := P) hr hy hsrc
    have none_case : ∀ (b : Option Addr) (d cap : Nat), x' = .slice b d cap → min m d = 0 → K (.int .i64 0) H → SemOK P B w0 μ w (Builtin.copy_ types ty #[x', y']) K := by
      intro b d cap hxe hmin hK
      obtain ⟨l, g1, g2⟩ := hfirst 0 (Nat.zero_le _)
      have hl0 : l = [] := by have := g2.1; simp at this; exact List.length_eq_zero_iff.1 this.symm
      subst hl0
      refine ⟨.int .i64 0, .int .i64 0, H, μ, w, ?_, hK, Mu.le_refl _, hr, .int _ _⟩
      have hmin' : Nat.min m d = 0 := hmin
      subst hxe
      simp only [Builtin.copy_, ht0, List.getElem?_toArray, List.getElem?_cons_zero, List.getElem?_cons_succ, Sem.run_bind, run_und ht, Result.andThen_ok, hlen, hsz, hmin', g1]
      cases b <;> simp [storeCells, goInt]
    split at h
    · cases hx
      exact none_case none 0 0 rfl (by simp) h
    · rename_i i k d c0
      cases hx with
      | slice hp hc ha =>
        rename_i p a' cap
        split at h
        · rename_i hmin
          exact none_case _ d cap rfl hmin h
        · rename_i n hmin
          split at h
          · rename_i cs es hg
            obtain ⟨h2, h3, h4⟩ := h
            have hd : 0 < d := by omega
            rcases ha with rfl | ⟨h0, _⟩
            · obtain ⟨q, hq, hE, hB, cc, tyy, fz, g1, g2, g3, g4, g5⟩ := hr.obj i _ hg
              rw [hp] at hq; cases hq
              obtain ⟨l, k1, k2⟩ := hfirst (n + 1) (by omega)
              have hle : ((n + 1) * P.cellsOf e) ≤ new.length := by rw [hnl]; exact Nat.mul_le_mul_right _ (by omega)
              have htl : (new.take ((n + 1) * P.cellsOf e)).length = (n + 1) * P.cellsOf e := by rw [List.length_take]; omega
              obtain ⟨w', c', s1, s2, s3, s4, s5, s6, s7, s8, s9, s10, s11⟩ := storeCells_ok (P := P) (μ := μ) ⟨p.block, p.off + k, none⟩ rfl (new.take ((n + 1) * P.cellsOf e)) l 0 k cs cc w k2 h3 g1 (by simp) g2 (by rw [htl]; omega) g3 g4 g5
              refine ⟨_, .int .i64 ((n + 1 : Nat) : Int), _, μ, w', ?_, h4, Mu.le_refl _, hr.set hp hg rfl rfl s2 s3 s4 s5 s6 (by unfold World.shape?; rw [g1, s7]; simp [s8]) ⟨hE, hB, c', tyy, fz, s7, by omega, by rw [setCells_length]; exact g3, g4, s9⟩, .int _ _⟩
              have hmin' : Nat.min m d = n + 1 := hmin
              simp only [Builtin.copy_, ht0, List.getElem?_toArray, List.getElem?_cons_zero, List.getElem?_cons_succ, Sem.run_bind, run_und ht, Result.andThen_ok, hlen, hsz, hmin', k1, s1]
              simp [goInt]
            · omega
          · exact h.elim
    · exact h.elim
end
end Go.Proofs.Ytfghglacfjncmaa
