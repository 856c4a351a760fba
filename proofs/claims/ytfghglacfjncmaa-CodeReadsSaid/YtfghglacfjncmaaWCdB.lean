/- strings.Builder inside a writer: what copyCheck and String do in the machine. strings.Builder inside a writer: its contracts in the abstract memory. The writer: what it puts. Values: what may be; names. -/
import Derived.Test.YtfghglacfjncmaaWAbsS
import Derived.Test.YtfghglacfjncmaaWGenA
import Derived.Shelf.RegionOpenPlain
import Derived.Lib.Strings
import Derived.Lib.Slices
import Derived.Lib.Walk
import Derived.Lib.Builder
import Derived.Lib.AppendStr
import Derived.Lib.UnsafeStr
import Derived.Lib.MakeNoZero
import Derived.WalkKit
import Derived.Laws.Externs
import Derived.Laws.IdiomCopy
import Derived.Laws.BitsLemmas
import Derived.Test.YtfghglacfjncmaaWCdA
import Derived.Laws.RangeAny
/-! strings.Builder inside a writer: what copyCheck and String do in the machine. -/
namespace Go.Proofs.Ytfghglacfjncmaa
set_option linter.unusedVariables false
set_option linter.unusedSimpArgs false
open Go.RowKit

set_option maxHeartbeats 1000000 in
set_option maxRecDepth 100000 in
theorem cc_used (A : Addr) (w : World) (h0 : w.cell? A = some (.pointer (some A))) (hA : A.spot = none) :
    Calls Try.prog 129 #[.pointer (some A)] w fun e w' => e = .returned (.tuple #[]) ∧ w' = w := by
  have mixed : Try.prog.follows .mixedOrders = true := by kernel_rfl
  obtain ⟨b, k, sp⟩ := A
  simp only at hA
  subst hA
  have t161 := Try.underlying161; have a161 := Try.isAgg161; have z161 := Try.sizeOf161; have v161 := Try.zeroValue161; have u161 := run_underlying (w := w) Try.underlying161
  have t159 := Try.underlying159; have a159 := Try.isAgg159; have z159 := Try.sizeOf159; have v159 := Try.zeroValue159; have u159 := run_underlying (w := w) Try.underlying159
  have t4 := Try.underlying4; have a4 := Try.isAgg4; have z4 := Try.sizeOf4; have v4 := Try.zeroValue4; have u4 := run_underlying (w := w) Try.underlying4
  have t9 := Try.underlying9; have a9 := Try.isAgg9; have z9 := Try.sizeOf9; have v9 := Try.zeroValue9; have u9 := run_underlying (w := w) Try.underlying9
  have t188 := Try.underlying188; have a188 := Try.isAgg188; have z188 := Try.sizeOf188; have v188 := Try.zeroValue188; have u188 := run_underlying (w := w) Try.underlying188
  go_enter Try.func129, (show Try.f129.ntmps = 20 from rfl)
  go_wp2
  rw [Lib.run_neq_ptr_same w _ Try.underlying159 (j := Try.t161) (by kernel_rfl)]
  go_wp2
  go_end0
  exact ⟨rfl, rfl⟩
theorem lies_writer (c : Nat) : liesAt Try.prog Try.prog.depth 163 (c + 1) 0 161 1 = true := by kernel_rfl
set_option maxHeartbeats 1000000 in
set_option maxRecDepth 100000 in
theorem cc_fresh (b n : Nat) (w : World) (h0 : w.cell? ⟨b, 0, none⟩ = some (.pointer none)) (hsh : w.shape? b = some (163, n)) (hn : 2 ≤ n) (hfz : w.frozen? ⟨b, 0, none⟩ = false) :
    Calls Try.prog 129 #[.pointer (some ⟨b, 0, none⟩)] w fun e w' => e = .returned (.tuple #[]) ∧ w' = w.setCell ⟨b, 0, none⟩ (.pointer (some ⟨b, 0, none⟩)) := by
  have mixed : Try.prog.follows .mixedOrders = true := by kernel_rfl
  have hj : Try.prog.info? 161 = some Try.t161 := by kernel_rfl
  have hlies : liesAt Try.prog Try.prog.depth 163 (n / Try.prog.cellsOf 163) 0 161 1 = true := by
    have e : Try.prog.cellsOf 163 = 2 := by kernel_rfl
    rw [e]
    obtain ⟨c, hc⟩ : ∃ c, n / 2 = c + 1 := ⟨n / 2 - 1, by omega⟩
    rw [hc]
    exact lies_writer c
  have t161 := Try.underlying161; have a161 := Try.isAgg161; have z161 := Try.sizeOf161; have v161 := Try.zeroValue161; have u161 := run_underlying (w := w) Try.underlying161
  have t159 := Try.underlying159; have a159 := Try.isAgg159; have z159 := Try.sizeOf159; have v159 := Try.zeroValue159; have u159 := run_underlying (w := w) Try.underlying159
  have t4 := Try.underlying4; have a4 := Try.isAgg4; have z4 := Try.sizeOf4; have v4 := Try.zeroValue4; have u4 := run_underlying (w := w) Try.underlying4
  have t9 := Try.underlying9; have a9 := Try.isAgg9; have z9 := Try.sizeOf9; have v9 := Try.zeroValue9; have u9 := run_underlying (w := w) Try.underlying9
  have t188 := Try.underlying188; have a188 := Try.isAgg188; have z188 := Try.sizeOf188; have v188 := Try.zeroValue188; have u188 := run_underlying (w := w) Try.underlying188
  go_enter Try.func129, (show Try.f129.ntmps = 20 from rfl)
  go_wp2
  rw [Lib.run_to_unsafe w ⟨b, 0, none⟩ Try.underlying159 Try.underlying188 hj (by decide) hsh (by show 0 < n; omega)]
  simp only [Result.andThen]
  rw [Oper.upon_value]
  go_wp2
  rw [run_callFunc_extern Try.func138 (by kernel_rfl) (by kernel_rfl) (by kernel_rfl) (e := Extern.AbiNoEscape.same) (by kernel_rfl)]
  rw [Lib.run_noEscape]
  simp only [Result.andThen]
  rw [Oper.upon_value]
  go_wp2
  rw [Lib.run_from_unsafe w ⟨b, 0, none⟩ Try.underlying188 Try.underlying159 hj hsh hlies]
  simp only [Result.andThen]
  rw [Oper.upon_value]
  go_wp2
  go_end0
  exact ⟨rfl, rfl⟩

set_option maxHeartbeats 2000000 in
set_option maxRecDepth 100000 in
/-- String: the bytes of the buffer, of which the row is not to be written any more. -/
theorem bs_some (A : Addr) (g cap n : Nat) (l : List UInt8) (w : World) (hA : A.spot = none) (h1 : w.cell? ⟨A.block, A.off + 1, none⟩ = some (.slice (some ⟨g, 0, none⟩) l.length cap)) (h0 : l ≠ []) (hc : l.length ≤ cap) (hsh : w.shape? g = some (5, n)) (hn : l.length ≤ n)
    (h63 : l.length ≤ 9223372036854775807) (hcells : ∀ (j : Nat) (x : UInt8), l[j]? = some x → w.cell? ⟨g, j, none⟩ = some (.int .u8 x.toNat)) :
    Calls Try.prog 91 #[.pointer (some A)] w fun e w' => e = .returned (.string ⟨l.toArray⟩) ∧ w' = w.drew.freeze ⟨g, 0, none⟩ l.length := by
  have hl0 : l.length ≠ 0 := by simpa using h0
  obtain ⟨b, k, sp⟩ := A
  simp only at hA h1
  subst hA
  have c1 : w.drew.cell? ⟨b, k + 1, none⟩ = some (.slice (some ⟨g, 0, none⟩) l.length cap) := h1
  have hSD : (Builtin.unsafeSliceData_ #[127] 183 #[.slice (some ⟨g, 0, none⟩) l.length cap]).run Try.prog w.drew = .ok (.pointer (some ⟨g, 0, none⟩)) w.drew :=
    Lib.run_unsafeSliceData_row _ _ _ _ _ _ (by omega)
  have hUS : (Builtin.unsafeString_ #[183, 3] 9 #[.pointer (some ⟨g, 0, none⟩), .int .i64 l.length]).run Try.prog w.drew = .ok (.string ⟨l.toArray⟩) (w.drew.freeze ⟨g, 0, none⟩ l.length) :=
    Lib.run_unsafeString_row w.drew 183 3 9 5 Try.underlying183 (by kernel_rfl) g n hsh l h0 hn h63 (fun j x hx => by rw [add_at _ _ rfl, Nat.zero_add]; exact hcells j x hx)
  have mixed : Try.prog.follows .mixedOrders = true := by kernel_rfl
  have t161 := Try.underlying161; have a161 := Try.isAgg161; have z161 := Try.sizeOf161; have v161 := Try.zeroValue161; have u161 := run_underlying (w := w) Try.underlying161
  have t159 := Try.underlying159; have a159 := Try.isAgg159; have z159 := Try.sizeOf159; have v159 := Try.zeroValue159; have u159 := run_underlying (w := w) Try.underlying159
  have t127 := Try.underlying127; have a127 := Try.isAgg127; have z127 := Try.sizeOf127; have v127 := Try.zeroValue127; have u127 := run_underlying (w := w) Try.underlying127
  have t183 := Try.underlying183; have a183 := Try.isAgg183; have z183 := Try.sizeOf183; have v183 := Try.zeroValue183; have u183 := run_underlying (w := w) Try.underlying183
  have t3 := Try.underlying3; have a3 := Try.isAgg3; have z3 := Try.sizeOf3; have v3 := Try.zeroValue3; have u3 := run_underlying (w := w) Try.underlying3
  have t9 := Try.underlying9; have a9 := Try.isAgg9; have z9 := Try.sizeOf9; have v9 := Try.zeroValue9; have u9 := run_underlying (w := w) Try.underlying9
  have t5 := Try.underlying5; have a5 := Try.isAgg5; have z5 := Try.sizeOf5; have v5 := Try.zeroValue5; have u5 := run_underlying (w := w) Try.underlying5
  go_enter Try.func91, (show Try.f91.ntmps = 14 from rfl)
  go_wp2
  go_region_o
  all_goals (go_wp2; go_ret; exact ⟨rfl, rfl⟩)
end Go.Proofs.Ytfghglacfjncmaa

/-! strings.Builder inside a writer: its contracts in the abstract memory. -/
namespace Go.Proofs.Ytfghglacfjncmaa
set_option linter.unusedVariables false
set_option linter.unusedSimpArgs false
open Go.RowKit

/-- A slice that a function grows: none, or a row of its own. -/
def slV (j n : Nat) : Value := if n = 0 then .slice none 0 0 else .slice (some ⟨j, 0, none⟩) n 0
theorem slV_eq (j n : Nat) : ∃ a, slV j n = .slice a n 0 ∧ (n ≠ 0 → a = some ⟨j, 0, none⟩) ∧ (n = 0 → a = none) := by
  unfold slV
  by_cases h : n = 0
  · subst h; exact ⟨none, rfl, fun x => absurd rfl x, fun _ => rfl⟩
  · rw [if_neg h]; exact ⟨_, rfl, fun _ => rfl, fun x => absurd x h⟩
/-- A writer that holds these bytes. -/
structure BW (H : AH) (i o : Nat) (bs : List UInt8) : Prop where
  own : ∃ a : Option Addr, Has H i (.row [.pointer a, slV o bs.length] 0) ∧ (a = none ∧ H.tys i = some 163 ∨ a = some ⟨i, 0, none⟩)
  buf : bs.length ≠ 0 → Has H o (.row (bcells bs) 1) ∧ o ≠ i ∧ H.tys o = some 5
  olt : o < H.next
  few : bs.length ≤ 70368744177664
theorem BW.lt {H : AH} {i o : Nat} {bs : List UInt8} (h : BW H i o bs) : i < H.next := by obtain ⟨a, h1, _⟩ := h.own; exact h1.lt
theorem BW.fr {S : List Nat} {H H' : AH} {i o : Nat} {bs : List UInt8} (h : BW H i o bs) (x : Fr S H H') (hi : i ∉ S) (ho : bs.length ≠ 0 → o ∉ S) : BW H' i o bs := by
  obtain ⟨a, h1, h2⟩ := h.own
  refine ⟨⟨a, h1.fr x hi, ?_⟩, fun e => ?_, Nat.lt_of_lt_of_le h.olt x.next, h.few⟩
  · rw [x.tys i h1.lt]; exact h2
  · obtain ⟨b1, b2, b3⟩ := h.buf e
    exact ⟨b1.fr x (ho e), b2, by rw [x.tys o b1.lt]; exact b3⟩
theorem BW.fr0 {H H' : AH} {i o : Nat} {bs : List UInt8} (h : BW H i o bs) (x : Fr [] H H') : BW H' i o bs := h.fr x (by simp) (fun _ => by simp)
theorem one_arg {cargs : Array Value} {μ : Mu} {v : Value} (h : LR μ [v] cargs) : ∃ cv, cargs = #[cv] ∧ VR μ v cv := by
  obtain ⟨cv, h0, hv⟩ := h.2 0 v rfl
  refine ⟨cv, ?_, hv⟩
  apply Array.ext (by have := h.1; simpa using this.symm)
  intro i h1 h2
  have : i = 0 := by simp at h2; omega
  subst this
  have := (Array.getElem?_eq_some_iff.1 h0).2; simpa using this
section
variable {B : Nat} {w0 : World} {μ : Mu} {H : AH} {w w' : World}
/-- A world that has changed in a block that nothing is told of. -/
theorem Rel.other (hr : Rel B w0 μ H w) {g : Nat} (hos : w'.os = w.os) (htape : w'.tape = w.tape) (hout : w'.output = w.output) (hsize : w'.heap.size = w.heap.size) (hB : B ≤ g)
    (hheap : ∀ b, b ≠ g → w'.heap[b]? = w.heap[b]?) (hsh : w'.shape? g = w.shape? g) (hg : ∀ j x p, H.get j = some x → μ j = some p → p.block ≠ g) : Rel B w0 μ H w' := by
  refine ⟨hr.below.trans ⟨hos, htape, hout, by rw [hsize]; exact Nat.le_refl _, fun k hk => hheap k (by omega)⟩, by rw [hsize]; exact hr.size, hr.fresh, fun j x hj => ?_, hr.excl, fun i x hx => ?_⟩
  · obtain ⟨p, h1, h2⟩ := hr.obj j x hj
    exact ⟨p, h1, h2.mono (Mu.le_refl _) (hheap _ (hg j x p hj h1))⟩
  · obtain ⟨q, n, h1, h2, h3⟩ := hr.tys i x hx
    refine ⟨q, n, h1, h2, ?_⟩
    by_cases e : q.block = g
    · rw [e] at h3 ⊢; exact hsh.trans h3
    · exact (shape_of (hheap _ e)).trans h3
end
section
variable {H : AH} {i o : Nat} {bs : List UInt8} {R : AEnd → AH → Prop}
theorem cc_call (hb : BW H i o bs) (h : ∀ H', Has H' i (.row [.pointer (some ⟨i, 0, none⟩), slV o bs.length] 0) → Fr [i] H H' → R (.ret (.tuple #[])) H') : ACall Try.prog 129 [.pointer (some ⟨i, 0, none⟩)] H R := by
  intro B w0 μ w cargs hr ha
  obtain ⟨cv, rfl, hv⟩ := one_arg ha
  obtain ⟨a, hh, hc⟩ := hb.own
  cases hv with
  | ptr hp =>
    rename_i p
    obtain ⟨q, hq, hE, hB, c, ty, fz, g1, g2, g3, g4, g5⟩ := hr.obj i _ hh.get
    rw [hp] at hq; cases hq
    have g3' : 2 ≤ p.cap := by simpa using g3
    rcases hc with ⟨rfl, ht⟩ | rfl
    · obtain ⟨q, n, k1, k2, k3⟩ := hr.tys i _ ht
      rw [hp] at k1; cases k1
      obtain ⟨v', f1, f2⟩ := g5 0 (.pointer none) rfl
      cases f2
      have hsz : c.size = n := by unfold World.shape? at k3; rw [g1] at k3; simp at k3; exact k3.2
      have hfz : w.frozen? ⟨p.block, 0, none⟩ = false := by
        have := g4 0 (by omega)
        unfold World.frozen?
        simp only [g1]
        obtain ⟨lo, hi⟩ := fz
        simp only [k2] at this ⊢
        simp at this ⊢
        exact this
      have h0 : w.cell? ⟨p.block, 0, none⟩ = some (.pointer none) := by
        rw [cell_of g1]
        rw [k2] at f1; exact f1
      refine (show Calls Try.prog 129 #[.pointer (some ⟨p.block, p.off + 0, none⟩)] w _ from ?_)
      rw [k2]
      refine (cc_fresh p.block n w h0 k3 (by omega) hfz).mono ?_
      rintro e w' ⟨rfl, rfl⟩
      have hset : (w.setCell ⟨p.block, 0, none⟩ (.pointer (some ⟨p.block, 0, none⟩))).heap[p.block]? = some (.cells (c.setIfInBounds 0 (.pointer (some ⟨p.block, 0, none⟩))) ty fz) := by
        simp [World.setCell, Array.getElem?_modify, g1]
      have hne : ∀ b, b ≠ p.block → (w.setCell ⟨p.block, 0, none⟩ (.pointer (some ⟨p.block, 0, none⟩))).heap[b]? = w.heap[b]? := fun b hb => by
        simp only [World.setCell]
        rw [Array.getElem?_modify, if_neg (fun e => hb e.symm)]
      have hrel : Rel B w0 μ (H.set i (.row [.pointer (some ⟨i, 0, none⟩), slV o bs.length] 0)) (w.setCell ⟨p.block, 0, none⟩ (.pointer (some ⟨p.block, 0, none⟩))) := by
        refine hr.set hp hh.get rfl rfl rfl rfl rfl (by simp [World.setCell]) hne ?_ ⟨hE, hB, _, ty, fz, hset, by simpa using g2, g3, g4, ?_⟩
        · unfold World.shape?; rw [hset, g1]; simp
        · intro j v hj
          match j, hj with
          | 0, hj =>
            simp at hj; subst hj
            have hp' : VR μ (.pointer (some ⟨i, 0, none⟩)) (.pointer (some ⟨p.block, p.off + 0, none⟩)) := .ptr hp
            rw [k2] at hp'
            refine ⟨_, ?_, hp'⟩
            have hc0 : 0 < c.size := by omega
            rw [k2, Array.getElem?_setIfInBounds]; simp [hc0]
          | j + 1, hj =>
            obtain ⟨v', z1, z2⟩ := g5 (j + 1) v hj
            refine ⟨v', ?_, z2⟩
            rw [Array.getElem?_setIfInBounds, if_neg (by omega)]; exact z1
      exact ⟨.ret (.tuple #[]), _, μ, h _ (hh.set _) ((Fr.refl [i] H).set (.inl (by simp)) _), Mu.le_refl _, hrel, VR.const (by simp [constOK])⟩
    · obtain ⟨v', f1, f2⟩ := g5 0 (.pointer (some ⟨i, 0, none⟩)) rfl
      cases f2 with
      | ptr hp2 =>
        rw [hp] at hp2; cases hp2
        refine (cc_used ⟨p.block, p.off + 0, none⟩ w (by rw [cell_of g1]; exact f1) rfl).mono ?_
        rintro e w' ⟨rfl, rfl⟩
        exact ⟨.ret (.tuple #[]), H, μ, h H hh (Fr.refl _ _), Mu.le_refl _, hr, VR.const (by simp [constOK])⟩

theorem bstring_call (hb : BW H i o bs) (hne : bs ≠ []) (hl : bs.length ≤ 9223372036854775807) (h : ∀ H', Fr [o] H H' → R (.ret (.string (ofL bs))) H') : ACall Try.prog 91 [.pointer (some ⟨i, 0, none⟩)] H R := by
  intro B w0 μ w cargs hr ha
  obtain ⟨cv, rfl, hv⟩ := one_arg ha
  obtain ⟨a, hh, hc⟩ := hb.own
  have hn0 : bs.length ≠ 0 := by simpa using hne
  obtain ⟨b1, b2, b3⟩ := hb.buf hn0
  rw [show slV o bs.length = .slice (some ⟨o, 0, none⟩) bs.length 0 from if_neg hn0] at hh
  cases hv with
  | ptr hp =>
    rename_i p
    obtain ⟨q, hq, hE, hB, c, ty, fz, g1, g2, g3, g4, g5⟩ := hr.obj i _ hh.get
    rw [hp] at hq; cases hq
    obtain ⟨v', f1, f2⟩ := g5 1 _ rfl
    obtain ⟨po, hpo, hEo, hBo, co, tyo, fzo, o1, o2, o3, o4, o5⟩ := hr.obj o _ b1.get
    obtain ⟨q, n, k1, k2, k3⟩ := hr.tys o _ b3
    rw [hpo] at k1; cases k1
    rw [bcells_length] at o3
    cases f2 with
    | slice hp2 hcap ha2 =>
      rename_i p2 a2 cap
      rw [hpo] at hp2; cases hp2
      have hcapv : cap = (po.cap - 0) / po.esz := hcap
      rw [hEo, Nat.div_one, Nat.sub_zero] at hcapv
      rcases ha2 with rfl | ⟨h0, _⟩
      · have hsz : co.size = n := by unfold World.shape? at k3; rw [o1] at k3; simp at k3; exact k3.2
        refine (bs_some ⟨p.block, p.off + 0, none⟩ po.block cap n bs w rfl ?_ hne (by omega) k3 (by omega) hl (fun j x hx => ?_)).mono ?_
        · show w.cell? ⟨p.block, p.off + 0 + 1, none⟩ = _
          rw [cell_of g1, Nat.add_zero]
          rw [k2] at f1
          exact f1
        · obtain ⟨v', z1, z2⟩ := o5 j (.int .u8 x.toNat) (by simp [bcells, hx])
          cases z2
          rw [cell_of o1]
          rw [k2, Nat.zero_add] at z1; exact z1
        · rintro e w' ⟨rfl, rfl⟩
          have hfr : (w.drew.freeze ⟨po.block, 0, none⟩ bs.length).heap = w.heap.modify po.block fun
              | .cells c elem (lo, hi) => .cells c elem (if lo == hi then (0, 0 + bs.length) else (min lo 0, max hi (0 + bs.length)))
              | o => o := by
            unfold World.freeze
            rw [if_neg hn0]
            rfl
          have hrel : Rel B w0 μ (H.drop o) (w.drew.freeze ⟨po.block, 0, none⟩ bs.length) := by
            refine Rel.other (g := po.block) ((hr.drop o).drawn (w.drawn + 1)) ?_ ?_ ?_ ?_ hBo ?_ ?_ ?_
            · unfold World.freeze; rw [if_neg hn0]; rfl
            · unfold World.freeze; rw [if_neg hn0]; rfl
            · unfold World.freeze; rw [if_neg hn0]; rfl
            · rw [hfr]; simp
            · intro b hbn
              rw [hfr, Array.getElem?_modify, if_neg (fun e => hbn e.symm)]
            · have e1 : ∃ z, (w.drew.freeze ⟨po.block, 0, none⟩ bs.length).heap[po.block]? = some (.cells co tyo z) := by
                rw [hfr, Array.getElem?_modify, if_pos rfl, o1]
                exact ⟨_, rfl⟩
              obtain ⟨z, e1⟩ := e1
              have o1' : ({ w with drawn := w.drawn + 1 } : World).heap[po.block]? = some (.cells co tyo fzo) := o1
              unfold World.shape?
              rw [e1, o1']
            · intro j x pj hj hpj e
              have hjo : j ≠ o := by
                rintro rfl
                rw [AH.get_drop, if_pos rfl] at hj
                cases hj
              rw [AH.get_drop, if_neg hjo] at hj
              exact hr.excl o j _ _ po pj (fun x => hjo x.symm) b1.get rfl hj hpo hpj e.symm
          refine ⟨.ret (.string (ofL bs)), _, μ, h _ ((Fr.refl [o] H).drop (.inl (by simp))), Mu.le_refl _, hrel, ?_⟩
          exact VR.string _
      · exact absurd h0 hn0
end
end Go.Proofs.Ytfghglacfjncmaa

/-! The writer: what it puts. -/
namespace Go.Proofs.Ytfghglacfjncmaa
set_option linter.unusedVariables false
set_option linter.unusedSimpArgs false
open Go.RowKit
section
variable {H : AH} {i o : Nat} {bs : List UInt8} {R : AEnd → AH → Prop}
/-- The buffer, if there is one. -/
def bufS (bs : List UInt8) (o : Nat) : List Nat := if bs.length = 0 then [] else [o]
theorem bufS_mem {x : Nat} (h : x ∈ bufS bs o) : bs.length ≠ 0 ∧ x = o := by
  unfold bufS at h
  split at h
  · cases h
  · rename_i e; exact ⟨e, List.mem_singleton.1 h⟩
/-- Bytes behind bytes. -/
theorem app_bw {K : Option Addr → Nat → Nat → AH → Prop} (new : List UInt8) {b : Option Addr} (hb : slV o bs.length = .slice b bs.length 0) (hB : bs.length ≠ 0 → Has H o (.row (bcells bs) 1) ∧ H.tys o = some 5) (ho : o < H.next) (hl : bs.length + new.length ≤ 70368744177664)
    (hk : ∀ H' o' b', slV o' (bs ++ new).length = .slice b' (bs.length + new.length) 0 → ((bs ++ new).length ≠ 0 → Has H' o' (.row (bcells (bs ++ new)) 1) ∧ H'.tys o' = some 5) → Fr (bufS bs o) H H' → (o' = o ∧ H' = H ∨ H.next ≤ o') → o' < H'.next → K b' (bs.length + new.length) 0 H') :
    wApp 5 1 1 b bs.length 0 (bcells new) new.length H K := by
  unfold wApp
  refine ⟨by rw [bcells_length]; omega, List.all_eq_true.2 fun x hx => by obtain ⟨y, _, rfl⟩ := List.mem_map.1 hx; rfl, ?_⟩
  by_cases e0 : bs.length = 0
  · have hbs : bs = [] := List.eq_nil_of_length_eq_zero e0
    subst hbs
    obtain rfl : b = none := by simp [slV] at hb; exact hb.symm
    refine ⟨rfl, rfl, ?_⟩
    cases new with
    | nil => exact hk H o none rfl (fun e => absurd rfl e) (Fr.refl _ _) (.inl ⟨rfl, rfl⟩) ho
    | cons x l =>
      simp only [List.length_cons]
      have hx := hk (H.pushT (.row (bcells (x :: l)) 1) (some 5)) H.next (some ⟨H.next, 0, none⟩) (by simp [slV]) (fun _ => ⟨Has.newT _ _ _, by show (if H.next = H.next then some 5 else _) = _; rw [if_pos rfl]⟩) ((Fr.refl _ _).pushT _ _) (.inr (Nat.le_refl _)) (by show H.next < H.next + 1; omega)
      simp only [List.length_nil, List.length_cons, Nat.zero_add] at hx hl
      exact ⟨by omega, by omega, hx⟩
  · obtain ⟨h1, h2⟩ := hB e0
    obtain rfl : b = some ⟨o, 0, none⟩ := by rw [slV, if_neg e0] at hb; cases hb; rfl
    show 0 = 0 ∧ _
    refine ⟨rfl, ?_⟩
    rw [h1.get]
    show (1 = 1 ∧ _)
    refine ⟨rfl, by rw [bcells_length]; omega, by omega, by omega, ?_⟩
    rw [List.drop_zero, bcells_app]
    refine hk _ H.next _ ?_ (fun _ => ⟨Has.newT (H.drop o) _ _, ?_⟩) (((Fr.refl _ _).drop (.inl (by simp [bufS, e0]))).pushT _ _) (.inr (Nat.le_refl _)) (by show H.next < H.next + 1; omega)
    · rw [slV, if_neg (by rw [List.length_append]; omega), List.length_append]
    · show (if H.next = H.next then grownTy 0 (H.tys o) 5 else _) = _
      rw [if_pos rfl, h2]; rfl
/-- What the store behind an append leaves. -/
theorem bw_of {H2 : AH} {o' n : Nat} {b' : Option Addr} {bs' : List UInt8} {v : Value} (h1 : Has H2 i (.row [.pointer (some ⟨i, 0, none⟩), v] 0))
    (hs : slV o' bs'.length = .slice b' n 0) (hB : bs'.length ≠ 0 → Has H2 o' (.row (bcells bs') 1) ∧ H2.tys o' = some 5) (hne : bs'.length ≠ 0 → o' ≠ i) (hlt : o' < H2.next) (hfew : bs'.length ≤ 70368744177664) :
    BW (H2.set i (.row [.pointer (some ⟨i, 0, none⟩), .slice b' n 0] 0)) i o' bs' := by
  refine ⟨⟨some ⟨i, 0, none⟩, ?_, .inr rfl⟩, fun e => ?_, hlt, hfew⟩
  · rw [hs]; exact h1.set _
  · exact ⟨(hB e).1.setne (hne e) _, hne e, (hB e).2⟩
/-- Bytes are put behind those of a builder: what copyCheck, append and the store come to. -/
theorem bw_app (hb : BW H i o bs) (new : List UInt8) (hl : bs.length + new.length ≤ 70368744177664) {H1 : AH} (h1 : Has H1 i (.row [.pointer (some ⟨i, 0, none⟩), slV o bs.length] 0)) (f1 : Fr [i] H H1) {b : Option Addr} (hbv : slV o bs.length = .slice b bs.length 0)
    {K : Option Addr → Nat → Nat → AH → Prop} {H1' : AH} (f1' : Fr [] H1 H1')
    (hk : ∀ H2 o' b', Has H2 i (.row [.pointer (some ⟨i, 0, none⟩), slV o bs.length] 0) → BW (H2.set i (.row [.pointer (some ⟨i, 0, none⟩), .slice b' (bs.length + new.length) 0] 0)) i o' (bs ++ new) → Fr [i, o] H (H2.set i (.row [.pointer (some ⟨i, 0, none⟩), .slice b' (bs.length + new.length) 0] 0)) → (o' = o ∨ H.next ≤ o') → K b' (bs.length + new.length) 0 H2) :
    wApp 5 1 1 b bs.length 0 (bcells new) new.length H1' K := by
  have hB : bs.length ≠ 0 → Has H1' o (.row (bcells bs) 1) ∧ H1'.tys o = some 5 := fun e => by
    obtain ⟨c1, c2, c3⟩ := hb.buf e
    have d1 := c1.fr f1 (by simpa using c2)
    exact ⟨d1.fr f1' (by simp), by rw [f1'.tys o d1.lt, f1.tys o c1.lt]; exact c3⟩
  have nx := f1.next
  have nx' := f1'.next
  have holt := hb.olt
  have hilt := hb.lt
  refine app_bw new hbv hB (by omega) hl (fun H2 o' b' c1 c2 c3 c4 c5 => ?_)
  have hi2 : Has H2 i (.row [.pointer (some ⟨i, 0, none⟩), slV o bs.length] 0) := (h1.fr f1' (by simp)).fr c3 (fun m => by
    obtain ⟨e, e2⟩ := bufS_mem m
    exact (hb.buf e).2.1 e2.symm)
  have hfr : Fr [i, o] H H2 := (((f1.mono (by simp)).trans (f1'.mono (by simp))).trans (c3.mono (fun x m => by rw [(bufS_mem m).2]; simp)))
  refine hk H2 o' b' hi2 (bw_of hi2 c1 c2 (fun e => ?_) c5 (by rw [List.length_append]; exact hl)) (hfr.set (.inl (by simp)) _) (by rcases c4 with ⟨e, _⟩ | e <;> omega)
  rcases c4 with ⟨rfl, e2⟩ | hge
  · by_cases e0 : bs.length = 0
    · subst e2
      have := (c2 e).1.get
      rintro rfl
      rw [hi2.get] at this
      have := Option.some.inj this
      injection this with z1 z2
      cases z2
    · exact (hb.buf e0).2.1
  · omega
theorem wstr_call (hb : BW H i o bs) (s : ByteArray) (hl : bs.length + s.size ≤ 70368744177664)
    (h : ∀ H' o', BW H' i o' (bs ++ s.data.toList) → Fr [i, o] H H' → (o' = o ∨ H.next ≤ o') → R (.ret (.tuple #[.int .i64 (s.size : Int), .nilIface])) H') : ACall Try.prog 96 [.pointer (some ⟨i, 0, none⟩), .string s] H R := by
  apply f96_call
  unfold f96_B
  refine wCall_of (cc_call hb (fun H1 h1 f1 => wPt_at ?_))
  obtain ⟨b, hbv, b1, b2⟩ := slV_eq o bs.length
  have h1' := h1
  rw [hbv] at h1'
  refine ldL_at h1' rfl ?_
  unfold wAppS
  have hs := data_len s
  rw [byteCells_eq, show wApp 5 1 1 b bs.length 0 (bcells s.data.toList) s.size = wApp 5 1 1 b bs.length 0 (bcells s.data.toList) s.data.toList.length by rw [hs]]
  refine bw_app hb s.data.toList (by omega) h1 f1 hbv (Fr.refl _ _) (fun H2 o' b' hi2 hw hf ho => wPt_at (wSt_at hi2 (by simp) ?_))
  exact h _ o' hw hf ho
theorem wbyte_call (hb : BW H i o bs) (x : Int) (hx : 0 ≤ x ∧ x < 256) (hl : bs.length < 70368744177664)
    (h : ∀ H' o', BW H' i o' (bs ++ [UInt8.ofNat x.toNat]) → Fr [i, o] H H' → (o' = o ∨ H.next ≤ o') → R (.ret .nilIface) H') : ACall Try.prog 94 [.pointer (some ⟨i, 0, none⟩), .int .u8 x] H R := by
  apply f94_call
  unfold f94_B
  refine wCall_of (cc_call hb (fun H1 h1 f1 => wPt_at ?_))
  obtain ⟨b, hbv, b1, b2⟩ := slV_eq o bs.length
  have h1' := h1
  rw [hbv] at h1'
  refine ldL_at h1' rfl (wBs_at ?_)
  have hq := Has.new H1 (.row [.int .u8 x] 1)
  have hsc := sliceCells_new (H1.push (.row [.int .u8 x] 1)) [.int .u8 x] 1 1 0 rfl hq
  unfold wAppL
  rw [hsc]
  have e : [Value.int .u8 x] = bcells [UInt8.ofNat x.toNat] := by
    simp only [bcells, List.map_cons, List.map_nil]
    congr 2
    simp
    omega
  rw [e]
  refine bw_app hb [UInt8.ofNat x.toNat] (by simp; omega) h1 f1 hbv ((Fr.refl [] H1).push _) (fun H2 o' b' hi2 hw hf ho => wPt_at (wSt_at hi2 (by simp) ?_))
  exact h _ o' hw hf ho
end
end Go.Proofs.Ytfghglacfjncmaa

/-! Values: what may be; names. -/
namespace Go.Proofs.Ytfghglacfjncmaa
set_option linter.unusedVariables false
set_option linter.unusedSimpArgs false
open Go.RowKit

structure Val where
  kind : Int
  num : Int
  text : ByteArray
  list : List Int
def okC (k : Nat) (c : Int) : Prop := (97 ≤ c ∧ c ≤ 122 ∨ 65 ≤ c ∧ c ≤ 90) ∨ (k ≠ 0 ∧ (c = 95 ∨ 48 ≤ c ∧ c ≤ 57))
instance (k : Nat) (c : Int) : Decidable (okC k c) := by unfold okC; infer_instance
def byteAt (s : ByteArray) (k : Nat) : Nat := (s.data.toList.getD k 0).toNat
def isName (s : ByteArray) : Prop := s.size ≠ 0 ∧ s.size ≤ 24 ∧ ∀ k, k < s.size → okC k (byteAt s k)
instance (s : ByteArray) : Decidable (isName s) := by unfold isName; infer_instance
theorem byteAt_eq (s : ByteArray) (k : Nat) (h : k < s.size) : byteAt s k = (s[k]'h).toNat := by
  unfold byteAt
  have hl : s.data.toList.length = s.size := data_len s
  rw [List.getD_eq_getElem?_getD, List.getElem?_eq_getElem (by omega)]
  rfl
theorem byteAt_lt (s : ByteArray) (k : Nat) : byteAt s k < 256 := UInt8.toNat_lt _
/-- The character at a place: the byte, or one above all letters. -/
theorem decode_as (s : ByteArray) (k : Nat) (h : k < s.size) : ((Utf8.decode s k) = (byteAt s k, 1)) ∨ (128 ≤ byteAt s k ∧ 128 ≤ (Utf8.decode s k).1) := by
  rw [byteAt_eq s k h]
  by_cases ha : (s[k]'h).toNat < 128
  · exact .inl (decode_ascii s k h ha)
  · exact .inr ⟨by omega, (decode_high s k h (by omega)).1⟩
section
variable {H : AH} {R : AEnd → AH → Prop}
theorem wNx_at {i pos : Nat} {s : ByteArray} {K1 : Int → Int → AH → Prop} {K2 : Prop} (h : Has H i (.siter s pos)) (h1 : pos < s.size → K1 pos (Utf8.decode s pos).1 (H.set i (.siter s (pos + (Utf8.decode s pos).2)))) (h2 : ¬ pos < s.size → K2) : wNx (some ⟨i, 0, none⟩) H K1 K2 := by
  show (match H.get i with | some (.siter s pos) => _ | _ => False)
  rw [h.get]
  exact ⟨h1, h2⟩
set_option maxRecDepth 20000 in
theorem name_call (s : ByteArray) (h : ∀ H', Fr [] H H' → R (.ret (.bool (decide (isName s)))) H') : ACall Try.prog 128 [.string s] H R := by
  apply f128_call
  unfold f128_B
  have hno : ¬ isName s → ∀ H', Fr [] H H' → R (.ret (.bool false)) H' := fun e H' f => by
    have := h H' f
    rwa [decide_eq_false e] at this
  refine wIf_d (fun e => ?_) (fun e => ?_)
  · rw [f128_J0_eq]
    unfold f128_J0_B
    refine wIf_t rfl (hno (fun x => ?_) H (Fr.refl _ _))
    exact x.1 (by rw [e]; rfl)
  · have hne : s.size ≠ 0 := fun x => e (by
      apply ByteArray.ext
      exact Array.eq_empty_of_size_eq_zero x)
    rw [f128_J0_eq]
    unfold f128_J0_B
    refine wIf_d (fun e2 => hno (fun x => by have := x.2.1; omega) H (Fr.refl _ _)) (fun e2 => ?_)
    rw [f128_J1_eq]
    unfold f128_J1_B
    show f128_L0 _ _ (H.push (.siter s 0))
    refine f128_L0_rule (J := fun m H' => ∃ pos : Nat, pos ≤ s.size ∧ m = s.size - pos ∧ Has H' H.next (.siter s pos) ∧ Fr [] H H' ∧ ∀ k, k < pos → okC k (byteAt s k)) s.size
      ⟨0, Nat.zero_le _, rfl, Has.new _ _, (Fr.refl [] H).push _, fun k hk => by omega⟩ ?_
    rintro m H1 ⟨pos, hp, rfl, hi, hf, hall⟩
    intros
    unfold f128_R0
    refine wNx_at hi (fun hlt => ?_) (fun hge => ?_)
    · have hnx := hf.next
      have f2 : Fr [] H (H1.set H.next (.siter s (pos + (Utf8.decode s pos).2))) := hf.set (.inr (Nat.le_refl _)) _
      have hi2 := hi.set (.siter s (pos + (Utf8.decode s pos).2))
      have hbad : ¬ okC pos (byteAt s pos) → R (.ret (.bool false)) (H1.set H.next (.siter s (pos + (Utf8.decode s pos).2))) := fun x => hno (fun y => x (y.2.2 pos hlt)) _ f2
      have hgood : okC pos (byteAt s pos) → (Utf8.decode s pos).2 = 1 → ∃ pos', pos' ≤ s.size ∧ s.size - (pos + 1) = s.size - pos' ∧ Has (H1.set H.next (.siter s (pos + (Utf8.decode s pos).2))) H.next (.siter s pos') ∧ Fr [] H (H1.set H.next (.siter s (pos + (Utf8.decode s pos).2))) ∧ ∀ k, k < pos' → okC k (byteAt s k) := fun x y => by
        rw [y] at f2 hi2 ⊢
        refine ⟨pos + 1, hlt, rfl, hi2, f2, fun k hk => ?_⟩
        by_cases e3 : k = pos
        · rw [e3]; exact x
        · exact hall k (by omega)
      have hcase := decode_as s pos hlt
      generalize H1.set H.next (.siter s (pos + (Utf8.decode s pos).2)) = H2 at hbad hgood ⊢
      have hlt256 := byteAt_lt s pos
      generalize byteAt s pos = bb at hbad hgood hcase hlt256
      generalize hc : (((Utf8.decode s pos).1 : Nat) : Int) = c
      have hc' : (c = bb ∧ (Utf8.decode s pos).2 = 1) ∨ (128 ≤ bb ∧ 128 ≤ c) := by
        rcases hcase with e | ⟨e1, e2⟩
        · left; rw [e] at hc ⊢; exact ⟨hc.symm, rfl⟩
        · right; omega
      repeat' (first
        | (with_reducible refine wIf_d (fun _ => ?_) (fun _ => ?_))
        | (with_reducible refine wIf_n (fun _ => ?_) (fun _ => ?_))
        | (with_reducible refine wIf_f (b := false) rfl ?_)
        | (with_reducible refine wIf_t (b := true) rfl ?_)
        | (with_reducible refine wIf_f (b := !true) rfl ?_)
        | (with_reducible refine wIf_t (b := !false) rfl ?_)
        | (rw [f128_J2_eq]; unfold f128_J2_B)
        | (rw [f128_J3_eq]; unfold f128_J3_B))
      all_goals first
        | exact hbad (fun x => by unfold okC at x; omega)
        | (exfalso; omega)
        | (obtain ⟨rfl, h1⟩ : c = bb ∧ (Utf8.decode s pos).2 = 1 := by omega
           exact ⟨s.size - (pos + 1), by omega, f128_I0_mk (hgood (by unfold okC; omega) h1)⟩)
    · have hps : pos = s.size := by omega
      subst hps
      have := h H1 hf
      rwa [decide_eq_true (show isName s from ⟨hne, by omega, hall⟩)] at this

def rightV (v : Val) : Bool :=
  if v.kind = 0 then (if v.num = 0 then (if v.text = ⟨#[]⟩ then decide ((v.list.length : Int) = 0) else false) else false)
  else if v.kind = 1 then (if v.text = ⟨#[]⟩ then decide ((v.list.length : Int) = 0) else false)
  else if v.kind = 2 then (if v.num = 0 then (if v.text = ⟨#[]⟩ then decide ((v.list.length : Int) = 0) else false) else if v.num = 1 then (if v.text = ⟨#[]⟩ then decide ((v.list.length : Int) = 0) else false) else false)
  else if v.kind = 3 then (if v.num = 0 then (if (v.text.size : Int) ≤ 64 then decide ((v.list.length : Int) = 0) else false) else false)
  else if v.kind = 4 then (if v.num = 0 then (if isName v.text then decide ((v.list.length : Int) = 0) else false) else false)
  else if v.kind = 5 then (if v.num = 0 then (if v.text = ⟨#[]⟩ then decide ((v.list.length : Int) ≤ 16) else false) else false)
  else false
set_option maxRecDepth 20000 in
theorem right_call (v : Val) (b : Option Addr) (c : Nat) (h : ∀ H', Fr [] H H' → R (.ret (.bool (rightV v))) H') :
    ACall Try.prog 93 [.agg #[.int .i64 v.kind, .int .i64 v.num, .string v.text, .slice b v.list.length c]] H R := by
  apply f93_call
  unfold f93_B
  refine wNew_at ?_
  have hq := Has.new H (.row [.int .i64 v.kind, .int .i64 v.num, .string v.text, .slice b v.list.length c] 0)
  have hf : Fr [] H (H.push (.row [.int .i64 v.kind, .int .i64 v.num, .string v.text, .slice b v.list.length c] 0)) := (Fr.refl [] H).push _
  generalize H.push (.row [.int .i64 v.kind, .int .i64 v.num, .string v.text, .slice b v.list.length c] 0) = H1 at hq hf ⊢
  generalize H.next = q at hq ⊢
  unfold rightV at h
  repeat' (first
    | exact h _ hf
    | (with_reducible refine ldI_at hq rfl ?_)
    | (with_reducible refine ldS_at hq rfl ?_)
    | (with_reducible refine ldL_at hq rfl ?_)
    | ((with_reducible refine wIf_d (fun e => ?_) (fun e => ?_)) <;> first | rw [if_pos e] at h | rw [if_neg e] at h)
    | exact wCall_of (name_call v.text (fun H2 f2 => opB_at (wIf_b (fun e => by rw [if_pos (of_decide_eq_true e)] at h; exact ldL_at (hq.fr f2 (by simp)) rfl (h _ (hf.trans f2))) (fun e => by rw [if_neg (of_decide_eq_false e)] at h; exact h _ (hf.trans f2))))))
end
end Go.Proofs.Ytfghglacfjncmaa
