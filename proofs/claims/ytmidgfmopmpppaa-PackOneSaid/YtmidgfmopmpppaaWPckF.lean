/- The statement: bytes that are read as a count, a number or a text are those that it is written in; a beginning of them is too short. -/
import Derived.Test.YtmidgfmopmpppaaWPckE
import Derived.Test.YtmidgfmopmpppaaWGenO
import Derived.Test.YtmidgfmopmpppaaWAbsR
namespace Go.Proofs.Ytmidgfmopmpppaa
set_option linter.unusedVariables false
set_option linter.unusedSimpArgs false
open Go.RowKit

/-- Three readers. -/
structure Tri (H : AH) (i j k : Nat) (a b c : AObj) : Prop where
  g0 : Has H i a
  g1 : Has H j b
  g2 : Has H k c
  n01 : i ≠ j
  n02 : i ≠ k
  n12 : j ≠ k
theorem Tri.make (H : AH) (a b c : AObj) : Tri (((H.push a).push b).push c) H.next (H.push a).next ((H.push a).push b).next a b c :=
  ⟨((Has.new H a).push b).push c, (Has.new (H.push a) b).push c, Has.new _ c, by simp only [AH.next_push]; omega, by simp only [AH.next_push]; omega, by simp only [AH.next_push]; omega⟩
theorem Tri.ext {H H' : AH} {i j k : Nat} {a b c : AObj} (h : Tri H i j k a b c) (x : Fr [] H H') : Tri H' i j k a b c :=
  ⟨h.g0.fr x (by simp), h.g1.fr x (by simp), h.g2.fr x (by simp), h.n01, h.n02, h.n12⟩
theorem Tri.set0 {H H' : AH} {i j k : Nat} {a b c o : AObj} (h : Tri H i j k a b c) (d : Has H' i o) (x : Fr [i] H H') : Tri H' i j k o b c :=
  ⟨d, h.g1.fr x (by have := h.n01; simp; omega), h.g2.fr x (by have := h.n02; simp; omega), h.n01, h.n02, h.n12⟩
theorem Tri.set1 {H H' : AH} {i j k : Nat} {a b c o : AObj} (h : Tri H i j k a b c) (d : Has H' j o) (x : Fr [j] H H') : Tri H' i j k a o c :=
  ⟨h.g0.fr x (by have := h.n01; simp; omega), d, h.g2.fr x (by have := h.n12; simp; omega), h.n01, h.n02, h.n12⟩
theorem Tri.set2 {H H' : AH} {i j k : Nat} {a b c o : AObj} (h : Tri H i j k a b c) (d : Has H' k o) (x : Fr [k] H H') : Tri H' i j k a b o :=
  ⟨h.g0.fr x (by have := h.n02; simp; omega), h.g1.fr x (by have := h.n12; simp; omega), d, h.n01, h.n02, h.n12⟩

/-- What is left to do behind the three tests. -/
def oneTail (s1 : Int) (s7 : Option Addr) (s10 : ByteArray) (H : AH) (R : AEnd → AH → Prop) : Prop :=
 wCall Try.prog 31 [(.pointer s7)] H (fun r1 H2 =>
 opI .i64 r1 fun n5 =>
 wIf (!decide (n5 = 0))
 (wCall Try.prog 19 [] H2 (fun r6 H7 =>
 opB r6 fun b10 =>
 R (.ret (.bool b10)) H7) (fun v9 H8 => R (.panic v9) H8))
 (wCall Try.prog 24 [(.string s10)] H2 (fun r11 H12 =>
 opS r11 fun t15 =>
 wNz (IntKind.u64.wrap (t15.size : Int))
 (wSlS t15 0 (IntKind.i64.wrap (Int.tmod (IntKind.u64.wrap s1) (IntKind.u64.wrap (t15.size : Int)))) fun t16 =>
 wCall Try.prog 27 [(.string t16)] H12 (fun r17 H18 =>
 opP r17 fun a21 =>
 wCall Try.prog 30 [(.pointer a21), (.int .i64 (t15.size : Int))] H18 (fun r22 H23 =>
 opS r22 fun t26 =>
 wCall Try.prog 19 [] H23 (fun r27 H28 =>
 opB r27 fun b31 =>
 wIf b31
 (wCall Try.prog 31 [(.pointer a21)] H28 (fun r32 H33 =>
 opI .i64 r32 fun n36 =>
 R (.ret (.bool (decide (n36 = 3)))) H33) (fun v35 H34 => R (.panic v35) H34))
 (R (.ret (.bool false)) H28)) (fun v30 H29 => R (.panic v30) H29)) (fun v25 H24 => R (.panic v25) H24)) (fun v20 H19 => R (.panic v20) H19))) (fun v14 H13 => R (.panic v14) H13))) (fun v4 H3 => R (.panic v4) H3)
theorem oneTail_holds (s : ByteArray) (hs : s.size ≤ 20000) (n : Int) {H : AH} {i : Nat} (hd : Has H i (rdr (rdT s 0 s.size).2.1 (rdT s 0 s.size).2.2)) :
    oneTail n (some ⟨i, 0, none⟩) (rdT s 0 s.size).1 H AllTrue := by
  unfold oneTail
  refine wCall_of (bad_call hd (opI_at (wIf_n (fun hC => ?_) (fun hC => ?_))))
  · exact wCall_of (pawake_call (fun H3 _ => opB_at rfl))
  · have htz := rdT_size s s.size
    refine wCall_of (text_call _ (by omega) (fun H3 hx3 => opS_at ?_))
    generalize hw : tb (rdT s 0 s.size).1 = w
    have hwl : 1 ≤ w.size ∧ w.size ≤ 20010 := by
      rw [← hw]
      have e : (tb (rdT s 0 s.size).1).size = (vb (rdT s 0 s.size).1.size).length + (rdT s 0 s.size).1.size := by
        unfold tb; rw [ByteArray.size_append, ofL_size]
      have := vbF_length 9 (rdT s 0 s.size).1.size
      have h3 : (vb (rdT s 0 s.size).1.size).length = (vbF 9 (rdT s 0 s.size).1.size).length := rfl
      omega
    rw [wu _ (by omega)]
    obtain ⟨u, hu⟩ : ∃ u : Nat, IntKind.u64.wrap n = u := ⟨(IntKind.u64.wrap n).toNat, by rw [wrapu64_eq]; omega⟩
    rw [hu]
    have hmod : ((u : Int)).tmod (w.size : Int) = ((u % w.size : Nat) : Int) := rfl
    have hlt2 : u % w.size < w.size := Nat.mod_lt _ (by omega)
    rw [hmod, wi _ (by omega) (by omega)]
    refine wNz_at (by omega) (wSlS_at (by omega) (by omega) (by omega) ?_)
    refine wCall_of (rnew_call _ (opP_at ?_))
    have hsh := text_short (rdT s 0 s.size).1 (u % w.size) (by rw [hw]; exact hlt2) (by omega)
    rw [hw] at hsh
    refine wCall_of (rtext_call (s := w.extract 0 (u % w.size)) (e := 0) w.size (by simp; omega) (by omega) (by omega) (Has.new H3 _) (fun H4 d4 f4 => opS_at ?_))
    rw [hsh.1, hsh.2] at d4
    refine wCall_of (pawake_call (fun H5 f5 => opB_at (wIf_t rfl ?_)))
    exact wCall_of (bad_call (d4.fr f5 (by simp)) (opI_at rfl))

set_option maxRecDepth 20000 in
set_option maxHeartbeats 4000000 in
theorem packOne_law (s : ByteArray) (n : Int) (H : AH) : ACall Try.prog 11 [.string s, .int .i64 n] H AllTrue := by
  apply f11_call
  unfold f11_B
  refine wCall_of (pawake_call (fun H1 _ => opB_at (wIf_f rfl (wIf_d (fun hs => ?_) (fun hs => ?_)))))
  · exact wCall_of (pawake_call (fun H2 _ => opB_at rfl))
  · replace hs : s.size ≤ 20000 := by omega
    refine wCall_of (rnew_call s (opP_at (wCall_of (rnew_call s (opP_at (wCall_of (rnew_call s (opP_at ?_))))))))
    have hT := Tri.make H1 (rdr s 0) (rdr s 0) (rdr s 0)
    generalize ((H1.push (rdr s 0)).push (rdr s 0)).push (rdr s 0) = G at hT ⊢
    generalize ((H1.push (rdr s 0)).push (rdr s 0)).next = i2 at hT ⊢
    generalize (H1.push (rdr s 0)).next = i1 at hT ⊢
    generalize H1.next = i0 at hT ⊢
    refine wCall_of (rcount_call hT.g0 (fun Ga d0 x0 => opI_at ?_))
    replace hT := hT.set0 d0 x0
    refine wCall_of (rnumber_call hT.g1 (fun Gb d1 x1 => opI_at ?_))
    replace hT := hT.set1 d1 x1
    refine wCall_of (rtext_call _ (by omega) (by omega) (by omega) hT.g2 (fun Gc d2 x2 => opS_at ?_))
    replace hT := hT.set2 d2 x2
    clear d0 x0 d1 x1 d2 x2
    refine wCall_of (bad_call hT.g0 (opI_at (wIf_d (fun hA => ?_) (fun hA => ?_))))
    · have hf := rdC_fact s hA
      refine wCall_of (count_call _ (rdC_lt s 0) (fun HA xA => opS_at ?_))
      replace hT := hT.ext xA
      refine wCall_of (left_call hT.g0 (opI_at ?_))
      rw [sub_left hf.2 hs]
      refine wSlS_at (by omega) (by omega) (by omega) ?_
      refine wIf_nf hf.1 ?_
      refine wCall_of (bad_call hT.g1 (opI_at (wIf_d (fun hB => ?_) (fun hB => ?_))))
      · have hf := rdC_fact s hB
        refine wCall_of (number_call _ (uz_range _ (rdC_lt s 0)).1 (uz_range _ (rdC_lt s 0)).2 (fun HB xB => opS_at ?_))
        replace hT := hT.ext xB
        refine wCall_of (left_call hT.g1 (opI_at ?_))
        rw [sub_left hf.2 hs]
        refine wSlS_at (by omega) (by omega) (by omega) ?_
        rw [zz_uz]
        refine wIf_nf hf.1 ?_
        refine wCall_of (bad_call hT.g2 (opI_at (wIf_d (fun hC => ?_) (fun hC => ?_))))
        · have hf := rdT_fact s s.size hC
          refine wCall_of (text_call _ (by have := rdT_size s s.size; omega) (fun HC xC => opS_at ?_))
          replace hT := hT.ext xC
          refine wCall_of (left_call hT.g2 (opI_at ?_))
          rw [sub_left hf.2 hs]
          refine wSlS_at (by omega) (by omega) (by omega) ?_
          rw [f11_J0_eq]
          unfold f11_J0_B
          refine wIf_nf hf.1 ?_
          rw [f11_J1_eq]
          unfold f11_J1_B
          exact oneTail_holds s hs n hT.g2
        · rw [f11_J0_eq]
          unfold f11_J0_B
          refine wIf_f rfl ?_
          rw [f11_J1_eq]
          unfold f11_J1_B
          exact oneTail_holds s hs n hT.g2
      · refine wCall_of (bad_call hT.g2 (opI_at (wIf_d (fun hC => ?_) (fun hC => ?_))))
        · have hf := rdT_fact s s.size hC
          refine wCall_of (text_call _ (by have := rdT_size s s.size; omega) (fun HC xC => opS_at ?_))
          replace hT := hT.ext xC
          refine wCall_of (left_call hT.g2 (opI_at ?_))
          rw [sub_left hf.2 hs]
          refine wSlS_at (by omega) (by omega) (by omega) ?_
          rw [f11_J0_eq]
          unfold f11_J0_B
          refine wIf_nf hf.1 ?_
          rw [f11_J1_eq]
          unfold f11_J1_B
          exact oneTail_holds s hs n hT.g2
        · rw [f11_J0_eq]
          unfold f11_J0_B
          refine wIf_f rfl ?_
          rw [f11_J1_eq]
          unfold f11_J1_B
          exact oneTail_holds s hs n hT.g2
    · refine wCall_of (bad_call hT.g1 (opI_at (wIf_d (fun hB => ?_) (fun hB => ?_))))
      · have hf := rdC_fact s hB
        refine wCall_of (number_call _ (uz_range _ (rdC_lt s 0)).1 (uz_range _ (rdC_lt s 0)).2 (fun HB xB => opS_at ?_))
        replace hT := hT.ext xB
        refine wCall_of (left_call hT.g1 (opI_at ?_))
        rw [sub_left hf.2 hs]
        refine wSlS_at (by omega) (by omega) (by omega) ?_
        rw [zz_uz]
        refine wIf_nf hf.1 ?_
        refine wCall_of (bad_call hT.g2 (opI_at (wIf_d (fun hC => ?_) (fun hC => ?_))))
        · have hf := rdT_fact s s.size hC
          refine wCall_of (text_call _ (by have := rdT_size s s.size; omega) (fun HC xC => opS_at ?_))
          replace hT := hT.ext xC
          refine wCall_of (left_call hT.g2 (opI_at ?_))
          rw [sub_left hf.2 hs]
          refine wSlS_at (by omega) (by omega) (by omega) ?_
          rw [f11_J0_eq]
          unfold f11_J0_B
          refine wIf_nf hf.1 ?_
          rw [f11_J1_eq]
          unfold f11_J1_B
          exact oneTail_holds s hs n hT.g2
        · rw [f11_J0_eq]
          unfold f11_J0_B
          refine wIf_f rfl ?_
          rw [f11_J1_eq]
          unfold f11_J1_B
          exact oneTail_holds s hs n hT.g2
      · refine wCall_of (bad_call hT.g2 (opI_at (wIf_d (fun hC => ?_) (fun hC => ?_))))
        · have hf := rdT_fact s s.size hC
          refine wCall_of (text_call _ (by have := rdT_size s s.size; omega) (fun HC xC => opS_at ?_))
          replace hT := hT.ext xC
          refine wCall_of (left_call hT.g2 (opI_at ?_))
          rw [sub_left hf.2 hs]
          refine wSlS_at (by omega) (by omega) (by omega) ?_
          rw [f11_J0_eq]
          unfold f11_J0_B
          refine wIf_nf hf.1 ?_
          rw [f11_J1_eq]
          unfold f11_J1_B
          exact oneTail_holds s hs n hT.g2
        · rw [f11_J0_eq]
          unfold f11_J0_B
          refine wIf_f rfl ?_
          rw [f11_J1_eq]
          unfold f11_J1_B
          exact oneTail_holds s hs n hT.g2
theorem packOne_walk (a0 : ByteArray) (w0 : a0.size ≤ 140737488351232) (a1 : Int) (w1 : (Lit.int .i64 a1).wf = true) (w : World) :
    Calls Try.prog 11 #[.string a0, .int .i64 a1] w fun e w' => e = .returned (.bool true) ∧ Below w.heap.size w w' :=
  calls_plain w (by rfl) (packOne_law a0 a1 AH0)
end Go.Proofs.Ytmidgfmopmpppaa
