/- A device with a fuse beside one without: the plain law. -/
import Derived.Test.YtnjhcnefgeodcaaWBlkE
namespace Go.Proofs.Ytnjhcnefgeodcaa
set_option linter.unusedVariables false
set_option linter.unusedSimpArgs false
open Go.RowKit

theorem Dev.lost_len (d : Dev) (c : Cr) (h : d.OK) : (d.lost c).lasts.length = d.lasts.length :=
  (loseN_ok (c := c) h.lasts (fun w hw => (h.waits w hw).2) d.waits.length (Nat.le_refl _)).1
theorem Dev.blow_len (d : Dev) (h : d.OK) : d.blow.2.lasts.length = d.lasts.length := by
  unfold Dev.blow
  split
  · rfl
  · split
    · rfl
    · exact d.lost_len _ h
theorem Dev.flush_len (d : Dev) (h : d.OK) : d.flush.2.lasts.length = d.lasts.length := by
  unfold Dev.flush
  split
  · rfl
  · split
    · exact d.blow_len h
    · exact (flushN_ok h.lasts (fun w hw => (h.waits w hw).2) d.waits.length (Nat.le_refl _)).1
theorem Dev.write_len (d : Dev) (h : d.OK) (hm : d.waits.length < 1099511627775) (k : Int) (s : ByteArray) : (d.write k s).2.lasts.length = d.lasts.length := by
  unfold Dev.write
  split
  · rfl
  · split
    · rfl
    · rename_i hk
      have h1 : ¬ k < 0 := fun e => hk (.inl e)
      have h2 : ¬ (d.lasts.length : Int) ≤ k := fun e => hk (.inr (.inl e))
      have h3 : s.size = 64 := Decidable.byContradiction fun e => hk (.inr (.inr e))
      refine Dev.blow_len _ ⟨h.lasts, fun w hw => ?_, h.few, by simp; omega, h.left⟩
      rcases List.mem_append.1 hw with hw | hw
      · exact h.waits w hw
      · rw [List.mem_singleton] at hw
        subst hw
        exact ⟨by show k.toNat < d.lasts.length; omega, h3⟩

/-- The two of them behind so many calls that were answered OK. -/
structure Fused (n done : Nat) (d f : Dev) : Prop where
  off : d.off = false
  left : d.left = 0
  dok : d.OK
  fok : f.OK
  dl : d.lasts.length = 4
  fl : f.lasts.length = 4
  same : done < n → f.off = false ∧ f.lasts = d.lasts ∧ f.waits = d.waits ∧ f.left = ((n - done : Nat) : Int)
  gone : n ≤ done → f.off = true
/-- What a step asks. -/
structure FStep (n done : Nat) (x y : Int) (d f : Dev) : Prop where
  inv : Fused n done d f
  same : done < n → x = y ∧ d.waits.length = f.waits.length
  gone : n ≤ done → y = 10
theorem Fused.offs {n done : Nat} {d f : Dev} (h : Fused n done d f) : f.off = decide (n ≤ done) := by
  by_cases e : n ≤ done
  · rw [h.gone e]; simp [e]
  · rw [(h.same (by omega)).1]; simp [e]

theorem blow_zero {d : Dev} (h : d.left = 0) : d.blow = (false, d) := by unfold Dev.blow; rw [if_pos h]
theorem blow_more {d : Dev} (h : 1 < d.left) : d.blow = (false, { d with left := d.left - 1 }) := by unfold Dev.blow; rw [if_neg (by omega), if_pos (by omega)]
theorem blow_one {d : Dev} (h : d.left = 1) : d.blow = (true, { d.lost d.crash with off := true, left := d.left - 1 }) := by unfold Dev.blow; rw [if_neg (by omega), if_neg (by omega)]

theorem flush_off {d : Dev} (h : d.off = true) : d.flush = (10, d) := by unfold Dev.flush; rw [if_pos h]
theorem flush_zero {d : Dev} (h : d.off = false) (hl : d.left = 0) : d.flush = (0, { d with lasts := flushN d.waits d.waits.length d.lasts, waits := [] }) := by
  unfold Dev.flush; rw [if_neg (by rw [h]; simp), blow_zero hl, if_neg (by simp)]
theorem flush_more {d : Dev} (h : d.off = false) (hl : 1 < d.left) : d.flush = (0, { d with lasts := flushN d.waits d.waits.length d.lasts, waits := [], left := d.left - 1 }) := by
  unfold Dev.flush; rw [if_neg (by rw [h]; simp), blow_more hl, if_neg (by simp)]
theorem flush_one {d : Dev} (h : d.off = false) (hl : d.left = 1) : d.flush = (10, { d.lost d.crash with off := true, left := d.left - 1 }) := by
  unfold Dev.flush; rw [if_neg (by rw [h]; simp), blow_one hl, if_pos rfl]
abbrev BadW (d : Dev) (k : Int) (s : ByteArray) : Prop := k < 0 ∨ (d.lasts.length : Int) ≤ k ∨ s.size ≠ 64
abbrev Dev.more (d : Dev) (k : Int) (s : ByteArray) : Dev := { d with waits := d.waits ++ [(k.toNat, s)] }
theorem write_off {d : Dev} {k : Int} {s : ByteArray} (h : d.off = true) : d.write k s = (10, d) := by unfold Dev.write; rw [if_pos h]
theorem write_bad {d : Dev} {k : Int} {s : ByteArray} (h : d.off = false) (hb : BadW d k s) : d.write k s = (2, d) := by unfold Dev.write; rw [if_neg (by rw [h]; simp), if_pos hb]
theorem write_zero {d : Dev} {k : Int} {s : ByteArray} (h : d.off = false) (hb : ¬ BadW d k s) (hl : d.left = 0) : d.write k s = (0, d.more k s) := by
  unfold Dev.write; rw [if_neg (by rw [h]; simp), if_neg hb, blow_zero (d := d.more k s) hl, if_neg (by simp)]
theorem write_more {d : Dev} {k : Int} {s : ByteArray} (h : d.off = false) (hb : ¬ BadW d k s) (hl : 1 < d.left) : d.write k s = (0, { d.more k s with left := d.left - 1 }) := by
  unfold Dev.write; rw [if_neg (by rw [h]; simp), if_neg hb, blow_more (d := d.more k s) hl, if_neg (by simp)]
theorem write_one {d : Dev} {k : Int} {s : ByteArray} (h : d.off = false) (hb : ¬ BadW d k s) (hl : d.left = 1) : d.write k s = (10, { (d.more k s).lost d.crash with off := true, left := d.left - 1 }) := by
  unfold Dev.write; rw [if_neg (by rw [h]; simp), if_neg hb, blow_one (d := d.more k s) hl, if_pos rfl]

theorem Fused.flush {n done : Nat} {d f : Dev} (h : Fused n done d f) (hn : n ≤ 1000) : d.flush.1 = 0 ∧ FStep n (done + 1) d.flush.1 f.flush.1 d.flush.2 f.flush.2 := by
  have e1 := flush_zero h.off h.left
  have dl := d.flush_len h.dok
  have fl := f.flush_len h.fok
  have dok := h.dok.flush
  have fok := h.fok.flush
  refine ⟨by rw [e1], ?_⟩
  rw [e1] at dok dl ⊢
  by_cases c : done < n
  · obtain ⟨s1, s2, s3, s4⟩ := h.same c
    by_cases c2 : done + 1 < n
    · rw [flush_more s1 (by omega)] at fok fl ⊢
      refine ⟨⟨h.off, h.left, dok, fok, dl.trans h.dl, fl.trans h.fl, fun _ => ⟨s1, by show flushN f.waits f.waits.length f.lasts = flushN d.waits d.waits.length d.lasts; rw [s2, s3], rfl, ?_⟩, fun e => by omega⟩, fun _ => ⟨rfl, rfl⟩, fun e => by omega⟩
      show f.left - 1 = _
      omega
    · rw [flush_one s1 (by omega)] at fok fl ⊢
      exact ⟨⟨h.off, h.left, dok, fok, dl.trans h.dl, fl.trans h.fl, fun e => by omega, fun _ => rfl⟩, fun e => by omega, fun _ => rfl⟩
  · have g := h.gone (by omega)
    rw [flush_off g]
    exact ⟨⟨h.off, h.left, dok, h.fok, dl.trans h.dl, h.fl, fun e => by omega, fun _ => g⟩, fun e => by omega, fun _ => rfl⟩

theorem Fused.write {n done : Nat} {d f : Dev} (h : Fused n done d f) (hn : n ≤ 1000) (hd : d.waits.length < 1000) (hf : f.waits.length < 1000) (k : Int) (s : ByteArray) :
    FStep n (if (d.write k s).1 = 0 then done + 1 else done) (d.write k s).1 (f.write k s).1 (d.write k s).2 (f.write k s).2 := by
  have dl := d.write_len h.dok (by omega) k s
  have fl := f.write_len h.fok (by omega) k s
  have dok := h.dok.write (by omega) k s
  have fok := h.fok.write (by omega) k s
  by_cases b : BadW d k s
  · have b2 : BadW f k s := by unfold BadW at b ⊢; rw [h.fl]; rw [h.dl] at b; exact b
    rw [write_bad h.off b] at dok dl ⊢
    rw [if_neg (by show ¬ (2 : Int) = 0; omega)]
    by_cases c : done < n
    · obtain ⟨s1, s2, s3, s4⟩ := h.same c
      rw [write_bad s1 b2]
      exact ⟨h, fun _ => ⟨rfl, by rw [s3]⟩, fun e => by omega⟩
    · rw [write_off (h.gone (by omega))]
      exact ⟨h, fun e => by omega, fun _ => rfl⟩
  · have b2 : ¬ BadW f k s := by unfold BadW at b ⊢; rw [h.fl]; rw [h.dl] at b; exact b
    rw [write_zero h.off b h.left] at dok dl ⊢
    rw [if_pos rfl]
    by_cases c : done < n
    · obtain ⟨s1, s2, s3, s4⟩ := h.same c
      by_cases c2 : done + 1 < n
      · rw [write_more s1 b2 (by omega)] at fok fl ⊢
        refine ⟨⟨h.off, h.left, dok, fok, dl.trans h.dl, fl.trans h.fl, fun _ => ⟨s1, s2, by show f.waits ++ _ = d.waits ++ _; rw [s3], ?_⟩, fun e => by omega⟩, fun _ => ⟨rfl, by show (d.waits ++ _).length = (f.waits ++ _).length; rw [s3]⟩, fun e => by omega⟩
        show f.left - 1 = _
        omega
      · rw [write_one s1 b2 (by omega)] at fok fl ⊢
        exact ⟨⟨h.off, h.left, dok, fok, dl.trans h.dl, fl.trans h.fl, fun e => by omega, fun _ => rfl⟩, fun e => by omega, fun _ => rfl⟩
    · have g := h.gone (by omega)
      rw [write_off g]
      exact ⟨⟨h.off, h.left, dok, h.fok, dl.trans h.dl, h.fl, fun e => by omega, fun _ => g⟩, fun e => by omega, fun _ => rfl⟩

theorem Dev.blow_waits (d : Dev) : d.blow.2.waits.length ≤ d.waits.length := by
  unfold Dev.blow
  split
  · exact Nat.le_refl _
  · split
    · exact Nat.le_refl _
    · exact Nat.zero_le _
theorem Dev.write_waits (d : Dev) (k : Int) (s : ByteArray) : (d.write k s).2.waits.length ≤ d.waits.length + 1 := by
  unfold Dev.write
  split
  · exact Nat.le_succ _
  · split
    · exact Nat.le_succ _
    · exact Nat.le_trans (Dev.blow_waits _) (by simp)
theorem Dev.flush_waits (d : Dev) : d.flush.2.waits.length ≤ d.waits.length := by
  unfold Dev.flush
  split
  · exact Nat.le_refl _
  · split
    · exact d.blow_waits
    · exact Nat.zero_le _
end Go.Proofs.Ytnjhcnefgeodcaa
