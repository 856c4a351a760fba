/- Heads: the plain facts. -/
import Derived.Test.YtnjhcnefgeodcaaDoorWFrmH
namespace Go.Proofs.YtnjhcnefgeodcaaDoor
set_option linter.unusedVariables false
set_option linter.unusedSimpArgs false
open Go.RowKit

structure HV where
  sr : Nat
  ba : Nat
  pr : Nat
  sq : Nat
abbrev hvC (v : HV) : List Value := [.int .u32 (v.sr : Int), .int .u32 (v.ba : Int), .int .u32 (v.pr : Int), .int .u64 (v.sq : Int)]
abbrev zhC : List Value := [.int .u32 0, .int .u32 0, .int .u32 0, .int .u64 0]
def okH (v : HV) : Prop := 1 ≤ v.ba ∧ v.ba ≤ v.sr ∧ v.pr < v.sr
instance (v : HV) : Decidable (okH v) := inferInstanceAs (Decidable (_ ∧ _))
def HV.fits (v : HV) : Prop := v.sr < 4294967296 ∧ v.ba < 4294967296 ∧ v.pr < 4294967296 ∧ v.sq < 18446744073709551616
def midL (v : HV) : List UInt8 := be 4 v.sr ++ (be 4 v.ba ++ (be 4 v.pr ++ be 8 v.sq))
def headL (v : HV) : List UInt8 := 72 :: (midL v ++ List.replicate 39 0)
def hsecL (v : HV) : List UInt8 := be 4 (sumL (headL v)) ++ headL v
def putH (v : HV) : ByteArray × Int := if okH v then (ofL (hsecL v), 0) else (⟨#[]⟩, 2)
def zeroH : HV := ⟨0, 0, 0, 0⟩
def hOf (s : ByteArray) : HV := ⟨num s 5 9, num s 9 13, num s 13 17, num s 17 25⟩
def hBad (s : ByteArray) : Prop := s.data.toList.getD 4 0 ≠ 72 ∨ (crcSum (s.extract 4 64)).toNat ≠ num s 0 4 ∨ Lib.trimB (s.extract 25 64).data.toList 0 ≠ []
instance (s : ByteArray) : Decidable (hBad s) := inferInstanceAs (Decidable (_ ∨ _))
def getH (s : ByteArray) : HV × Bool := if s.size ≠ 64 then (zeroH, false) else if hBad s then (zeroH, false) else if okH (hOf s) then (hOf s, true) else (zeroH, false)
theorem midL_length (v : HV) : (midL v).length = 20 := by unfold midL; simp only [List.length_append, be_length]
theorem headL_length (v : HV) : (headL v).length = 60 := by unfold headL; simp only [List.length_cons, List.length_append, midL_length, List.length_replicate]
theorem hsecL_length (v : HV) : (hsecL v).length = 64 := by unfold hsecL; simp only [List.length_append, be_length, headL_length]
theorem hOf_fits (s : ByteArray) : (hOf s).fits := ⟨num_lt s 5 9 (by omega), num_lt s 9 13 (by omega), num_lt s 13 17 (by omega), num_lt8 s 17 25 (by omega)⟩
theorem getH_size (s : ByteArray) (h : s.size ≠ 64) : getH s = (zeroH, false) := by unfold getH; rw [if_pos h]
theorem getH_bad (s : ByteArray) (h : s.size = 64) (h2 : hBad s) : getH s = (zeroH, false) := by unfold getH; rw [if_neg (fun e => e h), if_pos h2]
theorem getH_not (s : ByteArray) (h : s.size = 64) (h2 : ¬ hBad s) (h3 : ¬ okH (hOf s)) : getH s = (zeroH, false) := by unfold getH; rw [if_neg (fun e => e h), if_neg h2, if_neg h3]
theorem getH_good (s : ByteArray) (h : s.size = 64) (h2 : ¬ hBad s) (h3 : okH (hOf s)) : getH s = (hOf s, true) := by unfold getH; rw [if_neg (fun e => e h), if_neg h2, if_pos h3]

attribute [local irreducible] nval crcSum Lib.trimB
/-- Sixty-four bytes in pieces. -/
theorem head_split (L : List UInt8) (h : L.length = 64) : L = L.take 4 ++ (L.getD 4 0 :: ((L.drop 5).take 20 ++ L.drop 25)) := by
  have e2 : L.drop 4 = L.getD 4 0 :: L.drop 5 := by
    rw [List.drop_eq_getElem_cons (by omega), List.getD_eq_getElem?_getD, List.getElem?_eq_getElem (by omega)]; rfl
  have e3 : L.drop 5 = (L.drop 5).take 20 ++ L.drop 25 := by
    have := (List.take_append_drop 20 (L.drop 5)).symm
    rwa [List.drop_drop] at this
  rw [← e3, ← e2, List.take_append_drop]
theorem mid_of (s : ByteArray) (h : s.size = 64) : midL (hOf s) = (s.data.toList.drop 5).take 20 := by
  have hl := data_len s
  unfold midL
  have e1 : be 4 (hOf s).sr = (s.data.toList.drop 5).take 4 := by
    show be 4 (num s 5 9) = _
    rw [num_eq]; exact be_piece _ 5 4 (by omega)
  have e2 : be 4 (hOf s).ba = (s.data.toList.drop 9).take 4 := by
    show be 4 (num s 9 13) = _
    rw [num_eq]; exact be_piece _ 9 4 (by omega)
  have e3 : be 4 (hOf s).pr = (s.data.toList.drop 13).take 4 := by
    show be 4 (num s 13 17) = _
    rw [num_eq]; exact be_piece _ 13 4 (by omega)
  have e4 : be 8 (hOf s).sq = (s.data.toList.drop 17).take 8 := by
    show be 8 (num s 17 25) = _
    rw [num_eq]; exact be_piece _ 17 8 (by omega)
  rw [e1, e2, e3, e4, show (20 : Nat) = 4 + (4 + (4 + 8)) from rfl, List.take_add, List.drop_drop, List.take_add, List.drop_drop, List.take_add, List.drop_drop]
theorem bad_iff (s : ByteArray) (h : s.size = 64) : ofL (hsecL (hOf s)) = s ↔ ¬ hBad s := by
  have hl := data_len s
  have hs := head_split s.data.toList (by omega)
  have hm := mid_of s h
  have hd : (s.extract 4 64).data.toList = s.data.toList.getD 4 0 :: ((s.data.toList.drop 5).take 20 ++ s.data.toList.drop 25) := by
    rw [data_extract_l, List.take_of_length_le (by rw [List.length_drop]; omega)]
    have := congrArg (List.drop 4) hs
    rwa [List.drop_left' (by rw [List.length_take]; omega)] at this
  have ht : Lib.trimB (s.extract 25 64).data.toList 0 = [] ↔ s.data.toList.drop 25 = List.replicate 39 0 := by
    rw [trim_nil, data_extract_l, List.take_of_length_le (by rw [List.length_drop]; omega), List.length_drop, show s.data.toList.length - 25 = 39 by omega]
  have h04 : num s 0 4 = nval (s.data.toList.take 4) := by rw [num_eq]; rfl
  have hbe : ∀ a : Nat, a < 4294967296 → (be 4 a = s.data.toList.take 4 ↔ a = nval (s.data.toList.take 4)) := fun a ha => be_eq_iff (by omega) _ (by rw [List.length_take]; omega)
  constructor
  · intro e
    have e : hsecL (hOf s) = s.data.toList := by have := congrArg (fun x : ByteArray => x.data.toList) e; exact this
    unfold hsecL headL at e
    rw [hm] at e
    have e0 := e.trans hs
    obtain ⟨g1, g2⟩ := List.append_inj e0 (by rw [be_length, List.length_take]; omega)
    obtain ⟨g3, g4⟩ := List.cons_eq_cons.1 g2
    have g5 := List.append_cancel_left g4
    rintro (x | x | x)
    · exact x g3.symm
    · refine x ?_
      rw [h04, ← (hbe _ (sumL_lt _)).1 g1]
      unfold sumL
      rw [← ofL_data (s.extract 4 64), hd, g2]
    · exact x (ht.2 g5.symm)
  · intro e
    have x1 : s.data.toList.getD 4 0 = 72 := Decidable.byContradiction fun x => e (.inl x)
    have x2 : (crcSum (s.extract 4 64)).toNat = num s 0 4 := Decidable.byContradiction fun x => e (.inr (.inl x))
    have x3 := ht.1 (Decidable.byContradiction fun x => e (.inr (.inr x)))
    have hh : headL (hOf s) = (s.extract 4 64).data.toList := by unfold headL; rw [hm, hd, x1, x3]
    refine data_inj ?_
    rw [data_ofL]
    unfold hsecL
    have hc : be 4 (sumL (headL (hOf s))) = s.data.toList.take 4 := by
      refine (hbe _ (sumL_lt _)).2 ?_
      rw [← h04, ← x2, hh]; unfold sumL; rw [ofL_data]
    rw [hc, hh, hd]
    exact hs.symm
/-- A head's sector is got. -/
theorem head_pieces (v : HV) (hv : v.fits) : hOf (ofL (hsecL v)) = v := by
  have nb : ∀ (k n : Nat), n < 256 ^ k → nval (be k n) = n := fun k n h => by rw [nval_be, Nat.mod_eq_of_lt h]
  obtain ⟨h1, h2, h3, h4⟩ := hv
  generalize hz : List.replicate 39 (0 : UInt8) = Z
  have e : hsecL v = be 4 (sumL (headL v)) ++ ([72] ++ (be 4 v.sr ++ (be 4 v.ba ++ (be 4 v.pr ++ (be 8 v.sq ++ Z))))) := by
    unfold hsecL
    generalize hq : sumL (headL v) = q
    unfold headL midL
    rw [hz]
    simp only [List.append_assoc, List.singleton_append]
  generalize sumL (headL v) = q at e
  have p1 := piece_mid (be 4 q ++ [72]) (be 4 v.sr) (be 4 v.ba ++ (be 4 v.pr ++ (be 8 v.sq ++ Z))) 5 9 (by simp [be_length]) (be_length _ _)
  have p2 := piece_mid (be 4 q ++ [72] ++ be 4 v.sr) (be 4 v.ba) (be 4 v.pr ++ (be 8 v.sq ++ Z)) 9 13 (by simp [be_length]) (be_length _ _)
  have p3 := piece_mid (be 4 q ++ [72] ++ be 4 v.sr ++ be 4 v.ba) (be 4 v.pr) (be 8 v.sq ++ Z) 13 17 (by simp [be_length]) (be_length _ _)
  have p4 := piece_mid (be 4 q ++ [72] ++ be 4 v.sr ++ be 4 v.ba ++ be 4 v.pr) (be 8 v.sq) Z 17 25 (by simp [be_length]) (be_length _ _)
  simp only [List.append_assoc] at p1 p2 p3 p4
  unfold hOf num
  simp only [piece_data, e]
  rw [p1, p2, p3, p4, nb 4 _ (by omega), nb 4 _ (by omega), nb 4 _ (by omega), nb 8 _ (by omega)]
theorem head_back (v : HV) (hv : v.fits) (ok : okH v) : getH (ofL (hsecL v)) = (v, true) := by
  have hp := head_pieces v hv
  have hs : (ofL (hsecL v)).size = 64 := by rw [ofL_size, hsecL_length]
  have := getH_good _ hs ((bad_iff _ hs).1 (by rw [hp])) (by rw [hp]; exact ok)
  rwa [hp] at this
/-- A head's sector that was turned is none. -/
theorem head_turned (v : HV) (k : Nat) (t : BitVec 32) (ht : t ≠ 0#32) (h4 : 4 ≤ k) (hk : k + 4 ≤ 64) : (getH (ofL (turned (hsecL v) k t 4))).2 = false := by
  have hL := hsecL_length v
  have hT := turned_length (hsecL v) k t 4
  have pc := turned_piece (hsecL v) k t (by omega)
  have hne := turned_sum (hsecL v) k t (by omega) ht 0#32
  have hs : (ofL (turned (hsecL v) k t 4)).size = 64 := by rw [ofL_size, hT, hL]
  have hb : hBad (ofL (turned (hsecL v) k t 4)) := by
    refine .inr (.inl fun e => hne ?_)
    have h0 : num (ofL (turned (hsecL v) k t 4)) 0 4 = sumL (headL v) := by
      unfold num
      rw [piece_data, pc 0 (4 - 0) (by omega)]
      unfold hsecL
      rw [List.drop_zero, List.take_left' (be_length _ _), nval_be, Nat.mod_eq_of_lt]
      have := sumL_lt (headL v)
      omega
    rw [h0] at e
    unfold sumL at e
    have e := BitVec.eq_of_toNat_eq e
    unfold crcSum at e
    have e : fold 0xFFFFFFFF#32 ((ofL (turned (hsecL v) k t 4)).extract 4 64).data.toList = fold 0xFFFFFFFF#32 (ofL (headL v)).data.toList := by
      have := congrArg (fun x => ~~~x) e
      simpa using this
    rw [piece_data, data_ofL, List.take_of_length_le (by rw [List.length_drop]; omega)] at e
    have s1 : turned (hsecL v) k t 4 = (hsecL v).take 4 ++ (turned (hsecL v) k t 4).drop 4 := by
      have := pc 0 4 (by omega)
      rw [List.drop_zero, List.drop_zero] at this
      rw [← this, List.take_append_drop]
    have s2 : hsecL v = (hsecL v).take 4 ++ headL v := by
      conv => rhs; unfold hsecL
      rw [List.take_left' (be_length _ _)]
      rfl
    have s3 : fold 0#32 (hsecL v) = fold 0#32 ((hsecL v).take 4 ++ headL v) := by rw [← s2]
    rw [s1, s3, fold_append, fold_append]
    refine fold_cancel 0xFFFFFFFF#32 _ _ ?_ e _
    rw [List.length_drop, hT, hL, headL_length]
  rw [getH_bad _ hs hb]
end Go.Proofs.YtnjhcnefgeodcaaDoor
