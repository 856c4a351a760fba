/- Plain: what is written is read. -/
import Derived.Test.YtfghglacfjncmaaWCdF
import Derived.Test.YtfghglacfjncmaaWCdK
namespace Go.Proofs.Ytfghglacfjncmaa
set_option linter.unusedVariables false
set_option linter.unusedSimpArgs false
open Go.RowKit

def pRep {α : Type} (p : ByteArray → Rd α) : Nat → ByteArray → Rd (List α)
  | 0, s => .ok ([], s)
  | n + 1, s => pBind (p s) fun a s1 => pBind (pRep p n s1) fun l s2 => .ok (a :: l, s2)
theorem pNums_rep (n : Nat) (s : ByteArray) : pNums n s = pRep pNum n s := by
  induction n generalizing s with
  | zero => rfl
  | succ n ih =>
    show pBind (pNum s) (fun a s1 => pBind (pNums n s1) fun l s2 => .ok (a :: l, s2)) = pBind (pNum s) (fun a s1 => pBind (pRep pNum n s1) fun l s2 => .ok (a :: l, s2))
    congr 1
    funext a s1
    rw [ih]
def pRow (s : ByteArray) : Rd (List Val) := pBind (pCnt 16 s) fun n s1 => pRep pVal n.toNat s1
def pMail (s : ByteArray) : Rd Mai := pBind (pNum s) fun a s => pBind (pTxt 24 s) fun b s => pBind (pRow s) fun c s => pBind (pRow s) fun d s => .ok (⟨a, b, c, d⟩, s)
def pItem (s : ByteArray) : Rd Ite := pBind (pNum s) fun a s => pBind (pNum s) fun b s => pBind (pTxt 24 s) fun c s => pBind (pTxt 24 s) fun d s => pBind (pRow s) fun e s =>
  pBind (pCnt 16 s) fun n s => pBind (pRep (pCnt 1000) n.toNat s) fun f s => pBind (pCnt 4096 s) fun n s => pBind (pRep pMail n.toNat s) fun g s => .ok (⟨a, c, d, b, e, f, g⟩, s)
def pDead (s : ByteArray) : Rd Dea := pBind (pNum s) fun a s => pBind (pMail s) fun b s => pBind (pCnt 5 s) fun c s => .ok (⟨a, b, c⟩, s)
def pEvent (s : ByteArray) : Rd Evt := pBind (pNum s) fun a s => pBind (pNum s) fun b s => pBind (pNum s) fun c s => pBind (pTxt 24 s) fun d s => pBind (pTxt 24 s) fun e s => pBind (pTxt 24 s) fun f s => pBind (pRow s) fun g s => .ok (⟨a, b, d, c, e, f, g⟩, s)
def pSub (s : ByteArray) : Rd Sbs := pBind (pNum s) fun a s => pBind (pNum s) fun b s => pBind (pTxt 24 s) fun c s => .ok (⟨a, c, b⟩, s)

/-- What is written so is read so, with anything behind it. -/
def Fw {α : Type} (p : ByteArray → Rd α) (e : List UInt8) (a : α) : Prop := ∀ r : List UInt8, p (ofL (e ++ r)) = .ok (a, ofL r)
theorem Fw.bind {α β : Type} {p : ByteArray → Rd α} {e : List UInt8} {a : α} (h : Fw p e a) (r : List UInt8) (f : α → ByteArray → Rd β) : pBind (p (ofL (e ++ r))) f = f a (ofL r) := by rw [h r]; rfl
theorem pc_vb (n : Nat) (hn : n < 18446744073709551616) (r : List UInt8) : pc (vb n ++ r) = .ok (n, (vb n).length) := pcF_vbF 9 true n r hn (Or.inl rfl)
theorem extract_ofL (l : List UInt8) (i j : Nat) : (ofL l).extract i j = ofL ((l.take j).drop i) := by
  apply ByteArray.ext
  simp only [ByteArray.data_extract, ofL]
  apply Array.ext'
  rw [Array.toList_extract]
  simp [List.extract_eq_take_drop, List.drop_take]
theorem ext_rest (a b : List UInt8) : (ofL (a ++ b)).extract a.length (ofL (a ++ b)).size = ofL b := by
  rw [extract_ofL, ofL_size, List.take_length, List.drop_left]
theorem rdC_fw (n : Nat) (hn : n < 18446744073709551616) (r : List UInt8) : rdC (ofL (vb n ++ r)) 0 = (n, ofL r, 0) := by
  unfold rdC
  rw [if_pos rfl, data_ofL, pc_vb n hn]
  show (n, (ofL (vb n ++ r)).extract _ _, (0 : Int)) = _
  rw [ext_rest]
theorem fw_num {n : Int} (hn : i64ok n) : Fw pNum (vb (zz n)) n := fun r => by
  unfold pNum
  rw [rdC_fw (zz n) (zz_lt n hn.1 hn.2)]
  show ofRd (uz (zz n), ofL r, (0 : Int)) = _
  rw [uz_zz]
  rfl
theorem fw_cnt {n : Nat} {m : Int} (hm : (n : Int) ≤ m) (hn : n < 18446744073709551616) : Fw (pCnt m) (vb n) (n : Int) := fun r => by
  unfold pCnt rdM
  rw [if_pos rfl, data_ofL, pc_vb n hn]
  show ofRd (if m < (n : Int) then _ else _) = _
  rw [if_neg (by omega), ext_rest]
  rfl
theorem fw_txt {t : ByteArray} {m : Int} (hm : (t.size : Int) ≤ m) (hn : t.size < 18446744073709551616) : Fw (pTxt m) (tbl t) t := fun r => by
  unfold pTxt rdT tbl
  rw [List.append_assoc, if_pos rfl, data_ofL, pc_vb t.size hn]
  have hl : t.data.toList.length = t.size := data_len t
  show ofRd (if m < (t.size : Int) then _ else if (ofL (vb t.size ++ (t.data.toList ++ r))).size < (vb t.size).length + t.size then _ else _) = _
  have t1 : ((vb t.size ++ (t.data.toList ++ r)).take ((vb t.size).length + t.size)).drop (vb t.size).length = t.data.toList := by
    rw [← List.append_assoc, List.take_append_of_le_length (by rw [List.length_append]; omega), List.take_of_length_le (by rw [List.length_append]; omega), List.drop_left]
  have t2 : (vb t.size ++ (t.data.toList ++ r)).drop ((vb t.size).length + t.size) = r := by
    rw [← List.append_assoc, List.drop_append_of_le_length (by rw [List.length_append]; omega), List.drop_of_length_le (by rw [List.length_append]; omega), List.nil_append]
  rw [if_neg (by omega), if_neg (by rw [ofL_size, List.length_append, List.length_append]; omega), extract_ofL, extract_ofL, ofL_size, List.take_length, t1, t2, ofL_data]
  rfl
theorem fst8_cons (x : UInt8) (r : List UInt8) : fst8 (ofL (x :: r)) = x.toNat := rfl
theorem rdB_fw (x : UInt8) (r : List UInt8) : rdB (ofL (x :: r)) 0 = (x.toNat, ofL r, 0) := by
  unfold rdB
  rw [if_pos rfl, if_neg (by rw [ofL_size]; simp), fst8_cons]
  have := ext_rest [x] r
  simp only [List.singleton_append, List.length_singleton] at this
  rw [this]
theorem fw_byte (x : UInt8) : Fw pByte [x] x.toNat := fun r => by
  unfold pByte
  rw [List.singleton_append, rdB_fw]
  rfl
theorem fw_tru (b : Bool) : Fw pTru [if b = true then 1 else 0] b := fun r => by
  unfold pTru rdH
  rw [List.singleton_append, fst8_cons, rdB_fw, if_neg (by cases b <;> simp)]
  cases b <;> rfl
theorem fw_rep {α : Type} {p : ByteArray → Rd α} {e : α → List UInt8} (l : List α) (h : ∀ a ∈ l, Fw p (e a) a) : Fw (pRep p l.length) ((l.map e).flatten) l := fun r => by
  induction l with
  | nil => rfl
  | cons a l ih =>
    have h1 := (h a (by simp)).bind ((l.map e).flatten ++ r) (fun a s1 => pBind (pRep p l.length s1) fun l s2 => .ok (a :: l, s2))
    rw [List.map_cons, List.flatten_cons, List.append_assoc]
    refine h1.trans ?_
    rw [ih (fun b hb => h b (by simp [hb]))]
    rfl
/-- Numbers that are numbers. -/
structure VW (v : Val) : Prop where
  num : i64ok v.num
  nums : ∀ n ∈ v.list, i64ok n
theorem fw_val {v : Val} (hv : rightV v = true) (hw : VW v) : Fw pVal (valB v) v := fun r => by
  have hx := (rightV_iff v).1 hv
  unfold pVal valB
  rw [List.cons_append]
  refine ((fw_byte (UInt8.ofNat v.kind.toNat)).bind (valBody v ++ r) _).trans ?_
  obtain ⟨k, n, t, l⟩ := v
  unfold rightQ at hx
  dsimp only at hx hw ⊢
  have hk : ((UInt8.ofNat k.toNat).toNat : Int) = k := by rw [UInt8.toNat_ofNat']; omega
  rw [hk]
  have ht : k ≠ 3 → k ≠ 4 → t = ⟨#[]⟩ := fun a b => (empty_iff t).2 (by omega)
  have hl : k ≠ 5 → l = [] := fun a => List.eq_nil_of_length_eq_zero (by omega)
  have hn : k ≠ 1 → k ≠ 2 → n = 0 := fun a b => by omega
  have key : pBody k (ofL (valBody ⟨k, n, t, l⟩ ++ r)) = .ok (⟨k, n, t, l⟩, ofL r) := by
    unfold pBody valBody
    dsimp only
    by_cases e1 : k = 1
    · rw [if_pos e1, if_pos e1]
      refine ((fw_num hw.num).bind r _).trans ?_
      rw [ht (by omega) (by omega), hl (by omega)]
    rw [if_neg e1, if_neg e1]
    by_cases e2 : k = 2
    · rw [if_pos e2, if_pos e2]
      have hn2 : n = 0 ∨ n = 1 := by omega
      have hb : ([if n = 1 then 1 else 0] : List UInt8) = [if decide (n = 1) = true then 1 else 0] := by simp
      rw [hb]
      refine ((fw_tru (decide (n = 1))).bind r _).trans ?_
      rw [ht (by omega) (by omega), hl (by omega)]
      rcases hn2 with rfl | rfl <;> rfl
    rw [if_neg e2, if_neg e2]
    have hn0 : n = 0 := hn e1 e2
    by_cases e3 : k = 3
    · rw [if_pos e3, if_pos (.inl e3)]
      refine ((fw_txt (t := t) (m := 64) (by omega) (by omega)).bind r _).trans ?_
      rw [hn0, hl (by omega)]
    rw [if_neg e3]
    by_cases e4 : k = 4
    · rw [if_pos e4, if_pos (.inr e4)]
      have h24 : t.size ≤ 24 := by
        by_cases hnm : isName t
        · exact hnm.2.1
        · rw [if_neg hnm] at hx; omega
      refine ((fw_txt (t := t) (m := 24) (by omega) (by omega)).bind r _).trans ?_
      rw [hn0, hl (by omega)]
    rw [if_neg e4, if_neg (show ¬ (k = 3 ∨ k = 4) by omega)]
    by_cases e5 : k = 5
    · rw [if_pos e5, if_pos e5, List.append_assoc]
      refine ((fw_cnt (n := l.length) (m := 16) (by omega) (by omega)).bind (numsB l ++ r) _).trans ?_
      rw [Int.toNat_natCast, pNums_rep]
      refine ((fw_rep (p := pNum) (e := fun n => vb (zz n)) l (fun a ha => fw_num (hw.nums a ha))).bind r _).trans ?_
      rw [hn0, ht (by omega) (by omega)]
    · rw [if_neg e5, if_neg e5, hn0, ht (by omega) (by omega), hl e5]
      rfl
  rw [key]
  show (if rightV ⟨k, n, t, l⟩ = true then _ else _) = _
  rw [if_pos hv]
def VWs (l : List Val) : Prop := ∀ v ∈ l, VW v
theorem fw_row {l : List Val} (h : rowOK l) (hw : VWs l) : Fw pRow (rowB l) l := fun r => by
  unfold pRow rowB
  rw [List.append_assoc]
  refine ((fw_cnt (n := l.length) (m := 16) (by have := h.1; omega) (by have := h.1; omega)).bind (valsB l ++ r) _).trans ?_
  rw [Int.toNat_natCast]
  exact fw_rep l (fun a ha => fw_val (h.2 a ha) (hw a ha)) r
structure MW (m : Mai) : Prop where
  id : i64ok m.id
  key : VWs m.key
  fields : VWs m.fields
theorem fw_mail {m : Mai} (h : mailOK m) (hw : MW m) : Fw pMail (mailB m) m := fun r => by
  unfold pMail mailB
  simp only [List.append_assoc]
  rw [(fw_num hw.id).bind, (fw_txt (m := 24) (by have := h.1; omega) (by have := h.1; omega)).bind, (fw_row h.2.1 hw.key).bind, (fw_row h.2.2 hw.fields).bind]
theorem fw_cnts {l : List Int} (h : cntsOK l) : Fw (pRep (pCnt 1000) l.length) (cntsB l) l := fw_rep l (fun n hn => by
  have := h n hn
  have hx := fw_cnt (n := n.toNat) (m := 1000) (by omega) (by omega)
  rwa [show ((n.toNat : Nat) : Int) = n by omega] at hx)
structure IW (x : Ite) : Prop where
  id : i64ok x.id
  since : i64ok x.since
  attrs : VWs x.attrs
  box : ∀ m ∈ x.box, MW m
theorem fw_item {x : Ite} (h : itemOK x) (hw : IW x) : Fw pItem (itemB x) x := fun r => by
  unfold pItem itemB
  simp only [List.append_assoc]
  obtain ⟨h1, h2, h3, h4, h5, h6, h7⟩ := h
  have hb : Fw (pRep pMail x.box.length) (boxB x.box) x.box := fw_rep (p := pMail) (e := mailB) x.box (fun m hm => fw_mail (h7 m hm) (hw.box m hm))
  rw [(fw_num hw.id).bind, (fw_num hw.since).bind, (fw_txt (m := 24) (by omega) (by omega)).bind, (fw_txt (m := 24) (by omega) (by omega)).bind, (fw_row h3 hw.attrs).bind, (fw_cnt (m := 16) (by omega) (by omega)).bind, Int.toNat_natCast, (fw_cnts h6).bind,
    (fw_cnt (m := 4096) (by omega) (by omega)).bind, Int.toNat_natCast, hb.bind]
theorem fw_dead {x : Dea} (h : deadOK x) (hn : i64ok x.n) (hw : MW x.mail) : Fw pDead (deadB x) x := fun r => by
  unfold pDead deadB
  simp only [List.append_assoc]
  obtain ⟨h1, h2, h3⟩ := h
  have hc := fw_cnt (n := x.reason.toNat) (m := 5) (by omega) (by omega)
  rw [show ((x.reason.toNat : Nat) : Int) = x.reason by omega] at hc
  rw [(fw_num hn).bind, (fw_mail h1 hw).bind, hc.bind]
/-- Two that are read the same are the same. -/
theorem Fw.inj {α : Type} {p : ByteArray → Rd α} {e f : List UInt8} {a b : α} (h : Fw p e a) (k : Fw p f b) {r s : List UInt8} (x : e ++ r = f ++ s) : a = b ∧ r = s := by
  have h1 := h r
  have h2 := k s
  rw [x, h2] at h1
  have h3 := Except.ok.inj h1
  refine ⟨(Prod.mk.inj h3).1.symm, ?_⟩
  have h4 := (Prod.mk.inj h3).2
  rw [← data_ofL r, ← data_ofL s, h4]
end Go.Proofs.Ytfghglacfjncmaa
