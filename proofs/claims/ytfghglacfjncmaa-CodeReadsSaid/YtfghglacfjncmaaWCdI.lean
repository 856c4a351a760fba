/- Plain: what is written is read. -/
import Derived.Test.YtfghglacfjncmaaWCdF
import Derived.Test.YtfghglacfjncmaaWCdK
namespace Go.Proofs.Ytfghglacfjncmaa
set_option linter.unusedVariables false
set_option linter.unusedSimpArgs false
open Go.RowKit

def pRep {α : Type} (p : ByteArray → Rd α) : Nat → ByteArray → Rd (List α)
  | 0, s => .ok ([], s)
  | n + 1, s => pBind (p s) fun a s1 => pBind (pRep p n s1) fun l s2 => .ok (a :: l, s2)
theorem pNums_rep (n : Nat) (s : ByteArray) : pNums n s = pRep pNum n s := by
  induction n generalizing s with
  | zero => rfl
  | succ n ih =>
    show pBind (pNum s) (fun a s1 => pBind (pNums n s1) fun l s2 => .ok (a :: l, s2)) = pBind (pNum s) (fun a s1 => pBind (pRep pNum n s1) fun l s2 => .ok (a :: l, s2))
    congr 1
    funext a s1
    rw [ih]
def pRow (s : ByteArray) : Rd (List Val) := pBind (pCnt 16 s) fun n s1 => pRep pVal n.toNat s1
def pMail (s : ByteArray) : Rd Mai := pBind (pNum s) fun a s => pBind (pTxt 24 s) fun b s => pBind (pRow s) fun c s => pBind (pRow s) fun d s => .ok (⟨a, b, c, d⟩, s)
def pDead (s : ByteArray) : Rd Dea := pBind (pNum s) fun a s => pBind (pMail s) fun b s => pBind (pCnt 5 s) fun c s => .ok (⟨a, b, c⟩, s)
def pEvent (s : ByteArray) : Rd Evt := pBind (pNum s) fun a s => pBind (pNum s) fun b s => pBind (pNum s) fun c s => pBind (pTxt 24 s) fun d s => pBind (pTxt 24 s) fun e s => pBind (pTxt 24 s) fun f s => pBind (pRow s) fun g s => .ok (⟨a, b, d, c, e, f, g⟩, s)
def pSub (s : ByteArray) : Rd Sbs := pBind (pNum s) fun a s => pBind (pNum s) fun b s => pBind (pTxt 24 s) fun c s => .ok (⟨a, c, b⟩, s)

/-- What is written so is read so, with anything behind it. -/
def Fw {α : Type} (p : ByteArray → Rd α) (e : List UInt8) (a : α) : Prop := ∀ r : List UInt8, p (ofL (e ++ r)) = .ok (a, ofL r)
theorem Fw.bind {α β : Type} {p : ByteArray → Rd α} {e : List UInt8} {a : α} (h : Fw p e a) (r : List UInt8) (f : α → ByteArray → Rd β) : pBind (p (ofL (e ++ r))) f = f a (ofL r) := by rw [h r]; rfl
theorem pc_vb (n : Nat) (hn : n < 18446744073709551616) (r : List UInt8) : pc (vb n ++ r) = .ok (n, (vb n).length) := pcF_vbF 9 true n r hn (Or.inl rfl)
theorem extract_ofL (l : List UInt8) (i j : Nat) : (ofL l).extract i j = ofL ((l.take j).drop i) := by
  apply ByteArray.ext
  simp only [ByteArray.data_extract, ofL]
  apply Array.ext'
  rw [Array.toList_extract]
  simp [List.extract_eq_take_drop, List.drop_take]
/-- Numbers that are numbers. -/
structure VW (v : Val) : Prop where
  num : i64ok v.num
  nums : ∀ n ∈ v.list, i64ok n
def VWs (l : List Val) : Prop := ∀ v ∈ l, VW v
structure MW (m : Mai) : Prop where
  id : i64ok m.id
  key : VWs m.key
  fields : VWs m.fields
/-- Two that are read the same are the same. -/
theorem Fw.inj {α : Type} {p : ByteArray → Rd α} {e f : List UInt8} {a b : α} (h : Fw p e a) (k : Fw p f b) {r s : List UInt8} (x : e ++ r = f ++ s) : a = b ∧ r = s := by
  have h1 := h r
  have h2 := k s
  rw [x, h2] at h1
  have h3 := Except.ok.inj h1
  refine ⟨(Prod.mk.inj h3).1.symm, ?_⟩
  have h4 := (Prod.mk.inj h3).2
  rw [← data_ofL r, ← data_ofL s, h4]
end Go.Proofs.Ytfghglacfjncmaa
