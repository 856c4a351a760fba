/- What memory holds; which things may be kept, and their bytes. -/
import Derived.Test.YtfghglacfjncmaaWCdD
namespace Go.Proofs.Ytfghglacfjncmaa
set_option linter.unusedVariables false
set_option linter.unusedSimpArgs false
open Go.RowKit

def rightQ (k n s l nm : Int) : Prop := 0 ≤ k ∧ k ≤ 5 ∧ (k = 1 ∨ k = 2 ∨ n = 0) ∧ (k ≠ 2 ∨ n = 0 ∨ n = 1) ∧ (k = 3 ∨ k = 4 ∨ s = 0) ∧ (k ≠ 3 ∨ s ≤ 64) ∧ (k ≠ 4 ∨ nm = 1) ∧ (k = 5 ∨ l = 0) ∧ (k ≠ 5 ∨ l ≤ 16)
theorem empty_iff (s : ByteArray) : s = ⟨#[]⟩ ↔ (s.size : Int) = 0 := by
  refine ⟨fun e => by rw [e]; rfl, fun e => ?_⟩
  apply ByteArray.ext
  exact Array.eq_empty_of_size_eq_zero (by have : s.size = 0 := by omega
                                           exact this)
theorem rightV_iff (v : Val) : rightV v = true ↔ rightQ v.kind v.num v.text.size v.list.length (if isName v.text then 1 else 0) := by
  unfold rightV
  simp only [empty_iff]
  unfold rightQ
  repeat' split
  all_goals (try simp only [decide_eq_true_eq, Bool.false_eq_true, false_iff, or_true, true_and])
  all_goals omega
/-- A value that memory holds. -/
structure VLs (v : Val) : Prop where
  text : v.text.size ≤ 140737488351232
  list : v.list.length * 8 ≤ 140737488351232
/-- A box of the function's own, over memory that stays. -/
structure St (H0 H : AH) (q : Nat) (cs : List Value) : Prop where
  hq : Has H q (.row cs 0)
  fr : Fr [] H0 H
theorem St.new (H : AH) (cs : List Value) : St H (H.push (.row cs 0)) H.next cs := ⟨Has.new _ _, (Fr.refl [] H).push _⟩
theorem St.fr1 {H0 H H' : AH} {q : Nat} {cs : List Value} (s : St H0 H q cs) (f : Fr [] H H') : St H0 H' q cs := ⟨s.hq.fr f (by simp), s.fr.trans f⟩
/-- A message that memory holds; a few values alone. -/
structure MLs (m : Mai) : Prop where
  chan : m.chan.size ≤ 140737488351232
  key : m.key.length ≤ 40
  fields : m.fields.length ≤ 40
  keys : ∀ v ∈ m.key, VLs v
  fieldss : ∀ v ∈ m.fields, VLs v
def deadOK (x : Dea) : Prop := mailOK x.mail ∧ 0 ≤ x.reason ∧ x.reason ≤ 5
instance (x : Dea) : Decidable (deadOK x) := by unfold deadOK; infer_instance
def deadB (x : Dea) : List UInt8 := vb (zz x.n) ++ (mailB x.mail ++ vb x.reason.toNat)
end Go.Proofs.Ytfghglacfjncmaa
