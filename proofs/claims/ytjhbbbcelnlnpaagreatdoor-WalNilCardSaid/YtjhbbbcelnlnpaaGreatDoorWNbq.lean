/- Ranges over functions: code in a round; a function that ranges over a slice's iterator from its end on. -/
import Derived.Test.YtjhbbbcelnlnpaaGreatDoorWNao
import Derived.Test.YtjhbbbcelnlnpaaGreatDoorWNan
import Derived.OrdersIn
import Derived.RangeFuncIn
import Derived.RangeFuncRecord
import Derived.RangeFuncCalls
import Derived.RangeFuncLeaves
import Derived.RangeFuncSeq
import Derived.Deep.LoopGhost
namespace Go.Proofs.YtjhbbbcelnlnpaaGreatDoor
open Go.RowKit

/-! ### Code in a round -/
def notDefer (o:Oper):Bool:=match o.op with
  | .defer _=>false
  | _=>true
def noDefers:Code→Bool
  | .region _ ops _=>ops.all notDefer
  | .seq a b=>noDefers a && noDefers b
  | .cond _ a b=>noDefers a && noDefers b
  | .block _ c=>noDefers c
  | .loop c=>noDefers c
  | _=>true
theorem notDefer_spec {o:Oper} (h:notDefer o=true):∀ c, o.op ≠ .defer c:=by
  intro c hc
  unfold notDefer at h
  rw [hc] at h
  cases h
abbrev Rd (l:Nat):Fence:=Fence.wide.inRound l
section
variable {P:Program} {n l:Nat} {ops:Array Oper} {Q:Exit→Act→World→Prop}
theorem rowsIn_of {F:Fence} {row:String} {args:Array Value} {w:World} {R:Value→World→Prop} (h:Rows P row args w R):RowsIn (Rd l) n P row args w R:=by
  intro c cs _
  obtain ⟨v, w', h1, h2⟩:=h c cs
  refine ⟨v, w', h1, ?_⟩
  rw [show Machine.fenced P (Rd l)=Machine.fenced P Fence.wide from rfl]
  exact stepsIn_wide.2 h2
theorem wpR_of {o:Oper} {a:Act} {w:World} {next next':Act→World→Prop} (hnd:notDefer o=true) (hno:¬ LetsOut Q) (hn:∀ a w, next a w→next' a w) (h:o.wp P a w next Q):o.wpIn (Rd l) n P a w next' Q:=by
  unfold Oper.wp at h
  unfold Oper.wpIn
  refine ⟨fun _ _=>trivial, ?_⟩
  rw [Oper.semAt_eq _ _ _ (notDefer_spec hnd)]
  generalize (execOp a.eval o).run P w=r at h ⊢
  cases r with
  | ok x w' =>
    cases x with
    | enter f args =>
      simp only [Oper.upon] at h
      rw [Oper.uponIn_enter]
      refine ⟨fun hd=>(by cases hd), CallsIn.inRound l (callsIn_wide.2 (Calls.mono h fun e w'' he=>?_))⟩
      cases e with
      | returned v=>exact hn _ _ he
      | panicked c=>exact he
      | outgrown=>exact he
    | row r args =>
      simp only [Oper.upon] at h
      rw [Oper.uponIn_row]
      exact ⟨fun hd=>(by cases hd), rowsIn_of (F:=Rd l) (h.mono fun v w'' he=>hn _ _ he)⟩
    | round l f tmps assign body=>exact h.elim
    | value v=>exact hn _ _ h
    | skip=>exact hn _ _ h
    | defer d=>exact hn _ _ h
    | _=>exact h.elim
  | halt x w'=>cases x <;> first | exact h | exact h.elim
theorem wpOpsR_of (hd:ops.all notDefer=true) (hno:¬ LetsOut Q):∀ (s:List Nat) (a:Act) (w:World), wpOps P ops Q s a w→wpOpsIn (Rd l) n P ops Q s a w:=by
  intro s
  induction s with
  | nil=>intro a w h; exact h
  | cons i s ih =>
    intro a w h
    simp only [wpOps] at h
    simp only [wpOpsIn]
    cases ho:ops[i]? with
    | none=>simp only [ho] at h; exact ih a w h
    | some o =>
      simp only [ho] at h ⊢
      have hnd:notDefer o=true:=by
        obtain ⟨hlt, he⟩:=Array.getElem?_eq_some_iff.1 ho
        rw [Array.all_eq_true] at hd
        rw [← he]; exact hd i hlt
      split
      · rename_i hw
        rw [if_pos hw] at h
        rcases h with h | ⟨_, h⟩
        · exact wpR_of hnd hno ih h
        · exact absurd h hno
      · rename_i hw
        rw [if_neg hw] at h
        exact ⟨fun _ _=>trivial, ih _ _ h⟩
theorem wpAnyR_of {md:Region.Mode} (hd:ops.all notDefer=true) (hno:¬ LetsOut Q):∀ (fuel:Nat) (listed:Array Bool) (a:Act) (w:World), wpAny P md ops Q fuel listed a w→wpAnyIn (Rd l) n P md ops Q fuel listed a w:=by
  intro fuel
  induction fuel with
  | zero=>intro listed a w h; exact h
  | succ fuel ih =>
    intro listed a w h
    refine ⟨h.1, fun i hi=>?_⟩
    have h:=h.2 i hi
    unfold wpOp at h
    unfold wpOpIn
    cases ho:ops[i]? with
    | none=>simp only [ho] at h; exact ih _ a w h
    | some o =>
      simp only [ho] at h ⊢
      have hnd:notDefer o=true:=by
        obtain ⟨hlt, he⟩:=Array.getElem?_eq_some_iff.1 ho
        rw [Array.all_eq_true] at hd
        rw [← he]; exact hd i hlt
      split
      · rename_i hw
        rw [if_pos hw] at h
        rcases h with h | ⟨_, h⟩
        · exact wpR_of hnd hno (ih _) h
        · exact absurd h hno
      · rename_i hw
        rw [if_neg hw] at h
        exact ⟨fun _ _=>trivial, ih _ _ _ h⟩
theorem wpIn_loop_ghost {F:Fence} {a:Act} {w:World} {c:Code} (I:Nat→Act→World→Prop) (n₀:Nat) (h₀:I n₀ a w)
    (round:∀ k a w, I k a w→c.wpIn F n P (Exit.then (fun a' w'=>∃ n', n'<k∧I n' a' w') Q) a w):(Code.loop c).wpIn F n P Q a w:=by
  refine wpIn_loop (fun a w=>∃ n, I n a w) (fun a w=>leastOf (fun n=>I n a w)) ⟨n₀, h₀⟩ ?_
  intro a w hI
  refine wpIn_mono (round _ a w (leastOf_spec hI).1) ?_
  intro e a' w' hq
  cases e with
  | normal =>
    obtain ⟨n', hlt, hI'⟩:=hq
    exact show (∃ n, I n a' w')∧leastOf (fun n=>I n a' w')<leastOf (fun n=>I n a w) from ⟨⟨n', hI'⟩, Nat.lt_of_le_of_lt ((leastOf_spec ⟨n', hI'⟩).2 n' hI') hlt⟩
  | exit id=>exact hq
  | goto l=>exact hq
  | ret=>exact hq
  | panic ch=>exact hq
  | outgrown=>exact hq
theorem lift_noOut {D:List Deferred} {B:Nat} {w0:World} {μ:Mu} {K:AExit→List Value→AH→Prop}:¬ LetsOut (lift D B w0 μ K):=by
  rintro ⟨a, w, e, tm, H, ν, h1, h2, h3, h4, h5, h6⟩
  cases e <;> exact h6
end

section
variable {P:Program} {B:Nat} {w0:World} {μ:Mu} {H:AH} {w:World}
theorem awp_okR (hm:P.follows .mixedOrders=true) {n l:Nat} (c:Code):codeOK c=true→noDefers c=true→∀ (Q:AExit→List Value→AH→Prop) (tm:List Value) (H:AH), awp P c Q tm H →
    ∀ B w0 μ w ca, Rel B w0 μ H w→LR μ tm ca→c.wpIn (Rd l) n P (lift [] B w0 μ Q) { tmps:=ca, defers:=[] } w:=by
  induction c with
  | skip =>
    intro hc _ Q tm H h B w0 μ w ca hr ht
    exact wpIn_skip ⟨_, _, _, _, h, Mu.le_refl _, hr, ht, rfl, trivial⟩
  | region id ops draw =>
    intro hc hnd Q tm H h B w0 μ w ca hr ht
    simp only [codeOK, Bool.and_eq_true] at hc
    cases draw with
    | true =>
      exact wpIn_region_any hm (wpAnyR_of hnd lift_noOut _ _ _ _ (Tree.any _ _ _ _ _ _ _ _ _ (adraw_ok ops hc.1 (by simpa using hc.2) _ _ 0 [] tm ca μ H _ (MaskR.init _) (fun _ hp=>by cases hp) h (hr.drawn (w.drawn + 1)) ht) (Mu.le_refl _) (hr.drawn (w.drawn + 1)) ht))
    | false =>
      refine wpIn_region (wpOpsR_of hnd lift_noOut _ _ _ ?_)
      have:=aops_ok (D:=[]) (B:=B) (w0:=w0) ops ops.toList 0 tm ca μ H w hc.1 rfl h hr ht
      rw [Array.length_toList, ← List.range_eq_range'] at this
      exact this
  | seq a b iha ihb =>
    intro hc hnd Q tm H h B w0 μ w ca hr ht
    simp only [codeOK, Bool.and_eq_true] at hc
    simp only [noDefers, Bool.and_eq_true] at hnd
    refine wpIn_seq (wpIn_mono (iha hc.1 hnd.1 _ _ _ h B w0 μ w ca hr ht) ?_)
    rintro e ⟨ca', ds⟩ w' ⟨e', tm', H', μ', h1, h2, h3, h4, rfl, h5⟩
    cases e' with
    | normal =>
      cases e <;> simp only [exitR] at h5
      exact wpIn_mono (ihb hc.2 hnd.2 _ _ _ h1 B w0 μ' w' ca' h3 h4) fun _ _ _ hh=>lift.le h2 hh
    | _ =>
      cases e <;> simp only [exitR] at h5 <;> exact ⟨_, _, _, _, h1, h2, h3, h4, rfl, h5⟩
  | cond c a b iha ihb =>
    intro hc hnd Q tm H h B w0 μ w ca hr ht
    simp only [codeOK, Bool.and_eq_true] at hc
    simp only [noDefers, Bool.and_eq_true] at hnd
    simp only [awp] at h
    split at h
    · rename_i t
      rcases aIf_cases h with ⟨hb, h⟩ | ⟨hb, h⟩
      · have hx:=getD_bool hb
        obtain ⟨v', g1, g2⟩:=ht.2 t _ hx
        cases g2
        have hev:Act.eval { tmps:=ca, defers:=[] } (.tmp t)=.bool true:=by simp [Act.eval, Array.getD_eq_getD_getElem?, g1]
        rw [set_bool hx] at h
        exact wpIn_cond hev (iha hc.1 hnd.1 _ _ _ h B w0 μ w ca hr ht)
      · have hx:=getD_bool hb
        obtain ⟨v', g1, g2⟩:=ht.2 t _ hx
        cases g2
        have hev:Act.eval { tmps:=ca, defers:=[] } (.tmp t)=.bool false:=by simp [Act.eval, Array.getD_eq_getD_getElem?, g1]
        rw [set_bool hx] at h
        exact wpIn_cond hev (ihb hc.2 hnd.2 _ _ _ h B w0 μ w ca hr ht)
    · rename_i v
      rcases aIf_cases h with ⟨rfl, h⟩ | ⟨rfl, h⟩
      · exact wpIn_cond (t:=true) rfl (iha hc.1 hnd.1 _ _ _ h B w0 μ w ca hr ht)
      · exact wpIn_cond (t:=false) rfl (ihb hc.2 hnd.2 _ _ _ h B w0 μ w ca hr ht)
    · exact h.elim
  | block id c ih =>
    intro hc hnd Q tm H h B w0 μ w ca hr ht
    refine wpIn_block (wpIn_mono (ih hc hnd _ _ _ h B w0 μ w ca hr ht) ?_)
    rintro e ⟨ca', ds⟩ w' ⟨e', tm', H', μ', h1, h2, h3, h4, rfl, h5⟩
    cases e' with
    | exit id' =>
      cases e <;> simp only [exitR] at h5
      subst h5
      simp only [AExit.inBlock] at h1
      simp only [Exit.inBlock]
      split
      · rename_i e; rw [e, beq_self_eq_true] at h1; exact ⟨_, _, _, _, h1, h2, h3, h4, rfl, trivial⟩
      · rename_i e
        rw [beq_eq_false_iff_ne.2 e] at h1
        exact ⟨_, _, _, _, h1, h2, h3, h4, rfl, rfl⟩
    | _ =>
      cases e <;> simp only [exitR] at h5 <;> exact ⟨_, _, _, _, h1, h2, h3, h4, rfl, h5⟩
  | loop c ih =>
    intro hc hnd Q tm H h B w0 μ w ca hr ht
    obtain ⟨I, ⟨k, hk⟩, hI⟩:=h
    refine wpIn_loop_ghost (fun k a w=>∃ tm H μ', I k tm H∧Mu.le μ μ'∧Rel B w0 μ' H w∧LR μ' tm a.tmps∧a.defers=[]) k ⟨tm, H, μ, hk, Mu.le_refl _, hr, ht, rfl⟩ ?_
    rintro k ⟨ca', ds⟩ w' ⟨tm', H', μ', h1, h2, h3, h4, rfl⟩
    refine wpIn_mono (ih hc hnd _ _ _ (hI k tm' H' h1) B w0 μ' w' ca' h3 h4) ?_
    rintro e ⟨ca'', ds⟩ w'' ⟨e', tm'', H'', μ'', g1, g2, g3, g4, rfl, g5⟩
    cases e' with
    | normal =>
      cases e <;> simp only [exitR] at g5
      obtain ⟨m, hm, g1⟩:=g1
      exact ⟨m, hm, tm'', H'', μ'', g1, Mu.le_trans h2 g2, g3, g4, rfl⟩
    | _ =>
      cases e <;> simp only [exitR] at g5 <;> exact ⟨_, _, _, _, g1, Mu.le_trans h2 g2, g3, g4, rfl, g5⟩
  | exit id =>
    intro hc hnd Q tm H h B w0 μ w ca hr ht
    exact wpIn_exit ⟨_, _, _, _, h, Mu.le_refl _, hr, ht, rfl, rfl⟩
  | ret =>
    intro hc hnd Q tm H h B w0 μ w ca hr ht
    exact wpIn_ret ⟨_, _, _, _, h, Mu.le_refl _, hr, ht, rfl, trivial⟩
  | _=>intro _ _ Q tm H h; exact h.elim
end
end Go.Proofs.YtjhbbbcelnlnpaaGreatDoor
