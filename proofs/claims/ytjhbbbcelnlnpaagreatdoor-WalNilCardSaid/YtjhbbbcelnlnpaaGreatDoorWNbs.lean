/- slices.Backward's iterator over a slice of uint32. -/
import Derived.Test.YtjhbbbcelnlnpaaGreatDoorWNao
import Derived.Test.YtjhbbbcelnlnpaaGreatDoorWNbr
import Derived.RangeFuncBox
import Derived.Shelf.Abstract
import Derived.WalkKit
import Derived.OwnWalkIn
import Derived.TacticsInMore
import Derived.LoopNIn
import Derived.LoopIn
namespace Go.Proofs.YtjhbbbcelnlnpaaGreatDoor
open Go.RowKit Go.Shelf
attribute [local go_sem] Oper.semAt_some

theorem back_at:BackAt Tryz.prog 66 .u32:=by
  intro n l pb po sv xs J Jx W hn hxs hcell hsv hY h0
  rcases hsv with ⟨rfl, rfl⟩ | ⟨sb, so, cap, rfl, hcs⟩
  · refine callsIn_of_wp Tryz.func66 rfl trivial ?_ rfl
    simp only [Tryz.ntmps66, List.size_toArray, List.length_cons, List.length_nil, Nat.reduceAdd, Nat.reduceSub, Array.replicate_succ, Array.replicate_zero, List.push_toArray, List.append_toArray, List.nil_append, List.cons_append]
    have hc0:=hcell _ _ h0
    gi_wp2
    gi_loopw [3] (fun i wr=>i=.int .i64 (-1)∧J 0 wr) (fun _ _=>0)
    case atStart=>exact ⟨rfl, h0⟩
    case round =>
      obtain ⟨rfl, hJs⟩:=hrel
      gi_wp2
      go_end0
      exact ⟨⟨_, rfl⟩, .inl hJs⟩
  · refine callsIn_of_wp Tryz.func66 rfl trivial ?_ rfl
    simp only [Tryz.ntmps66, List.size_toArray, List.length_cons, List.length_nil, Nat.reduceAdd, Nat.reduceSub, Array.replicate_succ, Array.replicate_zero, List.push_toArray, List.append_toArray, List.nil_append, List.cons_append]
    have hc0:=hcell _ _ h0
    gi_wp2
    gi_loopw [3] (fun i wr=>∃ k:Nat, k≤xs.length∧i=.int .i64 ((k:Int) - 1)∧J k wr) (fun i _=>(intOf i + 1).toNat)
    case atStart=>exact ⟨xs.length, Nat.le_refl _, by simp, h0⟩
    case round =>
      obtain ⟨k, hk, rfl, hJs⟩:=hrel
      have hcx:=hcell _ _ hJs
      have hel:=hcs _ _ hJs
      cases k with
      | zero =>
        gi_wp2
        go_end0
        exact ⟨⟨_, rfl⟩, .inl hJs⟩
      | succ k =>
        have hlt:k<xs.length:=hk
        have hcx':=hel k hlt
        have hyk:=hY k wr hJs hlt
        generalize xs[k]?.getD 0=x at hcx' hyk
        clear hel
        obtain ⟨fn, tmps, assign, body, hy, hR⟩:=hyk
        have e:((k + 1:Nat):Int) - 1=(k:Int):=by omega
        rw [e]
        have h0k:(0:Int)≤(k:Int):=Int.natCast_nonneg k
        gi_wp2
        refine hR.mono ?_
        rintro e W3 (⟨rfl, hJ3⟩ | ⟨rfl, hJx3⟩)
        · gi_wp2
          go_roundw
          case rel=>exact ⟨k, by omega, rfl, hJ3⟩
          case measure=>simp [intOf]
        · gi_wp2
          refine bodyPost_ret (results_none rfl _ _ _) rfl ?_
          exact ⟨⟨_, rfl⟩, .inr hJx3⟩
end Go.Proofs.YtjhbbbcelnlnpaaGreatDoor
