/- The rules of the small program logic are right: texts, cuts, append, literals. -/
import Derived.Test.YtfghglacfjncmaaWAbsE
import Derived.Lib.ConvBytes
namespace Go.Proofs.Ytfghglacfjncmaa
set_option linter.unusedVariables false
set_option linter.unusedSimpArgs false
open Go.RowKit

section
variable {P : Program} {B : Nat} {w0 : World} {μ : Mu} {H : AH} {w : World}

theorem byteCells_length (s : ByteArray) : (byteCells s).length = s.size := by simp [byteCells]
theorem byteCells_at (s : ByteArray) (j : Nat) (v : Value) (h : (byteCells s)[j]? = some v) : j < s.size ∧ v = .int .u8 (s.data.toList.getD j 0).toNat := by
  have hlt := (List.getElem?_eq_some_iff.1 h).1
  rw [byteCells_length] at hlt
  refine ⟨hlt, ?_⟩
  simp only [byteCells, List.getElem?_map, Option.map_eq_some_iff] at h
  obtain ⟨b, hb, rfl⟩ := h
  rw [List.getD_eq_getElem?_getD, hb]; rfl

/-- The bytes of a text, in a new row. -/
theorem bytes_ok (hr : Rel B w0 μ H w) {src dst e : TypeId} (hs : P.underlying src = some .string) (hd : P.underlying dst = some (.slice e)) (he : P.underlying e = some (.int .u8)) (s : ByteArray) {K : KV}
    (h : K (.slice (some ⟨H.next, 0, none⟩) s.size 0) (H.push (.row (byteCells s) 1))) : SemOK P B w0 μ w (convert src dst (.string s)) K := by
  have hge := grownCap_ge w s.size 0 e
  have hle := Mu.put_le hr.fresh ⟨w.heap.size, 0, grownCap w s.size 0 e, 1⟩
  have hcs : (Lib.bytesCells w e s).size = grownCap w s.size 0 e := by
    simp only [Lib.bytesCells, Array.size_append, Array.size_map, Array.size_replicate]
    show s.size + _ = _
    omega
  have hcell : ∀ j, j < s.size → (Lib.bytesCells w e s)[j]? = some (.int .u8 (s.data.toList.getD j 0).toNat) := by
    intro j hj
    have := Lib.bytesWorld_cell w e s j hj
    simp only [World.cell?, Lib.bytesWorld_at_new] at this
    simpa using this
  refine ⟨_, _, _, _, _, Lib.run_convert_string_bytes w src dst e s hs hd he, h, hle, ?_, ?_⟩
  · refine Rel.push (p := ⟨w.heap.size, 0, grownCap w s.size 0 e, 1⟩) (w := w) (obj := .cells (Lib.bytesCells w e s) e ((Lib.bytesCells w e s).size, (Lib.bytesCells w e s).size + 1)) hr ?_ rfl rfl rfl rfl ?_
    · apply Array.ext_getElem?
      intro j
      by_cases hj : j < w.heap.size
      · rw [Lib.bytesWorld_at_old w e s j hj, Array.getElem?_push, if_neg (by omega)]
      · by_cases e1 : j = w.heap.size
        · subst e1; rw [Lib.bytesWorld_at_new, Array.getElem?_push_size]
        · rw [Array.getElem?_eq_none (by rw [Lib.bytesWorld_size]; omega), Array.getElem?_eq_none (by simp; omega)]
    · refine ⟨rfl, hr.size, _, _, _, Lib.bytesWorld_at_new w e s, by simp [hcs], by rw [byteCells_length]; exact hge, ?_, ?_⟩
      · intro j hj
        simp only at hj ⊢
        rw [hcs]; omega
      · intro j v hv
        obtain ⟨hlt, rfl⟩ := byteCells_at s j v hv
        exact ⟨_, by rw [Nat.zero_add]; exact hcell j hlt, .int _ _⟩
  · exact .slice (Mu.put_self _ _) (by simp [capOf]) (.inl (by simp))

theorem foldl_push (ns : List Int) : ∀ (s : ByteArray), ns.foldl (fun r n => r.push (UInt8.ofNat n.toNat)) s = ⟨s.data ++ (ns.map fun n => UInt8.ofNat n.toNat).toArray⟩ := by
  induction ns with
  | nil => intro s; simp
  | cons n ns ih => intro s; rw [List.foldl_cons, ih]; simp [ByteArray.push]

theorem slice_cells (hr : Rel B w0 μ H w) {esz n c : Nat} {a : Option Addr} {x' : Value} (hx : VR μ (.slice a n c) x') {new : List Value} (h : sliceCells H esz (.slice a n c) = some new) :
    (a = none ∧ n = 0 ∧ new = [] ∧ x' = .slice none 0 0) ∨
    ∃ (ad : Addr) (cap : Nat) (l : List Value), x' = .slice (some ad) n cap ∧ (∀ dr, (loadCells ad (n * esz)).run P { w with drawn := dr } = .ok l.toArray { w with drawn := dr }) ∧ l.length = n * esz ∧ LR μ new l.toArray := by
  cases hx with
  | nilslice => simp only [sliceCells] at h; exact .inl ⟨rfl, rfl, by simpa using h.symm, rfl⟩
  | slice hp hc ha =>
    rename_i i k p a' cap
    simp only [sliceCells] at h
    split at h
    · rename_i cs hcs
      split at h
      · rename_i hk
        cases h
        rcases ha with rfl | ⟨h0, h00⟩
        · obtain ⟨l, h1, h2, h3⟩ := piece_ok (P := P) hr hp hcs hk
          exact .inr ⟨_, _, l, rfl, h1, h2, h3⟩
        · subst h0
          exact .inr ⟨a', cap, [], rfl, by simp [loadCells, loadCellsFrom], by simp, by simp [LR]⟩
      · cases h
    · cases h

theorem bytesStr_ok (hr : Rel B w0 μ H w) {a : Option Addr} {n c : Nat} {x' : Value} (hx : VR μ (.slice a n c) x') {cs : List Value} (h : sliceCells H 1 (.slice a n c) = some cs) (hb : cs.all isByte = true) :
    (Conv.bytesToString x').run P w = .ok (.string (bytesOfCells cs)) w := by
  rcases slice_cells (P := P) hr hx h with ⟨rfl, rfl, rfl, rfl⟩ | ⟨ad, cap, l, rfl, h1, h2, h3⟩
  · simp [Conv.bytesToString, bytesOfCells]; rfl
  · replace h1 : (loadCells ad (n * 1)).run P w = .ok l.toArray w := h1 w.drawn
    have hlen : cs.length = l.length := by simpa using h3.1
    have heq : l = cs := by
      apply List.ext_getElem?
      intro j
      by_cases hj : j < cs.length
      · have hcj : cs[j]? = some cs[j] := by simp [hj]
        obtain ⟨v', g1, g2⟩ := h3.2 j _ hcj
        have hby : isByte cs[j] = true := List.all_eq_true.1 hb _ (List.getElem_mem hj)
        have : v' = cs[j] := by
          cases hv : cs[j] with
          | int k m => rw [hv] at g2; cases g2; rfl
          | _ => rw [hv] at hby; simp [isByte] at hby
        rw [hcj, ← this]
        simpa using g1
      · rw [List.getElem?_eq_none (by omega), List.getElem?_eq_none (by omega)]
    subst heq
    have hall : ∀ v ∈ l, ∃ n, v = Value.int .u8 n := by
      intro v hv
      have := List.all_eq_true.1 hb v hv
      cases v with
      | int k m => cases k <;> simp [isByte] at this; exact ⟨m, rfl⟩
      | _ => simp [isByte] at this
    have hns : l = (l.map intOf).map (Value.int .u8) := by
      rw [List.map_map]
      refine (List.map_congr_left (f := id) fun v hv => ?_).symm.trans (by simp) |>.symm
      obtain ⟨m, rfl⟩ := hall v hv
      rfl
    rw [Nat.mul_one, hns] at h1
    rw [run_bytesToString w ad n cap _ h1, foldl_push]
    have hm : (l.map intOf).map (fun n : Int => UInt8.ofNat n.toNat) = l.map (fun v => match v with | .int _ n => UInt8.ofNat n.toNat | _ => 0) := by
      rw [List.map_map]
      exact List.map_congr_left fun v hv => by obtain ⟨m, rfl⟩ := hall v hv; rfl
    rw [hm]
    have he : ∀ (x : Array UInt8), ByteArray.empty.data ++ x = x := fun x => by show #[] ++ x = x; simp
    rw [he]
    rfl

theorem convert_ok (hr : Rel B w0 μ H w) {src dst : TypeId} {x x' : Value} (hx : VR μ x x') {K : KV} (h : aConvert P src dst x H K) : SemOK P B w0 μ w (convert src dst x') K := by
  unfold aConvert at h
  split at h
  · rename_i k k0 n hd
    cases hx
    obtain ⟨h1, h2, h3⟩ := h
    obtain ⟨d, hs⟩ := Option.isSome_iff_exists.1 h2
    exact ReadOK.sem hr ⟨_, _, by simp [convert, run_und hs, run_und hd, Conv.intToInt], h3, .int _ _⟩
  · rename_i s hd
    cases hx
    obtain ⟨h2, h3⟩ := h
    obtain ⟨d, hs⟩ := Option.isSome_iff_exists.1 h2
    exact ReadOK.sem hr ⟨_, _, by simp [convert, run_und hs, run_und hd], h3, .string _⟩
  · rename_i e s hd
    cases hx
    obtain ⟨hs, h1, h2, h3, h4⟩ := h
    exact bytes_ok hr hs hd h2 s h4
  · rename_i a l c hd
    obtain ⟨⟨e, hs, he⟩, h⟩ := h
    split at h
    · rename_i cs hcs
      obtain ⟨h1, h2⟩ := h
      have hb := bytesStr_ok (P := P) hr hx hcs h1
      refine ReadOK.sem hr ⟨_, _, ?_, h2, .string _⟩
      cases hx with
      | nilslice => rw [← hb]; simp [convert, run_und hs, run_und hd, run_und he]
      | slice _ _ _ => rw [← hb]; simp [convert, run_und hs, run_und hd, run_und he]
    · exact h.elim
  · exact h.elim

theorem len_ok (hr : Rel B w0 μ H w) {t : TypeId} {x : Value} {x' : Value} {K : Value → Prop} {types : Array TypeId} {ty : TypeId} {args : Array Value} (ht : types[0]? = some t) (ha : args[0]? = some x') (hx : VR μ x x') (h : aLen P t x H K) :
    ReadOK P μ w (Builtin.len_ types ty args) K := by
  unfold aLen at h
  split at h
  · cases hx
    exact ⟨_, _, by simp [Builtin.len_, ht, ha, run_und h.1]; rfl, h.2, .int _ _⟩
  · obtain ⟨⟨e, he⟩, h⟩ := h
    cases hx with
    | nilslice => exact ⟨_, _, by simp [Builtin.len_, ht, ha, run_und he]; rfl, h, .int _ _⟩
    | slice _ _ _ => exact ⟨_, _, by simp [Builtin.len_, ht, ha, run_und he]; rfl, h, .int _ _⟩
  · obtain ⟨⟨k, e, he⟩, h⟩ := h
    cases hx
    exact ⟨_, _, by simp [Builtin.len_, ht, ha, run_und he]; rfl, h, .int _ _⟩
  · obtain ⟨⟨k, e, he⟩, h⟩ := h
    split at h
    · rename_i es hg
      cases hx with
      | map hp =>
        obtain ⟨p, hp', h1, en, cl, h3, h4, h5⟩ := hr.obj _ _ hg
        rw [hp] at hp'; cases hp'
        refine ⟨_, _, ?_, h, .int _ _⟩
        simp [Builtin.len_, ht, ha, run_und he, getObj, Sem.run, h3, goInt, h4]
    · exact h.elim
  · exact h.elim

theorem len_pure {t : TypeId} {x : Value} {x' : Value} {K : Value → Prop} {types : Array TypeId} {ty : TypeId} {args : Array Value} (ht : types[0]? = some t) (ha : args[0]? = some x') (hx : VR μ x x')
    (hs : (match P.underlying t with | some .string | some (.slice _) => true | _ => false) = true) (h : aLen P t x H K) : PureOK P μ (Builtin.len_ types ty args) K := by
  unfold aLen at h
  split at h
  · cases hx
    exact ⟨_, _, fun w => by simp [Builtin.len_, ht, ha, run_und h.1]; rfl, h.2, .int _ _⟩
  · obtain ⟨⟨e, he⟩, h⟩ := h
    cases hx with
    | nilslice => exact ⟨_, _, fun w => by simp [Builtin.len_, ht, ha, run_und he]; rfl, h, .int _ _⟩
    | slice _ _ _ => exact ⟨_, _, fun w => by simp [Builtin.len_, ht, ha, run_und he]; rfl, h, .int _ _⟩
  · obtain ⟨⟨k, e, he⟩, h⟩ := h
    rw [he] at hs; simp at hs
  · obtain ⟨⟨k, e, he⟩, h⟩ := h
    rw [he] at hs; simp at hs
  · exact h.elim

end
end Go.Proofs.Ytfghglacfjncmaa
