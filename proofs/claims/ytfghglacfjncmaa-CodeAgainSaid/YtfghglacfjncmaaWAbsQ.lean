/- Arguments of whatever shape (numbers, texts, truths, structs, slices of such): what came in lies as objects that are only read. -/
import Derived.Test.YtfghglacfjncmaaWAbsO
import Derived.SizedLaws
namespace Go.Proofs.Ytfghglacfjncmaa
set_option linter.unusedVariables false
set_option linter.unusedSimpArgs false
open Go.RowKit Go.ChangeShapes Go.WideShapes Go.Deep

/-- Kinds of cells. -/
inductive SK
  | int (k : IntKind)
  | str
  | bool
  | sl (esz : Nat) (ks : List SK)

/-- How many bytes cells take in memory. -/
def SK.bw : SK → Nat
  | .int k => k.bits / 8
  | .str => 16
  | .bool => 1
  | .sl _ _ => 24
def bw (ks : List SK) : Nat := (ks.map SK.bw).sum

/-- What cells hold. -/
inductive CD
  | i (k : IntKind) (n : Int)
  | s (b : ByteArray)
  | b (b : Bool)
  | n
  | l (esz : Nat) (es : List (List CD))

def kindsF (P : Program) (kt : TypeId → Option (List SK)) : List Field → Nat → Option (List SK)
  | [], _ => some []
  | f :: fs, off =>
    match kt f.type with
    | none => none
    | some ks =>
      match f.offset == off && ks.length == P.cellsOf f.type with
      | true => (kindsF P kt fs (off + ks.length)).map (ks ++ ·)
      | false => none

def kindsT (P : Program) : Nat → TypeId → Option (List SK)
  | 0, _ => none
  | n + 1, t =>
    match P.underlying t with
    | some (.int k) => some [.int k]
    | some .string => some [.str]
    | some .bool => some [.bool]
    | some (.slice e) =>
      match kindsT P n e with
      | some ks =>
        match ks.length == P.cellsOf e && ks.length != 0 && decide (bw ks ≤ P.bytesOf e) with
        | true => some [.sl ks.length ks]
        | false => none
      | none => none
    | some (.struct fs) =>
      match kindsF P (kindsT P n) fs.toList 0 with
      | some ks =>
        match ks.length == P.cellsOf t with
        | true => some ks
        | false => none
      | none => none
    | _ => none

inductive Kd : SK → CD → Prop
  | i {k : IntKind} {n : Int} : (Lit.int k n).wf = true → Kd (.int k) (.i k n)
  | s {b : ByteArray} : b.size ≤ reachBytes → Kd .str (.s b)
  | b {b : Bool} : Kd .bool (.b b)
  | n {z : Nat} {ks : List SK} : Kd (.sl z ks) .n
  | l {z : Nat} {ks : List SK} {es : List (List CD)} : es.length * bw ks ≤ reachBytes → (∀ e ∈ es, e.length = ks.length) → (∀ e ∈ es, ∀ (j : Nat) k d, ks[j]? = some k → e[j]? = some d → Kd k d) → Kd (.sl z ks) (.l z es)

/-- A value that holds it, in a memory. -/
inductive Lie (H : AH) : CD → Value → Prop
  | i {k : IntKind} {n : Int} : Lie H (.i k n) (.int k n)
  | s {b : ByteArray} : Lie H (.s b) (.string b)
  | b {b : Bool} : Lie H (.b b) (.bool b)
  | n : Lie H .n (.slice none 0 0)
  | l {z i c : Nat} {es : List (List CD)} {vs : List Value} : (es ≠ [] → Has H i (.ro vs z)) → vs.length = es.length * z → es.flatten.length = es.length * z → (∀ (j : Nat) d v, es.flatten[j]? = some d → vs[j]? = some v → Lie H d v) →
      Lie H (.l z es) (.slice (some ⟨i, 0, none⟩) es.length (c + 1))

theorem Lie.fr {H H' : AH} (x : Fr [] H H') {d : CD} {v : Value} (h : Lie H d v) : Lie H' d v := by
  induction h with
  | i => exact .i
  | s => exact .s
  | b => exact .b
  | n => exact .n
  | l h1 h2 h3 _ ih => exact .l (fun e => (h1 e).fr x (by simp)) h2 h3 ih

/-- Cells that hold a row. -/
structure Lies (H : AH) (ds : List CD) (vs : List Value) : Prop where
  len : ds.length = vs.length
  at_ : ∀ (j : Nat) d v, ds[j]? = some d → vs[j]? = some v → Lie H d v
structure Kds (ks : List SK) (ds : List CD) : Prop where
  len : ds.length = ks.length
  at_ : ∀ (j : Nat) k d, ks[j]? = some k → ds[j]? = some d → Kd k d
theorem Lies.fr {H H' : AH} (x : Fr [] H H') {d : List CD} {v : List Value} (h : Lies H d v) : Lies H' d v := ⟨h.len, fun j d v h1 h2 => (h.at_ j d v h1 h2).fr x⟩
theorem Lies.nil (H : AH) : Lies H [] [] := ⟨rfl, fun j d v h => by simp at h⟩
theorem Lies.app {H : AH} {d1 d2 : List CD} {v1 v2 : List Value} (h1 : Lies H d1 v1) (h2 : Lies H d2 v2) : Lies H (d1 ++ d2) (v1 ++ v2) := by
  refine ⟨by simp [h1.len, h2.len], fun j d v hd hv => ?_⟩
  by_cases hj : j < d1.length
  · rw [List.getElem?_append_left hj] at hd
    rw [List.getElem?_append_left (by rw [← h1.len]; exact hj)] at hv
    exact h1.at_ j d v hd hv
  · rw [List.getElem?_append_right (by omega)] at hd
    rw [List.getElem?_append_right (by rw [← h1.len]; omega), ← h1.len] at hv
    exact h2.at_ _ d v hd hv
theorem Kds.nil : Kds [] [] := ⟨rfl, fun j d v h => by simp at h⟩
theorem Kds.app {k1 k2 : List SK} {d1 d2 : List CD} (h1 : Kds k1 d1) (h2 : Kds k2 d2) : Kds (k1 ++ k2) (d1 ++ d2) := by
  refine ⟨by simp [h1.len, h2.len], fun j k d hk hd => ?_⟩
  by_cases hj : j < d1.length
  · rw [List.getElem?_append_left hj] at hd
    rw [List.getElem?_append_left (by rw [← h1.len]; exact hj)] at hk
    exact h1.at_ j k d hk hd
  · rw [List.getElem?_append_right (by omega)] at hd
    rw [List.getElem?_append_right (by rw [← h1.len]; omega), ← h1.len] at hk
    exact h2.at_ _ k d hk hd

/-! Opening. -/
def AH.pushO (H : AH) (o : Option AObj) : AH := { next := H.next + 1, get := fun j => if j = H.next then o else H.get j, tys := H.tys }
theorem Fr.pushO (H : AH) (o : Option AObj) : Fr [] H (H.pushO o) := ⟨Nat.le_succ _, fun i hi _ => by show (if i = H.next then o else H.get i) = _; rw [if_neg (by omega)], fun _ _ => rfl⟩
def AllRo (H : AH) : Prop := ∀ i o, H.get i = some o → o.rw = false

section
variable {E : Type} {enc : TypeId × Value → E} {P : Program} {w : World} {held : Bool} {B : Nat}

theorem Rel.pushRo {μ : Mu} {H : AH} (hr : Rel B w μ H w) (ha : AllRo H) (p : Pl) (o : Option AObj) (ho : ∀ x, o = some x → x.rw = false ∧ ObjR B (μ.put H.next p) w p x) :
    Rel B w (μ.put H.next p) (H.pushO o) w ∧ AllRo (H.pushO o) := by
  have hle : Mu.le μ (μ.put H.next p) := Mu.put_le hr.fresh p
  have hro : AllRo (H.pushO o) := by
    intro i x hx
    replace hx : (if i = H.next then o else H.get i) = some x := hx
    split at hx
    · exact (ho x hx).1
    · exact ha i x hx
  refine ⟨⟨hr.below, hr.size, fun i q hq => ?_, fun i x hx => ?_, fun i j x x' q q' hne hx hrw => ?_, fun i x hx => let ⟨q, n, a, b, c⟩ := hr.tys i x hx; ⟨q, n, hle _ _ a, b, c⟩⟩, hro⟩
  · show i < H.next + 1
    unfold Mu.put at hq
    split at hq
    · omega
    · have := hr.fresh i q hq; omega
  · replace hx : (if i = H.next then o else H.get i) = some x := hx
    split at hx
    · rename_i hi
      subst hi
      exact ⟨p, Mu.put_self _ _, (ho x hx).2⟩
    · obtain ⟨q, hq, hq2⟩ := hr.obj i x hx
      exact ⟨q, hle i q hq, hq2.mono hle rfl⟩
  · rw [hro i x hx] at hrw
    cases hrw

/-- What an opening gives. -/
structure Opened (P : Program) (B : Nat) (w : World) (H : AH) (μ : Mu) (H' : AH) (μ' : Mu) (cs : List Value) (vs : List Value) (ks : List SK) (ds : List CD) : Prop where
  fr : Fr [] H H'
  le : Mu.le μ μ'
  rel : Rel B w μ' H' w
  ro : AllRo H'
  lr : LR μ' vs cs.toArray
  lies : Lies H' ds vs
  kds : Kds ks ds

theorem LR.nil' (μ : Mu) : LR μ [] ([] : List Value).toArray := ⟨rfl, fun j v h => by simp at h⟩
theorem LR.app' {μ : Mu} {a b c d : List Value} (h1 : LR μ a c.toArray) (h2 : LR μ b d.toArray) : LR μ (a ++ b) (c ++ d).toArray := by
  have := h1.append h2
  simpa using this
theorem LR.one {μ : Mu} {v v' : Value} (h : VR μ v v') : LR μ [v] [v'].toArray := ⟨rfl, fun j x hj => by
  cases j with
  | zero => simp at hj; subst hj; exact ⟨v', rfl, h⟩
  | succ j => simp at hj⟩

theorem Lies.one {H : AH} {d : CD} {v : Value} (h : Lie H d v) : Lies H [d] [v] := ⟨rfl, fun j d' v' h1 h2 => by
  cases j with
  | zero => simp at h1 h2; subst h1; subst h2; exact h
  | succ j => simp at h1⟩
theorem Kds.one {k : SK} {d : CD} (h : Kd k d) : Kds [k] [d] := ⟨rfl, fun j d' v' h1 h2 => by
  cases j with
  | zero => simp at h1 h2; subst h1; subst h2; exact h
  | succ j => simp at h1⟩

theorem Opened.plain {H : AH} {μ : Mu} {v : Value} {k : SK} {d : CD} (hr : Rel B w μ H w) (ha : AllRo H) (hv : VR μ v v) (hl : Lie H d v) (hk : Kd k d) : Opened P B w H μ H μ [v] [v] [k] [d] :=
  ⟨Fr.refl _ _, Mu.le_refl _, hr, ha, LR.one hv, Lies.one hl, Kds.one hk⟩

theorem weights_memAll {e : TypeId} : ∀ {ds : List (DataW E)} {d : DataW E}, d ∈ ds → ∀ n ∈ d.weights P e, n ∈ DataW.weightsAll P e ds
  | d0 :: ds, d, h, n, hn => by
    simp only [DataW.weightsAll, List.mem_append]
    rcases List.mem_cons.1 h with rfl | h
    · exact .inl hn
    · exact .inr (weights_memAll h n hn)
abbrev OpenAt (enc : TypeId × Value → E) (P : Program) (w : World) (held : Bool) (B : Nat) (n : Nat) (t : TypeId) (ks : List SK) : Prop :=
  ∀ (fuel : Nat) (cs : List Value) (x : DataW E × List MemPlace) (H : AH) (μ : Mu), DataW.trod enc P w 0 (fun _ => true) held fuel t cs = some x → (∀ n ∈ x.1.weights P t, n ≤ reachBytes) → Rel B w μ H w → AllRo H →
    ∃ H' μ' vs ds, Opened P B w H μ H' μ' cs vs ks ds

theorem open_fields {kt : TypeId → Option (List SK)} (ih : ∀ t ks, kt t = some ks → OpenAt enc P w held B 0 t ks) (fuel : Nat) (cs : List Value) :
    ∀ (fl : List Field) (off : Nat) (ks : List SK) (H : AH) (μ : Mu), kindsF P kt fl off = some ks → (∀ f ∈ fl, ∃ x, DataW.trod enc P w 0 (fun _ => true) held fuel f.type ((cs.drop f.offset).take (P.cellsOf f.type)) = some x ∧ ∀ n ∈ x.1.weights P f.type, n ≤ reachBytes) → Rel B w μ H w → AllRo H →
      ∃ H' μ' vs ds, Opened P B w H μ H' μ' ((cs.drop off).take ks.length) vs ks ds := by
  intro fl
  induction fl with
  | nil =>
    intro off ks H μ hk _ hr ha
    simp only [kindsF, Option.some.injEq] at hk
    subst hk
    exact ⟨H, μ, [], [], Fr.refl _ _, Mu.le_refl _, hr, ha, by simpa using LR.nil' μ, Lies.nil _, Kds.nil⟩
  | cons f fl ihl =>
    intro off ks H μ hk hf hr ha
    simp only [kindsF] at hk
    split at hk
    · cases hk
    · rename_i k1 hk1
      split at hk
      · rename_i hc
        simp only [Bool.and_eq_true, beq_iff_eq] at hc
        rw [Option.map_eq_some_iff] at hk
        obtain ⟨k2, hk2, rfl⟩ := hk
        obtain ⟨x, hx, hxw⟩ := hf f (by simp)
        obtain ⟨H1, μ1, v1, d1, o1⟩ := ih _ _ hk1 fuel _ x H μ hx hxw hr ha
        obtain ⟨H2, μ2, v2, d2, o2⟩ := ihl _ _ H1 μ1 hk2 (fun g hg => hf g (by simp [hg])) o1.rel o1.ro
        refine ⟨H2, μ2, v1 ++ v2, d1 ++ d2, o1.fr.trans o2.fr, Mu.le_trans o1.le o2.le, o2.rel, o2.ro, ?_, (o1.lies.fr o2.fr).app o2.lies, o1.kds.app o2.kds⟩
        have h1 := o1.lr.mono o2.le
        rw [hc.1, ← hc.2] at h1
        have := h1.app' o2.lr
        rw [← List.drop_drop] at this
        rwa [List.length_append, List.take_add]
      · cases hk

theorem open_elems' {e : TypeId} {ks : List SK} (hz : ks.length = P.cellsOf e) (ih : OpenAt enc P w held B 0 e ks) (a : Addr) (fuel : Nat) :
    ∀ (len : Nat) (H : AH) (μ : Mu), (∀ i, i < len → ∃ cs' x, w.cells? 0 (a.add (i * P.cellsOf e)) (P.cellsOf e) = some cs' ∧ DataW.trod enc P w 0 (fun _ => true) held fuel e cs' = some x ∧ ∀ n ∈ x.1.weights P e, n ≤ reachBytes) → Rel B w μ H w → AllRo H →
      ∃ (H' : AH) (μ' : Mu) (cs vs : List Value) (es : List (List CD)), Fr [] H H' ∧ Mu.le μ μ' ∧ Rel B w μ' H' w ∧ AllRo H' ∧ LR μ' vs cs.toArray ∧ Lies H' (List.flatten es) vs ∧ (es.length = len ∧ cs.length = len * ks.length) ∧ (∀ x ∈ es, Kds ks x) ∧
        (∀ (j : Nat) v, cs[j]? = some v → w.cell? (a.add j) = some v) := by
  intro len
  induction len with
  | zero =>
    intro H μ _ hr ha
    exact ⟨H, μ, [], [], [], Fr.refl _ _, Mu.le_refl _, hr, ha, LR.nil' μ, Lies.nil _, ⟨rfl, by simp⟩, fun x hx => by simp at hx, fun j v h => by simp at h⟩
  | succ len ihl =>
    intro H μ hi hr ha
    obtain ⟨H1, μ1, c1, v1, e1, f1, l1, r1, a1, lr1, li1, ⟨n1, m1⟩, k1, w1⟩ := ihl H μ (fun i h => hi i (by omega)) hr ha
    obtain ⟨cs', x, hc, hx, hxw⟩ := hi len (by omega)
    obtain ⟨H2, μ2, v2, d2, o2⟩ := ih fuel cs' x H1 μ1 hx hxw r1 a1
    obtain ⟨_, hcl, hat⟩ := World.cells?_some hc
    refine ⟨H2, μ2, c1 ++ cs', v1 ++ v2, e1 ++ [d2], f1.trans o2.fr, Mu.le_trans l1 o2.le, o2.rel, o2.ro, (lr1.mono o2.le).app' o2.lr, ?_, ⟨by simp [n1], ?_⟩, ?_, ?_⟩
    · rw [List.flatten_append]
      simpa using (li1.fr o2.fr).app o2.lies
    · rw [List.length_append, m1, hcl, hz, Nat.add_mul]; omega
    · intro y hy
      rcases List.mem_append.1 hy with hy | hy
      · exact k1 y hy
      · rw [List.mem_singleton] at hy; subst hy; exact o2.kds
    · intro j v hj
      by_cases hlt : j < c1.length
      · rw [List.getElem?_append_left hlt] at hj
        exact w1 j v hj
      · rw [List.getElem?_append_right (by omega)] at hj
        have hjl := (List.getElem?_eq_some_iff.1 hj).1
        have := hat (j - c1.length) (by omega)
        rw [hj, Go.Deep.add_add] at this
        rw [← this]
        congr 2
        rw [m1, ← hz]
        rw [m1] at hlt
        omega

theorem open_kinds (n : Nat) : ∀ (t : TypeId) (ks : List SK), kindsT P n t = some ks → OpenAt enc P w held B 0 t ks := by
  induction n with
  | zero => intro t ks h; cases h
  | succ n ih =>
    intro t ks hk fuel cs x H μ hx hwt hr ha
    simp only [kindsT] at hk
    split at hk
    · rename_i k ht
      cases hk
      obtain ⟨m, rfl, _, hw⟩ := DataW.trod_int ht hx
      exact ⟨H, μ, _, _, Opened.plain hr ha (.int _ _) .i (.i hw)⟩
    · rename_i ht
      cases hk
      obtain ⟨m, rfl, rfl, _⟩ := DataW.trod_string ht hx
      have hw := hwt m.data.toList.length (by simp [DataW.weights])
      rw [Array.length_toList] at hw
      exact ⟨H, μ, _, _, Opened.plain hr ha (.string _) .s (.s hw)⟩
    · rename_i ht
      cases hk
      obtain ⟨m, rfl, _⟩ := DataW.trod_bool ht hx
      exact ⟨H, μ, _, _, Opened.plain hr ha (.bool _) .b .b⟩
    · rename_i e ht
      split at hk
      · rename_i ks' hke
        split at hk
        · rename_i hc
          cases hk
          simp only [Bool.and_eq_true, beq_iff_eq, bne_iff_ne, decide_eq_true_eq] at hc
          rcases open_slice ht hx with h0 | ⟨a, len, cap, m, f, D, Pl', hcs, _, hl, hm, hmm, hxe, hi⟩
          · obtain ⟨rfl, _⟩ := h0
            exact ⟨H, μ, _, _, Opened.plain hr ha .nilslice .n .n⟩
          · subst hcs
            have hmc : m = cap := by rw [hmm, if_pos rfl]
            obtain ⟨H1, μ1, c1, v1, es, f1, l1, r1, a1, lr1, li1, ⟨n1, m1⟩, k1, w1⟩ := open_elems' hc.1.1 (ih e ks' hke) a f len H μ (fun i h => by
              obtain ⟨cs', h1, h2⟩ := hi i (by omega)
              refine ⟨cs', _, h1, h2, fun n hn => hwt n ?_⟩
              rw [hxe]
              simp only [DataW.weights, ht]
              exact List.mem_cons_of_mem _ (List.mem_append_left _ (weights_memAll (List.mem_map.2 ⟨i, List.mem_range.2 h, rfl⟩) n hn))) hr ha
            have hlr : len * bw ks' ≤ reachBytes := by
              have h5 := hwt ((len + (m - len)) * P.bytesOf e) (by
                rw [hxe]
                simp [DataW.weights, ht])
              exact Nat.le_trans (Nat.mul_le_mul (Nat.le_add_right len (m - len)) hc.2) h5
            have hlv : v1.length = len * ks'.length := by rw [lr1.1]; simpa using m1
            have hfl : es.flatten.length = len * ks'.length := by rw [li1.len, hlv]
            have hsp : a = ⟨a.block, a.off, none⟩ ∨ (len = 0 ∧ cap = 0) := by
              by_cases hcap : cap = 0
              · exact .inr ⟨by omega, hcap⟩
              · obtain ⟨cs', h1, h2⟩ := hi 0 (by omega)
                obtain ⟨_, hcl, hat⟩ := World.cells?_some h1
                have h3 := hat 0 (by omega)
                rw [Go.Deep.add_add, List.getElem?_eq_getElem (by omega)] at h3
                exact .inl (addr_eq h3 (by omega))
            obtain ⟨hr2, ha2⟩ := r1.pushRo a1 ⟨a.block, a.off, len * ks'.length, ks'.length⟩ (if es = [] then none else some (.ro v1 ks'.length)) (by
              intro y hy
              split at hy
              · cases hy
              · rename_i hne
                cases hy
                refine ⟨rfl, rfl, ?_⟩
                have hpos : 0 < len * ks'.length := by
                  have : 0 < es.length := List.length_pos_iff.2 hne
                  exact Nat.mul_pos (by omega) (by omega)
                obtain ⟨c, ty, fz, hb, hlast⟩ := cell_at (w1 (len * ks'.length - 1) _ (List.getElem?_eq_getElem (by omega)))
                refine ⟨c, ty, fz, hb, ?_, by show v1.length ≤ len * ks'.length; omega, fun j v hj => ?_⟩
                · have := (Array.getElem?_eq_some_iff.1 hlast).1
                  show a.off + len * ks'.length ≤ c.size
                  omega
                · obtain ⟨v', h1, h2⟩ := lr1.2 j v hj
                  have h1 : c1[j]? = some v' := by simpa using h1
                  obtain ⟨c', ty', fz', hb', hat⟩ := cell_at (w1 j v' h1)
                  have : (Obj.cells c ty fz) = Obj.cells c' ty' fz' := Option.some.inj (hb.symm.trans hb')
                  cases this
                  exact ⟨v', hat, h2.mono (Mu.put_le r1.fresh _)⟩)
            have hfr : Fr [] H1 (H1.pushO (if es = [] then none else some (.ro v1 ks'.length))) := Fr.pushO _ _
            refine ⟨_, _, [.slice (some ⟨H1.next, 0, none⟩) len (cap + 1)], [.l ks'.length es], f1.trans hfr, Mu.le_trans l1 (Mu.put_le r1.fresh _), hr2, ha2, LR.one (.slice (Mu.put_self _ _) rfl (hsp.elim (fun e => .inl e) .inr)), Lies.one ?_, Kds.one ?_⟩
            · rw [← n1]
              refine .l (vs := v1) (fun hne => ⟨?_, Nat.lt_succ_self _⟩) (by rw [hlv, n1]) (by rw [hfl, n1]) (fun j d v h1 h2 => (li1.at_ j d v h1 h2).fr hfr)
              show (if H1.next = H1.next then _ else _) = _
              rw [if_pos rfl, if_neg hne]
            · exact .l (by rw [n1]; exact hlr) (fun y hy => (k1 y hy).len) (fun y hy => (k1 y hy).at_)
        · cases hk
      · cases hk
    · rename_i fs ht
      split at hk
      · rename_i ks' hke
        split at hk
        · rename_i hc
          cases hk
          simp only [beq_iff_eq] at hc
          obtain ⟨xs, f, _, hxe, hcl, hxl, hf⟩ := DataW.trod_struct ht hx
          obtain ⟨H', μ', vs, ds, o⟩ := open_fields (B := B) (held := held) (enc := enc) (w := w) (fun t1 k1 h => ih t1 k1 h) f cs fs.toList 0 ks H μ hke (fun g hg => by
            obtain ⟨i, hi⟩ := List.getElem?_of_mem hg
            have hi' : fs[i]? = some g := by rw [Array.getElem?_toList] at hi; exact hi
            have hlt := (Array.getElem?_eq_some_iff.1 hi').1
            have := hf i g hi'
            rw [List.getElem?_eq_getElem (by omega)] at this
            refine ⟨_, this, fun n hn => hwt n ?_⟩
            rw [hxe]
            simp only [DataW.weights, ht]
            refine DataW.weights_mem_each (j := i) (t := g.type) (d := xs[i].1) ?_ ?_ n hn
            · rw [List.getElem?_map, hi]; rfl
            · rw [List.getElem?_map, List.getElem?_eq_getElem (by omega)]; rfl) hr ha
          refine ⟨H', μ', vs, ds, ?_⟩
          rw [List.drop_zero, List.take_of_length_le (by omega)] at o
          exact o
        · cases hk
      · cases hk
    · cases hk
end
section
variable {E : Type} {enc : TypeId × Value → E} {P : Program} {w : World} {held : Bool} {B : Nat}
theorem LR.vrAgg {μ : Mu} {vs : List Value} {cs : Array Value} (h : LR μ vs cs) : VR μ (.agg vs.toArray) (.agg cs) := by
  refine .agg (by simpa using h.1) fun j v v' h1 h2 => ?_
  obtain ⟨x, g1, g2⟩ := h.2 j v (by simpa using h1)
  rw [g1] at h2
  cases h2
  exact g2
theorem LR.vrOne {μ : Mu} {vs : List Value} {v' : Value} (h : LR μ vs [v'].toArray) : ∃ v, vs = [v] ∧ VR μ v v' := by
  obtain ⟨h1, h2⟩ := h
  match vs, h1, h2 with
  | [v], _, h2 =>
    obtain ⟨x, g1, g2⟩ := h2 0 v rfl
    simp at g1
    subst g1
    exact ⟨v, rfl, g2⟩
  | [], h1, _ => simp at h1
  | _ :: _ :: _, h1, _ => simp at h1
/-- A parameter that is a struct. -/
theorem open_agg (n : Nat) {base : Nat} {t : TypeId} {fs : Array Field} {ks : List SK} {v : Value} {d : DataW E} {p : List MemPlace} {H : AH} {μ : Mu} (ht : P.underlying t = some (.struct fs)) (hk : kindsT P n t = some ks) (hv : Value.okWide P w .any base t v)
    (h : DataW.Trod enc P w 0 (fun _ => true) held t v d p) (hwt : ∀ n ∈ d.weights P t, n ≤ reachBytes) (hr : Rel B w μ H w) (ha : AllRo H) :
    ∃ H' μ' vs ds, Fr [] H H' ∧ Mu.le μ μ' ∧ Rel B w μ' H' w ∧ AllRo H' ∧ VR μ' (.agg vs.toArray) v ∧ Lies H' ds vs ∧ Kds ks ds := by
  unfold Value.okWide at hv
  rw [ht] at hv
  obtain ⟨cs, rfl, _⟩ := hv
  obtain ⟨fuel, hf⟩ := h
  obtain ⟨H', μ', vs, ds, o⟩ := open_kinds n t ks hk fuel _ _ H μ hf hwt hr ha
  refine ⟨H', μ', vs, ds, o.fr, o.le, o.rel, o.ro, LR.vrAgg ?_, o.lies, o.kds⟩
  have := o.lr
  rw [Array.toArray_toList] at this
  exact this
/-- A parameter that is a slice. -/
theorem open_sl (n : Nat) {base : Nat} {t e : TypeId} {k : SK} {v : Value} {d : DataW E} {p : List MemPlace} {H : AH} {μ : Mu} (ht : P.underlying t = some (.slice e)) (hk : kindsT P n t = some [k]) (hv : Value.okWide P w .any base t v)
    (h : DataW.Trod enc P w 0 (fun _ => true) held t v d p) (hwt : ∀ n ∈ d.weights P t, n ≤ reachBytes) (hr : Rel B w μ H w) (ha : AllRo H) :
    ∃ H' μ' av cd, Fr [] H H' ∧ Mu.le μ μ' ∧ Rel B w μ' H' w ∧ AllRo H' ∧ VR μ' av v ∧ Lie H' cd av ∧ Kd k cd := by
  obtain ⟨a, len, cap, rfl⟩ := okWide_slice ht hv
  obtain ⟨fuel, hf⟩ := h
  obtain ⟨H', μ', vs, ds, o⟩ := open_kinds n t [k] hk fuel _ _ H μ hf hwt hr ha
  obtain ⟨av, rfl, hvr⟩ := LR.vrOne o.lr
  have hl := o.lies.len
  obtain ⟨cd, rfl⟩ : ∃ cd, ds = [cd] := by
    match ds, hl with
    | [cd], _ => exact ⟨cd, rfl⟩
  exact ⟨H', μ', av, cd, o.fr, o.le, o.rel, o.ro, hvr, o.lies.at_ 0 _ _ rfl rfl, o.kds.at_ 0 _ _ rfl rfl⟩
theorem LR.cons {μ : Mu} {v v' : Value} {l l' : List Value} (h : VR μ v v') (k : LR μ l l'.toArray) : LR μ (v :: l) (v' :: l').toArray := (LR.one h).app' k
theorem AllRo0 : AllRo AH0 := fun i o h => by simp [AH0] at h
end

/-! Reading what came in. -/
theorem flat_at {α : Type} {z : Nat} : ∀ (es : List (List α)), (∀ e ∈ es, e.length = z) → ∀ (k : Nat) e, es[k]? = some e → ∀ (j : Nat) d, e[j]? = some d → es.flatten[k * z + j]? = some d := by
  intro es
  induction es with
  | nil => intro _ k e h; simp at h
  | cons x es ih =>
    intro h k e hk j d hj
    have hx := h x (by simp)
    have hjl := (List.getElem?_eq_some_iff.1 hj).1
    rw [List.flatten_cons]
    cases k with
    | zero =>
      simp only [List.getElem?_cons_zero, Option.some.injEq] at hk
      subst hk
      rw [Nat.zero_mul, Nat.zero_add, List.getElem?_append_left hjl]
      exact hj
    | succ k =>
      simp only [List.getElem?_cons_succ] at hk
      rw [List.getElem?_append_right (by rw [Nat.add_mul]; omega), show (k + 1) * z + j - x.length = k * z + j by rw [Nat.add_mul]; omega]
      exact ih (fun y hy => h y (by simp [hy])) k e hk j d hj

/-- A slice that came in: its elements' cells. -/
structure Sl (H : AH) (ks : List SK) (z : Nat) (b : Option Addr) (len cap i : Nat) (vs : List Value) : Prop where
  b : 0 < len → b = some ⟨i, 0, none⟩
  has : 0 < len → Has H i (.ro vs z)
  size : vs.length = len * z
  max : len * bw ks ≤ reachBytes
  at_ : ∀ k, k < len → ∀ (j : Nat) kk, ks[j]? = some kk → ∃ d v, vs[k * z + j]? = some v ∧ Lie H d v ∧ Kd kk d
theorem sl_of {H : AH} {z : Nat} {ks : List SK} {d : CD} {v : Value} (hl : Lie H d v) (hk : Kd (.sl z ks) d) (hz : ks.length = z) : ∃ b len cap i vs, v = .slice b len cap ∧ Sl H ks z b len cap i vs := by
  cases hk with
  | n =>
    cases hl
    exact ⟨none, 0, 0, 0, [], rfl, fun h => absurd h (Nat.lt_irrefl _), fun h => absurd h (Nat.lt_irrefl _), by simp, by rw [Nat.zero_mul]; exact Nat.zero_le _, fun k hk => absurd hk (Nat.not_lt_zero _)⟩
  | l h1 h2 h3 =>
    rename_i es
    cases hl with
    | l g1 g2 g3 g4 =>
      rename_i i c vs
      refine ⟨_, _, _, i, vs, rfl, fun _ => rfl, fun h => g1 (List.length_pos_iff.1 h), g2, h1, fun k hk j kk hj => ?_⟩
      have he : es[k]? = some es[k] := List.getElem?_eq_getElem hk
      have hel := h2 _ (List.getElem_mem hk)
      have hjl := (List.getElem?_eq_some_iff.1 hj).1
      have hd : es[k][j]? = some (es[k][j]'(by omega)) := List.getElem?_eq_getElem (by omega)
      have hf := flat_at es (fun e he => (h2 e he).trans hz) k _ he j _ hd
      have hfl := (List.getElem?_eq_some_iff.1 hf).1
      have hv : vs[k * z + j]? = some (vs[k * z + j]'(by omega)) := List.getElem?_eq_getElem (by omega)
      exact ⟨_, _, hv, g4 _ _ _ hf hv, h3 _ (List.getElem_mem hk) j kk _ hj hd⟩
section
variable {H H' : AH} {ks : List SK} {z : Nat} {b : Option Addr} {len cap i : Nat} {vs : List Value}
theorem Sl.fr (h : Sl H ks z b len cap i vs) (x : Fr [] H H') : Sl H' ks z b len cap i vs :=
  ⟨h.b, fun e => (h.has e).fr x (by simp), h.size, h.max, fun k hk j kk hj => let ⟨d, v, a, b, c⟩ := h.at_ k hk j kk hj; ⟨d, v, a, b.fr x, c⟩⟩
theorem Sl.int (h : Sl H ks z b len cap i vs) {k : Nat} (hk : k < len) (j : Nat) {kd : IntKind} (hj : ks[j]? = some (.int kd)) : ∃ n, vs[k * z + j]? = some (.int kd n) ∧ (Lit.int kd n).wf = true := by
  obtain ⟨d, v, h1, h2, h3⟩ := h.at_ k hk j _ hj
  cases h3 with
  | i hw => cases h2; exact ⟨_, h1, hw⟩
theorem Sl.str (h : Sl H ks z b len cap i vs) {k : Nat} (hk : k < len) (j : Nat) (hj : ks[j]? = some .str) : ∃ s, vs[k * z + j]? = some (.string s) ∧ s.size ≤ reachBytes := by
  obtain ⟨d, v, h1, h2, h3⟩ := h.at_ k hk j _ hj
  cases h3 with
  | s hw => cases h2; exact ⟨_, h1, hw⟩
theorem Sl.bool (h : Sl H ks z b len cap i vs) {k : Nat} (hk : k < len) (j : Nat) (hj : ks[j]? = some .bool) : ∃ s, vs[k * z + j]? = some (.bool s) := by
  obtain ⟨d, v, h1, h2, h3⟩ := h.at_ k hk j _ hj
  cases h3 with
  | b => cases h2; exact ⟨_, h1⟩
theorem Sl.sl (h : Sl H ks z b len cap i vs) {k : Nat} (hk : k < len) (j : Nat) {z' : Nat} {ks' : List SK} (hj : ks[j]? = some (.sl z' ks')) (hz : ks'.length = z') :
    ∃ b' len' cap' i' vs', vs[k * z + j]? = some (.slice b' len' cap') ∧ Sl H ks' z' b' len' cap' i' vs' := by
  obtain ⟨d, v, h1, h2, h3⟩ := h.at_ k hk j _ hj
  obtain ⟨b', len', cap', i', vs', rfl, hS⟩ := sl_of h2 h3 hz
  exact ⟨b', len', cap', i', vs', h1, hS⟩
/-- The cells of a struct that came in. -/
theorem Lies.int {ds : List CD} (h : Lies H ds vs) (k : Kds ks ds) (j : Nat) {kd : IntKind} (hj : ks[j]? = some (.int kd)) : ∃ n, vs[j]? = some (.int kd n) ∧ (Lit.int kd n).wf = true := by
  have hjl := (List.getElem?_eq_some_iff.1 hj).1
  have hd : ds[j]? = some (ds[j]'(by have := k.len; omega)) := List.getElem?_eq_getElem _
  have hv : vs[j]? = some (vs[j]'(by have := k.len; have := h.len; omega)) := List.getElem?_eq_getElem _
  have h1 := k.at_ j _ _ hj hd
  have h2 := h.at_ j _ _ hd hv
  generalize ds[j]'(by have := k.len; omega) = d at h1 h2
  generalize vs[j]'(by have := k.len; have := h.len; omega) = v at h2 hv
  cases h1 with
  | i hw => cases h2; exact ⟨_, hv, hw⟩
theorem Lies.str {ds : List CD} (h : Lies H ds vs) (k : Kds ks ds) (j : Nat) (hj : ks[j]? = some .str) : ∃ s, vs[j]? = some (.string s) ∧ s.size ≤ reachBytes := by
  have hjl := (List.getElem?_eq_some_iff.1 hj).1
  have hd : ds[j]? = some (ds[j]'(by have := k.len; omega)) := List.getElem?_eq_getElem _
  have hv : vs[j]? = some (vs[j]'(by have := k.len; have := h.len; omega)) := List.getElem?_eq_getElem _
  have h1 := k.at_ j _ _ hj hd
  have h2 := h.at_ j _ _ hd hv
  generalize ds[j]'(by have := k.len; omega) = d at h1 h2
  generalize vs[j]'(by have := k.len; have := h.len; omega) = v at h2 hv
  cases h1 with
  | s hw => cases h2; exact ⟨_, hv, hw⟩
theorem Lies.sl {ds : List CD} (h : Lies H ds vs) (k : Kds ks ds) (j : Nat) {z' : Nat} {ks' : List SK} (hj : ks[j]? = some (.sl z' ks')) (hz : ks'.length = z') :
    ∃ b' len' cap' i' vs', vs[j]? = some (.slice b' len' cap') ∧ Sl H ks' z' b' len' cap' i' vs' := by
  have hjl := (List.getElem?_eq_some_iff.1 hj).1
  have hd : ds[j]? = some (ds[j]'(by have := k.len; omega)) := List.getElem?_eq_getElem _
  have hv : vs[j]? = some (vs[j]'(by have := k.len; have := h.len; omega)) := List.getElem?_eq_getElem _
  have h1 := k.at_ j _ _ hj hd
  have h2 := h.at_ j _ _ hd hv
  generalize ds[j]'(by have := k.len; omega) = d at h1 h2
  generalize vs[j]'(by have := k.len; have := h.len; omega) = v at h2 hv
  obtain ⟨b', len', cap', i', vs', rfl, hS⟩ := sl_of h2 h1 hz
  exact ⟨b', len', cap', i', vs', hv, hS⟩
/-- A cell of an element, loaded. -/
theorem wIx_sl {n : Int} {k : Nat} {K : Nat → Nat → Prop} (h : Sl H ks z b len cap i vs) (hn : n = (k : Int)) (hk : k < len) (hK : K i (k * z)) : wIx b len z n K := by
  subst hn
  rw [h.b (by omega)]
  refine wIx_at (by omega) (by omega) ?_
  rw [Int.toNat_natCast, Nat.zero_add]
  exact hK
end
end Go.Proofs.Ytfghglacfjncmaa
