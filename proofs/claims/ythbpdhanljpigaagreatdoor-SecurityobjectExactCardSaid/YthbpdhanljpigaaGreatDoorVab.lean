/- Parts Wx Wy of the proof. -/
import Derived.StillTail
import Derived.Deep.QuietTactic
import Derived.BigQuiet
import Derived.Test.YthbpdhanljpigaaGreatDoorVaa
namespace Go.Proofs.YthbpdhanljpigaaGreatDoor
open Go Go.RowKit
set_option linter.unusedVariables false
/-- What is known of a value in a world. -/
abbrev VPred := Value → World → Prop
def StableP (g : VPred) : Prop := ∀ v w w', Ext w w' → g v w → g v w'
/-- The slots that an operation reads. -/
def opTmps (o : Oper) : List Nat := o.op.operands.toList.filterMap fun | .tmp t => some t | _ => none
/-- What is known of slot t: a lasting fact (hs), or that it holds what the frame a says. -/
def slotP (a : Act) (hs : List (Nat × VPred)) (t : Nat) (v : Value) (w : World) : Prop :=
  match hs.lookup t with
  | some g => g v w
  | none => v = a.eval (.tmp t)

def wpX (P : Program) (Q : Exit → Act → World → Prop) (w0 : World) (R : Act → World → Prop) : List Oper → Act → List (Nat × VPred) → Prop
  | [], a, hs => ∀ a' w, Ext w0 w → a'.defers = a.defers → a'.tmps.size = a.tmps.size → (∀ t, slotP a hs t (a'.eval (.tmp t)) w) → R a' w
  | o :: rest, a, hs => ∃ d g, o.dst = some d ∧ d < a.tmps.size ∧ StableP g ∧
      (∀ a' w, Ext w0 w → (∀ t ∈ opTmps o, slotP a hs t (a'.eval (.tmp t)) w) → o.wp P a' w (fun a'' w'' => ∃ v, a'' = a'.put o.dst v ∧ Ext w w'' ∧ g v w'') Q) ∧
      ((∃ v, g = (fun u _ => u = v) ∧ wpX P Q w0 R rest (a.put (some d) v) hs) ∨ wpX P Q w0 R rest (a.put (some d) undef) ((d, g) :: hs))

section
variable {P : Program} {ops : Array Oper} {Q : Exit → Act → World → Prop}

/-- Slot t among the first n operations of a region: what its writer says, else what it held. -/
def slotG (ops : Array Oper) (n : Nat) (a0 : Act) (good : Nat → VPred) (t : Nat) (v : Value) (w : World) : Prop :=
  (∀ j, j < n → ∀ oj, ops[j]? = some oj → oj.dst = some t → good j v w) ∧ ((∀ j, j < n → ∀ oj, ops[j]? = some oj → oj.dst ≠ some t) → v = a0.eval (.tmp t))

def Ob (P : Program) (ops : Array Oper) (Q : Exit → Act → World → Prop) (n : Nat) (a0 : Act) (w0 : World) (good : Nat → VPred) (i : Nat) (o : Oper) : Prop :=
  ∃ d, o.dst = some d ∧ d < a0.tmps.size ∧ StableP (good i) ∧ ∀ a' w, Ext w0 w → (∀ t ∈ opTmps o, slotG ops n a0 good t (a'.eval (.tmp t)) w) →
    o.wp P a' w (fun a'' w'' => ∃ v, a'' = a'.put o.dst v ∧ Ext w w'' ∧ good i v w'') Q

/-- The closed facts on a region: no guard and edges that go back among the first n; each slot has one writer; who reads a slot waits for its writer. -/
def chkHead (ops : Array Oper) (n : Nat) : Bool :=
  decide (n ≤ ops.size) && (List.range n).all fun i => match ops[i]? with
    | none => false
    | some o => o.guard.isNone && o.after.all (fun e => !Region.binds .any e || decide (e.on < i)) &&
      (List.range n).all (fun j => match ops[j]? with
        | none => false
        | some oj => (j == i || oj.dst != o.dst) && ((opTmps o).all fun t => oj.dst != some t || o.after.any fun e => Region.binds .any e && e.on == j))
/-- Behind the first n the others come up one by one. -/
def chkTail (ops : Array Oper) (n : Nat) : Bool :=
  (n == ops.size || (Region.sinkB .any ops n && Region.chainB .any ops n)) && Region.seqB .any ops (ops.size - n) n (Array.replicate n true ++ Array.replicate (ops.size - n) false)

structure HeadOk (ops : Array Oper) (n : Nat) : Prop where
  le : n ≤ ops.size
  guard : ∀ i o, i < n → ops[i]? = some o → o.guard = none
  back : ∀ i o, i < n → ops[i]? = some o → ∀ e ∈ o.after, Region.binds .any e = true → e.on < i
  one : ∀ i o j oj, i < n → j < n → ops[i]? = some o → ops[j]? = some oj → j ≠ i → oj.dst ≠ o.dst
  wait : ∀ i o j oj, i < n → j < n → ops[i]? = some o → ops[j]? = some oj → ∀ t ∈ opTmps o, oj.dst = some t → ∃ e ∈ o.after, Region.binds .any e = true ∧ e.on = j

theorem headOk_of {n : Nat} (h : chkHead ops n = true) : HeadOk ops n := by
  unfold chkHead at h
  simp only [Bool.and_eq_true, decide_eq_true_eq] at h
  obtain ⟨hle, hall⟩ := h
  have key : ∀ i o, i < n → ops[i]? = some o → (o.guard.isNone && o.after.all (fun e => !Region.binds .any e || decide (e.on < i)) &&
      (List.range n).all (fun j => match ops[j]? with
        | none => false
        | some oj => (j == i || oj.dst != o.dst) && ((opTmps o).all fun t => oj.dst != some t || o.after.any fun e => Region.binds .any e && e.on == j))) = true := fun i o hi ho => by
    have := List.all_eq_true.1 hall i (List.mem_range.2 hi)
    rw [ho] at this
    exact this
  have key2 : ∀ i o j oj, i < n → j < n → ops[i]? = some o → ops[j]? = some oj → ((j == i || oj.dst != o.dst) && ((opTmps o).all fun t => oj.dst != some t || o.after.any fun e => Region.binds .any e && e.on == j)) = true := fun i o j oj hi hj ho hoj => by
    have := key i o hi ho
    simp only [Bool.and_eq_true] at this
    have := List.all_eq_true.1 this.2 j (List.mem_range.2 hj)
    rw [hoj] at this
    exact this
  refine ⟨hle, fun i o hi ho => ?_, fun i o hi ho e he hb => ?_, fun i o j oj hi hj ho hoj hne heq => ?_, fun i o j oj hi hj ho hoj t ht hd => ?_⟩
  · have := key i o hi ho
    simp only [Bool.and_eq_true] at this
    exact Option.isNone_iff_eq_none.1 this.1.1
  · have := key i o hi ho
    simp only [Bool.and_eq_true] at this
    have h2 := Array.all_eq_true_iff_forall_mem.1 this.1.2 e he
    simp only [hb, Bool.not_true, Bool.false_or, decide_eq_true_eq] at h2
    exact h2
  · have := key2 i o j oj hi hj ho hoj
    simp only [Bool.and_eq_true, Bool.or_eq_true, beq_iff_eq, bne_iff_ne] at this
    rcases this.1 with h | h
    · exact hne h
    · exact h heq
  · have := key2 i o j oj hi hj ho hoj
    simp only [Bool.and_eq_true] at this
    have h2 := List.all_eq_true.1 this.2 t ht
    simp only [Bool.or_eq_true, bne_iff_ne, hd, ne_eq, not_true, false_or] at h2
    obtain ⟨e, he, hb⟩ := Array.any_eq_true'.1 h2
    simp only [Bool.and_eq_true, beq_iff_eq] at hb
    exact ⟨e, he, hb.1, hb.2⟩

/-- How far a run of the region has come. -/
structure InvX (ops : Array Oper) (n : Nat) (a0 : Act) (w0 : World) (good : Nat → VPred) (listed : Array Bool) (a : Act) (w : World) : Prop where
  ext : Ext w0 w
  defers : a.defers = a0.defers
  size : a.tmps.size = a0.tmps.size
  done : ∀ j, j < n → listed.getD j false = true → ∀ oj, ops[j]? = some oj → ∀ d, oj.dst = some d → good j (a.eval (.tmp d)) w
  old : ∀ t, (∀ j, j < n → listed.getD j false = true → ∀ oj, ops[j]? = some oj → oj.dst ≠ some t) → a.eval (.tmp t) = a0.eval (.tmp t)

theorem eval_put_same {a : Act} {d : Nat} {v : Value} (h : d < a.tmps.size) : (a.put (some d) v).eval (.tmp d) = v := by
  simp [Act.eval, Act.put, h]
theorem eval_put_ne {a : Act} {d t : Nat} {v : Value} (h : d ≠ t) : (a.put (some d) v).eval (.tmp t) = a.eval (.tmp t) :=
  Act.eval_put fun e he => by cases he; intro h2; cases h2; exact h rfl

theorem count_lt {n : Nat} {p q : Nat → Bool} {i : Nat} (hi : i < n) (hp : p i = true) (hq : q i = false) (hle : ∀ j, j ≠ i → q j = p j) :
    ((List.range n).filter q).length + 1 = ((List.range n).filter p).length := by
  induction n with
  | zero => omega
  | succ n ih =>
    rw [List.range_succ, List.filter_append, List.filter_append, List.length_append, List.length_append]
    by_cases hin : i = n
    · subst hin
      have e : (List.range i).filter q = (List.range i).filter p := List.filter_congr fun j hj => hle j (by have := List.mem_range.1 hj; omega)
      rw [e]
      simp [hp, hq]
    · have h1 := ih (by omega)
      have h2 : q n = p n := hle n (fun e => hin e.symm)
      simp only [List.filter_cons, List.filter_nil, h2]
      omega

theorem psi_main {n : Nat} {a0 : Act} {w0 : World} {good : Nat → VPred} (hk : HeadOk ops n) (ht : chkTail ops n = true) (hob : ∀ i o, i < n → ops[i]? = some o → Ob P ops Q n a0 w0 good i o)
    (hfin : ∀ a w, Ext w0 w → a.defers = a0.defers → a.tmps.size = a0.tmps.size → (∀ t, slotG ops n a0 good t (a.eval (.tmp t)) w) → wpList P ops Q (ops.toList.drop n) a w) :
    ∀ (f : Nat) (listed : Array Bool) (a : Act) (w : World), ((List.range n).filter fun i => !listed.getD i false).length = f → HeadInv .any ops n listed → InvX ops n a0 w0 good listed a w →
      wpAny P .any ops Q (f + (ops.size - n)) listed a w := by
  unfold chkTail at ht
  simp only [Bool.and_eq_true, Bool.or_eq_true, beq_iff_eq] at ht
  obtain ⟨htail, hseq⟩ := ht
  intro f
  induction f with
  | zero =>
    intro listed a w hf inv hx
    have hall : ∀ i, i < n → listed.getD i false = true := fun i hi => by
      have h0 := List.eq_nil_of_length_eq_zero hf
      cases hl : listed.getD i false with
      | true => rfl
      | false =>
        have : i ∈ (List.range n).filter fun i => !listed.getD i false := List.mem_filter.2 ⟨List.mem_range.2 hi, by simp only [hl]; rfl⟩
        rw [h0] at this
        cases this
    have hle := hk.le
    have hls := inv.size
    have hl : listed = Array.replicate n true ++ Array.replicate (ops.size - n) false := by
      apply Array.ext
      · simp; omega
      · intro i h1 h2
        by_cases hin : i < n
        · have := hall i hin
          rw [Array.getElem_append_left (by simpa using hin)]
          simpa [h1] using this
        · have := inv.tail i (by omega) (by omega)
          rw [Array.getElem_append_right (by simp; omega)]
          simpa [h1] using this
    rw [Nat.zero_add]
    have hd := hfin a w hx.ext hx.defers hx.size (fun t => ⟨fun j hj oj hoj hd => hx.done j hj (hall j hj) oj hoj t hd, fun hno => hx.old t (fun j hj _ oj hoj => hno j hj oj hoj)⟩)
    have := wpAny_of_seq (md := .any) (ops := ops) (Q' := Q) (ops.toList.drop n) n listed a w (fun j => by simp [List.getElem?_drop]) (by
      rw [hl, show (ops.toList.drop n).length = ops.size - n by simp]
      exact hseq) hd
    rwa [show (ops.toList.drop n).length = ops.size - n by simp] at this
  | succ f ih =>
    intro listed a w hf inv hx
    have hle := hk.le
    have hls := inv.size
    -- the least one that has not come up
    have hex : ∃ i, i < n ∧ listed.getD i false = false := by
      cases hfl : (List.range n).filter fun i => !listed.getD i false with
      | nil => rw [hfl] at hf; simp at hf
      | cons i r =>
        have : i ∈ (List.range n).filter fun i => !listed.getD i false := by rw [hfl]; exact List.mem_cons_self
        obtain ⟨h1, h2⟩ := List.mem_filter.1 this
        exact ⟨i, List.mem_range.1 h1, by simpa using h2⟩
    have hleast : ∀ m, (∃ i, i ≤ m ∧ i < n ∧ listed.getD i false = false) → ∃ i, i < n ∧ listed.getD i false = false ∧ ∀ j, j < i → listed.getD j false = true := by
      intro m
      induction m with
      | zero =>
        rintro ⟨i, h0, hi, hl⟩
        exact ⟨i, hi, hl, fun j hj => by omega⟩
      | succ m ihm =>
        rintro ⟨i, h0, hi, hl⟩
        by_cases hb : ∃ j, j ≤ m ∧ j < n ∧ listed.getD j false = false
        · exact ihm hb
        · refine ⟨i, hi, hl, fun j hj => ?_⟩
          cases hjl : listed.getD j false with
          | true => rfl
          | false => exact absurd ⟨j, by omega, by omega, hjl⟩ hb
    obtain ⟨i0, hi0, hl0, hmin⟩ : ∃ i, i < n ∧ listed.getD i false = false ∧ ∀ j, j < i → listed.getD j false = true := by
      obtain ⟨i, hi, hl⟩ := hex
      exact hleast i ⟨i, Nat.le_refl _, hi, hl⟩
    obtain ⟨o0, ho0⟩ : ∃ o, ops[i0]? = some o := ⟨ops[i0]'(by omega), Array.getElem?_eq_getElem (by omega)⟩
    have hr0 : i0 ∈ Region.ready .any ops listed := mem_ready.2 ⟨getD_in (by omega) hl0, o0, ho0, fun e he hb => hmin _ (hk.back i0 o0 hi0 ho0 e he hb)⟩
    rw [show f + 1 + (ops.size - n) = (f + (ops.size - n)) + 1 by omega]
    refine ⟨fun h => (by rw [h] at hr0; cases hr0), fun i hi => ?_⟩
    have hir := mem_ready.1 hi
    have hin : i < n := by
      rcases Nat.lt_or_ge i n with h | h
      · exact h
      · rcases htail with he | ⟨hs, hc⟩
        · obtain ⟨o, ho, _⟩ := hir.2
          have := (Array.getElem?_eq_some_iff.1 ho).1
          omega
        · have hn : n < ops.size := by
            obtain ⟨o, ho, _⟩ := hir.2
            have := (Array.getElem?_eq_some_iff.1 ho).1
            omega
          exact absurd hi (tail_waits hs hc hn inv _ i0 rfl hi0 (getD_in (by omega) hl0) i h)
    obtain ⟨hun, o, ho, hall⟩ := hir
    have hlf : listed.getD i false = false := getD_both hun
    obtain ⟨d, hd, hds, hst, hwp⟩ := hob i o hin ho
    have hslots : ∀ t ∈ opTmps o, slotG ops n a0 good t (a.eval (.tmp t)) w := fun t ht => by
      refine ⟨fun j hj oj hoj hdj => ?_, fun hno => hx.old t (fun j hj _ oj hoj => hno j hj oj hoj)⟩
      obtain ⟨e, he, hb, hon⟩ := hk.wait i o j oj hin hj ho hoj t ht hdj
      exact hx.done j hj (by rw [← hon]; exact hall e he hb) oj hoj t hdj
    unfold wpOp
    simp only [ho]
    rw [if_pos (by simp [Region.wanted, hk.guard i o hin ho])]
    refine .inl (Oper.wp_mono ?_ (hwp a w hx.ext hslots))
    rintro a'' w'' ⟨v, rfl, hext, hgood⟩
    refine ih (listed.setIfInBounds i true) _ w'' ?_ (inv.set hi hin) ?_
    · have := count_lt (p := fun j => !listed.getD j false) (q := fun j => !(listed.setIfInBounds i true).getD j false) hin (by simp only [hlf]; rfl) (by
        have : (listed.setIfInBounds i true).getD i false = true := by simp [show i < listed.size by omega]
        simp only [this]; rfl) (fun j hj => by simp only [getD_set_ne false (Ne.symm hj)])
      omega
    · refine ⟨hx.ext.tr hext, by rw [hd]; exact hx.defers, by rw [hd]; simp [Act.put, hx.size], fun j hj hjl oj hoj e he => ?_, fun t hno => ?_⟩
      · by_cases hji : j = i
        · subst hji
          have : oj = o := Option.some.inj (hoj.symm.trans ho)
          subst this
          have : e = d := Option.some.inj (he.symm.trans hd)
          subst this
          rw [hd, eval_put_same (by rw [hx.size]; exact hds)]
          exact hgood
        · rw [getD_set_ne false (Ne.symm hji)] at hjl
          have hne : d ≠ e := fun h => hk.one i o j oj hin hj ho hoj hji (by rw [he, hd, h])
          rw [hd, eval_put_ne hne]
          obtain ⟨_, _, _, hstj, _⟩ := hob j oj hj hoj
          exact hstj _ _ _ hext (hx.done j hj hjl oj hoj e he)
      · have hne : d ≠ t := fun h => hno i hin (by simp [show i < listed.size by omega]) o ho (by rw [hd, h])
        rw [hd, eval_put_ne hne]
        exact hx.old t fun j hj hjl oj hoj => hno j hj (getD_set_true hjl) oj hoj

/-- What the walk knows behind the first k operations, out of what each of them promises. -/
structure JX (ops : Array Oper) (n : Nat) (a0 : Act) (k : Nat) (a : Act) (hs : List (Nat × VPred)) (gs : List VPred) : Prop where
  len : gs.length = k
  defers : a.defers = a0.defers
  size : a.tmps.size = a0.tmps.size
  keys : ∀ t g, hs.lookup t = some g → ∃ j oj, j < k ∧ ops[j]? = some oj ∧ oj.dst = some t
  slot : ∀ t v w, (∀ j, j < k → ∀ oj, ops[j]? = some oj → oj.dst = some t → (gs.getD j (fun _ _ => True)) v w) → ((∀ j, j < k → ∀ oj, ops[j]? = some oj → oj.dst ≠ some t) → v = a0.eval (.tmp t)) → slotP a hs t v w

theorem wpX_out {n : Nat} {a0 : Act} {w0 : World} {R : Act → World → Prop} (hk : HeadOk ops n) :
    ∀ (rest : List Oper) (k : Nat) (a : Act) (hs : List (Nat × VPred)) (gs : List VPred), k + rest.length = n → (∀ j, j < rest.length → rest[j]? = ops[k + j]?) → JX ops n a0 k a hs gs → wpX P Q w0 R rest a hs →
      ∃ gs' : List VPred, (∀ j, j < k → gs'.getD j (fun _ _ => True) = gs.getD j (fun _ _ => True)) ∧ (∀ i o, k ≤ i → i < n → ops[i]? = some o → Ob P ops Q n a0 w0 (fun j => gs'.getD j (fun _ _ => True)) i o) ∧
        (∀ a' w, Ext w0 w → a'.defers = a0.defers → a'.tmps.size = a0.tmps.size → (∀ t, slotG ops n a0 (fun j => gs'.getD j (fun _ _ => True)) t (a'.eval (.tmp t)) w) → R a' w)
  | [], k, a, hs, gs, hkn, _, J, h => by
    have hkn' : k = n := by simpa using hkn
    subst hkn'
    exact ⟨gs, fun _ _ => rfl, fun i o h1 h2 _ => by omega, fun a' w he hd hz hsl => h a' w he (hd.trans J.defers.symm) (hz.trans J.size.symm) fun t => J.slot t _ _ (hsl t).1 (hsl t).2⟩
  | o :: rest, k, a, hs, gs, hkn, hl, J, h => by
    simp only [List.length_cons] at hkn
    have hkn' : k < n := by omega
    have h0 : ops[k]? = some o := by simpa using (hl 0 (by simp)).symm
    obtain ⟨d, g, hd, hds, hst, hwp, hrest⟩ := h
    have hl' : ∀ j, j < rest.length → rest[j]? = ops[k + 1 + j]? := fun j hj => by
      have := hl (j + 1) (by simp; omega)
      simpa [Nat.add_assoc, Nat.add_comm 1 j] using this
    have hgk : ∀ j, j < k → (gs ++ [g]).getD j (fun _ _ => True) = gs.getD j (fun _ _ => True) := fun j hj => by
      simp [List.getD_eq_getElem?_getD, List.getElem?_append_left (show j < gs.length by rw [J.len]; exact hj)]
    have hgk' : (gs ++ [g]).getD k (fun _ _ => True) = g := by
      simp [List.getD_eq_getElem?_getD, ← J.len]
    have hno : ∀ g', hs.lookup d = some g' → False := fun g' hg' => by
      obtain ⟨j, oj, hj, hoj, hdj⟩ := J.keys d g' hg'
      exact hk.one k o j oj hkn' (by omega) h0 hoj (by omega) (by rw [hdj, hd])
    have hnone : hs.lookup d = none := by
      cases hc : hs.lookup d with
      | none => rfl
      | some g' => exact (hno g' hc).elim
    -- the next J, once for each kind of step
    have hJ : ∃ a1 hs1, JX ops n a0 (k + 1) a1 hs1 (gs ++ [g]) ∧ wpX P Q w0 R rest a1 hs1 := by
      rcases hrest with ⟨v, hg, hx⟩ | hx
      · refine ⟨a.put (some d) v, hs, ⟨by simp [J.len], J.defers, by simp [Act.put, J.size], fun t g' ht => ?_, fun t u w h1 h2 => ?_⟩, hx⟩
        · obtain ⟨j, oj, hj, r⟩ := J.keys t g' ht
          exact ⟨j, oj, by omega, r⟩
        · by_cases htd : d = t
          · subst htd
            have := h1 k (by omega) o h0 hd
            rw [hgk', hg] at this
            unfold slotP
            rw [hnone]
            simp only [eval_put_same hds]
            exact this
          · have := J.slot t u w (fun j hj oj hoj hdj => by have := h1 j (by omega) oj hoj hdj; rwa [hgk j hj] at this) (fun hn => h2 fun j hj oj hoj => by
              by_cases hjk : j = k
              · subst hjk
                have : oj = o := Option.some.inj (hoj.symm.trans h0)
                subst this
                rw [hd]; intro he; exact htd (Option.some.inj he)
              · exact hn j (by omega) oj hoj)
            unfold slotP at *
            cases hc : hs.lookup t with
            | some g' => simp only [hc] at this ⊢; exact this
            | none => simp only [hc] at this ⊢; rw [eval_put_ne htd]; exact this
      · refine ⟨a.put (some d) undef, (d, g) :: hs, ⟨by simp [J.len], J.defers, by simp [Act.put, J.size], fun t g' ht => ?_, fun t u w h1 h2 => ?_⟩, hx⟩
        · by_cases htd : t = d
          · subst htd; exact ⟨k, o, by omega, h0, hd⟩
          · have e : (t == d) = false := by simpa using htd
            simp only [List.lookup_cons, e] at ht
            obtain ⟨j, oj, hj, r⟩ := J.keys t g' ht
            exact ⟨j, oj, by omega, r⟩
        · by_cases htd : d = t
          · subst htd
            have := h1 k (by omega) o h0 hd
            rw [hgk'] at this
            unfold slotP
            simp only [List.lookup_cons, beq_self_eq_true]
            exact this
          · have := J.slot t u w (fun j hj oj hoj hdj => by have := h1 j (by omega) oj hoj hdj; rwa [hgk j hj] at this) (fun hn => h2 fun j hj oj hoj => by
              by_cases hjk : j = k
              · subst hjk
                have : oj = o := Option.some.inj (hoj.symm.trans h0)
                subst this
                rw [hd]; intro he; exact htd (Option.some.inj he)
              · exact hn j (by omega) oj hoj)
            have e : (t == d) = false := by simpa using fun h => htd h.symm
            unfold slotP at *
            simp only [List.lookup_cons, e]
            cases hc : hs.lookup t with
            | some g' => simp only [hc] at this ⊢; exact this
            | none => simp only [hc] at this ⊢; rw [eval_put_ne htd]; exact this
    obtain ⟨a1, hs1, J1, hx1⟩ := hJ
    obtain ⟨gs', e1, e2, e3⟩ := wpX_out hk rest (k + 1) a1 hs1 (gs ++ [g]) (by omega) hl' J1 hx1
    refine ⟨gs', fun j hj => by rw [e1 j (by omega), hgk j hj], fun i oi h1 h2 hoi => ?_, e3⟩
    by_cases hik : i = k
    · subst hik
      have : oi = o := Option.some.inj (hoi.symm.trans h0)
      subst this
      have hgi : gs'.getD i (fun _ _ => True) = g := by rw [e1 i (by omega), hgk']
      refine ⟨d, hd, by rw [← J.size]; exact hds, by show StableP (gs'.getD i (fun _ _ => True)); rw [hgi]; exact hst, fun a' w he hsl => ?_⟩
      show oi.wp P a' w (fun a'' w'' => ∃ v, a'' = a'.put oi.dst v ∧ Ext w w'' ∧ gs'.getD i (fun _ _ => True) v w'') Q
      rw [hgi]
      refine hwp a' w he fun t ht => ?_
      have hs1 := hsl t ht
      refine J.slot t _ _ (fun j hj oj hoj hdj => ?_) (fun hn => hs1.2 fun j hj oj hoj hdj => ?_)
      · have := hs1.1 j (by omega) oj hoj hdj
        simp only [e1 j (by omega), hgk j hj] at this
        exact this
      · obtain ⟨e, he, hb, hon⟩ := hk.wait i oi j oj hkn' hj h0 hoj t ht hdj
        have := hk.back i oi hkn' h0 e he hb
        exact hn j (by omega) oj hoj hdj
    · exact e2 i oi (by omega) h2 hoi

/-- THE LAW. -/
theorem wp_region_X {id : Nat} {a : Act} {w : World} {l : List Oper} (n : Nat) (hm : P.follows .mixedOrders = true) (hB : (chkHead l.toArray n && chkTail l.toArray n) = true)
    (h : ∀ w1, Ext w w1 → wpX P Q w1 (fun a' w' => wpList P l.toArray Q (l.drop n) a' w') (l.take n) a []) : (Code.region id l.toArray true).wp P Q a w := by
  simp only [Bool.and_eq_true] at hB
  have hk := headOk_of hB.1
  have hle : n ≤ l.length := by simpa using hk.le
  have htl : (l.take n).length = n := by simp; omega
  obtain ⟨gs, _, hob, hfin⟩ := wpX_out (a0 := a) hk (l.take n) 0 a [] [] (by rw [htl]; omega) (fun j hj => by
    rw [htl] at hj
    simp [hj]) ⟨rfl, rfl, rfl, fun t g h => (by cases h), fun t v w' _ h2 => h2 (fun j hj => by omega)⟩ (h w.drew (Below.refl _ _).drew)
  refine wp_region_any hm ?_
  have := psi_main (P := P) (Q := Q) (n := n) (a0 := a) (w0 := w.drew) (good := fun j => gs.getD j (fun _ _ => True)) hk hB.2 (fun i o hi ho => hob i o (Nat.zero_le _) hi ho) hfin
    (((List.range n).filter fun i => !(Array.replicate l.toArray.size false).getD i false).length) (Array.replicate l.toArray.size false) a w.drew rfl
    ⟨by simp, fun j oj _ hl => (by rw [getD_replicate_false] at hl; cases hl), fun t _ ht => getD_in (by simpa using ht) (getD_replicate_false _ _)⟩
    ⟨Below.refl _ _, rfl, rfl, fun j _ hl => (by rw [getD_replicate_false] at hl; cases hl), fun t _ => rfl⟩
  have hcnt : ((List.range n).filter fun i => !(Array.replicate l.toArray.size false).getD i false).length = n := by
    have : ((List.range n).filter fun i => !(Array.replicate l.toArray.size false).getD i false) = List.range n := List.filter_eq_self.2 fun i _ => by rw [getD_replicate_false]; rfl
    rw [this, List.length_range]
  rw [hcnt] at this
  rw [show n + (l.toArray.size - n) = l.toArray.size by simp; omega] at this
  exact this
end
/-! ### The steps of the walk -/
theorem blt_lt {a b : Nat} (h : Nat.blt a b = true) : a < b := by rwa [Nat.blt_eq] at h
/-- Worlds that have come since w. -/
def Lt (w : World) := { w' : World // Ext w w' }

instance (w : World) : Nonempty (Lt w) := ⟨⟨w, Below.refl _ _⟩⟩

/-- Operations that never enter a function. -/
def plainOp (o : Oper) : Bool := match o.op with
  | .move _ | .assign _ | .load .. | .binOp .. | .unOp .. | .convert .. | .slice .. | .fieldAddr .. | .field .. | .indexAddr .. | .index .. | .extract .. | .sliceToArrayPointer .. => true
  | .call { callee := .builtin .len, .. } => true
  | _ => false

theorem v_plain {P : Program} {w w' : World} {f : FuncId} {args : Array Value} (s : Sem Value) : (do pure (Next.value (← s)) : Sem Next).run P w ≠ .ok (.enter f args) w' := by
  intro h
  rw [Sem.run_bind] at h
  cases hs : s.run P w with
  | ok x w1 => rw [hs] at h; simp at h
  | halt x w1 => rw [hs] at h; simp at h

theorem plain_enter {P : Program} {ρ : Operand → Value} {o : Oper} (hp : plainOp o = true) {w w' : World} {f : FuncId} {args : Array Value} : (execOp ρ o).run P w ≠ .ok (.enter f args) w' := by
  obtain ⟨dst, op, type, pos, after, guard⟩ := o
  unfold plainOp at hp
  cases op <;> simp only [] at hp <;> first
    | (cases hp; done)
    | (unfold execOp; exact v_plain _)
    | (unfold execOp; simp; done)
    | skip
  rename_i c
  obtain ⟨callee, args', ats⟩ := c
  cases callee with
  | value x => cases hp
  | invoke x n => cases hp
  | builtin b =>
    cases b <;> first | (cases hp; done) | skip
    unfold execOp
    simp only [resolve, Sem.run_bind, Sem.run_pure, Result.andThen_ok, invoke, builtin]
    intro h
    cases hs : (Builtin.len_ ats type (Array.map ρ args')).run P w with
    | ok x w1 => rw [hs] at h; simp at h
    | halt x w1 => rw [hs] at h; simp at h

section
variable {P : Program} {Q : Exit → Act → World → Prop} {w0 : World} {R : Act → World → Prop}

theorem exec_same {o : Oper} {a b : Act} (hsel : ∀ cs b, o.op ≠ .select cs b) (h : ∀ t ∈ opTmps o, a.eval (.tmp t) = b.eval (.tmp t)) : execOp a.eval o = execOp b.eval o :=
  execOp_congr o hsel fun x hx => by
    cases x with
    | tmp t => exact h t (List.mem_filterMap.2 ⟨.tmp t, by simpa using hx, rfl⟩)
    | const v => rfl
    | global g => rfl
    | func f => rfl

def notSelect (o : Oper) : Bool := match o.op with | .select .. => false | _ => true
theorem notSelect_spec {o : Oper} (h : notSelect o = true) : ∀ cs b, o.op ≠ .select cs b := by
  intro cs b he
  unfold notSelect at h
  rw [he] at h
  cases h

/-- The operation run on another frame that agrees on what it reads. -/
theorem wp_transfer {o : Oper} {a b : Act} {w : World} {d : Nat} {G : VPred} (he : execOp a.eval o = execOp b.eval o) (hd : o.dst = some d) (hz : d < b.tmps.size)
    (h : ∀ K : Act → World → Prop, (∀ a'' w'', a''.defers = b.defers → G (a''.eval (.tmp d)) w'' → K a'' w'') → o.wp P b w K (fun _ _ _ => False)) :
    o.wp P a w (fun a'' w'' => ∃ v, a'' = a.put o.dst v ∧ G v w'') Q := by
  have h1 := h (fun a'' w'' => a''.defers = b.defers ∧ G (a''.eval (.tmp d)) w'') (fun _ _ h h' => ⟨h, h'⟩)
  unfold Oper.wp at h1 ⊢
  rw [he]
  cases hr : (execOp b.eval o).run P w with
  | ok n w' =>
    rw [hr] at h1
    cases n <;> simp only [Oper.upon] at h1 ⊢
    case value u => exact ⟨u, rfl, by rw [hd, eval_put_same hz] at h1; exact h1.2⟩
    case skip => exact ⟨undef, rfl, by rw [hd, eval_put_same hz] at h1; exact h1.2⟩
    case defer x =>
      have := congrArg List.length h1.1
      rw [hd] at this
      simp [Act.put] at this
    case enter f args =>
      refine Calls.mono h1 fun e w'' he => ?_
      cases e with
      | returned u =>
        have h2 : (b.put o.dst u).defers = b.defers ∧ G ((b.put o.dst u).eval (.tmp d)) w'' := he
        rw [hd, eval_put_same hz] at h2
        exact ⟨u, rfl, h2.2⟩
      | panicked c => exact he.elim
      | outgrown => obtain ⟨_, _, hf⟩ := he; exact hf.elim
    case row f args =>
      refine Rows.mono h1 fun u w'' he => ?_
      rw [hd, eval_put_same hz] at he
      exact ⟨u, rfl, he.2⟩
  | halt x w' =>
    rw [hr] at h1
    cases x <;> simp only [Oper.upon] at h1

def noHole (o : Oper) (hs : List (Nat × VPred)) : Bool := (opTmps o).all fun t => (hs.lookup t).isNone

theorem slots_eval {o : Oper} {a a' : Act} {hs : List (Nat × VPred)} {w : World} (hn : noHole o hs = true) (h : ∀ t ∈ opTmps o, slotP a hs t (a'.eval (.tmp t)) w) : ∀ t ∈ opTmps o, a'.eval (.tmp t) = a.eval (.tmp t) := fun t ht => by
  have h1 := List.all_eq_true.1 hn t ht
  have h2 := h t ht
  unfold slotP at h2
  rw [Option.isNone_iff_eq_none.1 h1] at h2
  exact h2

theorem stable_eq (v : Value) : StableP (fun u _ => u = v) := fun _ _ _ _ h => h

theorem stable_own (B : Nat) (e : TypeId) (xs : List Value) : StableP (fun v w => Own w B e v xs) := fun _ _ _ he h => h.ext he
/-- An operation that reads known slots and enters nothing: the quiet walk's own step runs it. -/
theorem wpX_pure {o : Oper} {rest : List Oper} {a : Act} {hs : List (Nat × VPred)} {d : Nat} (hd : o.dst = some d) (hz : Nat.blt d a.tmps.size = true) (hp : plainOp o = true) (hsel : notSelect o = true) (hn : noHole o hs = true)
    (h : ∀ K : Act → Prop, (∀ a, wpX P Q w0 R rest a hs → K a) → o.quiet P a (fun w' => ∃ m : Lt w0, w' = m.1) K) : wpX P Q w0 R (o :: rest) a hs := by
  obtain ⟨v, h1, h2⟩ := h _ (fun _ h => h)
  rw [hd] at h2
  refine ⟨d, fun u _ => u = v, hd, blt_lt hz, stable_eq v, fun a' w he hsl => ?_, .inl ⟨v, rfl, h2⟩⟩
  have h3 := h1 w ⟨⟨w, he⟩, rfl⟩
  have h4 : execOp a'.eval o = execOp a.eval o := exec_same (notSelect_spec hsel) (slots_eval hn hsl)
  unfold Oper.quietAt at h3
  unfold Oper.wp
  rw [h4]
  have hne := fun w' f args => plain_enter (P := P) (ρ := a.eval) (o := o) hp (w := w) (w' := w') (f := f) (args := args)
  generalize (execOp a.eval o).run P w = r at *
  cases r with
  | ok n w' =>
    cases n <;> simp only [Oper.quietUpon] at h3 <;> simp only [Oper.upon]
    case value u => obtain ⟨e1, e2⟩ := h3; exact ⟨u, rfl, by rw [e1]; exact Below.refl _ _, e2⟩
    case skip => obtain ⟨e1, e2⟩ := h3; exact ⟨undef, rfl, by rw [e1]; exact Below.refl _ _, e2.symm⟩
    case enter f args => exact absurd rfl (hne w' f args)
  | halt x w' => simp only [Oper.quietUpon] at h3

/-- Any operation that reads known slots: what comes is told by g; it stays unknown (a hole). -/
theorem wpX_hole {o : Oper} {rest : List Oper} {a : Act} {hs : List (Nat × VPred)} {d : Nat} (g : VPred) (hst : StableP g) (hd : o.dst = some d) (hz : Nat.blt d a.tmps.size = true) (hsel : notSelect o = true) (hn : noHole o hs = true)
    (h : ∀ (m : Lt w0) (K : Act → World → Prop), (∀ a'' w'', a''.defers = a.defers → (Ext m.1 w'' ∧ g (a''.eval (.tmp d)) w'') → K a'' w'') → o.wp P a m.1 K (fun _ _ _ => False))
    (hr : wpX P Q w0 R rest (a.put (some d) undef) ((d, g) :: hs)) : wpX P Q w0 R (o :: rest) a hs :=
  ⟨d, g, hd, blt_lt hz, hst, fun a' w he hsl => Oper.wp_mono (fun a'' w'' ⟨v, h1, h2⟩ => ⟨v, h1, h2⟩) (wp_transfer (G := fun v w'' => Ext w w'' ∧ g v w'') (exec_same (notSelect_spec hsel) (slots_eval hn hsl)) hd (blt_lt hz) (h ⟨w, he⟩)), .inr hr⟩

/-- The same; what comes is v. -/
theorem wpX_call {o : Oper} {rest : List Oper} {a : Act} {hs : List (Nat × VPred)} {d : Nat} (v : Value) (hd : o.dst = some d) (hz : Nat.blt d a.tmps.size = true) (hsel : notSelect o = true) (hn : noHole o hs = true)
    (h : ∀ (m : Lt w0) (K : Act → World → Prop), (∀ a'' w'', a''.defers = a.defers → (Ext m.1 w'' ∧ a''.eval (.tmp d) = v) → K a'' w'') → o.wp P a m.1 K (fun _ _ _ => False))
    (hr : wpX P Q w0 R rest (a.put (some d) v) hs) : wpX P Q w0 R (o :: rest) a hs :=
  ⟨d, fun u _ => u = v, hd, blt_lt hz, stable_eq v, fun a' w he hsl => Oper.wp_mono (fun a'' w'' ⟨v, h1, h2⟩ => ⟨v, h1, h2⟩) (wp_transfer (G := fun u w'' => Ext w w'' ∧ u = v) (exec_same (notSelect_spec hsel) (slots_eval hn hsl)) hd (blt_lt hz) (h ⟨w, he⟩)), .inl ⟨v, rfl, hr⟩⟩

/-- All holes that o reads lie at t1. -/
def oneHole (o : Oper) (hs : List (Nat × VPred)) (t1 : Nat) : Bool := (opTmps o).all fun t => t == t1 || (hs.lookup t).isNone
theorem slots_one {o : Oper} {a a' : Act} {hs : List (Nat × VPred)} {w : World} {t1 : Nat} {p : VPred} (hn : oneHole o hs t1 = true) (hin : t1 ∈ opTmps o) (hz1 : t1 < a.tmps.size) (hl : hs.lookup t1 = some p) (h : ∀ t ∈ opTmps o, slotP a hs t (a'.eval (.tmp t)) w) :
    p (a'.eval (.tmp t1)) w ∧ ∀ t ∈ opTmps o, a'.eval (.tmp t) = (a.put (some t1) (a'.eval (.tmp t1))).eval (.tmp t) := by
  refine ⟨?_, fun t ht => ?_⟩
  · have := h t1 hin
    unfold slotP at this
    rw [hl] at this
    exact this
  · have h1 := List.all_eq_true.1 hn t ht
    simp only [Bool.or_eq_true, beq_iff_eq] at h1
    by_cases htt : t = t1
    · subst htt; rw [eval_put_same hz1]
    · rw [eval_put_ne (Ne.symm htt)]
      have h2 := h t ht
      unfold slotP at h2
      rw [Option.isNone_iff_eq_none.1 (h1.resolve_left htt)] at h2
      exact h2

/-- An operation that reads a hole: what comes is v. -/
theorem wpX_use {o : Oper} {rest : List Oper} {a : Act} {hs : List (Nat × VPred)} {d : Nat} (t1 : Nat) (p : VPred) (v : Value) (hd : o.dst = some d) (hz : Nat.blt d a.tmps.size = true) (hsel : notSelect o = true) (hl : hs.lookup t1 = some p) (hn : oneHole o hs t1 = true) (hin : (opTmps o).contains t1 = true) (hz1 : Nat.blt t1 a.tmps.size = true)
    (h : ∀ (m : Lt w0) (u : Value), p u m.1 → ∀ (K : Act → World → Prop), (∀ a'' w'', a''.defers = a.defers → (Ext m.1 w'' ∧ a''.eval (.tmp d) = v) → K a'' w'') → o.wp P (a.put (some t1) u) m.1 K (fun _ _ _ => False))
    (hr : wpX P Q w0 R rest (a.put (some d) v) hs) : wpX P Q w0 R (o :: rest) a hs :=
  ⟨d, fun u _ => u = v, hd, blt_lt hz, stable_eq v, fun a' w he hsl => by
    obtain ⟨h1, h2⟩ := slots_one hn (by simpa using hin) (blt_lt hz1) hl hsl
    exact Oper.wp_mono (fun a'' w'' ⟨v, h1, h2⟩ => ⟨v, h1, h2⟩) (wp_transfer (G := fun u w'' => Ext w w'' ∧ u = v) (exec_same (notSelect_spec hsel) h2) hd (by simpa [Act.put] using blt_lt hz) (h ⟨w, he⟩ _ h1)), .inl ⟨v, rfl, hr⟩⟩

/-- A function that is entered: it has a body here, and is none that the model answers itself. -/
def entersB (P : Program) (f : FuncId) : Bool := match P.funcs[f]? with
  | some fn => !(fn.name == "runtime.NumGoroutine") && fn.body.isSome
  | none => false
theorem run_enter {P : Program} {f : FuncId} (h : entersB P f = true) (args : Array Value) (w : World) : (callFunc f args).run P w = .ok (.enter f args) w := by
  unfold entersB at h
  cases hf : P.funcs[f]? with
  | none => rw [hf] at h; cases h
  | some fn =>
    rw [hf] at h
    simp only [Bool.and_eq_true, Bool.not_eq_true'] at h
    have h1 : ¬ fn.name = "runtime.NumGoroutine" := by have := h.1; simpa using this
    have h2 : ¬ fn.body = none := by have := h.2; intro e; rw [e] at this; cases this
    simp [callFunc, hf, h1, h2]
theorem wp_callFn {o : Oper} {b : Act} {w : World} {K : Act → World → Prop} {G : Value → World → Prop} {f : FuncId} {x : Operand} {xs : Array Operand} {ats : Array TypeId} {args : List Value}
    (ho : o.op = .call { callee := .value x, args := xs, argTypes := ats }) (hx : b.eval x = .func (.func f) #[] #[]) (hf : entersB P f = true) (ha : xs.toList.map b.eval = args)
    (h : Calls P f args.toArray w fun e w'' => ∃ v, e = .returned v ∧ G v w'') (hK : ∀ v w'', G v w'' → K (b.put o.dst v) w'') : o.wp P b w K (fun _ _ _ => False) := by
  have ha' : xs.map b.eval = args.toArray := by rw [← ha, ← List.map_toArray, Array.toArray_toList]
  have hrun : (execOp b.eval o).run P w = .ok (.enter f args.toArray) w := by
    unfold execOp
    simp only [ho, resolve, Sem.run_bind, hx, ha', Deferred.ofValue, Sem.run_pure, Result.andThen_ok, invoke]
    simp only [Array.append_empty, Array.empty_append]
    exact run_enter hf args.toArray w
  unfold Oper.wp
  rw [hrun]
  refine Calls.mono h fun e w'' ⟨v, he, hg⟩ => ?_
  subst he
  exact hK v w'' hg
theorem wp_newVal {o : Oper} {b : Act} {w w'' : World} {K : Act → World → Prop} {v : Value} {s : Sem Value} (he : execOp b.eval o = (do pure (Next.value (← s)))) (hs : s.run P w = .ok v w'') (hK : K (b.put o.dst v) w'') : o.wp P b w K (fun _ _ _ => False) := by
  unfold Oper.wp
  have : (execOp b.eval o).run P w = .ok (.value v) w'' := by rw [he, Sem.run_bind, hs]; simp
  rw [this]
  exact hK

/-- A call whose value is known: every world that has come. -/
theorem wpX_callFn {o : Oper} {rest : List Oper} {a : Act} {hs : List (Nat × VPred)} {d : Nat} (v : Value) {f : FuncId} {x : Operand} {xs : Array Operand} {ats : Array TypeId} {args : List Value}
    (hd : o.dst = some d) (hz : Nat.blt d a.tmps.size = true) (ho : o.op = .call { callee := .value x, args := xs, argTypes := ats }) (hx : a.eval x = .func (.func f) #[] #[]) (hf : entersB P f = true) (ha : xs.toList.map a.eval = args) (hn : noHole o hs = true)
    (h : ∀ m : Lt w0, Calls P f args.toArray m.1 fun e w'' => e = .returned v ∧ Ext m.1 w'') (hr : wpX P Q w0 R rest (a.put (some d) v) hs) : wpX P Q w0 R (o :: rest) a hs :=
  wpX_call v hd hz (by unfold notSelect; rw [ho]) hn (fun m K hK => wp_callFn (G := fun u w'' => u = v ∧ Ext m.1 w'') ho hx hf ha ((h m).mono fun e w'' ⟨h1, h2⟩ => ⟨v, h1, rfl, h2⟩) (fun u w'' ⟨h1, h2⟩ => hK _ _ (by rw [hd]; rfl) ⟨h2, by rw [hd, eval_put_same (blt_lt hz)]; exact h1⟩)) hr
/-- A call whose value stays a hole. -/
theorem wpX_callHole {o : Oper} {rest : List Oper} {a : Act} {hs : List (Nat × VPred)} {d : Nat} (g : VPred) (hst : StableP g) {f : FuncId} {x : Operand} {xs : Array Operand} {ats : Array TypeId} {args : List Value}
    (hd : o.dst = some d) (hz : Nat.blt d a.tmps.size = true) (ho : o.op = .call { callee := .value x, args := xs, argTypes := ats }) (hx : a.eval x = .func (.func f) #[] #[]) (hf : entersB P f = true) (ha : xs.toList.map a.eval = args) (hn : noHole o hs = true)
    (h : ∀ m : Lt w0, Calls P f args.toArray m.1 fun e w'' => ∃ v, e = .returned v ∧ Ext m.1 w'' ∧ g v w'') (hr : wpX P Q w0 R rest (a.put (some d) undef) ((d, g) :: hs)) : wpX P Q w0 R (o :: rest) a hs :=
  wpX_hole g hst hd hz (by unfold notSelect; rw [ho]) hn (fun m K hK => wp_callFn (G := fun u w'' => Ext m.1 w'' ∧ g u w'') ho hx hf ha (h m) (fun u w'' h2 => hK _ _ (by rw [hd]; rfl) ⟨h2.1, by rw [hd, eval_put_same (blt_lt hz)]; exact h2.2⟩)) hr
/-- A call that reads a hole; its value is known. -/
theorem wpX_callUse {o : Oper} {rest : List Oper} {a : Act} {hs : List (Nat × VPred)} {d : Nat} (t1 : Nat) (p : VPred) (v : Value) {f : FuncId} {x : Operand} {xs : Array Operand} {ats : Array TypeId} (args : Value → List Value)
    (hd : o.dst = some d) (hz : Nat.blt d a.tmps.size = true) (ho : o.op = .call { callee := .value x, args := xs, argTypes := ats }) (hl : hs.lookup t1 = some p) (hn : oneHole o hs t1 = true) (hin : (opTmps o).contains t1 = true) (hz1 : Nat.blt t1 a.tmps.size = true)
    (hx : ∀ u, (a.put (some t1) u).eval x = .func (.func f) #[] #[]) (hf : entersB P f = true) (ha : ∀ u, xs.toList.map (a.put (some t1) u).eval = args u)
    (h : ∀ (m : Lt w0) (u : Value), p u m.1 → Calls P f (args u).toArray m.1 fun e w'' => e = .returned v ∧ Ext m.1 w'') (hr : wpX P Q w0 R rest (a.put (some d) v) hs) : wpX P Q w0 R (o :: rest) a hs :=
  wpX_use t1 p v hd hz (by unfold notSelect; rw [ho]) hl hn hin hz1 (fun m u hu K hK => wp_callFn (G := fun u w'' => u = v ∧ Ext m.1 w'') ho (hx u) hf (ha u) ((h m u hu).mono fun e w'' ⟨h1, h2⟩ => ⟨v, h1, rfl, h2⟩)
    (fun u' w'' ⟨h1, h2⟩ => hK _ _ (by rw [hd]; rfl) ⟨h2, by rw [hd, eval_put_same (by simpa [Act.put] using blt_lt hz)]; exact h1⟩)) hr
/-- A slice literal: its value stays a hole. -/
theorem wpX_build {o : Oper} {rest : List Oper} {a : Act} {hs : List (Nat × VPred)} {d : Nat} {t e : TypeId} {n : Nat} {ps : Array (Nat × Operand)} {vs : List (Nat × Value)} (B : Nat) {cs : Array Value} (hB : B ≤ w0.heap.size)
    (hrun : ∀ W : World, (Instr.buildSlice t n vs.toArray).run P W = .ok (.slice (some ⟨W.heap.size, 0, none⟩) n n) (W.alloc (.cells cs e)))
    (hd : o.dst = some d) (hz : Nat.blt d a.tmps.size = true) (ho : o.op = .buildSlice t n ps) (ha : (ps.toList.map fun p => (p.1, a.eval p.2)) = vs) (hn : noHole o hs = true) (hcs : n = cs.size) (hm : Nat.ble n 4294967295 = true)
    (hr : wpX P Q w0 R rest (a.put (some d) undef) ((d, fun v w => Own w B e v cs.toList) :: hs)) : wpX P Q w0 R (o :: rest) a hs :=
  wpX_hole _ (stable_own B e cs.toList) hd hz (by unfold notSelect; rw [ho]) hn (fun m K hK => wp_newVal (s := Instr.buildSlice t n vs.toArray) (by unfold execOp; simp only [ho]; rw [← ha, ← List.map_toArray, Array.toArray_toList]) (hrun m.1)
    (hK _ _ (by rw [hd]; rfl) ⟨(Below.refl _ _).alloc (Nat.le_refl _) _, by rw [hd, eval_put_same (blt_lt hz)]; exact (Own.lit m.1 cs e n hcs (by have := Nat.le_of_ble_eq_true hm; unfold maxLen; omega)).mono (Nat.le_trans hB m.2.size)⟩)) hr

/-- At the end: the frame is the one that the walk has written, the holes filled. -/
theorem wpX_end0 {a : Act} (h : ∀ m : Lt w0, R a m.1) : wpX P Q w0 R [] a [] := fun a' w he hd hz hsl => by
  have : a' = a := by
    obtain ⟨t, d⟩ := a
    obtain ⟨t', d'⟩ := a'
    simp only at hd hz
    subst hd
    congr 1
    apply Array.ext hz
    intro i h1 h2
    have := hsl i
    simpa [slotP, Act.eval, h1, h2] using this
  rw [this]
  exact h ⟨w, he⟩

theorem wpX_end1 {a : Act} {t1 : Nat} {p1 : VPred} (h : ∀ (m : Lt w0) (u : Value), p1 u m.1 → R (a.put (some t1) u) m.1) : wpX P Q w0 R [] a [(t1, p1)] := fun a' w he hd hz hsl => by
  have h1 : p1 (a'.eval (.tmp t1)) w := by simpa [slotP] using hsl t1
  have : a' = a.put (some t1) (a'.eval (.tmp t1)) := by
    obtain ⟨t, d⟩ := a
    obtain ⟨t', d'⟩ := a'
    simp only at hd hz
    subst hd
    simp only [Act.put]
    congr 1
    apply Array.ext (by simpa using hz)
    intro i g1 g2
    have := hsl i
    by_cases hi : i = t1
    · subst hi; simp [Act.eval, g1]
    · have e : (i == t1) = false := by simpa using hi
      simp only [slotP, List.lookup_cons, e, List.lookup_nil] at this
      have h3 : i < t.size := by simpa using g2
      simpa [Act.eval, g1, h3, Array.getElem_setIfInBounds, Ne.symm hi] using this
  rw [this]
  exact h ⟨w, he⟩ _ h1

theorem wpX_end2 {a : Act} {t1 t2 : Nat} {p1 p2 : VPred} (h12 : t1 ≠ t2) (h : ∀ (m : Lt w0) (u1 u2 : Value), p1 u1 m.1 → p2 u2 m.1 → R ((a.put (some t1) u1).put (some t2) u2) m.1) : wpX P Q w0 R [] a [(t2, p2), (t1, p1)] := fun a' w he hd hz hsl => by
  have h2 : p2 (a'.eval (.tmp t2)) w := by simpa [slotP] using hsl t2
  have e12 : (t1 == t2) = false := by simpa using h12
  have h1 : p1 (a'.eval (.tmp t1)) w := by simpa [slotP, List.lookup_cons, e12] using hsl t1
  have : a' = (a.put (some t1) (a'.eval (.tmp t1))).put (some t2) (a'.eval (.tmp t2)) := by
    obtain ⟨t, d⟩ := a
    obtain ⟨t', d'⟩ := a'
    simp only at hd hz
    subst hd
    simp only [Act.put]
    congr 1
    apply Array.ext (by simpa using hz)
    intro i g1 g2
    have := hsl i
    by_cases hi2 : i = t2
    · subst hi2; simp [Act.eval, g1]
    · by_cases hi : i = t1
      · subst hi
        have h3 : i < t.size := by simpa using g2
        simp [Act.eval, g1, h3, Ne.symm hi2]
      · have e : (i == t1) = false := by simpa using hi
        have e2 : (i == t2) = false := by simpa using hi2
        simp only [slotP, List.lookup_cons, e, e2, List.lookup_nil] at this
        have h3 : i < t.size := by simpa using g2
        simpa [Act.eval, g1, h3, Array.getElem_setIfInBounds, Ne.symm hi, Ne.symm hi2] using this
  rw [this]
  exact h ⟨w, he⟩ _ _ h1 h2
end
end Go.Proofs.YthbpdhanljpigaaGreatDoor
namespace Go.Proofs.YthbpdhanljpigaaGreatDoor
open Go Go.RowKit
set_option linter.unusedVariables false
section
variable {P : Program} {Q : Exit → Act → World → Prop} {w0 : World} {R : Act → World → Prop}

def fillH (a : Act) : List (Nat × VPred) → (Nat → Value) → Act
  | [], _ => a
  | (t, _) :: r, f => (fillH a r f).put (some t) (f t)
theorem fillH_size (a : Act) (f : Nat → Value) : ∀ hs : List (Nat × VPred), (fillH a hs f).tmps.size = a.tmps.size
  | [] => rfl
  | (t, _) :: r => by simp [fillH, Act.put, fillH_size a f r]
theorem fillH_defers (a : Act) (f : Nat → Value) : ∀ hs : List (Nat × VPred), (fillH a hs f).defers = a.defers
  | [] => rfl
  | (t, _) :: r => by simp [fillH, Act.put, fillH_defers a f r]
theorem fillH_at (a : Act) (f : Nat → Value) : ∀ (hs : List (Nat × VPred)) (i : Nat) (h1 : i < (fillH a hs f).tmps.size) (h2 : i < a.tmps.size), (fillH a hs f).tmps[i] = if (hs.lookup i).isSome then f i else a.tmps[i]
  | [], i, h1, h2 => by simp [fillH]
  | (t, p) :: r, i, h1, h2 => by
    have h3 : i < (fillH a r f).tmps.size := by rw [fillH_size]; exact h2
    by_cases hi : i = t
    · subst hi
      simp [fillH, Act.put]
    · have e : (i == t) = false := by simpa using hi
      have := fillH_at a f r i h3 h2
      simp only [fillH, Act.put, List.lookup_cons, e]
      rw [Array.getElem_setIfInBounds h3, if_neg (Ne.symm hi), this]
theorem wpX_endL {a : Act} {hs : List (Nat × VPred)} (h : ∀ (m : Lt w0) (f : Nat → Value), (∀ t p, hs.lookup t = some p → p (f t) m.1) → R (fillH a hs f) m.1) : wpX P Q w0 R [] a hs := fun a' w he hd hz hsl => by
  have : a' = fillH a hs (fun t => a'.eval (.tmp t)) := by
    have k1 := fillH_size a (fun t => a'.eval (.tmp t)) hs
    have k2 := fillH_defers a (fun t => a'.eval (.tmp t)) hs
    have k3 := fillH_at a (fun t => a'.eval (.tmp t)) hs
    generalize fillH a hs (fun t => a'.eval (.tmp t)) = b at *
    obtain ⟨t, d⟩ := a
    obtain ⟨t', d'⟩ := a'
    obtain ⟨tb, db⟩ := b
    simp only at hd hz k1 k2 k3
    subst hd k2
    congr 1
    apply Array.ext (by omega)
    intro i g1 g2
    have q := hsl i
    rw [k3 i g2 (by omega)]
    cases hl : hs.lookup i with
    | some p => simp [Act.eval, g1]
    | none =>
      have g3 : i < t.size := by omega
      simp only [slotP, hl] at q
      simpa [Act.eval, g1, g3] using q
  rw [this]
  refine h ⟨w, he⟩ _ fun t p hl => ?_
  have := hsl t
  simpa only [slotP, hl] using this
theorem wpX_end3 {a : Act} {t1 t2 t3 : Nat} {p1 p2 p3 : VPred} (h12 : t1 ≠ t2) (h13 : t1 ≠ t3) (h23 : t2 ≠ t3) (h : ∀ (m : Lt w0) (u1 u2 u3 : Value), p1 u1 m.1 → p2 u2 m.1 → p3 u3 m.1 → R (((a.put (some t1) u1).put (some t2) u2).put (some t3) u3) m.1) : wpX P Q w0 R [] a [(t3, p3), (t2, p2), (t1, p1)] :=
  wpX_endL fun m f hf => h m (f t1) (f t2) (f t3) (hf t1 p1 (by simp [List.lookup_cons, beq_false_of_ne h12, beq_false_of_ne h13])) (hf t2 p2 (by simp [List.lookup_cons, beq_false_of_ne h23])) (hf t3 p3 (by simp))
end
end Go.Proofs.YthbpdhanljpigaaGreatDoor
