/- Parts Wm of the proof. -/
import Derived.Test.YtkjplpmogfmhkaaGreatDoorMab
import Derived.Lib.SlBytesConst
namespace Go.Proofs.YtkjplpmogfmhkaaGreatDoor.Gm
open Go Go.RowKit Go.Proofs.YtkjplpmogfmhkaaGreatDoor
open Go.Proofs.YtkjplpmogfmhkaaGreatDoor.Gd (opTmpsG gwp gwp_mono GRun GSkip gwp_run gwp_skip guardTmps plainOpG plain_enterG)
set_option linter.unusedVariables false
/-- w' is w with new blocks; blocks from B on may have got another mark. -/
structure ExtM (B : Nat) (w w' : World) : Prop where
  os : w'.os = w.os
  tape : w'.tape = w.tape
  output : w'.output = w.output
  size : w.heap.size ≤ w'.heap.size
  block : ∀ k, k < B → w'.heap[k]? = w.heap[k]?
  cells : ∀ (k : Nat) (cs : Array Value) (e : TypeId) (fr : Nat × Nat), w.heap[k]? = some (.cells cs e fr) → ∃ fr', w'.heap[k]? = some (.cells cs e fr')
  others : ∀ (k : Nat) (o : Obj), w.heap[k]? = some o → (∀ cs e fr, o ≠ .cells cs e fr) → w'.heap[k]? = some o
theorem ExtM.refl (B : Nat) (w : World) : ExtM B w w := ⟨rfl, rfl, rfl, Nat.le_refl _, fun _ _ => rfl, fun _ _ _ fr h => ⟨fr, h⟩, fun _ _ h _ => h⟩
theorem ext_M {B : Nat} {w w' : World} (hB : B ≤ w.heap.size) (h : Ext w w') : ExtM B w w' :=
  ⟨h.os, h.tape, h.output, h.size, fun k hk => h.block k (by omega), fun k _ _ fr hk => ⟨fr, (h.block k (block_lt hk)).trans hk⟩, fun k _ hk _ => (h.block k (block_lt hk)).trans hk⟩
theorem extM_step {w0 w w' : World} (h : Ext w0 w) (k : ExtM w0.heap.size w w') : Ext w0 w' :=
  ⟨k.os.trans h.os, k.tape.trans h.tape, k.output.trans h.output, Nat.le_trans h.size k.size, fun i hi => (k.block i hi).trans (h.block i hi)⟩
theorem ExtM.cell {B : Nat} {w w' : World} (h : ExtM B w w') {p : Addr} {v : Value} (hp : p.spot = none) (hv : w.cell? p = some v) : w'.cell? p = some v := by
  obtain ⟨b, o, vw⟩ := p
  simp only at hp
  subst hp
  cases hb : w.heap[b]? with
  | none => simp [World.cell?, hb] at hv
  | some ob =>
    by_cases hc : ∃ cs e fr, ob = .cells cs e fr
    · obtain ⟨cs, e, fr, rfl⟩ := hc
      obtain ⟨fr', hb'⟩ := h.cells b cs e fr hb
      rw [cell_of_row w b o cs e fr hb] at hv
      rw [cell_of_row w' b o cs e fr' hb']
      exact hv
    · rw [← hv]
      exact World.cell?_of_block (by rw [h.others b ob hb (fun cs e fr he => hc ⟨cs, e, fr, he⟩), hb])
def StableM (B : Nat) (g : VPred) : Prop := ∀ v w w', ExtM B w w' → g v w → g v w'
theorem stableM_eq (B : Nat) (v : Value) : StableM B (fun u _ => u = v) := fun _ _ _ _ h => h
/-- The slice is a new row of its own, whole. -/
def NewRow (B : Nat) (cs : Array Value) (e : TypeId) (n : Nat) : VPred := fun v w => ∃ g fr, v = .slice (some ⟨g, 0, none⟩) n n ∧ B ≤ g ∧ w.heap[g]? = some (.cells cs e fr)
theorem stableM_newRow (B B' : Nat) (cs : Array Value) (e : TypeId) (n : Nat) : StableM B (NewRow B' cs e n) := fun v w w' h ⟨g, fr, h1, h2, h3⟩ => by
  obtain ⟨fr', h4⟩ := h.cells g cs e fr h3
  exact ⟨g, fr', h1, h2, h4⟩
theorem NewRow.rd {B : Nat} {cs : Array Value} {e : TypeId} {n : Nat} {v : Value} {w : World} (h : NewRow B cs e n v w) (hn : n = cs.size) (hm : n ≤ maxLen) : Rd w v cs.toList := by
  obtain ⟨g, fr, rfl, _, hb⟩ := h
  refine ⟨_, n, n, rfl, by simpa using hn, Nat.le_refl _, hm, fun _ => ⟨g, 0, rfl, fun j u hu => ?_⟩⟩
  rw [Nat.zero_add, cell_of_row w g j cs e fr hb]
  simpa using hu
theorem heap_alloc_newM (w : World) (o : Obj) : (w.alloc o).heap[w.heap.size]? = some o := by show (w.heap.push o)[w.heap.size]? = _; simp
def wpX (P : Program) (ops : Array Oper) (Q : Exit → Act → World → Prop) (w0 : World) (R : Act → World → Prop) : List Oper → Act → List (Nat × VPred) → Prop
  | [], a, hs => ∀ a' w, Ext w0 w → a'.defers = a.defers → a'.tmps.size = a.tmps.size → (∀ t, slotP a hs t (a'.eval (.tmp t)) w) → R a' w
  | o :: rest, a, hs => ∃ d g, o.dst = some d ∧ d < a.tmps.size ∧ StableM w0.heap.size g ∧
      (∀ a' w, Ext w0 w → (∀ t ∈ opTmpsG ops o, slotP a hs t (a'.eval (.tmp t)) w) → gwp P ops o a' w (fun a'' w'' => ∃ v, a'' = a'.put o.dst v ∧ ExtM w0.heap.size w w'' ∧ g v w'') Q) ∧
      ((∃ v, g = (fun u _ => u = v) ∧ wpX P ops Q w0 R rest (a.put (some d) v) hs) ∨ wpX P ops Q w0 R rest (a.put (some d) undef) ((d, g) :: hs))


section
variable {P : Program} {ops : Array Oper} {Q : Exit → Act → World → Prop}

def Ob (P : Program) (ops : Array Oper) (Q : Exit → Act → World → Prop) (n : Nat) (a0 : Act) (w0 : World) (good : Nat → VPred) (i : Nat) (o : Oper) : Prop :=
  ∃ d, o.dst = some d ∧ d < a0.tmps.size ∧ StableM w0.heap.size (good i) ∧ ∀ a' w, Ext w0 w → (∀ t ∈ opTmpsG ops o, slotG ops n a0 good t (a'.eval (.tmp t)) w) →
    gwp P ops o a' w (fun a'' w'' => ∃ v, a'' = a'.put o.dst v ∧ ExtM w0.heap.size w w'' ∧ good i v w'') Q


def chkHead (ops : Array Oper) (n : Nat) : Bool :=
  decide (n ≤ ops.size) && (List.range n).all fun i => match ops[i]? with
    | none => false
    | some o => o.after.all (fun e => !Region.binds .any e || decide (e.on < i)) &&
      (List.range n).all (fun j => match ops[j]? with
        | none => false
        | some oj => (j == i || oj.dst != o.dst) && ((opTmpsG ops o).all fun t => oj.dst != some t || o.after.any fun e => Region.binds .any e && e.on == j))
structure HeadOk (ops : Array Oper) (n : Nat) : Prop where
  le : n ≤ ops.size
  back : ∀ i o, i < n → ops[i]? = some o → ∀ e ∈ o.after, Region.binds .any e = true → e.on < i
  one : ∀ i o j oj, i < n → j < n → ops[i]? = some o → ops[j]? = some oj → j ≠ i → oj.dst ≠ o.dst
  wait : ∀ i o j oj, i < n → j < n → ops[i]? = some o → ops[j]? = some oj → ∀ t ∈ opTmpsG ops o, oj.dst = some t → ∃ e ∈ o.after, Region.binds .any e = true ∧ e.on = j

theorem headOk_of {n : Nat} (h : chkHead ops n = true) : HeadOk ops n := by
  unfold chkHead at h
  simp only [Bool.and_eq_true, decide_eq_true_eq] at h
  obtain ⟨hle, hall⟩ := h
  have key : ∀ i o, i < n → ops[i]? = some o → (o.after.all (fun e => !Region.binds .any e || decide (e.on < i)) &&
      (List.range n).all (fun j => match ops[j]? with
        | none => false
        | some oj => (j == i || oj.dst != o.dst) && ((opTmpsG ops o).all fun t => oj.dst != some t || o.after.any fun e => Region.binds .any e && e.on == j))) = true := fun i o hi ho => by
    have := List.all_eq_true.1 hall i (List.mem_range.2 hi)
    rw [ho] at this
    exact this
  have key2 : ∀ i o j oj, i < n → j < n → ops[i]? = some o → ops[j]? = some oj → ((j == i || oj.dst != o.dst) && ((opTmpsG ops o).all fun t => oj.dst != some t || o.after.any fun e => Region.binds .any e && e.on == j)) = true := fun i o j oj hi hj ho hoj => by
    have := key i o hi ho
    simp only [Bool.and_eq_true] at this
    have := List.all_eq_true.1 this.2 j (List.mem_range.2 hj)
    rw [hoj] at this
    exact this
  refine ⟨hle, fun i o hi ho e he hb => ?_, fun i o j oj hi hj ho hoj hne heq => ?_, fun i o j oj hi hj ho hoj t ht hd => ?_⟩
  · have := key i o hi ho
    simp only [Bool.and_eq_true] at this
    have h2 := Array.all_eq_true_iff_forall_mem.1 this.1 e he
    simp only [hb, Bool.not_true, Bool.false_or, decide_eq_true_eq] at h2
    exact h2
  · have := key2 i o j oj hi hj ho hoj
    simp only [Bool.and_eq_true, Bool.or_eq_true, beq_iff_eq, bne_iff_ne] at this
    rcases this.1 with h | h
    · exact hne h
    · exact h heq
  · have := key2 i o j oj hi hj ho hoj
    simp only [Bool.and_eq_true] at this
    have h2 := List.all_eq_true.1 this.2 t ht
    simp only [Bool.or_eq_true, bne_iff_ne, hd, ne_eq, not_true, false_or] at h2
    obtain ⟨e, he, hb⟩ := Array.any_eq_true'.1 h2
    simp only [Bool.and_eq_true, beq_iff_eq] at hb
    exact ⟨e, he, hb.1, hb.2⟩


theorem psi_main {n : Nat} {a0 : Act} {w0 : World} {good : Nat → VPred} (hk : HeadOk ops n) (ht : chkTail ops n = true) (hob : ∀ i o, i < n → ops[i]? = some o → Ob P ops Q n a0 w0 good i o)
    (hfin : ∀ a w, Ext w0 w → a.defers = a0.defers → a.tmps.size = a0.tmps.size → (∀ t, slotG ops n a0 good t (a.eval (.tmp t)) w) → wpList P ops Q (ops.toList.drop n) a w) :
    ∀ (f : Nat) (listed : Array Bool) (a : Act) (w : World), ((List.range n).filter fun i => !listed.getD i false).length = f → HeadInv .any ops n listed → InvX ops n a0 w0 good listed a w →
      wpAny P .any ops Q (f + (ops.size - n)) listed a w := by
  unfold chkTail at ht
  simp only [Bool.and_eq_true, Bool.or_eq_true, beq_iff_eq] at ht
  obtain ⟨htail, hseq⟩ := ht
  intro f
  induction f with
  | zero =>
    intro listed a w hf inv hx
    have hall : ∀ i, i < n → listed.getD i false = true := fun i hi => by
      have h0 := List.eq_nil_of_length_eq_zero hf
      cases hl : listed.getD i false with
      | true => rfl
      | false =>
        have : i ∈ (List.range n).filter fun i => !listed.getD i false := List.mem_filter.2 ⟨List.mem_range.2 hi, by simp only [hl]; rfl⟩
        rw [h0] at this
        cases this
    have hle := hk.le
    have hls := inv.size
    have hl : listed = Array.replicate n true ++ Array.replicate (ops.size - n) false := by
      apply Array.ext
      · simp; omega
      · intro i h1 h2
        by_cases hin : i < n
        · have := hall i hin
          rw [Array.getElem_append_left (by simpa using hin)]
          simpa [h1] using this
        · have := inv.tail i (by omega) (by omega)
          rw [Array.getElem_append_right (by simp; omega)]
          simpa [h1] using this
    rw [Nat.zero_add]
    have hd := hfin a w hx.ext hx.defers hx.size (fun t => ⟨fun j hj oj hoj hd => hx.done j hj (hall j hj) oj hoj t hd, fun hno => hx.old t (fun j hj _ oj hoj => hno j hj oj hoj)⟩)
    have := wpAny_of_seq (md := .any) (ops := ops) (Q' := Q) (ops.toList.drop n) n listed a w (fun j => by simp [List.getElem?_drop]) (by
      rw [hl, show (ops.toList.drop n).length = ops.size - n by simp]
      exact hseq) hd
    rwa [show (ops.toList.drop n).length = ops.size - n by simp] at this
  | succ f ih =>
    intro listed a w hf inv hx
    have hle := hk.le
    have hls := inv.size
    -- the least one that has not come up
    have hex : ∃ i, i < n ∧ listed.getD i false = false := by
      cases hfl : (List.range n).filter fun i => !listed.getD i false with
      | nil => rw [hfl] at hf; simp at hf
      | cons i r =>
        have : i ∈ (List.range n).filter fun i => !listed.getD i false := by rw [hfl]; exact List.mem_cons_self
        obtain ⟨h1, h2⟩ := List.mem_filter.1 this
        exact ⟨i, List.mem_range.1 h1, by simpa using h2⟩
    have hleast : ∀ m, (∃ i, i ≤ m ∧ i < n ∧ listed.getD i false = false) → ∃ i, i < n ∧ listed.getD i false = false ∧ ∀ j, j < i → listed.getD j false = true := by
      intro m
      induction m with
      | zero =>
        rintro ⟨i, h0, hi, hl⟩
        exact ⟨i, hi, hl, fun j hj => by omega⟩
      | succ m ihm =>
        rintro ⟨i, h0, hi, hl⟩
        by_cases hb : ∃ j, j ≤ m ∧ j < n ∧ listed.getD j false = false
        · exact ihm hb
        · refine ⟨i, hi, hl, fun j hj => ?_⟩
          cases hjl : listed.getD j false with
          | true => rfl
          | false => exact absurd ⟨j, by omega, by omega, hjl⟩ hb
    obtain ⟨i0, hi0, hl0, hmin⟩ : ∃ i, i < n ∧ listed.getD i false = false ∧ ∀ j, j < i → listed.getD j false = true := by
      obtain ⟨i, hi, hl⟩ := hex
      exact hleast i ⟨i, Nat.le_refl _, hi, hl⟩
    obtain ⟨o0, ho0⟩ : ∃ o, ops[i0]? = some o := ⟨ops[i0]'(by omega), Array.getElem?_eq_getElem (by omega)⟩
    have hr0 : i0 ∈ Region.ready .any ops listed := mem_ready.2 ⟨getD_in (by omega) hl0, o0, ho0, fun e he hb => hmin _ (hk.back i0 o0 hi0 ho0 e he hb)⟩
    rw [show f + 1 + (ops.size - n) = (f + (ops.size - n)) + 1 by omega]
    refine ⟨fun h => (by rw [h] at hr0; cases hr0), fun i hi => ?_⟩
    have hir := mem_ready.1 hi
    have hin : i < n := by
      rcases Nat.lt_or_ge i n with h | h
      · exact h
      · rcases htail with he | ⟨hs, hc⟩
        · obtain ⟨o, ho, _⟩ := hir.2
          have := (Array.getElem?_eq_some_iff.1 ho).1
          omega
        · have hn : n < ops.size := by
            obtain ⟨o, ho, _⟩ := hir.2
            have := (Array.getElem?_eq_some_iff.1 ho).1
            omega
          exact absurd hi (tail_waits hs hc hn inv _ i0 rfl hi0 (getD_in (by omega) hl0) i h)
    obtain ⟨hun, o, ho, hall⟩ := hir
    have hlf : listed.getD i false = false := getD_both hun
    obtain ⟨d, hd, hds, hst, hwp⟩ := hob i o hin ho
    have hslots : ∀ t ∈ opTmpsG ops o, slotG ops n a0 good t (a.eval (.tmp t)) w := fun t ht => by
      refine ⟨fun j hj oj hoj hdj => ?_, fun hno => hx.old t (fun j hj _ oj hoj => hno j hj oj hoj)⟩
      obtain ⟨e, he, hb, hon⟩ := hk.wait i o j oj hin hj ho hoj t ht hdj
      exact hx.done j hj (by rw [← hon]; exact hall e he hb) oj hoj t hdj
    unfold wpOp
    simp only [ho]
    have hgo : ∀ K : Act → World → Prop, gwp P ops o a w K Q → (if Region.wanted o (yielded ops a.tmps) = true then o.wp P a w K Q ∨ (o.asks P a w ∧ LetsOut Q) else K (a.put o.dst undef) w) := fun K h => by
      unfold gwp at h
      split
      · rename_i c; rw [if_pos c] at h; exact .inl h
      · rename_i c; rw [if_neg c] at h; exact h
    refine hgo _ (gwp_mono ?_ (hwp a w hx.ext hslots))
    rintro a'' w'' ⟨v, rfl, hext, hgood⟩
    refine ih (listed.setIfInBounds i true) _ w'' ?_ (inv.set hi hin) ?_
    · have := count_lt (p := fun j => !listed.getD j false) (q := fun j => !(listed.setIfInBounds i true).getD j false) hin (by simp only [hlf]; rfl) (by
        have : (listed.setIfInBounds i true).getD i false = true := by simp [show i < listed.size by omega]
        simp only [this]; rfl) (fun j hj => by simp only [getD_set_ne false (Ne.symm hj)])
      omega
    · refine ⟨extM_step hx.ext hext, by rw [hd]; exact hx.defers, by rw [hd]; simp [Act.put, hx.size], fun j hj hjl oj hoj e he => ?_, fun t hno => ?_⟩
      · by_cases hji : j = i
        · subst hji
          have : oj = o := Option.some.inj (hoj.symm.trans ho)
          subst this
          have : e = d := Option.some.inj (he.symm.trans hd)
          subst this
          rw [hd, eval_put_same (by rw [hx.size]; exact hds)]
          exact hgood
        · rw [getD_set_ne false (Ne.symm hji)] at hjl
          have hne : d ≠ e := fun h => hk.one i o j oj hin hj ho hoj hji (by rw [he, hd, h])
          rw [hd, eval_put_ne hne]
          obtain ⟨_, _, _, hstj, _⟩ := hob j oj hj hoj
          exact hstj _ _ _ hext (hx.done j hj hjl oj hoj e he)
      · have hne : d ≠ t := fun h => hno i hin (by simp [show i < listed.size by omega]) o ho (by rw [hd, h])
        rw [hd, eval_put_ne hne]
        exact hx.old t fun j hj hjl oj hoj => hno j hj (getD_set_true hjl) oj hoj


theorem wpX_out {n : Nat} {a0 : Act} {w0 : World} {R : Act → World → Prop} (hk : HeadOk ops n) :
    ∀ (rest : List Oper) (k : Nat) (a : Act) (hs : List (Nat × VPred)) (gs : List VPred), k + rest.length = n → (∀ j, j < rest.length → rest[j]? = ops[k + j]?) → JX ops n a0 k a hs gs → wpX P ops Q w0 R rest a hs →
      ∃ gs' : List VPred, (∀ j, j < k → gs'.getD j (fun _ _ => True) = gs.getD j (fun _ _ => True)) ∧ (∀ i o, k ≤ i → i < n → ops[i]? = some o → Ob P ops Q n a0 w0 (fun j => gs'.getD j (fun _ _ => True)) i o) ∧
        (∀ a' w, Ext w0 w → a'.defers = a0.defers → a'.tmps.size = a0.tmps.size → (∀ t, slotG ops n a0 (fun j => gs'.getD j (fun _ _ => True)) t (a'.eval (.tmp t)) w) → R a' w)
  | [], k, a, hs, gs, hkn, _, J, h => by
    have hkn' : k = n := by simpa using hkn
    subst hkn'
    exact ⟨gs, fun _ _ => rfl, fun i o h1 h2 _ => by omega, fun a' w he hd hz hsl => h a' w he (hd.trans J.defers.symm) (hz.trans J.size.symm) fun t => J.slot t _ _ (hsl t).1 (hsl t).2⟩
  | o :: rest, k, a, hs, gs, hkn, hl, J, h => by
    simp only [List.length_cons] at hkn
    have hkn' : k < n := by omega
    have h0 : ops[k]? = some o := by simpa using (hl 0 (by simp)).symm
    obtain ⟨d, g, hd, hds, hst, hwp, hrest⟩ := h
    have hl' : ∀ j, j < rest.length → rest[j]? = ops[k + 1 + j]? := fun j hj => by
      have := hl (j + 1) (by simp; omega)
      simpa [Nat.add_assoc, Nat.add_comm 1 j] using this
    have hgk : ∀ j, j < k → (gs ++ [g]).getD j (fun _ _ => True) = gs.getD j (fun _ _ => True) := fun j hj => by
      simp [List.getD_eq_getElem?_getD, List.getElem?_append_left (show j < gs.length by rw [J.len]; exact hj)]
    have hgk' : (gs ++ [g]).getD k (fun _ _ => True) = g := by
      simp [List.getD_eq_getElem?_getD, ← J.len]
    have hno : ∀ g', hs.lookup d = some g' → False := fun g' hg' => by
      obtain ⟨j, oj, hj, hoj, hdj⟩ := J.keys d g' hg'
      exact hk.one k o j oj hkn' (by omega) h0 hoj (by omega) (by rw [hdj, hd])
    have hnone : hs.lookup d = none := by
      cases hc : hs.lookup d with
      | none => rfl
      | some g' => exact (hno g' hc).elim
    -- the next J, once for each kind of step
    have hJ : ∃ a1 hs1, JX ops n a0 (k + 1) a1 hs1 (gs ++ [g]) ∧ wpX P ops Q w0 R rest a1 hs1 := by
      rcases hrest with ⟨v, hg, hx⟩ | hx
      · refine ⟨a.put (some d) v, hs, ⟨by simp [J.len], J.defers, by simp [Act.put, J.size], fun t g' ht => ?_, fun t u w h1 h2 => ?_⟩, hx⟩
        · obtain ⟨j, oj, hj, r⟩ := J.keys t g' ht
          exact ⟨j, oj, by omega, r⟩
        · by_cases htd : d = t
          · subst htd
            have := h1 k (by omega) o h0 hd
            rw [hgk', hg] at this
            unfold slotP
            rw [hnone]
            simp only [eval_put_same hds]
            exact this
          · have := J.slot t u w (fun j hj oj hoj hdj => by have := h1 j (by omega) oj hoj hdj; rwa [hgk j hj] at this) (fun hn => h2 fun j hj oj hoj => by
              by_cases hjk : j = k
              · subst hjk
                have : oj = o := Option.some.inj (hoj.symm.trans h0)
                subst this
                rw [hd]; intro he; exact htd (Option.some.inj he)
              · exact hn j (by omega) oj hoj)
            unfold slotP at *
            cases hc : hs.lookup t with
            | some g' => simp only [hc] at this ⊢; exact this
            | none => simp only [hc] at this ⊢; rw [eval_put_ne htd]; exact this
      · refine ⟨a.put (some d) undef, (d, g) :: hs, ⟨by simp [J.len], J.defers, by simp [Act.put, J.size], fun t g' ht => ?_, fun t u w h1 h2 => ?_⟩, hx⟩
        · by_cases htd : t = d
          · subst htd; exact ⟨k, o, by omega, h0, hd⟩
          · have e : (t == d) = false := by simpa using htd
            simp only [List.lookup_cons, e] at ht
            obtain ⟨j, oj, hj, r⟩ := J.keys t g' ht
            exact ⟨j, oj, by omega, r⟩
        · by_cases htd : d = t
          · subst htd
            have := h1 k (by omega) o h0 hd
            rw [hgk'] at this
            unfold slotP
            simp only [List.lookup_cons, beq_self_eq_true]
            exact this
          · have := J.slot t u w (fun j hj oj hoj hdj => by have := h1 j (by omega) oj hoj hdj; rwa [hgk j hj] at this) (fun hn => h2 fun j hj oj hoj => by
              by_cases hjk : j = k
              · subst hjk
                have : oj = o := Option.some.inj (hoj.symm.trans h0)
                subst this
                rw [hd]; intro he; exact htd (Option.some.inj he)
              · exact hn j (by omega) oj hoj)
            have e : (t == d) = false := by simpa using fun h => htd h.symm
            unfold slotP at *
            simp only [List.lookup_cons, e]
            cases hc : hs.lookup t with
            | some g' => simp only [hc] at this ⊢; exact this
            | none => simp only [hc] at this ⊢; rw [eval_put_ne htd]; exact this
    obtain ⟨a1, hs1, J1, hx1⟩ := hJ
    obtain ⟨gs', e1, e2, e3⟩ := wpX_out hk rest (k + 1) a1 hs1 (gs ++ [g]) (by omega) hl' J1 hx1
    refine ⟨gs', fun j hj => by rw [e1 j (by omega), hgk j hj], fun i oi h1 h2 hoi => ?_, e3⟩
    by_cases hik : i = k
    · subst hik
      have : oi = o := Option.some.inj (hoi.symm.trans h0)
      subst this
      have hgi : gs'.getD i (fun _ _ => True) = g := by rw [e1 i (by omega), hgk']
      refine ⟨d, hd, by rw [← J.size]; exact hds, by show StableM w0.heap.size (gs'.getD i (fun _ _ => True)); rw [hgi]; exact hst, fun a' w he hsl => ?_⟩
      show gwp P ops oi a' w (fun a'' w'' => ∃ v, a'' = a'.put oi.dst v ∧ ExtM w0.heap.size w w'' ∧ gs'.getD i (fun _ _ => True) v w'') Q
      rw [hgi]
      refine hwp a' w he fun t ht => ?_
      have hs1 := hsl t ht
      refine J.slot t _ _ (fun j hj oj hoj hdj => ?_) (fun hn => hs1.2 fun j hj oj hoj hdj => ?_)
      · have := hs1.1 j (by omega) oj hoj hdj
        simp only [e1 j (by omega), hgk j hj] at this
        exact this
      · obtain ⟨e, he, hb, hon⟩ := hk.wait i oi j oj hkn' hj h0 hoj t ht hdj
        have := hk.back i oi hkn' h0 e he hb
        exact hn j (by omega) oj hoj hdj
    · exact e2 i oi (by omega) h2 hoi

/-- THE LAW. -/
theorem wp_region_X {id : Nat} {a : Act} {w : World} {l : List Oper} (n : Nat) (hm : P.follows .mixedOrders = true) (hB : (chkHead l.toArray n && chkTail l.toArray n) = true)
    (h : ∀ w1, Ext w w1 → wpX P l.toArray Q w1 (fun a' w' => wpList P l.toArray Q (l.drop n) a' w') (l.take n) a []) : (Code.region id l.toArray true).wp P Q a w := by
  simp only [Bool.and_eq_true] at hB
  have hk := headOk_of hB.1
  have hle : n ≤ l.length := by simpa using hk.le
  have htl : (l.take n).length = n := by simp; omega
  obtain ⟨gs, _, hob, hfin⟩ := wpX_out (a0 := a) hk (l.take n) 0 a [] [] (by rw [htl]; omega) (fun j hj => by
    rw [htl] at hj
    simp [hj]) ⟨rfl, rfl, rfl, fun t g h => (by cases h), fun t v w' _ h2 => h2 (fun j hj => by omega)⟩ (h w.drew (Below.refl _ _).drew)
  refine wp_region_any hm ?_
  have := psi_main (P := P) (Q := Q) (n := n) (a0 := a) (w0 := w.drew) (good := fun j => gs.getD j (fun _ _ => True)) hk hB.2 (fun i o hi ho => hob i o (Nat.zero_le _) hi ho) hfin
    (((List.range n).filter fun i => !(Array.replicate l.toArray.size false).getD i false).length) (Array.replicate l.toArray.size false) a w.drew rfl
    ⟨by simp, fun j oj _ hl => (by rw [getD_replicate_false] at hl; cases hl), fun t _ ht => getD_in (by simpa using ht) (getD_replicate_false _ _)⟩
    ⟨Below.refl _ _, rfl, rfl, fun j _ hl => (by rw [getD_replicate_false] at hl; cases hl), fun t _ => rfl⟩
  have hcnt : ((List.range n).filter fun i => !(Array.replicate l.toArray.size false).getD i false).length = n := by
    have : ((List.range n).filter fun i => !(Array.replicate l.toArray.size false).getD i false) = List.range n := List.filter_eq_self.2 fun i _ => by rw [getD_replicate_false]; rfl
    rw [this, List.length_range]
  rw [hcnt] at this
  rw [show n + (l.toArray.size - n) = l.toArray.size by simp; omega] at this
  exact this
end
section
variable {P : Program} {ops : Array Oper} {Q : Exit → Act → World → Prop} {w0 : World} {R : Act → World → Prop}
/-- Operations that never enter a function; pick too. -/
def plainOpG (o : Oper) : Bool := plainOp o || (match o.op with | .pick .. => true | _ => false)
theorem plain_enterG {P : Program} {ρ : Operand → Value} {o : Oper} (hp : plainOpG o = true) {w w' : World} {f : FuncId} {args : Array Value} : (execOp ρ o).run P w ≠ .ok (.enter f args) w' := by
  unfold plainOpG at hp
  rw [Bool.or_eq_true] at hp
  rcases hp with hp | hp
  · exact plain_enter hp
  · obtain ⟨dst, op, type, pos, after, guard⟩ := o
    cases op <;> simp only [] at hp <;> first
      | (cases hp; done)
      | skip
    rename_i c x y
    intro h
    unfold execOp at h
    simp only [Sem.run_bind] at h
    cases hs : (asBool (ρ c)).run P w with
    | ok b w1 => rw [hs] at h; simp at h
    | halt b w1 => rw [hs] at h; simp at h
theorem wpX_skip {o : Oper} {rest : List Oper} {a : Act} {hs : List (Nat × VPred)} {d : Nat} (hg : GSkip ops o a hs) (hd : o.dst = some d) (hz : Nat.blt d a.tmps.size = true) (hr : wpX P ops Q w0 R rest (a.put (some d) undef) hs) : wpX P ops Q w0 R (o :: rest) a hs :=
  ⟨d, fun u _ => u = undef, hd, blt_lt hz, stableM_eq _ _, fun a' w he hsl => gwp_skip hg hsl ⟨undef, rfl, ExtM.refl _ _, rfl⟩, .inl ⟨undef, rfl, hr⟩⟩

/-- An operation that reads known slots and enters nothing: the quiet walk's own step runs it. -/
theorem wpX_pure {o : Oper} {rest : List Oper} {a : Act} {hs : List (Nat × VPred)} {d : Nat} (hg : GRun ops o a hs) (hd : o.dst = some d) (hz : Nat.blt d a.tmps.size = true) (hp : plainOpG o = true) (hsel : notSelect o = true) (hn : noHole o hs = true)
    (h : ∀ K : Act → Prop, (∀ a, wpX P ops Q w0 R rest a hs → K a) → o.quiet P a (fun w' => ∃ m : Lt w0, w' = m.1) K) : wpX P ops Q w0 R (o :: rest) a hs := by
  obtain ⟨v, h1, h2⟩ := h _ (fun _ h => h)
  rw [hd] at h2
  refine ⟨d, fun u _ => u = v, hd, blt_lt hz, stableM_eq _ v, fun a' w he hsl => ?_, .inl ⟨v, rfl, h2⟩⟩
  refine gwp_run hg hsl fun hsl => ?_
  have h3 := h1 w ⟨⟨w, he⟩, rfl⟩
  have h4 : execOp a'.eval o = execOp a.eval o := exec_same (notSelect_spec hsel) (slots_eval hn hsl)
  unfold Oper.quietAt at h3
  unfold Oper.wp
  rw [h4]
  have hne := fun w' f args => plain_enterG (P := P) (ρ := a.eval) (o := o) hp (w := w) (w' := w') (f := f) (args := args)
  generalize (execOp a.eval o).run P w = r at *
  cases r with
  | ok n w' =>
    cases n <;> simp only [Oper.quietUpon] at h3 <;> simp only [Oper.upon]
    case value u => obtain ⟨e1, e2⟩ := h3; exact ⟨u, rfl, by rw [e1]; exact ExtM.refl _ _, e2⟩
    case skip => obtain ⟨e1, e2⟩ := h3; exact ⟨undef, rfl, by rw [e1]; exact ExtM.refl _ _, e2.symm⟩
    case enter f args => exact absurd rfl (hne w' f args)
  | halt x w' => simp only [Oper.quietUpon] at h3


/-- Any operation that reads known slots: what comes is told by g; it stays unknown (a hole). -/
theorem wpX_hole {o : Oper} {rest : List Oper} {a : Act} {hs : List (Nat × VPred)} {d : Nat} (hg : GRun ops o a hs) (g : VPred) (hst : StableM w0.heap.size g) (hd : o.dst = some d) (hz : Nat.blt d a.tmps.size = true) (hsel : notSelect o = true) (hn : noHole o hs = true)
    (h : ∀ (m : Lt w0) (K : Act → World → Prop), (∀ a'' w'', a''.defers = a.defers → (ExtM w0.heap.size m.1 w'' ∧ g (a''.eval (.tmp d)) w'') → K a'' w'') → o.wp P a m.1 K (fun _ _ _ => False))
    (hr : wpX P ops Q w0 R rest (a.put (some d) undef) ((d, g) :: hs)) : wpX P ops Q w0 R (o :: rest) a hs :=
  ⟨d, g, hd, blt_lt hz, hst, fun a' w he hsl => gwp_run hg hsl fun hsl => Oper.wp_mono (fun a'' w'' ⟨v, h1, h2⟩ => ⟨v, h1, h2⟩) (wp_transfer (G := fun v w'' => ExtM w0.heap.size w w'' ∧ g v w'') (exec_same (notSelect_spec hsel) (slots_eval hn hsl)) hd (blt_lt hz) (h ⟨w, he⟩)), .inr hr⟩


/-- The same; what comes is v. -/
theorem wpX_call {o : Oper} {rest : List Oper} {a : Act} {hs : List (Nat × VPred)} {d : Nat} (hg : GRun ops o a hs) (v : Value) (hd : o.dst = some d) (hz : Nat.blt d a.tmps.size = true) (hsel : notSelect o = true) (hn : noHole o hs = true)
    (h : ∀ (m : Lt w0) (K : Act → World → Prop), (∀ a'' w'', a''.defers = a.defers → (ExtM w0.heap.size m.1 w'' ∧ a''.eval (.tmp d) = v) → K a'' w'') → o.wp P a m.1 K (fun _ _ _ => False))
    (hr : wpX P ops Q w0 R rest (a.put (some d) v) hs) : wpX P ops Q w0 R (o :: rest) a hs :=
  ⟨d, fun u _ => u = v, hd, blt_lt hz, stableM_eq _ v, fun a' w he hsl => gwp_run hg hsl fun hsl => Oper.wp_mono (fun a'' w'' ⟨v, h1, h2⟩ => ⟨v, h1, h2⟩) (wp_transfer (G := fun u w'' => ExtM w0.heap.size w w'' ∧ u = v) (exec_same (notSelect_spec hsel) (slots_eval hn hsl)) hd (blt_lt hz) (h ⟨w, he⟩)), .inl ⟨v, rfl, hr⟩⟩


/-- An operation that reads a hole: what comes is v. -/
theorem wpX_use {o : Oper} {rest : List Oper} {a : Act} {hs : List (Nat × VPred)} {d : Nat} (hg : GRun ops o a hs) (t1 : Nat) (p : VPred) (v : Value) (hd : o.dst = some d) (hz : Nat.blt d a.tmps.size = true) (hsel : notSelect o = true) (hl : hs.lookup t1 = some p) (hn : oneHole o hs t1 = true) (hin : (opTmps o).contains t1 = true) (hz1 : Nat.blt t1 a.tmps.size = true)
    (h : ∀ (m : Lt w0) (u : Value), p u m.1 → ∀ (K : Act → World → Prop), (∀ a'' w'', a''.defers = a.defers → (ExtM w0.heap.size m.1 w'' ∧ a''.eval (.tmp d) = v) → K a'' w'') → o.wp P (a.put (some t1) u) m.1 K (fun _ _ _ => False))
    (hr : wpX P ops Q w0 R rest (a.put (some d) v) hs) : wpX P ops Q w0 R (o :: rest) a hs :=
  ⟨d, fun u _ => u = v, hd, blt_lt hz, stableM_eq _ v, fun a' w he hsl => gwp_run hg hsl fun hsl => by
    obtain ⟨h1, h2⟩ := slots_one hn (by simpa using hin) (blt_lt hz1) hl hsl
    exact Oper.wp_mono (fun a'' w'' ⟨v, h1, h2⟩ => ⟨v, h1, h2⟩) (wp_transfer (G := fun u w'' => ExtM w0.heap.size w w'' ∧ u = v) (exec_same (notSelect_spec hsel) h2) hd (by simpa [Act.put] using blt_lt hz) (h ⟨w, he⟩ _ h1)), .inl ⟨v, rfl, hr⟩⟩


/-- A call whose value is known: every world that has come. -/
theorem wpX_callFn {o : Oper} {rest : List Oper} {a : Act} {hs : List (Nat × VPred)} {d : Nat} (hg : GRun ops o a hs) (v : Value) {f : FuncId} {x : Operand} {xs : Array Operand} {ats : Array TypeId} {args : List Value}
    (hd : o.dst = some d) (hz : Nat.blt d a.tmps.size = true) (ho : o.op = .call { callee := .value x, args := xs, argTypes := ats }) (hx : a.eval x = .func (.func f) #[] #[]) (hf : entersB P f = true) (ha : xs.toList.map a.eval = args) (hn : noHole o hs = true)
    (h : ∀ m : Lt w0, Calls P f args.toArray m.1 fun e w'' => e = .returned v ∧ ExtM w0.heap.size m.1 w'') (hr : wpX P ops Q w0 R rest (a.put (some d) v) hs) : wpX P ops Q w0 R (o :: rest) a hs :=
  wpX_call hg v hd hz (by unfold notSelect; rw [ho]) hn (fun m K hK => wp_callFn (G := fun u w'' => u = v ∧ ExtM w0.heap.size m.1 w'') ho hx hf ha ((h m).mono fun e w'' ⟨h1, h2⟩ => ⟨v, h1, rfl, h2⟩) (fun u w'' ⟨h1, h2⟩ => hK _ _ (by rw [hd]; rfl) ⟨h2, by rw [hd, eval_put_same (blt_lt hz)]; exact h1⟩)) hr
/-- A call that reads a hole; its value is known. -/
theorem wpX_callUse {o : Oper} {rest : List Oper} {a : Act} {hs : List (Nat × VPred)} {d : Nat} (hg : GRun ops o a hs) (t1 : Nat) (p : VPred) (v : Value) {f : FuncId} {x : Operand} {xs : Array Operand} {ats : Array TypeId} (args : Value → List Value)
    (hd : o.dst = some d) (hz : Nat.blt d a.tmps.size = true) (ho : o.op = .call { callee := .value x, args := xs, argTypes := ats }) (hl : hs.lookup t1 = some p) (hn : oneHole o hs t1 = true) (hin : (opTmps o).contains t1 = true) (hz1 : Nat.blt t1 a.tmps.size = true)
    (hx : ∀ u, (a.put (some t1) u).eval x = .func (.func f) #[] #[]) (hf : entersB P f = true) (ha : ∀ u, xs.toList.map (a.put (some t1) u).eval = args u)
    (h : ∀ (m : Lt w0) (u : Value), p u m.1 → Calls P f (args u).toArray m.1 fun e w'' => e = .returned v ∧ ExtM w0.heap.size m.1 w'') (hr : wpX P ops Q w0 R rest (a.put (some d) v) hs) : wpX P ops Q w0 R (o :: rest) a hs :=
  wpX_use hg t1 p v hd hz (by unfold notSelect; rw [ho]) hl hn hin hz1 (fun m u hu K hK => wp_callFn (G := fun u w'' => u = v ∧ ExtM w0.heap.size m.1 w'') ho (hx u) hf (ha u) ((h m u hu).mono fun e w'' ⟨h1, h2⟩ => ⟨v, h1, rfl, h2⟩)
    (fun u' w'' ⟨h1, h2⟩ => hK _ _ (by rw [hd]; rfl) ⟨h2, by rw [hd, eval_put_same (by simpa [Act.put] using blt_lt hz)]; exact h1⟩)) hr
/-- A slice literal: its value stays a hole: a new block. -/
theorem wpX_build {o : Oper} {rest : List Oper} {a : Act} {hs : List (Nat × VPred)} {d : Nat} (hg : GRun ops o a hs) {t e : TypeId} {n : Nat} {ps : Array (Nat × Operand)} {vs : List (Nat × Value)} {cs : Array Value}
    (hrun : ∀ W : World, (Instr.buildSlice t n vs.toArray).run P W = .ok (.slice (some ⟨W.heap.size, 0, none⟩) n n) (W.alloc (.cells cs e)))
    (hd : o.dst = some d) (hz : Nat.blt d a.tmps.size = true) (ho : o.op = .buildSlice t n ps) (ha : (ps.toList.map fun p => (p.1, a.eval p.2)) = vs) (hn : noHole o hs = true)
    (hr : wpX P ops Q w0 R rest (a.put (some d) undef) ((d, NewRow w0.heap.size cs e n) :: hs)) : wpX P ops Q w0 R (o :: rest) a hs :=
  wpX_hole hg _ (stableM_newRow _ _ _ _ _) hd hz (by unfold notSelect; rw [ho]) hn (fun m K hK => wp_newVal (s := Instr.buildSlice t n vs.toArray) (by unfold execOp; simp only [ho]; rw [← ha, ← List.map_toArray, Array.toArray_toList]) (hrun m.1)
    (hK _ _ (by rw [hd]; rfl) ⟨ext_M m.2.size ((Below.refl _ _).alloc (Nat.le_refl _) _), by rw [hd, eval_put_same (blt_lt hz)]; exact ⟨_, (0, 0), rfl, m.2.size, heap_alloc_newM _ _⟩⟩)) hr
/-- At the end: the frame is the one that the walk has written, the holes filled. -/
theorem wpX_end0 {a : Act} (h : ∀ m : Lt w0, R a m.1) : wpX P ops Q w0 R [] a [] := fun a' w he hd hz hsl => by
  have : a' = a := by
    obtain ⟨t, d⟩ := a
    obtain ⟨t', d'⟩ := a'
    simp only at hd hz
    subst hd
    congr 1
    apply Array.ext hz
    intro i h1 h2
    have := hsl i
    simpa [slotP, Act.eval, h1, h2] using this
  rw [this]
  exact h ⟨w, he⟩

theorem wpX_end1 {a : Act} {t1 : Nat} {p1 : VPred} (h : ∀ (m : Lt w0) (u : Value), p1 u m.1 → R (a.put (some t1) u) m.1) : wpX P ops Q w0 R [] a [(t1, p1)] := fun a' w he hd hz hsl => by
  have h1 : p1 (a'.eval (.tmp t1)) w := by simpa [slotP] using hsl t1
  have : a' = a.put (some t1) (a'.eval (.tmp t1)) := by
    obtain ⟨t, d⟩ := a
    obtain ⟨t', d'⟩ := a'
    simp only at hd hz
    subst hd
    simp only [Act.put]
    congr 1
    apply Array.ext (by simpa using hz)
    intro i g1 g2
    have := hsl i
    by_cases hi : i = t1
    · subst hi; simp [Act.eval, g1]
    · have e : (i == t1) = false := by simpa using hi
      simp only [slotP, List.lookup_cons, e, List.lookup_nil] at this
      have h3 : i < t.size := by simpa using g2
      simpa [Act.eval, g1, h3, Array.getElem_setIfInBounds, Ne.symm hi] using this
  rw [this]
  exact h ⟨w, he⟩ _ h1

theorem wpX_end2 {a : Act} {t1 t2 : Nat} {p1 p2 : VPred} (h12 : t1 ≠ t2) (h : ∀ (m : Lt w0) (u1 u2 : Value), p1 u1 m.1 → p2 u2 m.1 → R ((a.put (some t1) u1).put (some t2) u2) m.1) : wpX P ops Q w0 R [] a [(t2, p2), (t1, p1)] := fun a' w he hd hz hsl => by
  have h2 : p2 (a'.eval (.tmp t2)) w := by simpa [slotP] using hsl t2
  have e12 : (t1 == t2) = false := by simpa using h12
  have h1 : p1 (a'.eval (.tmp t1)) w := by simpa [slotP, List.lookup_cons, e12] using hsl t1
  have : a' = (a.put (some t1) (a'.eval (.tmp t1))).put (some t2) (a'.eval (.tmp t2)) := by
    obtain ⟨t, d⟩ := a
    obtain ⟨t', d'⟩ := a'
    simp only at hd hz
    subst hd
    simp only [Act.put]
    congr 1
    apply Array.ext (by simpa using hz)
    intro i g1 g2
    have := hsl i
    by_cases hi2 : i = t2
    · subst hi2; simp [Act.eval, g1]
    · by_cases hi : i = t1
      · subst hi
        have h3 : i < t.size := by simpa using g2
        simp [Act.eval, g1, h3, Ne.symm hi2]
      · have e : (i == t1) = false := by simpa using hi
        have e2 : (i == t2) = false := by simpa using hi2
        simp only [slotP, List.lookup_cons, e, e2, List.lookup_nil] at this
        have h3 : i < t.size := by simpa using g2
        simpa [Act.eval, g1, h3, Array.getElem_setIfInBounds, Ne.symm hi, Ne.symm hi2] using this
  rw [this]
  exact h ⟨w, he⟩ _ _ h1 h2

theorem wpX_endL {a : Act} {hs : List (Nat × VPred)} (h : ∀ (m : Lt w0) (f : Nat → Value), (∀ t p, hs.lookup t = some p → p (f t) m.1) → R (fillH a hs f) m.1) : wpX P ops Q w0 R [] a hs := fun a' w he hd hz hsl => by
  have : a' = fillH a hs (fun t => a'.eval (.tmp t)) := by
    have k1 := fillH_size a (fun t => a'.eval (.tmp t)) hs
    have k2 := fillH_defers a (fun t => a'.eval (.tmp t)) hs
    have k3 := fillH_at a (fun t => a'.eval (.tmp t)) hs
    generalize fillH a hs (fun t => a'.eval (.tmp t)) = b at *
    obtain ⟨t, d⟩ := a
    obtain ⟨t', d'⟩ := a'
    obtain ⟨tb, db⟩ := b
    simp only at hd hz k1 k2 k3
    subst hd k2
    congr 1
    apply Array.ext (by omega)
    intro i g1 g2
    have q := hsl i
    rw [k3 i g2 (by omega)]
    cases hl : hs.lookup i with
    | some p => simp [Act.eval, g1]
    | none =>
      have g3 : i < t.size := by omega
      simp only [slotP, hl] at q
      simpa [Act.eval, g1, g3] using q
  rw [this]
  refine h ⟨w, he⟩ _ fun t p hl => ?_
  have := hsl t
  simpa only [slotP, hl] using this
theorem eval_at (b : Act) (t : Nat) (h : t < b.tmps.size) : b.eval (.tmp t) = b.tmps[t] := by simp [Act.eval, h]
theorem slots_fill {o : Oper} {a a' : Act} {hs : List (Nat × VPred)} {w : World} (hz : a'.tmps.size = a.tmps.size ∨ True) (hin : (opTmps o).all (fun t => Nat.blt t a.tmps.size) = true) (h : ∀ t ∈ opTmps o, slotP a hs t (a'.eval (.tmp t)) w) :
    ∀ t ∈ opTmps o, a'.eval (.tmp t) = (fillH a hs (fun t => a'.eval (.tmp t))).eval (.tmp t) := fun t ht => by
  have h1 := h t ht
  have h2 : t < a.tmps.size := blt_lt (List.all_eq_true.1 hin t ht)
  have h3 : t < (fillH a hs (fun t => a'.eval (.tmp t))).tmps.size := by rw [fillH_size]; exact h2
  have h4 := fillH_at a (fun t => a'.eval (.tmp t)) hs t h3 h2
  rw [eval_at _ t h3, h4]
  unfold slotP at h1
  cases hl : hs.lookup t with
  | some p => rfl
  | none =>
    rw [hl] at h1
    simp only [Option.isSome_none, Bool.false_eq_true, if_false]
    rw [h1, eval_at _ t h2]
/-- Any operation, whatever holes it reads; what comes is told by g. -/
theorem wpX_useL {o : Oper} {rest : List Oper} {a : Act} {hs : List (Nat × VPred)} {d : Nat} (hg : GRun ops o a hs) (g : VPred) (hst : StableM w0.heap.size g) (hd : o.dst = some d) (hz : Nat.blt d a.tmps.size = true) (hsel : notSelect o = true) (hin : (opTmps o).all (fun t => Nat.blt t a.tmps.size) = true)
    (h : ∀ (m : Lt w0) (f : Nat → Value), (∀ t p, hs.lookup t = some p → (opTmps o).contains t = true → p (f t) m.1) → ∀ (K : Act → World → Prop), (∀ a'' w'', a''.defers = a.defers → (ExtM w0.heap.size m.1 w'' ∧ g (a''.eval (.tmp d)) w'') → K a'' w'') → o.wp P (fillH a hs f) m.1 K (fun _ _ _ => False))
    (hr : wpX P ops Q w0 R rest (a.put (some d) undef) ((d, g) :: hs)) : wpX P ops Q w0 R (o :: rest) a hs :=
  ⟨d, g, hd, blt_lt hz, hst, fun a' w he hsl => gwp_run hg hsl fun hsl => by
    refine Oper.wp_mono (fun a'' w'' ⟨v, h1, h2⟩ => ⟨v, h1, h2⟩) (wp_transfer (G := fun v w'' => ExtM w0.heap.size w w'' ∧ g v w'') (exec_same (notSelect_spec hsel) (slots_fill (.inr trivial) hin hsl)) hd (by rw [fillH_size]; exact blt_lt hz) (fun K hK => h ⟨w, he⟩ (fun t => a'.eval (.tmp t)) (fun t p hl hc => ?_) K (fun a'' w'' hd' => hK a'' w'' (by rw [fillH_defers]; exact hd'))))
    have := hsl t (by simpa using hc)
    unfold slotP at this
    rw [hl] at this
    exact this, .inr hr⟩
/-- A call that reads any holes; its value stays a hole. -/
theorem wpX_callL {o : Oper} {rest : List Oper} {a : Act} {hs : List (Nat × VPred)} {d : Nat} (hg : GRun ops o a hs) (g : VPred) (hst : StableM w0.heap.size g) {fn : FuncId} {x : Operand} {xs : Array Operand} {ats : Array TypeId} (args : (Nat → Value) → List Value)
    (hd : o.dst = some d) (hz : Nat.blt d a.tmps.size = true) (ho : o.op = .call { callee := .value x, args := xs, argTypes := ats }) (hin : (opTmps o).all (fun t => Nat.blt t a.tmps.size) = true)
    (hx : ∀ f, (fillH a hs f).eval x = .func (.func fn) #[] #[]) (hf : entersB P fn = true) (ha : ∀ f, xs.toList.map (fillH a hs f).eval = args f)
    (h : ∀ (m : Lt w0) (f : Nat → Value), (∀ t p, hs.lookup t = some p → (opTmps o).contains t = true → p (f t) m.1) → Calls P fn (args f).toArray m.1 fun e w'' => ∃ v, e = .returned v ∧ ExtM w0.heap.size m.1 w'' ∧ g v w'')
    (hr : wpX P ops Q w0 R rest (a.put (some d) undef) ((d, g) :: hs)) : wpX P ops Q w0 R (o :: rest) a hs :=
  wpX_useL hg g hst hd hz (by unfold notSelect; rw [ho]) hin (fun m f hu K hK => wp_callFn (G := fun u w'' => ExtM w0.heap.size m.1 w'' ∧ g u w'') ho (hx f) hf (ha f) (h m f hu)
    (fun u' w'' h2 => hK _ _ (by rw [hd]; show ((fillH a hs f).put (some d) u').defers = _; simp [Act.put, fillH_defers]) ⟨h2.1, by rw [hd, eval_put_same (by rw [fillH_size]; exact blt_lt hz)]; exact h2.2⟩)) hr
end
end Go.Proofs.YtkjplpmogfmhkaaGreatDoor.Gm
