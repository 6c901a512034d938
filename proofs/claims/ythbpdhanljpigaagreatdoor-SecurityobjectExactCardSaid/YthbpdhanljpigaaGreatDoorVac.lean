/- Parts Wh Wg of the proof. -/
import Derived.Test.YthbpdhanljpigaaGreatDoorVab
namespace Go.Proofs.YthbpdhanljpigaaGreatDoor.Gd
open Go Go.RowKit Go.Proofs.YthbpdhanljpigaaGreatDoor
set_option linter.unusedVariables false
/-- The slot of an operation's guard. -/
def guardTmps (ops : Array Oper) (o : Oper) : List Nat := match o.guard with
  | none => []
  | some (j, _) => match (ops[j]?).bind (·.dst) with
    | some t => [t]
    | none => []
def opTmpsG (ops : Array Oper) (o : Oper) : List Nat := opTmps o ++ guardTmps ops o
/-- An operation under its guard. -/
def gwp (P : Program) (ops : Array Oper) (o : Oper) (a : Act) (w : World) (K : Act → World → Prop) (Q : Exit → Act → World → Prop) : Prop :=
  if Region.wanted o (yielded ops a.tmps) then o.wp P a w K Q else K (a.put o.dst undef) w
theorem gwp_mono {P : Program} {ops : Array Oper} {Q : Exit → Act → World → Prop} {o : Oper} {a : Act} {w : World} {K K' : Act → World → Prop} (h : ∀ a w, K a w → K' a w) (hh : gwp P ops o a w K Q) : gwp P ops o a w K' Q := by
  unfold gwp at *
  split
  · rename_i c; rw [if_pos c] at hh; exact Oper.wp_mono h hh
  · rename_i c; rw [if_neg c] at hh; exact h _ _ hh
/-- The guard is known: it lets the operation run. -/
def GRun (ops : Array Oper) (o : Oper) (a : Act) (hs : List (Nat × VPred)) : Prop := match o.guard with
  | none => True
  | some (j, b) => ∃ t, (ops[j]?).bind (·.dst) = some t ∧ hs.lookup t = none ∧ a.eval (.tmp t) = .bool b
/-- The guard is known: it skips the operation. -/
def GSkip (ops : Array Oper) (o : Oper) (a : Act) (hs : List (Nat × VPred)) : Prop := match o.guard with
  | none => False
  | some (j, b) => ∃ t, (ops[j]?).bind (·.dst) = some t ∧ hs.lookup t = none ∧ a.eval (.tmp t) = .bool (!b)
/-- The same, as a test. -/
def gB (ops : Array Oper) (o : Oper) (a : Act) (hs : List (Nat × VPred)) : Bool := match o.guard with
  | none => true
  | some (j, b) => match (ops[j]?).bind (·.dst) with
    | none => false
    | some t => (hs.lookup t).isNone && match a.eval (.tmp t) with
      | .bool c => c == b
      | _ => false
theorem gR {ops : Array Oper} {o : Oper} {a : Act} {hs : List (Nat × VPred)} (h : gB ops o a hs = true) : GRun ops o a hs := by
  unfold gB at h
  unfold GRun
  split
  · trivial
  · rename_i j b hg
    rw [hg] at h
    simp only at h
    split at h
    · cases h
    · rename_i t ht
      rw [Bool.and_eq_true] at h
      refine ⟨t, ht, Option.isNone_iff_eq_none.1 h.1, ?_⟩
      have h2 := h.2
      split at h2
      · rename_i c hc
        rw [hc, beq_iff_eq.1 h2]
      · cases h2
theorem yielded_of {ops : Array Oper} {a : Act} {j t : Nat} {b : Bool} (h : (ops[j]?).bind (·.dst) = some t) (hv : a.eval (.tmp t) = .bool b) : yielded ops a.tmps j = some b := by
  unfold yielded
  rw [h]
  simp only [Option.bind_some]
  have : a.tmps[t]? = some (.bool b) := by
    simp only [Act.eval, Array.getD_eq_getD_getElem?] at hv
    cases hc : a.tmps[t]? with
    | none => rw [hc] at hv; cases hv
    | some v => rw [hc] at hv; simp only [Option.getD_some] at hv; rw [hv]
  rw [this]
theorem guard_slot {ops : Array Oper} {o : Oper} {j t : Nat} {b : Bool} (hg : o.guard = some (j, b)) (h : (ops[j]?).bind (·.dst) = some t) : t ∈ opTmpsG ops o := by
  unfold opTmpsG guardTmps
  rw [hg]
  simp only [h]
  simp
theorem gwp_run {P : Program} {ops : Array Oper} {Q : Exit → Act → World → Prop} {o : Oper} {a a' : Act} {hs : List (Nat × VPred)} {w : World} {K : Act → World → Prop} (hg : GRun ops o a hs) (hsl : ∀ t ∈ opTmpsG ops o, slotP a hs t (a'.eval (.tmp t)) w)
    (h : (∀ t ∈ opTmps o, slotP a hs t (a'.eval (.tmp t)) w) → o.wp P a' w K Q) : gwp P ops o a' w K Q := by
  have h1 := h fun t ht => hsl t (List.mem_append_left _ ht)
  unfold gwp
  rw [if_pos]
  · exact h1
  · unfold GRun at hg
    unfold Region.wanted
    cases hgd : o.guard with
    | none => rfl
    | some q =>
      obtain ⟨j, b⟩ := q
      rw [hgd] at hg
      obtain ⟨t, e1, e2, e3⟩ := hg
      have e4 := hsl t (guard_slot hgd e1)
      unfold slotP at e4
      rw [e2] at e4
      simp only [yielded_of e1 (e4.trans e3), beq_self_eq_true]
theorem gwp_skip {P : Program} {ops : Array Oper} {Q : Exit → Act → World → Prop} {o : Oper} {a a' : Act} {hs : List (Nat × VPred)} {w : World} {K : Act → World → Prop} (hg : GSkip ops o a hs) (hsl : ∀ t ∈ opTmpsG ops o, slotP a hs t (a'.eval (.tmp t)) w)
    (h : K (a'.put o.dst undef) w) : gwp P ops o a' w K Q := by
  unfold gwp
  rw [if_neg]
  · exact h
  · unfold GSkip at hg
    unfold Region.wanted
    cases hgd : o.guard with
    | none => rw [hgd] at hg; exact hg.elim
    | some q =>
      obtain ⟨j, b⟩ := q
      rw [hgd] at hg
      obtain ⟨t, e1, e2, e3⟩ := hg
      have e4 := hsl t (guard_slot hgd e1)
      unfold slotP at e4
      rw [e2] at e4
      simp only [yielded_of e1 (e4.trans e3)]
      cases b <;> decide

/-- Operations that never enter a function; pick too. -/
def plainOpG (o : Oper) : Bool := plainOp o || (match o.op with | .pick .. => true | _ => false)
theorem plain_enterG {P : Program} {ρ : Operand → Value} {o : Oper} (hp : plainOpG o = true) {w w' : World} {f : FuncId} {args : Array Value} : (execOp ρ o).run P w ≠ .ok (.enter f args) w' := by
  unfold plainOpG at hp
  rw [Bool.or_eq_true] at hp
  rcases hp with hp | hp
  · exact plain_enter hp
  · obtain ⟨dst, op, type, pos, after, guard⟩ := o
    cases op <;> simp only [] at hp <;> first
      | (cases hp; done)
      | skip
    rename_i c x y
    intro h
    unfold execOp at h
    simp only [Sem.run_bind] at h
    cases hs : (asBool (ρ c)).run P w with
    | ok b w1 => rw [hs] at h; simp at h
    | halt b w1 => rw [hs] at h; simp at h
end Go.Proofs.YthbpdhanljpigaaGreatDoor.Gd
namespace Go.Proofs.YthbpdhanljpigaaGreatDoor
open Go Go.RowKit
/-- What an operand reads when the holes hold f. -/
def evF (a : Act) (hs : List (Nat × VPred)) (f : Nat → Value) : Operand → Value
  | .tmp t => match hs.lookup t with
    | some _ => f t
    | none => a.eval (.tmp t)
  | x => a.eval x
def okOp (a : Act) : Operand → Bool
  | .tmp t => Nat.blt t a.tmps.size
  | _ => true
theorem evF_fill {a b : Act} {hs : List (Nat × VPred)} {f : Nat → Value} {x : Operand} (hz : b.tmps.size = a.tmps.size) (hb : ∀ (i : Nat) (h1 : i < b.tmps.size) (h2 : i < a.tmps.size), b.tmps[i] = if (hs.lookup i).isSome then f i else a.tmps[i]) (h : okOp a x = true) : b.eval x = evF a hs f x := by
  cases x with
  | tmp t =>
    have h2 : t < a.tmps.size := blt_lt h
    have h1 : t < b.tmps.size := by rw [hz]; exact h2
    have := hb t h1 h2
    unfold evF
    simp only [Act.eval]
    rw [← Array.getElem_eq_getD (h := h1), ← Array.getElem_eq_getD (h := h2), this]
    cases hs.lookup t <;> rfl
  | _ => rfl

end Go.Proofs.YthbpdhanljpigaaGreatDoor
namespace Go.Proofs.YthbpdhanljpigaaGreatDoor.Gt
open Go Go.RowKit Go.Proofs.YthbpdhanljpigaaGreatDoor
open Go.Proofs.YthbpdhanljpigaaGreatDoor.Gd (gB gR opTmpsG gwp gwp_mono GRun GSkip gwp_run gwp_skip guardTmps plainOpG plain_enterG)
set_option linter.unusedVariables false
/-- How a world may go on; st T: what a store of type T may do. -/
structure Rl where
  rel : World → World → Prop
  st : Nat → World → World → Prop
  refl : ∀ w, rel w w
  tr : ∀ {a b c : World}, rel a b → rel b c → rel a c
  ext : ∀ {a b : World}, Ext a b → rel a b
  sub : ∀ {T : Nat} {a b : World}, st T a b → rel a b
  dx : World → World → Prop
  dxe : ∀ {a b : World}, Ext a b → dx a b
  dxs : ∀ {a b : World}, dx a b → rel a b
def Rl.stable (r : Rl) (g : VPred) : Prop := ∀ v w w', r.rel w w' → g v w → g v w'
theorem Rl.stable_eq (r : Rl) (v : Value) : r.stable (fun u _ => u = v) := fun _ _ _ _ h => h
def Rl.Lt (r : Rl) (w : World) := { w' : World // r.rel w w' }
instance ltNe (r : Rl) (w : World) : Nonempty (r.Lt w) := ⟨⟨w, r.refl w⟩⟩
def opT (o : Oper) : Nat := match o.op with | .store t _ _ => t | _ => 0
/-- The slot of a store's pointer. -/
def opP (o : Oper) : Nat := match o.op with | .store _ (.tmp p) _ => p | _ => 0
def stp (r : Rl) (o : Oper) (w w' : World) : Prop := match o.dst with | some _ => r.dx w w' | none => r.st (opT o) w w'
def stb (r : Rl) (o : Oper) (g : VPred) : Prop := match o.dst with | some _ => r.stable g | none => (∀ v w w', r.dx w w' → g v w → g v w') ∧ ∀ T, T ≠ opT o → ∀ v w w', r.st T w w' → g v w → g v w'
theorem stp_rel {r : Rl} {o : Oper} {w w' : World} (h : stp r o w w') : r.rel w w' := by
  unfold stp at h
  split at h
  · exact r.dxs h
  · exact r.sub h
structure InvR (r : Rl) (ops : Array Oper) (n : Nat) (a0 : Act) (w0 : World) (good : Nat → VPred) (listed : Array Bool) (a : Act) (w : World) : Prop where
  ext : r.rel w0 w
  defers : a.defers = a0.defers
  size : a.tmps.size = a0.tmps.size
  clo : ∀ j, j < n → listed.getD j false = true → ∀ oj, ops[j]? = some oj → ∀ e ∈ oj.after, Region.binds .any e = true → listed.getD e.on false = true
  done : ∀ j, j < n → listed.getD j false = true → ∀ oj, ops[j]? = some oj → ∀ d, oj.dst = some d → good j (a.eval (.tmp d)) w
  kept : ∀ j, j < n → listed.getD j false = true → ∀ oj, ops[j]? = some oj → oj.dst = none → good j (a.eval (.tmp (opP oj))) w
  old : ∀ t, (∀ j, j < n → listed.getD j false = true → ∀ oj, ops[j]? = some oj → oj.dst ≠ some t) → a.eval (.tmp t) = a0.eval (.tmp t)
def wpX (r : Rl) (P : Program) (ops : Array Oper) (Q : Exit → Act → World → Prop) (w0 : World) (R : Act → World → Prop) : List (Nat × VPred) → List Oper → Act → List (Nat × VPred) → Prop
  | ss, [], a, hs => ∀ a' w, r.rel w0 w → a'.defers = a.defers → a'.tmps.size = a.tmps.size → (∀ t, slotP a hs t (a'.eval (.tmp t)) w) → (∀ q ∈ ss, q.2 (a'.eval (.tmp q.1)) w) → R a' w
  | ss, o :: rest, a, hs => (∃ d g, o.dst = some d ∧ d < a.tmps.size ∧ r.stable g ∧
      (∀ a' w, r.rel w0 w → (∀ t ∈ opTmpsG ops o, slotP a hs t (a'.eval (.tmp t)) w) → gwp P ops o a' w (fun a'' w'' => ∃ v, a'' = a'.put o.dst v ∧ r.dx w w'' ∧ g v w'') Q) ∧
      ((∃ v, g = (fun u _ => u = v) ∧ wpX r P ops Q w0 R ss rest (a.put (some d) v) hs) ∨ wpX r P ops Q w0 R ss rest (a.put (some d) undef) ((d, g) :: hs))) ∨
    (∃ q : VPred, o.dst = none ∧ (∀ v w w', r.dx w w' → q v w → q v w') ∧ (∀ T, T ≠ opT o → ∀ v w w', r.st T w w' → q v w → q v w') ∧
      (∀ a' w, r.rel w0 w → (∀ t ∈ opTmpsG ops o, slotP a hs t (a'.eval (.tmp t)) w) → gwp P ops o a' w (fun a'' w'' => ∃ v, a'' = a'.put o.dst v ∧ r.st (opT o) w w'' ∧ q (a'.eval (.tmp (opP o))) w'') Q) ∧
      wpX r P ops Q w0 R ((opP o, q) :: ss) rest a hs)

section
variable {r : Rl} {P : Program} {ops : Array Oper} {Q : Exit → Act → World → Prop}

def Ob (r : Rl) (P : Program) (ops : Array Oper) (Q : Exit → Act → World → Prop) (n : Nat) (a0 : Act) (w0 : World) (good : Nat → VPred) (i : Nat) (o : Oper) : Prop :=
  (∀ d, o.dst = some d → d < a0.tmps.size) ∧ stb r o (good i) ∧ ∀ a' w, r.rel w0 w → (∀ t ∈ opTmpsG ops o, slotG ops n a0 good t (a'.eval (.tmp t)) w) →
    gwp P ops o a' w (fun a'' w'' => ∃ v, a'' = a'.put o.dst v ∧ stp r o w w'' ∧ (∀ d, o.dst = some d → good i v w'') ∧ (o.dst = none → good i (a'.eval (.tmp (opP o))) w'')) Q

def chkHead (ops : Array Oper) (n : Nat) : Bool :=
  decide (n ≤ ops.size) && (List.range n).all fun i => match ops[i]? with
    | none => false
    | some o => (o.dst.isSome || (opTmpsG ops o).contains (opP o)) && (o.after.all (fun e => !Region.binds .any e || decide (e.on < i)) &&
      (List.range n).all (fun j => match ops[j]? with
        | none => false
        | some oj => (j == i || (oj.dst.isNone && o.dst.isNone && opT oj != opT o) || oj.dst != o.dst) && ((opTmpsG ops o).all fun t => oj.dst != some t || o.after.any fun e => Region.binds .any e && e.on == j)))
structure HeadOk (ops : Array Oper) (n : Nat) : Prop where
  le : n ≤ ops.size
  ptr : ∀ i o, i < n → ops[i]? = some o → o.dst = none → opP o ∈ opTmpsG ops o
  back : ∀ i o, i < n → ops[i]? = some o → ∀ e ∈ o.after, Region.binds .any e = true → e.on < i
  one : ∀ i o j oj, i < n → j < n → ops[i]? = some o → ops[j]? = some oj → j ≠ i → (oj.dst = none ∧ o.dst = none ∧ opT oj ≠ opT o) ∨ oj.dst ≠ o.dst
  wait : ∀ i o j oj, i < n → j < n → ops[i]? = some o → ops[j]? = some oj → ∀ t ∈ opTmpsG ops o, oj.dst = some t → ∃ e ∈ o.after, Region.binds .any e = true ∧ e.on = j

theorem headOk_of {n : Nat} (h : chkHead ops n = true) : HeadOk ops n := by
  unfold chkHead at h
  simp only [Bool.and_eq_true, decide_eq_true_eq] at h
  obtain ⟨hle, hall⟩ := h
  have key : ∀ i o, i < n → ops[i]? = some o → ((o.dst.isSome || (opTmpsG ops o).contains (opP o)) && (o.after.all (fun e => !Region.binds .any e || decide (e.on < i)) &&
      (List.range n).all (fun j => match ops[j]? with
        | none => false
        | some oj => (j == i || (oj.dst.isNone && o.dst.isNone && opT oj != opT o) || oj.dst != o.dst) && ((opTmpsG ops o).all fun t => oj.dst != some t || o.after.any fun e => Region.binds .any e && e.on == j)))) = true := fun i o hi ho => by
    have := List.all_eq_true.1 hall i (List.mem_range.2 hi)
    rw [ho] at this
    exact this
  have key2 : ∀ i o j oj, i < n → j < n → ops[i]? = some o → ops[j]? = some oj → ((j == i || (oj.dst.isNone && o.dst.isNone && opT oj != opT o) || oj.dst != o.dst) && ((opTmpsG ops o).all fun t => oj.dst != some t || o.after.any fun e => Region.binds .any e && e.on == j)) = true := fun i o j oj hi hj ho hoj => by
    have := key i o hi ho
    simp only [Bool.and_eq_true] at this
    have := List.all_eq_true.1 this.2.2 j (List.mem_range.2 hj)
    rw [hoj] at this
    exact this
  refine ⟨hle, fun i o hi ho hd => ?_, fun i o hi ho e he hb => ?_, fun i o j oj hi hj ho hoj hne => ?_, fun i o j oj hi hj ho hoj t ht hd => ?_⟩
  · have := key i o hi ho
    simp only [Bool.and_eq_true, Bool.or_eq_true] at this
    rcases this.1 with h | h
    · rw [hd] at h; cases h
    · simpa using h
  · have := key i o hi ho
    simp only [Bool.and_eq_true] at this
    have h2 := Array.all_eq_true_iff_forall_mem.1 this.2.1 e he
    simp only [hb, Bool.not_true, Bool.false_or, decide_eq_true_eq] at h2
    exact h2
  · have := key2 i o j oj hi hj ho hoj
    simp only [Bool.and_eq_true, Bool.or_eq_true, beq_iff_eq, bne_iff_ne] at this
    rcases this.1 with (h | ⟨⟨h1, h2⟩, h3⟩) | h
    · exact absurd h hne
    · exact .inl ⟨Option.isNone_iff_eq_none.1 h1, Option.isNone_iff_eq_none.1 h2, h3⟩
    · exact .inr h
  · have := key2 i o j oj hi hj ho hoj
    simp only [Bool.and_eq_true] at this
    have h2 := List.all_eq_true.1 this.2 t ht
    simp only [Bool.or_eq_true, bne_iff_ne, hd, ne_eq, not_true_eq_false, false_or] at h2
    obtain ⟨e, he, hb⟩ := Array.any_eq_true'.1 h2
    simp only [Bool.and_eq_true, beq_iff_eq] at hb
    exact ⟨e, he, hb.1, hb.2⟩
theorem put_none (a : Act) (v : Value) : a.put none v = a := rfl

theorem psi_main {n : Nat} {a0 : Act} {w0 : World} {good : Nat → VPred} (hk : HeadOk ops n) (ht : chkTail ops n = true) (hob : ∀ i o, i < n → ops[i]? = some o → Ob r P ops Q n a0 w0 good i o)
    (hfin : ∀ a w, r.rel w0 w → a.defers = a0.defers → a.tmps.size = a0.tmps.size → (∀ t, slotG ops n a0 good t (a.eval (.tmp t)) w) → (∀ j, j < n → ∀ oj, ops[j]? = some oj → oj.dst = none → good j (a.eval (.tmp (opP oj))) w) → wpList P ops Q (ops.toList.drop n) a w) :
    ∀ (f : Nat) (listed : Array Bool) (a : Act) (w : World), ((List.range n).filter fun i => !listed.getD i false).length = f → HeadInv .any ops n listed → InvR r ops n a0 w0 good listed a w →
      wpAny P .any ops Q (f + (ops.size - n)) listed a w := by
  unfold chkTail at ht
  simp only [Bool.and_eq_true, Bool.or_eq_true, beq_iff_eq] at ht
  obtain ⟨htail, hseq⟩ := ht
  intro f
  induction f with
  | zero =>
    intro listed a w hf inv hx
    have hall : ∀ i, i < n → listed.getD i false = true := fun i hi => by
      have h0 := List.eq_nil_of_length_eq_zero hf
      cases hl : listed.getD i false with
      | true => rfl
      | false =>
        have : i ∈ (List.range n).filter fun i => !listed.getD i false := List.mem_filter.2 ⟨List.mem_range.2 hi, by simp only [hl]; rfl⟩
        rw [h0] at this
        cases this
    have hle := hk.le
    have hls := inv.size
    have hl : listed = Array.replicate n true ++ Array.replicate (ops.size - n) false := by
      apply Array.ext
      · simp; omega
      · intro i h1 h2
        by_cases hin : i < n
        · have := hall i hin
          rw [Array.getElem_append_left (by simpa using hin)]
          simpa [h1] using this
        · have := inv.tail i (by omega) (by omega)
          rw [Array.getElem_append_right (by simp; omega)]
          simpa [h1] using this
    rw [Nat.zero_add]
    have hd := hfin a w hx.ext hx.defers hx.size (fun t => ⟨fun j hj oj hoj hd => hx.done j hj (hall j hj) oj hoj t hd, fun hno => hx.old t (fun j hj _ oj hoj => hno j hj oj hoj)⟩) (fun j hj oj hoj hd => hx.kept j hj (hall j hj) oj hoj hd)
    have := wpAny_of_seq (md := .any) (ops := ops) (Q' := Q) (ops.toList.drop n) n listed a w (fun j => by simp [List.getElem?_drop]) (by
      rw [hl, show (ops.toList.drop n).length = ops.size - n by simp]
      exact hseq) hd
    rwa [show (ops.toList.drop n).length = ops.size - n by simp] at this
  | succ f ih =>
    intro listed a w hf inv hx
    have hle := hk.le
    have hls := inv.size
    -- the least one that has not come up
    have hex : ∃ i, i < n ∧ listed.getD i false = false := by
      cases hfl : (List.range n).filter fun i => !listed.getD i false with
      | nil => rw [hfl] at hf; simp at hf
      | cons i r =>
        have : i ∈ (List.range n).filter fun i => !listed.getD i false := by rw [hfl]; exact List.mem_cons_self
        obtain ⟨h1, h2⟩ := List.mem_filter.1 this
        exact ⟨i, List.mem_range.1 h1, by simpa using h2⟩
    have hleast : ∀ m, (∃ i, i ≤ m ∧ i < n ∧ listed.getD i false = false) → ∃ i, i < n ∧ listed.getD i false = false ∧ ∀ j, j < i → listed.getD j false = true := by
      intro m
      induction m with
      | zero =>
        rintro ⟨i, h0, hi, hl⟩
        exact ⟨i, hi, hl, fun j hj => by omega⟩
      | succ m ihm =>
        rintro ⟨i, h0, hi, hl⟩
        by_cases hb : ∃ j, j ≤ m ∧ j < n ∧ listed.getD j false = false
        · exact ihm hb
        · refine ⟨i, hi, hl, fun j hj => ?_⟩
          cases hjl : listed.getD j false with
          | true => rfl
          | false => exact absurd ⟨j, by omega, by omega, hjl⟩ hb
    obtain ⟨i0, hi0, hl0, hmin⟩ : ∃ i, i < n ∧ listed.getD i false = false ∧ ∀ j, j < i → listed.getD j false = true := by
      obtain ⟨i, hi, hl⟩ := hex
      exact hleast i ⟨i, Nat.le_refl _, hi, hl⟩
    obtain ⟨o0, ho0⟩ : ∃ o, ops[i0]? = some o := ⟨ops[i0]'(by omega), Array.getElem?_eq_getElem (by omega)⟩
    have hr0 : i0 ∈ Region.ready .any ops listed := mem_ready.2 ⟨getD_in (by omega) hl0, o0, ho0, fun e he hb => hmin _ (hk.back i0 o0 hi0 ho0 e he hb)⟩
    rw [show f + 1 + (ops.size - n) = (f + (ops.size - n)) + 1 by omega]
    refine ⟨fun h => (by rw [h] at hr0; cases hr0), fun i hi => ?_⟩
    have hir := mem_ready.1 hi
    have hin : i < n := by
      rcases Nat.lt_or_ge i n with h | h
      · exact h
      · rcases htail with he | ⟨hs, hc⟩
        · obtain ⟨o, ho, _⟩ := hir.2
          have := (Array.getElem?_eq_some_iff.1 ho).1
          omega
        · have hn : n < ops.size := by
            obtain ⟨o, ho, _⟩ := hir.2
            have := (Array.getElem?_eq_some_iff.1 ho).1
            omega
          exact absurd hi (tail_waits hs hc hn inv _ i0 rfl hi0 (getD_in (by omega) hl0) i h)
    obtain ⟨hun, o, ho, hall⟩ := hir
    have hlf : listed.getD i false = false := getD_both hun
    obtain ⟨hds, hst, hwp⟩ := hob i o hin ho
    have hslots : ∀ t ∈ opTmpsG ops o, slotG ops n a0 good t (a.eval (.tmp t)) w := fun t ht => by
      refine ⟨fun j hj oj hoj hdj => ?_, fun hno => hx.old t (fun j hj _ oj hoj => hno j hj oj hoj)⟩
      obtain ⟨e, he, hb, hon⟩ := hk.wait i o j oj hin hj ho hoj t ht hdj
      exact hx.done j hj (by rw [← hon]; exact hall e he hb) oj hoj t hdj
    unfold wpOp
    simp only [ho]
    have hgo : ∀ K : Act → World → Prop, gwp P ops o a w K Q → (if Region.wanted o (yielded ops a.tmps) = true then o.wp P a w K Q ∨ (o.asks P a w ∧ LetsOut Q) else K (a.put o.dst undef) w) := fun K h => by
      unfold gwp at h
      split
      · rename_i c; rw [if_pos c] at h; exact .inl h
      · rename_i c; rw [if_neg c] at h; exact h
    refine hgo _ (gwp_mono ?_ (hwp a w hx.ext hslots))
    rintro a'' w'' ⟨v, rfl, hstp, hg1, hg2⟩
    have hext := stp_rel hstp
    have hclo : ∀ j, j < n → (listed.setIfInBounds i true).getD j false = true → ∀ oj, ops[j]? = some oj → ∀ e ∈ oj.after, Region.binds .any e = true → (listed.setIfInBounds i true).getD e.on false = true := fun j hj hjl oj hoj e he hb => by
      have up : ∀ k, listed.getD k false = true → (listed.setIfInBounds i true).getD k false = true := fun k hk' => getD_set_true hk'
      by_cases hji : j = i
      · subst hji
        have : oj = o := Option.some.inj (hoj.symm.trans ho)
        subst this
        exact up _ (hall e he hb)
      · rw [getD_set_ne false (Ne.symm hji)] at hjl
        exact up _ (hx.clo j hj hjl oj hoj e he hb)
    refine ih (listed.setIfInBounds i true) _ w'' ?_ (inv.set hi hin) ?_
    · have := count_lt (p := fun j => !listed.getD j false) (q := fun j => !(listed.setIfInBounds i true).getD j false) hin (by simp only [hlf]; rfl) (by
        have : (listed.setIfInBounds i true).getD i false = true := by simp [show i < listed.size by omega]
        simp only [this]; rfl) (fun j hj => by simp only [getD_set_ne false (Ne.symm hj)])
      omega
    · cases hd : o.dst with
      | none =>
        rw [put_none]
        have hS : r.st (opT o) w w'' := by unfold stp at hstp; rw [hd] at hstp; exact hstp
        refine ⟨r.tr hx.ext hext, hx.defers, hx.size, hclo, fun j hj hjl oj hoj e he => ?_, fun j hj hjl oj hoj he => ?_, fun t hno => ?_⟩
        · by_cases hji : j = i
          · subst hji
            have : oj = o := Option.some.inj (hoj.symm.trans ho)
            subst this
            rw [hd] at he
            cases he
          · rw [getD_set_ne false (Ne.symm hji)] at hjl
            obtain ⟨_, hstj, _⟩ := hob j oj hj hoj
            unfold stb at hstj
            rw [he] at hstj
            exact hstj _ _ _ hext (hx.done j hj hjl oj hoj e he)
        · by_cases hji : j = i
          · subst hji
            have : oj = o := Option.some.inj (hoj.symm.trans ho)
            subst this
            exact hg2 hd
          · rw [getD_set_ne false (Ne.symm hji)] at hjl
            obtain ⟨_, hstj, _⟩ := hob j oj hj hoj
            unfold stb at hstj
            rw [he] at hstj
            have hT : opT o ≠ opT oj := by
              rcases hk.one i o j oj hin hj ho hoj hji with h | h
              · exact Ne.symm h.2.2
              · exact absurd (he.trans hd.symm) h
            exact hstj.2 _ hT _ _ _ hS (hx.kept j hj hjl oj hoj he)
        · exact hx.old t fun j hj hjl oj hoj => hno j hj (getD_set_true hjl) oj hoj
      | some d =>
        have hdz := hds d hd
        have hE : r.dx w w'' := by unfold stp at hstp; rw [hd] at hstp; exact hstp
        refine ⟨r.tr hx.ext hext, hx.defers, by simp [Act.put, hx.size], hclo, fun j hj hjl oj hoj e he => ?_, fun j hj hjl oj hoj he => ?_, fun t hno => ?_⟩
        · by_cases hji : j = i
          · subst hji
            have : oj = o := Option.some.inj (hoj.symm.trans ho)
            subst this
            have : e = d := Option.some.inj (he.symm.trans hd)
            subst this
            rw [eval_put_same (by rw [hx.size]; exact hdz)]
            exact hg1 _ hd
          · rw [getD_set_ne false (Ne.symm hji)] at hjl
            have hne : d ≠ e := fun h => by
              rcases hk.one i o j oj hin hj ho hoj hji with q | q
              · rw [he] at q; cases q.1
              · exact q (by rw [he, hd, h])
            rw [eval_put_ne hne]
            obtain ⟨_, hstj, _⟩ := hob j oj hj hoj
            unfold stb at hstj
            rw [he] at hstj
            exact hstj _ _ _ hext (hx.done j hj hjl oj hoj e he)
        · by_cases hji : j = i
          · subst hji
            have : oj = o := Option.some.inj (hoj.symm.trans ho)
            subst this
            rw [hd] at he
            cases he
          · rw [getD_set_ne false (Ne.symm hji)] at hjl
            have hne : d ≠ opP oj := fun h => by
              obtain ⟨e, he', hb, hon⟩ := hk.wait j oj i o hj hin hoj ho (opP oj) (hk.ptr j oj hj hoj he) (by rw [hd, h])
              have := hx.clo j hj hjl oj hoj e he' hb
              rw [hon, hlf] at this
              cases this
            rw [eval_put_ne hne]
            obtain ⟨_, hstj, _⟩ := hob j oj hj hoj
            unfold stb at hstj
            rw [he] at hstj
            exact hstj.1 _ _ _ hE (hx.kept j hj hjl oj hoj he)
        · have hne : d ≠ t := fun h => hno i hin (by simp [show i < listed.size by omega]) o ho (by rw [hd, h])
          rw [eval_put_ne hne]
          exact hx.old t fun j hj hjl oj hoj => hno j hj (getD_set_true hjl) oj hoj


theorem wpX_out {n : Nat} {a0 : Act} {w0 : World} {R : Act → World → Prop} (hk : HeadOk ops n) :
    ∀ (rest : List Oper) (k : Nat) (a : Act) (hs ss : List (Nat × VPred)) (gs : List VPred), k + rest.length = n → (∀ j, j < rest.length → rest[j]? = ops[k + j]?) → JX ops n a0 k a hs gs →
      (∀ q ∈ ss, ∃ j oj, j < k ∧ ops[j]? = some oj ∧ oj.dst = none ∧ q.1 = opP oj ∧ q.2 = gs.getD j (fun _ _ => True)) → wpX r P ops Q w0 R ss rest a hs →
      ∃ gs' : List VPred, (∀ j, j < k → gs'.getD j (fun _ _ => True) = gs.getD j (fun _ _ => True)) ∧ (∀ i o, k ≤ i → i < n → ops[i]? = some o → Ob r P ops Q n a0 w0 (fun j => gs'.getD j (fun _ _ => True)) i o) ∧
        (∀ a' w, r.rel w0 w → a'.defers = a0.defers → a'.tmps.size = a0.tmps.size → (∀ t, slotG ops n a0 (fun j => gs'.getD j (fun _ _ => True)) t (a'.eval (.tmp t)) w) → (∀ j, j < n → ∀ oj, ops[j]? = some oj → oj.dst = none → gs'.getD j (fun _ _ => True) (a'.eval (.tmp (opP oj))) w) → R a' w)
  | [], k, a, hs, ss, gs, hkn, _, J, hss, h => by
    have hkn' : k = n := by simpa using hkn
    subst hkn'
    refine ⟨gs, fun _ _ => rfl, fun i o h1 h2 _ => by omega, fun a' w he hd hz hsl hst => h a' w he (hd.trans J.defers.symm) (hz.trans J.size.symm) (fun t => J.slot t _ _ (hsl t).1 (hsl t).2) fun q hq => ?_⟩
    obtain ⟨j, oj, hj, hoj, hdj, e1, e2⟩ := hss q hq
    rw [e1, e2]
    exact hst j hj oj hoj hdj
  | o :: rest, k, a, hs, ss, gs, hkn, hl, J, hss, h => by
    simp only [List.length_cons] at hkn
    have hkn' : k < n := by omega
    have h0 : ops[k]? = some o := by simpa using (hl 0 (by simp)).symm
    have hl' : ∀ j, j < rest.length → rest[j]? = ops[k + 1 + j]? := fun j hj => by
      have := hl (j + 1) (by simp; omega)
      simpa [Nat.add_assoc, Nat.add_comm 1 j] using this
    have hgk : ∀ (g : VPred) j, j < k → (gs ++ [g]).getD j (fun _ _ => True) = gs.getD j (fun _ _ => True) := fun g j hj => by
      simp [List.getD_eq_getElem?_getD, List.getElem?_append_left (show j < gs.length by rw [J.len]; exact hj)]
    have hgk' : ∀ g : VPred, (gs ++ [g]).getD k (fun _ _ => True) = g := fun g => by
      simp [List.getD_eq_getElem?_getD, ← J.len]
    have hJ : ∃ (g : VPred) (a1 : Act) (hs1 ss1 : List (Nat × VPred)), (∀ d, o.dst = some d → d < a0.tmps.size) ∧ stb r o g ∧
        (∀ a' w, r.rel w0 w → (∀ t ∈ opTmpsG ops o, slotP a hs t (a'.eval (.tmp t)) w) → gwp P ops o a' w (fun a'' w'' => ∃ v, a'' = a'.put o.dst v ∧ stp r o w w'' ∧ (∀ d, o.dst = some d → g v w'') ∧ (o.dst = none → g (a'.eval (.tmp (opP o))) w'')) Q) ∧
        JX ops n a0 (k + 1) a1 hs1 (gs ++ [g]) ∧ (∀ q ∈ ss1, ∃ j oj, j < k + 1 ∧ ops[j]? = some oj ∧ oj.dst = none ∧ q.1 = opP oj ∧ q.2 = (gs ++ [g]).getD j (fun _ _ => True)) ∧ wpX r P ops Q w0 R ss1 rest a1 hs1 := by
      have hold : ∀ (g : VPred) (q : Nat × VPred), q ∈ ss → ∃ j oj, j < k + 1 ∧ ops[j]? = some oj ∧ oj.dst = none ∧ q.1 = opP oj ∧ q.2 = (gs ++ [g]).getD j (fun _ _ => True) := fun g q hq => by
        obtain ⟨j, oj, hj, hoj, hdj, e1, e2⟩ := hss q hq
        exact ⟨j, oj, by omega, hoj, hdj, e1, by rw [hgk g j hj]; exact e2⟩
      rcases h with ⟨d, g, hd, hds, hst, hwp, hrest⟩ | ⟨q, hd, hst, hst2, hwp, hrest⟩
      · have hstp : ∀ w w'', r.dx w w'' → stp r o w w'' := fun w w'' h => by unfold stp; rw [hd]; exact h
        have hwp' : ∀ a' w, r.rel w0 w → (∀ t ∈ opTmpsG ops o, slotP a hs t (a'.eval (.tmp t)) w) → gwp P ops o a' w (fun a'' w'' => ∃ v, a'' = a'.put o.dst v ∧ stp r o w w'' ∧ (∀ d, o.dst = some d → g v w'') ∧ (o.dst = none → g (a'.eval (.tmp (opP o))) w'')) Q := fun a' w h1 h2 =>
          gwp_mono (fun a'' w'' ⟨v, e1, e2, e3⟩ => ⟨v, e1, hstp _ _ e2, fun _ _ => e3, fun q => by rw [hd] at q; cases q⟩) (hwp a' w h1 h2)
        have hstb : stb r o g := by unfold stb; rw [hd]; exact hst
        have hdz : ∀ d', o.dst = some d' → d' < a0.tmps.size := fun d' h => by
          have : d' = d := Option.some.inj (h.symm.trans hd)
          rw [this, ← J.size]; exact hds
        have hno : ∀ g', hs.lookup d = some g' → False := fun g' hg' => by
          obtain ⟨j, oj, hj, hoj, hdj⟩ := J.keys d g' hg'
          rcases hk.one k o j oj hkn' (by omega) h0 hoj (by omega) with q | q
          · rw [hd] at q; cases q.2.1
          · exact q (by rw [hdj, hd])
        have hnone : hs.lookup d = none := by
          cases hc : hs.lookup d with
          | none => rfl
          | some g' => exact (hno g' hc).elim
        have hself : ∀ u w, (∀ j, j < k + 1 → ∀ oj, ops[j]? = some oj → oj.dst = some d → ((gs ++ [g]).getD j (fun _ _ => True)) u w) → g u w := fun u w h1 => by
          have := h1 k (by omega) o h0 hd
          rwa [hgk'] at this
        have hother : ∀ t u w, d ≠ t → (∀ j, j < k + 1 → ∀ oj, ops[j]? = some oj → oj.dst = some t → ((gs ++ [g]).getD j (fun _ _ => True)) u w) → ((∀ j, j < k + 1 → ∀ oj, ops[j]? = some oj → oj.dst ≠ some t) → u = a0.eval (.tmp t)) → slotP a hs t u w := fun t u w htd h1 h2 =>
          J.slot t u w (fun j hj oj hoj hdj => by have := h1 j (by omega) oj hoj hdj; rwa [hgk g j hj] at this) (fun hn => h2 fun j hj oj hoj => by
            by_cases hjk : j = k
            · subst hjk
              have : oj = o := Option.some.inj (hoj.symm.trans h0)
              subst this
              rw [hd]; intro he; exact htd (Option.some.inj he)
            · exact hn j (by omega) oj hoj)
        rcases hrest with ⟨v, hg, hx⟩ | hx
        · refine ⟨g, a.put (some d) v, hs, ss, hdz, hstb, hwp', ⟨by simp [J.len], J.defers, by simp [Act.put, J.size], fun t g' ht => ?_, fun t u w h1 h2 => ?_⟩, hold g, hx⟩
          · obtain ⟨j, oj, hj, r⟩ := J.keys t g' ht
            exact ⟨j, oj, by omega, r⟩
          · by_cases htd : d = t
            · subst htd
              have := hself u w h1
              rw [hg] at this
              unfold slotP
              rw [hnone]
              simp only [eval_put_same hds]
              exact this
            · have := hother t u w htd h1 h2
              unfold slotP at *
              cases hc : hs.lookup t with
              | some g' => simp only [hc] at this ⊢; exact this
              | none => simp only [hc] at this ⊢; rw [eval_put_ne htd]; exact this
        · refine ⟨g, a.put (some d) undef, (d, g) :: hs, ss, hdz, hstb, hwp', ⟨by simp [J.len], J.defers, by simp [Act.put, J.size], fun t g' ht => ?_, fun t u w h1 h2 => ?_⟩, hold g, hx⟩
          · by_cases htd : t = d
            · subst htd; exact ⟨k, o, by omega, h0, hd⟩
            · have e : (t == d) = false := by simpa using htd
              simp only [List.lookup_cons, e] at ht
              obtain ⟨j, oj, hj, r⟩ := J.keys t g' ht
              exact ⟨j, oj, by omega, r⟩
          · by_cases htd : d = t
            · subst htd
              unfold slotP
              simp only [List.lookup_cons, beq_self_eq_true]
              exact hself u w h1
            · have := hother t u w htd h1 h2
              have e : (t == d) = false := by simpa using fun h => htd h.symm
              unfold slotP at *
              simp only [List.lookup_cons, e]
              cases hc : hs.lookup t with
              | some g' => simp only [hc] at this ⊢; exact this
              | none => simp only [hc] at this ⊢; rw [eval_put_ne htd]; exact this
      · have hstp : ∀ w w'', r.st (opT o) w w'' → stp r o w w'' := fun w w'' h => by unfold stp; rw [hd]; exact h
        refine ⟨q, a, hs, (opP o, q) :: ss, fun d' h => (by rw [hd] at h; cases h), (by unfold stb; rw [hd]; exact ⟨hst, hst2⟩), fun a' w h1 h2 => gwp_mono (fun a'' w'' ⟨v, e1, e2, e3⟩ => ⟨v, e1, hstp _ _ e2, fun d' h => (by rw [hd] at h; cases h), fun _ => e3⟩) (hwp a' w h1 h2),
          ⟨by simp [J.len], J.defers, J.size, fun t g' ht => ?_, fun t u w h1 h2 => ?_⟩, fun p hp => ?_, hrest⟩
        · obtain ⟨j, oj, hj, r⟩ := J.keys t g' ht
          exact ⟨j, oj, by omega, r⟩
        · exact J.slot t u w (fun j hj oj hoj hdj => by have := h1 j (by omega) oj hoj hdj; rwa [hgk q j hj] at this) (fun hn => h2 fun j hj oj hoj => by
            by_cases hjk : j = k
            · subst hjk
              have : oj = o := Option.some.inj (hoj.symm.trans h0)
              subst this
              rw [hd]; intro he; cases he
            · exact hn j (by omega) oj hoj)
        · rcases List.mem_cons.1 hp with rfl | hp
          · exact ⟨k, o, by omega, h0, hd, rfl, (hgk' q).symm⟩
          · exact hold q p hp
    obtain ⟨g, a1, hs1, ss1, hdz, hstb, hwp, J1, hss1, hx1⟩ := hJ
    obtain ⟨gs', e1, e2, e3⟩ := wpX_out hk rest (k + 1) a1 hs1 ss1 (gs ++ [g]) (by omega) hl' J1 hss1 hx1
    refine ⟨gs', fun j hj => by rw [e1 j (by omega), hgk g j hj], fun i oi h1 h2 hoi => ?_, e3⟩
    by_cases hik : i = k
    · subst hik
      have : oi = o := Option.some.inj (hoi.symm.trans h0)
      subst this
      have hgi : gs'.getD i (fun _ _ => True) = g := by rw [e1 i (by omega), hgk']
      refine ⟨hdz, by show stb r oi (gs'.getD i (fun _ _ => True)); rw [hgi]; exact hstb, fun a' w he hsl => ?_⟩
      show gwp P ops oi a' w (fun a'' w'' => ∃ v, a'' = a'.put oi.dst v ∧ stp r oi w w'' ∧ (∀ d, oi.dst = some d → gs'.getD i (fun _ _ => True) v w'') ∧ (oi.dst = none → gs'.getD i (fun _ _ => True) (a'.eval (.tmp (opP oi))) w'')) Q
      rw [hgi]
      refine hwp a' w he fun t ht => ?_
      have hs1 := hsl t ht
      refine J.slot t _ _ (fun j hj oj hoj hdj => ?_) (fun hn => hs1.2 fun j hj oj hoj hdj => ?_)
      · have := hs1.1 j (by omega) oj hoj hdj
        simp only [e1 j (by omega), hgk g j hj] at this
        exact this
      · obtain ⟨e, he, hb, hon⟩ := hk.wait i oi j oj hkn' hj h0 hoj t ht hdj
        have := hk.back i oi hkn' h0 e he hb
        exact hn j (by omega) oj hoj hdj
    · exact e2 i oi (by omega) h2 hoi

/-- The law, where the order has been drawn. -/
theorem wpAny_X {a : Act} {w : World} {l : List Oper} (n : Nat) (hB : (chkHead l.toArray n && chkTail l.toArray n) = true)
    (h : wpX r P l.toArray Q w (fun a' w' => wpList P l.toArray Q (l.drop n) a' w') [] (l.take n) a []) : wpAny P .any l.toArray Q l.toArray.size (Array.replicate l.toArray.size false) a w := by
  simp only [Bool.and_eq_true] at hB
  have hk := headOk_of hB.1
  have hle : n ≤ l.length := by simpa using hk.le
  have htl : (l.take n).length = n := by simp; omega
  obtain ⟨gs, _, hob, hfin⟩ := wpX_out (a0 := a) hk (l.take n) 0 a [] [] [] (by rw [htl]; omega) (fun j hj => by
    rw [htl] at hj
    simp [hj]) ⟨rfl, rfl, rfl, fun t g h => (by cases h), fun t v w' _ h2 => h2 (fun j hj => by omega)⟩ (fun q hq => by cases hq) h
  have := psi_main (P := P) (Q := Q) (n := n) (a0 := a) (w0 := w) (good := fun j => gs.getD j (fun _ _ => True)) hk hB.2 (fun i o hi ho => hob i o (Nat.zero_le _) hi ho) hfin
    (((List.range n).filter fun i => !(Array.replicate l.toArray.size false).getD i false).length) (Array.replicate l.toArray.size false) a w rfl
    ⟨by simp, fun j oj _ hl => (by rw [getD_replicate_false] at hl; cases hl), fun t _ ht => getD_in (by simpa using ht) (getD_replicate_false _ _)⟩
    ⟨r.refl _, rfl, rfl, fun j _ hl => (by rw [getD_replicate_false] at hl; cases hl), fun j _ hl => (by rw [getD_replicate_false] at hl; cases hl), fun j _ hl => (by rw [getD_replicate_false] at hl; cases hl), fun t _ => rfl⟩
  have hcnt : ((List.range n).filter fun i => !(Array.replicate l.toArray.size false).getD i false).length = n := by
    have : ((List.range n).filter fun i => !(Array.replicate l.toArray.size false).getD i false) = List.range n := List.filter_eq_self.2 fun i _ => by rw [getD_replicate_false]; rfl
    rw [this, List.length_range]
  rw [hcnt] at this
  rw [show n + (l.toArray.size - n) = l.toArray.size by simp; omega] at this
  exact this
/-- THE LAW. -/
theorem wp_region_X {id : Nat} {a : Act} {w : World} {l : List Oper} (n : Nat) (hm : P.follows .mixedOrders = true) (hB : (chkHead l.toArray n && chkTail l.toArray n) = true)
    (h : ∀ w1, r.rel w w1 → wpX r P l.toArray Q w1 (fun a' w' => wpList P l.toArray Q (l.drop n) a' w') [] (l.take n) a []) : (Code.region id l.toArray true).wp P Q a w :=
  wp_region_any hm (wpAny_X n hB (h w.drew (r.ext (Below.refl _ _).drew)))
end
section
variable {r : Rl} {P : Program} {ops : Array Oper} {Q : Exit → Act → World → Prop} {w0 : World} {R : Act → World → Prop} {ss : List (Nat × VPred)} {o : Oper} {rest : List Oper} {a : Act} {hs : List (Nat × VPred)} {d : Nat}
/-- An operation that reads known slots and enters nothing: the quiet walk's own step runs it. -/
theorem wpX_pure (hg : GRun ops o a hs) (hd : o.dst = some d) (hz : Nat.blt d a.tmps.size = true) (hp : plainOpG o = true) (hsel : notSelect o = true) (hn : noHole o hs = true)
    (h : ∀ K : Act → Prop, (∀ a, wpX r P ops Q w0 R ss rest a hs → K a) → o.quiet P a (fun w' => ∃ m : r.Lt w0, w' = m.1) K) : wpX r P ops Q w0 R ss (o :: rest) a hs := by
  obtain ⟨v, h1, h2⟩ := h _ (fun _ h => h)
  rw [hd] at h2
  refine .inl ⟨d, fun u _ => u = v, hd, blt_lt hz, r.stable_eq v, fun a' w he hsl => ?_, .inl ⟨v, rfl, h2⟩⟩
  refine gwp_run hg hsl fun hsl => ?_
  have h3 := h1 w ⟨⟨w, he⟩, rfl⟩
  have h4 : execOp a'.eval o = execOp a.eval o := exec_same (notSelect_spec hsel) (slots_eval hn hsl)
  unfold Oper.quietAt at h3
  unfold Oper.wp
  rw [h4]
  have hne := fun w' f args => plain_enterG (P := P) (ρ := a.eval) (o := o) hp (w := w) (w' := w') (f := f) (args := args)
  generalize (execOp a.eval o).run P w = r at *
  cases r with
  | ok n w' =>
    cases n <;> simp only [Oper.quietUpon] at h3 <;> simp only [Oper.upon]
    case value u => obtain ⟨e1, e2⟩ := h3; exact ⟨u, rfl, by rw [e1]; exact r.dxe (Below.refl _ _), e2⟩
    case skip => obtain ⟨e1, e2⟩ := h3; exact ⟨undef, rfl, by rw [e1]; exact r.dxe (Below.refl _ _), e2.symm⟩
    case enter f args => exact absurd rfl (hne w' f args)
  | halt x w' => simp only [Oper.quietUpon] at h3


/-- The five tests of wpX_pure, and the guard's, as one. -/
def pureB (ops : Array Oper) (o : Oper) (a : Act) (hs : List (Nat × VPred)) : Bool := gB ops o a hs && ((match o.dst with | some d => Nat.blt d a.tmps.size | none => false) && (plainOpG o && (notSelect o && noHole o hs)))
theorem wpX_pureP (hb : pureB ops o a hs = true) (h : ∀ K : Act → Prop, (∀ a, wpX r P ops Q w0 R ss rest a hs → K a) → o.quiet P a (fun w' => ∃ m : r.Lt w0, w' = m.1) K) : wpX r P ops Q w0 R ss (o :: rest) a hs := by
  unfold pureB at hb
  simp only [Bool.and_eq_true] at hb
  obtain ⟨h1, h2, h3, h4, h5⟩ := hb
  split at h2
  · rename_i d hd; exact wpX_pure (gR h1) hd h2 h3 h4 h5 h
  · cases h2
/-- Any operation that reads known slots: what comes is told by g; it stays unknown (a hole). -/
theorem wpX_hole (hg : GRun ops o a hs) (g : VPred) (hst : r.stable g) (hd : o.dst = some d) (hz : Nat.blt d a.tmps.size = true) (hsel : notSelect o = true) (hn : noHole o hs = true)
    (h : ∀ (m : r.Lt w0) (K : Act → World → Prop), (∀ a'' w'', a''.defers = a.defers → (r.dx m.1 w'' ∧ g (a''.eval (.tmp d)) w'') → K a'' w'') → o.wp P a m.1 K (fun _ _ _ => False))
    (hr : wpX r P ops Q w0 R ss rest (a.put (some d) undef) ((d, g) :: hs)) : wpX r P ops Q w0 R ss (o :: rest) a hs :=
  .inl ⟨d, g, hd, blt_lt hz, hst, fun a' w he hsl => gwp_run hg hsl fun hsl => Oper.wp_mono (fun a'' w'' ⟨v, h1, h2⟩ => ⟨v, h1, h2⟩) (wp_transfer (G := fun v w'' => r.dx w w'' ∧ g v w'') (exec_same (notSelect_spec hsel) (slots_eval hn hsl)) hd (blt_lt hz) (h ⟨w, he⟩)), .inr hr⟩


/-- The same; what comes is v. -/
theorem wpX_call (hg : GRun ops o a hs) (v : Value) (hd : o.dst = some d) (hz : Nat.blt d a.tmps.size = true) (hsel : notSelect o = true) (hn : noHole o hs = true)
    (h : ∀ (m : r.Lt w0) (K : Act → World → Prop), (∀ a'' w'', a''.defers = a.defers → (r.dx m.1 w'' ∧ a''.eval (.tmp d) = v) → K a'' w'') → o.wp P a m.1 K (fun _ _ _ => False))
    (hr : wpX r P ops Q w0 R ss rest (a.put (some d) v) hs) : wpX r P ops Q w0 R ss (o :: rest) a hs :=
  .inl ⟨d, fun u _ => u = v, hd, blt_lt hz, r.stable_eq v, fun a' w he hsl => gwp_run hg hsl fun hsl => Oper.wp_mono (fun a'' w'' ⟨v, h1, h2⟩ => ⟨v, h1, h2⟩) (wp_transfer (G := fun u w'' => r.dx w w'' ∧ u = v) (exec_same (notSelect_spec hsel) (slots_eval hn hsl)) hd (blt_lt hz) (h ⟨w, he⟩)), .inl ⟨v, rfl, hr⟩⟩


/-- An operation that reads a hole: what comes is v. -/
theorem wpX_use (hg : GRun ops o a hs) (t1 : Nat) (p : VPred) (v : Value) (hd : o.dst = some d) (hz : Nat.blt d a.tmps.size = true) (hsel : notSelect o = true) (hl : hs.lookup t1 = some p) (hn : oneHole o hs t1 = true) (hin : (opTmps o).contains t1 = true) (hz1 : Nat.blt t1 a.tmps.size = true)
    (h : ∀ (m : r.Lt w0) (u : Value), p u m.1 → ∀ (K : Act → World → Prop), (∀ a'' w'', a''.defers = a.defers → (r.dx m.1 w'' ∧ a''.eval (.tmp d) = v) → K a'' w'') → o.wp P (a.put (some t1) u) m.1 K (fun _ _ _ => False))
    (hr : wpX r P ops Q w0 R ss rest (a.put (some d) v) hs) : wpX r P ops Q w0 R ss (o :: rest) a hs :=
  .inl ⟨d, fun u _ => u = v, hd, blt_lt hz, r.stable_eq v, fun a' w he hsl => gwp_run hg hsl fun hsl => by
    obtain ⟨h1, h2⟩ := slots_one hn (by simpa using hin) (blt_lt hz1) hl hsl
    exact Oper.wp_mono (fun a'' w'' ⟨v, h1, h2⟩ => ⟨v, h1, h2⟩) (wp_transfer (G := fun u w'' => r.dx w w'' ∧ u = v) (exec_same (notSelect_spec hsel) h2) hd (by simpa [Act.put] using blt_lt hz) (h ⟨w, he⟩ _ h1)), .inl ⟨v, rfl, hr⟩⟩


/-- A call whose value is known: every world that has come. -/
theorem wpX_callFn (hg : GRun ops o a hs) (v : Value) {f : FuncId} {x : Operand} {xs : Array Operand} {ats : Array TypeId} {args : List Value}
    (hd : o.dst = some d) (hz : Nat.blt d a.tmps.size = true) (ho : o.op = .call { callee := .value x, args := xs, argTypes := ats }) (hx : a.eval x = .func (.func f) #[] #[]) (hf : entersB P f = true) (ha : xs.toList.map a.eval = args) (hn : noHole o hs = true)
    (h : ∀ m : r.Lt w0, Calls P f args.toArray m.1 fun e w'' => e = .returned v ∧ r.dx m.1 w'') (hr : wpX r P ops Q w0 R ss rest (a.put (some d) v) hs) : wpX r P ops Q w0 R ss (o :: rest) a hs :=
  wpX_call hg v hd hz (by unfold notSelect; rw [ho]) hn (fun m K hK => wp_callFn (G := fun u w'' => u = v ∧ r.dx m.1 w'') ho hx hf ha ((h m).mono fun e w'' ⟨h1, h2⟩ => ⟨v, h1, rfl, h2⟩) (fun u w'' ⟨h1, h2⟩ => hK _ _ (by rw [hd]; rfl) ⟨h2, by rw [hd, eval_put_same (blt_lt hz)]; exact h1⟩)) hr
/-- A call whose value stays a hole. -/
theorem wpX_callHole (hg : GRun ops o a hs) (g : VPred) (hst : r.stable g) {f : FuncId} {x : Operand} {xs : Array Operand} {ats : Array TypeId} {args : List Value}
    (hd : o.dst = some d) (hz : Nat.blt d a.tmps.size = true) (ho : o.op = .call { callee := .value x, args := xs, argTypes := ats }) (hx : a.eval x = .func (.func f) #[] #[]) (hf : entersB P f = true) (ha : xs.toList.map a.eval = args) (hn : noHole o hs = true)
    (h : ∀ m : r.Lt w0, Calls P f args.toArray m.1 fun e w'' => ∃ v, e = .returned v ∧ r.dx m.1 w'' ∧ g v w'') (hr : wpX r P ops Q w0 R ss rest (a.put (some d) undef) ((d, g) :: hs)) : wpX r P ops Q w0 R ss (o :: rest) a hs :=
  wpX_hole hg g hst hd hz (by unfold notSelect; rw [ho]) hn (fun m K hK => wp_callFn (G := fun u w'' => r.dx m.1 w'' ∧ g u w'') ho hx hf ha (h m) (fun u w'' h2 => hK _ _ (by rw [hd]; rfl) ⟨h2.1, by rw [hd, eval_put_same (blt_lt hz)]; exact h2.2⟩)) hr
/-- A call that reads a hole; its value is known. -/
theorem wpX_callUse (hg : GRun ops o a hs) (t1 : Nat) (p : VPred) (v : Value) {f : FuncId} {x : Operand} {xs : Array Operand} {ats : Array TypeId} (args : Value → List Value)
    (hd : o.dst = some d) (hz : Nat.blt d a.tmps.size = true) (ho : o.op = .call { callee := .value x, args := xs, argTypes := ats }) (hl : hs.lookup t1 = some p) (hn : oneHole o hs t1 = true) (hin : (opTmps o).contains t1 = true) (hz1 : Nat.blt t1 a.tmps.size = true)
    (hx : ∀ u, (a.put (some t1) u).eval x = .func (.func f) #[] #[]) (hf : entersB P f = true) (ha : ∀ u, xs.toList.map (a.put (some t1) u).eval = args u)
    (h : ∀ (m : r.Lt w0) (u : Value), p u m.1 → Calls P f (args u).toArray m.1 fun e w'' => e = .returned v ∧ r.dx m.1 w'') (hr : wpX r P ops Q w0 R ss rest (a.put (some d) v) hs) : wpX r P ops Q w0 R ss (o :: rest) a hs :=
  wpX_use hg t1 p v hd hz (by unfold notSelect; rw [ho]) hl hn hin hz1 (fun m u hu K hK => wp_callFn (G := fun u w'' => u = v ∧ r.dx m.1 w'') ho (hx u) hf (ha u) ((h m u hu).mono fun e w'' ⟨h1, h2⟩ => ⟨v, h1, rfl, h2⟩)
    (fun u' w'' ⟨h1, h2⟩ => hK _ _ (by rw [hd]; rfl) ⟨h2, by rw [hd, eval_put_same (by simpa [Act.put] using blt_lt hz)]; exact h1⟩)) hr
/-- At the end: the frame is the one that the walk has written, the holes filled. -/
theorem wpX_endL {a : Act} {hs : List (Nat × VPred)} (h : ∀ (m : r.Lt w0) (f : Nat → Value), (∀ t p, hs.lookup t = some p → p (f t) m.1) → (∀ q ∈ ss, q.2 ((fillH a hs f).eval (.tmp q.1)) m.1) → R (fillH a hs f) m.1) : wpX r P ops Q w0 R ss [] a hs := fun a' w he hd hz hsl hss => by
  have : a' = fillH a hs (fun t => a'.eval (.tmp t)) := by
    have k1 := fillH_size a (fun t => a'.eval (.tmp t)) hs
    have k2 := fillH_defers a (fun t => a'.eval (.tmp t)) hs
    have k3 := fillH_at a (fun t => a'.eval (.tmp t)) hs
    generalize fillH a hs (fun t => a'.eval (.tmp t)) = b at *
    obtain ⟨t, d⟩ := a
    obtain ⟨t', d'⟩ := a'
    obtain ⟨tb, db⟩ := b
    simp only at hd hz k1 k2 k3
    subst hd k2
    congr 1
    apply Array.ext (by omega)
    intro i g1 g2
    have q := hsl i
    rw [k3 i g2 (by omega)]
    cases hl : hs.lookup i with
    | some p => simp [Act.eval, g1]
    | none =>
      have g3 : i < t.size := by omega
      simp only [slotP, hl] at q
      simpa [Act.eval, g1, g3] using q
  rw [this] at hss
  rw [this]
  refine h ⟨w, he⟩ _ (fun t p hl => ?_) hss
  have := hsl t
  simpa only [slotP, hl] using this
theorem wpX_e0 {a : Act} (h : ∀ m : r.Lt w0, R a m.1) : wpX r P ops Q w0 R ss [] a [] := wpX_endL fun m _ _ _ => h m
theorem wpX_eL {a : Act} {hs : List (Nat × VPred)} (h : ∀ (m : r.Lt w0) (f : Nat → Value), (∀ t p, hs.lookup t = some p → p (f t) m.1) → R (fillH a hs f) m.1) : wpX r P ops Q w0 R ss [] a hs := wpX_endL fun m f hf _ => h m f hf
theorem wpX_end1 {a : Act} {t1 : Nat} {p1 : VPred} (h : ∀ (m : r.Lt w0) (u : Value), p1 u m.1 → R (a.put (some t1) u) m.1) : wpX r P ops Q w0 R ss [] a [(t1, p1)] := wpX_eL fun m f hf => h m (f t1) (hf t1 p1 (by simp))
theorem wpX_end2 {a : Act} {t1 t2 : Nat} {p1 p2 : VPred} (h12 : t1 ≠ t2) (h : ∀ (m : r.Lt w0) (u1 u2 : Value), p1 u1 m.1 → p2 u2 m.1 → R ((a.put (some t1) u1).put (some t2) u2) m.1) : wpX r P ops Q w0 R ss [] a [(t2, p2), (t1, p1)] :=
  wpX_eL fun m f hf => h m (f t1) (f t2) (hf t1 p1 (by simp [List.lookup_cons, beq_false_of_ne h12])) (hf t2 p2 (by simp))
theorem wpX_end3 {a : Act} {t1 t2 t3 : Nat} {p1 p2 p3 : VPred} (h12 : t1 ≠ t2) (h13 : t1 ≠ t3) (h23 : t2 ≠ t3) (h : ∀ (m : r.Lt w0) (u1 u2 u3 : Value), p1 u1 m.1 → p2 u2 m.1 → p3 u3 m.1 → R (((a.put (some t1) u1).put (some t2) u2).put (some t3) u3) m.1) : wpX r P ops Q w0 R ss [] a [(t3, p3), (t2, p2), (t1, p1)] :=
  wpX_eL fun m f hf => h m (f t1) (f t2) (f t3) (hf t1 p1 (by simp [List.lookup_cons, beq_false_of_ne h12, beq_false_of_ne h13])) (hf t2 p2 (by simp [List.lookup_cons, beq_false_of_ne h23])) (hf t3 p3 (by simp))
theorem eval_at (b : Act) (t : Nat) (h : t < b.tmps.size) : b.eval (.tmp t) = b.tmps[t] := by simp [Act.eval, h]
theorem slots_fill {o : Oper} {a a' : Act} {hs : List (Nat × VPred)} {w : World} (hz : a'.tmps.size = a.tmps.size ∨ True) (hin : (opTmps o).all (fun t => Nat.blt t a.tmps.size) = true) (h : ∀ t ∈ opTmps o, slotP a hs t (a'.eval (.tmp t)) w) :
    ∀ t ∈ opTmps o, a'.eval (.tmp t) = (fillH a hs (fun t => a'.eval (.tmp t))).eval (.tmp t) := fun t ht => by
  have h1 := h t ht
  have h2 : t < a.tmps.size := blt_lt (List.all_eq_true.1 hin t ht)
  have h3 : t < (fillH a hs (fun t => a'.eval (.tmp t))).tmps.size := by rw [fillH_size]; exact h2
  have h4 := fillH_at a (fun t => a'.eval (.tmp t)) hs t h3 h2
  rw [eval_at _ t h3, h4]
  unfold slotP at h1
  cases hl : hs.lookup t with
  | some p => rfl
  | none =>
    rw [hl] at h1
    simp only [Option.isSome_none, Bool.false_eq_true, if_false]
    rw [h1, eval_at _ t h2]
/-- Any operation, whatever holes it reads; what comes is told by g. -/
theorem wpX_useL (hg : GRun ops o a hs) (g : VPred) (hst : r.stable g) (hd : o.dst = some d) (hz : Nat.blt d a.tmps.size = true) (hsel : notSelect o = true) (hin : (opTmps o).all (fun t => Nat.blt t a.tmps.size) = true)
    (h : ∀ (m : r.Lt w0) (f : Nat → Value), (∀ t p, hs.lookup t = some p → (opTmps o).contains t = true → p (f t) m.1) → ∀ (K : Act → World → Prop), (∀ a'' w'', a''.defers = a.defers → (r.dx m.1 w'' ∧ g (a''.eval (.tmp d)) w'') → K a'' w'') → o.wp P (fillH a hs f) m.1 K (fun _ _ _ => False))
    (hr : wpX r P ops Q w0 R ss rest (a.put (some d) undef) ((d, g) :: hs)) : wpX r P ops Q w0 R ss (o :: rest) a hs :=
  .inl ⟨d, g, hd, blt_lt hz, hst, fun a' w he hsl => gwp_run hg hsl fun hsl => by
    refine Oper.wp_mono (fun a'' w'' ⟨v, h1, h2⟩ => ⟨v, h1, h2⟩) (wp_transfer (G := fun v w'' => r.dx w w'' ∧ g v w'') (exec_same (notSelect_spec hsel) (slots_fill (.inr trivial) hin hsl)) hd (by rw [fillH_size]; exact blt_lt hz) (fun K hK => h ⟨w, he⟩ (fun t => a'.eval (.tmp t)) (fun t p hl hc => ?_) K (fun a'' w'' hd' => hK a'' w'' (by rw [fillH_defers]; exact hd'))))
    have := hsl t (by simpa using hc)
    unfold slotP at this
    rw [hl] at this
    exact this, .inr hr⟩
/-- A call that reads any holes; its value stays a hole. -/
theorem wpX_callL (hg : GRun ops o a hs) (g : VPred) (hst : r.stable g) {fn : FuncId} {x : Operand} {xs : Array Operand} {ats : Array TypeId} (args : (Nat → Value) → List Value)
    (hd : o.dst = some d) (hz : Nat.blt d a.tmps.size = true) (ho : o.op = .call { callee := .value x, args := xs, argTypes := ats }) (hin : (opTmps o).all (fun t => Nat.blt t a.tmps.size) = true)
    (hx : ∀ f, (fillH a hs f).eval x = .func (.func fn) #[] #[]) (hf : entersB P fn = true) (ha : ∀ f, xs.toList.map (fillH a hs f).eval = args f)
    (h : ∀ (m : r.Lt w0) (f : Nat → Value), (∀ t p, hs.lookup t = some p → (opTmps o).contains t = true → p (f t) m.1) → Calls P fn (args f).toArray m.1 fun e w'' => ∃ v, e = .returned v ∧ r.dx m.1 w'' ∧ g v w'')
    (hr : wpX r P ops Q w0 R ss rest (a.put (some d) undef) ((d, g) :: hs)) : wpX r P ops Q w0 R ss (o :: rest) a hs :=
  wpX_useL hg g hst hd hz (by unfold notSelect; rw [ho]) hin (fun m f hu K hK => wp_callFn (G := fun u w'' => r.dx m.1 w'' ∧ g u w'') ho (hx f) hf (ha f) (h m f hu)
    (fun u' w'' h2 => hK _ _ (by rw [hd]; show ((fillH a hs f).put (some d) u').defers = _; simp [Act.put, fillH_defers]) ⟨h2.1, by rw [hd, eval_put_same (by rw [fillH_size]; exact blt_lt hz)]; exact h2.2⟩)) hr
end
section
variable {r : Rl} {P : Program} {ops : Array Oper} {Q : Exit → Act → World → Prop} {w0 : World} {R : Act → World → Prop} {ss : List (Nat × VPred)} {o : Oper} {rest : List Oper} {a : Act} {hs : List (Nat × VPred)} {d : Nat}
theorem ev_fill {a : Act} {hs : List (Nat × VPred)} {f : Nat → Value} {x : Operand} (h : okOp a x = true) : (fillH a hs f).eval x = evF a hs f x := evF_fill (fillH_size a f hs) (fillH_at a f hs) h
theorem fill_put_size {a : Act} {hs : List (Nat × VPred)} (f : Nat → Value) (n : Nat) (h : Nat.blt n a.tmps.size = true) : n < (fillH a hs f).tmps.size := by rw [fillH_size]; exact blt_lt h
theorem wpX_newL (hg : GRun ops o a hs) (g : VPred) (hst : r.stable g) (s : (Nat → Value) → Sem Value)
    (hd : o.dst = some d) (hz : Nat.blt d a.tmps.size = true) (hsel : notSelect o = true) (hin : (opTmps o).all (fun t => Nat.blt t a.tmps.size) = true) (he : ∀ f, execOp (fillH a hs f).eval o = (do pure (Next.value (← s f))))
    (h : ∀ (m : r.Lt w0) (f : Nat → Value), (∀ t p, hs.lookup t = some p → (opTmps o).contains t = true → p (f t) m.1) → ∃ v w'', (s f).run P m.1 = .ok v w'' ∧ r.dx m.1 w'' ∧ g v w'')
    (hr : wpX r P ops Q w0 R ss rest (a.put (some d) undef) ((d, g) :: hs)) : wpX r P ops Q w0 R ss (o :: rest) a hs :=
  wpX_useL hg g hst hd hz hsel hin (fun m f hf K hK => by
    obtain ⟨v, w'', h1, h2, h3⟩ := h m f hf
    exact wp_newVal (he f) h1 (hK _ _ (by rw [hd]; show ((fillH a hs f).put (some d) v).defers = _; simp [Act.put, fillH_defers]) ⟨h2, by rw [hd, eval_put_same (fill_put_size f d hz)]; exact h3⟩)) hr
/-- A slice literal. -/
theorem wpX_buildSL (hg : GRun ops o a hs) (g : VPred) (hst : r.stable g) {t : TypeId} {n : Nat} {ps : Array (Nat × Operand)} (vs : (Nat → Value) → List (Nat × Value))
    (hd : o.dst = some d) (hz : Nat.blt d a.tmps.size = true) (ho : o.op = .buildSlice t n ps) (hin : (opTmps o).all (fun t => Nat.blt t a.tmps.size) = true) (hq : (ps.toList.all fun q => okOp a q.2) = true) (ha : ∀ f, (ps.toList.map fun q => (q.1, evF a hs f q.2)) = vs f)
    (h : ∀ (m : r.Lt w0) (f : Nat → Value), (∀ t p, hs.lookup t = some p → (opTmps o).contains t = true → p (f t) m.1) → ∃ v w'', (Instr.buildSlice t n (vs f).toArray).run P m.1 = .ok v w'' ∧ r.dx m.1 w'' ∧ g v w'')
    (hr : wpX r P ops Q w0 R ss rest (a.put (some d) undef) ((d, g) :: hs)) : wpX r P ops Q w0 R ss (o :: rest) a hs :=
  wpX_newL hg g hst (fun f => Instr.buildSlice t n (vs f).toArray) hd hz (by unfold notSelect; rw [ho]) hin (fun f => by unfold execOp; simp only [ho]; rw [← ha f, List.map_congr_left (fun q hm => by rw [← ev_fill (List.all_eq_true.1 hq q hm)]), ← List.map_toArray, Array.toArray_toList]) h hr
/-- A struct literal. -/
theorem wpX_buildL (hg : GRun ops o a hs) (g : VPred) (hst : r.stable g) {t : TypeId} {ps : Array (Nat × Operand)} (vs : (Nat → Value) → List (Nat × Value))
    (hd : o.dst = some d) (hz : Nat.blt d a.tmps.size = true) (ho : o.op = .build t ps) (hin : (opTmps o).all (fun t => Nat.blt t a.tmps.size) = true) (hq : (ps.toList.all fun q => okOp a q.2) = true) (ha : ∀ f, (ps.toList.map fun q => (q.1, evF a hs f q.2)) = vs f)
    (h : ∀ (m : r.Lt w0) (f : Nat → Value), (∀ t p, hs.lookup t = some p → (opTmps o).contains t = true → p (f t) m.1) → ∃ v w'', (Instr.build t (vs f).toArray).run P m.1 = .ok v w'' ∧ r.dx m.1 w'' ∧ g v w'')
    (hr : wpX r P ops Q w0 R ss rest (a.put (some d) undef) ((d, g) :: hs)) : wpX r P ops Q w0 R ss (o :: rest) a hs :=
  wpX_newL hg g hst (fun f => Instr.build t (vs f).toArray) hd hz (by unfold notSelect; rw [ho]) hin (fun f => by unfold execOp; simp only [ho]; rw [← ha f, List.map_congr_left (fun q hm => by rw [← ev_fill (List.all_eq_true.1 hq q hm)]), ← List.map_toArray, Array.toArray_toList]) h hr
/-- A call that reads any holes. -/
theorem wpX_callF (hg : GRun ops o a hs) (g : VPred) (hst : r.stable g) {fn : FuncId} {x : Operand} {xs : Array Operand} {ats : Array TypeId} (args : (Nat → Value) → List Value)
    (hd : o.dst = some d) (hz : Nat.blt d a.tmps.size = true) (ho : o.op = .call { callee := .value x, args := xs, argTypes := ats }) (hin : (opTmps o).all (fun t => Nat.blt t a.tmps.size) = true)
    (hqx : x = .func fn) (hf : entersB P fn = true) (hq : (xs.toList.all fun q => okOp a q) = true) (ha : ∀ f, xs.toList.map (evF a hs f) = args f)
    (h : ∀ (m : r.Lt w0) (f : Nat → Value), (∀ t p, hs.lookup t = some p → (opTmps o).contains t = true → p (f t) m.1) → Calls P fn (args f).toArray m.1 fun e w'' => ∃ v, e = .returned v ∧ r.dx m.1 w'' ∧ g v w'')
    (hr : wpX r P ops Q w0 R ss rest (a.put (some d) undef) ((d, g) :: hs)) : wpX r P ops Q w0 R ss (o :: rest) a hs :=
  wpX_callL hg g hst args hd hz ho hin (fun f => by rw [hqx]; rfl) hf (fun f => by rw [← ha f]; exact List.map_congr_left (fun q hm => ev_fill (List.all_eq_true.1 hq q hm))) h hr
/-- A part of a tuple. -/
theorem wpX_extL (hg : GRun ops o a hs) (g : VPred) (hst : r.stable g) {x : Operand} {ix : Nat} (xv : (Nat → Value) → Value)
    (hd : o.dst = some d) (hz : Nat.blt d a.tmps.size = true) (ho : o.op = .extract x ix) (hin : (opTmps o).all (fun t => Nat.blt t a.tmps.size) = true) (hq : okOp a x = true) (ha : ∀ f, evF a hs f x = xv f)
    (h : ∀ (m : r.Lt w0) (f : Nat → Value), (∀ t p, hs.lookup t = some p → (opTmps o).contains t = true → p (f t) m.1) → ∃ v w'', (Instr.extract (xv f) ix).run P m.1 = .ok v w'' ∧ r.dx m.1 w'' ∧ g v w'')
    (hr : wpX r P ops Q w0 R ss rest (a.put (some d) undef) ((d, g) :: hs)) : wpX r P ops Q w0 R ss (o :: rest) a hs :=
  wpX_newL hg g hst (fun f => Instr.extract (xv f) ix) hd hz (by unfold notSelect; rw [ho]) hin (fun f => by unfold execOp; simp only [ho]; rw [ev_fill hq, ha f]) h hr
end
section
variable {r : Rl} {P : Program} {ops : Array Oper} {Q : Exit → Act → World → Prop} {w0 : World} {R : Act → World → Prop} {ss : List (Nat × VPred)} {o : Oper} {rest : List Oper} {a : Act} {hs : List (Nat × VPred)} {d : Nat}
/-- append, whatever holes it reads. -/
theorem wpX_appL (hg : GRun ops o a hs) (g : VPred) (hst : r.stable g) {t : TypeId} {s x : Operand} (sv xv : (Nat → Value) → Value)
    (hd : o.dst = some d) (hz : Nat.blt d a.tmps.size = true) (ho : o.op = .call { callee := .builtin .append, args := #[s, x], argTypes := #[t, t] }) (hin : (opTmps o).all (fun t => Nat.blt t a.tmps.size) = true) (hqs : okOp a s = true) (hqx : okOp a x = true)
    (hs' : ∀ f, evF a hs f s = sv f) (hx' : ∀ f, evF a hs f x = xv f)
    (h : ∀ (m : r.Lt w0) (f : Nat → Value), (∀ t p, hs.lookup t = some p → (opTmps o).contains t = true → p (f t) m.1) → ∃ v w'', (Builtin.append_ #[t, t] o.type #[sv f, xv f]).run P m.1 = .ok v w'' ∧ r.dx m.1 w'' ∧ g v w'')
    (hr : wpX r P ops Q w0 R ss rest (a.put (some d) undef) ((d, g) :: hs)) : wpX r P ops Q w0 R ss (o :: rest) a hs :=
  wpX_useL hg g hst hd hz (by unfold notSelect; rw [ho]) hin (fun m f hf K hK => by
    obtain ⟨v, w'', h1, h2, h3⟩ := h m f hf
    have e1 : (fillH a hs f).eval s = sv f := (ev_fill hqs).trans (hs' f)
    have e2 : (fillH a hs f).eval x = xv f := (ev_fill hqx).trans (hx' f)
    unfold Oper.wp execOp
    simp only [ho, resolve, invoke, builtin, Sem.run_bind, Sem.run_pure, Result.andThen_ok, List.map_toArray, List.map_cons, List.map_nil, e1, e2, h1]
    refine hK _ _ (by rw [hd]; show ((fillH a hs f).put (some d) v).defers = _; simp [Act.put, fillH_defers]) ⟨h2, by rw [hd, eval_put_same (fill_put_size f d hz)]; exact h3⟩) hr
theorem wpX_asgL (hg : GRun ops o a hs) (g : VPred) (hst : r.stable g) {x : Operand} (xv : (Nat → Value) → Value)
    (hd : o.dst = some d) (hz : Nat.blt d a.tmps.size = true) (ho : o.op = .assign x) (hin : (opTmps o).all (fun t => Nat.blt t a.tmps.size) = true) (hq : okOp a x = true) (ha : ∀ f, evF a hs f x = xv f)
    (h : ∀ (m : r.Lt w0) (f : Nat → Value), (∀ t p, hs.lookup t = some p → (opTmps o).contains t = true → p (f t) m.1) → g (xv f) m.1)
    (hr : wpX r P ops Q w0 R ss rest (a.put (some d) undef) ((d, g) :: hs)) : wpX r P ops Q w0 R ss (o :: rest) a hs :=
  wpX_newL hg g hst (fun f => pure (xv f)) hd hz (by unfold notSelect; rw [ho]) hin (fun f => by unfold execOp; simp only [ho]; rw [ev_fill hq, ha f]; rfl) (fun m f hf => ⟨_, _, rfl, r.dxe (Below.refl _ _), h m f hf⟩) hr
end
end Go.Proofs.YthbpdhanljpigaaGreatDoor.Gt
namespace Go.Proofs.YthbpdhanljpigaaGreatDoor.Gd
open Go Go.RowKit Go.Proofs.YthbpdhanljpigaaGreatDoor
set_option linter.unusedVariables false
abbrev exR : Gt.Rl := ⟨Ext, fun _ _ _ => False, fun _ => Below.refl _ _, fun h k => h.tr k, id, False.elim, Ext, id, id⟩
section
variable {P : Program} {ops : Array Oper} {Q : Exit → Act → World → Prop} {w0 : World} {R : Act → World → Prop}
theorem wp_region_X {id : Nat} {a : Act} {w : World} {l : List Oper} (n : Nat) (hm : P.follows .mixedOrders = true) (hB : (Gt.chkHead l.toArray n && chkTail l.toArray n) = true)
    (h : ∀ w1, Ext w w1 → Gt.wpX exR P l.toArray Q w1 (fun a' w' => wpList P l.toArray Q (l.drop n) a' w') [] (l.take n) a []) : (Code.region id l.toArray true).wp P Q a w := Gt.wp_region_X (r := exR) n hm hB h
theorem wpX_hole : type_of% (@Gt.wpX_hole exR) := @Gt.wpX_hole exR
theorem wpX_callFn : type_of% (@Gt.wpX_callFn exR) := @Gt.wpX_callFn exR
theorem wpX_callHole : type_of% (@Gt.wpX_callHole exR) := @Gt.wpX_callHole exR
theorem wpX_callUse : type_of% (@Gt.wpX_callUse exR) := @Gt.wpX_callUse exR
theorem wpX_end1 : type_of% (@Gt.wpX_end1 exR) := @Gt.wpX_end1 exR
theorem wpX_end2 : type_of% (@Gt.wpX_end2 exR) := @Gt.wpX_end2 exR
theorem wpX_end3 : type_of% (@Gt.wpX_end3 exR) := @Gt.wpX_end3 exR
theorem wpX_callL : type_of% (@Gt.wpX_callL exR) := @Gt.wpX_callL exR
theorem wpX_buildSL : type_of% (@Gt.wpX_buildSL exR) := @Gt.wpX_buildSL exR
theorem wpX_buildL : type_of% (@Gt.wpX_buildL exR) := @Gt.wpX_buildL exR
theorem wpX_callF : type_of% (@Gt.wpX_callF exR) := @Gt.wpX_callF exR
theorem wpX_extL : type_of% (@Gt.wpX_extL exR) := @Gt.wpX_extL exR
theorem wpX_asgL : type_of% (@Gt.wpX_asgL exR) := @Gt.wpX_asgL exR
theorem wpX_appL : type_of% (@Gt.wpX_appL exR) := @Gt.wpX_appL exR
theorem wpX_end0 : type_of% (@Gt.wpX_e0 exR) := @Gt.wpX_e0 exR
theorem wpX_endL : type_of% (@Gt.wpX_eL exR) := @Gt.wpX_eL exR
theorem wpX_appF : type_of% (@Gt.wpX_appL exR) := @Gt.wpX_appL exR
theorem wpX_pureP {o : Oper} {rest : List Oper} {a : Act} {hs : List (Nat × VPred)} (hb : Gt.pureB ops o a hs = true) (h : ∀ K : Act → Prop, (∀ a, Gt.wpX exR P ops Q w0 R [] rest a hs → K a) → o.quiet P a (fun w' => ∃ m : Lt w0, w' = m.1) K) : Gt.wpX exR P ops Q w0 R [] (o :: rest) a hs := Gt.wpX_pureP hb h
/-- A slice literal: its value stays a hole. -/
theorem wpX_build {o : Oper} {rest : List Oper} {a : Act} {hs : List (Nat × VPred)} {d : Nat} (hg : GRun ops o a hs) {t e : TypeId} {n : Nat} {ps : Array (Nat × Operand)} {vs : List (Nat × Value)} (B : Nat) {cs : Array Value} (hB : B ≤ w0.heap.size)
    (hrun : ∀ W : World, (Instr.buildSlice t n vs.toArray).run P W = .ok (.slice (some ⟨W.heap.size, 0, none⟩) n n) (W.alloc (.cells cs e)))
    (hd : o.dst = some d) (hz : Nat.blt d a.tmps.size = true) (ho : o.op = .buildSlice t n ps) (ha : (ps.toList.map fun p => (p.1, a.eval p.2)) = vs) (hn : noHole o hs = true) (hcs : n = cs.size) (hm : Nat.ble n 4294967295 = true)
    (hr : Gt.wpX exR P ops Q w0 R [] rest (a.put (some d) undef) ((d, fun v w => Own w B e v cs.toList) :: hs)) : Gt.wpX exR P ops Q w0 R [] (o :: rest) a hs :=
  wpX_hole hg _ (stable_own B e cs.toList) hd hz (by unfold notSelect; rw [ho]) hn (fun m K hK => wp_newVal (s := Instr.buildSlice t n vs.toArray) (by unfold execOp; simp only [ho]; rw [← ha, ← List.map_toArray, Array.toArray_toList]) (hrun m.1)
    (hK _ _ (by rw [hd]; rfl) ⟨(Below.refl _ _).alloc (Nat.le_refl _) _, by rw [hd, eval_put_same (blt_lt hz)]; exact (Own.lit m.1 cs e n hcs (by have := Nat.le_of_ble_eq_true hm; unfold maxLen; omega)).mono (Nat.le_trans hB m.2.size)⟩)) hr
end
end Go.Proofs.YthbpdhanljpigaaGreatDoor.Gd
namespace Go.Proofs.YthbpdhanljpigaaGreatDoor.Gr
open Go Go.RowKit Go.Proofs.YthbpdhanljpigaaGreatDoor
set_option linter.unusedVariables false
/-- How a world may go on. -/
structure Rl where
  rel : World → World → Prop
  refl : ∀ w, rel w w
  tr : ∀ {a b c : World}, rel a b → rel b c → rel a c
  ext : ∀ {a b : World}, Ext a b → rel a b
def Rl.up (r : Rl) : Gt.Rl := ⟨r.rel, fun _ _ _ => False, r.refl, r.tr, r.ext, False.elim, r.rel, r.ext, id⟩
def Rl.stable (r : Rl) (g : VPred) : Prop := ∀ v w w', r.rel w w' → g v w → g v w'
theorem Rl.stable_eq (r : Rl) (v : Value) : r.stable (fun u _ => u = v) := fun _ _ _ _ h => h
abbrev Rl.Lt (r : Rl) (w : World) := r.up.Lt w
section
variable {P : Program} {Q : Exit → Act → World → Prop} {r : Rl} {ops : Array Oper} {w0 : World} {R : Act → World → Prop}
end
end Go.Proofs.YthbpdhanljpigaaGreatDoor.Gr
