/- Regions that draw: operations that make a value out of any holes. -/
import Derived.Test.YteilglpdmfiinaaDoorWm
namespace Go.Proofs.YteilglpdmfiinaaDoor
open Go Go.RowKit
set_option linter.unusedVariables false

/-- What an operand reads when the holes hold f. -/
def evF (a : Act) (hs : List (Nat × VPred)) (f : Nat → Value) : Operand → Value
  | .tmp t => match hs.lookup t with
    | some _ => f t
    | none => a.eval (.tmp t)
  | x => a.eval x
def okOp (a : Act) : Operand → Bool
  | .tmp t => Nat.blt t a.tmps.size
  | _ => true
theorem evF_fill {a b : Act} {hs : List (Nat × VPred)} {f : Nat → Value} {x : Operand} (hz : b.tmps.size = a.tmps.size) (hb : ∀ (i : Nat) (h1 : i < b.tmps.size) (h2 : i < a.tmps.size), b.tmps[i] = if (hs.lookup i).isSome then f i else a.tmps[i]) (h : okOp a x = true) : b.eval x = evF a hs f x := by
  cases x with
  | tmp t =>
    have h2 : t < a.tmps.size := blt_lt h
    have h1 : t < b.tmps.size := by rw [hz]; exact h2
    have := hb t h1 h2
    unfold evF
    simp only [Act.eval]
    rw [← Array.getElem_eq_getD (h := h1), ← Array.getElem_eq_getD (h := h2), this]
    cases hs.lookup t <;> rfl
  | _ => rfl

namespace Gd
open Go.Proofs.YteilglpdmfiinaaDoor.Gd (GRun)
section
variable {P : Program} {ops : Array Oper} {Q : Exit → Act → World → Prop} {w0 : World} {R : Act → World → Prop}
theorem ev_fill {a : Act} {hs : List (Nat × VPred)} {f : Nat → Value} {x : Operand} (h : okOp a x = true) : (fillH a hs f).eval x = evF a hs f x := evF_fill (fillH_size a f hs) (fillH_at a f hs) h
theorem fill_put_size {a : Act} {hs : List (Nat × VPred)} (f : Nat → Value) (n : Nat) (h : Nat.blt n a.tmps.size = true) : n < (fillH a hs f).tmps.size := by rw [fillH_size]; exact blt_lt h
theorem wpX_newL {o : Oper} {rest : List Oper} {a : Act} {hs : List (Nat × VPred)} {d : Nat} (hg : GRun ops o a hs) (g : VPred) (hst : StableP g) (s : (Nat → Value) → Sem Value)
    (hd : o.dst = some d) (hz : Nat.blt d a.tmps.size = true) (hsel : notSelect o = true) (hin : (opTmps o).all (fun t => Nat.blt t a.tmps.size) = true) (he : ∀ f, execOp (fillH a hs f).eval o = (do pure (Next.value (← s f))))
    (h : ∀ (m : Lt w0) (f : Nat → Value), (∀ t p, hs.lookup t = some p → (opTmps o).contains t = true → p (f t) m.1) → ∃ v w'', (s f).run P m.1 = .ok v w'' ∧ Ext m.1 w'' ∧ g v w'')
    (hr : wpX P ops Q w0 R rest (a.put (some d) undef) ((d, g) :: hs)) : wpX P ops Q w0 R (o :: rest) a hs :=
  wpX_useL hg g hst hd hz hsel hin (fun m f hf K hK => by
    obtain ⟨v, w'', h1, h2, h3⟩ := h m f hf
    exact wp_newVal (he f) h1 (hK _ _ (by rw [hd]; show ((fillH a hs f).put (some d) v).defers = _; simp [Act.put, fillH_defers]) ⟨h2, by rw [hd, eval_put_same (fill_put_size f d hz)]; exact h3⟩)) hr
/-- A slice literal. -/
theorem wpX_buildSL {o : Oper} {rest : List Oper} {a : Act} {hs : List (Nat × VPred)} {d : Nat} (hg : GRun ops o a hs) (g : VPred) (hst : StableP g) {t : TypeId} {n : Nat} {ps : Array (Nat × Operand)} (vs : (Nat → Value) → List (Nat × Value))
    (hd : o.dst = some d) (hz : Nat.blt d a.tmps.size = true) (ho : o.op = .buildSlice t n ps) (hin : (opTmps o).all (fun t => Nat.blt t a.tmps.size) = true) (hq : (ps.toList.all fun q => okOp a q.2) = true) (ha : ∀ f, (ps.toList.map fun q => (q.1, evF a hs f q.2)) = vs f)
    (h : ∀ (m : Lt w0) (f : Nat → Value), (∀ t p, hs.lookup t = some p → (opTmps o).contains t = true → p (f t) m.1) → ∃ v w'', (Instr.buildSlice t n (vs f).toArray).run P m.1 = .ok v w'' ∧ Ext m.1 w'' ∧ g v w'')
    (hr : wpX P ops Q w0 R rest (a.put (some d) undef) ((d, g) :: hs)) : wpX P ops Q w0 R (o :: rest) a hs :=
  wpX_newL hg g hst (fun f => Instr.buildSlice t n (vs f).toArray) hd hz (by unfold notSelect; rw [ho]) hin (fun f => by unfold execOp; simp only [ho]; rw [← ha f, List.map_congr_left (fun q hm => by rw [← ev_fill (List.all_eq_true.1 hq q hm)]), ← List.map_toArray, Array.toArray_toList]) h hr
/-- A struct literal. -/
theorem wpX_buildL {o : Oper} {rest : List Oper} {a : Act} {hs : List (Nat × VPred)} {d : Nat} (hg : GRun ops o a hs) (g : VPred) (hst : StableP g) {t : TypeId} {ps : Array (Nat × Operand)} (vs : (Nat → Value) → List (Nat × Value))
    (hd : o.dst = some d) (hz : Nat.blt d a.tmps.size = true) (ho : o.op = .build t ps) (hin : (opTmps o).all (fun t => Nat.blt t a.tmps.size) = true) (hq : (ps.toList.all fun q => okOp a q.2) = true) (ha : ∀ f, (ps.toList.map fun q => (q.1, evF a hs f q.2)) = vs f)
    (h : ∀ (m : Lt w0) (f : Nat → Value), (∀ t p, hs.lookup t = some p → (opTmps o).contains t = true → p (f t) m.1) → ∃ v w'', (Instr.build t (vs f).toArray).run P m.1 = .ok v w'' ∧ Ext m.1 w'' ∧ g v w'')
    (hr : wpX P ops Q w0 R rest (a.put (some d) undef) ((d, g) :: hs)) : wpX P ops Q w0 R (o :: rest) a hs :=
  wpX_newL hg g hst (fun f => Instr.build t (vs f).toArray) hd hz (by unfold notSelect; rw [ho]) hin (fun f => by unfold execOp; simp only [ho]; rw [← ha f, List.map_congr_left (fun q hm => by rw [← ev_fill (List.all_eq_true.1 hq q hm)]), ← List.map_toArray, Array.toArray_toList]) h hr
/-- A conversion. -/
theorem wpX_convL {o : Oper} {rest : List Oper} {a : Act} {hs : List (Nat × VPred)} {d : Nat} (hg : GRun ops o a hs) (g : VPred) (hst : StableP g) {t1 t2 : TypeId} {x : Operand} (xv : (Nat → Value) → Value)
    (hd : o.dst = some d) (hz : Nat.blt d a.tmps.size = true) (ho : o.op = .convert t1 t2 x) (hin : (opTmps o).all (fun t => Nat.blt t a.tmps.size) = true) (hq : okOp a x = true) (ha : ∀ f, evF a hs f x = xv f)
    (h : ∀ (m : Lt w0) (f : Nat → Value), (∀ t p, hs.lookup t = some p → (opTmps o).contains t = true → p (f t) m.1) → ∃ v w'', (convert t1 t2 (xv f)).run P m.1 = .ok v w'' ∧ Ext m.1 w'' ∧ g v w'')
    (hr : wpX P ops Q w0 R rest (a.put (some d) undef) ((d, g) :: hs)) : wpX P ops Q w0 R (o :: rest) a hs :=
  wpX_newL hg g hst (fun f => convert t1 t2 (xv f)) hd hz (by unfold notSelect; rw [ho]) hin (fun f => by unfold execOp; simp only [ho]; rw [ev_fill hq, ha f]) h hr
/-- A call that reads any holes. -/
theorem wpX_callF {o : Oper} {rest : List Oper} {a : Act} {hs : List (Nat × VPred)} {d : Nat} (hg : GRun ops o a hs) (g : VPred) (hst : StableP g) {fn : FuncId} {x : Operand} {xs : Array Operand} {ats : Array TypeId} (args : (Nat → Value) → List Value)
    (hd : o.dst = some d) (hz : Nat.blt d a.tmps.size = true) (ho : o.op = .call { callee := .value x, args := xs, argTypes := ats }) (hin : (opTmps o).all (fun t => Nat.blt t a.tmps.size) = true)
    (hqx : x = .func fn) (hf : entersB P fn = true) (hq : (xs.toList.all fun q => okOp a q) = true) (ha : ∀ f, xs.toList.map (evF a hs f) = args f)
    (h : ∀ (m : Lt w0) (f : Nat → Value), (∀ t p, hs.lookup t = some p → (opTmps o).contains t = true → p (f t) m.1) → Calls P fn (args f).toArray m.1 fun e w'' => ∃ v, e = .returned v ∧ Ext m.1 w'' ∧ g v w'')
    (hr : wpX P ops Q w0 R rest (a.put (some d) undef) ((d, g) :: hs)) : wpX P ops Q w0 R (o :: rest) a hs :=
  wpX_callL hg g hst args hd hz ho hin (fun f => by rw [hqx]; rfl) hf (fun f => by rw [← ha f]; exact List.map_congr_left (fun q hm => ev_fill (List.all_eq_true.1 hq q hm))) h hr
/-- A part of a tuple. -/
theorem wpX_extL {o : Oper} {rest : List Oper} {a : Act} {hs : List (Nat × VPred)} {d : Nat} (hg : GRun ops o a hs) (g : VPred) (hst : StableP g) {x : Operand} {ix : Nat} (xv : (Nat → Value) → Value)
    (hd : o.dst = some d) (hz : Nat.blt d a.tmps.size = true) (ho : o.op = .extract x ix) (hin : (opTmps o).all (fun t => Nat.blt t a.tmps.size) = true) (hq : okOp a x = true) (ha : ∀ f, evF a hs f x = xv f)
    (h : ∀ (m : Lt w0) (f : Nat → Value), (∀ t p, hs.lookup t = some p → (opTmps o).contains t = true → p (f t) m.1) → ∃ v w'', (Instr.extract (xv f) ix).run P m.1 = .ok v w'' ∧ Ext m.1 w'' ∧ g v w'')
    (hr : wpX P ops Q w0 R rest (a.put (some d) undef) ((d, g) :: hs)) : wpX P ops Q w0 R (o :: rest) a hs :=
  wpX_newL hg g hst (fun f => Instr.extract (xv f) ix) hd hz (by unfold notSelect; rw [ho]) hin (fun f => by unfold execOp; simp only [ho]; rw [ev_fill hq, ha f]) h hr
end
end Gd
namespace Gm
open Go.Proofs.YteilglpdmfiinaaDoor.Gd (GRun)
section
variable {P : Program} {ops : Array Oper} {Q : Exit → Act → World → Prop} {w0 : World} {R : Act → World → Prop}
theorem ev_fill {a : Act} {hs : List (Nat × VPred)} {f : Nat → Value} {x : Operand} (h : okOp a x = true) : (fillH a hs f).eval x = evF a hs f x := evF_fill (fillH_size a f hs) (fillH_at a f hs) h
theorem fill_put_size {a : Act} {hs : List (Nat × VPred)} (f : Nat → Value) (n : Nat) (h : Nat.blt n a.tmps.size = true) : n < (fillH a hs f).tmps.size := by rw [fillH_size]; exact blt_lt h
theorem wpX_newL {o : Oper} {rest : List Oper} {a : Act} {hs : List (Nat × VPred)} {d : Nat} (hg : GRun ops o a hs) (g : VPred) (hst : StableM w0.heap.size g) (s : (Nat → Value) → Sem Value)
    (hd : o.dst = some d) (hz : Nat.blt d a.tmps.size = true) (hsel : notSelect o = true) (hin : (opTmps o).all (fun t => Nat.blt t a.tmps.size) = true) (he : ∀ f, execOp (fillH a hs f).eval o = (do pure (Next.value (← s f))))
    (h : ∀ (m : Lt w0) (f : Nat → Value), (∀ t p, hs.lookup t = some p → (opTmps o).contains t = true → p (f t) m.1) → ∃ v w'', (s f).run P m.1 = .ok v w'' ∧ ExtM w0.heap.size m.1 w'' ∧ g v w'')
    (hr : wpX P ops Q w0 R rest (a.put (some d) undef) ((d, g) :: hs)) : wpX P ops Q w0 R (o :: rest) a hs :=
  wpX_useL hg g hst hd hz hsel hin (fun m f hf K hK => by
    obtain ⟨v, w'', h1, h2, h3⟩ := h m f hf
    exact wp_newVal (he f) h1 (hK _ _ (by rw [hd]; show ((fillH a hs f).put (some d) v).defers = _; simp [Act.put, fillH_defers]) ⟨h2, by rw [hd, eval_put_same (fill_put_size f d hz)]; exact h3⟩)) hr
/-- A slice literal. -/
theorem wpX_buildSL {o : Oper} {rest : List Oper} {a : Act} {hs : List (Nat × VPred)} {d : Nat} (hg : GRun ops o a hs) (g : VPred) (hst : StableM w0.heap.size g) {t : TypeId} {n : Nat} {ps : Array (Nat × Operand)} (vs : (Nat → Value) → List (Nat × Value))
    (hd : o.dst = some d) (hz : Nat.blt d a.tmps.size = true) (ho : o.op = .buildSlice t n ps) (hin : (opTmps o).all (fun t => Nat.blt t a.tmps.size) = true) (hq : (ps.toList.all fun q => okOp a q.2) = true) (ha : ∀ f, (ps.toList.map fun q => (q.1, evF a hs f q.2)) = vs f)
    (h : ∀ (m : Lt w0) (f : Nat → Value), (∀ t p, hs.lookup t = some p → (opTmps o).contains t = true → p (f t) m.1) → ∃ v w'', (Instr.buildSlice t n (vs f).toArray).run P m.1 = .ok v w'' ∧ ExtM w0.heap.size m.1 w'' ∧ g v w'')
    (hr : wpX P ops Q w0 R rest (a.put (some d) undef) ((d, g) :: hs)) : wpX P ops Q w0 R (o :: rest) a hs :=
  wpX_newL hg g hst (fun f => Instr.buildSlice t n (vs f).toArray) hd hz (by unfold notSelect; rw [ho]) hin (fun f => by unfold execOp; simp only [ho]; rw [← ha f, List.map_congr_left (fun q hm => by rw [← ev_fill (List.all_eq_true.1 hq q hm)]), ← List.map_toArray, Array.toArray_toList]) h hr
/-- A struct literal. -/
theorem wpX_buildL {o : Oper} {rest : List Oper} {a : Act} {hs : List (Nat × VPred)} {d : Nat} (hg : GRun ops o a hs) (g : VPred) (hst : StableM w0.heap.size g) {t : TypeId} {ps : Array (Nat × Operand)} (vs : (Nat → Value) → List (Nat × Value))
    (hd : o.dst = some d) (hz : Nat.blt d a.tmps.size = true) (ho : o.op = .build t ps) (hin : (opTmps o).all (fun t => Nat.blt t a.tmps.size) = true) (hq : (ps.toList.all fun q => okOp a q.2) = true) (ha : ∀ f, (ps.toList.map fun q => (q.1, evF a hs f q.2)) = vs f)
    (h : ∀ (m : Lt w0) (f : Nat → Value), (∀ t p, hs.lookup t = some p → (opTmps o).contains t = true → p (f t) m.1) → ∃ v w'', (Instr.build t (vs f).toArray).run P m.1 = .ok v w'' ∧ ExtM w0.heap.size m.1 w'' ∧ g v w'')
    (hr : wpX P ops Q w0 R rest (a.put (some d) undef) ((d, g) :: hs)) : wpX P ops Q w0 R (o :: rest) a hs :=
  wpX_newL hg g hst (fun f => Instr.build t (vs f).toArray) hd hz (by unfold notSelect; rw [ho]) hin (fun f => by unfold execOp; simp only [ho]; rw [← ha f, List.map_congr_left (fun q hm => by rw [← ev_fill (List.all_eq_true.1 hq q hm)]), ← List.map_toArray, Array.toArray_toList]) h hr
/-- A conversion. -/
theorem wpX_convL {o : Oper} {rest : List Oper} {a : Act} {hs : List (Nat × VPred)} {d : Nat} (hg : GRun ops o a hs) (g : VPred) (hst : StableM w0.heap.size g) {t1 t2 : TypeId} {x : Operand} (xv : (Nat → Value) → Value)
    (hd : o.dst = some d) (hz : Nat.blt d a.tmps.size = true) (ho : o.op = .convert t1 t2 x) (hin : (opTmps o).all (fun t => Nat.blt t a.tmps.size) = true) (hq : okOp a x = true) (ha : ∀ f, evF a hs f x = xv f)
    (h : ∀ (m : Lt w0) (f : Nat → Value), (∀ t p, hs.lookup t = some p → (opTmps o).contains t = true → p (f t) m.1) → ∃ v w'', (convert t1 t2 (xv f)).run P m.1 = .ok v w'' ∧ ExtM w0.heap.size m.1 w'' ∧ g v w'')
    (hr : wpX P ops Q w0 R rest (a.put (some d) undef) ((d, g) :: hs)) : wpX P ops Q w0 R (o :: rest) a hs :=
  wpX_newL hg g hst (fun f => convert t1 t2 (xv f)) hd hz (by unfold notSelect; rw [ho]) hin (fun f => by unfold execOp; simp only [ho]; rw [ev_fill hq, ha f]) h hr
/-- A call that reads any holes. -/
theorem wpX_callF {o : Oper} {rest : List Oper} {a : Act} {hs : List (Nat × VPred)} {d : Nat} (hg : GRun ops o a hs) (g : VPred) (hst : StableM w0.heap.size g) {fn : FuncId} {x : Operand} {xs : Array Operand} {ats : Array TypeId} (args : (Nat → Value) → List Value)
    (hd : o.dst = some d) (hz : Nat.blt d a.tmps.size = true) (ho : o.op = .call { callee := .value x, args := xs, argTypes := ats }) (hin : (opTmps o).all (fun t => Nat.blt t a.tmps.size) = true)
    (hqx : x = .func fn) (hf : entersB P fn = true) (hq : (xs.toList.all fun q => okOp a q) = true) (ha : ∀ f, xs.toList.map (evF a hs f) = args f)
    (h : ∀ (m : Lt w0) (f : Nat → Value), (∀ t p, hs.lookup t = some p → (opTmps o).contains t = true → p (f t) m.1) → Calls P fn (args f).toArray m.1 fun e w'' => ∃ v, e = .returned v ∧ ExtM w0.heap.size m.1 w'' ∧ g v w'')
    (hr : wpX P ops Q w0 R rest (a.put (some d) undef) ((d, g) :: hs)) : wpX P ops Q w0 R (o :: rest) a hs :=
  wpX_callL hg g hst args hd hz ho hin (fun f => by rw [hqx]; rfl) hf (fun f => by rw [← ha f]; exact List.map_congr_left (fun q hm => ev_fill (List.all_eq_true.1 hq q hm))) h hr
/-- A part of a tuple. -/
theorem wpX_extL {o : Oper} {rest : List Oper} {a : Act} {hs : List (Nat × VPred)} {d : Nat} (hg : GRun ops o a hs) (g : VPred) (hst : StableM w0.heap.size g) {x : Operand} {ix : Nat} (xv : (Nat → Value) → Value)
    (hd : o.dst = some d) (hz : Nat.blt d a.tmps.size = true) (ho : o.op = .extract x ix) (hin : (opTmps o).all (fun t => Nat.blt t a.tmps.size) = true) (hq : okOp a x = true) (ha : ∀ f, evF a hs f x = xv f)
    (h : ∀ (m : Lt w0) (f : Nat → Value), (∀ t p, hs.lookup t = some p → (opTmps o).contains t = true → p (f t) m.1) → ∃ v w'', (Instr.extract (xv f) ix).run P m.1 = .ok v w'' ∧ ExtM w0.heap.size m.1 w'' ∧ g v w'')
    (hr : wpX P ops Q w0 R rest (a.put (some d) undef) ((d, g) :: hs)) : wpX P ops Q w0 R (o :: rest) a hs :=
  wpX_newL hg g hst (fun f => Instr.extract (xv f) ix) hd hz (by unfold notSelect; rw [ho]) hin (fun f => by unfold execOp; simp only [ho]; rw [ev_fill hq, ha f]) h hr
end
end Gm
end Go.Proofs.YteilglpdmfiinaaDoor
