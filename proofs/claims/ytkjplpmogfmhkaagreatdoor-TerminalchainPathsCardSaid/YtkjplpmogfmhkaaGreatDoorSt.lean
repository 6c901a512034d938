/- Steps of a region that draws its order, for 'go_region_law': a call by its contract, an append by an equation. -/
import Derived.Test.YtkjplpmogfmhkaaGreatDoorWx
import Derived.Deep.RegionLaw
namespace Go.Proofs.YtkjplpmogfmhkaaGreatDoor
open Go.RowKit
set_option linter.unusedVariables false

theorem step_callFn {P : Program} {ops : Array Oper} {o : Oper} {a : Act} {w : World} {K : Act → World → Prop} {Q : Exit → Act → World → Prop} {E : Prop} {G : Value → World → Prop} (f : FuncId) (args : List Value) (hg : o.guard = none) {x : Operand} {xs : Array Operand} {ats : Array TypeId}
    (ho : o.op = .call { callee := .value x, args := xs, argTypes := ats }) (hx : a.eval x = .func (.func f) #[] #[]) (hf : entersB P f = true) (ha : xs.toList.map a.eval = args)
    (h : Calls P f args.toArray w fun e w'' => ∃ v, e = .returned v ∧ G v w'') (hK : ∀ v w'', G v w'' → K (a.put o.dst v) w'') : if Region.wanted o (yielded ops a.tmps) = true then Oper.wp P o a w K Q else E := by
  have hw : Region.wanted o (yielded ops a.tmps) = true := by simp [Region.wanted, hg]
  rw [if_pos hw]
  have ha' : xs.map a.eval = args.toArray := by rw [← ha, ← List.map_toArray, Array.toArray_toList]
  have hrun : (execOp a.eval o).run P w = .ok (.enter f args.toArray) w := by
    unfold execOp
    simp only [ho, resolve, Sem.run_bind, hx, ha', Deferred.ofValue, Sem.run_pure, Result.andThen_ok, invoke]
    simp only [Array.append_empty, Array.empty_append]
    exact run_enter hf args.toArray w
  unfold Oper.wp
  rw [hrun]
  refine Calls.mono h fun e w'' ⟨v, he, hg⟩ => ?_
  subst he
  exact hK v w'' hg
/-- A call that leaves the world as it is. -/
theorem step_callSame {P : Program} {ops : Array Oper} {o : Oper} {a : Act} {w : World} {K : Act → World → Prop} {Q : Exit → Act → World → Prop} {E : Prop} {v : Value} (f : FuncId) (args : List Value) (hg : o.guard = none) {x : Operand} {xs : Array Operand} {ats : Array TypeId}
    (ho : o.op = .call { callee := .value x, args := xs, argTypes := ats }) (hx : a.eval x = .func (.func f) #[] #[]) (hf : entersB P f = true) (ha : xs.toList.map a.eval = args)
    (h : Calls P f args.toArray w fun e w'' => e = .returned v ∧ w = w'') (hK : K (a.put o.dst v) w) : if Region.wanted o (yielded ops a.tmps) = true then Oper.wp P o a w K Q else E :=
  step_callFn (G := fun u w'' => u = v ∧ w = w'') f args hg ho hx hf ha (h.mono fun e w'' q => ⟨v, q.1, rfl, q.2⟩) (fun u w'' q => by obtain ⟨rfl, rfl⟩ := q; exact hK)
theorem step_app {P : Program} {ops : Array Oper} {o : Oper} {a : Act} {w w' : World} {K : Act → World → Prop} {Q : Exit → Act → World → Prop} {E : Prop} (hg : o.guard = none) {s x : Operand} {t : TypeId} (sv xv : Value) {v : Value}
    (ho : o.op = .call { callee := .builtin .append, args := #[s, x], argTypes := #[t, t] }) (hs : a.eval s = sv) (hx : a.eval x = xv) (hrun : (Builtin.append_ #[t, t] o.type #[sv, xv]).run P w = .ok v w') (hK : K (a.put o.dst v) w') :
    if Region.wanted o (yielded ops a.tmps) = true then Oper.wp P o a w K Q else E := by
  have hw : Region.wanted o (yielded ops a.tmps) = true := by simp [Region.wanted, hg]
  rw [if_pos hw]
  unfold Oper.wp execOp
  simp only [ho, resolve, invoke, builtin, Sem.run_bind, Sem.run_pure, Result.andThen_ok, List.map_toArray, List.map_cons, List.map_nil, hs, hx, hrun]
  exact hK
end Go.Proofs.YtkjplpmogfmhkaaGreatDoor
