/- Parts Wm of the proof. -/
import Derived.Test.YthbpdhanljpigaaGreatDoorVac
import Derived.Lib.SlBytesConst
namespace Go.Proofs.YthbpdhanljpigaaGreatDoor.Gm
open Go Go.RowKit Go.Proofs.YthbpdhanljpigaaGreatDoor
open Go.Proofs.YthbpdhanljpigaaGreatDoor.Gd (opTmpsG gwp gwp_mono GRun GSkip gwp_run gwp_skip guardTmps plainOpG plain_enterG)
set_option linter.unusedVariables false
section
variable {P : Program} {ops : Array Oper} {Q : Exit → Act → World → Prop}

end
section
variable {P : Program} {ops : Array Oper} {Q : Exit → Act → World → Prop} {w0 : World} {R : Act → World → Prop}
/-- Operations that never enter a function; pick too. -/
def plainOpG (o : Oper) : Bool := plainOp o || (match o.op with | .pick .. => true | _ => false)
theorem plain_enterG {P : Program} {ρ : Operand → Value} {o : Oper} (hp : plainOpG o = true) {w w' : World} {f : FuncId} {args : Array Value} : (execOp ρ o).run P w ≠ .ok (.enter f args) w' := by
  unfold plainOpG at hp
  rw [Bool.or_eq_true] at hp
  rcases hp with hp | hp
  · exact plain_enter hp
  · obtain ⟨dst, op, type, pos, after, guard⟩ := o
    cases op <;> simp only [] at hp <;> first
      | (cases hp; done)
      | skip
    rename_i c x y
    intro h
    unfold execOp at h
    simp only [Sem.run_bind] at h
    cases hs : (asBool (ρ c)).run P w with
    | ok b w1 => rw [hs] at h; simp at h
    | halt b w1 => rw [hs] at h; simp at h
end
end Go.Proofs.YthbpdhanljpigaaGreatDoor.Gm
