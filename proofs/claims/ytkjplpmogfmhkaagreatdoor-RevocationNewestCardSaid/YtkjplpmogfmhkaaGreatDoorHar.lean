/- Parts Wm of the proof. -/
import Derived.Test.YtkjplpmogfmhkaaGreatDoorHac
import Derived.Lib.SlBytesConst
namespace Go.Proofs.YtkjplpmogfmhkaaGreatDoor.Gm
open Go Go.RowKit Go.Proofs.YtkjplpmogfmhkaaGreatDoor
open Go.Proofs.YtkjplpmogfmhkaaGreatDoor.Gd (dX gwp mL dT kV kJ uW nY gW jD)
set_option linter.unusedVariables false
section
variable {P:Program}{ops:Array Oper}{Q:Exit->Act->World->Prop}
end
section
variable {P:Program}{ops:Array Oper}{Q:Exit->Act->World->Prop}{w0:World}{R:Act->World->Prop}
def gW (o:Oper):Bool:=pU o || (match o.op with | .pick ..=>true | _=>false)
theorem jD {P:Program}{ρ:Operand->Value}{o:Oper} (hp:gW o=true) {w w':World}{f:FuncId}{args:Array Value}:(execOp ρ o).run P w≠.ok (.enter f args) w':=by
 unfold gW at hp
 rw [Bool.or_eq_true] at hp
 rcases hp with hp | hp
 · exact mH hp
 · obtain ⟨dst,op,type,pos,after,guard⟩:=o
   cases op <;> simp only [] at hp <;> first
    | (cases hp;done)
    | skip
   rename_i c x y
   intro h
   unfold execOp at h
   simp only [Sem.run_bind] at h
   cases hs:(asBool (ρ c)).run P w with
   | ok b w1=>rw [hs] at h;simp at h
   | halt b w1=>rw [hs] at h;simp at h
end
end Go.Proofs.YtkjplpmogfmhkaaGreatDoor.Gm
