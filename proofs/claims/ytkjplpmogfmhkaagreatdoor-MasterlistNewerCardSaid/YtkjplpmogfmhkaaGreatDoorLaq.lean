/- Parts Wm of the proof. -/
import Derived.Test.YtkjplpmogfmhkaaGreatDoorLab
import Derived.Lib.SlBytesConst
namespace Go.Proofs.YtkjplpmogfmhkaaGreatDoor.Gm
open Go Go.RowKit Go.Proofs.YtkjplpmogfmhkaaGreatDoor
open Go.Proofs.YtkjplpmogfmhkaaGreatDoor.Gd (bV gwp iU cN mF fD pF kZ eU eV)
set_option linter.unusedVariables false
section
variable {P:Program}{ops:Array Oper}{Q:Exit→Act→World→Prop}
end
section
variable {P:Program}{ops:Array Oper}{Q:Exit→Act→World→Prop}{w0:World}{R:Act→World→Prop}
def eU (o:Oper):Bool:=nF o || (match o.op with | .pick ..=>true | _=>false)
theorem eV {P:Program}{ρ:Operand→Value}{o:Oper} (hp:eU o=true) {w w':World}{f:FuncId}{args:Array Value}:(execOp ρ o).run P w≠.ok (.enter f args) w':=by
 unfold eU at hp
 rw [Bool.or_eq_true] at hp
 rcases hp with hp | hp
 · exact kF hp
 · obtain ⟨dst,op,type,pos,after,guard⟩:=o
   cases op <;> simp only [] at hp <;> first
    | (cases hp;done)
    | skip
   rename_i c x y
   intro h
   unfold execOp at h
   simp only [Sem.run_bind] at h
   cases hs:(asBool (ρ c)).run P w with
   | ok b w1=>rw [hs] at h;simp at h
   | halt b w1=>rw [hs] at h;simp at h
end
end Go.Proofs.YtkjplpmogfmhkaaGreatDoor.Gm
