/- Parts Wm of the proof. -/
import Derived.Test.YtkjplpmogfmhkaaGreatDoorIab
import Derived.Lib.SlBytesConst
namespace Go.Proofs.YtkjplpmogfmhkaaGreatDoor.Gm
open Go Go.RowKit Go.Proofs.YtkjplpmogfmhkaaGreatDoor
open Go.Proofs.YtkjplpmogfmhkaaGreatDoor.Gd (bV gwp iQ cN mB fA pE kW eP eQ)
set_option linter.unusedVariables false
section
variable {P:Program}{ops:Array Oper}{Q:Exit→Act→World→Prop}
end
section
variable {P:Program}{ops:Array Oper}{Q:Exit→Act→World→Prop}{w0:World}{R:Act→World→Prop}
def eP (o:Oper):Bool:=nD o || (match o.op with | .pick ..=>true | _=>false)
theorem eQ {P:Program}{ρ:Operand→Value}{o:Oper} (hp:eP o=true) {w w':World}{f:FuncId}{args:Array Value}:(execOp ρ o).run P w≠.ok (.enter f args) w':=by
 unfold eP at hp
 rw [Bool.or_eq_true] at hp
 rcases hp with hp | hp
 · exact kB hp
 · obtain ⟨dst,op,type,pos,after,guard⟩:=o
   cases op <;> simp only [] at hp <;> first
    | (cases hp;done)
    | skip
   rename_i c x y
   intro h
   unfold execOp at h
   simp only [Sem.run_bind] at h
   cases hs:(asBool (ρ c)).run P w with
   | ok b w1=>rw [hs] at h;simp at h
   | halt b w1=>rw [hs] at h;simp at h
end
end Go.Proofs.YtkjplpmogfmhkaaGreatDoor.Gm
