import Derived.Test.YtmmoenkmicimcaaGreatDoorOav
import Derived.Test.YtmmoenkmicimcaaGreatDoorOao
namespace Go.Proofs.YtmmoenkmicimcaaGreatDoor
open Go.RowKit
set_option linter.unusedVariables false
set_option maxRecDepth 100000
section
variable {P:Program}{Q:Exit->Act->World->Prop}{w0:World}{R:Act->World->Prop}
end
theorem GV(W:World)(t:Int)(A:Option Addr)(n c:Nat):(Instr.build 94 [(0,.int .i64 t),(1,.slice A n c)].toArray).run Tryz.prog W=.ok (.agg #[.int .i64 t,.slice A n c,.slice none 0 0]) W:=run_build W _ _ _ (by kernel_rfl)
theorem C3.ex {W l:World}{b:Nat}{q v1 v2:Value}(h:C3 W b q v1 v2)(k:Ext W l):C3 l b q v1 v2:=(k.block b (a9 h)).trans h
theorem gh.avoid {S S':Nat->Prop}{w:World}{v:Value}{l:List UInt8}{q:Nat}{z:Int}{A B:Option Addr}{n c G H:Nat}(h:gh S w v (ce l))(I:C3 w q (.int .i64 z) (.slice A n c) (.slice B G H))(J:∀b,S b->b<w.heap.size->b≠q->S' b):gh S' w v (ce l):=by obtain⟨A,n,c,K,C,N,O,Q⟩:=h;refine⟨A,n,c,K,C,N,O,fun U=>?_⟩;obtain⟨b,o,W,X,F⟩:=Q U;rw [bM]at C;have c0:=F 0 _ (KG (by omega));refine⟨b,o,W,J b X (be w _ c0) (fun e=>?_),F⟩;subst e;rw [ae w b (o+0) _ _ _ I]at c0;match o,c0 with | 0,c0=>simp at c0 | 1,c0=>simp at c0 | 2,c0=>simp at c0 | o+3,c0=>simp at c0
end Go.Proofs.YtmmoenkmicimcaaGreatDoor
