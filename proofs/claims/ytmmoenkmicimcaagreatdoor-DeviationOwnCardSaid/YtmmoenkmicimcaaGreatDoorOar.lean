import Derived.Test.YtmmoenkmicimcaaGreatDoorOak
import Derived.Test.YtmmoenkmicimcaaGreatDoorOal
import Derived.Test.YtmmoenkmicimcaaGreatDoorCards
import Derived.Test.YtmmoenkmicimcaaGreatDoorTie
import Derived.LaidMore
import Derived.Lay
import Derived.Lib.LaidTab
namespace Go.Proofs.YtmmoenkmicimcaaGreatDoor
open Go.ChangeShapes Go.WideShapes Go.ChangeAt Go.RowKit
set_option linter.unusedVariables false
set_option maxRecDepth 100000
theorem NY:laidOutB Tryz.prog=true:=by kernel_rfl
theorem own:ownKnob Tryz.prog.godebug=none:=by kernel_rfl
theorem gD:Tryz.prog.globalNamed "traveldoc/digest.constants"=some 1:=by kernel_rfl
theorem gR:Tryz.prog.globalNamed "traveldoc/traveldocref04.constants"=some 0:=by kernel_rfl
theorem tD:(Tryz.prog.globals[1]?).map (·.type)=some 187:=by kernel_rfl
theorem tR:(Tryz.prog.globals[0]?).map (·.type)=some 187:=by kernel_rfl
theorem c1:Tryz.prog.cellsOf 172=1:=by kernel_rfl
theorem c64:Tryz.prog.cellsOf 187=64:=by kernel_rfl
theorem vZ {W:World}{l:String}{g:Nat}(h:Lib.TabIs Tryz.prog W l .u32 a1d)(hg:Tryz.prog.globalNamed l=some g):dY W g:=fun t q=>h.cell hg t q
theorem GP {W:World}(h:laidMetH Tryz.prog Rows.deviationRawRow.laid W):dY W 1/\dY W 0:=by rw [MakeChecks.laidMetH_plain _ _ _ (by kernel_rfl)]at h;refine⟨?_,vZ (Lib.tabIs_of_head gR tR Tryz.underlying187 Tryz.underlying172 c1 c64 h) gR⟩;obtain⟨ps,⟨g1,t1,G,H,p1,I,J,K,N,O,⟨g2,Q,U,X,p2,Y,l,q,C,F,_,_⟩,_⟩,_⟩:=h;obtain rfl:=bc (gD.symm.trans l);obtain rfl:=bc (tD.symm.trans q);refine vZ ?_ gD;unfold Lib.TabIs;rw [C,<- Lib.cells_of_tab Tryz.underlying187 Tryz.underlying172 c1 c64 F]
theorem LA {H:Type}{enc:TypeId×Value->H}{W:World}{J:Nat}{t e:TypeId}{k:IntKind}{v:Value}{d:DataW H}{p:List MemPlace}(q:Tryz.prog.underlying t=some (.slice e))(K:Tryz.prog.underlying e=some (.int k))(N:Tryz.prog.cellsOf e=1)(O:Value.okWide Tryz.prog W .any J t v)(h:DataW.Trod enc Tryz.prog W 0 (fun _=>true) true t v d p): ∃l:List Int,fh W k v l/\(∀n∈l,(Lit.int k n).wf=true)/\(l=[]\/ ∃e s,d=.slice e s/\l.length<=e.length+s.length):=by
 obtain⟨a,len,Q,rfl⟩:=okWide_slice q O;obtain⟨a1,U⟩:=h;rcases open_ints q K N U with⟨C,_⟩ | ⟨x,a2,c,l,C,_,X,Y,hz,hx,I,a0⟩;· simp [Value.cells]at C;obtain⟨rfl,rfl,rfl⟩:=C;exact⟨[],Rd.nil_ _,by simp,.inl rfl⟩
 · simp [Value.cells]at C;obtain⟨rfl,rfl,rfl⟩:=C;simp only [if_true]at hz;refine⟨l.take len,?_,fun n hn=>a0 n (List.mem_of_mem_take hn),.inr ⟨_,_,(Prod.mk.inj hx).1,?_⟩⟩;(· refine⟨_,len,Q,rfl,by simp;omega,X,Y,fun h0=>?_⟩;obtain⟨b,o,sp⟩:=x;have G:=I 0 (by omega);cases sp with | some a3=>exfalso;simp only [Addr.add,if_true,World.cell?]at G;split at G<;>simp at G | none=>refine⟨b,o,rfl,fun j u q=>?_⟩;rw [List.getElem?_map,List.getElem?_take,Option.map_eq_some_iff]at q;obtain⟨y,F,rfl⟩:=q;split at F;(· have hj:j<l.length:=(aq.1 F).1;have:=I j hj;rw [Addr.add_lit]at this;rw [this];simp [List.getD_eq_getElem?_getD,F]);· cases F);· rw [gc];simp only [lits,List.length_map,gc,List.length_drop];omega
def sg(l:List Nat):List Char:=l.map Char.ofNat
def TE:List Nat:=[104,97,114,110,101,115,115,32,56,56,54,57,56,102,53,55,55,48,53,49,54,56,99,49,101,52,54,53,102,53,102,99,97,57,56,50,56,48,97,101,101,52,56,48,55,100,99,101,57,55,101,57,52,48,49,48,55,51,57,50,97,99,97,98,100,53,48,51,98,100,50,51,32,99,117,116,32,97,116,32,116,114,97,118,101,108,100,111,99,47,116,114,97,118,101,108,100,111,99,108,97,119,51,51,46,68,101,118,105,97,116,105,111,110,77,97,100,101,32,116,114,97,118,101,108,100,111,99,47,116,114,97,118,101,108,100,111,99,108,97,119,51,51,46,68,101,118,105,97,116,105,111,110,82,97,119,32,116,114,97,118,101,108,100,111,99,47,116,114,97,118,101,108,100,111,99,108,97,119,51,51,46,68,101,118,105,97,116,105,111,110,79,119,110]
def qF:List Char:=sg TE
def GQ:List (List Char):=[sg [97,116],sg [116,114,97,118,101,108,100,111,99,47,116,114,97,118,101,108,100,111,99,108,97,119,51,51,46,68,101,118,105,97,116,105,111,110,77,97,100,101],sg [116,114,97,118,101,108,100,111,99,47,116,114,97,118,101,108,100,111,99,108,97,119,51,51,46,68,101,118,105,97,116,105,111,110,82,97,119],sg [116,114,97,118,101,108,100,111,99,47,116,114,97,118,101,108,100,111,99,108,97,119,51,51,46,68,101,118,105,97,116,105,111,110,79,119,110]]
def PY:List (List Char):=sg [99,117,116]::GQ
def GR:List Char:=sg [56,56,54,57,56,102,53,55,55,48,53,49,54,56,99,49,101,52,54,53,102,53,102,99,97,57,56,50,56,48,97,101,101,52,56,48,55,100,99,101,57,55,101,57,52,48,49,48,55,51,57,50,97,99,97,98,100,53,48,51,98,100,50,51]
theorem XV:Tryz.prog.initOrder=String.ofList qF:=by kernel_rfl
theorem a0z: "88698f57705168c1e465f5fca98280aee4807dce97e940107392acabd503bd23"=String.ofList GR:=by kernel_rfl
theorem yW:Tryz.prog.initOrder.toList=qF:=by rw [XV,String.toList_ofList]
set_option maxRecDepth 100000 in theorem LC:behindMainWord (wordsSigns qF)=PY:=by decide+kernel
theorem yX:behindMainWord (wordsSigns Tryz.prog.initOrder.toList)=sg [99,117,116]::GQ:=by rw [yW,LC];rfl
set_option maxRecDepth 100000 in theorem PZ:(match wordsSigns qF with | h::s::_=>if !isSumSigns s then none else if h== "harness".toList then some (true,s)else if h== "ownmain".toList then some (false,s)else none | _=>none)=some (true,GR):=by decide+kernel
theorem XY:Tryz.prog.mainIs=some (true,("88698f57705168c1e465f5fca98280aee4807dce97e940107392acabd503bd23":String).toList):=by rw [a0z,String.toList_ofList];unfold Program.mainIs;rw [yW];exact PZ
theorem TF {P:Program}{r:List (List Char)}(h:behindMainWord (wordsSigns P.initOrder.toList)=sg [99,117,116]::r):P.make=some .cut:=by unfold Program.make;rw [h];rfl
theorem Q0 {P:Program}{r:List (List Char)}(h:behindMainWord (wordsSigns P.initOrder.toList)=sg [99,117,116]::r):P.headLifts=[]:=by unfold Program.headLifts;rw [h];rfl
theorem Q1 {P:Program}{r:List (List Char)}(h:behindMainWord (wordsSigns P.initOrder.toList)=sg [99,117,116]::r):P.liftsFinal=false:=by unfold Program.liftsFinal;rw [Q0 h,h];rfl
theorem Q2 {P:Program}{r:List (List Char)}(h:behindMainWord (wordsSigns P.initOrder.toList)=sg [99,117,116]::r)(l:P.laysLater=false)(q:P.bearsReflect=false)(C:P.doorFits []=true):P.mayEnter=true:=by have e:stripLifts liftWords (sg [99,117,116]::r)=([],sg [99,117,116]::r):=rfl;unfold Program.mayEnter;rw [h];simp only [e,l,q,C];rfl
theorem Y4:Tryz.prog.make=some .cut:=TF yX
theorem TG:Tryz.prog.liftsFinal=false:=Q1 yX
theorem TH:Tryz.prog.laysLater=false:=by kernel_rfl
theorem LD:Tryz.prog.bearsReflect=false:=by kernel_rfl
theorem Y5:Tryz.prog.doorFits []=true:=by kernel_rfl
theorem TI:Tryz.prog.mayEnter=true:=Q2 yX TH LD Y5
theorem TJ:false=Tryz.prog.looks []:=by kernel_rfl
end Go.Proofs.YtmmoenkmicimcaaGreatDoor
