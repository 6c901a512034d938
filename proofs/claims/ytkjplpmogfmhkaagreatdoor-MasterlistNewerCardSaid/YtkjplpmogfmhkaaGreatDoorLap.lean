/- Parts P4 Hd of the proof. -/
import Derived.Test.YtkjplpmogfmhkaaGreatDoorLam
import Derived.Test.YtkjplpmogfmhkaaGreatDoorLah
import Derived.Test.YtkjplpmogfmhkaaGreatDoorLak
import Derived.Test.YtkjplpmogfmhkaaGreatDoorRows
import Derived.Test.YtkjplpmogfmhkaaGreatDoorCards
import Derived.Test.YtkjplpmogfmhkaaGreatDoorTie
import Derived.ProofKit
import Derived.OpenShut
import Derived.LaidMore
import Derived.Lay
import Derived.Lib.LaidTab
import Derived.SizedLaws
import Derived.SevenTiedAt
import Derived.Stop.Joined
namespace Go.Proofs.YtkjplpmogfmhkaaGreatDoor
open Go.ChangeShapes Go.WideShapes Go.ChangeAt Go.RowKit
set_option linter.unusedVariables false
set_option maxRecDepth 100000
theorem GP:laidOutB Tryz.prog=true:=by kernel_rfl
theorem own:ownKnob Tryz.prog.godebug=none:=by kernel_rfl
theorem gD:Tryz.prog.globalNamed "traveldoc/digest.constants"=some 1:=by kernel_rfl
theorem gR:Tryz.prog.globalNamed "traveldoc/traveldocref04.constants"=some 0:=by kernel_rfl
theorem tD:(Tryz.prog.globals[1]?).map (·.type)=some 276:=by kernel_rfl
theorem tR:(Tryz.prog.globals[0]?).map (·.type)=some 276:=by kernel_rfl
theorem c1:Tryz.prog.cellsOf 265=1:=by kernel_rfl
theorem c64:Tryz.prog.cellsOf 276=64:=by kernel_rfl
theorem sB {W:World}{name:String}{g:Nat} (h:Lib.TabIs Tryz.prog W name .u32 SW) (hg:Tryz.prog.globalNamed name=some g):dI W g:=fun t ht=>h.cell hg t ht
theorem BV {W:World} (h:laidMetH Tryz.prog Rows.terminalchainImportsRow.laid W):dI W 1∧dI W 0:=by
 rw [MakeChecks.laidMetH_plain _ _ _ (by kernel_rfl)] at h
 refine ⟨?_,sB (Lib.tabIs_of_head gR tR Tryz.underlying276 Tryz.underlying265 c1 c64 h) gR⟩
 obtain ⟨ps,⟨g1,t1,cs1,f1,p1,q1,hg1,ht1,hv1,hd1,⟨g2,t2,cs2,f2,p2,q2,hg2,ht2,hv2,hd2,_,_⟩,_⟩,_⟩:=h
 obtain rfl:=Option.some.inj (gD.symm.trans hg2)
 obtain rfl:=Option.some.inj (tD.symm.trans ht2)
 refine sB ?_ gD
 unfold Lib.TabIs
 rw [hv2,← Lib.cells_of_tab Tryz.underlying276 Tryz.underlying265 c1 c64 hd2]
theorem EP {H:Type}{enc:TypeId × Value→H}{W:World}{base:Nat}{t e:TypeId}{k:IntKind}{v:Value}{d:DataW H}{p:List MemPlace} (hu:Tryz.prog.underlying t=some (.slice e)) (he:Tryz.prog.underlying e=some (.int k)) (hc:Tryz.prog.cellsOf e=1)
 (hv:Value.okWide Tryz.prog W .any base t v) (h:DataW.Trod enc Tryz.prog W 0 (fun _=>true) true t v d p) :
 ∃ zs:List Int,RdI W k v zs∧(∀ n ∈ zs,(Lit.int k n).wf=true)∧(zs=[] ∨ ∃ e s,d=.slice e s∧zs.length≤e.length+s.length):=by
 obtain ⟨a,len,cap,rfl⟩:=okWide_slice hu hv
 obtain ⟨fuel,hf⟩:=h
 rcases open_ints hu he hc hf with ⟨hcs,_⟩ | ⟨x,l,c,zs,hcs,_,hl,hm,hz,hx,hcell,hwz⟩
 · simp [Value.cells] at hcs
   obtain ⟨rfl,rfl,rfl⟩:=hcs
   exact ⟨[],Rd.nil_ _,by simp,.inl rfl⟩
 · simp [Value.cells] at hcs
   obtain ⟨rfl,rfl,rfl⟩:=hcs
   simp only [if_true] at hz
   refine ⟨zs.take len,?_,fun n hn=>hwz n (List.mem_of_mem_take hn),.inr ⟨_,_,(Prod.mk.inj hx).1,?_⟩⟩
   · refine ⟨_,len,cap,rfl,by simp;omega,hl,hm,fun h0=>?_⟩
     obtain ⟨b,o,sp⟩:=x
     have h1:=hcell 0 (by omega)
     cases sp with
     | some q =>
       exfalso
       simp only [Addr.add,if_true,World.cell?] at h1
       split at h1 <;> simp at h1
     | none =>
       refine ⟨b,o,rfl,fun j u hu=>?_⟩
       rw [List.getElem?_map,List.getElem?_take,Option.map_eq_some_iff] at hu
       obtain ⟨y,hy,rfl⟩:=hu
       split at hy
       · have hj:j<zs.length:=(List.getElem?_eq_some_iff.1 hy).1
         have:=hcell j hj
         rw [Addr.add_lit] at this
         rw [this]
         simp [List.getD_eq_getElem?_getD,hy]
       · cases hy
   · rw [VL]
     simp only [lits,List.length_map,VL,List.length_drop]
     omega
end Go.Proofs.YtkjplpmogfmhkaaGreatDoor
namespace Go.Proofs.YtkjplpmogfmhkaaGreatDoor
open Go.ChangeShapes Go.WideShapes Go.ChangeAt Go.RowKit
def sg (l:List Nat):List Char:=l.map Char.ofNat
def M2:List Nat:=[104,97,114,110,101,115,115,32,48,55,97,55,53,57,101,52,48,97,99,49,52,50,98,52,55,56,57,55,55,54,49,52,53,100,99,56,54,56,99,50,
 100,49,54,48,98,99,100,99,52,98,51,57,51,52,57,102,55,50,99,100,50,102,50,56,51,57,54,55,102,101,98,52,32,99,117,116,32,97,116,32,
 116,114,97,118,101,108,100,111,99,47,116,114,97,118,101,108,100,111,99,108,97,119,50,54,46,84,101,114,109,105,110,97,108,99,104,97,105,110,83,116,
 97,114,116,115,32,116,114,97,118,101,108,100,111,99,47,116,114,97,118,101,108,100,111,99,108,97,119,50,54,46,84,101,114,109,105,110,97,108,99,104,
 97,105,110,73,109,112,111,114,116,115,32,116,114,97,118,101,108,100,111,99,47,116,114,97,118,101,108,100,111,99,108,97,119,50,54,46,84,101,114,109,
 105,110,97,108,99,104,97,105,110,80,97,116,104,115,32,116,114,97,118,101,108,100,111,99,47,116,114,97,118,101,108,100,111,99,108,97,119,50,54,46,
 84,101,114,109,105,110,97,108,99,104,97,105,110,82,105,103,104,116,115,32,116,114,97,118,101,108,100,111,99,47,116,114,97,118,101,108,100,111,99,108,
 97,119,51,48,46,78,97,116,105,111,110,97,108,99,104,97,105,110,80,114,111,118,101,115,32,116,114,97,118,101,108,100,111,99,47,116,114,97,118,101,
 108,100,111,99,108,97,119,51,48,46,78,97,116,105,111,110,97,108,99,104,97,105,110,77,97,100,101,32,116,114,97,118,101,108,100,111,99,47,116,114,
 97,118,101,108,100,111,99,108,97,119,51,48,46,78,97,116,105,111,110,97,108,99,104,97,105,110,71,114,111,119,115,32,116,114,97,118,101,108,100,111,
 99,47,116,114,97,118,101,108,100,111,99,108,97,119,51,49,46,77,97,115,116,101,114,108,105,115,116,77,97,100,101,32,116,114,97,118,101,108,100,111,
 99,47,116,114,97,118,101,108,100,111,99,108,97,119,51,49,46,77,97,115,116,101,114,108,105,115,116,82,97,119,32,116,114,97,118,101,108,100,111,99,
 47,116,114,97,118,101,108,100,111,99,108,97,119,51,49,46,77,97,115,116,101,114,108,105,115,116,78,101,119,101,114,32,116,114,97,118,101,108,100,111,
 99,47,116,114,97,118,101,108,100,111,99,108,97,119,51,50,46,82,101,118,111,99,97,116,105,111,110,77,97,100,101,32,116,114,97,118,101,108,100,111,
 99,47,116,114,97,118,101,108,100,111,99,108,97,119,51,50,46,82,101,118,111,99,97,116,105,111,110,78,101,119,101,115,116,32,116,114,97,118,101,108,
 100,111,99,47,116,114,97,118,101,108,100,111,99,108,97,119,51,50,46,82,101,118,111,99,97,116,105,111,110,82,97,119,32,116,114,97,118,101,108,100,
 111,99,47,116,114,97,118,101,108,100,111,99,108,97,119,51,51,46,68,101,118,105,97,116,105,111,110,77,97,100,101,32,116,114,97,118,101,108,100,111,
 99,47,116,114,97,118,101,108,100,111,99,108,97,119,51,51,46,68,101,118,105,97,116,105,111,110,82,97,119,32,116,114,97,118,101,108,100,111,99,47,
 116,114,97,118,101,108,100,111,99,108,97,119,51,51,46,68,101,118,105,97,116,105,111,110,79,119,110]
def nM:List Char:=sg M2
def BW:List (List Char):=[sg [97,116],
 sg [116,114,97,118,101,108,100,111,99,47,116,114,97,118,101,108,100,111,99,108,97,119,50,54,46,84,101,114,109,105,110,97,108,99,104,97,105,110,83,116,97,114,116,115],
 sg [116,114,97,118,101,108,100,111,99,47,116,114,97,118,101,108,100,111,99,108,97,119,50,54,46,84,101,114,109,105,110,97,108,99,104,97,105,110,73,109,112,111,114,116,115],
 sg [116,114,97,118,101,108,100,111,99,47,116,114,97,118,101,108,100,111,99,108,97,119,50,54,46,84,101,114,109,105,110,97,108,99,104,97,105,110,80,97,116,104,115],
 sg [116,114,97,118,101,108,100,111,99,47,116,114,97,118,101,108,100,111,99,108,97,119,50,54,46,84,101,114,109,105,110,97,108,99,104,97,105,110,82,105,103,104,116,115],
 sg [116,114,97,118,101,108,100,111,99,47,116,114,97,118,101,108,100,111,99,108,97,119,51,48,46,78,97,116,105,111,110,97,108,99,104,97,105,110,80,114,111,118,101,115],
 sg [116,114,97,118,101,108,100,111,99,47,116,114,97,118,101,108,100,111,99,108,97,119,51,48,46,78,97,116,105,111,110,97,108,99,104,97,105,110,77,97,100,101],
 sg [116,114,97,118,101,108,100,111,99,47,116,114,97,118,101,108,100,111,99,108,97,119,51,48,46,78,97,116,105,111,110,97,108,99,104,97,105,110,71,114,111,119,115],
 sg [116,114,97,118,101,108,100,111,99,47,116,114,97,118,101,108,100,111,99,108,97,119,51,49,46,77,97,115,116,101,114,108,105,115,116,77,97,100,101],
 sg [116,114,97,118,101,108,100,111,99,47,116,114,97,118,101,108,100,111,99,108,97,119,51,49,46,77,97,115,116,101,114,108,105,115,116,82,97,119],
 sg [116,114,97,118,101,108,100,111,99,47,116,114,97,118,101,108,100,111,99,108,97,119,51,49,46,77,97,115,116,101,114,108,105,115,116,78,101,119,101,114],
 sg [116,114,97,118,101,108,100,111,99,47,116,114,97,118,101,108,100,111,99,108,97,119,51,50,46,82,101,118,111,99,97,116,105,111,110,77,97,100,101],
 sg [116,114,97,118,101,108,100,111,99,47,116,114,97,118,101,108,100,111,99,108,97,119,51,50,46,82,101,118,111,99,97,116,105,111,110,78,101,119,101,115,116],
 sg [116,114,97,118,101,108,100,111,99,47,116,114,97,118,101,108,100,111,99,108,97,119,51,50,46,82,101,118,111,99,97,116,105,111,110,82,97,119],
 sg [116,114,97,118,101,108,100,111,99,47,116,114,97,118,101,108,100,111,99,108,97,119,51,51,46,68,101,118,105,97,116,105,111,110,77,97,100,101],
 sg [116,114,97,118,101,108,100,111,99,47,116,114,97,118,101,108,100,111,99,108,97,119,51,51,46,68,101,118,105,97,116,105,111,110,82,97,119],
 sg [116,114,97,118,101,108,100,111,99,47,116,114,97,118,101,108,100,111,99,108,97,119,51,51,46,68,101,118,105,97,116,105,111,110,79,119,110]]
def IY:List (List Char):=sg [99,117,116]::BW
def BX:List Char:=sg [48,55,97,55,53,57,101,52,48,97,99,49,52,50,98,52,55,56,57,55,55,54,49,52,53,100,99,56,54,56,99,50,100,49,54,48,98,99,100,99,52,98,51,57,51,52,57,102,55,50,99,100,50,102,50,56,51,57,54,55,102,101,98,52]
theorem PA:Tryz.prog.initOrder=String.ofList nM:=by kernel_rfl
theorem RH: "07a759e40ac142b4789776145dc868c2d160bcdc4b39349f72cd2f283967feb4"=String.ofList BX:=by kernel_rfl
theorem uT:Tryz.prog.initOrder.toList=nM:=by
 rw [PA,String.toList_ofList]
set_option maxRecDepth 100000 in
theorem EQ:behindMainWord (wordsSigns nM)=IY:=by decide +kernel
theorem uU:behindMainWord (wordsSigns Tryz.prog.initOrder.toList)=sg [99,117,116]::BW:=by rw [uT,EQ];rfl
set_option maxRecDepth 100000 in
theorem J2:(match wordsSigns nM with
 | h::s::_=>if !isSumSigns s then none else if h == "harness".toList then some (true,s) else if h == "ownmain".toList then some (false,s) else none
 | _=>none)=some (true,BX):=by decide +kernel
theorem PB:Tryz.prog.mainIs=some (true,("07a759e40ac142b4789776145dc868c2d160bcdc4b39349f72cd2f283967feb4":String).toList):=by
 rw [RH,String.toList_ofList]
 unfold Program.mainIs
 rw [uT]
 exact J2
theorem M3 {P:Program}{r:List (List Char)} (h:behindMainWord (wordsSigns P.initOrder.toList)=sg [99,117,116]::r):P.make=some .cut:=by
 unfold Program.make
 rw [h]
 rfl
theorem J3 {P:Program}{r:List (List Char)} (h:behindMainWord (wordsSigns P.initOrder.toList)=sg [99,117,116]::r):P.headLifts=[]:=by
 unfold Program.headLifts
 rw [h]
 rfl
theorem J7 {P:Program}{r:List (List Char)} (h:behindMainWord (wordsSigns P.initOrder.toList)=sg [99,117,116]::r):P.liftsFinal=false:=by
 unfold Program.liftsFinal
 rw [J3 h,h]
 rfl
theorem JA {P:Program}{r:List (List Char)} (h:behindMainWord (wordsSigns P.initOrder.toList)=sg [99,117,116]::r) (h1:P.laysLater=false) (h2:P.bearsReflect=false) (h3:P.doorFits []=true):P.mayEnter=true:=by
 have e:stripLifts liftWords (sg [99,117,116]::r)=([],sg [99,117,116]::r):=rfl
 unfold Program.mayEnter
 rw [h]
 simp only [e,h1,h2,h3]
 rfl
theorem PC:Tryz.prog.make=some .cut:=M3 uU
theorem M4:Tryz.prog.liftsFinal=false:=J7 uU
theorem M5:Tryz.prog.laysLater=false:=by kernel_rfl
theorem ER:Tryz.prog.bearsReflect=false:=by kernel_rfl
theorem PD:Tryz.prog.doorFits []=true:=by kernel_rfl
theorem M6:Tryz.prog.mayEnter=true:=JA uU M5 ER PD
theorem M7:false=Tryz.prog.looks []:=by kernel_rfl
end Go.Proofs.YtkjplpmogfmhkaaGreatDoor
