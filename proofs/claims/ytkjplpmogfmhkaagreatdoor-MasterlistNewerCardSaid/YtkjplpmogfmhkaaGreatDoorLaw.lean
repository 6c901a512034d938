/- Parts Jd Ra Rd Rh Jf Jg Jh Rc Ky Ae of the proof. -/
import Derived.Test.YtkjplpmogfmhkaaGreatDoorLav
import Derived.Test.YtkjplpmogfmhkaaGreatDoorLat
import Derived.Test.YtkjplpmogfmhkaaGreatDoorLar
import Derived.Deep.CutRange
import Derived.Test.YtkjplpmogfmhkaaGreatDoorLas
import Derived.Deep.CutBlock
namespace Go.Proofs.YtkjplpmogfmhkaaGreatDoor
open Go.RowKit
set_option linter.unusedVariables false
set_option maxRecDepth 100000
theorem MR:kE Tryz.prog 41 3 1 8:=by
 have h:(Tryz.prog.info? 3).map (fun i=>(i.zero,i.size,i.bytes))=some (some (.int .i64 0),1,8):=by kernel_rfl
 obtain ⟨i,h1,h2,h3,h4⟩:=info_parts h
 exact ⟨i,_,Tryz.underlying41,h1,h2,h3,h4,rfl⟩
def wY (L:List NC) (c:NC):List NC:=if c ∈ L then L else L++[c]
def wZ (L:List NC) (R:List Int) (c:NC) (rd:Int):List Int:=if c ∈ L then R else R++[rd]
theorem TU {L:List NC}{R:List Int} (h:R.length=L.length) (c:NC) (rd:Int):(wZ L R c rd).length=(wY L c).length:=by
 unfold wZ wY
 split
 · exact h
 · simp [h]
def UR (w:World) (B S:Nat) (day:Int) (L:List NC) (R:List Int) (c:NC) (rd:Int) (e:Ending) (w':World):Prop :=
 Below B w w'∧e=.returned (.bool (decide (c ∉ L)))∧∃ v1 v2,gV w' B S day v1 v2 (wY L c) (wZ L R c rd)
theorem PV (L:List NC) (c:NC):aA L++aF c=aA (L++[c]):=eE L c
theorem MT (R:List Int) (x:Int):bC R++[.int .i64 x]=bC (R++[x]):=by simp [bC]
set_option maxHeartbeats 4000000 in
theorem PW {B S:Nat}{day:Int}{v1 v2:Value}{L:List NC}{R:List Int} (c:NC) (rd:Int) (w:World) (hS:gV w B S day v1 v2 L R) (hB:B≤w.heap.size) (hBS:B≤S) (hl:L.length≤1000000) :
 Calls Tryz.prog 196 #[.pointer (some ⟨S,0,none⟩),ncV c,.int .i64 rd] w (UR w B S day L R c rd):=by
 obtain ⟨A1,c1,A2,c2,rfl,rfl,hc1,hc2,hm1,hm2⟩:=hS.forms
 have hv:RdN w (.slice A1 L.length c1) L:=hS.own1.rd
 obtain ⟨A',n',c',e9,hn,hnc,hcm,hel⟩:=hv.at_
 injection e9 with e1 e2 e3
 subst e1 e2 e3
 clear hn
 have HEL:=VR hel
 unfold maxLen at hcm hm1 hm2
 clear hel hv hnc hcm
 obtain ⟨wz,hwz,ez,TZ⟩:=cC w c
 have HEQ:=VR (fun W y=>rJ W y c)
 have HS:=VR hS
 have HZ:=VR TZ
 have HB:=VR (show B≤w.heap.size∧B≤S from ⟨hB,hBS⟩)
 obtain ⟨s0,s1,s2⟩:=(hS.ext ez).cells
 have sl:=(hS.ext ez).lt
 unfold ncV
 clear TZ hS hB hBS
 go_enter Tryz.func196,Tryz.ntmps196
 go_upto_region 1 with fail
 rw [← hwz]
 clear hwz
 go_wp2_with fail
 clear s0 s1 s2 sl
 go_loopw [14] (fun i wr=>∃ k:Nat,k≤L.length∧i=.int .i64 (k:Int)∧Hid (∀ j,j<k→L[j]?≠some c)∧Ext wz wr) (fun i _=>L.length - (intOf i).toNat)
 case atStart=>exact ⟨0,V7 _,rfl,fun j hj=>absurd hj (Nat.not_lt_zero _),Below.refl _ _⟩
 case round =>
  obtain ⟨k,hk,rfl,HN,X⟩:=hrel
  by_cases hlt:k<L.length
  case neg =>
   obtain rfl:k=L.length:=by omega
   have HR:=VR (F7 HN.out)
   have S7:=HS.out.ext (ez.tr X)
   have Z7:=HZ.out.ext X
   have XB:=VR ((ez.tr X).mono HB.out.1)
   have hBr:B≤wr.heap.size:=V9 HB.out.1 (ez.tr X).size
   have k1:=lD HS.out.own1
   have k2:=lD HS.out.own2
   clear X hk hlt
   go_upto_region 7 with fail
   refine wp_region_any (by kernel_rfl) ?_
   have xd:Ext wr wr.drew:=(Below.refl _ _).drew
   change wpAny _ _ _ _ (21+1) _ _ wr.drew
   have S7:=S7.ext xd
   have Z7:=Z7.ext xd
   have XB:=VR (XB.out.trans (xd.mono hBr))
   have hBr:B≤wr.drew.heap.size:=hBr
   clear xd
   generalize wr.drew=wr at *
   refine CF (i:=1) 23 (v:=.pointer (some ⟨S,0,none⟩)) rfl rfl (by kernel_rfl) (by kernel_rfl) (by kernel_rfl) (fun _ _ _ h=>h) (Or.inl ⟨by rfl,fun w=>by go_simp⟩) ?_
   refine TQ (ops2:=([{ dst:=some 22,op:=Op.move (Operand.tmp 0),type:=151,pos:= "",after:=#[],guard:=none }, { dst:=some 24,op:=Op.move (Operand.tmp 0),type:=151,pos:= "",after:=#[],guard:=none }, { dst:=some 25,op:=Op.nilCheck (Operand.tmp 24),type:=0,pos:= "",after:=#[{ on:=1,ground:=Ground.data }],guard:=none }, { dst:=some 26,op:=Op.fieldAddr 155 (Operand.tmp 25) 1,type:=0,pos:= "",after:=#[{ on:=2,ground:=Ground.data }],guard:=none }, { dst:=some 27,op:=Op.load 51 (Operand.tmp 26),type:=51,pos:= "",after:=#[{ on:=3,ground:=Ground.data }],guard:=none }, { dst:=some 28,op:=Op.load 56 (Operand.tmp 4),type:=56,pos:= "",after:=#[],guard:=none }, { dst:=some 29,op:=Op.buildSlice 51 1 #[(0,Operand.tmp 28)],type:=51,pos:= "",after:=#[{ on:=5,ground:=Ground.data }],guard:=none }, { dst:=some 30,op:=Op.call { callee:=Callee.builtin Builtin.append,args:=#[Operand.tmp 27,Operand.tmp 29],argTypes:=#[51,51] },type:=51,pos:= "",after:=#[{ on:=4,ground:=Ground.data },{ on:=6,ground:=Ground.data }],guard:=none }, { dst:=some 31,op:=Op.move (Operand.tmp 0),type:=151,pos:= "",after:=#[],guard:=none }, { dst:=some 32,op:=Op.nilCheck (Operand.tmp 31),type:=0,pos:= "",after:=#[{ on:=8,ground:=Ground.data }],guard:=none }, { dst:=some 33,op:=Op.fieldAddr 155 (Operand.tmp 32) 2,type:=0,pos:= "",after:=#[{ on:=9,ground:=Ground.data }],guard:=none }, { dst:=some 34,op:=Op.load 41 (Operand.tmp 33),type:=41,pos:= "",after:=#[{ on:=10,ground:=Ground.data }],guard:=none }, { dst:=some 35,op:=Op.move (Operand.tmp 2),type:=3,pos:= "",after:=#[],guard:=none }, { dst:=some 36,op:=Op.buildSlice 41 1 #[(0,Operand.tmp 35)],type:=41,pos:= "",after:=#[{ on:=12,ground:=Ground.data }],guard:=none }, { dst:=some 37,op:=Op.call { callee:=Callee.builtin Builtin.append,args:=#[Operand.tmp 34,Operand.tmp 36],argTypes:=#[41,41] },type:=41,pos:= "",after:=#[{ on:=11,ground:=Ground.data },{ on:=13,ground:=Ground.data },{ on:=7,ground:=Ground.data }],guard:=none }, { dst:=some 38,op:=Op.nilCheck (Operand.tmp 22),type:=0,pos:= "",after:=#[{ on:=0,ground:=Ground.data },{ on:=1,ground:=Ground.data },{ on:=2,ground:=Ground.data },{ on:=3,ground:=Ground.data },{ on:=4,ground:=Ground.data },{ on:=5,ground:=Ground.data },{ on:=6,ground:=Ground.data },{ on:=7,ground:=Ground.data },{ on:=11,ground:=Ground.data },{ on:=14,ground:=Ground.data }],guard:=none }, { dst:=some 39,op:=Op.fieldAddr 155 (Operand.tmp 38) 1,type:=0,pos:= "",after:=#[{ on:=15,ground:=Ground.data },{ on:=0,ground:=Ground.data },{ on:=1,ground:=Ground.data },{ on:=2,ground:=Ground.data },{ on:=3,ground:=Ground.data },{ on:=4,ground:=Ground.data },{ on:=5,ground:=Ground.data },{ on:=6,ground:=Ground.data },{ on:=7,ground:=Ground.data },{ on:=11,ground:=Ground.data },{ on:=14,ground:=Ground.data }],guard:=none }, { dst:=none,op:=Op.store 51 (Operand.tmp 39) (Operand.tmp 30),type:=0,pos:= "",after:=#[{ on:=16,ground:=Ground.data },{ on:=7,ground:=Ground.data },{ on:=14,ground:=Ground.data },{ on:=0,ground:=Ground.data },{ on:=1,ground:=Ground.data },{ on:=2,ground:=Ground.data },{ on:=3,ground:=Ground.data },{ on:=4,ground:=Ground.data },{ on:=5,ground:=Ground.data },{ on:=6,ground:=Ground.data },{ on:=11,ground:=Ground.data }],guard:=none }, { dst:=some 40,op:=Op.nilCheck (Operand.tmp 23),type:=0,pos:= "",after:=#[{ on:=0,ground:=Ground.data },{ on:=1,ground:=Ground.data },{ on:=2,ground:=Ground.data },{ on:=3,ground:=Ground.data },{ on:=4,ground:=Ground.data },{ on:=5,ground:=Ground.data },{ on:=6,ground:=Ground.data },{ on:=7,ground:=Ground.data },{ on:=8,ground:=Ground.data },{ on:=9,ground:=Ground.data },{ on:=10,ground:=Ground.data },{ on:=11,ground:=Ground.data },{ on:=12,ground:=Ground.data },{ on:=13,ground:=Ground.data },{ on:=14,ground:=Ground.data },{ on:=15,ground:=Ground.data },{ on:=16,ground:=Ground.data },{ on:=17,ground:=Ground.data }],guard:=none }, { dst:=some 41,op:=Op.fieldAddr 155 (Operand.tmp 40) 2,type:=0,pos:= "",after:=#[{ on:=18,ground:=Ground.data },{ on:=0,ground:=Ground.data },{ on:=1,ground:=Ground.data },{ on:=2,ground:=Ground.data },{ on:=3,ground:=Ground.data },{ on:=4,ground:=Ground.data },{ on:=5,ground:=Ground.data },{ on:=6,ground:=Ground.data },{ on:=7,ground:=Ground.data },{ on:=8,ground:=Ground.data },{ on:=9,ground:=Ground.data },{ on:=10,ground:=Ground.data },{ on:=11,ground:=Ground.data },{ on:=12,ground:=Ground.data },{ on:=13,ground:=Ground.data },{ on:=14,ground:=Ground.data },{ on:=15,ground:=Ground.data },{ on:=16,ground:=Ground.data },{ on:=17,ground:=Ground.data }],guard:=none }, { dst:=none,op:=Op.store 41 (Operand.tmp 41) (Operand.tmp 37),type:=0,pos:= "",after:=#[{ on:=19,ground:=Ground.data },{ on:=14,ground:=Ground.data },{ on:=17,ground:=Ground.data },{ on:=0,ground:=Ground.data },{ on:=1,ground:=Ground.data },{ on:=2,ground:=Ground.data },{ on:=3,ground:=Ground.data },{ on:=4,ground:=Ground.data },{ on:=5,ground:=Ground.data },{ on:=6,ground:=Ground.data },{ on:=7,ground:=Ground.data },{ on:=8,ground:=Ground.data },{ on:=9,ground:=Ground.data },{ on:=10,ground:=Ground.data },{ on:=11,ground:=Ground.data },{ on:=12,ground:=Ground.data },{ on:=13,ground:=Ground.data },{ on:=15,ground:=Ground.data },{ on:=16,ground:=Ground.data }],guard:=none }]:List Oper).toArray) (l1:=(Array.replicate 22 false).setIfInBounds 1 true) (s:=[0,2,3,4,5,6,7,8,9,10,11,12,13,14,15,16,17,18,19,20,21]) (PN (by kernel_rfl)) (PO (by kernel_rfl)) 21 _ (Array.replicate 21 false) _ _ rfl rfl (fun _ _ h=>h) (of_decide_eq_true (by kernel_rfl)) ?_
   simp only [Act.put,UY,UZ,V0]
   refine Gr.PP (r:=seR B (.slice A1 L.length c1) (.slice A2 L.length c2) L.length (aA L) (aA L++aF c) (bC R) (bC R++[Value.int .i64 rd])) (l:=[{ dst:=some 22,op:=Op.move (Operand.tmp 0),type:=151,pos:= "",after:=#[],guard:=none }, { dst:=some 24,op:=Op.move (Operand.tmp 0),type:=151,pos:= "",after:=#[],guard:=none }, { dst:=some 25,op:=Op.nilCheck (Operand.tmp 24),type:=0,pos:= "",after:=#[{ on:=1,ground:=Ground.data }],guard:=none }, { dst:=some 26,op:=Op.fieldAddr 155 (Operand.tmp 25) 1,type:=0,pos:= "",after:=#[{ on:=2,ground:=Ground.data }],guard:=none }, { dst:=some 27,op:=Op.load 51 (Operand.tmp 26),type:=51,pos:= "",after:=#[{ on:=3,ground:=Ground.data }],guard:=none }, { dst:=some 28,op:=Op.load 56 (Operand.tmp 4),type:=56,pos:= "",after:=#[],guard:=none }, { dst:=some 29,op:=Op.buildSlice 51 1 #[(0,Operand.tmp 28)],type:=51,pos:= "",after:=#[{ on:=5,ground:=Ground.data }],guard:=none }, { dst:=some 30,op:=Op.call { callee:=Callee.builtin Builtin.append,args:=#[Operand.tmp 27,Operand.tmp 29],argTypes:=#[51,51] },type:=51,pos:= "",after:=#[{ on:=4,ground:=Ground.data },{ on:=6,ground:=Ground.data }],guard:=none }, { dst:=some 31,op:=Op.move (Operand.tmp 0),type:=151,pos:= "",after:=#[],guard:=none }, { dst:=some 32,op:=Op.nilCheck (Operand.tmp 31),type:=0,pos:= "",after:=#[{ on:=8,ground:=Ground.data }],guard:=none }, { dst:=some 33,op:=Op.fieldAddr 155 (Operand.tmp 32) 2,type:=0,pos:= "",after:=#[{ on:=9,ground:=Ground.data }],guard:=none }, { dst:=some 34,op:=Op.load 41 (Operand.tmp 33),type:=41,pos:= "",after:=#[{ on:=10,ground:=Ground.data }],guard:=none }, { dst:=some 35,op:=Op.move (Operand.tmp 2),type:=3,pos:= "",after:=#[],guard:=none }, { dst:=some 36,op:=Op.buildSlice 41 1 #[(0,Operand.tmp 35)],type:=41,pos:= "",after:=#[{ on:=12,ground:=Ground.data }],guard:=none }, { dst:=some 37,op:=Op.call { callee:=Callee.builtin Builtin.append,args:=#[Operand.tmp 34,Operand.tmp 36],argTypes:=#[41,41] },type:=41,pos:= "",after:=#[{ on:=11,ground:=Ground.data },{ on:=13,ground:=Ground.data },{ on:=7,ground:=Ground.data }],guard:=none }, { dst:=some 38,op:=Op.nilCheck (Operand.tmp 22),type:=0,pos:= "",after:=#[{ on:=0,ground:=Ground.data },{ on:=1,ground:=Ground.data },{ on:=2,ground:=Ground.data },{ on:=3,ground:=Ground.data },{ on:=4,ground:=Ground.data },{ on:=5,ground:=Ground.data },{ on:=6,ground:=Ground.data },{ on:=7,ground:=Ground.data },{ on:=11,ground:=Ground.data },{ on:=14,ground:=Ground.data }],guard:=none }, { dst:=some 39,op:=Op.fieldAddr 155 (Operand.tmp 38) 1,type:=0,pos:= "",after:=#[{ on:=15,ground:=Ground.data },{ on:=0,ground:=Ground.data },{ on:=1,ground:=Ground.data },{ on:=2,ground:=Ground.data },{ on:=3,ground:=Ground.data },{ on:=4,ground:=Ground.data },{ on:=5,ground:=Ground.data },{ on:=6,ground:=Ground.data },{ on:=7,ground:=Ground.data },{ on:=11,ground:=Ground.data },{ on:=14,ground:=Ground.data }],guard:=none }, { dst:=none,op:=Op.store 51 (Operand.tmp 39) (Operand.tmp 30),type:=0,pos:= "",after:=#[{ on:=16,ground:=Ground.data },{ on:=7,ground:=Ground.data },{ on:=14,ground:=Ground.data },{ on:=0,ground:=Ground.data },{ on:=1,ground:=Ground.data },{ on:=2,ground:=Ground.data },{ on:=3,ground:=Ground.data },{ on:=4,ground:=Ground.data },{ on:=5,ground:=Ground.data },{ on:=6,ground:=Ground.data },{ on:=11,ground:=Ground.data }],guard:=none }, { dst:=some 40,op:=Op.nilCheck (Operand.tmp 23),type:=0,pos:= "",after:=#[{ on:=0,ground:=Ground.data },{ on:=1,ground:=Ground.data },{ on:=2,ground:=Ground.data },{ on:=3,ground:=Ground.data },{ on:=4,ground:=Ground.data },{ on:=5,ground:=Ground.data },{ on:=6,ground:=Ground.data },{ on:=7,ground:=Ground.data },{ on:=8,ground:=Ground.data },{ on:=9,ground:=Ground.data },{ on:=10,ground:=Ground.data },{ on:=11,ground:=Ground.data },{ on:=12,ground:=Ground.data },{ on:=13,ground:=Ground.data },{ on:=14,ground:=Ground.data },{ on:=15,ground:=Ground.data },{ on:=16,ground:=Ground.data },{ on:=17,ground:=Ground.data }],guard:=none }, { dst:=some 41,op:=Op.fieldAddr 155 (Operand.tmp 40) 2,type:=0,pos:= "",after:=#[{ on:=18,ground:=Ground.data },{ on:=0,ground:=Ground.data },{ on:=1,ground:=Ground.data },{ on:=2,ground:=Ground.data },{ on:=3,ground:=Ground.data },{ on:=4,ground:=Ground.data },{ on:=5,ground:=Ground.data },{ on:=6,ground:=Ground.data },{ on:=7,ground:=Ground.data },{ on:=8,ground:=Ground.data },{ on:=9,ground:=Ground.data },{ on:=10,ground:=Ground.data },{ on:=11,ground:=Ground.data },{ on:=12,ground:=Ground.data },{ on:=13,ground:=Ground.data },{ on:=14,ground:=Ground.data },{ on:=15,ground:=Ground.data },{ on:=16,ground:=Ground.data },{ on:=17,ground:=Ground.data }],guard:=none }, { dst:=none,op:=Op.store 41 (Operand.tmp 41) (Operand.tmp 37),type:=0,pos:= "",after:=#[{ on:=19,ground:=Ground.data },{ on:=14,ground:=Ground.data },{ on:=17,ground:=Ground.data },{ on:=0,ground:=Ground.data },{ on:=1,ground:=Ground.data },{ on:=2,ground:=Ground.data },{ on:=3,ground:=Ground.data },{ on:=4,ground:=Ground.data },{ on:=5,ground:=Ground.data },{ on:=6,ground:=Ground.data },{ on:=7,ground:=Ground.data },{ on:=8,ground:=Ground.data },{ on:=9,ground:=Ground.data },{ on:=10,ground:=Ground.data },{ on:=11,ground:=Ground.data },{ on:=12,ground:=Ground.data },{ on:=13,ground:=Ground.data },{ on:=15,ground:=Ground.data },{ on:=16,ground:=Ground.data }],guard:=none }]) 15 (by kernel_rfl) ?_
   simp only [VH,VE,VI,VJ]
   have LL:∀ m:(seR B (.slice A1 L.length c1) (.slice A2 L.length c2) L.length (aA L) (aA L++aF c) (bC R) (bC R++[Value.int .i64 rd])).Lt wr,k8 B (.slice A1 L.length c1) (.slice A2 L.length c2) L.length (aA L) (aA L++aF c) (bC R) (bC R++[Value.int .i64 rd]) wr m.1:=fun m=>m.2
   have TB:∀ m:(seR B (.slice A1 L.length c1) (.slice A2 L.length c2) L.length (aA L) (aA L++aF c) (bC R) (bC R++[Value.int .i64 rd])).Lt wr,bE m.1 w.heap.size c:=fun m=>((LL m).keep _ Z7.lt (fun q=>by have:=k1 _ q;omega) (fun q=>by have:=k2 _ q;omega)).trans Z7
   have TS:=fun m:(seR B (.slice A1 L.length c1) (.slice A2 L.length c2) L.length (aA L) (aA L++aF c) (bC R) (bC R++[Value.int .i64 rd])).Lt wr=>(LL m).blk S7.own1 S7.own2 S7.row QV QW
   have O1:=fun m:(seR B (.slice A1 L.length c1) (.slice A2 L.length c2) L.length (aA L) (aA L++aF c) (bC R) (bC R++[Value.int .i64 rd])).Lt wr=>(LL m).p1 S7.own1
   have O2:=fun m:(seR B (.slice A1 L.length c1) (.slice A2 L.length c2) L.length (aA L) (aA L++aF c) (bC R) (bC R++[Value.int .i64 rd])).Lt wr=>(LL m).p2 S7.own2
   have MS:∀ m:(seR B (.slice A1 L.length c1) (.slice A2 L.length c2) L.length (aA L) (aA L++aF c) (bC R) (bC R++[Value.int .i64 rd])).Lt wr,w.heap.size≤m.1.heap.size:=fun m=>V9 (Nat.le_of_lt Z7.lt) (LL m).size
   have MB:∀ m:(seR B (.slice A1 L.length c1) (.slice A2 L.length c2) L.length (aA L) (aA L++aF c) (bC R) (bC R++[Value.int .i64 rd])).Lt wr,B≤m.1.heap.size:=fun m=>V9 hBr (LL m).size
   have s1:=fun m:(seR B (.slice A1 L.length c1) (.slice A2 L.length c2) L.length (aA L) (aA L++aF c) (bC R) (bC R++[Value.int .i64 rd])).Lt wr=>(cell_of_row m.1 S 1 _ _ _ (TS m):m.1.cell? ⟨S,1,none⟩=some (.slice A1 L.length c1))
   have s2:=fun m:(seR B (.slice A1 L.length c1) (.slice A2 L.length c2) L.length (aA L) (aA L++aF c) (bC R) (bC R++[Value.int .i64 rd])).Lt wr=>(cell_of_row m.1 S 2 _ _ _ (TS m):m.1.cell? ⟨S,2,none⟩=some (.slice A2 L.length c2))
   have p0:=fun m:(seR B (.slice A1 L.length c1) (.slice A2 L.length c2) L.length (aA L) (aA L++aF c) (bC R) (bC R++[Value.int .i64 rd])).Lt wr=>(TB m).cells.1
   have p1:=fun m:(seR B (.slice A1 L.length c1) (.slice A2 L.length c2) L.length (aA L) (aA L++aF c) (bC R) (bC R++[Value.int .i64 rd])).Lt wr=>(TB m).cells.2.1
   have p2:=fun m:(seR B (.slice A1 L.length c1) (.slice A2 L.length c2) L.length (aA L) (aA L++aF c) (bC R) (bC R++[Value.int .i64 rd])).Lt wr=>(TB m).cells.2.2.1
   have p3:=fun m:(seR B (.slice A1 L.length c1) (.slice A2 L.length c2) L.length (aA L) (aA L++aF c) (bC R) (bC R++[Value.int .i64 rd])).Lt wr=>(TB m).cells.2.2.2.1
   have p4:=fun m:(seR B (.slice A1 L.length c1) (.slice A2 L.length c2) L.length (aA L) (aA L++aF c) (bC R) (bC R++[Value.int .i64 rd])).Lt wr=>(TB m).cells.2.2.2.2.1
   have p5:=fun m:(seR B (.slice A1 L.length c1) (.slice A2 L.length c2) L.length (aA L) (aA L++aF c) (bC R) (bC R++[Value.int .i64 rd])).Lt wr=>(TB m).cells.2.2.2.2.2.1
   have p6:=fun m:(seR B (.slice A1 L.length c1) (.slice A2 L.length c2) L.length (aA L) (aA L++aF c) (bC R) (bC R++[Value.int .i64 rd])).Lt wr=>(TB m).cells.2.2.2.2.2.2.1
   have p7:=fun m:(seR B (.slice A1 L.length c1) (.slice A2 L.length c2) L.length (aA L) (aA L++aF c) (bC R) (bC R++[Value.int .i64 rd])).Lt wr=>(TB m).cells.2.2.2.2.2.2.2.1
   have p8:=fun m:(seR B (.slice A1 L.length c1) (.slice A2 L.length c2) L.length (aA L) (aA L++aF c) (bC R) (bC R++[Value.int .i64 rd])).Lt wr=>(TB m).cells.2.2.2.2.2.2.2.2.1
   have p9:=fun m:(seR B (.slice A1 L.length c1) (.slice A2 L.length c2) L.length (aA L) (aA L++aF c) (bC R) (bC R++[Value.int .i64 rd])).Lt wr=>(TB m).cells.2.2.2.2.2.2.2.2.2.1
   have p10:=fun m:(seR B (.slice A1 L.length c1) (.slice A2 L.length c2) L.length (aA L) (aA L++aF c) (bC R) (bC R++[Value.int .i64 rd])).Lt wr=>(TB m).cells.2.2.2.2.2.2.2.2.2.2
   repeat (first | (refine Gr.fE (by first | exact trivial | exact ⟨_,rfl,rfl,rfl⟩) _ rfl rfl rfl rfl rfl ?_;simp only [Act.put,UY,UZ,V0]) | (refine Gr.aD (by first | exact trivial | exact ⟨_,rfl,rfl,rfl⟩) rfl rfl rfl rfl rfl (fun K hK=>?_);go_big_quiet_op;refine hK _ ?_;clear hK K))
   refine Gr.bJ (by first | exact trivial | exact ⟨_,rfl,rfl,rfl⟩) (F9 w.heap.size (aF c).toArray 56) (sN k1 k2 _ _) (fun f=>[(0,ncV c)]) rfl rfl rfl rfl rfl (fun _=>rfl) (fun m f hf=>⟨_,_,MP m.1 c,(seR B (.slice A1 L.length c1) (.slice A2 L.length c2) L.length (aA L) (aA L++aF c) (bC R) (bC R++[Value.int .i64 rd])).ext ((Below.refl _ _).alloc (UX _) _),_,rfl,MS m,aC m.1 _⟩) ?_
   simp only [Act.put,UY,UZ,V0]
   refine Gr.uZ (by first | exact trivial | exact ⟨_,rfl,rfl,rfl⟩) (GO1 B L.length (aA L++aF c)) (FA _ _ _ _ _ _ _ _) (fun _=>.slice A1 L.length c1) (fun f=>f 29) rfl rfl rfl rfl rfl rfl (fun _=>rfl) (fun _=>rfl) (fun m f hf=>?_) ?_
   · have h29:RdK m.1 11 (f 29) (aF c):=by simpa using (hf 29 _ rfl rfl:F9 _ _ _ _ _).rd rfl
     obtain ⟨Aq,cq,w',q1,q2,q3,q4,q5⟩:=xT (P:=Tryz.prog) (ty:=_) (by omega) gU (O1 m) (by rw [bF]) h29 (m:=1) rfl (by omega) (dO c) (by omega) (by unfold maxLen;omega) (MB m)
     exact ⟨_,w',q1,k8.app1 (O1 m) (O2 m) q3 q4 q5,Aq,cq,rfl,q2⟩
   simp only [Act.put,UY,UZ,V0]
   repeat (first | (refine Gr.fE (by first | exact trivial | exact ⟨_,rfl,rfl,rfl⟩) _ rfl rfl rfl rfl rfl ?_;simp only [Act.put,UY,UZ,V0]) | (refine Gr.aD (by first | exact trivial | exact ⟨_,rfl,rfl,rfl⟩) rfl rfl rfl rfl rfl (fun K hK=>?_);go_big_quiet_op;refine hK _ ?_;clear hK K))
   refine Gr.bJ (by first | exact trivial | exact ⟨_,rfl,rfl,rfl⟩) (F9 w.heap.size #[Value.int .i64 rd] 3) (sN k1 k2 _ _) (fun f=>[(0,.int .i64 rd)]) rfl rfl rfl rfl rfl (fun _=>rfl) (fun m f hf=>⟨_,_,MQ m.1 rd,(seR B (.slice A1 L.length c1) (.slice A2 L.length c2) L.length (aA L) (aA L++aF c) (bC R) (bC R++[Value.int .i64 rd])).ext ((Below.refl _ _).alloc (UX _) _),_,rfl,MS m,aC m.1 _⟩) ?_
   simp only [Act.put,UY,UZ,V0]
   refine Gr.uZ (by first | exact trivial | exact ⟨_,rfl,rfl,rfl⟩) (GO2 B L.length (bC R++[Value.int .i64 rd])) (FB _ _ _ _ _ _ _ _) (fun _=>.slice A2 L.length c2) (fun f=>f 36) rfl rfl rfl rfl rfl rfl (fun _=>rfl) (fun _=>rfl) (fun m f hf=>?_) ?_
   · have h36:RdK m.1 1 (f 36) [Value.int .i64 rd]:=by simpa using (hf 36 _ rfl rfl:F9 _ _ _ _ _).rd rfl
     obtain ⟨Aq,cq,w',q1,q2,q3,q4,q5⟩:=xT (P:=Tryz.prog) (ty:=_) (by omega) MR (O2 m) (by rw [lK,Nat.mul_one,HS.out.len]) h36 (m:=1) rfl (by omega) (fun u hu=>by rw [List.mem_singleton.1 hu];rfl) (by omega) (by unfold maxLen;omega) (MB m)
     exact ⟨_,w',q1,k8.app2 (O1 m) (O2 m) q3 q4 q5,Aq,cq,rfl,q2⟩
   simp only [Act.put,UY,UZ,V0]
   refine Gr.cO (fun m f hf=>?_)
   obtain ⟨Aa,ca,e30,o30⟩:=(hf 30 _ rfl:GO1 _ _ _ _ _)
   obtain ⟨Ab,cb,e37,o37⟩:=(hf 37 _ rfl:GO2 _ _ _ _ _)
   simp only [aV]
   simp only [Act.put,UY,UZ,V0]
   rw [e30,e37]
   have Lm:=LL m
   have SM:gV m.1 B S day (.slice A1 L.length c1) (.slice A2 L.length c2) L R:=⟨TS m,O1 m,O2 m,HS.out.len⟩
   generalize f 29=f29 at *
   generalize f 36=f36 at *
   obtain ⟨wm,hwm⟩:=m
   have o30:aJ wm B 56 11 (.slice Aa (L.length+1) ca) (aA (L++[c])):=by rw [← PV];exact o30
   have o37:aJ wm B 3 1 (.slice Ab (L.length+1) cb) (bC (R++[rd])):=by rw [← MT];exact o37
   have SM:gV wm B S day (.slice A1 L.length c1) (.slice A2 L.length c2) L R:=SM
   have SF:=VR (SM.put o30 o37 (by rw [V5,V5,HS.out.len];rfl))
   have BF:=VR (((XB.out.trans (Lm.below hBr (aT S7.own1) (aT S7.own2))).setCell (p:=⟨S,1,none⟩) HB.out.2 (.slice Aa (L.length+1) ca)).setCell (p:=⟨S,2,none⟩) HB.out.2 (.slice Ab (L.length+1) cb))
   obtain ⟨t0,t1,t2⟩:=SM.cells
   have tf1:=SM.frozen 1
   have tf2:=SM.frozen 2
   have tl:=SM.lt
   clear LL TB TS O1 O2 MS MB s1 s2 p0 p1 p2 p3 p4 p5 p6 p7 p8 p9 p10 hf e30 e37 SM o30 o37 Lm S7 Z7 k1 k2 hBr XB
   show wpList _ _ _ _ _ _
   go_wp2_with fail
   go_ret
   exact ⟨BF.out,by rw [decide_eq_true HR.out];rfl,_,_,by unfold wY wZ;rw [if_neg HR.out,if_neg HR.out];exact SF.out⟩
  case pos =>
  obtain ⟨y,hy⟩:∃ y,L[k]?=some y:=⟨_,V8 hlt⟩
  obtain ⟨b,o,rfl,hbl,hc⟩:=HEL.out (by omega)
  have hcy:=hc k y hy
  have HY:=VR hy
  have eqq:=fun W=>HEQ.out W y
  unfold ncV at eqq
  clear hy hc
  have wi1:IntKind.i64.wrap ((k:Int))=(k:Int):=IntWalk.i64_in _ (by omega)
  have zi1:(0:Int)≤(k:Int):=by omega
  have li1:(k:Int)<(L.length:Int):=by omega
  have ti1:((k:Int)).toNat=k:=by omega
  have q0:=((ez.tr X).cell (p:=⟨b,o+k*11,none⟩) hbl).trans hcy.1
  have q1:=((ez.tr X).cell (p:=⟨b,o+k*11+1,none⟩) hbl).trans hcy.2.1
  have q2:=((ez.tr X).cell (p:=⟨b,o+k*11+2,none⟩) hbl).trans hcy.2.2.1
  have q3:=((ez.tr X).cell (p:=⟨b,o+k*11+3,none⟩) hbl).trans hcy.2.2.2.1
  have q4:=((ez.tr X).cell (p:=⟨b,o+k*11+4,none⟩) hbl).trans hcy.2.2.2.2.1
  have q5:=((ez.tr X).cell (p:=⟨b,o+k*11+5,none⟩) hbl).trans hcy.2.2.2.2.2.1
  have q6:=((ez.tr X).cell (p:=⟨b,o+k*11+6,none⟩) hbl).trans hcy.2.2.2.2.2.2.1
  have q7:=((ez.tr X).cell (p:=⟨b,o+k*11+7,none⟩) hbl).trans hcy.2.2.2.2.2.2.2.1
  have q8:=((ez.tr X).cell (p:=⟨b,o+k*11+8,none⟩) hbl).trans hcy.2.2.2.2.2.2.2.2.1
  have q9:=((ez.tr X).cell (p:=⟨b,o+k*11+9,none⟩) hbl).trans hcy.2.2.2.2.2.2.2.2.2.1
  have q10:=((ez.tr X).cell (p:=⟨b,o+k*11+10,none⟩) hbl).trans hcy.2.2.2.2.2.2.2.2.2.2
  clear hcy
  obtain ⟨wn,hwn,en,TN⟩:=cC wr y
  go_upto_region 4 with fail
  rw [← hwn]
  clear hwn q0 q1 q2 q3 q4 q5 q6 q7 q8 q9 q10
  have X9:=X.tr en
  have hne:w.heap.size≠wr.heap.size:=by have:=(HZ.out.ext X).lt;omega
  obtain ⟨p0,p1,p2,p3,p4,p5,p6,p7,p8,p9,p10⟩:=(HZ.out.ext X9).cells
  have pl:=(HZ.out.ext X9).lt
  obtain ⟨t0,t1,t2,t3,t4,t5,t6,t7,t8,t9,t10⟩:=TN.cells
  have tl:=TN.lt
  obtain ⟨d,hd⟩:∃ d,decide (y=c)=d:=⟨_,rfl⟩
  rw [hd] at eqq
  have HD:=VR hd
  clear hd X en
  cases d
  · have HNN:=VR (vL HN.out HY.out (by have:=HD.out;simpa using this))
    go_wp2_with fail
    go_roundw
    case rel=>exact ⟨k+1,by omega,by go_num,HNN,X9⟩
    case measure=>simp [intOf];omega
  · have HC:Hid (L[k]?=some c):=VR (by have:=HD.out;have e:=of_decide_eq_true this;rw [HY.out,e])
    have HM:=VR (VD HC.out)
    have XB:=VR ((ez.tr X9).mono HB.out.1)
    have SX:=VR (HS.out.ext (ez.tr X9))
    clear X9
    go_wp2_with fail
    go_ret
    exact ⟨XB.out,by rw [decide_eq_false (fun q=>q HM.out)];rfl,_,_,by unfold wY wZ;rw [if_pos HM.out,if_pos HM.out];exact SX.out⟩
structure RV where
 st:List UInt8
 num:Int
 day:Int
 nxt:Int
 ser:List Int
 iss:Int
 e:Int
 s:Int
theorem rK (l:List UInt8) (w:World) (hl:l.length≤maxLen):Calls Tryz.prog 136 #[.string (aI l)] w fun e w'=>e=.returned (.bool (decide (cM l)))∧w=w' :=
 xV (aI l) w (by show l.toArray.size≤_;simpa using hl)
theorem oY (l:List UInt8) (w:World) (hl:l.length≤maxLen):Calls Tryz.prog 140 #[.string (aI l)] w fun e w'=>e=.returned (.bool (decide (cM l)))∧w=w' :=
 pS (aI l) w (by show l.toArray.size≤_;simpa using hl)
def dY (w:World) (g:Nat) (r:RV) (v:Value):Prop:=w.heap[g]?=some (.cells #[.string (aI r.st),.int .i64 r.num,.int .i64 r.day,.int .i64 r.nxt,v,.int .i64 r.iss,.int .i64 r.e,.int .i64 r.s] 103 (0,0))
def oM (r:RV) (v:Value):Array Value:=#[.string (aI r.st),.int .i64 r.num,.int .i64 r.day,.int .i64 r.nxt,v,.int .i64 r.iss,.int .i64 r.e,.int .i64 r.s]
def rvV (r:RV) (v:Value):Value:=.agg #[.string (aI r.st),.int .i64 r.num,.int .i64 r.day,.int .i64 r.nxt,v,.int .i64 r.iss,.int .i64 r.e,.int .i64 r.s]
theorem qA:(Tryz.prog.info? 103).map (·.size)=some 8:=by kernel_rfl
section
variable {w w':World}{g:Nat}{r:RV}{v:Value}
theorem dY.lt (h:dY w g r v):g<w.heap.size:=a9 h
theorem dY.ext (h:dY w g r v) (e:Ext w w'):dY w' g r v:=(e.block g h.lt).trans h
theorem dY.frozen (h:dY w g r v) (i:Nat):w.frozen? ⟨g,i,none⟩=false:=by
 unfold dY at h
 simp [World.frozen?,h]
theorem dY.row (h:dY w g r v):w.heap[g]?=some (.cells (oM r v) 103 (0,0)):=h
theorem dY.c0 (h:dY w g r v):w.cell? ⟨g,0,none⟩=some (.string (aI r.st)):=by rw [cell_of_row w g 0 _ _ _ h];rfl
theorem dY.c1 (h:dY w g r v):w.cell? ⟨g,1,none⟩=some (.int .i64 r.num):=by rw [cell_of_row w g 1 _ _ _ h];rfl
theorem dY.c2 (h:dY w g r v):w.cell? ⟨g,2,none⟩=some (.int .i64 r.day):=by rw [cell_of_row w g 2 _ _ _ h];rfl
theorem dY.c3 (h:dY w g r v):w.cell? ⟨g,3,none⟩=some (.int .i64 r.nxt):=by rw [cell_of_row w g 3 _ _ _ h];rfl
theorem dY.c4 (h:dY w g r v):w.cell? ⟨g,4,none⟩=some (v):=by rw [cell_of_row w g 4 _ _ _ h];rfl
theorem dY.c5 (h:dY w g r v):w.cell? ⟨g,5,none⟩=some (.int .i64 r.iss):=by rw [cell_of_row w g 5 _ _ _ h];rfl
theorem dY.c6 (h:dY w g r v):w.cell? ⟨g,6,none⟩=some (.int .i64 r.e):=by rw [cell_of_row w g 6 _ _ _ h];rfl
theorem dY.c7 (h:dY w g r v):w.cell? ⟨g,7,none⟩=some (.int .i64 r.s):=by rw [cell_of_row w g 7 _ _ _ h];rfl
end
def QX:RV:=⟨[],0,0,0,[],0,0,0⟩
section
variable {w w':World}{g:Nat}{r:RV}{v:Value}
theorem dY.cells (h:dY w g r v):w.cell? ⟨g,0,none⟩=some (.string (aI r.st))∧w.cell? ⟨g,1,none⟩=some (.int .i64 r.num)∧w.cell? ⟨g,2,none⟩=some (.int .i64 r.day)∧w.cell? ⟨g,3,none⟩=some (.int .i64 r.nxt)∧w.cell? ⟨g,4,none⟩=some v∧w.cell? ⟨g,5,none⟩=some (.int .i64 r.iss)∧w.cell? ⟨g,6,none⟩=some (.int .i64 r.e)∧w.cell? ⟨g,7,none⟩=some (.int .i64 r.s) :=
 ⟨h.c0,h.c1,h.c2,h.c3,h.c4,h.c5,h.c6,h.c7⟩
theorem dY.new (w:World) (r:RV) (v:Value):dY (w.alloc (.cells #[.string (aI r.st),.int .i64 r.num,.int .i64 r.day,.int .i64 r.nxt,v,.int .i64 r.iss,.int .i64 r.e,.int .i64 r.s] 103)) w.heap.size r v:=aC w _
theorem dY.other {b i:Nat}{u:Value} (h:dY w g r v) (hne:g≠b):dY (w.setCell ⟨b,i,none⟩ u) g r v:=(aW hne).trans h
theorem dY.setSig (h:dY w g r v) (e s:Int):dY ((w.setCell ⟨g,6,none⟩ (.int .i64 e)).setCell ⟨g,7,none⟩ (.int .i64 s)) g ⟨r.st,r.num,r.day,r.nxt,r.ser,r.iss,e,s⟩ v:=by
 have h9:=aG (aG h 6 (.int .i64 e)) 7 (.int .i64 s)
 simp only [UY,UZ,V0] at h9
 exact h9
end
abbrev RY (w:World) (g:Nat) (v0 v1 v2 v3 v4 v5 v6 v7:Value):World:=((((((((w.setCell ⟨g,0,none⟩ v0).setCell ⟨g,1,none⟩ v1).setCell ⟨g,2,none⟩ v2).setCell ⟨g,3,none⟩ v3).setCell ⟨g,4,none⟩ v4).setCell ⟨g,5,none⟩ v5).setCell ⟨g,6,none⟩ v6).setCell ⟨g,7,none⟩ v7)
abbrev setR (w:World) (g:Nat) (d:RV) (u:Value):World:=RY w g (.string (aI d.st)) (.int .i64 d.num) (.int .i64 d.day) (.int .i64 d.nxt) u (.int .i64 d.iss) (.int .i64 d.e) (.int .i64 d.s)
theorem dY.setR {w:World}{g:Nat}{r:RV}{v:Value} (h:dY w g r v) (d:RV) (u:Value):dY (setR w g d u) g d u:=by
 have h9:=(aG (aG (aG (aG (aG (aG (aG (aG h 0 (.string (aI d.st))) 1 (.int .i64 d.num)) 2 (.int .i64 d.day)) 3 (.int .i64 d.nxt)) 4 u) 5 (.int .i64 d.iss)) 6 (.int .i64 d.e)) 7 (.int .i64 d.s))
 simp only [UY,UZ,V0] at h9
 exact h9
theorem MU {w w':World}{g:Nat} (h:Ext w w') (hg:w.heap.size≤g) (d:RV) (u:Value):Ext w (setR w' g d u) :=
 aH (aH (aH (aH (aH (aH (aH (aH h hg) hg) hg) hg) hg) hg) hg) hg
structure PX (w wz:World) (r:RV) (v:Value):Prop where
 ext:Ext w wz
 c:dY wz w.heap.size r v
 r:dY wz (w.heap.size+1) QX (.slice none 0 0)
theorem FC (w:World) (r:RV) (v:Value):∃ wz,wz=(w.alloc (.cells #[.string (aI r.st),.int .i64 r.num,.int .i64 r.day,.int .i64 r.nxt,v,.int .i64 r.iss,.int .i64 r.e,.int .i64 r.s] 103)).alloc (.cells #[.string ⟨#[]⟩,.int .i64 0,.int .i64 0,.int .i64 0,.slice none 0 0,.int .i64 0,.int .i64 0,.int .i64 0] 103)∧PX w wz r v:=by
 have e1:Ext w (w.alloc (.cells #[.string (aI r.st),.int .i64 r.num,.int .i64 r.day,.int .i64 r.nxt,v,.int .i64 r.iss,.int .i64 r.e,.int .i64 r.s] 103)):=(Below.refl _ _).alloc (UX _) _
 refine ⟨_,rfl,e1.alloc (by simp) _,(dY.new w r v).ext ((Below.refl _ _).alloc (UX _) _),?_⟩
 have:=dY.new (w.alloc (.cells #[.string (aI r.st),.int .i64 r.num,.int .i64 r.day,.int .i64 r.nxt,v,.int .i64 r.iss,.int .i64 r.e,.int .i64 r.s] 103)) QX (.slice none 0 0)
 rw [show (w.alloc (.cells #[.string (aI r.st),.int .i64 r.num,.int .i64 r.day,.int .i64 r.nxt,v,.int .i64 r.iss,.int .i64 r.e,.int .i64 r.s] 103)).heap.size=w.heap.size+1 by simp] at this
 exact this
theorem PX.tr {w wz wy:World}{r:RV}{v:Value} (h:PX w wz r v) (e:Ext wz wy):PX w wy r v:=⟨h.ext.tr e,h.c.ext e,h.r.ext e⟩
theorem Own.setLow {w:World}{B g i:Nat}{e:TypeId}{v u:Value}{xs:List Value} (h:Own w B e v xs) (hg:g<B):Own (w.setCell ⟨g,i,none⟩ u) B e v xs:=by
 obtain ⟨A,n,c,rfl,hn,h | ⟨b,cur,rfl,hB,hb,hr⟩⟩:=h
 · exact ⟨A,n,c,rfl,hn,.inl h⟩
 · exact ⟨_,n,c,rfl,hn,.inr ⟨b,cur,rfl,hB,(aW (by omega)).trans hb,hr⟩⟩
theorem CP (w:World) (A:Option Addr) (n c:Nat):(binOp .eql 41 (.slice A n c) (.slice none 0 0)).run Tryz.prog w=.ok (.bool A.isNone) w:=Lib.run_eql_slice_nil w _ 3 A n c 0 0 Tryz.underlying41
set_option maxHeartbeats 1000000 in
theorem FD {a:Value}{l:List Int} (w:World) (ha:RdI w .i64 a l) (hl:l.length≤1000000):Calls Tryz.prog 227 #[a] w fun e w'=>∃ A n c,e=.returned (.slice A n c)∧Own w' w.heap.size 3 (.slice A n c) (l.map (Value.int .i64))∧Ext w w':=by
 have ha0:=ha
 obtain ⟨A,n,c,rfl,hn,hnc,hcm,hA⟩:=ha.ints
 subst hn
 have hcm2:=hcm
 unfold maxLen at hcm
 have h1:∀ u ∈ l.map (Value.int .i64),u.oneCell'=true:=by
  intro u hu
  obtain ⟨x,_,rfl⟩:=List.mem_map.1 hu
  rfl
 cases A with
 | none =>
   have h0:l=[]:=by
    by_cases h:0<l.length
    · obtain ⟨b,o,e,_⟩:=hA h;cases e
    · exact VO (by omega)
   subst h0
   clear hA ha ha0
   have hq:=fun w=>CP w none 0 c
   go_enter Tryz.func227,Tryz.ntmps227
   go_wp2
   go_ret
   exact ⟨_,_,_,rfl,Own.nil_ _ _ _,Below.refl _ _⟩
 | some ad =>
   clear hA ha
   have hq:=fun w=>CP w (some ad) l.length c
   have e6:Ext w (w.alloc (.cells #[] 3)):=(Below.refl _ _).alloc (UX _) _
   go_enter Tryz.func227,Tryz.ntmps227
   go_wp2_with (refine oQ (B:=w.heap.size) (w0:=w) QU (Own.empty _ _ _ _) (Rd.ext ha0 e6) h1 e6 (by simp;omega) (by unfold maxLen;simp;omega) e6.size rfl rfl rfl rfl ?_;intro A2 c2 w2 o2 b2 g2)
   simp only [VN,VA,List.length_map,VB] at o2
   go_ret
   exact ⟨_,_,_,rfl,o2,b2⟩
set_option maxHeartbeats 4000000 in
theorem MV (r:RV) (v:Value) (w:World) (hv:RdI w .i64 v r.ser) (hl:r.ser.length≤1000000):Calls Tryz.prog 160 #[rvV r v] w fun e w'=>∃ A n c,e=.returned (rvV r (.slice A n c))∧Own w' w.heap.size 3 (.slice A n c) (r.ser.map (Value.int .i64))∧Ext w w':=by
 obtain ⟨wz,hwz,T⟩:=FC w r v
 have HR:=VR (hv.ext T.ext)
 obtain ⟨A,n,c,rfl,hn,hnc,hcm,hel⟩:=hv.ints
 clear hel hv
 unfold rvV
 go_enter Tryz.func160,Tryz.ntmps160
 subst hn
 go_wp2_with fail
 rw [← hwz]
 clear hwz
 refine (FD _ HR.out hl).mono ?_
 rintro e w1 ⟨A1,n1,c1,rfl,o1,b1⟩
 have T1:=T.tr b1
 have hz:w.heap.size+1<wz.heap.size:=T.r.lt
 clear T
 have O1:=VR o1
 clear o1 HR
 have f4:=T1.c.frozen 4
 have hl0:=T1.c.lt
 have hlr:=T1.r.lt
 obtain ⟨t0,t1,t2,t3,t4,t5,t6,t7⟩:=T1.c.cells
 obtain ⟨r0,r1,r2,r3,r4,r5,r6,r7⟩:=T1.r.cells
 have g0:=T1.r.frozen 0
 have g1:=T1.r.frozen 1
 have g2:=T1.r.frozen 2
 have g3:=T1.r.frozen 3
 have g4:=T1.r.frozen 4
 have g5:=T1.r.frozen 5
 have g6:=T1.r.frozen 6
 have g7:=T1.r.frozen 7
 go_wp2_with fail
 have TR:=T1.r.other (b:=w.heap.size) (i:=4) (u:=.slice A1 n1 c1) (by omega)
 have TZ:dY (RY (w1.setCell ⟨w.heap.size,4,none⟩ (.slice A1 n1 c1)) (w.heap.size+1) (.string (aI r.st)) (.int .i64 r.num) (.int .i64 r.day) (.int .i64 r.nxt) (.slice A1 n1 c1) (.int .i64 r.iss) (.int .i64 r.e) (.int .i64 r.s)) (w.heap.size+1) r (.slice A1 n1 c1):=TR.setR r (.slice A1 n1 c1)
 have OZ:=VR (show Own (RY (w1.setCell ⟨w.heap.size,4,none⟩ (.slice A1 n1 c1)) (w.heap.size+1) (.string (aI r.st)) (.int .i64 r.num) (.int .i64 r.day) (.int .i64 r.nxt) (.slice A1 n1 c1) (.int .i64 r.iss) (.int .i64 r.e) (.int .i64 r.s)) wz.heap.size 3 (.slice A1 n1 c1) (r.ser.map (Value.int .i64)) from
  ((((((((O1.out.setLow (by omega)).setLow hz).setLow hz).setLow hz).setLow hz).setLow hz).setLow hz).setLow hz).setLow hz)
 refine bodyPost_ret (v:=rvV r (.slice A1 n1 c1)) ?_ rfl ⟨A1,n1,c1,rfl,OZ.out.mono (by omega),MU (aH T1.ext (UX _)) (by omega) r (.slice A1 n1 c1)⟩
 obtain ⟨q0,q1,q2,q3,q4,q5,q6,q7⟩:=TZ.cells
 clear r0 r1 r2 r3 r4 r5 r6 r7 t0 t1 t2 t3 t4 t5 t6 t7
 simp [results,Tryz.results160,go_sem,rvV,q0,q1,q2,q3,q4,q5,q6,q7]
abbrev SlT:=Option Addr × Nat × Nat
def slV (s:SlT):Value:=.slice s.1 s.2.1 s.2.2
def cH (s0 s1 s2 s3 s4:SlT):Value:=.agg #[.slice s0.1 s0.2.1 s0.2.2,.slice s1.1 s1.2.1 s1.2.2,.slice s2.1 s2.2.1 s2.2.2,.slice s3.1 s3.2.1 s3.2.2,.slice s4.1 s4.2.1 s4.2.2]
theorem JU {pool next:List NC}{c:NC} (hc:c ∈ pool) (hn:c ∉ next):iG pool (next++[c])<iG pool next :=
 rE _ _ pool (fun x _ hx=>by
  have hx':x ∉ next++[c]:=of_decide_eq_true hx
  exact decide_eq_true fun q=>hx' (List.mem_append_left _ q)) ⟨c,hc,decide_eq_true hn,decide_eq_false (fun q=>q (List.mem_append_right _ VM))⟩
theorem sO (st:List UInt8) (day:Int) {roots:List NC}{y:NC}{k:Nat} (h:roots[k]?=some y):bN (roots.take (k+1)) st day=cD st day (bN (roots.take k) st day) y:=by
 unfold bN
 rw [iM h,List.foldl_append]
 rfl
theorem kA (st:List UInt8) (day:Int) (roots:List NC):(bN roots st day).length≤roots.length:=by
 have h:∀ (l acc:List NC),(l.foldl (cD st day) acc).length≤acc.length+l.length:=by
  intro l
  induction l with
  | nil=>intro acc;exact UX _
  | cons x l IH =>
    intro acc
    refine V9 (IH _) ?_
    have:(cD st day acc x).length≤acc.length+1:=by
     unfold cD
     split
     · simp
     · omega
    simp only [VC]
    omega
 have:=h roots []
 rw [VA,VB] at this
 exact this
def f9 (day:Int) (out:List NC) (l:List NC):List NC:=l.foldl (dW day out) out
theorem vO (day:Int) (out:List NC) {pool:List NC}{y:NC}{k:Nat} (h:pool[k]?=some y):f9 day out (pool.take (k+1))=dW day out (f9 day out (pool.take k)) y:=by
 unfold f9
 rw [iM h,List.foldl_append]
 rfl
theorem JV (day:Int) (out l:List NC):∃ t,f9 day out l=out++t:=by
 obtain ⟨t,h,_⟩:=rD day out l out
 exact ⟨t,h⟩
theorem MW {day:Int}{L:List NC}{c:NC}:(0≤mC day L c) ↔ (L.any fun a=>eM day a c)=true:=by
 unfold mC
 split
 · rename_i h
   exact ⟨fun _=>h,fun _=>Int.natCast_nonneg _⟩
 · rename_i h
   exact ⟨fun q=>absurd q (by omega),fun q=>absurd q h⟩
structure FnI (C:Nat) (pool L:List NC) (R:List Int) (rd:Int):Prop where
 srt:Srt R
 le:∀ x ∈ R,x≤rd
 kd:∀ (i:Nat) (a:NC) (x:Int),L[i]?=some a→R[i]?=some x→(x=0 ↔ a.kind=1)
 sm:smL L
 bd:L.length+iG pool L≤C
theorem jO {α:Type}{l:List α}{x y:α}{i:Nat} (h:(l++[x])[i]?=some y):l[i]?=some y ∨ (i=l.length∧y=x):=by
 by_cases hi:i<l.length
 · rw [List.getElem?_append_left hi] at h
   exact .inl h
 · rw [List.getElem?_append_right (by omega)] at h
   have h0:i - l.length=0:=by
    have:=(List.getElem?_eq_some_iff.1 h).1
    simpa using this
   rw [h0] at h
   exact .inr ⟨by omega,(Option.some.inj h).symm⟩
theorem MX {R:List Int}{rd:Int} (h:Srt R) (hl:∀ x ∈ R,x≤rd):Srt (R++[rd]):=by
 intro i j x y hij hi hj
 rcases jO hi with q | ⟨q,e⟩
 · rcases jO hj with q2 | ⟨q2,e2⟩
   · exact h i j x y hij q q2
   · rw [e2]
     exact hl x (VD q)
 · rcases jO hj with q2 | ⟨q2,e2⟩
   · have:=(List.getElem?_eq_some_iff.1 q2).1
     omega
   · rw [e,e2]
     exact Int.le_refl _
theorem FnI.app {C:Nat}{pool L:List NC}{R:List Int}{rd:Int}{c:NC} (h:FnI C pool L R rd) (hlen:R.length=L.length) (hk:rd=0 ↔ c.kind=1) (hs:smN c) (hb:(L++[c]).length+iG pool (L++[c])≤C):FnI C pool (L++[c]) (R++[rd]) rd :=
 ⟨MX h.srt h.le,fun x hx=>by
   rcases List.mem_append.1 hx with q | q
   · exact h.le x q
   · rw [List.mem_singleton.1 q];exact Int.le_refl _,fun i a x ha hx=>by
   rcases jO ha with ha | ⟨ha,rfl⟩
   · rcases jO hx with hx | ⟨hx,rfl⟩
     · exact h.kd i a x ha hx
     · have:=(List.getElem?_eq_some_iff.1 ha).1
       omega
   · rcases jO hx with hx | ⟨hx,rfl⟩
     · have:=(List.getElem?_eq_some_iff.1 hx).1
       omega
     · exact hk,h.sm.app (fun q hq=>by rw [List.mem_singleton.1 hq];exact hs),hb⟩
theorem FnI.up {C:Nat}{pool L:List NC}{R:List Int}{rd rd':Int} (h:FnI C pool L R rd) (hr:rd≤rd'):FnI C pool L R rd':=⟨h.srt,fun x hx=>Int.le_trans (h.le x hx) hr,h.kd,h.sm,h.bd⟩
def QY (w:World) (roots pool:List NC) (st:List UInt8) (day:Int) (e:Ending) (w':World):Prop :=
 Ext w w'∧∃ (S:Nat) (v1 v2:Value) (R:List Int),e=.returned (.pointer (some ⟨S,0,none⟩))∧w.heap.size≤S∧gV w' w.heap.size S day v1 v2 (dB roots pool st day) R∧∃ rd,FnI (roots.length+pool.length) pool (dB roots pool st day) R rd
theorem S3 (w:World) (day:Int):∃ wz,wz=w.alloc (.cells #[.int .i64 day,.slice none 0 0,.slice none 0 0] 155)∧Ext w wz∧gV wz w.heap.size w.heap.size day (.slice none 0 0) (.slice none 0 0) [] [] :=
 ⟨_,rfl,(Below.refl _ _).alloc (UX _) _,aC w _,aJ.empty _ _ _ _ _,aJ.empty _ _ _ _ _,rfl⟩
theorem JY {roots pool:List NC}{st:List UInt8}{day:Int}{R:List Int} (h0:∀ x ∈ R,x=0) (hs:smL roots):FnI (roots.length+pool.length) pool (bN roots st day) R 1 :=
 ⟨fun i j x y _ hx hy=>by rw [h0 x (VD hx),h0 y (VD hy)];exact Int.le_refl _,fun x hx=>by rw [h0 x hx];decide,fun i a x ha hx=>by
   rw [h0 x (VD hx)]
   exact ⟨fun _=>(zM (iL (VD ha)).2.2.2).1,fun _=>rfl⟩,fun c hc=>hs c (iL hc).1,by
   have h1:=kA st day roots
   have h2:=lG pool (bN roots st day)
   omega⟩
theorem FE {pool out:List NC}{day:Int} (h:(fI pool day out).length=out.length):fI pool day out=out:=by
 obtain ⟨t,e,_⟩:=iK pool day out
 rw [e] at h ⊢
 rw [V5] at h
 rw [VO (by omega:t.length=0),List.append_nil]
def FrD (roots pool:List NC) (st:List UInt8) (day:Int) (L:List NC) (r:Nat) (m:Bool):Prop :=
 (m=true→wW pool day L=dB roots pool st day∧iG pool L+r≤pool.length+1)∧(m=false→L=dB roots pool st day)
theorem MY {roots pool:List NC}{st:List UInt8}{day:Int}{L:List NC}{r:Nat} (h:FrD roots pool st day L r true):FrD roots pool st day (fI pool day L) (r+1) (decide ((fI pool day L).length≠L.length)):=by
 obtain ⟨h1,h2⟩:=h.1 rfl
 refine ⟨fun q=>?_,fun q=>?_⟩
 · have q:=of_decide_eq_true q
   have h3:=vG q
   exact ⟨by rw [← xZ q];exact h1,by omega⟩
 · have q:(fI pool day L).length=L.length:=by
    have:=of_decide_eq_false q
    omega
   rw [FE q,← h1,xY q]
theorem FF {C:Nat}{pool N:List NC}{c:NC} (hc:c ∈ pool) (hn:c ∉ N) (h:N.length+iG pool N≤C):(N++[c]).length+iG pool (N++[c])≤C:=by
 have:=JU hc hn
 rw [V5]
 simp only [VC,VA]
 omega
structure FrI (w wr:World) (S:Nat) (day:Int) (C:Nat) (pool L:List NC) (R:List Int):Prop where
 ext:Ext w wr
 se:∃ v1 v2,gV wr w.heap.size S day v1 v2 L R
 len:R.length=L.length
theorem FrI.tr {w wr wx:World}{S:Nat}{day:Int}{C:Nat}{pool L:List NC}{R:List Int} (h:FrI w wr S day C pool L R) (e:Ext wr wx):FrI w wx S day C pool L R:=by
 obtain ⟨h1,⟨v1,v2,h2⟩,h3⟩:=h
 exact ⟨h1.tr e,⟨v1,v2,h2.ext e⟩,h3⟩
theorem FrI.add {w wr:World}{S:Nat}{day:Int}{C:Nat}{pool L:List NC}{R:List Int} (h:FrI w wr S day C pool L R) (hS:w.heap.size≤S) (c:NC) (rd:Int) (hl:L.length≤1000000) :
 Calls Tryz.prog 196 #[.pointer (some ⟨S,0,none⟩),ncV c,.int .i64 rd] wr fun e w'=>e=.returned (.bool (decide (c ∉ L)))∧FrI w w' S day C pool (wY L c) (wZ L R c rd):=by
 obtain ⟨h1,⟨v1,v2,h2⟩,h3⟩:=h
 exact (PW c rd wr h2 h1.size hS hl).mono fun e w' ⟨q1,q2,u1,u2,q3⟩=>⟨q2,h1.trans q1,⟨u1,u2,q3⟩,TU h3 c rd⟩
theorem FrI.before {w wr:World}{S:Nat}{day:Int}{C:Nat}{pool L:List NC}{R:List Int} (h:FrI w wr S day C pool L R) (c:NC) (n:Nat) (hn:n≤L.length) (hl:L.length≤1000000) (hR:Srt R) (hs:smL L) (hc:smN c) (E:dI w 1) :
 Calls Tryz.prog 119 #[.pointer (some ⟨S,0,none⟩),ncV c,.int .i64 (n:Int)] wr (eP wr (.int .i64 (mC day (L.take n) c))):=by
 obtain ⟨h1,⟨v1,v2,h2⟩,h3⟩:=h
 exact vN c n wr h2 hn hl hR hs hc (E.below h1)
set_option maxHeartbeats 4000000 in
theorem MZ {v1 v2:Value}{roots pool:List NC} (st:List UInt8) (day:Int) (w:World) (h1:RdN w v1 roots) (h2:RdN w v2 pool) (hs1:smL roots) (hs2:smL pool) (hl:roots.length+pool.length≤900000) (E:dI w 1) :
 Calls Tryz.prog 118 #[v1,v2,.string (aI st),.int .i64 day] w (QY w roots pool st day):=by
 obtain ⟨A1,n1,c1,rfl,hn1,hnc1,hcm1,hel1⟩:=h1.at_
 subst hn1
 obtain ⟨A2,n2,c2,rfl,hn2,hnc2,hcm2,hel2⟩:=h2.at_
 subst hn2
 have HEL1:=VR hel1
 have HEL2:=VR hel2
 have HON:=VR (fun (c:NC) (hs:smN c) W=>gO c day W hs)
 have HRT:=VR (fun (c:NC) (hs:smN c) W (e:Ext w W)=>kK c W hs (E.below e))
 have HE:=VR E
 have HS1:=VR hs1
 have HS2:=VR hs2
 have HQ:=VR (fun s=>fX s st)
 unfold maxLen at hcm1 hcm2
 obtain ⟨wz,hwz,ez,SZ⟩:=S3 w day
 have Z0:=VR (show FrI w wz w.heap.size day (roots.length+pool.length) pool (bN (roots.take 0) st day) [] from ⟨ez,⟨_,_,SZ⟩,rfl⟩)
 clear hel1 hel2 h1 h2 hs1 hs2 E ez SZ
 go_enter Tryz.func118,Tryz.ntmps118
 go_upto_region 2 with fail
 rw [← hwz]
 clear hwz
 go_wp2_with fail
 go_loopw [22] (fun i wr=>∃ k:Nat,k≤roots.length∧i=.int .i64 (k:Int)∧∃ R:List Int,Hid (FrI w wr w.heap.size day (roots.length+pool.length) pool (bN (roots.take k) st day) R)∧Hid (∀ x ∈ R,x=0)) (fun i _=>roots.length - (intOf i).toNat)
 case atStart=>exact ⟨0,V7 _,rfl,[],Z0,VR (fun x hx=>by simp at hx)⟩
 case round =>
  clear Z0
  obtain ⟨k,hk,rfl,R,Z,HR0⟩:=hrel
  by_cases hlt:k<roots.length
  case neg =>
   obtain rfl:k=roots.length:=by omega
   have HF0:=VR (show bN (roots.take roots.length) st day=bN roots st day by rw [List.take_length])
   have HI:=VR (JY (pool:=pool) (st:=st) (day:=day) HR0.out HS1.out)
   have ZZ:Hid (FrI w wr w.heap.size day (roots.length+pool.length) pool (bN roots st day) R):=by have:=Z.out;rw [HF0.out] at this;exact this
   have HD0:Hid (FrD roots pool st day (bN roots st day) 1 true):=VR ⟨fun _=>⟨rfl,by have:=lG pool (bN roots st day);omega⟩,fun q=>by cases q⟩
   clear Z HF0 HR0 hk hlt
   generalize bN roots st day=L0 at *
   go_wp2_with fail
   go_loopw [12,13] (fun rd mb wr=>∃ (r:Nat) (m:Bool) (L:List NC) (R:List Int),rd=.int .i64 (r:Int)∧mb=.bool m∧1≤r∧r≤pool.length+2∧Hid (FrI w wr w.heap.size day (roots.length+pool.length) pool L R)∧Hid (FnI (roots.length+pool.length) pool L R (r:Int))∧Hid (FrD roots pool st day L r m)) (fun rd _ _=>pool.length+3 - (intOf rd).toNat)
   case atStart=>exact ⟨1,true,L0,R,rfl,rfl,UX _,by omega,ZZ,HI,HD0⟩
   case round =>
    clear ZZ HI HD0
    clear R
    obtain ⟨r,m,L,R,rfl,rfl,r1,r2,Z,HI,HD⟩:=hrel
    cases m
    · have hL:=HD.out.2 rfl
      subst hL
      obtain ⟨zx,⟨u1,u2,zs⟩,zl⟩:=Z.out
      have FIN:=VR (show QY w roots pool st day (.returned (.pointer (some ⟨w.heap.size,0,none⟩))) wr from ⟨zx,_,u1,u2,R,rfl,UX _,zs,_,HI.out⟩)
      clear zx zs zl
      go_wp2_with fail
      go_ret
      exact FIN.out
    · have hr3:r≤pool.length+1:=by have:=(HD.out.1 rfl).2;omega
      obtain ⟨zx,⟨u1,u2,zs⟩,zl⟩:=Z.out
      obtain ⟨B1,d1,B2,d2,rfl,rfl,hd1,hd2,hm1,hm2⟩:=zs.forms
      obtain ⟨s0,s1,s2⟩:=zs.cells
      have sl:=zs.lt
      have HLB:=VR (show L.length≤900000 by have:=HI.out.bd;omega)
      unfold maxLen at hm1 hm2
      clear zx zs zl
      have wr1:IntKind.i64.wrap ((r:Int)+1)=(r:Int)+1:=IntWalk.i64_in _ (by omega)
      go_wp2_with fail
      clear s0 s1 s2 sl
      go_loopw [54,13] (fun i mb wr=>∃ k:Nat,k≤pool.length∧i=.int .i64 (k:Int)∧mb=.bool (decide ((f9 day L (pool.take k)).length≠L.length))∧∃ R':List Int,Hid (FrI w wr w.heap.size day (roots.length+pool.length) pool (f9 day L (pool.take k)) R')∧Hid (FnI (roots.length+pool.length) pool (f9 day L (pool.take k)) R' (r:Int))) (fun i _ _=>pool.length - (intOf i).toNat)
      case atStart=>exact ⟨0,V7 _,rfl,by rw [VE];simp [f9],R,by rw [VE];exact Z,by rw [VE];exact HI⟩
      case round =>
       clear Z
       obtain ⟨k,hk,rfl,rfl,R',Z,HIK⟩:=hrel
       by_cases hlt:k<pool.length
       case neg =>
        obtain rfl:k=pool.length:=by omega
        have HRD:Hid (f9 day L (pool.take pool.length)=fI pool day L):=VR (by rw [List.take_length];rfl)
        have HDN:Hid (FrD roots pool st day (f9 day L (pool.take pool.length)) (r+1) (decide ((f9 day L (pool.take pool.length)).length≠L.length))):=VR (by rw [HRD.out];exact MY HD.out)
        have HIN:=VR (HIK.out.up (rd':=((r+1:Nat):Int)) (by omega))
        obtain ⟨m9,hm9⟩:∃ m9,decide ((f9 day L (pool.take pool.length)).length≠L.length)=m9:=⟨_,rfl⟩
        rw [hm9] at HDN
        rw [hm9]
        clear HRD
        clear hk hlt HIK HI hm9
        go_wp2_with fail
        go_roundw
        case rel=>exact ⟨r+1,m9,_,R',by go_num,rfl,by omega,by omega,Z,HIN,HDN⟩
        case measure=>simp [intOf];omega
       case pos =>
       obtain ⟨y,hy⟩:∃ y,pool[k]?=some y:=⟨_,V8 hlt⟩
       obtain ⟨b,o,rfl,hbl,hc⟩:=HEL2.out (by omega)
       have hcy:=hc k y hy
       have HY:=VR hy
       have HSY:=VR (HS2.out y (VD hy))
       have X:=Z.out.ext
       clear hy hc
       have wi1:IntKind.i64.wrap ((k:Int))=(k:Int):=IntWalk.i64_in _ (by omega)
       have zi1:(0:Int)≤(k:Int):=by omega
       have li1:(k:Int)<(pool.length:Int):=by omega
       have ti1:((k:Int)).toNat=k:=by omega
       have wk:IntKind.i64.wrap ((k:Int)+1)=(k:Int)+1:=IntWalk.i64_in _ (by omega)
       have q0:=(X.cell (p:=⟨b,o+k*11,none⟩) hbl).trans hcy.1
       have q1:=(X.cell (p:=⟨b,o+k*11+1,none⟩) hbl).trans hcy.2.1
       have q2:=(X.cell (p:=⟨b,o+k*11+2,none⟩) hbl).trans hcy.2.2.1
       have q3:=(X.cell (p:=⟨b,o+k*11+3,none⟩) hbl).trans hcy.2.2.2.1
       have q4:=(X.cell (p:=⟨b,o+k*11+4,none⟩) hbl).trans hcy.2.2.2.2.1
       have q5:=(X.cell (p:=⟨b,o+k*11+5,none⟩) hbl).trans hcy.2.2.2.2.2.1
       have q6:=(X.cell (p:=⟨b,o+k*11+6,none⟩) hbl).trans hcy.2.2.2.2.2.2.1
       have q7:=(X.cell (p:=⟨b,o+k*11+7,none⟩) hbl).trans hcy.2.2.2.2.2.2.2.1
       have q8:=(X.cell (p:=⟨b,o+k*11+8,none⟩) hbl).trans hcy.2.2.2.2.2.2.2.2.1
       have q9:=(X.cell (p:=⟨b,o+k*11+9,none⟩) hbl).trans hcy.2.2.2.2.2.2.2.2.2.1
       have q10:=(X.cell (p:=⟨b,o+k*11+10,none⟩) hbl).trans hcy.2.2.2.2.2.2.2.2.2.2
       clear hcy
       obtain ⟨wn,hwn,en,TN⟩:=cC wr y
       have HSN:=VR (vO day L HY.out)
       have HAP:=VR (JV day L (pool.take k))
       obtain ⟨N,hN⟩:∃ N,f9 day L (pool.take k)=N:=⟨_,rfl⟩
       rw [hN] at HSN HAP HIK Z
       rw [hN]
       clear hN
       have HLN:=VR (show N.length≤1000000 by have:=HIK.out.bd;omega)
       have HTK:Hid (N.take L.length=L):=VR (by obtain ⟨t,ht⟩:=HAP.out;rw [ht];simp)
       have HNL:=VR (show L.length≤N.length by obtain ⟨t,ht⟩:=HAP.out;rw [ht];simp)
       obtain ⟨mb,hmb⟩:∃ mb,decide (N.length≠L.length)=mb:=⟨_,rfl⟩
       rw [hmb]
       have HMB:=VR hmb
       clear hmb
       go_upto_region 16 with fail
       rw [← hwn]
       clear hwn q0 q1 q2 q3 q4 q5 q6 q7 q8 q9 q10 X
       have HZL:=VR (show R'.length=N.length from Z.out.len)
       have ZN:=VR (Z.out.tr en)
       clear Z en
       obtain ⟨p0,p1,p2,p3,p4,p5,p6,p7,p8,p9,p10⟩:=(TN).cells
       have pf0:=(TN).frozen 0
       have pf1:=(TN).frozen 1
       have pf2:=(TN).frozen 2
       have pf3:=(TN).frozen 3
       have pf4:=(TN).frozen 4
       have pf5:=(TN).frozen 5
       have pf6:=(TN).frozen 6
       have pf7:=(TN).frozen 7
       have pf8:=(TN).frozen 8
       have pf9:=(TN).frozen 9
       have pf10:=(TN).frozen 10
       have pl:=(TN).lt
       by_cases k2:y.kind=2
       case neg =>
        have hb:(y.kind == 2)=false:=by simpa using k2
        have HF:=VR (show f9 day L (pool.take (k+1))=N by rw [HSN.out];unfold dW;rw [if_neg (fun q=>k2 q.1)])
        clear k2
        go_wp2_with fail
        go_roundw
        case rel=>exact ⟨k+1,by omega,by go_num,by rw [HF.out,HMB.out],R',by rw [HF.out];exact ZN,by rw [HF.out];exact HIK⟩
        case measure=>simp [intOf];omega
       have hb:(y.kind == 2)=true:=by simpa using k2
       have K2:=VR k2
       clear k2
       go_wp2_with fail
       refine (ZN.out.before y L.length HNL.out HLN.out HIK.out.srt HIK.out.sm HSY.out HE.out).mono ?_
       rintro e w2 ⟨rfl,b2⟩
       rw [HTK.out]
       have TN2:=TN.ext b2
       have Z2:=VR (ZN.out.tr b2)
       clear p0 pf0 p1 pf1 p2 pf2 p3 pf3 p4 pf4 p5 pf5 p6 pf6 p7 pf7 p8 pf8 p9 pf9 p10 pf10 pl
       clear TN ZN b2
       by_cases an:(L.any fun a=>eM day a y)=true
       case neg =>
        have hz:¬ ((0:Int)≤mC day L y):=fun q=>an (MW.1 q)
        have hz2:mC day L y<0:=by omega
        have HF:=VR (show f9 day L (pool.take (k+1))=N by rw [HSN.out];unfold dW;rw [if_neg (fun q=>an q.2.2)])
        clear an
        generalize mC day L y=z at *
        go_wp2_with fail
        go_roundw
        case rel=>exact ⟨k+1,by omega,by go_num,by rw [HF.out,HMB.out],R',by rw [HF.out];exact Z2,by rw [HF.out];exact HIK⟩
        case measure=>simp [intOf];omega
       have hz:(0:Int)≤mC day L y:=MW.2 an
       have AN:=VR an
       clear an
       generalize mC day L y=z at *
       obtain ⟨p0,p1,p2,p3,p4,p5,p6,p7,p8,p9,p10⟩:=(TN2).cells
       have pf0:=(TN2).frozen 0
       have pf1:=(TN2).frozen 1
       have pf2:=(TN2).frozen 2
       have pf3:=(TN2).frozen 3
       have pf4:=(TN2).frozen 4
       have pf5:=(TN2).frozen 5
       have pf6:=(TN2).frozen 6
       have pf7:=(TN2).frozen 7
       have pf8:=(TN2).frozen 8
       have pf9:=(TN2).frozen 9
       have pf10:=(TN2).frozen 10
       have pl:=(TN2).lt
       go_wp2_with fail
       refine (Z2.out.add (UX _) y (r:Int) HLN.out).mono ?_
       rintro e w4 ⟨rfl,Z4⟩
       have HZ4:=VR Z4
       clear p0 pf0 p1 pf1 p2 pf2 p3 pf3 p4 pf4 p5 pf5 p6 pf6 p7 pf7 p8 pf8 p9 pf9 p10 pf10 pl
       clear TN2 Z2 Z4
       by_cases hm:y ∈ N
       · have HF:=VR (show f9 day L (pool.take (k+1))=N by rw [HSN.out];unfold dW;rw [if_neg (fun q=>q.2.1 hm)])
         have HA1:=VR (show wY N y=N from if_pos hm)
         have HA2:=VR (show wZ N R' y (r:Int)=R' from if_pos hm)
         have hd:decide (y ∉ N)=false:=decide_eq_false (fun q=>q hm)
         rw [hd]
         clear hm hd
         go_wp2_with fail
         go_roundw
         case rel=>exact ⟨k+1,by omega,by go_num,by rw [HF.out,HMB.out],R',by have:=HZ4.out;rw [HA1.out,HA2.out] at this;rw [HF.out];exact this,by rw [HF.out];exact HIK⟩
         case measure=>simp [intOf];omega
       · have HF:=VR (show f9 day L (pool.take (k+1))=N++[y] by rw [HSN.out];unfold dW;rw [if_pos ⟨K2.out,hm,AN.out⟩])
         have HA1:=VR (show wY N y=N++[y] from if_neg hm)
         have HA2:=VR (show wZ N R' y (r:Int)=R'++[(r:Int)] from if_neg hm)
         have HIA:=VR (HIK.out.app (c:=y) HZL.out ⟨fun q=>by omega,fun q=>by rw [K2.out] at q;cases q⟩ HSY.out (FF (VD HY.out) hm HIK.out.bd))
         have hd:decide (y ∉ N)=true:=decide_eq_true hm
         have HMT:=VR (show decide ((N++[y]).length≠L.length)=true from decide_eq_true (by rw [V5];simp only [VC,VA];have:=HNL.out;omega))
         rw [hd]
         clear hm hd
         go_wp2_with fail
         go_roundw
         case rel=>exact ⟨k+1,by omega,by go_num,by rw [HF.out,HMT.out],_,by have:=HZ4.out;rw [HA1.out,HA2.out] at this;rw [HF.out];exact this,by rw [HF.out];exact HIA⟩
         case measure=>simp [intOf];omega
  case pos =>
  obtain ⟨y,hy⟩:∃ y,roots[k]?=some y:=⟨_,V8 hlt⟩
  obtain ⟨b,o,rfl,hbl,hc⟩:=HEL1.out (by omega)
  have hcy:=hc k y hy
  have HY:=VR hy
  have HSY:=VR (HS1.out y (VD hy))
  have X:=Z.out.ext
  clear hy hc
  have wi2:IntKind.i64.wrap ((k:Int))=(k:Int):=IntWalk.i64_in _ (by omega)
  have zi2:(0:Int)≤(k:Int):=by omega
  have li2:(k:Int)<(roots.length:Int):=by omega
  have ti2:((k:Int)).toNat=k:=by omega
  have wk:IntKind.i64.wrap ((k:Int)+1)=(k:Int)+1:=IntWalk.i64_in _ (by omega)
  have q0:=(X.cell (p:=⟨b,o+k*11,none⟩) hbl).trans hcy.1
  have q1:=(X.cell (p:=⟨b,o+k*11+1,none⟩) hbl).trans hcy.2.1
  have q2:=(X.cell (p:=⟨b,o+k*11+2,none⟩) hbl).trans hcy.2.2.1
  have q3:=(X.cell (p:=⟨b,o+k*11+3,none⟩) hbl).trans hcy.2.2.2.1
  have q4:=(X.cell (p:=⟨b,o+k*11+4,none⟩) hbl).trans hcy.2.2.2.2.1
  have q5:=(X.cell (p:=⟨b,o+k*11+5,none⟩) hbl).trans hcy.2.2.2.2.2.1
  have q6:=(X.cell (p:=⟨b,o+k*11+6,none⟩) hbl).trans hcy.2.2.2.2.2.2.1
  have q7:=(X.cell (p:=⟨b,o+k*11+7,none⟩) hbl).trans hcy.2.2.2.2.2.2.2.1
  have q8:=(X.cell (p:=⟨b,o+k*11+8,none⟩) hbl).trans hcy.2.2.2.2.2.2.2.2.1
  have q9:=(X.cell (p:=⟨b,o+k*11+9,none⟩) hbl).trans hcy.2.2.2.2.2.2.2.2.2.1
  have q10:=(X.cell (p:=⟨b,o+k*11+10,none⟩) hbl).trans hcy.2.2.2.2.2.2.2.2.2.2
  clear hcy
  obtain ⟨wn,hwn,en,TN⟩:=cC wr y
  go_upto_region 5 with fail
  rw [← hwn]
  clear hwn q0 q1 q2 q3 q4 q5 q6 q7 q8 q9 q10 X
  have ZN:=VR (Z.out.tr en)
  obtain ⟨p0,p1,p2,p3,p4,p5,p6,p7,p8,p9,p10⟩:=(TN).cells
  have pf0:=(TN).frozen 0
  have pf1:=(TN).frozen 1
  have pf2:=(TN).frozen 2
  have pf3:=(TN).frozen 3
  have pf4:=(TN).frozen 4
  have pf5:=(TN).frozen 5
  have pf6:=(TN).frozen 6
  have pf7:=(TN).frozen 7
  have pf8:=(TN).frozen 8
  have pf9:=(TN).frozen 9
  have pf10:=(TN).frozen 10
  have pl:=(TN).lt
  have HSN:=VR (sO st day HY.out)
  by_cases c1':y.st=st
  case neg =>
   have hb:((aI y.st).toList == (aI st).toList)=false:=by rw [HQ.out];exact decide_eq_false c1'
   have HF:=VR (show bN (roots.take (k+1)) st day=bN (roots.take k) st day by rw [HSN.out];unfold cD;rw [if_neg (fun q=>c1' q.1.1)])
   clear c1'
   go_wp2_with fail
   go_roundw
   case rel=>exact ⟨k+1,by omega,by go_num,R,by rw [HF.out];exact ZN,HR0⟩
   case measure=>simp [intOf];omega
  have hb:((aI y.st).toList == (aI st).toList)=true:=by rw [HQ.out];exact decide_eq_true c1'
  have C1:=VR c1'
  clear c1'
  go_wp2_with fail
  refine (HON.out y HSY.out _).mono ?_
  rintro e w2 ⟨rfl,b2⟩
  have TN2:=TN.ext b2
  have Z2:=VR (ZN.out.tr b2)
  clear p0 pf0 p1 pf1 p2 pf2 p3 pf3 p4 pf4 p5 pf5 p6 pf6 p7 pf7 p8 pf8 p9 pf9 p10 pf10 pl
  clear TN ZN b2
  by_cases c2':onN y day=0
  case neg =>
   have hb2:(onN y day == 0)=false:=by simpa using c2'
   have HF:=VR (show bN (roots.take (k+1)) st day=bN (roots.take k) st day by rw [HSN.out];unfold cD;rw [if_neg (fun q=>c2' q.1.2.1)])
   clear c2'
   go_wp2_with fail
   go_roundw
   case rel=>exact ⟨k+1,by omega,by go_num,R,by rw [HF.out];exact Z2,HR0⟩
   case measure=>simp [intOf];omega
  have hb2:(onN y day == 0)=true:=by simpa using c2'
  have C2:=VR c2'
  clear c2'
  obtain ⟨p0,p1,p2,p3,p4,p5,p6,p7,p8,p9,p10⟩:=(TN2).cells
  have pf0:=(TN2).frozen 0
  have pf1:=(TN2).frozen 1
  have pf2:=(TN2).frozen 2
  have pf3:=(TN2).frozen 3
  have pf4:=(TN2).frozen 4
  have pf5:=(TN2).frozen 5
  have pf6:=(TN2).frozen 6
  have pf7:=(TN2).frozen 7
  have pf8:=(TN2).frozen 8
  have pf9:=(TN2).frozen 9
  have pf10:=(TN2).frozen 10
  have pl:=(TN2).lt
  go_wp2_with fail
  refine (HRT.out y HSY.out _ Z2.out.ext).mono ?_
  rintro e w3 ⟨rfl,b3⟩
  have TN3:=TN2.ext b3
  have Z3:=VR (Z2.out.tr b3)
  clear p0 pf0 p1 pf1 p2 pf2 p3 pf3 p4 pf4 p5 pf5 p6 pf6 p7 pf7 p8 pf8 p9 pf9 p10 pf10 pl
  clear TN2 Z2 b3
  obtain ⟨rb,hrb⟩:∃ rb,rtN y=rb:=⟨_,rfl⟩
  rw [hrb]
  cases rb
  · have HF:=VR (show bN (roots.take (k+1)) st day=bN (roots.take k) st day by rw [HSN.out];unfold cD;rw [if_neg (fun q=>by have:=q.1.2.2;rw [hrb] at this;cases this)])
    clear hrb
    go_wp2_with fail
    go_roundw
    case rel=>exact ⟨k+1,by omega,by go_num,R,by rw [HF.out];exact Z3,HR0⟩
    case measure=>simp [intOf];omega
  have HF:=VR (show bN (roots.take (k+1)) st day=wY (bN (roots.take k) st day) y by
   rw [HSN.out]
   unfold cD wY
   by_cases hm:y ∈ bN (roots.take k) st day
   · rw [if_neg (fun q=>q.2 hm),if_pos hm]
   · rw [if_pos ⟨⟨C1.out,C2.out,hrb⟩,hm⟩,if_neg hm])
  clear hrb
  obtain ⟨p0,p1,p2,p3,p4,p5,p6,p7,p8,p9,p10⟩:=(TN3).cells
  have pf0:=(TN3).frozen 0
  have pf1:=(TN3).frozen 1
  have pf2:=(TN3).frozen 2
  have pf3:=(TN3).frozen 3
  have pf4:=(TN3).frozen 4
  have pf5:=(TN3).frozen 5
  have pf6:=(TN3).frozen 6
  have pf7:=(TN3).frozen 7
  have pf8:=(TN3).frozen 8
  have pf9:=(TN3).frozen 9
  have pf10:=(TN3).frozen 10
  have pl:=(TN3).lt
  go_wp2_with fail
  refine (Z3.out.add (UX _) y 0 (by have h1:=kA st day (roots.take k);have h2:=List.length_take_le k roots;rw [VL] at h1;omega)).mono ?_
  rintro e w4 ⟨rfl,Z4⟩
  have HZ4:=VR Z4
  have HR4:Hid (∀ x ∈ wZ (bN (roots.take k) st day) R y 0,x=0):=VR (by
   unfold wZ
   split
   · exact HR0.out
   · intro x hx
     rcases List.mem_append.1 hx with q | q
     · exact HR0.out x q
     · exact List.mem_singleton.1 q)
  clear p0 pf0 p1 pf1 p2 pf2 p3 pf3 p4 pf4 p5 pf5 p6 pf6 p7 pf7 p8 pf8 p9 pf9 p10 pf10 pl
  clear TN3 Z3 Z4
  go_wp2_with fail
  go_roundw
  case rel=>exact ⟨k+1,by omega,by go_num,_,by rw [HF.out];exact HZ4,HR4⟩
  case measure=>simp [intOf];omega
def PY (w:World) (l:List NC) (e:Ending) (w':World):Prop:=Ext w w'∧∃ (A:Option Addr) (c:Nat),e=.returned (.slice A l.length c)∧RdN w' (.slice A l.length c) l
structure LsZ (w wr:World) (v:Value) (L:List NC):Prop where
 ext:Ext w wr
 own:aJ wr w.heap.size 56 11 v (aA L)
 form:∃ A c,v=.slice A L.length c
theorem LsZ.tr {w wr wx:World}{v:Value}{L:List NC} (h:LsZ w wr v L) (e:Ext wr wx):LsZ w wx v L:=⟨h.ext.tr e,h.own.ext e,h.form⟩
theorem LsZ.rd {w wr:World}{v:Value}{L:List NC} (h:LsZ w wr v L):RdN wr v L:=h.own.rd
theorem rL (w:World) (c:NC):RdK (w.alloc (.cells (aF c).toArray 56)) 11 (.slice (some ⟨w.heap.size,0,none⟩) 1 1) (aF c):=by
 have:=RdK.lit w 11 (aF c).toArray 56 1 rfl (by unfold maxLen;omega)
 simpa using this
set_option maxHeartbeats 4000000 in
theorem zN {v1:Value}{roots:List NC} (st:List UInt8) (day:Int) (w:World) (h1:RdN w v1 roots) (hs1:smL roots) (hl:roots.length≤900000) (E:dI w 0) :
 Calls Tryz.prog 126 #[v1,.string (aI st),.int .i64 day] w fun e w'=>∃ v,e=.returned v∧LsZ w w' v (bN roots st day):=by
 obtain ⟨A1,n1,c1,rfl,hn1,hnc1,hcm1,hel1⟩:=h1.at_
 subst hn1
 have HEL1:=VR hel1
 unfold maxLen at hcm1
 have HON:=VR (fun (c:NC) (hs:smN c) W=>fT c day W hs)
 have HRT:=VR (fun (c:NC) (hs:smN c) W (e:Ext w W)=>jB c W hs (E.below e))
 have HS1:=VR hs1
 have HQ:=VR (fun s=>fX s st)
 clear hel1 h1 hs1 E
 go_enter Tryz.func126,Tryz.ntmps126
 go_wp2_with fail
 go_loopw [7,8] (fun out i wr=>∃ k:Nat,k≤roots.length∧i=.int .i64 (k:Int)∧Hid (LsZ w wr out (bN (roots.take k) st day))) (fun _ i _=>roots.length - (intOf i).toNat)
 case atStart=>exact ⟨0,V7 _,rfl,VR ⟨Below.refl _ _,aJ.empty _ _ _ _ _,_,_,rfl⟩⟩
 case round =>
  obtain ⟨k,hk,rfl,Z⟩:=hrel
  obtain ⟨Ao,co,rfl⟩:=Z.out.form
  by_cases hlt:k<roots.length
  case neg =>
   obtain rfl:k=roots.length:=by omega
   have HF:Hid (LsZ w wr _ (bN roots st day)):=VR (by have:=Z.out;rw [List.take_length] at this;exact this)
   clear Z
   go_wp2_with fail
   go_ret
   exact ⟨_,rfl,by have:=HF.out;simpa [List.take_length] using this⟩
  case pos =>
  obtain ⟨y,hy⟩:∃ y,roots[k]?=some y:=⟨_,V8 hlt⟩
  obtain ⟨b,o,rfl,hbl,hc⟩:=HEL1.out (by omega)
  have hcy:=hc k y hy
  have HY:=VR hy
  have HSY:=VR (HS1.out y (VD hy))
  have X:=Z.out.ext
  clear hy hc
  have wi1:IntKind.i64.wrap ((k:Int))=(k:Int):=IntWalk.i64_in _ (by omega)
  have zi1:(0:Int)≤(k:Int):=by omega
  have li1:(k:Int)<(roots.length:Int):=by omega
  have ti1:((k:Int)).toNat=k:=by omega
  have wk:IntKind.i64.wrap ((k:Int)+1)=(k:Int)+1:=IntWalk.i64_in _ (by omega)
  have q0:=(X.cell (p:=⟨b,o+k*11,none⟩) hbl).trans hcy.1
  have q1:=(X.cell (p:=⟨b,o+k*11+1,none⟩) hbl).trans hcy.2.1
  have q2:=(X.cell (p:=⟨b,o+k*11+2,none⟩) hbl).trans hcy.2.2.1
  have q3:=(X.cell (p:=⟨b,o+k*11+3,none⟩) hbl).trans hcy.2.2.2.1
  have q4:=(X.cell (p:=⟨b,o+k*11+4,none⟩) hbl).trans hcy.2.2.2.2.1
  have q5:=(X.cell (p:=⟨b,o+k*11+5,none⟩) hbl).trans hcy.2.2.2.2.2.1
  have q6:=(X.cell (p:=⟨b,o+k*11+6,none⟩) hbl).trans hcy.2.2.2.2.2.2.1
  have q7:=(X.cell (p:=⟨b,o+k*11+7,none⟩) hbl).trans hcy.2.2.2.2.2.2.2.1
  have q8:=(X.cell (p:=⟨b,o+k*11+8,none⟩) hbl).trans hcy.2.2.2.2.2.2.2.2.1
  have q9:=(X.cell (p:=⟨b,o+k*11+9,none⟩) hbl).trans hcy.2.2.2.2.2.2.2.2.2.1
  have q10:=(X.cell (p:=⟨b,o+k*11+10,none⟩) hbl).trans hcy.2.2.2.2.2.2.2.2.2.2
  clear hcy
  obtain ⟨wn,hwn,en,TN⟩:=cC wr y
  have HSN:=VR (sO st day HY.out)
  have HLE:=VR (show (bN (roots.take k) st day).length≤900000 by have h1:=kA st day (roots.take k);rw [VL] at h1;omega)
  obtain ⟨N,hN⟩:∃ N,bN (roots.take k) st day=N:=⟨_,rfl⟩
  rw [hN] at HSN HLE Z
  rw [hN]
  clear hN
  go_upto_region 6 with fail
  rw [← hwn]
  clear hwn q0 q1 q2 q3 q4 q5 q6 q7 q8 q9 q10 X
  have ZN:=VR (Z.out.tr en)
  clear Z en
  obtain ⟨p0,p1,p2,p3,p4,p5,p6,p7,p8,p9,p10⟩:=(TN).cells
  have pf0:=(TN).frozen 0
  have pf1:=(TN).frozen 1
  have pf2:=(TN).frozen 2
  have pf3:=(TN).frozen 3
  have pf4:=(TN).frozen 4
  have pf5:=(TN).frozen 5
  have pf6:=(TN).frozen 6
  have pf7:=(TN).frozen 7
  have pf8:=(TN).frozen 8
  have pf9:=(TN).frozen 9
  have pf10:=(TN).frozen 10
  have pl:=(TN).lt
  by_cases d1:y.st=st
  case neg =>
   have hb:((aI y.st).toList == (aI st).toList)=false:=by rw [HQ.out];exact decide_eq_false d1
   have HF:=VR (show bN (roots.take (k+1)) st day=N by rw [HSN.out];unfold cD;rw [if_neg (fun q=>d1 q.1.1)])
   clear d1
   go_wp2_with fail
   go_roundw
   case rel=>exact ⟨k+1,by omega,by go_num,by rw [HF.out];exact ZN⟩
   case measure=>simp [intOf];omega
  have hb:((aI y.st).toList == (aI st).toList)=true:=by rw [HQ.out];exact decide_eq_true d1
  have C1:=VR d1
  clear d1
  go_wp2_with fail
  refine (HON.out y HSY.out _).mono ?_
  rintro e w2 ⟨rfl,b2⟩
  have TN2:=TN.ext b2
  have Z2:=VR (ZN.out.tr b2)
  clear p0 pf0 p1 pf1 p2 pf2 p3 pf3 p4 pf4 p5 pf5 p6 pf6 p7 pf7 p8 pf8 p9 pf9 p10 pf10 pl
  clear TN ZN b2
  by_cases d2:onN y day=0
  case neg =>
   have hb2:(onN y day == 0)=false:=by simpa using d2
   have HF:=VR (show bN (roots.take (k+1)) st day=N by rw [HSN.out];unfold cD;rw [if_neg (fun q=>d2 q.1.2.1)])
   clear d2
   go_wp2_with fail
   go_roundw
   case rel=>exact ⟨k+1,by omega,by go_num,by rw [HF.out];exact Z2⟩
   case measure=>simp [intOf];omega
  have hb2:(onN y day == 0)=true:=by simpa using d2
  have C2:=VR d2
  clear d2
  obtain ⟨p0,p1,p2,p3,p4,p5,p6,p7,p8,p9,p10⟩:=(TN2).cells
  have pf0:=(TN2).frozen 0
  have pf1:=(TN2).frozen 1
  have pf2:=(TN2).frozen 2
  have pf3:=(TN2).frozen 3
  have pf4:=(TN2).frozen 4
  have pf5:=(TN2).frozen 5
  have pf6:=(TN2).frozen 6
  have pf7:=(TN2).frozen 7
  have pf8:=(TN2).frozen 8
  have pf9:=(TN2).frozen 9
  have pf10:=(TN2).frozen 10
  have pl:=(TN2).lt
  go_wp2_with fail
  refine (HRT.out y HSY.out _ Z2.out.ext).mono ?_
  rintro e w3 ⟨rfl,b3⟩
  have TN3:=TN2.ext b3
  have Z3:=VR (Z2.out.tr b3)
  clear p0 pf0 p1 pf1 p2 pf2 p3 pf3 p4 pf4 p5 pf5 p6 pf6 p7 pf7 p8 pf8 p9 pf9 p10 pf10 pl
  clear TN2 Z2 b3
  obtain ⟨rb,hrb⟩:∃ rb,rtN y=rb:=⟨_,rfl⟩
  rw [hrb]
  cases rb
  · have HF:=VR (show bN (roots.take (k+1)) st day=N by rw [HSN.out];unfold cD;rw [if_neg (fun q=>by have:=q.1.2.2;rw [hrb] at this;cases this)])
    clear hrb
    go_wp2_with fail
    go_roundw
    case rel=>exact ⟨k+1,by omega,by go_num,by rw [HF.out];exact Z3⟩
    case measure=>simp [intOf];omega
  have C3:=VR hrb
  clear hrb
  obtain ⟨p0,p1,p2,p3,p4,p5,p6,p7,p8,p9,p10⟩:=(TN3).cells
  have pf0:=(TN3).frozen 0
  have pf1:=(TN3).frozen 1
  have pf2:=(TN3).frozen 2
  have pf3:=(TN3).frozen 3
  have pf4:=(TN3).frozen 4
  have pf5:=(TN3).frozen 5
  have pf6:=(TN3).frozen 6
  have pf7:=(TN3).frozen 7
  have pf8:=(TN3).frozen 8
  have pf9:=(TN3).frozen 9
  have pf10:=(TN3).frozen 10
  have pl:=(TN3).lt
  go_wp2_with fail
  refine (CO y _ Z3.out.rd).mono ?_
  rintro e w4 ⟨rfl,b4⟩
  have TN4:=TN3.ext b4
  have Z4:=VR (Z3.out.tr b4)
  clear p0 pf0 p1 pf1 p2 pf2 p3 pf3 p4 pf4 p5 pf5 p6 pf6 p7 pf7 p8 pf8 p9 pf9 p10 pf10 pl
  clear TN3 Z3 b4
  by_cases hm:y ∈ N
  · have HF:=VR (show bN (roots.take (k+1)) st day=N by rw [HSN.out];unfold cD;rw [if_neg (fun q=>q.2 hm)])
    rw [decide_eq_true hm]
    clear hm
    go_wp2_with fail
    go_roundw
    case rel=>exact ⟨k+1,by omega,by go_num,by rw [HF.out];exact Z4⟩
    case measure=>simp [intOf];omega
  have HF:=VR (show bN (roots.take (k+1)) st day=N++[y] by rw [HSN.out];unfold cD;rw [if_pos ⟨⟨C1.out,C2.out,C3.out⟩,hm⟩])
  rw [decide_eq_false hm]
  clear hm
  obtain ⟨p0,p1,p2,p3,p4,p5,p6,p7,p8,p9,p10⟩:=(TN4).cells
  have pf0:=(TN4).frozen 0
  have pf1:=(TN4).frozen 1
  have pf2:=(TN4).frozen 2
  have pf3:=(TN4).frozen 3
  have pf4:=(TN4).frozen 4
  have pf5:=(TN4).frozen 5
  have pf6:=(TN4).frozen 6
  have pf7:=(TN4).frozen 7
  have pf8:=(TN4).frozen 8
  have pf9:=(TN4).frozen 9
  have pf10:=(TN4).frozen 10
  have pl:=(TN4).lt
  have eA:Ext w4 (w4.alloc (.cells (aF y).toArray 56)):=(Below.refl _ _).alloc (UX _) _
  have HRK:=VR (rL w4 y)
  have HOA:=VR (Z4.out.tr eA)
  unfold aF at HRK HOA
  clear eA
  go_wp2_with (refine bP (k:=11) (by decide) gU (n:=N.length) (m:=1) (B:=w.heap.size) HOA.out.own (by rw [bF]) HRK.out (by rfl) (dO y) HOA.out.ext (by have:=HLE.out;omega) (by have:=HLE.out;unfold maxLen;omega) HOA.out.ext.size rfl rfl rfl rfl ?_;intro A8 n8 c8 w8 hn8 o8 x8 _)
  have hn8:n8=(N++[y]).length:=by rw [V5];exact hn8.out
  subst hn8
  have Z8:Hid (LsZ w w8 (.slice A8 (N++[y]).length c8) (N++[y])):=VR ⟨x8,by rw [← eE];exact o8,_,_,rfl⟩
  clear x8 o8
  go_roundw
  case rel=>exact ⟨k+1,by omega,by go_num,by rw [HF.out];exact Z8⟩
  case measure=>simp [intOf];omega
theorem cG.append {S:Nat→Prop}{w:World}{d:Nat}{xs ys:List Value}{ts us:List Nd} (h1:cG S d w xs ts) (h2:cG S d w ys us):cG S d w (xs++ys) (ts++us):=by
 have hl:=h1.1
 refine ⟨by rw [V5,V5,h1.1,h2.1,Nat.add_mul],fun i u hu=>?_⟩
 by_cases hi:i<ts.length
 · rw [List.getElem?_append_left hi] at hu
   obtain ⟨B1,m1,d1,B2,m2,d2,e0,e1,e2,q1,q2⟩:=h1.2 i u hu
   exact ⟨B1,m1,d1,B2,m2,d2,by rw [List.getElem?_append_left (by omega)];exact e0,by rw [List.getElem?_append_left (by omega)];exact e1,by rw [List.getElem?_append_left (by omega)];exact e2,q1,q2⟩
 · rw [List.getElem?_append_right (by omega)] at hu
   obtain ⟨B1,m1,d1,B2,m2,d2,e0,e1,e2,q1,q2⟩:=h2.2 _ u hu
   exact ⟨B1,m1,d1,B2,m2,d2,by rw [List.getElem?_append_right (by omega),show i*3 - xs.length=(i - ts.length)*3 by omega];exact e0,by rw [List.getElem?_append_right (by omega),show i*3+1 - xs.length=(i - ts.length)*3+1 by omega];exact e1,by rw [List.getElem?_append_right (by omega),show i*3+2 - xs.length=(i - ts.length)*3+2 by omega];exact e2,q1,q2⟩
def NdF (B d:Nat) (ts:List Nd):aE:=fun v w=>∃ (g:Nat) (cs:Array Value),v=.slice (some ⟨g,0,none⟩) ts.length ts.length∧B≤g∧w.heap[g]?=some (.cells cs 180 (0,0))∧cG (fun b=>B≤b) d w cs.toList ts
theorem vP (B d:Nat) (ts:List Nd):bK (NdF B d ts):=fun v w w' e ⟨g,cs,h1,h2,h3,h4⟩=>⟨g,cs,h1,h2,(e.block g (a9 h3)).trans h3,h4.map fun b hb hlt=>⟨hb,e.block b hlt⟩⟩
set_option maxHeartbeats 1000000 in
theorem PZ (W:World) (z0:Int) (a0 b0:Option Addr) (n0 c0 m0 d0:Nat) (z1:Int) (a1 b1:Option Addr) (n1 c1 m1 d1:Nat) (z2:Int) (a2 b2:Option Addr) (n2 c2 m2 d2:Nat):(Instr.buildSlice 178 3 [(0,.agg #[.int .i64 z0,.slice a0 n0 c0,.slice b0 m0 d0]),(1,.agg #[.int .i64 z1,.slice a1 n1 c1,.slice b1 m1 d1]),(2,.agg #[.int .i64 z2,.slice a2 n2 c2,.slice b2 m2 d2])].toArray).run Tryz.prog W=.ok (.slice (some ⟨W.heap.size,0,none⟩) 3 3) (W.alloc (.cells #[.int .i64 z0,.slice a0 n0 c0,.slice b0 m0 d0,.int .i64 z1,.slice a1 n1 c1,.slice b1 m1 d1,.int .i64 z2,.slice a2 n2 c2,.slice b2 m2 d2] 180)):=by go_simp
theorem CQ {B d:Nat} (W:World) (hB:B≤W.heap.size) {v0 v1:Value}{t0 t1:Nd} (h0:NdG B d t0 v0 W) (h1:NdG B d t1 v1 W):∃ v' w'',(Instr.buildSlice 178 2 [(0,v0),(1,v1)].toArray).run Tryz.prog W=.ok v' w''∧Ext W w''∧NdF B d [t0,t1] v' w'':=by
 obtain ⟨a0,n0,c0,b0,m0,d0,rfl,r0,k0⟩:=h0
 obtain ⟨a1,n1,c1,b1,m1,d1,rfl,r1,k1⟩:=h1
 have e:Ext W (W.alloc (.cells #[.int .i64 t0.tag,.slice a0 n0 c0,.slice b0 m0 d0,.int .i64 t1.tag,.slice a1 n1 c1,.slice b1 m1 d1] 180)):=(Below.refl _ _).alloc (UX _) _
 exact ⟨_,_,GT W t0.tag a0 b0 n0 c0 m0 d0 t1.tag a1 b1 n1 c1 m1 d1,e,_,_,rfl,hB,aC W _,(((cG.nil _ d W).snoc r0 k0).snoc r1 k1).map fun b hb hlt=>⟨hb,e.block b hlt⟩⟩
section
variable {P:Program}{ops:Array Oper}{rest:List Oper}{o:Oper}{a:Act}{Q:Exit→Act→World→Prop}{w:World}
theorem CR {t1 t2:TypeId}{x:Operand}{xv v:Value}{w':World} (hgd:o.guard=none) (ho:o.op=.convert t1 t2 x) (hx:a.eval x=xv) (hr:(convert t1 t2 xv).run P w=.ok v w') (h:wpList P ops Q rest (a.put o.dst v) w'):wpList P ops Q (o::rest) a w :=
 wpList_plain hgd fun _ hK=>by
  unfold Oper.wp execOp
  simp only [ho,hx,hr,Sem.run_bind,Sem.run_pure,Result.andThen_ok]
  exact hK _ _ h
end
theorem CT (st:List UInt8) (num:Int) (w:World) (hs:st.length≤4096) (h0:0≤num) (h1:num<9223372036854775808) :
 Calls Tryz.prog 151 #[.string (aI st),.int .i64 num] w fun e w'=>∃ v,e=.returned v∧Ext w w'∧NdF w.heap.size 0 [bA 19 st,bA 130 (be4 num)] v w':=by
 obtain ⟨v1,w1,r1,x1,g1⟩:=zF (B:=w.heap.size) w (UX _) st hs
 obtain ⟨A1,n1,c1,rfl⟩:=g1.slice
 go_enter Tryz.func151,Tryz.ntmps151
 go_wp2_with (refine CR rfl rfl rfl r1 ?_)
 refine (oH (B:=w.heap.size) (d:=0) w1 19 g1).mono ?_
 rintro e w2 ⟨v2,rfl,x2,g2⟩
 go_wp2_with fail
 refine (gC 4 num 4 w2 h0 h1 rfl (by omega)).mono ?_
 rintro e w3 hb
 obtain ⟨v3,rfl,x3,g3⟩:=(BZ num ▸ hb:gP w2 (be4 num) _ _).gs (V9 x1.size x2.size)
 go_wp2_with fail
 refine (oH (B:=w.heap.size) (d:=0) w3 130 g3).mono ?_
 rintro e w4 ⟨v4,rfl,x4,g4⟩
 have g2':=bI _ _ _ _ _ _ (x3.tr x4) g2
 have xw:=((x1.tr x2).tr x3).tr x4
 obtain ⟨v5,w5,r5,x5,g5⟩:=CQ w4 xw.size g2' g4
 obtain ⟨a0,n0,c0,b0,m0,d0,rfl,r0,k0⟩:=g2'
 obtain ⟨a1,n1',c1',b1,m1,d1,rfl,r1',k1⟩:=g4
 rw [GT] at r5
 injection r5 with e1 e2
 subst e1 e2
 go_wp2_with fail
 go_ret
 exact ⟨_,rfl,xw.tr x5,g5⟩
theorem N0 {B B' d:Nat}{ts:List Nd}{v:Value}{w:World} (h:NdF B d ts v w) (hB:B'≤B):NdF B' d ts v w:=by
 obtain ⟨g,cs,h1,h2,h3,h4⟩:=h
 exact ⟨g,cs,h1,V9 hB h2,h3,h4.map fun b hb _=>⟨V9 hB hb,rfl⟩⟩
def GSl (l:List NC):aE:=fun v w=>∃ A n c,v=.slice A n c∧n=l.length∧RdN w (.slice A n c) l
theorem FG (l:List NC):bK (GSl l):=fun v w w' e ⟨A,n,c,h1,h2,h3⟩=>⟨A,n,c,h1,h2,RdK.ext h3 e⟩
theorem PY.gsl {w:World}{l:List NC}{e:Ending}{w':World} (h:PY w l e w'):∃ v,e=.returned v∧Ext w w'∧GSl l v w':=by
 obtain ⟨h1,A,c,h2,h3⟩:=h
 exact ⟨_,h2,h1,A,_,c,rfl,rfl,h3⟩
set_option maxHeartbeats 2000000 in
theorem FH {v1 v2:Value}{l:List NC} (w:World) (h1:RdN w v1 l) (h2:RdN w v2 l) :
 Calls Tryz.prog 146 #[v1,v2] w (eP w (.bool true)):=by
 obtain ⟨A1,n1,c1,rfl,hn1,hnc1,hcm1,hel1⟩:=h1.at_
 subst hn1
 have HEL1:=VR hel1
 unfold maxLen at hcm1
 obtain ⟨A2,n2,c2,rfl,hn2,hnc2,hcm2,hel2⟩:=h2.at_
 subst hn2
 have HEL2:=VR hel2
 unfold maxLen at hcm2
 have HEQ:=VR (fun W (y:NC)=>(by have h:=yC W y y;simpa using h:(binOp .neq 56 (ncV y) (ncV y)).run Tryz.prog W=.ok (.bool false) W))
 clear hel1 hel2 h1 h2
 go_enter Tryz.func146,Tryz.ntmps146
 go_wp2_with fail
 go_loopw [5] (fun i wr=>∃ k:Nat,k≤l.length∧i=.int .i64 (k:Int)∧Ext w wr) (fun i _=>l.length - (intOf i).toNat)
 case atStart=>exact ⟨0,V7 _,rfl,Below.refl _ _⟩
 case round =>
  obtain ⟨k,hk,rfl,X⟩:=hrel
  by_cases hlt:k<l.length
  case neg =>
   obtain rfl:k=l.length:=by omega
   have HX:=VR X
   clear X
   go_wp2_with fail
   go_ret
   exact ⟨rfl,HX.out⟩
  case pos =>
  obtain ⟨y,hy⟩:∃ y,l[k]?=some y:=⟨_,V8 hlt⟩
  obtain ⟨b1,o1,rfl,hb1,hc1⟩:=HEL1.out (by omega)
  obtain ⟨b2,o2,rfl,hb2,hc2⟩:=HEL2.out (by omega)
  have g1:=hc1 k y hy
  have g2:=hc2 k y hy
  have eqq:=fun W=>HEQ.out W y
  unfold ncV at eqq
  clear hc1 hc2 hy
  have wi1:IntKind.i64.wrap ((k:Int))=(k:Int):=IntWalk.i64_in _ (by omega)
  have zi1:(0:Int)≤(k:Int):=by omega
  have li1:(k:Int)<(l.length:Int):=by omega
  have ti1:((k:Int)).toNat=k:=by omega
  have wk:IntKind.i64.wrap ((k:Int)+1)=(k:Int)+1:=IntWalk.i64_in _ (by omega)
  have p0:=(X.cell (p:=⟨b1,o1+k*11,none⟩) hb1).trans g1.1
  have p1:=(X.cell (p:=⟨b1,o1+k*11+1,none⟩) hb1).trans g1.2.1
  have p2:=(X.cell (p:=⟨b1,o1+k*11+2,none⟩) hb1).trans g1.2.2.1
  have p3:=(X.cell (p:=⟨b1,o1+k*11+3,none⟩) hb1).trans g1.2.2.2.1
  have p4:=(X.cell (p:=⟨b1,o1+k*11+4,none⟩) hb1).trans g1.2.2.2.2.1
  have p5:=(X.cell (p:=⟨b1,o1+k*11+5,none⟩) hb1).trans g1.2.2.2.2.2.1
  have p6:=(X.cell (p:=⟨b1,o1+k*11+6,none⟩) hb1).trans g1.2.2.2.2.2.2.1
  have p7:=(X.cell (p:=⟨b1,o1+k*11+7,none⟩) hb1).trans g1.2.2.2.2.2.2.2.1
  have p8:=(X.cell (p:=⟨b1,o1+k*11+8,none⟩) hb1).trans g1.2.2.2.2.2.2.2.2.1
  have p9:=(X.cell (p:=⟨b1,o1+k*11+9,none⟩) hb1).trans g1.2.2.2.2.2.2.2.2.2.1
  have p10:=(X.cell (p:=⟨b1,o1+k*11+10,none⟩) hb1).trans g1.2.2.2.2.2.2.2.2.2.2
  have q0:=(X.cell (p:=⟨b2,o2+k*11,none⟩) hb2).trans g2.1
  have q1:=(X.cell (p:=⟨b2,o2+k*11+1,none⟩) hb2).trans g2.2.1
  have q2:=(X.cell (p:=⟨b2,o2+k*11+2,none⟩) hb2).trans g2.2.2.1
  have q3:=(X.cell (p:=⟨b2,o2+k*11+3,none⟩) hb2).trans g2.2.2.2.1
  have q4:=(X.cell (p:=⟨b2,o2+k*11+4,none⟩) hb2).trans g2.2.2.2.2.1
  have q5:=(X.cell (p:=⟨b2,o2+k*11+5,none⟩) hb2).trans g2.2.2.2.2.2.1
  have q6:=(X.cell (p:=⟨b2,o2+k*11+6,none⟩) hb2).trans g2.2.2.2.2.2.2.1
  have q7:=(X.cell (p:=⟨b2,o2+k*11+7,none⟩) hb2).trans g2.2.2.2.2.2.2.2.1
  have q8:=(X.cell (p:=⟨b2,o2+k*11+8,none⟩) hb2).trans g2.2.2.2.2.2.2.2.2.1
  have q9:=(X.cell (p:=⟨b2,o2+k*11+9,none⟩) hb2).trans g2.2.2.2.2.2.2.2.2.2.1
  have q10:=(X.cell (p:=⟨b2,o2+k*11+10,none⟩) hb2).trans g2.2.2.2.2.2.2.2.2.2.2
  clear g1 g2
  go_upto_region 6 with fail
  (go_quiet (fail);have x9:=Ext.drewN_ wr nq;generalize wr.drewN nq=wb at *)
  have X9:=X.tr x9
  clear X x9 p0 p1 p2 p3 p4 p5 p6 p7 p8 p9 p10 q0 q1 q2 q3 q4 q5 q6 q7 q8 q9 q10 eqq
  go_wp2_with fail
  go_roundw
  case rel=>exact ⟨k+1,by omega,by go_num,X9⟩
  case measure=>simp [intOf];omega
end Go.Proofs.YtkjplpmogfmhkaaGreatDoor
