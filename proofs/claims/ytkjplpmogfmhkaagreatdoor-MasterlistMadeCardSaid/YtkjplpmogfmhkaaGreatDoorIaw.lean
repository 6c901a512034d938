/- Parts Jd Ra Rd Rh Jf Jg Jh Rc Ky of the proof. -/
import Derived.Test.YtkjplpmogfmhkaaGreatDoorIav
import Derived.Test.YtkjplpmogfmhkaaGreatDoorIat
import Derived.Test.YtkjplpmogfmhkaaGreatDoorIar
import Derived.Deep.CutRange
import Derived.Test.YtkjplpmogfmhkaaGreatDoorIas
import Derived.Deep.CutBlock
namespace Go.Proofs.YtkjplpmogfmhkaaGreatDoor
open Go.RowKit
set_option linter.unusedVariables false
set_option maxRecDepth 100000
theorem M5:kA Tryz.prog 41 3 1 8:=by
 have h:(Tryz.prog.info? 3).map (fun i=>(i.zero,i.size,i.bytes))=some (some (.int .i64 0),1,8):=by kernel_rfl
 obtain ⟨i,h1,h2,h3,h4⟩:=info_parts h
 exact ⟨i,_,Tryz.underlying41,h1,h2,h3,h4,rfl⟩
def wL (L:List NC) (c:NC):List NC:=if c ∈ L then L else L++[c]
def wM (L:List NC) (R:List Int) (c:NC) (rd:Int):List Int:=if c ∈ L then R else R++[rd]
theorem S4 {L:List NC}{R:List Int} (h:R.length=L.length) (c:NC) (rd:Int):(wM L R c rd).length=(wL L c).length:=by
 unfold wM wL
 split
 · exact h
 · simp [h]
def TF (w:World) (B S:Nat) (day:Int) (L:List NC) (R:List Int) (c:NC) (rd:Int) (e:Ending) (w':World):Prop :=
 Below B w w'∧e=.returned (.bool (decide (c ∉ L)))∧∃ v1 v2,gU w' B S day v1 v2 (wL L c) (wM L R c rd)
theorem P3 (L:List NC) (c:NC):aA L++aE c=aA (L++[c]):=cZ L c
theorem M6 (R:List Int) (x:Int):aZ R++[.int .i64 x]=aZ (R++[x]):=by simp [aZ]
set_option maxHeartbeats 4000000 in
theorem P4 {B S:Nat}{day:Int}{v1 v2:Value}{L:List NC}{R:List Int} (c:NC) (rd:Int) (w:World) (hS:gU w B S day v1 v2 L R) (hB:B≤w.heap.size) (hBS:B≤S) (hl:L.length≤1000000) :
 Calls Tryz.prog 196 #[.pointer (some ⟨S,0,none⟩),ncV c,.int .i64 rd] w (TF w B S day L R c rd):=by
 obtain ⟨A1,c1,A2,c2,rfl,rfl,hc1,hc2,hm1,hm2⟩:=hS.forms
 have hv:RdN w (.slice A1 L.length c1) L:=hS.own1.rd
 obtain ⟨A',n',c',e9,hn,hnc,hcm,hel⟩:=hv.at_
 injection e9 with e1 e2 e3
 subst e1 e2 e3
 clear hn
 have HEL:=UP hel
 unfold maxLen at hcm hm1 hm2
 clear hel hv hnc hcm
 obtain ⟨wz,hwz,ez,TZ⟩:=cB w c
 have HEQ:=UP (fun W y=>rJ W y c)
 have HS:=UP hS
 have HZ:=UP TZ
 have HB:=UP (show B≤w.heap.size∧B≤S from ⟨hB,hBS⟩)
 obtain ⟨s0,s1,s2⟩:=(hS.ext ez).cells
 have sl:=(hS.ext ez).lt
 unfold ncV
 clear TZ hS hB hBS
 go_enter Tryz.func196,Tryz.ntmps196
 go_upto_region 1 with fail
 rw [← hwz]
 clear hwz
 go_wp2_with fail
 clear s0 s1 s2 sl
 go_loopw [14] (fun i wr=>∃ k:Nat,k≤L.length∧i=.int .i64 (k:Int)∧Hid (∀ j,j<k→L[j]?≠some c)∧Ext wz wr) (fun i _=>L.length - (intOf i).toNat)
 case atStart=>exact ⟨0,U4 _,rfl,fun j hj=>absurd hj (Nat.not_lt_zero _),Below.refl _ _⟩
 case round =>
  obtain ⟨k,hk,rfl,HN,X⟩:=hrel
  by_cases hlt:k<L.length
  case neg =>
   obtain rfl:k=L.length:=by omega
   have HR:=UP (EJ HN.out)
   have S7:=HS.out.ext (ez.tr X)
   have Z7:=HZ.out.ext X
   have XB:=UP ((ez.tr X).mono HB.out.1)
   have hBr:B≤wr.heap.size:=U9 HB.out.1 (ez.tr X).size
   have k1:=pO HS.out.own1
   have k2:=pO HS.out.own2
   clear X hk hlt
   go_upto_region 7 with fail
   refine wp_region_any (by kernel_rfl) ?_
   have xd:Ext wr wr.drew:=(Below.refl _ _).drew
   change wpAny _ _ _ _ (21+1) _ _ wr.drew
   have S7:=S7.ext xd
   have Z7:=Z7.ext xd
   have XB:=UP (XB.out.trans (xd.mono hBr))
   have hBr:B≤wr.drew.heap.size:=hBr
   clear xd
   generalize wr.drew=wr at *
   refine C4 (i:=1) 23 (v:=.pointer (some ⟨S,0,none⟩)) rfl rfl (by kernel_rfl) (by kernel_rfl) (by kernel_rfl) (fun _ _ _ h=>h) (Or.inl ⟨by rfl,fun w=>by go_simp⟩) ?_
   refine S3 (ops2:=([{ dst:=some 22,op:=Op.move (Operand.tmp 0),type:=151,pos:= "",after:=#[],guard:=none }, { dst:=some 24,op:=Op.move (Operand.tmp 0),type:=151,pos:= "",after:=#[],guard:=none }, { dst:=some 25,op:=Op.nilCheck (Operand.tmp 24),type:=0,pos:= "",after:=#[{ on:=1,ground:=Ground.data }],guard:=none }, { dst:=some 26,op:=Op.fieldAddr 155 (Operand.tmp 25) 1,type:=0,pos:= "",after:=#[{ on:=2,ground:=Ground.data }],guard:=none }, { dst:=some 27,op:=Op.load 51 (Operand.tmp 26),type:=51,pos:= "",after:=#[{ on:=3,ground:=Ground.data }],guard:=none }, { dst:=some 28,op:=Op.load 56 (Operand.tmp 4),type:=56,pos:= "",after:=#[],guard:=none }, { dst:=some 29,op:=Op.buildSlice 51 1 #[(0,Operand.tmp 28)],type:=51,pos:= "",after:=#[{ on:=5,ground:=Ground.data }],guard:=none }, { dst:=some 30,op:=Op.call { callee:=Callee.builtin Builtin.append,args:=#[Operand.tmp 27,Operand.tmp 29],argTypes:=#[51,51] },type:=51,pos:= "",after:=#[{ on:=4,ground:=Ground.data },{ on:=6,ground:=Ground.data }],guard:=none }, { dst:=some 31,op:=Op.move (Operand.tmp 0),type:=151,pos:= "",after:=#[],guard:=none }, { dst:=some 32,op:=Op.nilCheck (Operand.tmp 31),type:=0,pos:= "",after:=#[{ on:=8,ground:=Ground.data }],guard:=none }, { dst:=some 33,op:=Op.fieldAddr 155 (Operand.tmp 32) 2,type:=0,pos:= "",after:=#[{ on:=9,ground:=Ground.data }],guard:=none }, { dst:=some 34,op:=Op.load 41 (Operand.tmp 33),type:=41,pos:= "",after:=#[{ on:=10,ground:=Ground.data }],guard:=none }, { dst:=some 35,op:=Op.move (Operand.tmp 2),type:=3,pos:= "",after:=#[],guard:=none }, { dst:=some 36,op:=Op.buildSlice 41 1 #[(0,Operand.tmp 35)],type:=41,pos:= "",after:=#[{ on:=12,ground:=Ground.data }],guard:=none }, { dst:=some 37,op:=Op.call { callee:=Callee.builtin Builtin.append,args:=#[Operand.tmp 34,Operand.tmp 36],argTypes:=#[41,41] },type:=41,pos:= "",after:=#[{ on:=11,ground:=Ground.data },{ on:=13,ground:=Ground.data },{ on:=7,ground:=Ground.data }],guard:=none }, { dst:=some 38,op:=Op.nilCheck (Operand.tmp 22),type:=0,pos:= "",after:=#[{ on:=0,ground:=Ground.data },{ on:=1,ground:=Ground.data },{ on:=2,ground:=Ground.data },{ on:=3,ground:=Ground.data },{ on:=4,ground:=Ground.data },{ on:=5,ground:=Ground.data },{ on:=6,ground:=Ground.data },{ on:=7,ground:=Ground.data },{ on:=11,ground:=Ground.data },{ on:=14,ground:=Ground.data }],guard:=none }, { dst:=some 39,op:=Op.fieldAddr 155 (Operand.tmp 38) 1,type:=0,pos:= "",after:=#[{ on:=15,ground:=Ground.data },{ on:=0,ground:=Ground.data },{ on:=1,ground:=Ground.data },{ on:=2,ground:=Ground.data },{ on:=3,ground:=Ground.data },{ on:=4,ground:=Ground.data },{ on:=5,ground:=Ground.data },{ on:=6,ground:=Ground.data },{ on:=7,ground:=Ground.data },{ on:=11,ground:=Ground.data },{ on:=14,ground:=Ground.data }],guard:=none }, { dst:=none,op:=Op.store 51 (Operand.tmp 39) (Operand.tmp 30),type:=0,pos:= "",after:=#[{ on:=16,ground:=Ground.data },{ on:=7,ground:=Ground.data },{ on:=14,ground:=Ground.data },{ on:=0,ground:=Ground.data },{ on:=1,ground:=Ground.data },{ on:=2,ground:=Ground.data },{ on:=3,ground:=Ground.data },{ on:=4,ground:=Ground.data },{ on:=5,ground:=Ground.data },{ on:=6,ground:=Ground.data },{ on:=11,ground:=Ground.data }],guard:=none }, { dst:=some 40,op:=Op.nilCheck (Operand.tmp 23),type:=0,pos:= "",after:=#[{ on:=0,ground:=Ground.data },{ on:=1,ground:=Ground.data },{ on:=2,ground:=Ground.data },{ on:=3,ground:=Ground.data },{ on:=4,ground:=Ground.data },{ on:=5,ground:=Ground.data },{ on:=6,ground:=Ground.data },{ on:=7,ground:=Ground.data },{ on:=8,ground:=Ground.data },{ on:=9,ground:=Ground.data },{ on:=10,ground:=Ground.data },{ on:=11,ground:=Ground.data },{ on:=12,ground:=Ground.data },{ on:=13,ground:=Ground.data },{ on:=14,ground:=Ground.data },{ on:=15,ground:=Ground.data },{ on:=16,ground:=Ground.data },{ on:=17,ground:=Ground.data }],guard:=none }, { dst:=some 41,op:=Op.fieldAddr 155 (Operand.tmp 40) 2,type:=0,pos:= "",after:=#[{ on:=18,ground:=Ground.data },{ on:=0,ground:=Ground.data },{ on:=1,ground:=Ground.data },{ on:=2,ground:=Ground.data },{ on:=3,ground:=Ground.data },{ on:=4,ground:=Ground.data },{ on:=5,ground:=Ground.data },{ on:=6,ground:=Ground.data },{ on:=7,ground:=Ground.data },{ on:=8,ground:=Ground.data },{ on:=9,ground:=Ground.data },{ on:=10,ground:=Ground.data },{ on:=11,ground:=Ground.data },{ on:=12,ground:=Ground.data },{ on:=13,ground:=Ground.data },{ on:=14,ground:=Ground.data },{ on:=15,ground:=Ground.data },{ on:=16,ground:=Ground.data },{ on:=17,ground:=Ground.data }],guard:=none }, { dst:=none,op:=Op.store 41 (Operand.tmp 41) (Operand.tmp 37),type:=0,pos:= "",after:=#[{ on:=19,ground:=Ground.data },{ on:=14,ground:=Ground.data },{ on:=17,ground:=Ground.data },{ on:=0,ground:=Ground.data },{ on:=1,ground:=Ground.data },{ on:=2,ground:=Ground.data },{ on:=3,ground:=Ground.data },{ on:=4,ground:=Ground.data },{ on:=5,ground:=Ground.data },{ on:=6,ground:=Ground.data },{ on:=7,ground:=Ground.data },{ on:=8,ground:=Ground.data },{ on:=9,ground:=Ground.data },{ on:=10,ground:=Ground.data },{ on:=11,ground:=Ground.data },{ on:=12,ground:=Ground.data },{ on:=13,ground:=Ground.data },{ on:=15,ground:=Ground.data },{ on:=16,ground:=Ground.data }],guard:=none }]:List Oper).toArray) (l1:=(Array.replicate 22 false).setIfInBounds 1 true) (s:=[0,2,3,4,5,6,7,8,9,10,11,12,13,14,15,16,17,18,19,20,21]) (OS (by kernel_rfl)) (OT (by kernel_rfl)) 21 _ (Array.replicate 21 false) _ _ rfl rfl (fun _ _ h=>h) (of_decide_eq_true (by kernel_rfl)) ?_
   simp only [Act.put,TO,TQ,TU]
   refine Gr.OU (r:=seR B (.slice A1 L.length c1) (.slice A2 L.length c2) L.length (aA L) (aA L++aE c) (aZ R) (aZ R++[Value.int .i64 rd])) (l:=[{ dst:=some 22,op:=Op.move (Operand.tmp 0),type:=151,pos:= "",after:=#[],guard:=none }, { dst:=some 24,op:=Op.move (Operand.tmp 0),type:=151,pos:= "",after:=#[],guard:=none }, { dst:=some 25,op:=Op.nilCheck (Operand.tmp 24),type:=0,pos:= "",after:=#[{ on:=1,ground:=Ground.data }],guard:=none }, { dst:=some 26,op:=Op.fieldAddr 155 (Operand.tmp 25) 1,type:=0,pos:= "",after:=#[{ on:=2,ground:=Ground.data }],guard:=none }, { dst:=some 27,op:=Op.load 51 (Operand.tmp 26),type:=51,pos:= "",after:=#[{ on:=3,ground:=Ground.data }],guard:=none }, { dst:=some 28,op:=Op.load 56 (Operand.tmp 4),type:=56,pos:= "",after:=#[],guard:=none }, { dst:=some 29,op:=Op.buildSlice 51 1 #[(0,Operand.tmp 28)],type:=51,pos:= "",after:=#[{ on:=5,ground:=Ground.data }],guard:=none }, { dst:=some 30,op:=Op.call { callee:=Callee.builtin Builtin.append,args:=#[Operand.tmp 27,Operand.tmp 29],argTypes:=#[51,51] },type:=51,pos:= "",after:=#[{ on:=4,ground:=Ground.data },{ on:=6,ground:=Ground.data }],guard:=none }, { dst:=some 31,op:=Op.move (Operand.tmp 0),type:=151,pos:= "",after:=#[],guard:=none }, { dst:=some 32,op:=Op.nilCheck (Operand.tmp 31),type:=0,pos:= "",after:=#[{ on:=8,ground:=Ground.data }],guard:=none }, { dst:=some 33,op:=Op.fieldAddr 155 (Operand.tmp 32) 2,type:=0,pos:= "",after:=#[{ on:=9,ground:=Ground.data }],guard:=none }, { dst:=some 34,op:=Op.load 41 (Operand.tmp 33),type:=41,pos:= "",after:=#[{ on:=10,ground:=Ground.data }],guard:=none }, { dst:=some 35,op:=Op.move (Operand.tmp 2),type:=3,pos:= "",after:=#[],guard:=none }, { dst:=some 36,op:=Op.buildSlice 41 1 #[(0,Operand.tmp 35)],type:=41,pos:= "",after:=#[{ on:=12,ground:=Ground.data }],guard:=none }, { dst:=some 37,op:=Op.call { callee:=Callee.builtin Builtin.append,args:=#[Operand.tmp 34,Operand.tmp 36],argTypes:=#[41,41] },type:=41,pos:= "",after:=#[{ on:=11,ground:=Ground.data },{ on:=13,ground:=Ground.data },{ on:=7,ground:=Ground.data }],guard:=none }, { dst:=some 38,op:=Op.nilCheck (Operand.tmp 22),type:=0,pos:= "",after:=#[{ on:=0,ground:=Ground.data },{ on:=1,ground:=Ground.data },{ on:=2,ground:=Ground.data },{ on:=3,ground:=Ground.data },{ on:=4,ground:=Ground.data },{ on:=5,ground:=Ground.data },{ on:=6,ground:=Ground.data },{ on:=7,ground:=Ground.data },{ on:=11,ground:=Ground.data },{ on:=14,ground:=Ground.data }],guard:=none }, { dst:=some 39,op:=Op.fieldAddr 155 (Operand.tmp 38) 1,type:=0,pos:= "",after:=#[{ on:=15,ground:=Ground.data },{ on:=0,ground:=Ground.data },{ on:=1,ground:=Ground.data },{ on:=2,ground:=Ground.data },{ on:=3,ground:=Ground.data },{ on:=4,ground:=Ground.data },{ on:=5,ground:=Ground.data },{ on:=6,ground:=Ground.data },{ on:=7,ground:=Ground.data },{ on:=11,ground:=Ground.data },{ on:=14,ground:=Ground.data }],guard:=none }, { dst:=none,op:=Op.store 51 (Operand.tmp 39) (Operand.tmp 30),type:=0,pos:= "",after:=#[{ on:=16,ground:=Ground.data },{ on:=7,ground:=Ground.data },{ on:=14,ground:=Ground.data },{ on:=0,ground:=Ground.data },{ on:=1,ground:=Ground.data },{ on:=2,ground:=Ground.data },{ on:=3,ground:=Ground.data },{ on:=4,ground:=Ground.data },{ on:=5,ground:=Ground.data },{ on:=6,ground:=Ground.data },{ on:=11,ground:=Ground.data }],guard:=none }, { dst:=some 40,op:=Op.nilCheck (Operand.tmp 23),type:=0,pos:= "",after:=#[{ on:=0,ground:=Ground.data },{ on:=1,ground:=Ground.data },{ on:=2,ground:=Ground.data },{ on:=3,ground:=Ground.data },{ on:=4,ground:=Ground.data },{ on:=5,ground:=Ground.data },{ on:=6,ground:=Ground.data },{ on:=7,ground:=Ground.data },{ on:=8,ground:=Ground.data },{ on:=9,ground:=Ground.data },{ on:=10,ground:=Ground.data },{ on:=11,ground:=Ground.data },{ on:=12,ground:=Ground.data },{ on:=13,ground:=Ground.data },{ on:=14,ground:=Ground.data },{ on:=15,ground:=Ground.data },{ on:=16,ground:=Ground.data },{ on:=17,ground:=Ground.data }],guard:=none }, { dst:=some 41,op:=Op.fieldAddr 155 (Operand.tmp 40) 2,type:=0,pos:= "",after:=#[{ on:=18,ground:=Ground.data },{ on:=0,ground:=Ground.data },{ on:=1,ground:=Ground.data },{ on:=2,ground:=Ground.data },{ on:=3,ground:=Ground.data },{ on:=4,ground:=Ground.data },{ on:=5,ground:=Ground.data },{ on:=6,ground:=Ground.data },{ on:=7,ground:=Ground.data },{ on:=8,ground:=Ground.data },{ on:=9,ground:=Ground.data },{ on:=10,ground:=Ground.data },{ on:=11,ground:=Ground.data },{ on:=12,ground:=Ground.data },{ on:=13,ground:=Ground.data },{ on:=14,ground:=Ground.data },{ on:=15,ground:=Ground.data },{ on:=16,ground:=Ground.data },{ on:=17,ground:=Ground.data }],guard:=none }, { dst:=none,op:=Op.store 41 (Operand.tmp 41) (Operand.tmp 37),type:=0,pos:= "",after:=#[{ on:=19,ground:=Ground.data },{ on:=14,ground:=Ground.data },{ on:=17,ground:=Ground.data },{ on:=0,ground:=Ground.data },{ on:=1,ground:=Ground.data },{ on:=2,ground:=Ground.data },{ on:=3,ground:=Ground.data },{ on:=4,ground:=Ground.data },{ on:=5,ground:=Ground.data },{ on:=6,ground:=Ground.data },{ on:=7,ground:=Ground.data },{ on:=8,ground:=Ground.data },{ on:=9,ground:=Ground.data },{ on:=10,ground:=Ground.data },{ on:=11,ground:=Ground.data },{ on:=12,ground:=Ground.data },{ on:=13,ground:=Ground.data },{ on:=15,ground:=Ground.data },{ on:=16,ground:=Ground.data }],guard:=none }]) 15 (by kernel_rfl) ?_
   simp only [UF,UD,UG,UH]
   have LL:∀ m:(seR B (.slice A1 L.length c1) (.slice A2 L.length c2) L.length (aA L) (aA L++aE c) (aZ R) (aZ R++[Value.int .i64 rd])).Lt wr,jX B (.slice A1 L.length c1) (.slice A2 L.length c2) L.length (aA L) (aA L++aE c) (aZ R) (aZ R++[Value.int .i64 rd]) wr m.1:=fun m=>m.2
   have TB:∀ m:(seR B (.slice A1 L.length c1) (.slice A2 L.length c2) L.length (aA L) (aA L++aE c) (aZ R) (aZ R++[Value.int .i64 rd])).Lt wr,bD m.1 w.heap.size c:=fun m=>((LL m).keep _ Z7.lt (fun q=>by have:=k1 _ q;omega) (fun q=>by have:=k2 _ q;omega)).trans Z7
   have TS:=fun m:(seR B (.slice A1 L.length c1) (.slice A2 L.length c2) L.length (aA L) (aA L++aE c) (aZ R) (aZ R++[Value.int .i64 rd])).Lt wr=>(LL m).blk S7.own1 S7.own2 S7.row PZ Q0
   have O1:=fun m:(seR B (.slice A1 L.length c1) (.slice A2 L.length c2) L.length (aA L) (aA L++aE c) (aZ R) (aZ R++[Value.int .i64 rd])).Lt wr=>(LL m).p1 S7.own1
   have O2:=fun m:(seR B (.slice A1 L.length c1) (.slice A2 L.length c2) L.length (aA L) (aA L++aE c) (aZ R) (aZ R++[Value.int .i64 rd])).Lt wr=>(LL m).p2 S7.own2
   have MS:∀ m:(seR B (.slice A1 L.length c1) (.slice A2 L.length c2) L.length (aA L) (aA L++aE c) (aZ R) (aZ R++[Value.int .i64 rd])).Lt wr,w.heap.size≤m.1.heap.size:=fun m=>U9 (Nat.le_of_lt Z7.lt) (LL m).size
   have MB:∀ m:(seR B (.slice A1 L.length c1) (.slice A2 L.length c2) L.length (aA L) (aA L++aE c) (aZ R) (aZ R++[Value.int .i64 rd])).Lt wr,B≤m.1.heap.size:=fun m=>U9 hBr (LL m).size
   have s1:=fun m:(seR B (.slice A1 L.length c1) (.slice A2 L.length c2) L.length (aA L) (aA L++aE c) (aZ R) (aZ R++[Value.int .i64 rd])).Lt wr=>(cell_of_row m.1 S 1 _ _ _ (TS m):m.1.cell? ⟨S,1,none⟩=some (.slice A1 L.length c1))
   have s2:=fun m:(seR B (.slice A1 L.length c1) (.slice A2 L.length c2) L.length (aA L) (aA L++aE c) (aZ R) (aZ R++[Value.int .i64 rd])).Lt wr=>(cell_of_row m.1 S 2 _ _ _ (TS m):m.1.cell? ⟨S,2,none⟩=some (.slice A2 L.length c2))
   have p0:=fun m:(seR B (.slice A1 L.length c1) (.slice A2 L.length c2) L.length (aA L) (aA L++aE c) (aZ R) (aZ R++[Value.int .i64 rd])).Lt wr=>(TB m).cells.1
   have p1:=fun m:(seR B (.slice A1 L.length c1) (.slice A2 L.length c2) L.length (aA L) (aA L++aE c) (aZ R) (aZ R++[Value.int .i64 rd])).Lt wr=>(TB m).cells.2.1
   have p2:=fun m:(seR B (.slice A1 L.length c1) (.slice A2 L.length c2) L.length (aA L) (aA L++aE c) (aZ R) (aZ R++[Value.int .i64 rd])).Lt wr=>(TB m).cells.2.2.1
   have p3:=fun m:(seR B (.slice A1 L.length c1) (.slice A2 L.length c2) L.length (aA L) (aA L++aE c) (aZ R) (aZ R++[Value.int .i64 rd])).Lt wr=>(TB m).cells.2.2.2.1
   have p4:=fun m:(seR B (.slice A1 L.length c1) (.slice A2 L.length c2) L.length (aA L) (aA L++aE c) (aZ R) (aZ R++[Value.int .i64 rd])).Lt wr=>(TB m).cells.2.2.2.2.1
   have p5:=fun m:(seR B (.slice A1 L.length c1) (.slice A2 L.length c2) L.length (aA L) (aA L++aE c) (aZ R) (aZ R++[Value.int .i64 rd])).Lt wr=>(TB m).cells.2.2.2.2.2.1
   have p6:=fun m:(seR B (.slice A1 L.length c1) (.slice A2 L.length c2) L.length (aA L) (aA L++aE c) (aZ R) (aZ R++[Value.int .i64 rd])).Lt wr=>(TB m).cells.2.2.2.2.2.2.1
   have p7:=fun m:(seR B (.slice A1 L.length c1) (.slice A2 L.length c2) L.length (aA L) (aA L++aE c) (aZ R) (aZ R++[Value.int .i64 rd])).Lt wr=>(TB m).cells.2.2.2.2.2.2.2.1
   have p8:=fun m:(seR B (.slice A1 L.length c1) (.slice A2 L.length c2) L.length (aA L) (aA L++aE c) (aZ R) (aZ R++[Value.int .i64 rd])).Lt wr=>(TB m).cells.2.2.2.2.2.2.2.2.1
   have p9:=fun m:(seR B (.slice A1 L.length c1) (.slice A2 L.length c2) L.length (aA L) (aA L++aE c) (aZ R) (aZ R++[Value.int .i64 rd])).Lt wr=>(TB m).cells.2.2.2.2.2.2.2.2.2.1
   have p10:=fun m:(seR B (.slice A1 L.length c1) (.slice A2 L.length c2) L.length (aA L) (aA L++aE c) (aZ R) (aZ R++[Value.int .i64 rd])).Lt wr=>(TB m).cells.2.2.2.2.2.2.2.2.2.2
   repeat (first | (refine Gr.fB (by first | exact trivial | exact ⟨_,rfl,rfl,rfl⟩) _ rfl rfl rfl rfl rfl ?_;simp only [Act.put,TO,TQ,TU]) | (refine Gr.aD (by first | exact trivial | exact ⟨_,rfl,rfl,rfl⟩) rfl rfl rfl rfl rfl (fun K hK=>?_);go_big_quiet_op;refine hK _ ?_;clear hK K))
   refine Gr.bK (by first | exact trivial | exact ⟨_,rfl,rfl,rfl⟩) (EM w.heap.size (aE c).toArray 56) (sN k1 k2 _ _) (fun f=>[(0,ncV c)]) rfl rfl rfl rfl rfl (fun _=>rfl) (fun m f hf=>⟨_,_,M3 m.1 c,(seR B (.slice A1 L.length c1) (.slice A2 L.length c2) L.length (aA L) (aA L++aE c) (aZ R) (aZ R++[Value.int .i64 rd])).ext ((Below.refl _ _).alloc (TM _) _),_,rfl,MS m,aB m.1 _⟩) ?_
   simp only [Act.put,TO,TQ,TU]
   refine Gr.uQ (by first | exact trivial | exact ⟨_,rfl,rfl,rfl⟩) (GO1 B L.length (aA L++aE c)) (EO _ _ _ _ _ _ _ _) (fun _=>.slice A1 L.length c1) (fun f=>f 29) rfl rfl rfl rfl rfl rfl (fun _=>rfl) (fun _=>rfl) (fun m f hf=>?_) ?_
   · have h29:RdK m.1 11 (f 29) (aE c):=by simpa using (hf 29 _ rfl rfl:EM _ _ _ _ _).rd rfl
     obtain ⟨Aq,cq,w',q1,q2,q3,q4,q5⟩:=xH (P:=Tryz.prog) (ty:=_) (by omega) fU (O1 m) (by rw [aX]) h29 (m:=1) rfl (by omega) (cT c) (by omega) (by unfold maxLen;omega) (MB m)
     exact ⟨_,w',q1,jX.app1 (O1 m) (O2 m) q3 q4 q5,Aq,cq,rfl,q2⟩
   simp only [Act.put,TO,TQ,TU]
   repeat (first | (refine Gr.fB (by first | exact trivial | exact ⟨_,rfl,rfl,rfl⟩) _ rfl rfl rfl rfl rfl ?_;simp only [Act.put,TO,TQ,TU]) | (refine Gr.aD (by first | exact trivial | exact ⟨_,rfl,rfl,rfl⟩) rfl rfl rfl rfl rfl (fun K hK=>?_);go_big_quiet_op;refine hK _ ?_;clear hK K))
   refine Gr.bK (by first | exact trivial | exact ⟨_,rfl,rfl,rfl⟩) (EM w.heap.size #[Value.int .i64 rd] 3) (sN k1 k2 _ _) (fun f=>[(0,.int .i64 rd)]) rfl rfl rfl rfl rfl (fun _=>rfl) (fun m f hf=>⟨_,_,M4 m.1 rd,(seR B (.slice A1 L.length c1) (.slice A2 L.length c2) L.length (aA L) (aA L++aE c) (aZ R) (aZ R++[Value.int .i64 rd])).ext ((Below.refl _ _).alloc (TM _) _),_,rfl,MS m,aB m.1 _⟩) ?_
   simp only [Act.put,TO,TQ,TU]
   refine Gr.uQ (by first | exact trivial | exact ⟨_,rfl,rfl,rfl⟩) (GO2 B L.length (aZ R++[Value.int .i64 rd])) (EP _ _ _ _ _ _ _ _) (fun _=>.slice A2 L.length c2) (fun f=>f 36) rfl rfl rfl rfl rfl rfl (fun _=>rfl) (fun _=>rfl) (fun m f hf=>?_) ?_
   · have h36:RdK m.1 1 (f 36) [Value.int .i64 rd]:=by simpa using (hf 36 _ rfl rfl:EM _ _ _ _ _).rd rfl
     obtain ⟨Aq,cq,w',q1,q2,q3,q4,q5⟩:=xH (P:=Tryz.prog) (ty:=_) (by omega) M5 (O2 m) (by rw [lI,Nat.mul_one,HS.out.len]) h36 (m:=1) rfl (by omega) (fun u hu=>by rw [List.mem_singleton.1 hu];rfl) (by omega) (by unfold maxLen;omega) (MB m)
     exact ⟨_,w',q1,jX.app2 (O1 m) (O2 m) q3 q4 q5,Aq,cq,rfl,q2⟩
   simp only [Act.put,TO,TQ,TU]
   refine Gr.cM (fun m f hf=>?_)
   obtain ⟨Aa,ca,e30,o30⟩:=(hf 30 _ rfl:GO1 _ _ _ _ _)
   obtain ⟨Ab,cb,e37,o37⟩:=(hf 37 _ rfl:GO2 _ _ _ _ _)
   simp only [aW]
   simp only [Act.put,TO,TQ,TU]
   rw [e30,e37]
   have Lm:=LL m
   have SM:gU m.1 B S day (.slice A1 L.length c1) (.slice A2 L.length c2) L R:=⟨TS m,O1 m,O2 m,HS.out.len⟩
   generalize f 29=f29 at *
   generalize f 36=f36 at *
   obtain ⟨wm,hwm⟩:=m
   have o30:aJ wm B 56 11 (.slice Aa (L.length+1) ca) (aA (L++[c])):=by rw [← P3];exact o30
   have o37:aJ wm B 3 1 (.slice Ab (L.length+1) cb) (aZ (R++[rd])):=by rw [← M6];exact o37
   have SM:gU wm B S day (.slice A1 L.length c1) (.slice A2 L.length c2) L R:=SM
   have SF:=UP (SM.put o30 o37 (by rw [U0,U0,HS.out.len];rfl))
   have BF:=UP (((XB.out.trans (Lm.below hBr (aT S7.own1) (aT S7.own2))).setCell (p:=⟨S,1,none⟩) HB.out.2 (.slice Aa (L.length+1) ca)).setCell (p:=⟨S,2,none⟩) HB.out.2 (.slice Ab (L.length+1) cb))
   obtain ⟨t0,t1,t2⟩:=SM.cells
   have tf1:=SM.frozen 1
   have tf2:=SM.frozen 2
   have tl:=SM.lt
   clear LL TB TS O1 O2 MS MB s1 s2 p0 p1 p2 p3 p4 p5 p6 p7 p8 p9 p10 hf e30 e37 SM o30 o37 Lm S7 Z7 k1 k2 hBr XB
   show wpList _ _ _ _ _ _
   go_wp2_with fail
   go_ret
   exact ⟨BF.out,by rw [decide_eq_true HR.out];rfl,_,_,by unfold wL wM;rw [if_neg HR.out,if_neg HR.out];exact SF.out⟩
  case pos =>
  obtain ⟨y,hy⟩:∃ y,L[k]?=some y:=⟨_,U5 hlt⟩
  obtain ⟨b,o,rfl,hbl,hc⟩:=HEL.out (by omega)
  have hcy:=hc k y hy
  have HY:=UP hy
  have eqq:=fun W=>HEQ.out W y
  unfold ncV at eqq
  clear hy hc
  have wi1:IntKind.i64.wrap ((k:Int))=(k:Int):=IntWalk.i64_in _ (by omega)
  have zi1:(0:Int)≤(k:Int):=by omega
  have li1:(k:Int)<(L.length:Int):=by omega
  have ti1:((k:Int)).toNat=k:=by omega
  have q0:=((ez.tr X).cell (p:=⟨b,o+k*11,none⟩) hbl).trans hcy.1
  have q1:=((ez.tr X).cell (p:=⟨b,o+k*11+1,none⟩) hbl).trans hcy.2.1
  have q2:=((ez.tr X).cell (p:=⟨b,o+k*11+2,none⟩) hbl).trans hcy.2.2.1
  have q3:=((ez.tr X).cell (p:=⟨b,o+k*11+3,none⟩) hbl).trans hcy.2.2.2.1
  have q4:=((ez.tr X).cell (p:=⟨b,o+k*11+4,none⟩) hbl).trans hcy.2.2.2.2.1
  have q5:=((ez.tr X).cell (p:=⟨b,o+k*11+5,none⟩) hbl).trans hcy.2.2.2.2.2.1
  have q6:=((ez.tr X).cell (p:=⟨b,o+k*11+6,none⟩) hbl).trans hcy.2.2.2.2.2.2.1
  have q7:=((ez.tr X).cell (p:=⟨b,o+k*11+7,none⟩) hbl).trans hcy.2.2.2.2.2.2.2.1
  have q8:=((ez.tr X).cell (p:=⟨b,o+k*11+8,none⟩) hbl).trans hcy.2.2.2.2.2.2.2.2.1
  have q9:=((ez.tr X).cell (p:=⟨b,o+k*11+9,none⟩) hbl).trans hcy.2.2.2.2.2.2.2.2.2.1
  have q10:=((ez.tr X).cell (p:=⟨b,o+k*11+10,none⟩) hbl).trans hcy.2.2.2.2.2.2.2.2.2.2
  clear hcy
  obtain ⟨wn,hwn,en,TN⟩:=cB wr y
  go_upto_region 4 with fail
  rw [← hwn]
  clear hwn q0 q1 q2 q3 q4 q5 q6 q7 q8 q9 q10
  have X9:=X.tr en
  have hne:w.heap.size≠wr.heap.size:=by have:=(HZ.out.ext X).lt;omega
  obtain ⟨p0,p1,p2,p3,p4,p5,p6,p7,p8,p9,p10⟩:=(HZ.out.ext X9).cells
  have pl:=(HZ.out.ext X9).lt
  obtain ⟨t0,t1,t2,t3,t4,t5,t6,t7,t8,t9,t10⟩:=TN.cells
  have tl:=TN.lt
  obtain ⟨d,hd⟩:∃ d,decide (y=c)=d:=⟨_,rfl⟩
  rw [hd] at eqq
  have HD:=UP hd
  clear hd X en
  cases d
  · have HNN:=UP (vC HN.out HY.out (by have:=HD.out;simpa using this))
    go_wp2_with fail
    go_roundw
    case rel=>exact ⟨k+1,by omega,by go_num,HNN,X9⟩
    case measure=>simp [intOf];omega
  · have HC:Hid (L[k]?=some c):=UP (by have:=HD.out;have e:=of_decide_eq_true this;rw [HY.out,e])
    have HM:=UP (UC HC.out)
    have XB:=UP ((ez.tr X9).mono HB.out.1)
    have SX:=UP (HS.out.ext (ez.tr X9))
    clear X9
    go_wp2_with fail
    go_ret
    exact ⟨XB.out,by rw [decide_eq_false (fun q=>q HM.out)];rfl,_,_,by unfold wL wM;rw [if_pos HM.out,if_pos HM.out];exact SX.out⟩
structure RV where
 st:List UInt8
 num:Int
 day:Int
 nxt:Int
 ser:List Int
 iss:Int
 e:Int
 s:Int
theorem rL (l:List UInt8) (w:World) (hl:l.length≤maxLen):Calls Tryz.prog 136 #[.string (aH l)] w fun e w'=>e=.returned (.bool (decide (cK l)))∧w=w' :=
 xJ (aH l) w (by show l.toArray.size≤_;simpa using hl)
theorem oU (l:List UInt8) (w:World) (hl:l.length≤maxLen):Calls Tryz.prog 140 #[.string (aH l)] w fun e w'=>e=.returned (.bool (decide (cK l)))∧w=w' :=
 pS (aH l) w (by show l.toArray.size≤_;simpa using hl)
def dT (w:World) (g:Nat) (r:RV) (v:Value):Prop:=w.heap[g]?=some (.cells #[.string (aH r.st),.int .i64 r.num,.int .i64 r.day,.int .i64 r.nxt,v,.int .i64 r.iss,.int .i64 r.e,.int .i64 r.s] 103 (0,0))
def oL (r:RV) (v:Value):Array Value:=#[.string (aH r.st),.int .i64 r.num,.int .i64 r.day,.int .i64 r.nxt,v,.int .i64 r.iss,.int .i64 r.e,.int .i64 r.s]
def rvV (r:RV) (v:Value):Value:=.agg #[.string (aH r.st),.int .i64 r.num,.int .i64 r.day,.int .i64 r.nxt,v,.int .i64 r.iss,.int .i64 r.e,.int .i64 r.s]
theorem qA:(Tryz.prog.info? 103).map (·.size)=some 8:=by kernel_rfl
section
variable {w w':World}{g:Nat}{r:RV}{v:Value}
theorem dT.lt (h:dT w g r v):g<w.heap.size:=a9 h
theorem dT.ext (h:dT w g r v) (e:Ext w w'):dT w' g r v:=(e.block g h.lt).trans h
theorem dT.frozen (h:dT w g r v) (i:Nat):w.frozen? ⟨g,i,none⟩=false:=by
 unfold dT at h
 simp [World.frozen?,h]
theorem dT.row (h:dT w g r v):w.heap[g]?=some (.cells (oL r v) 103 (0,0)):=h
theorem dT.c0 (h:dT w g r v):w.cell? ⟨g,0,none⟩=some (.string (aH r.st)):=by rw [cell_of_row w g 0 _ _ _ h];rfl
theorem dT.c1 (h:dT w g r v):w.cell? ⟨g,1,none⟩=some (.int .i64 r.num):=by rw [cell_of_row w g 1 _ _ _ h];rfl
theorem dT.c2 (h:dT w g r v):w.cell? ⟨g,2,none⟩=some (.int .i64 r.day):=by rw [cell_of_row w g 2 _ _ _ h];rfl
theorem dT.c3 (h:dT w g r v):w.cell? ⟨g,3,none⟩=some (.int .i64 r.nxt):=by rw [cell_of_row w g 3 _ _ _ h];rfl
theorem dT.c4 (h:dT w g r v):w.cell? ⟨g,4,none⟩=some (v):=by rw [cell_of_row w g 4 _ _ _ h];rfl
theorem dT.c5 (h:dT w g r v):w.cell? ⟨g,5,none⟩=some (.int .i64 r.iss):=by rw [cell_of_row w g 5 _ _ _ h];rfl
theorem dT.c6 (h:dT w g r v):w.cell? ⟨g,6,none⟩=some (.int .i64 r.e):=by rw [cell_of_row w g 6 _ _ _ h];rfl
theorem dT.c7 (h:dT w g r v):w.cell? ⟨g,7,none⟩=some (.int .i64 r.s):=by rw [cell_of_row w g 7 _ _ _ h];rfl
end
def Q1:RV:=⟨[],0,0,0,[],0,0,0⟩
section
variable {w w':World}{g:Nat}{r:RV}{v:Value}
theorem dT.cells (h:dT w g r v):w.cell? ⟨g,0,none⟩=some (.string (aH r.st))∧w.cell? ⟨g,1,none⟩=some (.int .i64 r.num)∧w.cell? ⟨g,2,none⟩=some (.int .i64 r.day)∧w.cell? ⟨g,3,none⟩=some (.int .i64 r.nxt)∧w.cell? ⟨g,4,none⟩=some v∧w.cell? ⟨g,5,none⟩=some (.int .i64 r.iss)∧w.cell? ⟨g,6,none⟩=some (.int .i64 r.e)∧w.cell? ⟨g,7,none⟩=some (.int .i64 r.s) :=
 ⟨h.c0,h.c1,h.c2,h.c3,h.c4,h.c5,h.c6,h.c7⟩
theorem dT.new (w:World) (r:RV) (v:Value):dT (w.alloc (.cells #[.string (aH r.st),.int .i64 r.num,.int .i64 r.day,.int .i64 r.nxt,v,.int .i64 r.iss,.int .i64 r.e,.int .i64 r.s] 103)) w.heap.size r v:=aB w _
theorem dT.other {b i:Nat}{u:Value} (h:dT w g r v) (hne:g≠b):dT (w.setCell ⟨b,i,none⟩ u) g r v:=(aV hne).trans h
theorem dT.setSig (h:dT w g r v) (e s:Int):dT ((w.setCell ⟨g,6,none⟩ (.int .i64 e)).setCell ⟨g,7,none⟩ (.int .i64 s)) g ⟨r.st,r.num,r.day,r.nxt,r.ser,r.iss,e,s⟩ v:=by
 have h9:=aG (aG h 6 (.int .i64 e)) 7 (.int .i64 s)
 simp only [TO,TQ,TU] at h9
 exact h9
end
abbrev QS (w:World) (g:Nat) (v0 v1 v2 v3 v4 v5 v6 v7:Value):World:=((((((((w.setCell ⟨g,0,none⟩ v0).setCell ⟨g,1,none⟩ v1).setCell ⟨g,2,none⟩ v2).setCell ⟨g,3,none⟩ v3).setCell ⟨g,4,none⟩ v4).setCell ⟨g,5,none⟩ v5).setCell ⟨g,6,none⟩ v6).setCell ⟨g,7,none⟩ v7)
abbrev setR (w:World) (g:Nat) (d:RV) (u:Value):World:=QS w g (.string (aH d.st)) (.int .i64 d.num) (.int .i64 d.day) (.int .i64 d.nxt) u (.int .i64 d.iss) (.int .i64 d.e) (.int .i64 d.s)
theorem dT.setR {w:World}{g:Nat}{r:RV}{v:Value} (h:dT w g r v) (d:RV) (u:Value):dT (setR w g d u) g d u:=by
 have h9:=(aG (aG (aG (aG (aG (aG (aG (aG h 0 (.string (aH d.st))) 1 (.int .i64 d.num)) 2 (.int .i64 d.day)) 3 (.int .i64 d.nxt)) 4 u) 5 (.int .i64 d.iss)) 6 (.int .i64 d.e)) 7 (.int .i64 d.s))
 simp only [TO,TQ,TU] at h9
 exact h9
theorem M7 {w w':World}{g:Nat} (h:Ext w w') (hg:w.heap.size≤g) (d:RV) (u:Value):Ext w (setR w' g d u) :=
 aI (aI (aI (aI (aI (aI (aI (aI h hg) hg) hg) hg) hg) hg) hg) hg
structure P5 (w wz:World) (r:RV) (v:Value):Prop where
 ext:Ext w wz
 c:dT wz w.heap.size r v
 r:dT wz (w.heap.size+1) Q1 (.slice none 0 0)
theorem EQ (w:World) (r:RV) (v:Value):∃ wz,wz=(w.alloc (.cells #[.string (aH r.st),.int .i64 r.num,.int .i64 r.day,.int .i64 r.nxt,v,.int .i64 r.iss,.int .i64 r.e,.int .i64 r.s] 103)).alloc (.cells #[.string ⟨#[]⟩,.int .i64 0,.int .i64 0,.int .i64 0,.slice none 0 0,.int .i64 0,.int .i64 0,.int .i64 0] 103)∧P5 w wz r v:=by
 have e1:Ext w (w.alloc (.cells #[.string (aH r.st),.int .i64 r.num,.int .i64 r.day,.int .i64 r.nxt,v,.int .i64 r.iss,.int .i64 r.e,.int .i64 r.s] 103)):=(Below.refl _ _).alloc (TM _) _
 refine ⟨_,rfl,e1.alloc (by simp) _,(dT.new w r v).ext ((Below.refl _ _).alloc (TM _) _),?_⟩
 have:=dT.new (w.alloc (.cells #[.string (aH r.st),.int .i64 r.num,.int .i64 r.day,.int .i64 r.nxt,v,.int .i64 r.iss,.int .i64 r.e,.int .i64 r.s] 103)) Q1 (.slice none 0 0)
 rw [show (w.alloc (.cells #[.string (aH r.st),.int .i64 r.num,.int .i64 r.day,.int .i64 r.nxt,v,.int .i64 r.iss,.int .i64 r.e,.int .i64 r.s] 103)).heap.size=w.heap.size+1 by simp] at this
 exact this
theorem P5.tr {w wz wy:World}{r:RV}{v:Value} (h:P5 w wz r v) (e:Ext wz wy):P5 w wy r v:=⟨h.ext.tr e,h.c.ext e,h.r.ext e⟩
theorem Own.setLow {w:World}{B g i:Nat}{e:TypeId}{v u:Value}{xs:List Value} (h:Own w B e v xs) (hg:g<B):Own (w.setCell ⟨g,i,none⟩ u) B e v xs:=by
 obtain ⟨A,n,c,rfl,hn,h | ⟨b,cur,rfl,hB,hb,hr⟩⟩:=h
 · exact ⟨A,n,c,rfl,hn,.inl h⟩
 · exact ⟨_,n,c,rfl,hn,.inr ⟨b,cur,rfl,hB,(aV (by omega)).trans hb,hr⟩⟩
theorem CC (w:World) (A:Option Addr) (n c:Nat):(binOp .eql 41 (.slice A n c) (.slice none 0 0)).run Tryz.prog w=.ok (.bool A.isNone) w:=Lib.run_eql_slice_nil w _ 3 A n c 0 0 Tryz.underlying41
set_option maxHeartbeats 1000000 in
theorem ER {a:Value}{l:List Int} (w:World) (ha:RdI w .i64 a l) (hl:l.length≤1000000):Calls Tryz.prog 227 #[a] w fun e w'=>∃ A n c,e=.returned (.slice A n c)∧Own w' w.heap.size 3 (.slice A n c) (l.map (Value.int .i64))∧Ext w w':=by
 have ha0:=ha
 obtain ⟨A,n,c,rfl,hn,hnc,hcm,hA⟩:=ha.ints
 subst hn
 have hcm2:=hcm
 unfold maxLen at hcm
 have h1:∀ u ∈ l.map (Value.int .i64),u.oneCell'=true:=by
  intro u hu
  obtain ⟨x,_,rfl⟩:=List.mem_map.1 hu
  rfl
 cases A with
 | none =>
   have h0:l=[]:=by
    by_cases h:0<l.length
    · obtain ⟨b,o,e,_⟩:=hA h;cases e
    · exact UM (by omega)
   subst h0
   clear hA ha ha0
   have hq:=fun w=>CC w none 0 c
   go_enter Tryz.func227,Tryz.ntmps227
   go_wp2
   go_ret
   exact ⟨_,_,_,rfl,Own.nil_ _ _ _,Below.refl _ _⟩
 | some ad =>
   clear hA ha
   have hq:=fun w=>CC w (some ad) l.length c
   have e6:Ext w (w.alloc (.cells #[] 3)):=(Below.refl _ _).alloc (TM _) _
   go_enter Tryz.func227,Tryz.ntmps227
   go_wp2_with (refine oN (B:=w.heap.size) (w0:=w) PY (Own.empty _ _ _ _) (Rd.ext ha0 e6) h1 e6 (by simp;omega) (by unfold maxLen;simp;omega) e6.size rfl rfl rfl rfl ?_;intro A2 c2 w2 o2 b2 g2)
   simp only [UL,U7,List.length_map,UA] at o2
   go_ret
   exact ⟨_,_,_,rfl,o2,b2⟩
set_option maxHeartbeats 4000000 in
theorem M8 (r:RV) (v:Value) (w:World) (hv:RdI w .i64 v r.ser) (hl:r.ser.length≤1000000):Calls Tryz.prog 160 #[rvV r v] w fun e w'=>∃ A n c,e=.returned (rvV r (.slice A n c))∧Own w' w.heap.size 3 (.slice A n c) (r.ser.map (Value.int .i64))∧Ext w w':=by
 obtain ⟨wz,hwz,T⟩:=EQ w r v
 have HR:=UP (hv.ext T.ext)
 obtain ⟨A,n,c,rfl,hn,hnc,hcm,hel⟩:=hv.ints
 clear hel hv
 unfold rvV
 go_enter Tryz.func160,Tryz.ntmps160
 subst hn
 go_wp2_with fail
 rw [← hwz]
 clear hwz
 refine (ER _ HR.out hl).mono ?_
 rintro e w1 ⟨A1,n1,c1,rfl,o1,b1⟩
 have T1:=T.tr b1
 have hz:w.heap.size+1<wz.heap.size:=T.r.lt
 clear T
 have O1:=UP o1
 clear o1 HR
 have f4:=T1.c.frozen 4
 have hl0:=T1.c.lt
 have hlr:=T1.r.lt
 obtain ⟨t0,t1,t2,t3,t4,t5,t6,t7⟩:=T1.c.cells
 obtain ⟨r0,r1,r2,r3,r4,r5,r6,r7⟩:=T1.r.cells
 have g0:=T1.r.frozen 0
 have g1:=T1.r.frozen 1
 have g2:=T1.r.frozen 2
 have g3:=T1.r.frozen 3
 have g4:=T1.r.frozen 4
 have g5:=T1.r.frozen 5
 have g6:=T1.r.frozen 6
 have g7:=T1.r.frozen 7
 go_wp2_with fail
 have TR:=T1.r.other (b:=w.heap.size) (i:=4) (u:=.slice A1 n1 c1) (by omega)
 have TZ:dT (QS (w1.setCell ⟨w.heap.size,4,none⟩ (.slice A1 n1 c1)) (w.heap.size+1) (.string (aH r.st)) (.int .i64 r.num) (.int .i64 r.day) (.int .i64 r.nxt) (.slice A1 n1 c1) (.int .i64 r.iss) (.int .i64 r.e) (.int .i64 r.s)) (w.heap.size+1) r (.slice A1 n1 c1):=TR.setR r (.slice A1 n1 c1)
 have OZ:=UP (show Own (QS (w1.setCell ⟨w.heap.size,4,none⟩ (.slice A1 n1 c1)) (w.heap.size+1) (.string (aH r.st)) (.int .i64 r.num) (.int .i64 r.day) (.int .i64 r.nxt) (.slice A1 n1 c1) (.int .i64 r.iss) (.int .i64 r.e) (.int .i64 r.s)) wz.heap.size 3 (.slice A1 n1 c1) (r.ser.map (Value.int .i64)) from
  ((((((((O1.out.setLow (by omega)).setLow hz).setLow hz).setLow hz).setLow hz).setLow hz).setLow hz).setLow hz).setLow hz)
 refine bodyPost_ret (v:=rvV r (.slice A1 n1 c1)) ?_ rfl ⟨A1,n1,c1,rfl,OZ.out.mono (by omega),M7 (aI T1.ext (TM _)) (by omega) r (.slice A1 n1 c1)⟩
 obtain ⟨q0,q1,q2,q3,q4,q5,q6,q7⟩:=TZ.cells
 clear r0 r1 r2 r3 r4 r5 r6 r7 t0 t1 t2 t3 t4 t5 t6 t7
 simp [results,Tryz.results160,go_sem,rvV,q0,q1,q2,q3,q4,q5,q6,q7]
abbrev SlT:=Option Addr × Nat × Nat
def slV (s:SlT):Value:=.slice s.1 s.2.1 s.2.2
def cC (s0 s1 s2 s3 s4:SlT):Value:=.agg #[.slice s0.1 s0.2.1 s0.2.2,.slice s1.1 s1.2.1 s1.2.2,.slice s2.1 s2.2.1 s2.2.2,.slice s3.1 s3.2.1 s3.2.2,.slice s4.1 s4.2.1 s4.2.2]
theorem IX {pool next:List NC}{c:NC} (hc:c ∈ pool) (hn:c ∉ next):iE pool (next++[c])<iE pool next :=
 rE _ _ pool (fun x _ hx=>by
  have hx':x ∉ next++[c]:=of_decide_eq_true hx
  exact decide_eq_true fun q=>hx' (List.mem_append_left _ q)) ⟨c,hc,decide_eq_true hn,decide_eq_false (fun q=>q (List.mem_append_right _ UK))⟩
theorem sO (st:List UInt8) (day:Int) {roots:List NC}{y:NC}{k:Nat} (h:roots[k]?=some y):bP (roots.take (k+1)) st day=cD st day (bP (roots.take k) st day) y:=by
 unfold bP
 rw [iK h,List.foldl_append]
 rfl
theorem jY (st:List UInt8) (day:Int) (roots:List NC):(bP roots st day).length≤roots.length:=by
 have h:∀ (l acc:List NC),(l.foldl (cD st day) acc).length≤acc.length+l.length:=by
  intro l
  induction l with
  | nil=>intro acc;exact TM _
  | cons x l IH =>
    intro acc
    refine U9 (IH _) ?_
    have:(cD st day acc x).length≤acc.length+1:=by
     unfold cD
     split
     · simp
     · omega
    simp only [UB]
    omega
 have:=h roots []
 rw [U7,UA] at this
 exact this
def eY (day:Int) (out:List NC) (l:List NC):List NC:=l.foldl (dQ day out) out
theorem vG (day:Int) (out:List NC) {pool:List NC}{y:NC}{k:Nat} (h:pool[k]?=some y):eY day out (pool.take (k+1))=dQ day out (eY day out (pool.take k)) y:=by
 unfold eY
 rw [iK h,List.foldl_append]
 rfl
theorem IY (day:Int) (out l:List NC):∃ t,eY day out l=out++t:=by
 obtain ⟨t,h,_⟩:=rD day out l out
 exact ⟨t,h⟩
theorem M9 {day:Int}{L:List NC}{c:NC}:(0≤m7 day L c) ↔ (L.any fun a=>eE day a c)=true:=by
 unfold m7
 split
 · rename_i h
   exact ⟨fun _=>h,fun _=>Int.natCast_nonneg _⟩
 · rename_i h
   exact ⟨fun q=>absurd q (by omega),fun q=>absurd q h⟩
structure FnI (C:Nat) (pool L:List NC) (R:List Int) (rd:Int):Prop where
 srt:Srt R
 le:∀ x ∈ R,x≤rd
 kd:∀ (i:Nat) (a:NC) (x:Int),L[i]?=some a→R[i]?=some x→(x=0 ↔ a.kind=1)
 sm:smL L
 bd:L.length+iE pool L≤C
theorem jK {α:Type}{l:List α}{x y:α}{i:Nat} (h:(l++[x])[i]?=some y):l[i]?=some y ∨ (i=l.length∧y=x):=by
 by_cases hi:i<l.length
 · rw [List.getElem?_append_left hi] at h
   exact .inl h
 · rw [List.getElem?_append_right (by omega)] at h
   have h0:i - l.length=0:=by
    have:=(List.getElem?_eq_some_iff.1 h).1
    simpa using this
   rw [h0] at h
   exact .inr ⟨by omega,(Option.some.inj h).symm⟩
theorem MC {R:List Int}{rd:Int} (h:Srt R) (hl:∀ x ∈ R,x≤rd):Srt (R++[rd]):=by
 intro i j x y hij hi hj
 rcases jK hi with q | ⟨q,e⟩
 · rcases jK hj with q2 | ⟨q2,e2⟩
   · exact h i j x y hij q q2
   · rw [e2]
     exact hl x (UC q)
 · rcases jK hj with q2 | ⟨q2,e2⟩
   · have:=(List.getElem?_eq_some_iff.1 q2).1
     omega
   · rw [e,e2]
     exact Int.le_refl _
theorem FnI.app {C:Nat}{pool L:List NC}{R:List Int}{rd:Int}{c:NC} (h:FnI C pool L R rd) (hlen:R.length=L.length) (hk:rd=0 ↔ c.kind=1) (hs:smN c) (hb:(L++[c]).length+iE pool (L++[c])≤C):FnI C pool (L++[c]) (R++[rd]) rd :=
 ⟨MC h.srt h.le,fun x hx=>by
   rcases List.mem_append.1 hx with q | q
   · exact h.le x q
   · rw [List.mem_singleton.1 q];exact Int.le_refl _,fun i a x ha hx=>by
   rcases jK ha with ha | ⟨ha,rfl⟩
   · rcases jK hx with hx | ⟨hx,rfl⟩
     · exact h.kd i a x ha hx
     · have:=(List.getElem?_eq_some_iff.1 ha).1
       omega
   · rcases jK hx with hx | ⟨hx,rfl⟩
     · have:=(List.getElem?_eq_some_iff.1 hx).1
       omega
     · exact hk,h.sm.app (fun q hq=>by rw [List.mem_singleton.1 hq];exact hs),hb⟩
theorem FnI.up {C:Nat}{pool L:List NC}{R:List Int}{rd rd':Int} (h:FnI C pool L R rd) (hr:rd≤rd'):FnI C pool L R rd':=⟨h.srt,fun x hx=>Int.le_trans (h.le x hx) hr,h.kd,h.sm,h.bd⟩
def Q2 (w:World) (roots pool:List NC) (st:List UInt8) (day:Int) (e:Ending) (w':World):Prop :=
 Ext w w'∧∃ (S:Nat) (v1 v2:Value) (R:List Int),e=.returned (.pointer (some ⟨S,0,none⟩))∧w.heap.size≤S∧gU w' w.heap.size S day v1 v2 (dA roots pool st day) R∧∃ rd,FnI (roots.length+pool.length) pool (dA roots pool st day) R rd
theorem QT (w:World) (day:Int):∃ wz,wz=w.alloc (.cells #[.int .i64 day,.slice none 0 0,.slice none 0 0] 155)∧Ext w wz∧gU wz w.heap.size w.heap.size day (.slice none 0 0) (.slice none 0 0) [] [] :=
 ⟨_,rfl,(Below.refl _ _).alloc (TM _) _,aB w _,aJ.empty _ _ _ _ _,aJ.empty _ _ _ _ _,rfl⟩
theorem J2 {roots pool:List NC}{st:List UInt8}{day:Int}{R:List Int} (h0:∀ x ∈ R,x=0) (hs:smL roots):FnI (roots.length+pool.length) pool (bP roots st day) R 1 :=
 ⟨fun i j x y _ hx hy=>by rw [h0 x (UC hx),h0 y (UC hy)];exact Int.le_refl _,fun x hx=>by rw [h0 x hx];decide,fun i a x ha hx=>by
   rw [h0 x (UC hx)]
   exact ⟨fun _=>(yZ (iJ (UC ha)).2.2.2).1,fun _=>rfl⟩,fun c hc=>hs c (iJ hc).1,by
   have h1:=jY st day roots
   have h2:=lC pool (bP roots st day)
   omega⟩
theorem EU {pool out:List NC}{day:Int} (h:(fF pool day out).length=out.length):fF pool day out=out:=by
 obtain ⟨t,e,_⟩:=iI pool day out
 rw [e] at h ⊢
 rw [U0] at h
 rw [UM (by omega:t.length=0),List.append_nil]
def FrD (roots pool:List NC) (st:List UInt8) (day:Int) (L:List NC) (r:Nat) (m:Bool):Prop :=
 (m=true→wJ pool day L=dA roots pool st day∧iE pool L+r≤pool.length+1)∧(m=false→L=dA roots pool st day)
theorem MD {roots pool:List NC}{st:List UInt8}{day:Int}{L:List NC}{r:Nat} (h:FrD roots pool st day L r true):FrD roots pool st day (fF pool day L) (r+1) (decide ((fF pool day L).length≠L.length)):=by
 obtain ⟨h1,h2⟩:=h.1 rfl
 refine ⟨fun q=>?_,fun q=>?_⟩
 · have q:=of_decide_eq_true q
   have h3:=uX q
   exact ⟨by rw [← xN q];exact h1,by omega⟩
 · have q:(fF pool day L).length=L.length:=by
    have:=of_decide_eq_false q
    omega
   rw [EU q,← h1,xM q]
theorem EV {C:Nat}{pool N:List NC}{c:NC} (hc:c ∈ pool) (hn:c ∉ N) (h:N.length+iE pool N≤C):(N++[c]).length+iE pool (N++[c])≤C:=by
 have:=IX hc hn
 rw [U0]
 simp only [UB,U7]
 omega
structure FrI (w wr:World) (S:Nat) (day:Int) (C:Nat) (pool L:List NC) (R:List Int):Prop where
 ext:Ext w wr
 se:∃ v1 v2,gU wr w.heap.size S day v1 v2 L R
 len:R.length=L.length
theorem FrI.tr {w wr wx:World}{S:Nat}{day:Int}{C:Nat}{pool L:List NC}{R:List Int} (h:FrI w wr S day C pool L R) (e:Ext wr wx):FrI w wx S day C pool L R:=by
 obtain ⟨h1,⟨v1,v2,h2⟩,h3⟩:=h
 exact ⟨h1.tr e,⟨v1,v2,h2.ext e⟩,h3⟩
theorem FrI.add {w wr:World}{S:Nat}{day:Int}{C:Nat}{pool L:List NC}{R:List Int} (h:FrI w wr S day C pool L R) (hS:w.heap.size≤S) (c:NC) (rd:Int) (hl:L.length≤1000000) :
 Calls Tryz.prog 196 #[.pointer (some ⟨S,0,none⟩),ncV c,.int .i64 rd] wr fun e w'=>e=.returned (.bool (decide (c ∉ L)))∧FrI w w' S day C pool (wL L c) (wM L R c rd):=by
 obtain ⟨h1,⟨v1,v2,h2⟩,h3⟩:=h
 exact (P4 c rd wr h2 h1.size hS hl).mono fun e w' ⟨q1,q2,u1,u2,q3⟩=>⟨q2,h1.trans q1,⟨u1,u2,q3⟩,S4 h3 c rd⟩
theorem FrI.before {w wr:World}{S:Nat}{day:Int}{C:Nat}{pool L:List NC}{R:List Int} (h:FrI w wr S day C pool L R) (c:NC) (n:Nat) (hn:n≤L.length) (hl:L.length≤1000000) (hR:Srt R) (hs:smL L) (hc:smN c) (E:dN w 1) :
 Calls Tryz.prog 119 #[.pointer (some ⟨S,0,none⟩),ncV c,.int .i64 (n:Int)] wr (eL wr (.int .i64 (m7 day (L.take n) c))):=by
 obtain ⟨h1,⟨v1,v2,h2⟩,h3⟩:=h
 exact vF c n wr h2 hn hl hR hs hc (E.below h1)
set_option maxHeartbeats 4000000 in
theorem ME {v1 v2:Value}{roots pool:List NC} (st:List UInt8) (day:Int) (w:World) (h1:RdN w v1 roots) (h2:RdN w v2 pool) (hs1:smL roots) (hs2:smL pool) (hl:roots.length+pool.length≤900000) (E:dN w 1) :
 Calls Tryz.prog 118 #[v1,v2,.string (aH st),.int .i64 day] w (Q2 w roots pool st day):=by
 obtain ⟨A1,n1,c1,rfl,hn1,hnc1,hcm1,hel1⟩:=h1.at_
 subst hn1
 obtain ⟨A2,n2,c2,rfl,hn2,hnc2,hcm2,hel2⟩:=h2.at_
 subst hn2
 have HEL1:=UP hel1
 have HEL2:=UP hel2
 have HON:=UP (fun (c:NC) (hs:smN c) W=>gN c day W hs)
 have HRT:=UP (fun (c:NC) (hs:smN c) W (e:Ext w W)=>kH c W hs (E.below e))
 have HE:=UP E
 have HS1:=UP hs1
 have HS2:=UP hs2
 have HQ:=UP (fun s=>gH s st)
 unfold maxLen at hcm1 hcm2
 obtain ⟨wz,hwz,ez,SZ⟩:=QT w day
 have Z0:=UP (show FrI w wz w.heap.size day (roots.length+pool.length) pool (bP (roots.take 0) st day) [] from ⟨ez,⟨_,_,SZ⟩,rfl⟩)
 clear hel1 hel2 h1 h2 hs1 hs2 E ez SZ
 go_enter Tryz.func118,Tryz.ntmps118
 go_upto_region 2 with fail
 rw [← hwz]
 clear hwz
 go_wp2_with fail
 go_loopw [22] (fun i wr=>∃ k:Nat,k≤roots.length∧i=.int .i64 (k:Int)∧∃ R:List Int,Hid (FrI w wr w.heap.size day (roots.length+pool.length) pool (bP (roots.take k) st day) R)∧Hid (∀ x ∈ R,x=0)) (fun i _=>roots.length - (intOf i).toNat)
 case atStart=>exact ⟨0,U4 _,rfl,[],Z0,UP (fun x hx=>by simp at hx)⟩
 case round =>
  clear Z0
  obtain ⟨k,hk,rfl,R,Z,HR0⟩:=hrel
  by_cases hlt:k<roots.length
  case neg =>
   obtain rfl:k=roots.length:=by omega
   have HF0:=UP (show bP (roots.take roots.length) st day=bP roots st day by rw [List.take_length])
   have HI:=UP (J2 (pool:=pool) (st:=st) (day:=day) HR0.out HS1.out)
   have ZZ:Hid (FrI w wr w.heap.size day (roots.length+pool.length) pool (bP roots st day) R):=by have:=Z.out;rw [HF0.out] at this;exact this
   have HD0:Hid (FrD roots pool st day (bP roots st day) 1 true):=UP ⟨fun _=>⟨rfl,by have:=lC pool (bP roots st day);omega⟩,fun q=>by cases q⟩
   clear Z HF0 HR0 hk hlt
   generalize bP roots st day=L0 at *
   go_wp2_with fail
   go_loopw [12,13] (fun rd mb wr=>∃ (r:Nat) (m:Bool) (L:List NC) (R:List Int),rd=.int .i64 (r:Int)∧mb=.bool m∧1≤r∧r≤pool.length+2∧Hid (FrI w wr w.heap.size day (roots.length+pool.length) pool L R)∧Hid (FnI (roots.length+pool.length) pool L R (r:Int))∧Hid (FrD roots pool st day L r m)) (fun rd _ _=>pool.length+3 - (intOf rd).toNat)
   case atStart=>exact ⟨1,true,L0,R,rfl,rfl,TM _,by omega,ZZ,HI,HD0⟩
   case round =>
    clear ZZ HI HD0
    clear R
    obtain ⟨r,m,L,R,rfl,rfl,r1,r2,Z,HI,HD⟩:=hrel
    cases m
    · have hL:=HD.out.2 rfl
      subst hL
      obtain ⟨zx,⟨u1,u2,zs⟩,zl⟩:=Z.out
      have FIN:=UP (show Q2 w roots pool st day (.returned (.pointer (some ⟨w.heap.size,0,none⟩))) wr from ⟨zx,_,u1,u2,R,rfl,TM _,zs,_,HI.out⟩)
      clear zx zs zl
      go_wp2_with fail
      go_ret
      exact FIN.out
    · have hr3:r≤pool.length+1:=by have:=(HD.out.1 rfl).2;omega
      obtain ⟨zx,⟨u1,u2,zs⟩,zl⟩:=Z.out
      obtain ⟨B1,d1,B2,d2,rfl,rfl,hd1,hd2,hm1,hm2⟩:=zs.forms
      obtain ⟨s0,s1,s2⟩:=zs.cells
      have sl:=zs.lt
      have HLB:=UP (show L.length≤900000 by have:=HI.out.bd;omega)
      unfold maxLen at hm1 hm2
      clear zx zs zl
      have wr1:IntKind.i64.wrap ((r:Int)+1)=(r:Int)+1:=IntWalk.i64_in _ (by omega)
      go_wp2_with fail
      clear s0 s1 s2 sl
      go_loopw [54,13] (fun i mb wr=>∃ k:Nat,k≤pool.length∧i=.int .i64 (k:Int)∧mb=.bool (decide ((eY day L (pool.take k)).length≠L.length))∧∃ R':List Int,Hid (FrI w wr w.heap.size day (roots.length+pool.length) pool (eY day L (pool.take k)) R')∧Hid (FnI (roots.length+pool.length) pool (eY day L (pool.take k)) R' (r:Int))) (fun i _ _=>pool.length - (intOf i).toNat)
      case atStart=>exact ⟨0,U4 _,rfl,by rw [UD];simp [eY],R,by rw [UD];exact Z,by rw [UD];exact HI⟩
      case round =>
       clear Z
       obtain ⟨k,hk,rfl,rfl,R',Z,HIK⟩:=hrel
       by_cases hlt:k<pool.length
       case neg =>
        obtain rfl:k=pool.length:=by omega
        have HRD:Hid (eY day L (pool.take pool.length)=fF pool day L):=UP (by rw [List.take_length];rfl)
        have HDN:Hid (FrD roots pool st day (eY day L (pool.take pool.length)) (r+1) (decide ((eY day L (pool.take pool.length)).length≠L.length))):=UP (by rw [HRD.out];exact MD HD.out)
        have HIN:=UP (HIK.out.up (rd':=((r+1:Nat):Int)) (by omega))
        obtain ⟨m9,hm9⟩:∃ m9,decide ((eY day L (pool.take pool.length)).length≠L.length)=m9:=⟨_,rfl⟩
        rw [hm9] at HDN
        rw [hm9]
        clear HRD
        clear hk hlt HIK HI hm9
        go_wp2_with fail
        go_roundw
        case rel=>exact ⟨r+1,m9,_,R',by go_num,rfl,by omega,by omega,Z,HIN,HDN⟩
        case measure=>simp [intOf];omega
       case pos =>
       obtain ⟨y,hy⟩:∃ y,pool[k]?=some y:=⟨_,U5 hlt⟩
       obtain ⟨b,o,rfl,hbl,hc⟩:=HEL2.out (by omega)
       have hcy:=hc k y hy
       have HY:=UP hy
       have HSY:=UP (HS2.out y (UC hy))
       have X:=Z.out.ext
       clear hy hc
       have wi1:IntKind.i64.wrap ((k:Int))=(k:Int):=IntWalk.i64_in _ (by omega)
       have zi1:(0:Int)≤(k:Int):=by omega
       have li1:(k:Int)<(pool.length:Int):=by omega
       have ti1:((k:Int)).toNat=k:=by omega
       have wk:IntKind.i64.wrap ((k:Int)+1)=(k:Int)+1:=IntWalk.i64_in _ (by omega)
       have q0:=(X.cell (p:=⟨b,o+k*11,none⟩) hbl).trans hcy.1
       have q1:=(X.cell (p:=⟨b,o+k*11+1,none⟩) hbl).trans hcy.2.1
       have q2:=(X.cell (p:=⟨b,o+k*11+2,none⟩) hbl).trans hcy.2.2.1
       have q3:=(X.cell (p:=⟨b,o+k*11+3,none⟩) hbl).trans hcy.2.2.2.1
       have q4:=(X.cell (p:=⟨b,o+k*11+4,none⟩) hbl).trans hcy.2.2.2.2.1
       have q5:=(X.cell (p:=⟨b,o+k*11+5,none⟩) hbl).trans hcy.2.2.2.2.2.1
       have q6:=(X.cell (p:=⟨b,o+k*11+6,none⟩) hbl).trans hcy.2.2.2.2.2.2.1
       have q7:=(X.cell (p:=⟨b,o+k*11+7,none⟩) hbl).trans hcy.2.2.2.2.2.2.2.1
       have q8:=(X.cell (p:=⟨b,o+k*11+8,none⟩) hbl).trans hcy.2.2.2.2.2.2.2.2.1
       have q9:=(X.cell (p:=⟨b,o+k*11+9,none⟩) hbl).trans hcy.2.2.2.2.2.2.2.2.2.1
       have q10:=(X.cell (p:=⟨b,o+k*11+10,none⟩) hbl).trans hcy.2.2.2.2.2.2.2.2.2.2
       clear hcy
       obtain ⟨wn,hwn,en,TN⟩:=cB wr y
       have HSN:=UP (vG day L HY.out)
       have HAP:=UP (IY day L (pool.take k))
       obtain ⟨N,hN⟩:∃ N,eY day L (pool.take k)=N:=⟨_,rfl⟩
       rw [hN] at HSN HAP HIK Z
       rw [hN]
       clear hN
       have HLN:=UP (show N.length≤1000000 by have:=HIK.out.bd;omega)
       have HTK:Hid (N.take L.length=L):=UP (by obtain ⟨t,ht⟩:=HAP.out;rw [ht];simp)
       have HNL:=UP (show L.length≤N.length by obtain ⟨t,ht⟩:=HAP.out;rw [ht];simp)
       obtain ⟨mb,hmb⟩:∃ mb,decide (N.length≠L.length)=mb:=⟨_,rfl⟩
       rw [hmb]
       have HMB:=UP hmb
       clear hmb
       go_upto_region 16 with fail
       rw [← hwn]
       clear hwn q0 q1 q2 q3 q4 q5 q6 q7 q8 q9 q10 X
       have HZL:=UP (show R'.length=N.length from Z.out.len)
       have ZN:=UP (Z.out.tr en)
       clear Z en
       obtain ⟨p0,p1,p2,p3,p4,p5,p6,p7,p8,p9,p10⟩:=(TN).cells
       have pf0:=(TN).frozen 0
       have pf1:=(TN).frozen 1
       have pf2:=(TN).frozen 2
       have pf3:=(TN).frozen 3
       have pf4:=(TN).frozen 4
       have pf5:=(TN).frozen 5
       have pf6:=(TN).frozen 6
       have pf7:=(TN).frozen 7
       have pf8:=(TN).frozen 8
       have pf9:=(TN).frozen 9
       have pf10:=(TN).frozen 10
       have pl:=(TN).lt
       by_cases k2:y.kind=2
       case neg =>
        have hb:(y.kind == 2)=false:=by simpa using k2
        have HF:=UP (show eY day L (pool.take (k+1))=N by rw [HSN.out];unfold dQ;rw [if_neg (fun q=>k2 q.1)])
        clear k2
        go_wp2_with fail
        go_roundw
        case rel=>exact ⟨k+1,by omega,by go_num,by rw [HF.out,HMB.out],R',by rw [HF.out];exact ZN,by rw [HF.out];exact HIK⟩
        case measure=>simp [intOf];omega
       have hb:(y.kind == 2)=true:=by simpa using k2
       have K2:=UP k2
       clear k2
       go_wp2_with fail
       refine (ZN.out.before y L.length HNL.out HLN.out HIK.out.srt HIK.out.sm HSY.out HE.out).mono ?_
       rintro e w2 ⟨rfl,b2⟩
       rw [HTK.out]
       have TN2:=TN.ext b2
       have Z2:=UP (ZN.out.tr b2)
       clear p0 pf0 p1 pf1 p2 pf2 p3 pf3 p4 pf4 p5 pf5 p6 pf6 p7 pf7 p8 pf8 p9 pf9 p10 pf10 pl
       clear TN ZN b2
       by_cases an:(L.any fun a=>eE day a y)=true
       case neg =>
        have hz:¬ ((0:Int)≤m7 day L y):=fun q=>an (M9.1 q)
        have hz2:m7 day L y<0:=by omega
        have HF:=UP (show eY day L (pool.take (k+1))=N by rw [HSN.out];unfold dQ;rw [if_neg (fun q=>an q.2.2)])
        clear an
        generalize m7 day L y=z at *
        go_wp2_with fail
        go_roundw
        case rel=>exact ⟨k+1,by omega,by go_num,by rw [HF.out,HMB.out],R',by rw [HF.out];exact Z2,by rw [HF.out];exact HIK⟩
        case measure=>simp [intOf];omega
       have hz:(0:Int)≤m7 day L y:=M9.2 an
       have AN:=UP an
       clear an
       generalize m7 day L y=z at *
       obtain ⟨p0,p1,p2,p3,p4,p5,p6,p7,p8,p9,p10⟩:=(TN2).cells
       have pf0:=(TN2).frozen 0
       have pf1:=(TN2).frozen 1
       have pf2:=(TN2).frozen 2
       have pf3:=(TN2).frozen 3
       have pf4:=(TN2).frozen 4
       have pf5:=(TN2).frozen 5
       have pf6:=(TN2).frozen 6
       have pf7:=(TN2).frozen 7
       have pf8:=(TN2).frozen 8
       have pf9:=(TN2).frozen 9
       have pf10:=(TN2).frozen 10
       have pl:=(TN2).lt
       go_wp2_with fail
       refine (Z2.out.add (TM _) y (r:Int) HLN.out).mono ?_
       rintro e w4 ⟨rfl,Z4⟩
       have HZ4:=UP Z4
       clear p0 pf0 p1 pf1 p2 pf2 p3 pf3 p4 pf4 p5 pf5 p6 pf6 p7 pf7 p8 pf8 p9 pf9 p10 pf10 pl
       clear TN2 Z2 Z4
       by_cases hm:y ∈ N
       · have HF:=UP (show eY day L (pool.take (k+1))=N by rw [HSN.out];unfold dQ;rw [if_neg (fun q=>q.2.1 hm)])
         have HA1:=UP (show wL N y=N from if_pos hm)
         have HA2:=UP (show wM N R' y (r:Int)=R' from if_pos hm)
         have hd:decide (y ∉ N)=false:=decide_eq_false (fun q=>q hm)
         rw [hd]
         clear hm hd
         go_wp2_with fail
         go_roundw
         case rel=>exact ⟨k+1,by omega,by go_num,by rw [HF.out,HMB.out],R',by have:=HZ4.out;rw [HA1.out,HA2.out] at this;rw [HF.out];exact this,by rw [HF.out];exact HIK⟩
         case measure=>simp [intOf];omega
       · have HF:=UP (show eY day L (pool.take (k+1))=N++[y] by rw [HSN.out];unfold dQ;rw [if_pos ⟨K2.out,hm,AN.out⟩])
         have HA1:=UP (show wL N y=N++[y] from if_neg hm)
         have HA2:=UP (show wM N R' y (r:Int)=R'++[(r:Int)] from if_neg hm)
         have HIA:=UP (HIK.out.app (c:=y) HZL.out ⟨fun q=>by omega,fun q=>by rw [K2.out] at q;cases q⟩ HSY.out (EV (UC HY.out) hm HIK.out.bd))
         have hd:decide (y ∉ N)=true:=decide_eq_true hm
         have HMT:=UP (show decide ((N++[y]).length≠L.length)=true from decide_eq_true (by rw [U0];simp only [UB,U7];have:=HNL.out;omega))
         rw [hd]
         clear hm hd
         go_wp2_with fail
         go_roundw
         case rel=>exact ⟨k+1,by omega,by go_num,by rw [HF.out,HMT.out],_,by have:=HZ4.out;rw [HA1.out,HA2.out] at this;rw [HF.out];exact this,by rw [HF.out];exact HIA⟩
         case measure=>simp [intOf];omega
  case pos =>
  obtain ⟨y,hy⟩:∃ y,roots[k]?=some y:=⟨_,U5 hlt⟩
  obtain ⟨b,o,rfl,hbl,hc⟩:=HEL1.out (by omega)
  have hcy:=hc k y hy
  have HY:=UP hy
  have HSY:=UP (HS1.out y (UC hy))
  have X:=Z.out.ext
  clear hy hc
  have wi2:IntKind.i64.wrap ((k:Int))=(k:Int):=IntWalk.i64_in _ (by omega)
  have zi2:(0:Int)≤(k:Int):=by omega
  have li2:(k:Int)<(roots.length:Int):=by omega
  have ti2:((k:Int)).toNat=k:=by omega
  have wk:IntKind.i64.wrap ((k:Int)+1)=(k:Int)+1:=IntWalk.i64_in _ (by omega)
  have q0:=(X.cell (p:=⟨b,o+k*11,none⟩) hbl).trans hcy.1
  have q1:=(X.cell (p:=⟨b,o+k*11+1,none⟩) hbl).trans hcy.2.1
  have q2:=(X.cell (p:=⟨b,o+k*11+2,none⟩) hbl).trans hcy.2.2.1
  have q3:=(X.cell (p:=⟨b,o+k*11+3,none⟩) hbl).trans hcy.2.2.2.1
  have q4:=(X.cell (p:=⟨b,o+k*11+4,none⟩) hbl).trans hcy.2.2.2.2.1
  have q5:=(X.cell (p:=⟨b,o+k*11+5,none⟩) hbl).trans hcy.2.2.2.2.2.1
  have q6:=(X.cell (p:=⟨b,o+k*11+6,none⟩) hbl).trans hcy.2.2.2.2.2.2.1
  have q7:=(X.cell (p:=⟨b,o+k*11+7,none⟩) hbl).trans hcy.2.2.2.2.2.2.2.1
  have q8:=(X.cell (p:=⟨b,o+k*11+8,none⟩) hbl).trans hcy.2.2.2.2.2.2.2.2.1
  have q9:=(X.cell (p:=⟨b,o+k*11+9,none⟩) hbl).trans hcy.2.2.2.2.2.2.2.2.2.1
  have q10:=(X.cell (p:=⟨b,o+k*11+10,none⟩) hbl).trans hcy.2.2.2.2.2.2.2.2.2.2
  clear hcy
  obtain ⟨wn,hwn,en,TN⟩:=cB wr y
  go_upto_region 5 with fail
  rw [← hwn]
  clear hwn q0 q1 q2 q3 q4 q5 q6 q7 q8 q9 q10 X
  have ZN:=UP (Z.out.tr en)
  obtain ⟨p0,p1,p2,p3,p4,p5,p6,p7,p8,p9,p10⟩:=(TN).cells
  have pf0:=(TN).frozen 0
  have pf1:=(TN).frozen 1
  have pf2:=(TN).frozen 2
  have pf3:=(TN).frozen 3
  have pf4:=(TN).frozen 4
  have pf5:=(TN).frozen 5
  have pf6:=(TN).frozen 6
  have pf7:=(TN).frozen 7
  have pf8:=(TN).frozen 8
  have pf9:=(TN).frozen 9
  have pf10:=(TN).frozen 10
  have pl:=(TN).lt
  have HSN:=UP (sO st day HY.out)
  by_cases c1':y.st=st
  case neg =>
   have hb:((aH y.st).toList == (aH st).toList)=false:=by rw [HQ.out];exact decide_eq_false c1'
   have HF:=UP (show bP (roots.take (k+1)) st day=bP (roots.take k) st day by rw [HSN.out];unfold cD;rw [if_neg (fun q=>c1' q.1.1)])
   clear c1'
   go_wp2_with fail
   go_roundw
   case rel=>exact ⟨k+1,by omega,by go_num,R,by rw [HF.out];exact ZN,HR0⟩
   case measure=>simp [intOf];omega
  have hb:((aH y.st).toList == (aH st).toList)=true:=by rw [HQ.out];exact decide_eq_true c1'
  have C1:=UP c1'
  clear c1'
  go_wp2_with fail
  refine (HON.out y HSY.out _).mono ?_
  rintro e w2 ⟨rfl,b2⟩
  have TN2:=TN.ext b2
  have Z2:=UP (ZN.out.tr b2)
  clear p0 pf0 p1 pf1 p2 pf2 p3 pf3 p4 pf4 p5 pf5 p6 pf6 p7 pf7 p8 pf8 p9 pf9 p10 pf10 pl
  clear TN ZN b2
  by_cases c2':onN y day=0
  case neg =>
   have hb2:(onN y day == 0)=false:=by simpa using c2'
   have HF:=UP (show bP (roots.take (k+1)) st day=bP (roots.take k) st day by rw [HSN.out];unfold cD;rw [if_neg (fun q=>c2' q.1.2.1)])
   clear c2'
   go_wp2_with fail
   go_roundw
   case rel=>exact ⟨k+1,by omega,by go_num,R,by rw [HF.out];exact Z2,HR0⟩
   case measure=>simp [intOf];omega
  have hb2:(onN y day == 0)=true:=by simpa using c2'
  have C2:=UP c2'
  clear c2'
  obtain ⟨p0,p1,p2,p3,p4,p5,p6,p7,p8,p9,p10⟩:=(TN2).cells
  have pf0:=(TN2).frozen 0
  have pf1:=(TN2).frozen 1
  have pf2:=(TN2).frozen 2
  have pf3:=(TN2).frozen 3
  have pf4:=(TN2).frozen 4
  have pf5:=(TN2).frozen 5
  have pf6:=(TN2).frozen 6
  have pf7:=(TN2).frozen 7
  have pf8:=(TN2).frozen 8
  have pf9:=(TN2).frozen 9
  have pf10:=(TN2).frozen 10
  have pl:=(TN2).lt
  go_wp2_with fail
  refine (HRT.out y HSY.out _ Z2.out.ext).mono ?_
  rintro e w3 ⟨rfl,b3⟩
  have TN3:=TN2.ext b3
  have Z3:=UP (Z2.out.tr b3)
  clear p0 pf0 p1 pf1 p2 pf2 p3 pf3 p4 pf4 p5 pf5 p6 pf6 p7 pf7 p8 pf8 p9 pf9 p10 pf10 pl
  clear TN2 Z2 b3
  obtain ⟨rb,hrb⟩:∃ rb,rtN y=rb:=⟨_,rfl⟩
  rw [hrb]
  cases rb
  · have HF:=UP (show bP (roots.take (k+1)) st day=bP (roots.take k) st day by rw [HSN.out];unfold cD;rw [if_neg (fun q=>by have:=q.1.2.2;rw [hrb] at this;cases this)])
    clear hrb
    go_wp2_with fail
    go_roundw
    case rel=>exact ⟨k+1,by omega,by go_num,R,by rw [HF.out];exact Z3,HR0⟩
    case measure=>simp [intOf];omega
  have HF:=UP (show bP (roots.take (k+1)) st day=wL (bP (roots.take k) st day) y by
   rw [HSN.out]
   unfold cD wL
   by_cases hm:y ∈ bP (roots.take k) st day
   · rw [if_neg (fun q=>q.2 hm),if_pos hm]
   · rw [if_pos ⟨⟨C1.out,C2.out,hrb⟩,hm⟩,if_neg hm])
  clear hrb
  obtain ⟨p0,p1,p2,p3,p4,p5,p6,p7,p8,p9,p10⟩:=(TN3).cells
  have pf0:=(TN3).frozen 0
  have pf1:=(TN3).frozen 1
  have pf2:=(TN3).frozen 2
  have pf3:=(TN3).frozen 3
  have pf4:=(TN3).frozen 4
  have pf5:=(TN3).frozen 5
  have pf6:=(TN3).frozen 6
  have pf7:=(TN3).frozen 7
  have pf8:=(TN3).frozen 8
  have pf9:=(TN3).frozen 9
  have pf10:=(TN3).frozen 10
  have pl:=(TN3).lt
  go_wp2_with fail
  refine (Z3.out.add (TM _) y 0 (by have h1:=jY st day (roots.take k);have h2:=List.length_take_le k roots;rw [UJ] at h1;omega)).mono ?_
  rintro e w4 ⟨rfl,Z4⟩
  have HZ4:=UP Z4
  have HR4:Hid (∀ x ∈ wM (bP (roots.take k) st day) R y 0,x=0):=UP (by
   unfold wM
   split
   · exact HR0.out
   · intro x hx
     rcases List.mem_append.1 hx with q | q
     · exact HR0.out x q
     · exact List.mem_singleton.1 q)
  clear p0 pf0 p1 pf1 p2 pf2 p3 pf3 p4 pf4 p5 pf5 p6 pf6 p7 pf7 p8 pf8 p9 pf9 p10 pf10 pl
  clear TN3 Z3 Z4
  go_wp2_with fail
  go_roundw
  case rel=>exact ⟨k+1,by omega,by go_num,_,by rw [HF.out];exact HZ4,HR4⟩
  case measure=>simp [intOf];omega
def J3 (w:World) (l:List NC) (e:Ending) (w':World):Prop:=Ext w w'∧∃ (A:Option Addr) (c:Nat),e=.returned (.slice A l.length c)∧RdN w' (.slice A l.length c) l
set_option maxHeartbeats 2000000 in
theorem J7 {v1 v2:Value}{l:List NC} (w:World) (h1:RdN w v1 l) (h2:RdN w v2 l) :
 Calls Tryz.prog 40 #[v1,v2] w (eL w (.bool true)):=by
 obtain ⟨A1,n1,c1,rfl,hn1,hnc1,hcm1,hel1⟩:=h1.at_
 subst hn1
 have HEL1:=UP hel1
 unfold maxLen at hcm1
 obtain ⟨A2,n2,c2,rfl,hn2,hnc2,hcm2,hel2⟩:=h2.at_
 subst hn2
 have HEL2:=UP hel2
 unfold maxLen at hcm2
 have HEQ:=UP (fun W (y:NC)=>(by have h:=rK W y y;simpa using h:(binOp .neq 56 (ncV y) (ncV y)).run Tryz.prog W=.ok (.bool false) W))
 clear hel1 hel2 h1 h2
 go_enter Tryz.func40,Tryz.ntmps40
 go_wp2_with fail
 go_loopw [5] (fun i wr=>∃ k:Nat,k≤l.length∧i=.int .i64 (k:Int)∧Ext w wr) (fun i _=>l.length - (intOf i).toNat)
 case atStart=>exact ⟨0,U4 _,rfl,Below.refl _ _⟩
 case round =>
  obtain ⟨k,hk,rfl,X⟩:=hrel
  by_cases hlt:k<l.length
  case neg =>
   obtain rfl:k=l.length:=by omega
   have HX:=UP X
   clear X
   go_wp2_with fail
   go_ret
   exact ⟨rfl,HX.out⟩
  case pos =>
  obtain ⟨y,hy⟩:∃ y,l[k]?=some y:=⟨_,U5 hlt⟩
  obtain ⟨b1,o1,rfl,hb1,hc1⟩:=HEL1.out (by omega)
  obtain ⟨b2,o2,rfl,hb2,hc2⟩:=HEL2.out (by omega)
  have g1:=hc1 k y hy
  have g2:=hc2 k y hy
  have eqq:=fun W=>HEQ.out W y
  unfold ncV at eqq
  clear hc1 hc2 hy
  have wi5:IntKind.i64.wrap ((k:Int))=(k:Int):=IntWalk.i64_in _ (by omega)
  have zi5:(0:Int)≤(k:Int):=by omega
  have li5:(k:Int)<(l.length:Int):=by omega
  have ti5:((k:Int)).toNat=k:=by omega
  have wk:IntKind.i64.wrap ((k:Int)+1)=(k:Int)+1:=IntWalk.i64_in _ (by omega)
  have p0:=(X.cell (p:=⟨b1,o1+k*11,none⟩) hb1).trans g1.1
  have p1:=(X.cell (p:=⟨b1,o1+k*11+1,none⟩) hb1).trans g1.2.1
  have p2:=(X.cell (p:=⟨b1,o1+k*11+2,none⟩) hb1).trans g1.2.2.1
  have p3:=(X.cell (p:=⟨b1,o1+k*11+3,none⟩) hb1).trans g1.2.2.2.1
  have p4:=(X.cell (p:=⟨b1,o1+k*11+4,none⟩) hb1).trans g1.2.2.2.2.1
  have p5:=(X.cell (p:=⟨b1,o1+k*11+5,none⟩) hb1).trans g1.2.2.2.2.2.1
  have p6:=(X.cell (p:=⟨b1,o1+k*11+6,none⟩) hb1).trans g1.2.2.2.2.2.2.1
  have p7:=(X.cell (p:=⟨b1,o1+k*11+7,none⟩) hb1).trans g1.2.2.2.2.2.2.2.1
  have p8:=(X.cell (p:=⟨b1,o1+k*11+8,none⟩) hb1).trans g1.2.2.2.2.2.2.2.2.1
  have p9:=(X.cell (p:=⟨b1,o1+k*11+9,none⟩) hb1).trans g1.2.2.2.2.2.2.2.2.2.1
  have p10:=(X.cell (p:=⟨b1,o1+k*11+10,none⟩) hb1).trans g1.2.2.2.2.2.2.2.2.2.2
  have q0:=(X.cell (p:=⟨b2,o2+k*11,none⟩) hb2).trans g2.1
  have q1:=(X.cell (p:=⟨b2,o2+k*11+1,none⟩) hb2).trans g2.2.1
  have q2:=(X.cell (p:=⟨b2,o2+k*11+2,none⟩) hb2).trans g2.2.2.1
  have q3:=(X.cell (p:=⟨b2,o2+k*11+3,none⟩) hb2).trans g2.2.2.2.1
  have q4:=(X.cell (p:=⟨b2,o2+k*11+4,none⟩) hb2).trans g2.2.2.2.2.1
  have q5:=(X.cell (p:=⟨b2,o2+k*11+5,none⟩) hb2).trans g2.2.2.2.2.2.1
  have q6:=(X.cell (p:=⟨b2,o2+k*11+6,none⟩) hb2).trans g2.2.2.2.2.2.2.1
  have q7:=(X.cell (p:=⟨b2,o2+k*11+7,none⟩) hb2).trans g2.2.2.2.2.2.2.2.1
  have q8:=(X.cell (p:=⟨b2,o2+k*11+8,none⟩) hb2).trans g2.2.2.2.2.2.2.2.2.1
  have q9:=(X.cell (p:=⟨b2,o2+k*11+9,none⟩) hb2).trans g2.2.2.2.2.2.2.2.2.2.1
  have q10:=(X.cell (p:=⟨b2,o2+k*11+10,none⟩) hb2).trans g2.2.2.2.2.2.2.2.2.2.2
  clear g1 g2
  go_upto_region 6 with fail
  (go_quiet (fail);have x9:=Ext.drewN_ wr nq;generalize wr.drewN nq=wb at *)
  have X9:=X.tr x9
  clear X x9 p0 p1 p2 p3 p4 p5 p6 p7 p8 p9 p10 q0 q1 q2 q3 q4 q5 q6 q7 q8 q9 q10 eqq
  go_wp2_with fail
  go_roundw
  case rel=>exact ⟨k+1,by omega,by go_num,X9⟩
  case measure=>simp [intOf];omega
structure LsZ (w wr:World) (v:Value) (L:List NC):Prop where
 ext:Ext w wr
 own:aJ wr w.heap.size 56 11 v (aA L)
 form:∃ A c,v=.slice A L.length c
theorem LsZ.tr {w wr wx:World}{v:Value}{L:List NC} (h:LsZ w wr v L) (e:Ext wr wx):LsZ w wx v L:=⟨h.ext.tr e,h.own.ext e,h.form⟩
theorem LsZ.rd {w wr:World}{v:Value}{L:List NC} (h:LsZ w wr v L):RdN wr v L:=h.own.rd
theorem mN (w:World) (c:NC):RdK (w.alloc (.cells (aE c).toArray 56)) 11 (.slice (some ⟨w.heap.size,0,none⟩) 1 1) (aE c):=by
 have:=RdK.lit w 11 (aE c).toArray 56 1 rfl (by unfold maxLen;omega)
 simpa using this
set_option maxHeartbeats 4000000 in
theorem z8 {v1:Value}{roots:List NC} (st:List UInt8) (day:Int) (w:World) (h1:RdN w v1 roots) (hs1:smL roots) (hl:roots.length≤900000) (E:dN w 0) :
 Calls Tryz.prog 126 #[v1,.string (aH st),.int .i64 day] w fun e w'=>∃ v,e=.returned v∧LsZ w w' v (bP roots st day):=by
 obtain ⟨A1,n1,c1,rfl,hn1,hnc1,hcm1,hel1⟩:=h1.at_
 subst hn1
 have HEL1:=UP hel1
 unfold maxLen at hcm1
 have HON:=UP (fun (c:NC) (hs:smN c) W=>fP c day W hs)
 have HRT:=UP (fun (c:NC) (hs:smN c) W (e:Ext w W)=>j6 c W hs (E.below e))
 have HS1:=UP hs1
 have HQ:=UP (fun s=>gH s st)
 clear hel1 h1 hs1 E
 go_enter Tryz.func126,Tryz.ntmps126
 go_wp2_with fail
 go_loopw [7,8] (fun out i wr=>∃ k:Nat,k≤roots.length∧i=.int .i64 (k:Int)∧Hid (LsZ w wr out (bP (roots.take k) st day))) (fun _ i _=>roots.length - (intOf i).toNat)
 case atStart=>exact ⟨0,U4 _,rfl,UP ⟨Below.refl _ _,aJ.empty _ _ _ _ _,_,_,rfl⟩⟩
 case round =>
  obtain ⟨k,hk,rfl,Z⟩:=hrel
  obtain ⟨Ao,co,rfl⟩:=Z.out.form
  by_cases hlt:k<roots.length
  case neg =>
   obtain rfl:k=roots.length:=by omega
   have HF:Hid (LsZ w wr _ (bP roots st day)):=UP (by have:=Z.out;rw [List.take_length] at this;exact this)
   clear Z
   go_wp2_with fail
   go_ret
   exact ⟨_,rfl,by have:=HF.out;simpa [List.take_length] using this⟩
  case pos =>
  obtain ⟨y,hy⟩:∃ y,roots[k]?=some y:=⟨_,U5 hlt⟩
  obtain ⟨b,o,rfl,hbl,hc⟩:=HEL1.out (by omega)
  have hcy:=hc k y hy
  have HY:=UP hy
  have HSY:=UP (HS1.out y (UC hy))
  have X:=Z.out.ext
  clear hy hc
  have wi1:IntKind.i64.wrap ((k:Int))=(k:Int):=IntWalk.i64_in _ (by omega)
  have zi1:(0:Int)≤(k:Int):=by omega
  have li1:(k:Int)<(roots.length:Int):=by omega
  have ti1:((k:Int)).toNat=k:=by omega
  have wk:IntKind.i64.wrap ((k:Int)+1)=(k:Int)+1:=IntWalk.i64_in _ (by omega)
  have q0:=(X.cell (p:=⟨b,o+k*11,none⟩) hbl).trans hcy.1
  have q1:=(X.cell (p:=⟨b,o+k*11+1,none⟩) hbl).trans hcy.2.1
  have q2:=(X.cell (p:=⟨b,o+k*11+2,none⟩) hbl).trans hcy.2.2.1
  have q3:=(X.cell (p:=⟨b,o+k*11+3,none⟩) hbl).trans hcy.2.2.2.1
  have q4:=(X.cell (p:=⟨b,o+k*11+4,none⟩) hbl).trans hcy.2.2.2.2.1
  have q5:=(X.cell (p:=⟨b,o+k*11+5,none⟩) hbl).trans hcy.2.2.2.2.2.1
  have q6:=(X.cell (p:=⟨b,o+k*11+6,none⟩) hbl).trans hcy.2.2.2.2.2.2.1
  have q7:=(X.cell (p:=⟨b,o+k*11+7,none⟩) hbl).trans hcy.2.2.2.2.2.2.2.1
  have q8:=(X.cell (p:=⟨b,o+k*11+8,none⟩) hbl).trans hcy.2.2.2.2.2.2.2.2.1
  have q9:=(X.cell (p:=⟨b,o+k*11+9,none⟩) hbl).trans hcy.2.2.2.2.2.2.2.2.2.1
  have q10:=(X.cell (p:=⟨b,o+k*11+10,none⟩) hbl).trans hcy.2.2.2.2.2.2.2.2.2.2
  clear hcy
  obtain ⟨wn,hwn,en,TN⟩:=cB wr y
  have HSN:=UP (sO st day HY.out)
  have HLE:=UP (show (bP (roots.take k) st day).length≤900000 by have h1:=jY st day (roots.take k);rw [UJ] at h1;omega)
  obtain ⟨N,hN⟩:∃ N,bP (roots.take k) st day=N:=⟨_,rfl⟩
  rw [hN] at HSN HLE Z
  rw [hN]
  clear hN
  go_upto_region 6 with fail
  rw [← hwn]
  clear hwn q0 q1 q2 q3 q4 q5 q6 q7 q8 q9 q10 X
  have ZN:=UP (Z.out.tr en)
  clear Z en
  obtain ⟨p0,p1,p2,p3,p4,p5,p6,p7,p8,p9,p10⟩:=(TN).cells
  have pf0:=(TN).frozen 0
  have pf1:=(TN).frozen 1
  have pf2:=(TN).frozen 2
  have pf3:=(TN).frozen 3
  have pf4:=(TN).frozen 4
  have pf5:=(TN).frozen 5
  have pf6:=(TN).frozen 6
  have pf7:=(TN).frozen 7
  have pf8:=(TN).frozen 8
  have pf9:=(TN).frozen 9
  have pf10:=(TN).frozen 10
  have pl:=(TN).lt
  by_cases d1:y.st=st
  case neg =>
   have hb:((aH y.st).toList == (aH st).toList)=false:=by rw [HQ.out];exact decide_eq_false d1
   have HF:=UP (show bP (roots.take (k+1)) st day=N by rw [HSN.out];unfold cD;rw [if_neg (fun q=>d1 q.1.1)])
   clear d1
   go_wp2_with fail
   go_roundw
   case rel=>exact ⟨k+1,by omega,by go_num,by rw [HF.out];exact ZN⟩
   case measure=>simp [intOf];omega
  have hb:((aH y.st).toList == (aH st).toList)=true:=by rw [HQ.out];exact decide_eq_true d1
  have C1:=UP d1
  clear d1
  go_wp2_with fail
  refine (HON.out y HSY.out _).mono ?_
  rintro e w2 ⟨rfl,b2⟩
  have TN2:=TN.ext b2
  have Z2:=UP (ZN.out.tr b2)
  clear p0 pf0 p1 pf1 p2 pf2 p3 pf3 p4 pf4 p5 pf5 p6 pf6 p7 pf7 p8 pf8 p9 pf9 p10 pf10 pl
  clear TN ZN b2
  by_cases d2:onN y day=0
  case neg =>
   have hb2:(onN y day == 0)=false:=by simpa using d2
   have HF:=UP (show bP (roots.take (k+1)) st day=N by rw [HSN.out];unfold cD;rw [if_neg (fun q=>d2 q.1.2.1)])
   clear d2
   go_wp2_with fail
   go_roundw
   case rel=>exact ⟨k+1,by omega,by go_num,by rw [HF.out];exact Z2⟩
   case measure=>simp [intOf];omega
  have hb2:(onN y day == 0)=true:=by simpa using d2
  have C2:=UP d2
  clear d2
  obtain ⟨p0,p1,p2,p3,p4,p5,p6,p7,p8,p9,p10⟩:=(TN2).cells
  have pf0:=(TN2).frozen 0
  have pf1:=(TN2).frozen 1
  have pf2:=(TN2).frozen 2
  have pf3:=(TN2).frozen 3
  have pf4:=(TN2).frozen 4
  have pf5:=(TN2).frozen 5
  have pf6:=(TN2).frozen 6
  have pf7:=(TN2).frozen 7
  have pf8:=(TN2).frozen 8
  have pf9:=(TN2).frozen 9
  have pf10:=(TN2).frozen 10
  have pl:=(TN2).lt
  go_wp2_with fail
  refine (HRT.out y HSY.out _ Z2.out.ext).mono ?_
  rintro e w3 ⟨rfl,b3⟩
  have TN3:=TN2.ext b3
  have Z3:=UP (Z2.out.tr b3)
  clear p0 pf0 p1 pf1 p2 pf2 p3 pf3 p4 pf4 p5 pf5 p6 pf6 p7 pf7 p8 pf8 p9 pf9 p10 pf10 pl
  clear TN2 Z2 b3
  obtain ⟨rb,hrb⟩:∃ rb,rtN y=rb:=⟨_,rfl⟩
  rw [hrb]
  cases rb
  · have HF:=UP (show bP (roots.take (k+1)) st day=N by rw [HSN.out];unfold cD;rw [if_neg (fun q=>by have:=q.1.2.2;rw [hrb] at this;cases this)])
    clear hrb
    go_wp2_with fail
    go_roundw
    case rel=>exact ⟨k+1,by omega,by go_num,by rw [HF.out];exact Z3⟩
    case measure=>simp [intOf];omega
  have C3:=UP hrb
  clear hrb
  obtain ⟨p0,p1,p2,p3,p4,p5,p6,p7,p8,p9,p10⟩:=(TN3).cells
  have pf0:=(TN3).frozen 0
  have pf1:=(TN3).frozen 1
  have pf2:=(TN3).frozen 2
  have pf3:=(TN3).frozen 3
  have pf4:=(TN3).frozen 4
  have pf5:=(TN3).frozen 5
  have pf6:=(TN3).frozen 6
  have pf7:=(TN3).frozen 7
  have pf8:=(TN3).frozen 8
  have pf9:=(TN3).frozen 9
  have pf10:=(TN3).frozen 10
  have pl:=(TN3).lt
  go_wp2_with fail
  refine (vD y _ Z3.out.rd).mono ?_
  rintro e w4 ⟨rfl,b4⟩
  have TN4:=TN3.ext b4
  have Z4:=UP (Z3.out.tr b4)
  clear p0 pf0 p1 pf1 p2 pf2 p3 pf3 p4 pf4 p5 pf5 p6 pf6 p7 pf7 p8 pf8 p9 pf9 p10 pf10 pl
  clear TN3 Z3 b4
  by_cases hm:y ∈ N
  · have HF:=UP (show bP (roots.take (k+1)) st day=N by rw [HSN.out];unfold cD;rw [if_neg (fun q=>q.2 hm)])
    rw [decide_eq_true hm]
    clear hm
    go_wp2_with fail
    go_roundw
    case rel=>exact ⟨k+1,by omega,by go_num,by rw [HF.out];exact Z4⟩
    case measure=>simp [intOf];omega
  have HF:=UP (show bP (roots.take (k+1)) st day=N++[y] by rw [HSN.out];unfold cD;rw [if_pos ⟨⟨C1.out,C2.out,C3.out⟩,hm⟩])
  rw [decide_eq_false hm]
  clear hm
  obtain ⟨p0,p1,p2,p3,p4,p5,p6,p7,p8,p9,p10⟩:=(TN4).cells
  have pf0:=(TN4).frozen 0
  have pf1:=(TN4).frozen 1
  have pf2:=(TN4).frozen 2
  have pf3:=(TN4).frozen 3
  have pf4:=(TN4).frozen 4
  have pf5:=(TN4).frozen 5
  have pf6:=(TN4).frozen 6
  have pf7:=(TN4).frozen 7
  have pf8:=(TN4).frozen 8
  have pf9:=(TN4).frozen 9
  have pf10:=(TN4).frozen 10
  have pl:=(TN4).lt
  have eA:Ext w4 (w4.alloc (.cells (aE y).toArray 56)):=(Below.refl _ _).alloc (TM _) _
  have HRK:=UP (mN w4 y)
  have HOA:=UP (Z4.out.tr eA)
  unfold aE at HRK HOA
  clear eA
  go_wp2_with (refine bJ (k:=11) (by decide) fU (n:=N.length) (m:=1) (B:=w.heap.size) HOA.out.own (by rw [aX]) HRK.out (by rfl) (cT y) HOA.out.ext (by have:=HLE.out;omega) (by have:=HLE.out;unfold maxLen;omega) HOA.out.ext.size rfl rfl rfl rfl ?_;intro A8 n8 c8 w8 hn8 o8 x8 _)
  have hn8:n8=(N++[y]).length:=by rw [U0];exact hn8.out
  subst hn8
  have Z8:Hid (LsZ w w8 (.slice A8 (N++[y]).length c8) (N++[y])):=UP ⟨x8,by rw [← cZ];exact o8,_,_,rfl⟩
  clear x8 o8
  go_roundw
  case rel=>exact ⟨k+1,by omega,by go_num,by rw [HF.out];exact Z8⟩
  case measure=>simp [intOf];omega
theorem cF.append {S:Nat→Prop}{w:World}{d:Nat}{xs ys:List Value}{ts us:List Nd} (h1:cF S d w xs ts) (h2:cF S d w ys us):cF S d w (xs++ys) (ts++us):=by
 have hl:=h1.1
 refine ⟨by rw [U0,U0,h1.1,h2.1,Nat.add_mul],fun i u hu=>?_⟩
 by_cases hi:i<ts.length
 · rw [List.getElem?_append_left hi] at hu
   obtain ⟨B1,m1,d1,B2,m2,d2,e0,e1,e2,q1,q2⟩:=h1.2 i u hu
   exact ⟨B1,m1,d1,B2,m2,d2,by rw [List.getElem?_append_left (by omega)];exact e0,by rw [List.getElem?_append_left (by omega)];exact e1,by rw [List.getElem?_append_left (by omega)];exact e2,q1,q2⟩
 · rw [List.getElem?_append_right (by omega)] at hu
   obtain ⟨B1,m1,d1,B2,m2,d2,e0,e1,e2,q1,q2⟩:=h2.2 _ u hu
   exact ⟨B1,m1,d1,B2,m2,d2,by rw [List.getElem?_append_right (by omega),show i*3 - xs.length=(i - ts.length)*3 by omega];exact e0,by rw [List.getElem?_append_right (by omega),show i*3+1 - xs.length=(i - ts.length)*3+1 by omega];exact e1,by rw [List.getElem?_append_right (by omega),show i*3+2 - xs.length=(i - ts.length)*3+2 by omega];exact e2,q1,q2⟩
def NdF (B d:Nat) (ts:List Nd):aF:=fun v w=>∃ (g:Nat) (cs:Array Value),v=.slice (some ⟨g,0,none⟩) ts.length ts.length∧B≤g∧w.heap[g]?=some (.cells cs 180 (0,0))∧cF (fun b=>B≤b) d w cs.toList ts
theorem vH (B d:Nat) (ts:List Nd):bL (NdF B d ts):=fun v w w' e ⟨g,cs,h1,h2,h3,h4⟩=>⟨g,cs,h1,h2,(e.block g (a9 h3)).trans h3,h4.map fun b hb hlt=>⟨hb,e.block b hlt⟩⟩
set_option maxHeartbeats 1000000 in
theorem P6 (W:World) (z0:Int) (a0 b0:Option Addr) (n0 c0 m0 d0:Nat) (z1:Int) (a1 b1:Option Addr) (n1 c1 m1 d1:Nat) (z2:Int) (a2 b2:Option Addr) (n2 c2 m2 d2:Nat):(Instr.buildSlice 178 3 [(0,.agg #[.int .i64 z0,.slice a0 n0 c0,.slice b0 m0 d0]),(1,.agg #[.int .i64 z1,.slice a1 n1 c1,.slice b1 m1 d1]),(2,.agg #[.int .i64 z2,.slice a2 n2 c2,.slice b2 m2 d2])].toArray).run Tryz.prog W=.ok (.slice (some ⟨W.heap.size,0,none⟩) 3 3) (W.alloc (.cells #[.int .i64 z0,.slice a0 n0 c0,.slice b0 m0 d0,.int .i64 z1,.slice a1 n1 c1,.slice b1 m1 d1,.int .i64 z2,.slice a2 n2 c2,.slice b2 m2 d2] 180)):=by go_simp
theorem CD {B d:Nat} (W:World) (hB:B≤W.heap.size) {v0 v1:Value}{t0 t1:Nd} (h0:NdG B d t0 v0 W) (h1:NdG B d t1 v1 W):∃ v' w'',(Instr.buildSlice 178 2 [(0,v0),(1,v1)].toArray).run Tryz.prog W=.ok v' w''∧Ext W w''∧NdF B d [t0,t1] v' w'':=by
 obtain ⟨a0,n0,c0,b0,m0,d0,rfl,r0,k0⟩:=h0
 obtain ⟨a1,n1,c1,b1,m1,d1,rfl,r1,k1⟩:=h1
 have e:Ext W (W.alloc (.cells #[.int .i64 t0.tag,.slice a0 n0 c0,.slice b0 m0 d0,.int .i64 t1.tag,.slice a1 n1 c1,.slice b1 m1 d1] 180)):=(Below.refl _ _).alloc (TM _) _
 exact ⟨_,_,G4 W t0.tag a0 b0 n0 c0 m0 d0 t1.tag a1 b1 n1 c1 m1 d1,e,_,_,rfl,hB,aB W _,(((cF.nil _ d W).snoc r0 k0).snoc r1 k1).map fun b hb hlt=>⟨hb,e.block b hlt⟩⟩
section
variable {P:Program}{ops:Array Oper}{rest:List Oper}{o:Oper}{a:Act}{Q:Exit→Act→World→Prop}{w:World}
theorem CE {t1 t2:TypeId}{x:Operand}{xv v:Value}{w':World} (hgd:o.guard=none) (ho:o.op=.convert t1 t2 x) (hx:a.eval x=xv) (hr:(convert t1 t2 xv).run P w=.ok v w') (h:wpList P ops Q rest (a.put o.dst v) w'):wpList P ops Q (o::rest) a w :=
 wpList_plain hgd fun _ hK=>by
  unfold Oper.wp execOp
  simp only [ho,hx,hr,Sem.run_bind,Sem.run_pure,Result.andThen_ok]
  exact hK _ _ h
end
theorem CF (st:List UInt8) (num:Int) (w:World) (hs:st.length≤4096) (h0:0≤num) (h1:num<9223372036854775808) :
 Calls Tryz.prog 151 #[.string (aH st),.int .i64 num] w fun e w'=>∃ v,e=.returned v∧Ext w w'∧NdF w.heap.size 0 [aY 19 st,aY 130 (be4 num)] v w':=by
 obtain ⟨v1,w1,r1,x1,g1⟩:=yS (B:=w.heap.size) w (TM _) st hs
 obtain ⟨A1,n1,c1,rfl⟩:=g1.slice
 go_enter Tryz.func151,Tryz.ntmps151
 go_wp2_with (refine CE rfl rfl rfl r1 ?_)
 refine (oG (B:=w.heap.size) (d:=0) w1 19 g1).mono ?_
 rintro e w2 ⟨v2,rfl,x2,g2⟩
 go_wp2_with fail
 refine (fY 4 num 4 w2 h0 h1 rfl (by omega)).mono ?_
 rintro e w3 hb
 obtain ⟨v3,rfl,x3,g3⟩:=(BO num ▸ hb:gP w2 (be4 num) _ _).gs (U9 x1.size x2.size)
 go_wp2_with fail
 refine (oG (B:=w.heap.size) (d:=0) w3 130 g3).mono ?_
 rintro e w4 ⟨v4,rfl,x4,g4⟩
 have g2':=bI _ _ _ _ _ _ (x3.tr x4) g2
 have xw:=((x1.tr x2).tr x3).tr x4
 obtain ⟨v5,w5,r5,x5,g5⟩:=CD w4 xw.size g2' g4
 obtain ⟨a0,n0,c0,b0,m0,d0,rfl,r0,k0⟩:=g2'
 obtain ⟨a1,n1',c1',b1,m1,d1,rfl,r1',k1⟩:=g4
 rw [G4] at r5
 injection r5 with e1 e2
 subst e1 e2
 go_wp2_with fail
 go_ret
 exact ⟨_,rfl,xw.tr x5,g5⟩
theorem MF {B B' d:Nat}{ts:List Nd}{v:Value}{w:World} (h:NdF B d ts v w) (hB:B'≤B):NdF B' d ts v w:=by
 obtain ⟨g,cs,h1,h2,h3,h4⟩:=h
 exact ⟨g,cs,h1,U9 hB h2,h3,h4.map fun b hb _=>⟨U9 hB hb,rfl⟩⟩
def GSl (l:List NC):aF:=fun v w=>∃ A n c,v=.slice A n c∧n=l.length∧RdN w (.slice A n c) l
theorem vI (l:List NC):bL (GSl l):=fun v w w' e ⟨A,n,c,h1,h2,h3⟩=>⟨A,n,c,h1,h2,RdK.ext h3 e⟩
theorem J3.gsl {w:World}{l:List NC}{e:Ending}{w':World} (h:J3 w l e w'):∃ v,e=.returned v∧Ext w w'∧GSl l v w':=by
 obtain ⟨h1,A,c,h2,h3⟩:=h
 exact ⟨_,h2,h1,A,_,c,rfl,rfl,h3⟩
end Go.Proofs.YtkjplpmogfmhkaaGreatDoor
