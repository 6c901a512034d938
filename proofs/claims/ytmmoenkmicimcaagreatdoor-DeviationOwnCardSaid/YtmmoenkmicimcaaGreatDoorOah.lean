import Derived.Test.YtmmoenkmicimcaaGreatDoorOag
import Derived.Lib.BufferWrite
import Derived.Lib.SlBuf
import Derived.Lib.SmallJoins
import Derived.Laws.CopyOwn
namespace Go.Proofs.YtmmoenkmicimcaaGreatDoor
open Go.RowKit
set_option linter.unusedVariables false
set_option maxRecDepth 100000
def Bk(w:World)(g:Nat)(xs:List UInt8):Prop:=w.heap[g]?=some (.cells (ce xs).toArray 5 (0,0))
theorem Bk.lt {w:World}{g:Nat}{xs:List UInt8}(h:Bk w g xs):g<w.heap.size:=a9 h
theorem Bk.cell {w:World}{g:Nat}{xs:List UInt8}(h:Bk w g xs){j:Nat}(l:j<xs.length):w.cell? ⟨g,j,none⟩=some (.int .u8 (cA xs j)):=by rw [ae w g j _ _ _ h,lA l];have:=KG l;simpa using this
theorem Bk.frozen {w:World}{g:Nat}{xs:List UInt8}(h:Bk w g xs)(j:Nat):w.frozen? ⟨g,j,none⟩=false:=by unfold Bk at h;simp [World.frozen?,h]
theorem Bk.ext {w w':World}{g:Nat}{xs:List UInt8}(h:Bk w g xs)(b:Ext w w'):Bk w' g xs:=(b.block g h.lt).trans h
theorem Bk.set {w:World}{g:Nat}{xs:List UInt8}(h:Bk w g xs)(j:Nat)(z:Int)(l:0<=z)(q:z<256):Bk (w.setCell ⟨g,j,none⟩ (.int .u8 z)) g (xs.set j (u8 z)):=by
 have:=Joins.block_setCell (i:=j) h (.int .u8 z);unfold Bk;rw [this];have e:bv (u8 z)=.int .u8 z:=by rw [rY,Int.emod_eq_of_lt l q]
 simp [ce,e]
theorem Bk.own {w:World}{g B:Nat}{xs:List UInt8}(h:Bk w g xs)(l:B<=g)(q:xs.length<=maxLen):Own w B 5 (.slice (some ⟨g,0,none⟩) xs.length xs.length) (ce xs):=⟨_,_,_,rfl,(bM xs).symm,.inr ⟨g,_,rfl,l,h,bh _,q,by simp [bM],by rw [<- bM xs];simp⟩⟩
section
variable {ops:Array Oper}{rest:List Oper}{o:Oper}{a:Act}{Q:Exit->Act->World->Prop}{w w0:World}
theorem a1e {B:Nat}(n:Nat)(z:Int){l c:Operand}(K:o.guard=none)(ho:o.op=.makeSlice 48 l c)(N:a.eval l=.int .i64 z)(O:a.eval c=.int .i64 z)(C:z=(n:Int))(a3:n<=140737488355328)(U:Below B w0 w)(W:B<=w.heap.size)(h:∀w',Bk w' w.heap.size (List.replicate n 0)->Below B w0 w'->Ext w w'->wpList Tryz.prog ops Q rest (a.put o.dst (.slice (some ⟨w.heap.size,0,none⟩) n n)) w'):wpList Tryz.prog ops Q (o::rest) a w:=by
 obtain⟨i,X,F,G,Y⟩:=info_parts (show(Tryz.prog.info? 5).map (fun i=>(i.zero,i.size,i.bytes))=some (some (.int .u8 0),1,1)by kernel_rfl);refine wpList_make_full w K l c _ ho w.heap.size 5 i (.int .u8 0) 1 Tryz.underlying48 X F G .i64 .i64 z z n N O C C (by rw [Y];omega) (by unfold maxLen;omega) (bh _) ?_;intro w' a0 hg;have H:Ext w w':=(aa _ _).grown hg (bh _) (fun k e=>by cases e);refine h w' ?_ (U.trans (H.mono W)) H;rcases a0.2 with⟨e,_⟩ | ⟨g,a4,I,e,a5,a1,a6,a7,a2,J⟩;· cases e
 · injection e with q e2 e3;injection q with q;injection q with q;subst q e3;unfold Bk;rw [a1];congr 2;have e4:I.toList.take (n*1)=I.toList:=List.take_of_length_le (by simp [a2]);rw [e4]at J;have e5:(madeCells (Value.int IntKind.u8 0).cells (n*1)).toList=ce (List.replicate n 0):=(by apply List.ext_getElem;(· simp [size_madeCells,bM]);· intro i F G;simp [madeCells,Value.cells,ce,bv,Nat.mod_one]);rw [<- e5,<- J]
end
end Go.Proofs.YtmmoenkmicimcaaGreatDoor
