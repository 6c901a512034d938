/- Parts Pkj Wr Jk Rw Pku of the proof. -/
import Derived.Test.YtkjplpmogfmhkaaGreatDoorLai
import Derived.Test.YtkjplpmogfmhkaaGreatDoorLao
import Derived.Test.YtkjplpmogfmhkaaGreatDoorLaj
import Derived.Test.YtkjplpmogfmhkaaGreatDoorLah
import Derived.Test.YtkjplpmogfmhkaaGreatDoorLaf
import Derived.Test.YtkjplpmogfmhkaaGreatDoorLag
import Derived.Lib.ConvBytes
import Derived.Test.YtkjplpmogfmhkaaGreatDoorLaq
import Derived.BigQuiet
import Derived.Laws.AppendOwn
import Derived.Lib.SliceRun
import Derived.Deep.LoopGhost
import Derived.Lib.LazyBuf
import Derived.Test.YtkjplpmogfmhkaaGreatDoorLab
import Derived.Test.YtkjplpmogfmhkaaGreatDoorLaa
namespace Go.Proofs.YtkjplpmogfmhkaaGreatDoor
open Go.RowKit
set_option linter.unusedVariables false
set_option maxRecDepth 100000
def aI (l:List UInt8):ByteArray:=⟨l.toArray⟩
def upI (z:Int):Prop:=65≤z∧z≤90
def dgI (z:Int):Prop:=48≤z∧z≤57
instance (z:Int):Decidable (upI z):=inferInstanceAs (Decidable (_∧_))
instance (z:Int):Decidable (dgI z):=inferInstanceAs (Decidable (_∧_))
def GQ (l:List UInt8):Prop:=(1≤l.length∧l.length≤16)∧upI (cB l 0)∧∀ i,i<l.length→upI (cB l i) ∨ dgI (cB l i)
instance (l:List UInt8):Decidable (GQ l):=inferInstanceAs (Decidable (_∧_∧_))
structure TC where
 au:List UInt8
 ho:List UInt8
 key:Int
 role:Int
 rights:Int
 fr:Int
 to:Int
 e:Int
 s:Int
def M8 (fr to:Int):Prop:=0≤fr∧fr≤to∧to≤73048
instance (fr to:Int):Decidable (M8 fr to):=inferInstanceAs (Decidable (_∧_))
def ckT (c:TC):Int :=
 if ¬ GQ c.au ∨ ¬ GQ c.ho then 60 else if cK c.key=false then 10 else if c.role<1 ∨ 4<c.role then 61 else
 if c.rights<0 ∨ 65535<c.rights then 62 else if ¬ M8 c.fr c.to then 8 else 0
def be3 (x:Int):List UInt8:=[u8 (x / 65536),u8 (x / 256),u8 x]
def bA (t:Int) (l:List UInt8):Nd:=.mk t l []
def TI (c:TC):Nd:=.mk 32590 [] [bA 66 c.au,bA 24352 c.ho,bA 134 (be4 c.key),.mk 32588 [] [bA 83 [u8 c.role,u8 (c.rights / 256),u8 c.rights]],bA 24357 (be3 c.fr),bA 24356 (be3 c.to)]
def TJ (c:TC):List UInt8:=cA 3 [TI c]
theorem jX {d:Nat}{t:Int}{l:List UInt8} (h0:0≤t) (h1:t<65536) (hv:fV t=true) (hc:dU t=false):(0≤(bA t l).tag∧(bA t l).tag<65536)∧fV (bA t l).tag=true∧(dU (bA t l).tag=true→(bA t l).val=[])∧(dU (bA t l).tag=false→(bA t l).kids=[])∧lU d (bA t l).kids:=by
 refine ⟨⟨h0,h1⟩,hv,fun h=>?_,fun _=>rfl,?_⟩
 · rw [show (bA t l).tag=t from rfl,hc] at h;cases h
 · show lU d []
   cases d with
   | zero=>rfl
   | succ d=>intro t ht;cases ht
theorem EU {d:Nat}{t:Int}{ks:List Nd} (h0:0≤t) (h1:t<65536) (hv:fV t=true) (hc:dU t=true) (hk:lU d ks):(0≤(Nd.mk t [] ks).tag∧(Nd.mk t [] ks).tag<65536)∧fV (Nd.mk t [] ks).tag=true∧(dU (Nd.mk t [] ks).tag=true→(Nd.mk t [] ks).val=[])∧(dU (Nd.mk t [] ks).tag=false→(Nd.mk t [] ks).kids=[])∧lU d (Nd.mk t [] ks).kids :=
 ⟨⟨h0,h1⟩,hv,fun _=>rfl,fun h=>(by rw [show (Nd.mk t [] ks).tag=t from rfl,hc] at h;cases h),hk⟩
theorem mM (d:Nat):lU d []:=by
 cases d with
 | zero=>rfl
 | succ d=>intro t ht;cases ht
theorem dJ {d:Nat}{t:Nd}{ts:List Nd} (h:(0≤t.tag∧t.tag<65536)∧fV t.tag=true∧(dU t.tag=true→t.val=[])∧(dU t.tag=false→t.kids=[])∧lU d t.kids) (hs:lU (d+1) ts):lU (d+1) (t::ts):=by
 intro u hu
 rcases List.mem_cons.1 hu with rfl | hu
 · exact h
 · exact hs u hu
def vfB (p:Int) (c:TC):Bool:=if ckT c=0 then jH p (TJ c) c.e c.s else false
theorem QS {s:ByteArray}{k:Nat} (h:k<s.size):cB s.data.toList k=(s[k].toNat:Int):=by
 rw [jJ (l:=s.data.toList) (by simpa using h)]
 rfl
def UO (x:Int):Prop:=0≤x∧x≤73048
instance (x:Int):Decidable (UO x):=inferInstanceAs (Decidable (_∧_))
def elB (x:Int):List UInt8:=if cK x=true then be4 x else []
def elK (x:Int):Int:=if cK x=true then 0 else 10
theorem BY (x:Int) (w:World):Calls Tryz.prog 252 #[.int .i64 x] w (xP w (elB x) (elK x)):=by
 cases h:cK x with
 | true =>
   obtain ⟨x0,x1⟩:=qW h
   unfold elB elK
   rw [if_pos h,if_pos h]
   go_enter Tryz.func252,Tryz.ntmps252
   go_wp2_with fail
   refine (fW x _).mono ?_
   rintro e w' ⟨rfl,rfl⟩
   rw [h]
   go_wp2_with fail
   refine (pK x _ (by omega) (by omega)).mono ?_
   rintro e w2 ⟨A,n,c,rfl,hn,o,b⟩
   go_wp2_with fail
   go_ret2
   exact ⟨_,_,_,rfl,hn,o,b⟩
 | false =>
   unfold elB elK
   rw [if_neg (by simp [h]),if_neg (by simp [h])]
   go_enter Tryz.func252,Tryz.ntmps252
   go_wp2_with fail
   refine (fW x _).mono ?_
   rintro e w' ⟨rfl,rfl⟩
   rw [h]
   go_wp2_with fail
   go_ret2
   exact ⟨_,_,_,rfl,(show _=_ from rfl),Own.nil_ _ _ _,Below.refl _ _⟩
theorem uV (x:Int) (w:World):Calls Tryz.prog 256 #[.int .i64 x] w (xP w (elB x) (elK x)):=by
 cases h:cK x with
 | true =>
   unfold elB elK
   rw [if_pos h,if_pos h]
   go_enter Tryz.func256,Tryz.ntmps256
   go_wp2_with fail
   refine (eI x _).mono ?_
   rintro e w' ⟨rfl,rfl⟩
   rw [h]
   go_wp2_with fail
   refine (mJ x _).mono ?_
   rintro e w2 ⟨A,n,c,rfl,hn,o,b⟩
   go_wp2_with fail
   go_ret2
   exact ⟨_,_,_,rfl,hn,o,b⟩
 | false =>
   unfold elB elK
   rw [if_neg (by simp [h]),if_neg (by simp [h])]
   go_enter Tryz.func256,Tryz.ntmps256
   go_wp2_with fail
   refine (eI x _).mono ?_
   rintro e w' ⟨rfl,rfl⟩
   rw [h]
   go_wp2_with fail
   go_ret2
   exact ⟨_,_,_,rfl,(show _=_ from rfl),Own.nil_ _ _ _,Below.refl _ _⟩
def UP (l:List UInt8):Prop:=l.length=4∧cK (num l)=true
instance (l:List UInt8):Decidable (UP l):=inferInstanceAs (Decidable (_∧_))
def beN:Nat→Int→List UInt8
 | 0,_=>[]
 | k+1,x=>beN k (x / 256)++[u8 x]
theorem iR:∀ (k:Nat) (x:Int),(beN k x).length=k
 | 0,_=>rfl
 | k+1,x=>by rw [beN,V5,iR k];rfl
theorem TK (x:Int):beN 1 x=[u8 x]:=rfl
theorem sC (x:Int):beN 3 x=be3 x:=by
 show [u8 (x / 256 / 256),u8 (x / 256),u8 x]=_
 rw [show x / 256 / 256=x / 65536 by omega]
 rfl
theorem BZ (x:Int):beN 4 x=be4 x:=by
 show [u8 (x / 256 / 256 / 256),u8 (x / 256 / 256),u8 (x / 256),u8 x]=_
 rw [show x / 256 / 256 / 256=x / 16777216 by omega,show x / 256 / 256=x / 65536 by omega]
 rfl
theorem GR (v:UInt8) (T:List UInt8):∀ k:Nat,(List.replicate (k+1) 0++T).set k v=List.replicate k 0++v::T
 | 0=>rfl
 | k+1=>by
   rw [List.replicate_succ,List.cons_append,V0,GR v T k,List.replicate_succ (n:=k)]
   rfl
theorem RI (x:Int):u8 (x % 256)=u8 x:=by unfold u8;rw [Int.emod_emod]
def BnL (w:World) (size:Nat) (x:Int) (n i:Value) (wr:World):Prop :=
 ∃ (k:Nat) (y:Int) (T:List UInt8),k≤size∧i=.int .i64 ((k:Int) - 1)∧n=.int .i64 y∧0≤y∧y<9223372036854775808∧beN k y++T=beN size x∧Bk wr w.heap.size (List.replicate k 0++T)∧Below w.heap.size w wr
set_option maxHeartbeats 1000000 in
theorem oG (size:Nat) (x z:Int) (w:World) (h0:0≤x) (h1:x<9223372036854775808) (hz:z=(size:Int)) (hs:size≤100):Calls Tryz.prog 153 #[.int .i64 x,.int .i64 z] w fun e w'=>∃ A,e=.returned (.slice A size size)∧Own w' w.heap.size 5 (.slice A size size) (bvs (beN size x))∧Ext w w':=by
 subst hz
 go_enter Tryz.func153,Tryz.ntmps153
 go_wp2_with (refine TD size _ rfl rfl rfl rfl rfl (by omega) (Below.refl _ _) (UX _) ?_;intro w1 k1 b1 x1)
 have R0:BnL w size x (.int .i64 x) (.int .i64 ((size:Int) - 1)) w1:=⟨size,x,[],UX _,rfl,rfl,h0,h1,List.append_nil _,by rw [List.append_nil];exact k1,b1⟩
 have R0':=VR R0
 clear R0 k1 b1 x1
 go_loopw [0,6] (fun n i wr=>BnL w size x n i wr) (fun _ i _=>(intOf i+1).toNat)
 case atStart=>exact R0'.out
 case round =>
  obtain ⟨k,y,T,hk,rfl,rfl,y0,y1,hT,kb,bb⟩:=hrel
  have HT:=VR hT
  have HB:=VR kb
  clear hT kb
  match k,hk,HT,HB with
  | 0,hk,HT,HB =>
    have e:T=beN size x:=by have:=HT.out;simpa [beN] using this
    subst e
    rw [show ((0:Nat):Int) - 1=-1 from rfl]
    have ho:=HB.out.own (B:=w.heap.size) (UX _) (by simp [iR];unfold maxLen;omega)
    simp only [List.replicate_zero,VN,iR] at ho
    have HO:=VR ho
    clear ho
    go_wp2
    go_ret
    exact ⟨_,rfl,HO.out,bb⟩
  | k+1,hk,HT,HB =>
    rw [show ((k+1:Nat):Int) - 1=(k:Int) by omega]
    have hc:=HB.out.cell (j:=k) (by simp;omega)
    have hf:=HB.out.frozen k
    have wi1:IntKind.i64.wrap ((k:Int))=(k:Int):=IntWalk.i64_in _ (by omega)
    have zi1:(0:Int)≤(k:Int):=by omega
    have li1:(k:Int)<(size:Int):=by omega
    have ti1:((k:Int)).toNat=k:=by omega
    have d0:0≤y / 256:=by omega
    have d1:y / 256<9223372036854775808:=by omega
    go_wp2
    go_roundw
    case rel =>
     refine ⟨k,y / 256,u8 y::T,by omega,rfl,rfl,d0,d1,?_,?_,bb.setCell (p:=⟨w.heap.size,k,none⟩) (UX _) _⟩
     · have:=HT.out
       rw [beN,VF] at this
       exact this
     · have:=HB.out.set k (y % 256) (by omega) (by omega)
       rw [GR,RI] at this
       exact this
    case measure=>simp [intOf]
theorem gC (size:Nat) (x z:Int) (w:World) (h0:0≤x) (h1:x<9223372036854775808) (hz:z=(size:Int)) (hs:size≤100):Calls Tryz.prog 153 #[.int .i64 x,.int .i64 z] w (gP w (beN size x)) :=
 (oG size x z w h0 h1 hz hs).mono fun e w' ⟨A,h1,h2,h3⟩=>⟨_,_,_,h1,(show _=_ by rw [iR]),h2,h3⟩
theorem C4 (t:Int) (A:Option Addr) (n c:Nat) (w:World):Calls Tryz.prog 152 #[.int .i64 t,.slice A n c] w (eP w (.agg #[.int .i64 t,.slice A n c,.slice none 0 0])):=by
 go_enter Tryz.func152,Tryz.ntmps152
 go_wp2_with fail
 refine bodyPost_ret (v:=.agg #[.int .i64 t,.slice A n c,.slice none 0 0]) ?_ rfl ⟨rfl,?_⟩
 · simp [results,Tryz.results152,go_sem]
 · exact (Below.refl _ _).alloc (UX _) _
theorem zE (W:World) (l:List UInt8) (hl:l.length≤4096):∃ A n c w',(convert 9 89 (.string (aI l))).run Tryz.prog W=.ok (.slice A n c) w'∧Ext W w'∧Hid (n=l.length)∧RdS (fun b=>W.heap.size≤b) w' (.slice A n c) (bvs l):=by
 have hsz:(aI l).size=l.length:=by show l.toArray.size=_;simp
 refine ⟨_,_,_,_,Lib.run_convert_string_bytes W 9 89 5 (aI l) Tryz.underlying9 Tryz.underlying89 Tryz.underlying5,?_,(show _=_ from hsz),?_⟩
 · exact ⟨by simp [Lib.bytesWorld,World.freeze,World.alloc,World.drew,-World.alloc_eq,-World.drew_eq],by simp [Lib.bytesWorld,World.freeze,World.alloc,World.drew,-World.alloc_eq,-World.drew_eq],by simp [Lib.bytesWorld,World.freeze,World.alloc,World.drew,-World.alloc_eq,-World.drew_eq],by rw [Lib.bytesWorld_size];omega,fun k hk=>Lib.bytesWorld_at_old _ _ _ _ hk⟩
 · refine ⟨_,_,_,rfl,by rw [bG];exact hsz,grownCap_ge _ _ _ _,grownCap_le_maxLen _ _ _ _ (by unfold maxLen;omega),fun _=>⟨_,0,rfl,UX _,fun j u hu=>?_⟩⟩
   obtain ⟨hj,rfl⟩:=GG hu
   rw [VB,Lib.bytesWorld_cell _ _ _ _ (by rw [hsz];exact hj)]
   congr 2
   simp [aI,List.getD_eq_getElem?_getD,hj]
end Go.Proofs.YtkjplpmogfmhkaaGreatDoor
namespace Go.Proofs.YtkjplpmogfmhkaaGreatDoor
open Go Go.RowKit
set_option linter.unusedVariables false
def evF (a:Act) (hs:List (Nat × aE)) (f:Nat→Value):Operand→Value
 | .tmp t=>match hs.lookup t with
   | some _=>f t
   | none=>a.eval (.tmp t)
 | x=>a.eval x
def jY (a:Act):Operand→Bool
 | .tmp t=>Nat.blt t a.tmps.size
 | _=>true
theorem uW {a b:Act}{hs:List (Nat × aE)}{f:Nat→Value}{x:Operand} (hz:b.tmps.size=a.tmps.size) (hb:∀ (i:Nat) (h1:i<b.tmps.size) (h2:i<a.tmps.size),b.tmps[i]=if (hs.lookup i).isSome then f i else a.tmps[i]) (h:jY a x=true):b.eval x=evF a hs f x:=by
 cases x with
 | tmp t =>
   have h2:t<a.tmps.size:=bH h
   have h1:t<b.tmps.size:=by rw [hz];exact h2
   have:=hb t h1 h2
   unfold evF
   simp only [Act.eval]
   rw [← Array.getElem_eq_getD (h:=h1),← Array.getElem_eq_getD (h:=h2),this]
   cases hs.lookup t <;> rfl
 | _=>rfl
namespace Gd
open Go.Proofs.YtkjplpmogfmhkaaGreatDoor.Gd (cN)
section
variable {P:Program}{ops:Array Oper}{Q:Exit→Act→World→Prop}{w0:World}{R:Act→World→Prop}
theorem dE {a:Act}{hs:List (Nat × aE)}{f:Nat→Value}{x:Operand} (h:jY a x=true):(aV a hs f).eval x=evF a hs f x:=uW (bS a f hs) (fU a f hs) h
theorem eD {a:Act}{hs:List (Nat × aE)} (f:Nat→Value) (n:Nat) (h:Nat.blt n a.tmps.size=true):n<(aV a hs f).tmps.size:=by rw [bS];exact bH h
theorem dV {o:Oper}{rest:List Oper}{a:Act}{hs:List (Nat × aE)}{d:Nat} (hg:cN ops o a hs) (g:aE) (hst:bK g) (s:(Nat→Value)→Sem Value)
 (hd:o.dst=some d) (hz:Nat.blt d a.tmps.size=true) (hsel:aP o=true) (hin:(aR o).all (fun t=>Nat.blt t a.tmps.size)=true) (he:∀ f,execOp (aV a hs f).eval o=(do pure (Next.value (← s f))))
 (h:∀ (m:Lt w0) (f:Nat→Value),(∀ t p,hs.lookup t=some p→(aR o).contains t=true→p (f t) m.1)→∃ v w'',(s f).run P m.1=.ok v w''∧Ext m.1 w''∧g v w'')
 (hr:wpX P ops Q w0 R rest (a.put (some d) undef) ((d,g)::hs)):wpX P ops Q w0 R (o::rest) a hs :=
 gG hg g hst hd hz hsel hin (fun m f hf K hK=>by
  obtain ⟨v,w'',h1,h2,h3⟩:=h m f hf
  exact nG (he f) h1 (hK _ _ (by rw [hd];show ((aV a hs f).put (some d) v).defers=_;simp [Act.put,bO]) ⟨h2,by rw [hd,aM (eD f d hz)];exact h3⟩)) hr
theorem bJ {o:Oper}{rest:List Oper}{a:Act}{hs:List (Nat × aE)}{d:Nat} (hg:cN ops o a hs) (g:aE) (hst:bK g) {t:TypeId}{n:Nat}{ps:Array (Nat × Operand)} (vs:(Nat→Value)→List (Nat × Value))
 (hd:o.dst=some d) (hz:Nat.blt d a.tmps.size=true) (ho:o.op=.buildSlice t n ps) (hin:(aR o).all (fun t=>Nat.blt t a.tmps.size)=true) (hq:(ps.toList.all fun q=>jY a q.2)=true) (ha:∀ f,(ps.toList.map fun q=>(q.1,evF a hs f q.2))=vs f)
 (h:∀ (m:Lt w0) (f:Nat→Value),(∀ t p,hs.lookup t=some p→(aR o).contains t=true→p (f t) m.1)→∃ v w'',(Instr.buildSlice t n (vs f).toArray).run P m.1=.ok v w''∧Ext m.1 w''∧g v w'')
 (hr:wpX P ops Q w0 R rest (a.put (some d) undef) ((d,g)::hs)):wpX P ops Q w0 R (o::rest) a hs :=
 dV hg g hst (fun f=>Instr.buildSlice t n (vs f).toArray) hd hz (by unfold aP;rw [ho]) hin (fun f=>by unfold execOp;simp only [ho];rw [← ha f,List.map_congr_left (fun q hm=>by rw [← dE (List.all_eq_true.1 hq q hm)]),← List.map_toArray,Array.toArray_toList]) h hr
theorem dA {o:Oper}{rest:List Oper}{a:Act}{hs:List (Nat × aE)}{d:Nat} (hg:cN ops o a hs) (g:aE) (hst:bK g) {t:TypeId}{ps:Array (Nat × Operand)} (vs:(Nat→Value)→List (Nat × Value))
 (hd:o.dst=some d) (hz:Nat.blt d a.tmps.size=true) (ho:o.op=.build t ps) (hin:(aR o).all (fun t=>Nat.blt t a.tmps.size)=true) (hq:(ps.toList.all fun q=>jY a q.2)=true) (ha:∀ f,(ps.toList.map fun q=>(q.1,evF a hs f q.2))=vs f)
 (h:∀ (m:Lt w0) (f:Nat→Value),(∀ t p,hs.lookup t=some p→(aR o).contains t=true→p (f t) m.1)→∃ v w'',(Instr.build t (vs f).toArray).run P m.1=.ok v w''∧Ext m.1 w''∧g v w'')
 (hr:wpX P ops Q w0 R rest (a.put (some d) undef) ((d,g)::hs)):wpX P ops Q w0 R (o::rest) a hs :=
 dV hg g hst (fun f=>Instr.build t (vs f).toArray) hd hz (by unfold aP;rw [ho]) hin (fun f=>by unfold execOp;simp only [ho];rw [← ha f,List.map_congr_left (fun q hm=>by rw [← dE (List.all_eq_true.1 hq q hm)]),← List.map_toArray,Array.toArray_toList]) h hr
theorem qY {o:Oper}{rest:List Oper}{a:Act}{hs:List (Nat × aE)}{d:Nat} (hg:cN ops o a hs) (g:aE) (hst:bK g) {t1 t2:TypeId}{x:Operand} (xv:(Nat→Value)→Value)
 (hd:o.dst=some d) (hz:Nat.blt d a.tmps.size=true) (ho:o.op=.convert t1 t2 x) (hin:(aR o).all (fun t=>Nat.blt t a.tmps.size)=true) (hq:jY a x=true) (ha:∀ f,evF a hs f x=xv f)
 (h:∀ (m:Lt w0) (f:Nat→Value),(∀ t p,hs.lookup t=some p→(aR o).contains t=true→p (f t) m.1)→∃ v w'',(convert t1 t2 (xv f)).run P m.1=.ok v w''∧Ext m.1 w''∧g v w'')
 (hr:wpX P ops Q w0 R rest (a.put (some d) undef) ((d,g)::hs)):wpX P ops Q w0 R (o::rest) a hs :=
 dV hg g hst (fun f=>convert t1 t2 (xv f)) hd hz (by unfold aP;rw [ho]) hin (fun f=>by unfold execOp;simp only [ho];rw [dE hq,ha f]) h hr
theorem aU {o:Oper}{rest:List Oper}{a:Act}{hs:List (Nat × aE)}{d:Nat} (hg:cN ops o a hs) (g:aE) (hst:bK g) {fn:FuncId}{x:Operand}{xs:Array Operand}{ats:Array TypeId} (args:(Nat→Value)→List Value)
 (hd:o.dst=some d) (hz:Nat.blt d a.tmps.size=true) (ho:o.op=.call { callee:=.value x,args:=xs,argTypes:=ats }) (hin:(aR o).all (fun t=>Nat.blt t a.tmps.size)=true)
 (hqx:x=.func fn) (hf:fC P fn=true) (hq:(xs.toList.all fun q=>jY a q)=true) (ha:∀ f,xs.toList.map (evF a hs f)=args f)
 (h:∀ (m:Lt w0) (f:Nat→Value),(∀ t p,hs.lookup t=some p→(aR o).contains t=true→p (f t) m.1)→Calls P fn (args f).toArray m.1 fun e w''=>∃ v,e=.returned v∧Ext m.1 w''∧g v w'')
 (hr:wpX P ops Q w0 R rest (a.put (some d) undef) ((d,g)::hs)):wpX P ops Q w0 R (o::rest) a hs :=
 jL hg g hst args hd hz ho hin (fun f=>by rw [hqx];rfl) hf (fun f=>by rw [← ha f];exact List.map_congr_left (fun q hm=>dE (List.all_eq_true.1 hq q hm))) h hr
end
end Gd
namespace Gm
open Go.Proofs.YtkjplpmogfmhkaaGreatDoor.Gd (cN)
section
variable {P:Program}{ops:Array Oper}{Q:Exit→Act→World→Prop}{w0:World}{R:Act→World→Prop}
end
end Gm
end Go.Proofs.YtkjplpmogfmhkaaGreatDoor
namespace Go.Proofs.YtkjplpmogfmhkaaGreatDoor
open Go.RowKit
set_option linter.unusedVariables false
set_option maxRecDepth 100000
abbrev Gb (g:Nat) (W W':World):Prop:=W.grownBy W' (some g)
theorem Gb.refl (g:Nat) (W:World):Gb g W W:=World.grownBy.refl _ _
theorem Gb.tr {g:Nat}{a b c:World} (h:Gb g a b) (k:Gb g b c):Gb g a c:=World.grownBy.trans h k
theorem Gb.set (g i:Nat) (W:World) (v:Value):Gb g W (W.setCell ⟨g,i,none⟩ v):=⟨rfl,rfl,rfl,by simp,fun k hk hne=>by
 have:k≠g:=fun e=>hne (by rw [e])
 simp [World.setCell,Array.getElem?_modify,Ne.symm this]⟩
theorem Gb.of (g:Nat) {W W':World} (h:Ext W W'):Gb g W W':=⟨h.os,h.tape,h.output,h.size,fun i hi _=>h.block i hi⟩
theorem Gb.below {w0 W W':World}{g:Nat} (h:Below w0.heap.size w0 W) (k:Gb g W W') (hg:w0.heap.size≤g):Below w0.heap.size w0 W':=h.grown k h.size (fun r hr=>by obtain rfl:=Option.some.inj hr;exact hg)
theorem lC {w:World}{B:Nat}{e:TypeId}{k:Nat}{v:Value}{xs:List Value} (h:aJ w B e k v xs):∀ r,aL v=some r→r<w.heap.size:=by
 obtain ⟨A,n,c,rfl,hn,⟨rfl,rfl⟩ | ⟨g,cur,rfl,hb,hg,_⟩⟩:=h
 · intro k hk;cases A <;> simp [aL] at hk
 · intro k hk
   cases c with
   | zero=>simp [aL] at hk
   | succ c =>
     have:=a9 hg
     simp [aL] at hk
     omega
section
variable {P:Program}{Q:Exit→Act→World→Prop}{w0:World}{R:Act→World→Prop}
theorem fE {o:Oper}{rest:List Oper}{a:Act}{hs:List (Nat × aE)}{d:Nat} (ad:Addr) {x:Operand} (hd:o.dst=some d) (hz:Nat.blt d a.tmps.size=true) (ho:o.op=.nilCheck x) (hx:a.eval x=.pointer (some ad)) (hn:dQ o hs=true)
 (hr:wpX P Q w0 R rest (a.put (some d) (.pointer (some ad))) hs):wpX P Q w0 R (o::rest) a hs :=
 fO (.pointer (some ad)) hd hz (by unfold aP;rw [ho]) hn (fun m K hK=>by
  unfold Oper.wp execOp
  simp only [ho,hx,Sem.run_pure,Oper.upon]
  exact hK _ _ (by rw [hd];rfl) ⟨Below.refl _ _,by rw [hd,aM (bH hz)]⟩) hr
end
def C3 (W:World) (b:Nat) (v0 v1 v2:Value):Prop:=W.heap[b]?=some (.cells #[v0,v1,v2] 180 (0,0))
theorem C3.cells {W:World}{b:Nat}{v0 v1 v2:Value} (h:C3 W b v0 v1 v2):W.cell? ⟨b,0,none⟩=some v0∧W.cell? ⟨b,1,none⟩=some v1∧W.cell? ⟨b,2,none⟩=some v2∧W.frozen? ⟨b,0,none⟩=false∧W.frozen? ⟨b,1,none⟩=false∧W.frozen? ⟨b,2,none⟩=false:=by
 refine ⟨?_,?_,?_,?_,?_,?_⟩
 · rw [cell_of_row W b 0 _ _ _ h];rfl
 · rw [cell_of_row W b 1 _ _ _ h];rfl
 · rw [cell_of_row W b 2 _ _ _ h];rfl
 all_goals (unfold C3 at h;simp [World.frozen?,h])
theorem C3.gb {W W':World}{g b:Nat}{v0 v1 v2:Value} (h:C3 W b v0 v1 v2) (k:Gb g W W') (hne:b≠g):C3 W' b v0 v1 v2:=(k.block b (a9 h) (fun e=>hne (by injection e))).trans h
theorem C3.new (W:World) (v0 v1 v2:Value):C3 (W.alloc (.cells #[v0,v1,v2] 180)) W.heap.size v0 v1 v2:=aC W _
theorem C3.lt {W:World}{b:Nat}{v0 v1 v2:Value} (h:C3 W b v0 v1 v2):b<W.heap.size:=a9 h
theorem Gb.poke {g b i:Nat}{W W':World}{v:Value} (h:Gb g W W') (hb:W.heap.size≤b):Gb g W (W'.setCell ⟨b,i,none⟩ v) :=
 ⟨h.os,h.tape,h.output,by simpa using h.size,fun k hk hne=>by
   have e:k≠b:=by omega
   rw [← h.block k hk hne]
   simp [World.setCell,Array.getElem?_modify,Ne.symm e]⟩
theorem aW {W:World}{b i k:Nat}{v:Value} (h:k≠b):(W.setCell ⟨b,i,none⟩ v).heap[k]?=W.heap[k]?:=by simp [World.setCell,Array.getElem?_modify,Ne.symm h]
theorem C3.other {W:World}{b b' i:Nat}{v0 v1 v2 v:Value} (h:C3 W b v0 v1 v2) (hne:b≠b'):C3 (W.setCell ⟨b',i,none⟩ v) b v0 v1 v2:=(aW hne).trans h
abbrev set3 (W:World) (b:Nat) (v0 v1 v2:Value):World:=((W.setCell ⟨b,0,none⟩ v0).setCell ⟨b,1,none⟩ v1).setCell ⟨b,2,none⟩ v2
theorem C3.set2 {W:World}{b:Nat}{v0 v1 v2:Value} (h:C3 W b v0 v1 v2) (u:Value):C3 (W.setCell ⟨b,2,none⟩ u) b v0 v1 u:=by
 unfold C3 at h ⊢
 simp only [World.setCell,Array.getElem?_modify,if_true,h,Option.map_some]
 rfl
theorem C3.set1 {W:World}{b:Nat}{v0 v1 v2:Value} (h:C3 W b v0 v1 v2) (u:Value):C3 (W.setCell ⟨b,1,none⟩ u) b v0 u v2:=by
 unfold C3 at h ⊢
 simp only [World.setCell,Array.getElem?_modify,if_true,h,Option.map_some]
 rfl
theorem C3.set0 {W:World}{b:Nat}{v0 v1 v2:Value} (h:C3 W b v0 v1 v2) (u:Value):C3 (W.setCell ⟨b,0,none⟩ u) b u v1 v2:=by
 unfold C3 at h ⊢
 simp only [World.setCell,Array.getElem?_modify,if_true,h,Option.map_some]
 rfl
theorem C3.set3 {W:World}{b:Nat}{v0 v1 v2:Value} (h:C3 W b v0 v1 v2) (u0 u1 u2:Value):C3 (set3 W b u0 u1 u2) b u0 u1 u2:=((h.set0 u0).set1 u1).set2 u2
theorem Gb.set3 {g b:Nat}{W W':World}{v0 v1 v2:Value} (h:Gb g W W') (hb:W.heap.size≤b):Gb g W (set3 W' b v0 v1 v2):=((h.poke hb).poke hb).poke hb
theorem lV {W:World}{b k:Nat}{v0 v1 v2:Value} (h:k≠b):(set3 W b v0 v1 v2).heap[k]?=W.heap[k]?:=by
 unfold Go.Proofs.YtkjplpmogfmhkaaGreatDoor.set3
 rw [aW h,aW h,aW h]
section
variable {P:Program}{Q:Exit→Act→World→Prop}{w0:World}{R:Act→World→Prop}
end
theorem C5 (W:World) (t:Int) (A:Option Addr) (n c:Nat):(Instr.build 180 [(0,.int .i64 t),(1,.slice A n c)].toArray).run Tryz.prog W=.ok (.agg #[.int .i64 t,.slice A n c,.slice none 0 0]) W:=run_build W _ _ _ (by kernel_rfl)
theorem C3.ex {W W':World}{b:Nat}{v0 v1 v2:Value} (h:C3 W b v0 v1 v2) (k:Ext W W'):C3 W' b v0 v1 v2:=(k.block b (a9 h)).trans h
theorem RdS.avoid {S S':Nat→Prop}{w:World}{v:Value}{l:List UInt8}{yb:Nat}{z:Int}{A B:Option Addr}{n c n' c':Nat} (h:RdS S w v (bvs l)) (hy:C3 w yb (.int .i64 z) (.slice A n c) (.slice B n' c')) (hS:∀ b,S b→b<w.heap.size→b≠yb→S' b):RdS S' w v (bvs l):=by
 obtain ⟨A,n,c,h1,h2,h3,h4,h5⟩:=h
 refine ⟨A,n,c,h1,h2,h3,h4,fun h0=>?_⟩
 obtain ⟨b,o,q1,q2,q3⟩:=h5 h0
 rw [bG] at h2
 have c0:=q3 0 _ (DZ (by omega))
 refine ⟨b,o,q1,hS b q2 (World.block_lt_of_cell? w _ c0) (fun e=>?_),q3⟩
 subst e
 rw [cell_of_row w b (o+0) _ _ _ hy] at c0
 match o,c0 with
 | 0,c0=>simp at c0
 | 1,c0=>simp at c0
 | 2,c0=>simp at c0
 | o+3,c0=>simp at c0
def GS (B:Nat) (l:List UInt8):aE:=fun v w=>RdS (fun b=>B≤b) w v (bvs l)
def NdG (B d:Nat) (t:Nd):aE:=fun v w=>∃ (A1:Option Addr) (n1 c1:Nat) (A2:Option Addr) (n2 c2:Nat),v=.agg #[.int .i64 t.tag,.slice A1 n1 c1,.slice A2 n2 c2]∧RdS (fun b=>B≤b) w (.slice A1 n1 c1) (bvs t.val)∧gY (fun b=>B≤b) d w (.slice A2 n2 c2) t.kids
def M9 (B d:Nat) (ts:List Nd):aE:=fun v w=>gY (fun b=>B≤b) d w v ts
theorem bY (B:Nat) (l:List UInt8):bK (GS B l):=fun v w w' e h=>h.map fun b hb hlt=>⟨hb,e.block b hlt⟩
theorem sD (B d:Nat) (ts:List Nd):bK (M9 B d ts):=fun v w w' e h=>h.map fun b hb hlt=>⟨hb,e.block b hlt⟩
theorem bI (B d:Nat) (t:Nd):bK (NdG B d t):=fun v w w' e ⟨A1,n1,c1,A2,n2,c2,h1,h2,h3⟩=>⟨A1,n1,c1,A2,n2,c2,h1,h2.map fun b hb hlt=>⟨hb,e.block b hlt⟩,h3.map fun b hb hlt=>⟨hb,e.block b hlt⟩⟩
theorem GS.slice {B:Nat}{l:List UInt8}{v:Value}{w:World} (h:GS B l v w):∃ A n c,v=.slice A n c:=by
 obtain ⟨A,n,c,h,_⟩:=h
 exact ⟨A,n,c,h⟩
theorem gY.slice {S:Nat→Prop}{d:Nat}{ts:List Nd}{v:Value}{w:World} (h:gY S d w v ts):∃ A n c,v=.slice A n c:=by
 cases d with
 | zero=>obtain ⟨_,A,c,h,_⟩:=h;exact ⟨A,0,c,h⟩
 | succ d=>obtain ⟨A,n,c,h,_⟩:=h;exact ⟨A,n,c,h⟩
theorem gJ {B d:Nat} (W:World) (t:Int) {v:Value}{l:List UInt8} (h:GS B l v W):∃ v' w'',(Instr.build 180 [(0,.int .i64 t),(1,v)].toArray).run Tryz.prog W=.ok v' w''∧Ext W w''∧NdG B d (bA t l) v' w'':=by
 obtain ⟨A,n,c,rfl⟩:=h.slice
 exact ⟨_,_,C5 W t A n c,Below.refl _ _,_,_,_,_,_,_,rfl,h,gY.nil _ _⟩
theorem pO (W:World) (t:Int) (A:Option Addr) (n c:Nat):(Instr.build 180 [(0,.int .i64 t),(2,.slice A n c)].toArray).run Tryz.prog W=.ok (.agg #[.int .i64 t,.slice none 0 0,.slice A n c]) W:=run_build W _ _ _ (by kernel_rfl)
theorem C6 {B d:Nat} (W:World) (t:Int) {v:Value}{ts:List Nd} (h:M9 B d ts v W):∃ v' w'',(Instr.build 180 [(0,.int .i64 t),(2,v)].toArray).run Tryz.prog W=.ok v' w''∧Ext W w''∧NdG B d (.mk t [] ts) v' w'':=by
 obtain ⟨A,n,c,rfl⟩:=gY.slice h
 exact ⟨_,_,pO W t A n c,Below.refl _ _,_,_,_,_,_,_,rfl,RdS.nil _,h⟩
theorem C7 {B d:Nat}{W:World} (cs:List Value) (ts:List Nd) (n:Nat) (hn:n=ts.length) (hm:n≤100) (h:cG (fun b=>B≤b) d W cs ts) (hB:B≤W.heap.size):gY (fun b=>B≤b) (d+1) (W.alloc (.cells cs.toArray 180)) (.slice (some ⟨W.heap.size,0,none⟩) n n) ts:=by
 have e:Ext W (W.alloc (.cells cs.toArray 180)):=(Below.refl _ _).alloc (UX _) _
 have ho:=aJ.lit W 3 cs.toArray 180 n (by rw [hn,← h.1];simp) (by unfold maxLen;omega)
 exact gY.mk ho (h.map fun b hb hlt=>⟨hb,e.block b hlt⟩) (fun b hb=>hb) (fun b hb=>V9 hB hb)
set_option maxHeartbeats 1000000 in
theorem GT (W:World) (z0:Int) (a0 b0:Option Addr) (n0 c0 m0 d0:Nat) (z1:Int) (a1 b1:Option Addr) (n1 c1 m1 d1:Nat):(Instr.buildSlice 178 2 [(0,.agg #[.int .i64 z0,.slice a0 n0 c0,.slice b0 m0 d0]),(1,.agg #[.int .i64 z1,.slice a1 n1 c1,.slice b1 m1 d1])].toArray).run Tryz.prog W=.ok (.slice (some ⟨W.heap.size,0,none⟩) 2 2) (W.alloc (.cells #[.int .i64 z0,.slice a0 n0 c0,.slice b0 m0 d0,.int .i64 z1,.slice a1 n1 c1,.slice b1 m1 d1] 180)):=by go_simp
set_option maxHeartbeats 1000000 in
theorem PE (W:World) (z0:Int) (a0 b0:Option Addr) (n0 c0 m0 d0:Nat) (z1:Int) (a1 b1:Option Addr) (n1 c1 m1 d1:Nat) (z2:Int) (a2 b2:Option Addr) (n2 c2 m2 d2:Nat) (z3:Int) (a3 b3:Option Addr) (n3 c3 m3 d3:Nat) (z4:Int) (a4 b4:Option Addr) (n4 c4 m4 d4:Nat) (z5:Int) (a5 b5:Option Addr) (n5 c5 m5 d5:Nat) (z6:Int) (a6 b6:Option Addr) (n6 c6 m6 d6:Nat):(Instr.buildSlice 178 7 [(0,.agg #[.int .i64 z0,.slice a0 n0 c0,.slice b0 m0 d0]),(1,.agg #[.int .i64 z1,.slice a1 n1 c1,.slice b1 m1 d1]),(2,.agg #[.int .i64 z2,.slice a2 n2 c2,.slice b2 m2 d2]),(3,.agg #[.int .i64 z3,.slice a3 n3 c3,.slice b3 m3 d3]),(4,.agg #[.int .i64 z4,.slice a4 n4 c4,.slice b4 m4 d4]),(5,.agg #[.int .i64 z5,.slice a5 n5 c5,.slice b5 m5 d5]),(6,.agg #[.int .i64 z6,.slice a6 n6 c6,.slice b6 m6 d6])].toArray).run Tryz.prog W=.ok (.slice (some ⟨W.heap.size,0,none⟩) 7 7) (W.alloc (.cells #[.int .i64 z0,.slice a0 n0 c0,.slice b0 m0 d0,.int .i64 z1,.slice a1 n1 c1,.slice b1 m1 d1,.int .i64 z2,.slice a2 n2 c2,.slice b2 m2 d2,.int .i64 z3,.slice a3 n3 c3,.slice b3 m3 d3,.int .i64 z4,.slice a4 n4 c4,.slice b4 m4 d4,.int .i64 z5,.slice a5 n5 c5,.slice b5 m5 d5,.int .i64 z6,.slice a6 n6 c6,.slice b6 m6 d6] 180)):=by go_simp
theorem uX {B d:Nat} (W:World) (hB:B≤W.heap.size) {v0 v1 v2 v3 v4 v5 v6:Value}{t0 t1 t2 t3 t4 t5 t6:Nd} (h0:NdG B d t0 v0 W) (h1:NdG B d t1 v1 W) (h2:NdG B d t2 v2 W) (h3:NdG B d t3 v3 W) (h4:NdG B d t4 v4 W) (h5:NdG B d t5 v5 W) (h6:NdG B d t6 v6 W):∃ v' w'',(Instr.buildSlice 178 7 [(0,v0),(1,v1),(2,v2),(3,v3),(4,v4),(5,v5),(6,v6)].toArray).run Tryz.prog W=.ok v' w''∧Ext W w''∧M9 B (d+1) [t0,t1,t2,t3,t4,t5,t6] v' w'':=by
 obtain ⟨a0,n0,c0,b0,m0,d0,rfl,r0,k0⟩:=h0
 obtain ⟨a1,n1,c1,b1,m1,d1,rfl,r1,k1⟩:=h1
 obtain ⟨a2,n2,c2,b2,m2,d2,rfl,r2,k2⟩:=h2
 obtain ⟨a3,n3,c3,b3,m3,d3,rfl,r3,k3⟩:=h3
 obtain ⟨a4,n4,c4,b4,m4,d4,rfl,r4,k4⟩:=h4
 obtain ⟨a5,n5,c5,b5,m5,d5,rfl,r5,k5⟩:=h5
 obtain ⟨a6,n6,c6,b6,m6,d6,rfl,r6,k6⟩:=h6
 exact ⟨_,_,PE W t0.tag a0 b0 n0 c0 m0 d0 t1.tag a1 b1 n1 c1 m1 d1 t2.tag a2 b2 n2 c2 m2 d2 t3.tag a3 b3 n3 c3 m3 d3 t4.tag a4 b4 n4 c4 m4 d4 t5.tag a5 b5 n5 c5 m5 d5 t6.tag a6 b6 n6 c6 m6 d6,(Below.refl _ _).alloc (UX _) _,C7 [.int .i64 t0.tag,.slice a0 n0 c0,.slice b0 m0 d0,.int .i64 t1.tag,.slice a1 n1 c1,.slice b1 m1 d1,.int .i64 t2.tag,.slice a2 n2 c2,.slice b2 m2 d2,.int .i64 t3.tag,.slice a3 n3 c3,.slice b3 m3 d3,.int .i64 t4.tag,.slice a4 n4 c4,.slice b4 m4 d4,.int .i64 t5.tag,.slice a5 n5 c5,.slice b5 m5 d5,.int .i64 t6.tag,.slice a6 n6 c6,.slice b6 m6 d6] [t0,t1,t2,t3,t4,t5,t6] 7 rfl (by omega) ((((((((cG.nil _ d W).snoc r0 k0).snoc r1 k1).snoc r2 k2).snoc r3 k3).snoc r4 k4).snoc r5 k5).snoc r6 k6) hB⟩
section
open Go.Proofs.YtkjplpmogfmhkaaGreatDoor.Gd (cN)
variable {P:Program}{ops:Array Oper}{Q:Exit→Act→World→Prop}{w0:World}{R:Act→World→Prop}
theorem Gd.wpX_appF {o:Oper}{rest:List Oper}{a:Act}{hs:List (Nat × aE)}{d:Nat} (hg:cN ops o a hs) (g:aE) (hst:bK g) {t:TypeId}{s x:Operand} (sv xv:(Nat→Value)→Value)
 (hd:o.dst=some d) (hz:Nat.blt d a.tmps.size=true) (ho:o.op=.call { callee:=.builtin .append,args:=#[s,x],argTypes:=#[t,t] }) (hin:(aR o).all (fun t=>Nat.blt t a.tmps.size)=true) (hqs:jY a s=true) (hqx:jY a x=true)
 (hs':∀ f,evF a hs f s=sv f) (hx':∀ f,evF a hs f x=xv f)
 (h:∀ (m:Lt w0) (f:Nat→Value),(∀ t p,hs.lookup t=some p→(aR o).contains t=true→p (f t) m.1)→∃ v w'',(Builtin.append_ #[t,t] o.type #[sv f,xv f]).run P m.1=.ok v w''∧Ext m.1 w''∧g v w'')
 (hr:Gd.wpX P ops Q w0 R rest (a.put (some d) undef) ((d,g)::hs)):Gd.wpX P ops Q w0 R (o::rest) a hs :=
 Gd.gG hg g hst hd hz (by unfold aP;rw [ho]) hin (fun m f hf K hK=>by
  obtain ⟨v,w'',h1,h2,h3⟩:=h m f hf
  have e1:(aV a hs f).eval s=sv f:=(Gd.dE hqs).trans (hs' f)
  have e2:(aV a hs f).eval x=xv f:=(Gd.dE hqx).trans (hx' f)
  unfold Oper.wp execOp
  simp only [ho,resolve,invoke,builtin,Sem.run_bind,Sem.run_pure,Result.andThen_ok,List.map_toArray,List.map_cons,List.map_nil,e1,e2,h1]
  exact hK _ _ (by rw [hd];show ((aV a hs f).put (some d) v).defers=_;simp [Act.put,bO]) ⟨h2,by rw [hd,aM (Gd.eD f d hz)];exact h3⟩) hr
end
def GF (B:Nat) (l:List UInt8):aE:=fun v w=>∃ A,v=.slice A l.length l.length∧RdS (fun b=>B≤b) w v (bvs l)
theorem qZ (B:Nat) (l:List UInt8):bK (GF B l):=fun v w w' e ⟨A,h1,h⟩=>⟨A,h1,h.map fun b hb hlt=>⟨hb,e.block b hlt⟩⟩
theorem GF.gs {B:Nat}{l:List UInt8}{v:Value}{w:World} (h:GF B l v w):GS B l v w:=by obtain ⟨A,_,k⟩:=h;exact k
theorem uY {B:Nat} (size:Nat) (x z:Int) (w:World) (hB:B≤w.heap.size) (h0:0≤x) (h1:x<9223372036854775808) (hz:z=(size:Int)) (hs:size≤100):Calls Tryz.prog 153 #[.int .i64 x,.int .i64 z] w fun e w'=>∃ v,e=.returned v∧Ext w w'∧GF B (beN size x) v w' :=
 (oG size x z w h0 h1 hz hs).mono fun e w' ⟨A,h1,h2,h3⟩=>⟨_,h1,h3,A,by rw [iR],RdS.of h2 fun b hb=>V9 hB hb⟩
theorem oH {B d:Nat} (W:World) (t:Int) {v:Value}{l:List UInt8} (h:GS B l v W):Calls Tryz.prog 152 #[.int .i64 t,v] W fun e w''=>∃ v',e=.returned v'∧Ext W w''∧NdG B d (bA t l) v' w'':=by
 obtain ⟨A,n,c,rfl⟩:=h.slice
 exact (C4 t A n c W).mono fun e w'' ⟨h1,h2⟩=>⟨_,h1,h2,_,_,_,_,_,_,rfl,bY B l _ _ _ h2 h,gY.nil _ _⟩
theorem gP.gs {w w':World}{B:Nat}{l:List UInt8}{e:Ending} (h:gP w l e w') (hB:B≤w.heap.size):∃ v,e=.returned v∧Ext w w'∧GS B l v w':=by
 obtain ⟨A,n,c,h1,h2,h3,h4⟩:=h
 exact ⟨_,h1,h4,RdS.of h3 fun b hb=>V9 hB hb⟩
theorem zF {B:Nat} (W:World) (hB:B≤W.heap.size) (l:List UInt8) (hl:l.length≤4096):∃ v w'',(convert 9 89 (.string (aI l))).run Tryz.prog W=.ok v w''∧Ext W w''∧GS B l v w'':=by
 obtain ⟨A,n,c',w2,h1,h2,h3,h4⟩:=zE W l hl
 exact ⟨_,_,h1,h2,h4.map (fun b hb _=>⟨V9 hB hb,rfl⟩)⟩
theorem RJ {B:Nat} (W:World) (hB:B≤W.heap.size) (cs:Array Value) (l:List UInt8) (n:Nat) (hn:n=l.length) (hm:n≤100) (hc:cs.toList=bvs l):GS B l (.slice (some ⟨W.heap.size,0,none⟩) n n) (W.alloc (.cells cs 5)):=by
 have h:=Own.lit W cs 5 n (by rw [hn,← bG,← hc];simp) (by unfold maxLen;omega)
 rw [hc] at h
 exact RdS.of h fun b hb=>V9 hB hb
def GU (w:World) (d:Nat) (t:Nd) (mkv:Value→Value) (e:Ending) (w':World):Prop:=Ext w w'∧∃ v,NdG w.heap.size d t v w'∧e=.returned (mkv v)
theorem xS {w w':World}{rb d:Nat}{t:Nd}{A1 A2:Option Addr}{n1 c1 n2 c2 B:Nat} (hB:w.heap.size≤B) (hrb:rb<B) (r:RdS (fun b=>B≤b) w' (.slice A1 n1 c1) (bvs t.val)) (k:gY (fun b=>B≤b) d w' (.slice A2 n2 c2) t.kids) (v0 v1 v2:Value) :
 NdG w.heap.size d t (.agg #[.int .i64 t.tag,.slice A1 n1 c1,.slice A2 n2 c2]) (Go.Proofs.YtkjplpmogfmhkaaGreatDoor.set3 w' rb v0 v1 v2) :=
 ⟨_,_,_,_,_,_,rfl,r.map fun b hb _=>⟨V9 hB hb,lV (by have hb:B≤b:=hb;omega)⟩,k.map fun b hb _=>⟨V9 hB hb,lV (by have hb:B≤b:=hb;omega)⟩⟩
theorem mN {w w':World}{rb:Nat} (h:Ext w w') (hrb:w.heap.size≤rb) (v0 v1 v2:Value):Ext w (Go.Proofs.YtkjplpmogfmhkaaGreatDoor.set3 w' rb v0 v1 v2) :=
 ((h.setCell (p:=⟨rb,0,none⟩) hrb _).setCell (p:=⟨rb,1,none⟩) hrb _).setCell (p:=⟨rb,2,none⟩) hrb _
theorem NdG.zero {B d:Nat}{t:Nd}{v:Value}{w:World} (h:NdG B d t v w):NdG 0 d t v w:=by
 obtain ⟨A1,n1,c1,A2,n2,c2,h1,h2,h3⟩:=h
 exact ⟨A1,n1,c1,A2,n2,c2,h1,h2.map fun b _ _=>⟨V7 _,rfl⟩,h3.map fun b _ _=>⟨V7 _,rfl⟩⟩
theorem tK {d g:Nat}{W:World}{t:Nd}{A1 A2:Option Addr}{n1 c1 n2 c2:Nat} (hg:g=W.heap.size) (h:NdG 0 d t (.agg #[.int .i64 t.tag,.slice A1 n1 c1,.slice A2 n2 c2]) W) :
 fP (d+1) (W.alloc (.cells #[.int .i64 t.tag,.slice A1 n1 c1,.slice A2 n2 c2] 180)) (.slice (some ⟨g,0,none⟩) 1 1) [t]:=by
 subst hg
 obtain ⟨B1,m1,k1,B2,m2,k2,e,r,k⟩:=h
 injection e with e
 injection e with e
 simp only [List.cons.injEq,Value.slice.injEq,and_true,true_and] at e
 obtain ⟨⟨rfl,rfl,rfl⟩,rfl,rfl,rfl⟩:=e
 exact (C7 [.int .i64 t.tag,.slice A1 n1 c1,.slice A2 n2 c2] [t] 1 rfl (by omega) ((cG.nil _ d W).snoc r k) (V7 _)).rd
theorem jM {B d:Nat}{t:Nd}{v:Value}{w:World} (h:NdG B d t v w):∃ (A1:Option Addr) (n1 c1:Nat) (A2:Option Addr) (n2 c2:Nat),v=.agg #[.int .i64 t.tag,.slice A1 n1 c1,.slice A2 n2 c2]:=by
 obtain ⟨A1,n1,c1,A2,n2,c2,h,_⟩:=h
 exact ⟨A1,n1,c1,A2,n2,c2,h⟩
theorem aG {w:World}{g:Nat}{cs:Array Value}{t:TypeId}{fr:Nat × Nat} (h:w.heap[g]?=some (.cells cs t fr)) (i:Nat) (v:Value):(w.setCell ⟨g,i,none⟩ v).heap[g]?=some (.cells (cs.setIfInBounds i v) t fr):=by
 simp only [World.setCell,Array.getElem?_modify,if_true,h,Option.map_some]
 rfl
theorem aH {w w':World}{g i:Nat}{v:Value} (h:Ext w w') (hg:w.heap.size≤g):Ext w (w'.setCell ⟨g,i,none⟩ v):=h.setCell (p:=⟨g,i,none⟩) hg _
end Go.Proofs.YtkjplpmogfmhkaaGreatDoor
namespace Go.Proofs.YtkjplpmogfmhkaaGreatDoor.Gr
open Go Go.RowKit Go.Proofs.YtkjplpmogfmhkaaGreatDoor
open Go.Proofs.YtkjplpmogfmhkaaGreatDoor.Gd (bV gwp iU cN mF fD pF kZ eU eV)
set_option linter.unusedVariables false
structure Rl where
 rel:World→World→Prop
 refl:∀ w,rel w w
 tr:∀ {a b c:World},rel a b→rel b c→rel a c
 ext:∀ {a b:World},Ext a b→rel a b
def Rl.stable (r:Rl) (g:aE):Prop:=∀ v w w',r.rel w w'→g v w→g v w'
theorem Rl.stable_eq (r:Rl) (v:Value):r.stable (fun u _=>u=v):=fun _ _ _ _ h=>h
structure RK (r:Rl) (ops:Array Oper) (n:Nat) (a0:Act) (w0:World) (good:Nat→aE) (listed:Array Bool) (a:Act) (w:World):Prop where
 ext:r.rel w0 w
 defers:a.defers=a0.defers
 size:a.tmps.size=a0.tmps.size
 done:∀ j,j<n→listed.getD j false=true→∀ oj,ops[j]?=some oj→∀ d,oj.dst=some d→good j (a.eval (.tmp d)) w
 old:∀ t,(∀ j,j<n→listed.getD j false=true→∀ oj,ops[j]?=some oj→oj.dst≠some t)→a.eval (.tmp t)=a0.eval (.tmp t)
def Rl.Lt (r:Rl) (w:World):={ w':World // r.rel w w' }
def wpX (r:Rl) (P:Program) (ops:Array Oper) (Q:Exit→Act→World→Prop) (w0:World) (R:Act→World→Prop):List Oper→Act→List (Nat × aE)→Prop
 | [],a,hs=>∀ a' w,r.rel w0 w→a'.defers=a.defers→a'.tmps.size=a.tmps.size→(∀ t,bM a hs t (a'.eval (.tmp t)) w)→R a' w
 | o::rest,a,hs=>∃ d g,o.dst=some d∧d<a.tmps.size∧r.stable g ∧
    (∀ a' w,r.rel w0 w→(∀ t ∈ bV ops o,bM a hs t (a'.eval (.tmp t)) w)→gwp P ops o a' w (fun a'' w''=>∃ v,a''=a'.put o.dst v∧r.rel w w''∧g v w'') Q) ∧
    ((∃ v,g=(fun u _=>u=v)∧wpX r P ops Q w0 R rest (a.put (some d) v) hs) ∨ wpX r P ops Q w0 R rest (a.put (some d) undef) ((d,g)::hs))
section
variable {r:Rl}{P:Program}{ops:Array Oper}{Q:Exit→Act→World→Prop}
def Ob (r:Rl) (P:Program) (ops:Array Oper) (Q:Exit→Act→World→Prop) (n:Nat) (a0:Act) (w0:World) (good:Nat→aE) (i:Nat) (o:Oper):Prop :=
 ∃ d,o.dst=some d∧d<a0.tmps.size∧r.stable (good i)∧∀ a' w,r.rel w0 w→(∀ t ∈ bV ops o,jA ops n a0 good t (a'.eval (.tmp t)) w) →
  gwp P ops o a' w (fun a'' w''=>∃ v,a''=a'.put o.dst v∧r.rel w w''∧good i v w'') Q
def fB (ops:Array Oper) (n:Nat):Bool :=
 decide (n≤ops.size) && (List.range n).all fun i=>match ops[i]? with
  | none=>false
  | some o=>o.after.all (fun e=>!Region.binds .any e || decide (e.on<i)) &&
    (List.range n).all (fun j=>match ops[j]? with
      | none=>false
      | some oj=>(j == i || oj.dst != o.dst) && ((bV ops o).all fun t=>oj.dst != some t || o.after.any fun e=>Region.binds .any e && e.on == j))
structure gQ (ops:Array Oper) (n:Nat):Prop where
 le:n≤ops.size
 back:∀ i o,i<n→ops[i]?=some o→∀ e ∈ o.after,Region.binds .any e=true→e.on<i
 one:∀ i o j oj,i<n→j<n→ops[i]?=some o→ops[j]?=some oj→j≠i→oj.dst≠o.dst
 wait:∀ i o j oj,i<n→j<n→ops[i]?=some o→ops[j]?=some oj→∀ t ∈ bV ops o,oj.dst=some t→∃ e ∈ o.after,Region.binds .any e=true∧e.on=j
theorem gW {n:Nat} (h:fB ops n=true):gQ ops n:=by
 unfold fB at h
 simp only [Bool.and_eq_true,decide_eq_true_eq] at h
 obtain ⟨hle,hall⟩:=h
 have key:∀ i o,i<n→ops[i]?=some o→(o.after.all (fun e=>!Region.binds .any e || decide (e.on<i)) &&
  (List.range n).all (fun j=>match ops[j]? with
    | none=>false
    | some oj=>(j == i || oj.dst != o.dst) && ((bV ops o).all fun t=>oj.dst != some t || o.after.any fun e=>Region.binds .any e && e.on == j)))=true:=fun i o hi ho=>by
  have:=List.all_eq_true.1 hall i (List.mem_range.2 hi)
  rw [ho] at this
  exact this
 have key2:∀ i o j oj,i<n→j<n→ops[i]?=some o→ops[j]?=some oj→((j == i || oj.dst != o.dst) && ((bV ops o).all fun t=>oj.dst != some t || o.after.any fun e=>Region.binds .any e && e.on == j))=true:=fun i o j oj hi hj ho hoj=>by
  have:=key i o hi ho
  simp only [Bool.and_eq_true] at this
  have:=List.all_eq_true.1 this.2 j (List.mem_range.2 hj)
  rw [hoj] at this
  exact this
 refine ⟨hle,fun i o hi ho e he hb=>?_,fun i o j oj hi hj ho hoj hne heq=>?_,fun i o j oj hi hj ho hoj t ht hd=>?_⟩
 · have:=key i o hi ho
   simp only [Bool.and_eq_true] at this
   have h2:=Array.all_eq_true_iff_forall_mem.1 this.1 e he
   simp only [hb,Bool.not_true,Bool.false_or,decide_eq_true_eq] at h2
   exact h2
 · have:=key2 i o j oj hi hj ho hoj
   simp only [Bool.and_eq_true,Bool.or_eq_true,beq_iff_eq,bne_iff_ne] at this
   rcases this.1 with h | h
   · exact hne h
   · exact h heq
 · have:=key2 i o j oj hi hj ho hoj
   simp only [Bool.and_eq_true] at this
   have h2:=List.all_eq_true.1 this.2 t ht
   simp only [Bool.or_eq_true,bne_iff_ne,hd,ne_eq,not_true_eq_false,false_or] at h2
   obtain ⟨e,he,hb⟩:=Array.any_eq_true'.1 h2
   simp only [Bool.and_eq_true,beq_iff_eq] at hb
   exact ⟨e,he,hb.1,hb.2⟩
theorem iT {n:Nat}{a0:Act}{w0:World}{good:Nat→aE} (hk:gQ ops n) (ht:gB ops n=true) (hob:∀ i o,i<n→ops[i]?=some o→Ob r P ops Q n a0 w0 good i o)
 (hfin:∀ a w,r.rel w0 w→a.defers=a0.defers→a.tmps.size=a0.tmps.size→(∀ t,jA ops n a0 good t (a.eval (.tmp t)) w)→wpList P ops Q (ops.toList.drop n) a w) :
 ∀ (f:Nat) (listed:Array Bool) (a:Act) (w:World),((List.range n).filter fun i=>!listed.getD i false).length=f→HeadInv .any ops n listed→RK r ops n a0 w0 good listed a w →
  wpAny P .any ops Q (f+(ops.size - n)) listed a w:=by
 unfold gB at ht
 simp only [Bool.and_eq_true,Bool.or_eq_true,beq_iff_eq] at ht
 obtain ⟨htail,hseq⟩:=ht
 intro f
 induction f with
 | zero =>
   intro listed a w hf inv hx
   have hall:∀ i,i<n→listed.getD i false=true:=fun i hi=>by
    have h0:=VO hf
    cases hl:listed.getD i false with
    | true=>rfl
    | false =>
      have:i ∈ (List.range n).filter fun i=>!listed.getD i false:=List.mem_filter.2 ⟨List.mem_range.2 hi,by simp only [hl];rfl⟩
      rw [h0] at this
      cases this
   have hle:=hk.le
   have hls:=inv.size
   have hl:listed=Array.replicate n true++Array.replicate (ops.size - n) false:=by
    apply Array.ext
    · simp;omega
    · intro i h1 h2
      by_cases hin:i<n
      · have:=hall i hin
        rw [Array.getElem_append_left (by simpa using hin)]
        simpa [h1] using this
      · have:=inv.tail i (by omega) (by omega)
        rw [Array.getElem_append_right (by simp;omega)]
        simpa [h1] using this
   rw [VB]
   have hd:=hfin a w hx.ext hx.defers hx.size (fun t=>⟨fun j hj oj hoj hd=>hx.done j hj (hall j hj) oj hoj t hd,fun hno=>hx.old t (fun j hj _ oj hoj=>hno j hj oj hoj)⟩)
   have:=wpAny_of_seq (md:=.any) (ops:=ops) (Q':=Q) (ops.toList.drop n) n listed a w (fun j=>by simp [List.getElem?_drop]) (by
    rw [hl,show (ops.toList.drop n).length=ops.size - n by simp]
    exact hseq) hd
   rwa [show (ops.toList.drop n).length=ops.size - n by simp] at this
 | succ f ih =>
   intro listed a w hf inv hx
   have hle:=hk.le
   have hls:=inv.size
   have hex:∃ i,i<n∧listed.getD i false=false:=by
    cases hfl:(List.range n).filter fun i=>!listed.getD i false with
    | nil=>rw [hfl] at hf;simp at hf
    | cons i r =>
      have:i ∈ (List.range n).filter fun i=>!listed.getD i false:=by rw [hfl];exact VM
      obtain ⟨h1,h2⟩:=List.mem_filter.1 this
      exact ⟨i,List.mem_range.1 h1,by simpa using h2⟩
   have hleast:∀ m,(∃ i,i≤m∧i<n∧listed.getD i false=false)→∃ i,i<n∧listed.getD i false=false∧∀ j,j<i→listed.getD j false=true:=by
    intro m
    induction m with
    | zero =>
      rintro ⟨i,h0,hi,hl⟩
      exact ⟨i,hi,hl,fun j hj=>by omega⟩
    | succ m ihm =>
      rintro ⟨i,h0,hi,hl⟩
      by_cases hb:∃ j,j≤m∧j<n∧listed.getD j false=false
      · exact ihm hb
      · refine ⟨i,hi,hl,fun j hj=>?_⟩
        cases hjl:listed.getD j false with
        | true=>rfl
        | false=>exact absurd ⟨j,by omega,by omega,hjl⟩ hb
   obtain ⟨i0,hi0,hl0,hmin⟩:∃ i,i<n∧listed.getD i false=false∧∀ j,j<i→listed.getD j false=true:=by
    obtain ⟨i,hi,hl⟩:=hex
    exact hleast i ⟨i,UX _,hi,hl⟩
   obtain ⟨o0,ho0⟩:∃ o,ops[i0]?=some o:=⟨ops[i0]'(by omega),Array.getElem?_eq_getElem (by omega)⟩
   have hr0:i0 ∈ Region.ready .any ops listed:=mem_ready.2 ⟨getD_in (by omega) hl0,o0,ho0,fun e he hb=>hmin _ (hk.back i0 o0 hi0 ho0 e he hb)⟩
   rw [show f+1+(ops.size - n)=(f+(ops.size - n))+1 by omega]
   refine ⟨fun h=>(by rw [h] at hr0;cases hr0),fun i hi=>?_⟩
   have hir:=mem_ready.1 hi
   have hin:i<n:=by
    rcases Nat.lt_or_ge i n with h | h
    · exact h
    · rcases htail with he | ⟨hs,hc⟩
      · obtain ⟨o,ho,_⟩:=hir.2
        have:=(Array.getElem?_eq_some_iff.1 ho).1
        omega
      · have hn:n<ops.size:=by
         obtain ⟨o,ho,_⟩:=hir.2
         have:=(Array.getElem?_eq_some_iff.1 ho).1
         omega
        exact absurd hi (tail_waits hs hc hn inv _ i0 rfl hi0 (getD_in (by omega) hl0) i h)
   obtain ⟨hun,o,ho,hall⟩:=hir
   have hlf:listed.getD i false=false:=getD_both hun
   obtain ⟨d,hd,hds,hst,hwp⟩:=hob i o hin ho
   have hslots:∀ t ∈ bV ops o,jA ops n a0 good t (a.eval (.tmp t)) w:=fun t ht=>by
    refine ⟨fun j hj oj hoj hdj=>?_,fun hno=>hx.old t (fun j hj _ oj hoj=>hno j hj oj hoj)⟩
    obtain ⟨e,he,hb,hon⟩:=hk.wait i o j oj hin hj ho hoj t ht hdj
    exact hx.done j hj (by rw [← hon];exact hall e he hb) oj hoj t hdj
   unfold wpOp
   simp only [ho]
   have hgo:∀ K:Act→World→Prop,gwp P ops o a w K Q→(if Region.wanted o (yielded ops a.tmps)=true then o.wp P a w K Q ∨ (o.asks P a w∧LetsOut Q) else K (a.put o.dst undef) w):=fun K h=>by
    unfold gwp at h
    split
    · rename_i c;rw [if_pos c] at h;exact .inl h
    · rename_i c;rw [if_neg c] at h;exact h
   refine hgo _ (iU ?_ (hwp a w hx.ext hslots))
   rintro a'' w'' ⟨v,rfl,hext,hgood⟩
   refine ih (listed.setIfInBounds i true) _ w'' ?_ (inv.set hi hin) ?_
   · have:=pE (p:=fun j=>!listed.getD j false) (q:=fun j=>!(listed.setIfInBounds i true).getD j false) hin (by simp only [hlf];rfl) (by
      have:(listed.setIfInBounds i true).getD i false=true:=by simp [show i<listed.size by omega]
      simp only [this];rfl) (fun j hj=>by simp only [getD_set_ne false (Ne.symm hj)])
     omega
   · refine ⟨r.tr hx.ext hext,by rw [hd];exact hx.defers,by rw [hd];simp [Act.put,hx.size],fun j hj hjl oj hoj e he=>?_,fun t hno=>?_⟩
     · by_cases hji:j=i
       · subst hji
         have:oj=o:=Option.some.inj (hoj.symm.trans ho)
         subst this
         have:e=d:=Option.some.inj (he.symm.trans hd)
         subst this
         rw [hd,aM (by rw [hx.size];exact hds)]
         exact hgood
       · rw [getD_set_ne false (Ne.symm hji)] at hjl
         have hne:d≠e:=fun h=>hk.one i o j oj hin hj ho hoj hji (by rw [he,hd,h])
         rw [hd,bX hne]
         obtain ⟨_,_,_,hstj,_⟩:=hob j oj hj hoj
         exact hstj _ _ _ hext (hx.done j hj hjl oj hoj e he)
     · have hne:d≠t:=fun h=>hno i hin (by simp [show i<listed.size by omega]) o ho (by rw [hd,h])
       rw [hd,bX hne]
       exact hx.old t fun j hj hjl oj hoj=>hno j hj (getD_set_true hjl) oj hoj
theorem gL {n:Nat}{a0:Act}{w0:World}{R:Act→World→Prop} (hk:gQ ops n) :
 ∀ (rest:List Oper) (k:Nat) (a:Act) (hs:List (Nat × aE)) (gs:List aE),k+rest.length=n→(∀ j,j<rest.length→rest[j]?=ops[k+j]?)→JX ops n a0 k a hs gs→wpX r P ops Q w0 R rest a hs →
  ∃ gs':List aE,(∀ j,j<k→gs'.getD j (fun _ _=>True)=gs.getD j (fun _ _=>True))∧(∀ i o,k≤i→i<n→ops[i]?=some o→Ob r P ops Q n a0 w0 (fun j=>gs'.getD j (fun _ _=>True)) i o) ∧
   (∀ a' w,r.rel w0 w→a'.defers=a0.defers→a'.tmps.size=a0.tmps.size→(∀ t,jA ops n a0 (fun j=>gs'.getD j (fun _ _=>True)) t (a'.eval (.tmp t)) w)→R a' w)
 | [],k,a,hs,gs,hkn,_,J,h=>by
   have hkn':k=n:=by simpa using hkn
   subst hkn'
   exact ⟨gs,fun _ _=>rfl,fun i o h1 h2 _=>by omega,fun a' w he hd hz hsl=>h a' w he (hd.trans J.defers.symm) (hz.trans J.size.symm) fun t=>J.slot t _ _ (hsl t).1 (hsl t).2⟩
 | o::rest,k,a,hs,gs,hkn,hl,J,h=>by
   simp only [VC] at hkn
   have hkn':k<n:=by omega
   have h0:ops[k]?=some o:=by simpa using (hl 0 (by simp)).symm
   obtain ⟨d,g,hd,hds,hst,hwp,hrest⟩:=h
   have hl':∀ j,j<rest.length→rest[j]?=ops[k+1+j]?:=fun j hj=>by
    have:=hl (j+1) (by simp;omega)
    simpa [V4,Nat.add_comm 1 j] using this
   have hgk:∀ j,j<k→(gs++[g]).getD j (fun _ _=>True)=gs.getD j (fun _ _=>True):=fun j hj=>by
    simp [List.getD_eq_getElem?_getD,List.getElem?_append_left (show j<gs.length by rw [J.len];exact hj)]
   have hgk':(gs++[g]).getD k (fun _ _=>True)=g:=by
    simp [List.getD_eq_getElem?_getD,← J.len]
   have hno:∀ g',hs.lookup d=some g'→False:=fun g' hg'=>by
    obtain ⟨j,oj,hj,hoj,hdj⟩:=J.keys d g' hg'
    exact hk.one k o j oj hkn' (by omega) h0 hoj (by omega) (by rw [hdj,hd])
   have hnone:hs.lookup d=none:=by
    cases hc:hs.lookup d with
    | none=>rfl
    | some g'=>exact (hno g' hc).elim
   have hJ:∃ a1 hs1,JX ops n a0 (k+1) a1 hs1 (gs++[g])∧wpX r P ops Q w0 R rest a1 hs1:=by
    rcases hrest with ⟨v,hg,hx⟩ | hx
    · refine ⟨a.put (some d) v,hs,⟨by simp [J.len],J.defers,by simp [Act.put,J.size],fun t g' ht=>?_,fun t u w h1 h2=>?_⟩,hx⟩
      · obtain ⟨j,oj,hj,r⟩:=J.keys t g' ht
        exact ⟨j,oj,by omega,r⟩
      · by_cases htd:d=t
        · subst htd
          have:=h1 k (by omega) o h0 hd
          rw [hgk',hg] at this
          unfold bM
          rw [hnone]
          simp only [aM hds]
          exact this
        · have:=J.slot t u w (fun j hj oj hoj hdj=>by have:=h1 j (by omega) oj hoj hdj;rwa [hgk j hj] at this) (fun hn=>h2 fun j hj oj hoj=>by
           by_cases hjk:j=k
           · subst hjk
             have:oj=o:=Option.some.inj (hoj.symm.trans h0)
             subst this
             rw [hd];intro he;exact htd (Option.some.inj he)
           · exact hn j (by omega) oj hoj)
          unfold bM at *
          cases hc:hs.lookup t with
          | some g'=>simp only [hc] at this ⊢;exact this
          | none=>simp only [hc] at this ⊢;rw [bX htd];exact this
    · refine ⟨a.put (some d) undef,(d,g)::hs,⟨by simp [J.len],J.defers,by simp [Act.put,J.size],fun t g' ht=>?_,fun t u w h1 h2=>?_⟩,hx⟩
      · by_cases htd:t=d
        · subst htd;exact ⟨k,o,by omega,h0,hd⟩
        · have e:(t == d)=false:=by simpa using htd
          simp only [List.lookup_cons,e] at ht
          obtain ⟨j,oj,hj,r⟩:=J.keys t g' ht
          exact ⟨j,oj,by omega,r⟩
      · by_cases htd:d=t
        · subst htd
          have:=h1 k (by omega) o h0 hd
          rw [hgk'] at this
          unfold bM
          simp only [List.lookup_cons,beq_self_eq_true]
          exact this
        · have:=J.slot t u w (fun j hj oj hoj hdj=>by have:=h1 j (by omega) oj hoj hdj;rwa [hgk j hj] at this) (fun hn=>h2 fun j hj oj hoj=>by
           by_cases hjk:j=k
           · subst hjk
             have:oj=o:=Option.some.inj (hoj.symm.trans h0)
             subst this
             rw [hd];intro he;exact htd (Option.some.inj he)
           · exact hn j (by omega) oj hoj)
          have e:(t == d)=false:=by simpa using fun h=>htd h.symm
          unfold bM at *
          simp only [List.lookup_cons,e]
          cases hc:hs.lookup t with
          | some g'=>simp only [hc] at this ⊢;exact this
          | none=>simp only [hc] at this ⊢;rw [bX htd];exact this
   obtain ⟨a1,hs1,J1,hx1⟩:=hJ
   obtain ⟨gs',e1,e2,e3⟩:=gL hk rest (k+1) a1 hs1 (gs++[g]) (by omega) hl' J1 hx1
   refine ⟨gs',fun j hj=>by rw [e1 j (by omega),hgk j hj],fun i oi h1 h2 hoi=>?_,e3⟩
   by_cases hik:i=k
   · subst hik
     have:oi=o:=Option.some.inj (hoi.symm.trans h0)
     subst this
     have hgi:gs'.getD i (fun _ _=>True)=g:=by rw [e1 i (by omega),hgk']
     refine ⟨d,hd,by rw [← J.size];exact hds,by show r.stable (gs'.getD i (fun _ _=>True));rw [hgi];exact hst,fun a' w he hsl=>?_⟩
     show gwp P ops oi a' w (fun a'' w''=>∃ v,a''=a'.put oi.dst v∧r.rel w w''∧gs'.getD i (fun _ _=>True) v w'') Q
     rw [hgi]
     refine hwp a' w he fun t ht=>?_
     have hs1:=hsl t ht
     refine J.slot t _ _ (fun j hj oj hoj hdj=>?_) (fun hn=>hs1.2 fun j hj oj hoj hdj=>?_)
     · have:=hs1.1 j (by omega) oj hoj hdj
       simp only [e1 j (by omega),hgk j hj] at this
       exact this
     · obtain ⟨e,he,hb,hon⟩:=hk.wait i oi j oj hkn' hj h0 hoj t ht hdj
       have:=hk.back i oi hkn' h0 e he hb
       exact hn j (by omega) oj hoj hdj
   · exact e2 i oi (by omega) h2 hoi
theorem aO {id:Nat}{a:Act}{w:World}{l:List Oper} (n:Nat) (hm:P.follows .mixedOrders=true) (hB:(fB l.toArray n && gB l.toArray n)=true)
 (h:∀ w1,r.rel w w1→wpX r P l.toArray Q w1 (fun a' w'=>wpList P l.toArray Q (l.drop n) a' w') (l.take n) a []):(Code.region id l.toArray true).wp P Q a w:=by
 simp only [Bool.and_eq_true] at hB
 have hk:=gW hB.1
 have hle:n≤l.length:=by simpa using hk.le
 have htl:(l.take n).length=n:=by simp;omega
 obtain ⟨gs,_,hob,hfin⟩:=gL (a0:=a) hk (l.take n) 0 a [] [] (by rw [htl];omega) (fun j hj=>by
  rw [htl] at hj
  simp [hj]) ⟨rfl,rfl,rfl,fun t g h=>(by cases h),fun t v w' _ h2=>h2 (fun j hj=>by omega)⟩ (h w.drew (r.ext (Below.refl _ _).drew))
 refine wp_region_any hm ?_
 have:=iT (P:=P) (Q:=Q) (n:=n) (a0:=a) (w0:=w.drew) (good:=fun j=>gs.getD j (fun _ _=>True)) hk hB.2 (fun i o hi ho=>hob i o (V7 _) hi ho) hfin
  (((List.range n).filter fun i=>!(Array.replicate l.toArray.size false).getD i false).length) (Array.replicate l.toArray.size false) a w.drew rfl
  ⟨by simp,fun j oj _ hl=>(by rw [getD_replicate_false] at hl;cases hl),fun t _ ht=>getD_in (by simpa using ht) (getD_replicate_false _ _)⟩
  ⟨r.refl _,rfl,rfl,fun j _ hl=>(by rw [getD_replicate_false] at hl;cases hl),fun t _=>rfl⟩
 have hcnt:((List.range n).filter fun i=>!(Array.replicate l.toArray.size false).getD i false).length=n:=by
  have:((List.range n).filter fun i=>!(Array.replicate l.toArray.size false).getD i false)=List.range n:=List.filter_eq_self.2 fun i _=>by rw [getD_replicate_false];rfl
  rw [this,List.length_range]
 rw [hcnt] at this
 rw [show n+(l.toArray.size - n)=l.toArray.size by simp;omega] at this
 exact this
end
section
variable {r:Rl}{P:Program}{ops:Array Oper}{Q:Exit→Act→World→Prop}{w0:World}{R:Act→World→Prop}
def eU (o:Oper):Bool:=nF o || (match o.op with | .pick ..=>true | _=>false)
theorem eV {P:Program}{ρ:Operand→Value}{o:Oper} (hp:eU o=true) {w w':World}{f:FuncId}{args:Array Value}:(execOp ρ o).run P w≠.ok (.enter f args) w':=by
 unfold eU at hp
 rw [Bool.or_eq_true] at hp
 rcases hp with hp | hp
 · exact kF hp
 · obtain ⟨dst,op,type,pos,after,guard⟩:=o
   cases op <;> simp only [] at hp <;> first
    | (cases hp;done)
    | skip
   rename_i c x y
   intro h
   unfold execOp at h
   simp only [Sem.run_bind] at h
   cases hs:(asBool (ρ c)).run P w with
   | ok b w1=>rw [hs] at h;simp at h
   | halt b w1=>rw [hs] at h;simp at h
theorem aD {o:Oper}{rest:List Oper}{a:Act}{hs:List (Nat × aE)}{d:Nat} (hg:cN ops o a hs) (hd:o.dst=some d) (hz:Nat.blt d a.tmps.size=true) (hp:eU o=true) (hsel:aP o=true) (hn:dQ o hs=true)
 (h:∀ K:Act→Prop,(∀ a,wpX r P ops Q w0 R rest a hs→K a)→o.quiet P a (fun w'=>∃ m:r.Lt w0,w'=m.1) K):wpX r P ops Q w0 R (o::rest) a hs:=by
 obtain ⟨v,h1,h2⟩:=h _ (fun _ h=>h)
 rw [hd] at h2
 refine ⟨d,fun u _=>u=v,hd,bH hz,r.stable_eq v,fun a' w he hsl=>?_,.inl ⟨v,rfl,h2⟩⟩
 refine fD hg hsl fun hsl=>?_
 have h3:=h1 w ⟨⟨w,he⟩,rfl⟩
 have h4:execOp a'.eval o=execOp a.eval o:=cS (bL hsel) (eH hn hsl)
 unfold Oper.quietAt at h3
 unfold Oper.wp
 rw [h4]
 have hne:=fun w' f args=>eV (P:=P) (ρ:=a.eval) (o:=o) hp (w:=w) (w':=w') (f:=f) (args:=args)
 generalize (execOp a.eval o).run P w=r at *
 cases r with
 | ok n w' =>
   cases n <;> simp only [Oper.quietUpon] at h3 <;> simp only [Oper.upon]
   case value u=>obtain ⟨e1,e2⟩:=h3;exact ⟨u,rfl,by rw [e1];exact r.refl _,e2⟩
   case skip=>obtain ⟨e1,e2⟩:=h3;exact ⟨undef,rfl,by rw [e1];exact r.refl _,e2.symm⟩
   case enter f args=>exact absurd rfl (hne w' f args)
 | halt x w'=>simp only [Oper.quietUpon] at h3
theorem kX {o:Oper}{rest:List Oper}{a:Act}{hs:List (Nat × aE)}{d:Nat} (hg:cN ops o a hs) (g:aE) (hst:r.stable g) (hd:o.dst=some d) (hz:Nat.blt d a.tmps.size=true) (hsel:aP o=true) (hn:dQ o hs=true)
 (h:∀ (m:r.Lt w0) (K:Act→World→Prop),(∀ a'' w'',a''.defers=a.defers→(r.rel m.1 w''∧g (a''.eval (.tmp d)) w'')→K a'' w'')→o.wp P a m.1 K (fun _ _ _=>False))
 (hr:wpX r P ops Q w0 R rest (a.put (some d) undef) ((d,g)::hs)):wpX r P ops Q w0 R (o::rest) a hs :=
 ⟨d,g,hd,bH hz,hst,fun a' w he hsl=>fD hg hsl fun hsl=>Oper.wp_mono (fun a'' w'' ⟨v,h1,h2⟩=>⟨v,h1,h2⟩) (dC (G:=fun v w''=>r.rel w w''∧g v w'') (cS (bL hsel) (eH hn hsl)) hd (bH hz) (h ⟨w,he⟩)),.inr hr⟩
theorem fO {o:Oper}{rest:List Oper}{a:Act}{hs:List (Nat × aE)}{d:Nat} (hg:cN ops o a hs) (v:Value) (hd:o.dst=some d) (hz:Nat.blt d a.tmps.size=true) (hsel:aP o=true) (hn:dQ o hs=true)
 (h:∀ (m:r.Lt w0) (K:Act→World→Prop),(∀ a'' w'',a''.defers=a.defers→(r.rel m.1 w''∧a''.eval (.tmp d)=v)→K a'' w'')→o.wp P a m.1 K (fun _ _ _=>False))
 (hr:wpX r P ops Q w0 R rest (a.put (some d) v) hs):wpX r P ops Q w0 R (o::rest) a hs :=
 ⟨d,fun u _=>u=v,hd,bH hz,r.stable_eq v,fun a' w he hsl=>fD hg hsl fun hsl=>Oper.wp_mono (fun a'' w'' ⟨v,h1,h2⟩=>⟨v,h1,h2⟩) (dC (G:=fun u w''=>r.rel w w''∧u=v) (cS (bL hsel) (eH hn hsl)) hd (bH hz) (h ⟨w,he⟩)),.inl ⟨v,rfl,hr⟩⟩
theorem eT {o:Oper}{rest:List Oper}{a:Act}{hs:List (Nat × aE)}{d:Nat} (hg:cN ops o a hs) (g:aE) (hst:r.stable g) {f:FuncId}{x:Operand}{xs:Array Operand}{ats:Array TypeId}{args:List Value}
 (hd:o.dst=some d) (hz:Nat.blt d a.tmps.size=true) (ho:o.op=.call { callee:=.value x,args:=xs,argTypes:=ats }) (hx:a.eval x=.func (.func f) #[] #[]) (hf:fC P f=true) (ha:xs.toList.map a.eval=args) (hn:dQ o hs=true)
 (h:∀ m:r.Lt w0,Calls P f args.toArray m.1 fun e w''=>∃ v,e=.returned v∧r.rel m.1 w''∧g v w'') (hr:wpX r P ops Q w0 R rest (a.put (some d) undef) ((d,g)::hs)):wpX r P ops Q w0 R (o::rest) a hs :=
 kX hg g hst hd hz (by unfold aP;rw [ho]) hn (fun m K hK=>fQ (G:=fun u w''=>r.rel m.1 w''∧g u w'') ho hx hf ha (h m) (fun u w'' h2=>hK _ _ (by rw [hd];rfl) ⟨h2.1,by rw [hd,aM (bH hz)];exact h2.2⟩)) hr
theorem cO {a:Act}{hs:List (Nat × aE)} (h:∀ (m:r.Lt w0) (f:Nat→Value),(∀ t p,hs.lookup t=some p→p (f t) m.1)→R (aV a hs f) m.1):wpX r P ops Q w0 R [] a hs:=fun a' w he hd hz hsl=>by
 have:a'=aV a hs (fun t=>a'.eval (.tmp t)):=by
  have k1:=bS a (fun t=>a'.eval (.tmp t)) hs
  have k2:=bO a (fun t=>a'.eval (.tmp t)) hs
  have k3:=fU a (fun t=>a'.eval (.tmp t)) hs
  generalize aV a hs (fun t=>a'.eval (.tmp t))=b at *
  obtain ⟨t,d⟩:=a
  obtain ⟨t',d'⟩:=a'
  obtain ⟨tb,db⟩:=b
  simp only at hd hz k1 k2 k3
  subst hd k2
  congr 1
  apply Array.ext (by omega)
  intro i g1 g2
  have q:=hsl i
  rw [k3 i g2 (by omega)]
  cases hl:hs.lookup i with
  | some p=>simp [Act.eval,g1]
  | none =>
    have g3:i<t.size:=by omega
    simp only [bM,hl] at q
    simpa [Act.eval,g1,g3] using q
 rw [this]
 refine h ⟨w,he⟩ _ fun t p hl=>?_
 have:=hsl t
 simpa only [bM,hl] using this
theorem kH (b:Act) (t:Nat) (h:t<b.tmps.size):b.eval (.tmp t)=b.tmps[t]:=by simp [Act.eval,h]
theorem gT {o:Oper}{a a':Act}{hs:List (Nat × aE)}{w:World} (hz:a'.tmps.size=a.tmps.size ∨ True) (hin:(aR o).all (fun t=>Nat.blt t a.tmps.size)=true) (h:∀ t ∈ aR o,bM a hs t (a'.eval (.tmp t)) w) :
 ∀ t ∈ aR o,a'.eval (.tmp t)=(aV a hs (fun t=>a'.eval (.tmp t))).eval (.tmp t):=fun t ht=>by
 have h1:=h t ht
 have h2:t<a.tmps.size:=bH (List.all_eq_true.1 hin t ht)
 have h3:t<(aV a hs (fun t=>a'.eval (.tmp t))).tmps.size:=by rw [bS];exact h2
 have h4:=fU a (fun t=>a'.eval (.tmp t)) hs t h3 h2
 rw [kH _ t h3,h4]
 unfold bM at h1
 cases hl:hs.lookup t with
 | some p=>rfl
 | none =>
   rw [hl] at h1
   simp only [Option.isSome_none,Bool.false_eq_true,if_false]
   rw [h1,kH _ t h2]
theorem gG {o:Oper}{rest:List Oper}{a:Act}{hs:List (Nat × aE)}{d:Nat} (hg:cN ops o a hs) (g:aE) (hst:r.stable g) (hd:o.dst=some d) (hz:Nat.blt d a.tmps.size=true) (hsel:aP o=true) (hin:(aR o).all (fun t=>Nat.blt t a.tmps.size)=true)
 (h:∀ (m:r.Lt w0) (f:Nat→Value),(∀ t p,hs.lookup t=some p→(aR o).contains t=true→p (f t) m.1)→∀ (K:Act→World→Prop),(∀ a'' w'',a''.defers=a.defers→(r.rel m.1 w''∧g (a''.eval (.tmp d)) w'')→K a'' w'')→o.wp P (aV a hs f) m.1 K (fun _ _ _=>False))
 (hr:wpX r P ops Q w0 R rest (a.put (some d) undef) ((d,g)::hs)):wpX r P ops Q w0 R (o::rest) a hs :=
 ⟨d,g,hd,bH hz,hst,fun a' w he hsl=>fD hg hsl fun hsl=>by
   refine Oper.wp_mono (fun a'' w'' ⟨v,h1,h2⟩=>⟨v,h1,h2⟩) (dC (G:=fun v w''=>r.rel w w''∧g v w'') (cS (bL hsel) (gT (.inr trivial) hin hsl)) hd (by rw [bS];exact bH hz) (fun K hK=>h ⟨w,he⟩ (fun t=>a'.eval (.tmp t)) (fun t p hl hc=>?_) K (fun a'' w'' hd'=>hK a'' w'' (by rw [bO];exact hd'))))
   have:=hsl t (by simpa using hc)
   unfold bM at this
   rw [hl] at this
   exact this,.inr hr⟩
theorem jL {o:Oper}{rest:List Oper}{a:Act}{hs:List (Nat × aE)}{d:Nat} (hg:cN ops o a hs) (g:aE) (hst:r.stable g) {fn:FuncId}{x:Operand}{xs:Array Operand}{ats:Array TypeId} (args:(Nat→Value)→List Value)
 (hd:o.dst=some d) (hz:Nat.blt d a.tmps.size=true) (ho:o.op=.call { callee:=.value x,args:=xs,argTypes:=ats }) (hin:(aR o).all (fun t=>Nat.blt t a.tmps.size)=true)
 (hx:∀ f,(aV a hs f).eval x=.func (.func fn) #[] #[]) (hf:fC P fn=true) (ha:∀ f,xs.toList.map (aV a hs f).eval=args f)
 (h:∀ (m:r.Lt w0) (f:Nat→Value),(∀ t p,hs.lookup t=some p→(aR o).contains t=true→p (f t) m.1)→Calls P fn (args f).toArray m.1 fun e w''=>∃ v,e=.returned v∧r.rel m.1 w''∧g v w'')
 (hr:wpX r P ops Q w0 R rest (a.put (some d) undef) ((d,g)::hs)):wpX r P ops Q w0 R (o::rest) a hs :=
 gG hg g hst hd hz (by unfold aP;rw [ho]) hin (fun m f hu K hK=>fQ (G:=fun u w''=>r.rel m.1 w''∧g u w'') ho (hx f) hf (ha f) (h m f hu)
  (fun u' w'' h2=>hK _ _ (by rw [hd];show ((aV a hs f).put (some d) u').defers=_;simp [Act.put,bO]) ⟨h2.1,by rw [hd,aM (by rw [bS];exact bH hz)];exact h2.2⟩)) hr
end
section
variable {r:Rl}{P:Program}{ops:Array Oper}{Q:Exit→Act→World→Prop}{w0:World}{R:Act→World→Prop}
theorem dE {a:Act}{hs:List (Nat × aE)}{f:Nat→Value}{x:Operand} (h:jY a x=true):(aV a hs f).eval x=evF a hs f x:=uW (bS a f hs) (fU a f hs) h
theorem eD {a:Act}{hs:List (Nat × aE)} (f:Nat→Value) (n:Nat) (h:Nat.blt n a.tmps.size=true):n<(aV a hs f).tmps.size:=by rw [bS];exact bH h
theorem dV {o:Oper}{rest:List Oper}{a:Act}{hs:List (Nat × aE)}{d:Nat} (hg:cN ops o a hs) (g:aE) (hst:r.stable g) (s:(Nat→Value)→Sem Value)
 (hd:o.dst=some d) (hz:Nat.blt d a.tmps.size=true) (hsel:aP o=true) (hin:(aR o).all (fun t=>Nat.blt t a.tmps.size)=true) (he:∀ f,execOp (aV a hs f).eval o=(do pure (Next.value (← s f))))
 (h:∀ (m:r.Lt w0) (f:Nat→Value),(∀ t p,hs.lookup t=some p→(aR o).contains t=true→p (f t) m.1)→∃ v w'',(s f).run P m.1=.ok v w''∧r.rel m.1 w''∧g v w'')
 (hr:wpX r P ops Q w0 R rest (a.put (some d) undef) ((d,g)::hs)):wpX r P ops Q w0 R (o::rest) a hs :=
 gG hg g hst hd hz hsel hin (fun m f hf K hK=>by
  obtain ⟨v,w'',h1,h2,h3⟩:=h m f hf
  exact nG (he f) h1 (hK _ _ (by rw [hd];show ((aV a hs f).put (some d) v).defers=_;simp [Act.put,bO]) ⟨h2,by rw [hd,aM (eD f d hz)];exact h3⟩)) hr
theorem bJ {o:Oper}{rest:List Oper}{a:Act}{hs:List (Nat × aE)}{d:Nat} (hg:cN ops o a hs) (g:aE) (hst:r.stable g) {t:TypeId}{n:Nat}{ps:Array (Nat × Operand)} (vs:(Nat→Value)→List (Nat × Value))
 (hd:o.dst=some d) (hz:Nat.blt d a.tmps.size=true) (ho:o.op=.buildSlice t n ps) (hin:(aR o).all (fun t=>Nat.blt t a.tmps.size)=true) (hq:(ps.toList.all fun q=>jY a q.2)=true) (ha:∀ f,(ps.toList.map fun q=>(q.1,evF a hs f q.2))=vs f)
 (h:∀ (m:r.Lt w0) (f:Nat→Value),(∀ t p,hs.lookup t=some p→(aR o).contains t=true→p (f t) m.1)→∃ v w'',(Instr.buildSlice t n (vs f).toArray).run P m.1=.ok v w''∧r.rel m.1 w''∧g v w'')
 (hr:wpX r P ops Q w0 R rest (a.put (some d) undef) ((d,g)::hs)):wpX r P ops Q w0 R (o::rest) a hs :=
 dV hg g hst (fun f=>Instr.buildSlice t n (vs f).toArray) hd hz (by unfold aP;rw [ho]) hin (fun f=>by unfold execOp;simp only [ho];rw [← ha f,List.map_congr_left (fun q hm=>by rw [← dE (List.all_eq_true.1 hq q hm)]),← List.map_toArray,Array.toArray_toList]) h hr
theorem aU {o:Oper}{rest:List Oper}{a:Act}{hs:List (Nat × aE)}{d:Nat} (hg:cN ops o a hs) (g:aE) (hst:r.stable g) {fn:FuncId}{x:Operand}{xs:Array Operand}{ats:Array TypeId} (args:(Nat→Value)→List Value)
 (hd:o.dst=some d) (hz:Nat.blt d a.tmps.size=true) (ho:o.op=.call { callee:=.value x,args:=xs,argTypes:=ats }) (hin:(aR o).all (fun t=>Nat.blt t a.tmps.size)=true)
 (hqx:x=.func fn) (hf:fC P fn=true) (hq:(xs.toList.all fun q=>jY a q)=true) (ha:∀ f,xs.toList.map (evF a hs f)=args f)
 (h:∀ (m:r.Lt w0) (f:Nat→Value),(∀ t p,hs.lookup t=some p→(aR o).contains t=true→p (f t) m.1)→Calls P fn (args f).toArray m.1 fun e w''=>∃ v,e=.returned v∧r.rel m.1 w''∧g v w'')
 (hr:wpX r P ops Q w0 R rest (a.put (some d) undef) ((d,g)::hs)):wpX r P ops Q w0 R (o::rest) a hs :=
 jL hg g hst args hd hz ho hin (fun f=>by rw [hqx];rfl) hf (fun f=>by rw [← ha f];exact List.map_congr_left (fun q hm=>dE (List.all_eq_true.1 hq q hm))) h hr
end
end Go.Proofs.YtkjplpmogfmhkaaGreatDoor.Gr
namespace Go.Proofs.YtkjplpmogfmhkaaGreatDoor
open Go.RowKit
set_option linter.unusedVariables false
theorem aJ.row_ne {w:World}{B B2 e1 e2 k1 k2:Nat}{v1 v2:Value}{x1 x2:List Value} (h1:aJ w B e1 k1 v1 x1) (h2:aJ w B2 e2 k2 v2 x2) (hne:e1≠e2):aL v2=none ∨ aL v2≠aL v1:=by
 obtain ⟨A1,n1,c1,rfl,_,h1⟩:=h1
 obtain ⟨A2,n2,c2,rfl,_,h2⟩:=h2
 rcases h2 with ⟨_,rfl⟩ | ⟨g2,cur2,rfl,_,hg2,_⟩
 · left;cases A2 <;> rfl
 · cases c2 with
   | zero=>left;rfl
   | succ c2 =>
     right
     rcases h1 with ⟨_,rfl⟩ | ⟨g1,cur1,rfl,_,hg1,_⟩
     · cases A1 <;> simp [aL]
     · cases c1 with
       | zero=>simp [aL]
       | succ c1 =>
         simp only [aL,ne_eq,Option.some.injEq]
         intro e
         subst e
         rw [hg1] at hg2
         injection hg2 with hg2
         injection hg2 with _ hg2
         exact hne hg2
theorem aJ.row_blk {w:World}{B e k g T:Nat}{v:Value}{x:List Value}{cs:Array Value}{fr:Nat × Nat} (h:aJ w B e k v x) (hg:w.heap[g]?=some (.cells cs T fr)) (hne:e≠T):aL v≠some g:=by
 obtain ⟨A,n,c,rfl,_,h⟩:=h
 rcases h with ⟨_,rfl⟩ | ⟨g1,cur1,rfl,_,hg1,_⟩
 · cases A <;> simp [aL]
 · cases c with
   | zero=>simp [aL]
   | succ c =>
     simp only [aL,ne_eq,Option.some.injEq]
     intro e
     subst e
     rw [hg1] at hg
     injection hg with hg
     injection hg with _ hg
     exact hne hg
theorem lD {w:World}{B e k:Nat}{v:Value}{x:List Value} (h:aJ w B e k v x):∀ r,aL v=some r→r<w.heap.size:=by
 obtain ⟨A,n,c,rfl,_,h⟩:=h
 intro r hr
 rcases h with ⟨_,rfl⟩ | ⟨g1,cur1,rfl,_,hg1,_⟩
 · cases A <;> simp [aL] at hr
 · cases c with
   | zero=>simp [aL] at hr
   | succ c =>
     simp only [aL,Option.some.injEq] at hr
     subst hr
     exact a9 hg1
theorem xT {P:Program}{w:World}{t ty e:TypeId}{k bytes B:Nat} (hk:0<k) (he:kE P t e k bytes) {v src:Value}{n m:Nat}{xs news:List Value} (hown:aJ w B e k v xs) (hnx:n*k=xs.length) (hr:RdK w k src news) (hmx:m*k=news.length) (hm:0<m) (h1:∀ u ∈ news,u.oneCell'=true)
 (hb:(n+m)*bytes≤140737488355328) (h63:n+m≤maxLen) (hB:B≤w.heap.size) :
 ∃ A c w',(Builtin.append_ #[t,t] ty #[v,src]).run P w=.ok (.slice A (n+m) c) w'∧aJ w' B e k (.slice A (n+m) c) (xs++news)∧w.grownBy w' (aL v)∧aJ w' B e k v xs ∧
  ∀ A1 c1,aJ w B e k (.slice A1 (n+m) c1) (xs++news)→aJ w' B e k (.slice A1 (n+m) c1) (xs++news):=by
 obtain ⟨A',c',w',r1,o1,g1,f1⟩:=nE (P:=P) (ty:=ty) hk he hown hnx hr hmx h1 hb h63 hB
 obtain ⟨i,z,ht,hi,hz,hsz,hby,hzs⟩:=he.ex
 obtain ⟨A2,m',c2,rfl,hm',hmc,hcm2,hcells⟩:=hr
 obtain rfl:m'=m:=VP hk (hm'.trans hmx.symm)
 obtain ⟨b2,o2,rfl,hc2⟩:=hcells hm
 have hnews:∀ j u,news[j]?=some u→w.cell? ((⟨b2,o2,none⟩:Addr).add j)=some u:=by
  intro j u hu
  rw [Addr.add_lit]
  exact hc2 j u hu
 refine ⟨A',c',w',r1,o1,g1,?_⟩
 have hown0:=hown
 obtain ⟨A,n',c,rfl,hn,hcase⟩:=hown
 obtain rfl:n'=n:=VP hk (hn.trans hnx.symm)
 have ext:Ext w w'→aJ w' B e k (.slice A n' c) xs∧∀ A1 c1,aJ w B e k (.slice A1 (n'+m') c1) (xs++news)→aJ w' B e k (.slice A1 (n'+m') c1) (xs++news):=fun h=>⟨hown0.ext h,fun A1 c1 h2=>h2.ext h⟩
 rcases hcase with ⟨h0,hc0⟩ | ⟨g,cur,rfl,hbg,hg,hnc,hcm,hcs,htk⟩
 · subst hc0
   refine ext ((Below.refl w.heap.size w).grown g1 (UX _) fun r hr=>?_)
   cases A <;> simp [aL] at hr
 · by_cases hc0:c=0
   · subst hc0
     refine ext ((Below.refl w.heap.size w).grown g1 (UX _) fun r hr=>?_)
     simp [aL] at hr
   · by_cases hroom:n'+m'≤c
     · have hfit:n'*i.size+news.length≤cur.size:=by rw [hsz,hcs,← hmx,← Nat.add_mul];exact Nat.mul_le_mul_right _ hroom
       have r2:=run_append_room (P:=P) w t ty e i ht hi g n' c cur hg ⟨b2,o2,none⟩ m' c2 news (by rw [hsz];exact hmx.symm) hnews h1 hroom hfit
       rw [r2] at r1
       injection r1 with q1 q2
       have hw:w'.heap[g]?=some (.cells (cur.toList.take (n'*i.size)++news++cur.toList.drop (n'*i.size+news.length)).toArray e (0,0)):=by
        rw [← q2]
        exact setRow_heap w g cur _ e _ hg
       rw [hsz] at hw hfit
       have hsize:(cur.toList.take (n'*k)++news++cur.toList.drop (n'*k+news.length)).toArray.size=cur.size:=by
        simp only [List.size_toArray,V5,VL,List.length_drop,Array.length_toList]
        omega
       have htk2:cur.toList.take (n'*k)=xs:=htk
       have hl:(xs++news).length=(n'+m')*k:=by rw [V5,← hnx,← hmx,Nat.add_mul]
       refine ⟨⟨_,n',c,rfl,hn,.inr ⟨g,_,rfl,hbg,hw,hnc,hcm,by rw [hsize];exact hcs,?_⟩⟩,fun A1 c1 h2=>?_⟩
       · rw [htk2,VF,hn]
         exact List.take_left
       · obtain ⟨A9,n9,c9,e9,hn9,h2⟩:=h2
         injection e9 with e1 e2 e3
         subst e1 e2 e3
         rcases h2 with h2 | ⟨g9,cur9,rfl,hb9,hg9,hnc9,hcm9,hcs9,ht9⟩
         · exact ⟨_,_,_,rfl,hn9,.inl h2⟩
         · by_cases hgg:g9=g
           · subst hgg
             rw [hg] at hg9
             injection hg9 with hg9
             injection hg9 with hg9
             subst hg9
             refine ⟨_,_,_,rfl,hn9,.inr ⟨g9,_,rfl,hbg,hw,hnc9,hcm9,by rw [hsize];exact hcs9,?_⟩⟩
             rw [htk2,← hl]
             exact List.take_left
           · refine ⟨_,_,_,rfl,hn9,.inr ⟨g9,cur9,rfl,hb9,(g1.block g9 (a9 hg9) fun q=>?_).trans hg9,hnc9,hcm9,hcs9,ht9⟩⟩
             obtain ⟨c',rfl⟩:∃ c',c=c'+1:=⟨c - 1,by omega⟩
             have q:some g=some g9:=by first | exact q | exact q.symm
             injection q with q
             exact hgg q.symm
     · have holds:∀ j u,xs[j]?=some u→w.cell? ((⟨g,0,none⟩:Addr).add j)=some u:=by
        intro j u hu
        rw [Addr.add_lit]
        show w.cell? ⟨g,0+j,none⟩=_
        rw [VB,cell_of_row w g j cur e (0,0) hg]
        rw [← htk,List.getElem?_take] at hu
        split at hu
        · simpa using hu
        · cases hu
       have hbb:(n'+m')*i.bytes≤140737488355328:=by rw [hby];exact hb
       have r2:=run_append_grow (P:=P) w t ty e i z ht hi hz ⟨g,0,none⟩ n' c xs (by rw [hsz];exact hn.symm) holds ⟨b2,o2,none⟩ m' c2 news (by rw [hsz];exact hmx.symm) hnews (by omega) (by unfold maxLen at h63;omega) (growslice_fits (by omega) hbb)
       rw [r2] at r1
       injection r1 with q1 q2
       refine ext ?_
       rw [← q2]
       exact (Below.refl _ _).drew.alloc (UX _) _
namespace Gr
open Go.Proofs.YtkjplpmogfmhkaaGreatDoor.Gd (cN)
section
variable {r:Rl}{P:Program}{ops:Array Oper}{Q:Exit→Act→World→Prop}{w0:World}{R:Act→World→Prop}
theorem uZ {o:Oper}{rest:List Oper}{a:Act}{hs:List (Nat × aE)}{d:Nat} (hg:cN ops o a hs) (g:aE) (hst:r.stable g) {t:TypeId}{s x:Operand} (sv xv:(Nat→Value)→Value)
 (hd:o.dst=some d) (hz:Nat.blt d a.tmps.size=true) (ho:o.op=.call { callee:=.builtin .append,args:=#[s,x],argTypes:=#[t,t] }) (hin:(aR o).all (fun t=>Nat.blt t a.tmps.size)=true) (hqs:jY a s=true) (hqx:jY a x=true)
 (hs':∀ f,evF a hs f s=sv f) (hx':∀ f,evF a hs f x=xv f)
 (h:∀ (m:r.Lt w0) (f:Nat→Value),(∀ t p,hs.lookup t=some p→(aR o).contains t=true→p (f t) m.1)→∃ v w'',(Builtin.append_ #[t,t] o.type #[sv f,xv f]).run P m.1=.ok v w''∧r.rel m.1 w''∧g v w'')
 (hr:wpX r P ops Q w0 R rest (a.put (some d) undef) ((d,g)::hs)):wpX r P ops Q w0 R (o::rest) a hs :=
 gG hg g hst hd hz (by unfold aP;rw [ho]) hin (fun m f hf K hK=>by
  obtain ⟨v,w'',h1,h2,h3⟩:=h m f hf
  have e1:(aV a hs f).eval s=sv f:=(dE hqs).trans (hs' f)
  have e2:(aV a hs f).eval x=xv f:=(dE hqx).trans (hx' f)
  unfold Oper.wp execOp
  simp only [ho,resolve,invoke,builtin,Sem.run_bind,Sem.run_pure,Result.andThen_ok,List.map_toArray,List.map_cons,List.map_nil,e1,e2,h1]
  refine hK _ _ (by rw [hd];show ((aV a hs f).put (some d) v).defers=_;simp [Act.put,bO]) ⟨h2,by rw [hd,aM (eD f d hz)];exact h3⟩) hr
theorem fE {o:Oper}{rest:List Oper}{a:Act}{hs:List (Nat × aE)}{d:Nat} (hg:cN ops o a hs) (ad:Addr) {x:Operand} (hd:o.dst=some d) (hz:Nat.blt d a.tmps.size=true) (ho:o.op=.nilCheck x) (hx:a.eval x=.pointer (some ad)) (hn:dQ o hs=true)
 (hr:wpX r P ops Q w0 R rest (a.put (some d) (.pointer (some ad))) hs):wpX r P ops Q w0 R (o::rest) a hs :=
 fO hg (.pointer (some ad)) hd hz (by unfold aP;rw [ho]) hn (fun m K hK=>by
  unfold Oper.wp execOp
  simp only [ho,hx,Sem.run_pure,Oper.upon]
  exact hK _ _ (by rw [hd];rfl) ⟨r.refl _,by rw [hd,aM (bH hz)]⟩) hr
end
end Gr
theorem aQ {w w':World}{g:Nat} (h:Ext w w') (hg:w.heap.size≤g) (cs:Array Value):Ext w (w'.setRow g cs):=below_setRow h hg cs
theorem Gb.setRow (g:Nat) (W:World) (cs:Array Value):Gb g W (W.setRow g cs):=⟨rfl,rfl,rfl,by simp,fun k hk hne=>setRow_other W g k cs (fun q=>hne (by rw [q]))⟩
theorem dX {w:World}{g k:Nat}{cs:Array Value} (h:k≠g):(w.setRow g cs).heap[k]?=w.heap[k]?:=setRow_other w g k cs h
theorem JB {w wr:World}{B:Nat} (e:Ext w wr) (h1:w.heap.size≤B) (h2:B≤wr.heap.size):∃ w0:World,w0.heap.size=B∧Ext w0 wr∧Ext w w0:=by
 have hs:(wr.heap.extract 0 B).size=B:=by simp;omega
 have hk:∀ k,k<B→(wr.heap.extract 0 B)[k]?=wr.heap[k]?:=fun k hk=>by
  rw [Array.getElem?_extract]
  simp
  intro q
  omega
 exact ⟨{ wr with heap:=wr.heap.extract 0 B },hs,⟨rfl,rfl,rfl,by show (wr.heap.extract 0 B).size≤_;omega,fun k q=>(hk k (by rw [← hs];exact q)).symm⟩,
  ⟨e.os,e.tape,e.output,by show _≤(wr.heap.extract 0 B).size;omega,fun k q=>(hk k (by omega)).trans (e.block k q)⟩⟩
section
variable {P:Program}{ty t:TypeId}{w:World}{g:Nat}{old cells:Array Value}
theorem fR (hg:w.heap[g]?=some (.cells old t (0,0))) (hi:(P.info? ty).map (·.size)=some cells.size) (ho:old.size=cells.size) (h1:cells.all (·.oneCell')=true) :
 (Instr.storeAt ty (.pointer (some ⟨g,0,none⟩)) (.agg cells)).run P w=.ok () (w.setRow g cells):=by
 simp only [Instr.storeAt,Instr.sureAddr,Sem.run_bind,Sem.run_pure,Result.andThen_ok,run_storeVar_row w g t ty old cells hg hi ho h1]
theorem aK {ops:Array Oper}{rest:List Oper}{o:Oper}{a:Act}{w:World}{Q:Exit→Act→World→Prop} (hgd:o.guard=none) (ty:TypeId) (x y:Operand) (ho:o.op=.store ty x y)
 (hd:o.dst=none) (g:Nat) (cells:Array Value) (hx:a.eval x=.pointer (some ⟨g,0,none⟩)) (hy:a.eval y=.agg cells)
 (t:TypeId) (old:Array Value) (hg:w.heap[g]?=some (.cells old t (0,0))) (hi:(P.info? ty).map (·.size)=some cells.size)
 (hold:old.size=cells.size) (h1:cells.all (·.oneCell')=true)
 (h:wpList P ops Q rest a (w.setRow g cells)):wpList P ops Q (o::rest) a w :=
 wpList_store_row hgd ty x y ho g cells hx hy t old hg hi hold h1 (by rw [hd];exact h)
theorem aZ (hg:w.heap[g]?=some (.cells old t (0,0))):(w.setRow g cells).heap[g]?=some (.cells cells t (0,0)):=setRow_heap w g old cells t (0,0) hg
end
end Go.Proofs.YtkjplpmogfmhkaaGreatDoor
namespace Go.Proofs.YtkjplpmogfmhkaaGreatDoor
open Go.RowKit
set_option linter.unusedVariables false
set_option maxRecDepth 100000
structure TP where
 ho:List UInt8
 key:Int
 rights:Int
 fr:Int
 to:Int
structure CH where
 ho:List UInt8
 key:Int
 role:Int
 rights:Int
 fr:Int
 to:Int
structure TR where
 ps:List TP
 dt:Int
def ptK (p:TP):Int :=
 if ¬ GQ p.ho then 60 else if cK p.key=false then 10 else if p.rights<0 ∨ 65535<p.rights then 62 else if ¬ M8 p.fr p.to then 8 else 0
def RL:List TP→Int
 | []=>0
 | p::l=>if ptK p=0 then RL l else ptK p
def UQ:List TP→Bool
 | [p,q]=>decide (p.ho=q.ho)
 | _=>false
def vdK (t:TR):Int :=
 if t.ps.length<1 ∨ 2<t.ps.length then 72 else if RL t.ps≠0 then RL t.ps else if UQ t.ps=true then 15 else if t.dt<0 ∨ 73048<t.dt then 8 else 0
def PF (b r:Int):Bool:=if b=1 then decide (r≠4) else if b=2 ∨ b=3 then decide (r=4) else false
section
variable {t:TR}{c:CH}{x:TC} (h1:vdK t=0)
include h1
variable (h2:c.ho≠[])
include h2
variable (h3:ckT x=0)
include h3
variable (h4:x.au=c.ho)
include h4
variable (h5:vfB c.key x=true)
include h5
variable (h6:PF c.role x.role=true)
include h6
variable (h7:¬ (c.to<t.dt ∨ x.to<t.dt))
include h7
end
end Go.Proofs.YtkjplpmogfmhkaaGreatDoor
