/- Parts Pkj Jk Jl Rw Pks Pku of the proof. -/
import Derived.Test.YtkjplpmogfmhkaaGreatDoorHaj
import Derived.Test.YtkjplpmogfmhkaaGreatDoorHap
import Derived.Test.YtkjplpmogfmhkaaGreatDoorHah
import Derived.Test.YtkjplpmogfmhkaaGreatDoorHar
import Derived.Deep.LoopGhost
import Derived.Lib.LazyBuf
namespace Go.Proofs.YtkjplpmogfmhkaaGreatDoor
open Go.RowKit
set_option linter.unusedVariables false
set_option maxRecDepth 100000
def aK (l:List UInt8):ByteArray:=⟨l.toArray⟩
def upI (z:Int):Prop:=65<=z/\z<=90
def dgI (z:Int):Prop:=48<=z/\z<=57
instance (z:Int):Decidable (upI z):=inferInstanceAs (Decidable (_/\_))
instance (z:Int):Decidable (dgI z):=inferInstanceAs (Decidable (_/\_))
def KC (l:List UInt8):Prop:=(1<=l.length/\l.length<=16)/\upI (cB l 0)/\∀ i,i<l.length->upI (cB l i) \/ dgI (cB l i)
instance (l:List UInt8):Decidable (KC l):=inferInstanceAs (Decidable (_/\_/\_))
structure TC where
 au:List UInt8
 ho:List UInt8
 key:Int
 role:Int
 rights:Int
 fr:Int
 to:Int
 e:Int
 s:Int
def OM (fr to:Int):Prop:=0<=fr/\fr<=to/\to<=73048
instance (fr to:Int):Decidable (OM fr to):=inferInstanceAs (Decidable (_/\_))
def ckT (c:TC):Int :=
 if ¬ KC c.au \/ ¬ KC c.ho then 60 else if cJ c.key=false then 10 else if c.role<1 \/ 4<c.role then 61 else
 if c.rights<0 \/ 65535<c.rights then 62 else if ¬ OM c.fr c.to then 8 else 0
def be3 (x:Int):List UInt8:=[u8 (x / 65536),u8 (x / 256),u8 x]
def bC (t:Int) (l:List UInt8):Nd:=.mk t l []
def WU (c:TC):Nd:=.mk 32590 [] [bC 66 c.au,bC 24352 c.ho,bC 134 (be4 c.key),.mk 32588 [] [bC 83 [u8 c.role,u8 (c.rights / 256),u8 c.rights]],bC 24357 (be3 c.fr),bC 24356 (be3 c.to)]
def WV (c:TC):List UInt8:=bZ 3 [WU c]
theorem gE {d:Nat}{t:Int}{l:List UInt8} (h0:0<=t) (h1:t<65536) (hv:fQ t=true) (hc:dU t=false):(0<=(bC t l).tag/\(bC t l).tag<65536)/\fQ (bC t l).tag=true/\(dU (bC t l).tag=true->(bC t l).val=[])/\(dU (bC t l).tag=false->(bC t l).kids=[])/\kY d (bC t l).kids:=by
 refine ⟨⟨h0,h1⟩,hv,fun h=>?_,fun _=>rfl,?_⟩
 · rw [show (bC t l).tag=t from rfl,hc] at h;cases h
 · show kY d []
   cases d with
   | zero=>rfl
   | succ d=>intro t ht;cases ht
theorem B6 {d:Nat}{t:Int}{ks:List Nd} (h0:0<=t) (h1:t<65536) (hv:fQ t=true) (hc:dU t=true) (hk:kY d ks):(0<=(Nd.mk t [] ks).tag/\(Nd.mk t [] ks).tag<65536)/\fQ (Nd.mk t [] ks).tag=true/\(dU (Nd.mk t [] ks).tag=true->(Nd.mk t [] ks).val=[])/\(dU (Nd.mk t [] ks).tag=false->(Nd.mk t [] ks).kids=[])/\kY d (Nd.mk t [] ks).kids :=
 ⟨⟨h0,h1⟩,hv,fun _=>rfl,fun h=>(by rw [show (Nd.mk t [] ks).tag=t from rfl,hc] at h;cases h),hk⟩
theorem jY (d:Nat):kY d []:=by
 cases d with
 | zero=>rfl
 | succ d=>intro t ht;cases ht
theorem cD {d:Nat}{t:Nd}{ts:List Nd} (h:(0<=t.tag/\t.tag<65536)/\fQ t.tag=true/\(dU t.tag=true->t.val=[])/\(dU t.tag=false->t.kids=[])/\kY d t.kids) (hs:kY (d+1) ts):kY (d+1) (t::ts):=by
 intro u hu
 rcases List.mem_cons.1 hu with rfl | hu
 · exact h
 · exact hs u hu
def vfB (p:Int) (c:TC):Bool:=if ckT c=0 then fF p (WV c) c.e c.s else false
theorem UM {s:ByteArray}{k:Nat} (h:k<s.size):cB s.data.toList k=(s[k].toNat:Int):=by
 rw [jH (l:=s.data.toList) (by simpa using h)]
 rfl
def Y7 (x:Int):Prop:=0<=x/\x<=73048
instance (x:Int):Decidable (Y7 x):=inferInstanceAs (Decidable (_/\_))
def elB (x:Int):List UInt8:=if cJ x=true then be4 x else []
def elK (x:Int):Int:=if cJ x=true then 0 else 10
theorem DO (x:Int) (w:World):Calls Tryz.prog 252 #[.int .i64 x] w (yU w (elB x) (elK x)):=by
 cases h:cJ x with
 | true =>
   obtain ⟨x0,x1⟩:=rV h
   unfold elB elK
   rw [if_pos h,if_pos h]
   go_enter Tryz.func252,Tryz.ntmps252
   go_wp2_with fail
   refine (fR x _).mono ?_
   rintro e w' ⟨rfl,rfl⟩
   rw [h]
   go_wp2_with fail
   refine (D0 x _ (by omega) (by omega)).mono ?_
   rintro e w2 ⟨A,n,c,rfl,hn,o,b⟩
   go_wp2_with fail
   go_ret2
   exact ⟨_,_,_,rfl,hn,o,b⟩
 | false =>
   unfold elB elK
   rw [if_neg (by simp [h]),if_neg (by simp [h])]
   go_enter Tryz.func252,Tryz.ntmps252
   go_wp2_with fail
   refine (fR x _).mono ?_
   rintro e w' ⟨rfl,rfl⟩
   rw [h]
   go_wp2_with fail
   go_ret2
   exact ⟨_,_,_,rfl,(show _=_ from rfl),Own.nil_ _ _ _,Below.refl _ _⟩
theorem vS (x:Int) (w:World):Calls Tryz.prog 256 #[.int .i64 x] w (yU w (elB x) (elK x)):=by
 cases h:cJ x with
 | true =>
   unfold elB elK
   rw [if_pos h,if_pos h]
   go_enter Tryz.func256,Tryz.ntmps256
   go_wp2_with fail
   refine (eG x _).mono ?_
   rintro e w' ⟨rfl,rfl⟩
   rw [h]
   go_wp2_with fail
   refine (mP x _).mono ?_
   rintro e w2 ⟨A,n,c,rfl,hn,o,b⟩
   go_wp2_with fail
   go_ret2
   exact ⟨_,_,_,rfl,hn,o,b⟩
 | false =>
   unfold elB elK
   rw [if_neg (by simp [h]),if_neg (by simp [h])]
   go_enter Tryz.func256,Tryz.ntmps256
   go_wp2_with fail
   refine (eG x _).mono ?_
   rintro e w' ⟨rfl,rfl⟩
   rw [h]
   go_wp2_with fail
   go_ret2
   exact ⟨_,_,_,rfl,(show _=_ from rfl),Own.nil_ _ _ _,Below.refl _ _⟩
def Y8 (l:List UInt8):Prop:=l.length=4/\cJ (num l)=true
instance (l:List UInt8):Decidable (Y8 l):=inferInstanceAs (Decidable (_/\_))
def beN:Nat->Int->List UInt8
 | 0,_=>[]
 | k+1,x=>beN k (x / 256)++[u8 x]
theorem gY:∀ (k:Nat) (x:Int),(beN k x).length=k
 | 0,_=>rfl
 | k+1,x=>by rw [beN,YJ,gY k];rfl
theorem WW (x:Int):beN 1 x=[u8 x]:=rfl
theorem mU (x:Int):beN 3 x=be3 x:=by
 show [u8 (x / 256 / 256),u8 (x / 256),u8 x]=_
 rw [show x / 256 / 256=x / 65536 by omega]
 rfl
theorem yY (x:Int):beN 4 x=be4 x:=by
 show [u8 (x / 256 / 256 / 256),u8 (x / 256 / 256),u8 (x / 256),u8 x]=_
 rw [show x / 256 / 256 / 256=x / 16777216 by omega,show x / 256 / 256=x / 65536 by omega]
 rfl
theorem KD (v:UInt8) (T:List UInt8):∀ k:Nat,(List.replicate (k+1) 0++T).set k v=List.replicate k 0++v::T
 | 0=>rfl
 | k+1=>by
   rw [List.replicate_succ,List.cons_append,YH,KD v T k,List.replicate_succ (n:=k)]
   rfl
theorem V3 (x:Int):u8 (x % 256)=u8 x:=by unfold u8;rw [Int.emod_emod]
def BnL (w:World) (size:Nat) (x:Int) (n i:Value) (wr:World):Prop :=
 ∃ (k:Nat) (y:Int) (T:List UInt8),k<=size/\i=.int .i64 ((k:Int) - 1)/\n=.int .i64 y/\0<=y/\y<9223372036854775808/\beN k y++T=beN size x/\Bk wr w.heap.size (List.replicate k 0++T)/\Below w.heap.size w wr
set_option maxHeartbeats 1000000 in
theorem oU (size:Nat) (x z:Int) (w:World) (h0:0<=x) (h1:x<9223372036854775808) (hz:z=(size:Int)) (hs:size<=100):Calls Tryz.prog 153 #[.int .i64 x,.int .i64 z] w fun e w'=>∃ A,e=.returned (.slice A size size)/\Own w' w.heap.size 5 (.slice A size size) (bvs (beN size x))/\Ext w w':=by
 subst hz
 go_enter Tryz.func153,Tryz.ntmps153
 go_wp2_with (refine WP size _ rfl rfl rfl rfl rfl (by omega) (Below.refl _ _) (YF _) ?_;intro w1 k1 b1 x1)
 have R0:BnL w size x (.int .i64 x) (.int .i64 ((size:Int) - 1)) w1:=⟨size,x,[],YF _,rfl,rfl,h0,h1,List.append_nil _,by rw [List.append_nil];exact k1,b1⟩
 have R0':=ZH R0
 clear R0 k1 b1 x1
 go_loopw [0,6] (fun n i wr=>BnL w size x n i wr) (fun _ i _=>(intOf i+1).toNat)
 case atStart=>exact R0'.out
 case round =>
  obtain ⟨k,y,T,hk,rfl,rfl,y0,y1,hT,kb,bb⟩:=hrel
  have HT:=ZH hT
  have HB:=ZH kb
  clear hT kb
  match k,hk,HT,HB with
  | 0,hk,HT,HB =>
    have e:T=beN size x:=by have:=HT.out;simpa [beN] using this
    subst e
    rw [show ((0:Nat):Int) - 1=-1 from rfl]
    have ho:=HB.out.own (B:=w.heap.size) (YF _) (by simp [gY];unfold maxLen;omega)
    simp only [List.replicate_zero,ZA,gY] at ho
    have HO:=ZH ho
    clear ho
    go_wp2
    go_ret
    exact ⟨_,rfl,HO.out,bb⟩
  | k+1,hk,HT,HB =>
    rw [show ((k+1:Nat):Int) - 1=(k:Int) by omega]
    have hc:=HB.out.cell (j:=k) (by simp;omega)
    have hf:=HB.out.frozen k
    have wi1:IntKind.i64.wrap ((k:Int))=(k:Int):=IntWalk.i64_in _ (by omega)
    have zi1:(0:Int)<=(k:Int):=by omega
    have li1:(k:Int)<(size:Int):=by omega
    have ti1:((k:Int)).toNat=k:=by omega
    have d0:0<=y / 256:=by omega
    have d1:y / 256<9223372036854775808:=by omega
    go_wp2
    go_roundw
    case rel =>
     refine ⟨k,y / 256,u8 y::T,by omega,rfl,rfl,d0,d1,?_,?_,bb.setCell (p:=⟨w.heap.size,k,none⟩) (YF _) _⟩
     · have:=HT.out
       rw [beN,YW] at this
       exact this
     · have:=HB.out.set k (y % 256) (by omega) (by omega)
       rw [KD,V3] at this
       exact this
    case measure=>simp [intOf]
theorem eP (size:Nat) (x z:Int) (w:World) (h0:0<=x) (h1:x<9223372036854775808) (hz:z=(size:Int)) (hs:size<=100):Calls Tryz.prog 153 #[.int .i64 x,.int .i64 z] w (gC w (beN size x)) :=
 (oU size x z w h0 h1 hz hs).mono fun e w' ⟨A,h1,h2,h3⟩=>⟨_,_,_,h1,(show _=_ by rw [gY]),h2,h3⟩
theorem DP (t:Int) (A:Option Addr) (n c:Nat) (w:World):Calls Tryz.prog 152 #[.int .i64 t,.slice A n c] w (dR w (.agg #[.int .i64 t,.slice A n c,.slice none 0 0])):=by
 go_enter Tryz.func152,Tryz.ntmps152
 go_wp2_with fail
 refine bodyPost_ret (v:=.agg #[.int .i64 t,.slice A n c,.slice none 0 0]) ?_ rfl ⟨rfl,?_⟩
 · simp [results,Tryz.results152,go_sem]
 · exact (Below.refl _ _).alloc (YF _) _
theorem B7 (W:World) (l:List UInt8) (hl:l.length<=4096):∃ A n c w',(convert 9 89 (.string (aK l))).run Tryz.prog W=.ok (.slice A n c) w'/\Ext W w'/\Hid (n=l.length)/\RdS (fun b=>W.heap.size<=b) w' (.slice A n c) (bvs l):=by
 have hsz:(aK l).size=l.length:=by show l.toArray.size=_;simp
 refine ⟨_,_,_,_,Lib.run_convert_string_bytes W 9 89 5 (aK l) Tryz.underlying9 Tryz.underlying89 Tryz.underlying5,?_,(show _=_ from hsz),?_⟩
 · exact ⟨by simp [Lib.bytesWorld,World.freeze,World.alloc,World.drew,-World.alloc_eq,-World.drew_eq],by simp [Lib.bytesWorld,World.freeze,World.alloc,World.drew,-World.alloc_eq,-World.drew_eq],by simp [Lib.bytesWorld,World.freeze,World.alloc,World.drew,-World.alloc_eq,-World.drew_eq],by rw [Lib.bytesWorld_size];omega,fun k hk=>Lib.bytesWorld_at_old _ _ _ _ hk⟩
 · refine ⟨_,_,_,rfl,by rw [bK];exact hsz,grownCap_ge _ _ _ _,grownCap_le_maxLen _ _ _ _ (by unfold maxLen;omega),fun _=>⟨_,0,rfl,YF _,fun j u hu=>?_⟩⟩
   obtain ⟨hj,rfl⟩:=JN hu
   rw [YR,Lib.bytesWorld_cell _ _ _ _ (by rw [hsz];exact hj)]
   congr 2
   simp [aK,List.getD_eq_getElem?_getD,hj]
abbrev Gb (g:Nat) (W W':World):Prop:=W.grownBy W' (some g)
theorem Gb.refl (g:Nat) (W:World):Gb g W W:=World.grownBy.refl _ _
theorem Gb.tr {g:Nat}{a b c:World} (h:Gb g a b) (k:Gb g b c):Gb g a c:=World.grownBy.trans h k
theorem Gb.set (g i:Nat) (W:World) (v:Value):Gb g W (W.setCell ⟨g,i,none⟩ v):=⟨rfl,rfl,rfl,by simp,fun k hk hne=>by
 have:k≠g:=fun e=>hne (by rw [e])
 simp [World.setCell,Array.getElem?_modify,Ne.symm this]⟩
theorem Gb.of (g:Nat) {W W':World} (h:Ext W W'):Gb g W W':=⟨h.os,h.tape,h.output,h.size,fun i hi _=>h.block i hi⟩
theorem Gb.below {w0 W W':World}{g:Nat} (h:Below w0.heap.size w0 W) (k:Gb g W W') (hg:w0.heap.size<=g):Below w0.heap.size w0 W':=h.grown k h.size (fun r hr=>by obtain rfl:=Option.some.inj hr;exact hg)
theorem lB {w:World}{B:Nat}{e:TypeId}{k:Nat}{v:Value}{xs:List Value} (h:aJ w B e k v xs):∀ r,aO v=some r->r<w.heap.size:=by
 obtain ⟨A,n,c,rfl,hn,⟨rfl,rfl⟩ | ⟨g,cur,rfl,hb,hg,_⟩⟩:=h
 · intro k hk;cases A <;> simp [aO] at hk
 · intro k hk
   cases c with
   | zero=>simp [aO] at hk
   | succ c =>
     have:=aA hg
     simp [aO] at hk
     omega
section
variable {P:Program}{Q:Exit->Act->World->Prop}{w0:World}{R:Act->World->Prop}
theorem dZ {o:Oper}{rest:List Oper}{a:Act}{hs:List (Nat × aE)}{d:Nat} (ad:Addr) {x:Operand} (hd:o.dst=some d) (hz:Nat.blt d a.tmps.size=true) (ho:o.op=.nilCheck x) (hx:a.eval x=.pointer (some ad)) (hn:fK o hs=true)
 (hr:wpX P Q w0 R rest (a.put (some d) (.pointer (some ad))) hs):wpX P Q w0 R (o::rest) a hs :=
 gF (.pointer (some ad)) hd hz (by unfold aV;rw [ho]) hn (fun m K hK=>by
  unfold Oper.wp execOp
  simp only [ho,hx,Sem.run_pure,Oper.upon]
  exact hK _ _ (by rw [hd];rfl) ⟨Below.refl _ _,by rw [hd,aW (cG hz)]⟩) hr
end
def C3 (W:World) (b:Nat) (v0 v1 v2:Value):Prop:=W.heap[b]?=some (.cells #[v0,v1,v2] 180 (0,0))
theorem C3.cells {W:World}{b:Nat}{v0 v1 v2:Value} (h:C3 W b v0 v1 v2):W.cell? ⟨b,0,none⟩=some v0/\W.cell? ⟨b,1,none⟩=some v1/\W.cell? ⟨b,2,none⟩=some v2/\W.frozen? ⟨b,0,none⟩=false/\W.frozen? ⟨b,1,none⟩=false/\W.frozen? ⟨b,2,none⟩=false:=by
 refine ⟨?_,?_,?_,?_,?_,?_⟩
 · rw [cell_of_row W b 0 _ _ _ h];rfl
 · rw [cell_of_row W b 1 _ _ _ h];rfl
 · rw [cell_of_row W b 2 _ _ _ h];rfl
 all_goals (unfold C3 at h;simp [World.frozen?,h])
theorem C3.gb {W W':World}{g b:Nat}{v0 v1 v2:Value} (h:C3 W b v0 v1 v2) (k:Gb g W W') (hne:b≠g):C3 W' b v0 v1 v2:=(k.block b (aA h) (fun e=>hne (by injection e))).trans h
theorem C3.new (W:World) (v0 v1 v2:Value):C3 (W.alloc (.cells #[v0,v1,v2] 180)) W.heap.size v0 v1 v2:=aB W _
theorem C3.lt {W:World}{b:Nat}{v0 v1 v2:Value} (h:C3 W b v0 v1 v2):b<W.heap.size:=aA h
theorem Gb.poke {g b i:Nat}{W W':World}{v:Value} (h:Gb g W W') (hb:W.heap.size<=b):Gb g W (W'.setCell ⟨b,i,none⟩ v) :=
 ⟨h.os,h.tape,h.output,by simpa using h.size,fun k hk hne=>by
   have e:k≠b:=by omega
   rw [<- h.block k hk hne]
   simp [World.setCell,Array.getElem?_modify,Ne.symm e]⟩
theorem aT {W:World}{b i k:Nat}{v:Value} (h:k≠b):(W.setCell ⟨b,i,none⟩ v).heap[k]?=W.heap[k]?:=by simp [World.setCell,Array.getElem?_modify,Ne.symm h]
theorem C3.other {W:World}{b b' i:Nat}{v0 v1 v2 v:Value} (h:C3 W b v0 v1 v2) (hne:b≠b'):C3 (W.setCell ⟨b',i,none⟩ v) b v0 v1 v2:=(aT hne).trans h
abbrev set3 (W:World) (b:Nat) (v0 v1 v2:Value):World:=((W.setCell ⟨b,0,none⟩ v0).setCell ⟨b,1,none⟩ v1).setCell ⟨b,2,none⟩ v2
theorem C3.set2 {W:World}{b:Nat}{v0 v1 v2:Value} (h:C3 W b v0 v1 v2) (u:Value):C3 (W.setCell ⟨b,2,none⟩ u) b v0 v1 u:=by
 unfold C3 at h ⊢
 simp only [World.setCell,Array.getElem?_modify,if_true,h,Option.map_some]
 rfl
theorem C3.set1 {W:World}{b:Nat}{v0 v1 v2:Value} (h:C3 W b v0 v1 v2) (u:Value):C3 (W.setCell ⟨b,1,none⟩ u) b v0 u v2:=by
 unfold C3 at h ⊢
 simp only [World.setCell,Array.getElem?_modify,if_true,h,Option.map_some]
 rfl
theorem C3.set0 {W:World}{b:Nat}{v0 v1 v2:Value} (h:C3 W b v0 v1 v2) (u:Value):C3 (W.setCell ⟨b,0,none⟩ u) b u v1 v2:=by
 unfold C3 at h ⊢
 simp only [World.setCell,Array.getElem?_modify,if_true,h,Option.map_some]
 rfl
theorem C3.set3 {W:World}{b:Nat}{v0 v1 v2:Value} (h:C3 W b v0 v1 v2) (u0 u1 u2:Value):C3 (set3 W b u0 u1 u2) b u0 u1 u2:=((h.set0 u0).set1 u1).set2 u2
theorem Gb.set3 {g b:Nat}{W W':World}{v0 v1 v2:Value} (h:Gb g W W') (hb:W.heap.size<=b):Gb g W (set3 W' b v0 v1 v2):=((h.poke hb).poke hb).poke hb
theorem pL {W:World}{b k:Nat}{v0 v1 v2:Value} (h:k≠b):(set3 W b v0 v1 v2).heap[k]?=W.heap[k]?:=by
 unfold Go.Proofs.YtkjplpmogfmhkaaGreatDoor.set3
 rw [aT h,aT h,aT h]
section
variable {P:Program}{Q:Exit->Act->World->Prop}{w0:World}{R:Act->World->Prop}
end
theorem DQ (W:World) (t:Int) (A:Option Addr) (n c:Nat):(Instr.build 180 [(0,.int .i64 t),(1,.slice A n c)].toArray).run Tryz.prog W=.ok (.agg #[.int .i64 t,.slice A n c,.slice none 0 0]) W:=run_build W _ _ _ (by kernel_rfl)
theorem C3.ex {W W':World}{b:Nat}{v0 v1 v2:Value} (h:C3 W b v0 v1 v2) (k:Ext W W'):C3 W' b v0 v1 v2:=(k.block b (aA h)).trans h
def GS (B:Nat) (l:List UInt8):aE:=fun v w=>RdS (fun b=>B<=b) w v (bvs l)
def NdG (B d:Nat) (t:Nd):aE:=fun v w=>∃ (A1:Option Addr) (n1 c1:Nat) (A2:Option Addr) (n2 c2:Nat),v=.agg #[.int .i64 t.tag,.slice A1 n1 c1,.slice A2 n2 c2]/\RdS (fun b=>B<=b) w (.slice A1 n1 c1) (bvs t.val)/\gN (fun b=>B<=b) d w (.slice A2 n2 c2) t.kids
def vT (B d:Nat) (ts:List Nd):aE:=fun v w=>gN (fun b=>B<=b) d w v ts
theorem bP (B:Nat) (l:List UInt8):cZ (GS B l):=fun v w w' e h=>h.map fun b hb hlt=>⟨hb,e.block b hlt⟩
theorem iV (B d:Nat) (ts:List Nd):cZ (vT B d ts):=fun v w w' e h=>h.map fun b hb hlt=>⟨hb,e.block b hlt⟩
theorem bF (B d:Nat) (t:Nd):cZ (NdG B d t):=fun v w w' e ⟨A1,n1,c1,A2,n2,c2,h1,h2,h3⟩=>⟨A1,n1,c1,A2,n2,c2,h1,h2.map fun b hb hlt=>⟨hb,e.block b hlt⟩,h3.map fun b hb hlt=>⟨hb,e.block b hlt⟩⟩
theorem GS.slice {B:Nat}{l:List UInt8}{v:Value}{w:World} (h:GS B l v w):∃ A n c,v=.slice A n c:=by
 obtain ⟨A,n,c,h,_⟩:=h
 exact ⟨A,n,c,h⟩
theorem gN.slice {S:Nat->Prop}{d:Nat}{ts:List Nd}{v:Value}{w:World} (h:gN S d w v ts):∃ A n c,v=.slice A n c:=by
 cases d with
 | zero=>obtain ⟨_,A,c,h,_⟩:=h;exact ⟨A,0,c,h⟩
 | succ d=>obtain ⟨A,n,c,h,_⟩:=h;exact ⟨A,n,c,h⟩
theorem fI {B d:Nat} (W:World) (t:Int) {v:Value}{l:List UInt8} (h:GS B l v W):∃ v' w'',(Instr.build 180 [(0,.int .i64 t),(1,v)].toArray).run Tryz.prog W=.ok v' w''/\Ext W w''/\NdG B d (bC t l) v' w'':=by
 obtain ⟨A,n,c,rfl⟩:=h.slice
 exact ⟨_,_,DQ W t A n c,Below.refl _ _,_,_,_,_,_,_,rfl,h,gN.nil _ _⟩
theorem B8 (W:World) (t:Int) (A:Option Addr) (n c:Nat):(Instr.build 180 [(0,.int .i64 t),(2,.slice A n c)].toArray).run Tryz.prog W=.ok (.agg #[.int .i64 t,.slice none 0 0,.slice A n c]) W:=run_build W _ _ _ (by kernel_rfl)
theorem vU {B d:Nat} (W:World) (t:Int) {v:Value}{ts:List Nd} (h:vT B d ts v W):∃ v' w'',(Instr.build 180 [(0,.int .i64 t),(2,v)].toArray).run Tryz.prog W=.ok v' w''/\Ext W w''/\NdG B d (.mk t [] ts) v' w'':=by
 obtain ⟨A,n,c,rfl⟩:=gN.slice h
 exact ⟨_,_,B8 W t A n c,Below.refl _ _,_,_,_,_,_,_,rfl,RdS.nil _,h⟩
theorem qE {B d:Nat}{W:World} (cs:List Value) (ts:List Nd) (n:Nat) (hn:n=ts.length) (hm:n<=100) (h:cN (fun b=>B<=b) d W cs ts) (hB:B<=W.heap.size):gN (fun b=>B<=b) (d+1) (W.alloc (.cells cs.toArray 180)) (.slice (some ⟨W.heap.size,0,none⟩) n n) ts:=by
 have e:Ext W (W.alloc (.cells cs.toArray 180)):=(Below.refl _ _).alloc (YF _) _
 have ho:=aJ.lit W 3 cs.toArray 180 n (by rw [hn,<- h.1];simp) (by unfold maxLen;omega)
 exact gN.mk ho (h.map fun b hb hlt=>⟨hb,e.block b hlt⟩) (fun b hb=>hb) (fun b hb=>YO hB hb)
set_option maxHeartbeats 1000000 in
theorem S3 (W:World) (z0:Int) (a0 b0:Option Addr) (n0 c0 m0 d0:Nat):(Instr.buildSlice 178 1 [(0,.agg #[.int .i64 z0,.slice a0 n0 c0,.slice b0 m0 d0])].toArray).run Tryz.prog W=.ok (.slice (some ⟨W.heap.size,0,none⟩) 1 1) (W.alloc (.cells #[.int .i64 z0,.slice a0 n0 c0,.slice b0 m0 d0] 180)):=by go_simp
theorem G6 {B d:Nat} (W:World) (hB:B<=W.heap.size) {v0:Value}{t0:Nd} (h0:NdG B d t0 v0 W):∃ v' w'',(Instr.buildSlice 178 1 [(0,v0)].toArray).run Tryz.prog W=.ok v' w''/\Ext W w''/\vT B (d+1) [t0] v' w'':=by
 obtain ⟨a0,n0,c0,b0,m0,d0,rfl,r0,k0⟩:=h0
 exact ⟨_,_,S3 W t0.tag a0 b0 n0 c0 m0 d0,(Below.refl _ _).alloc (YF _) _,qE [.int .i64 t0.tag,.slice a0 n0 c0,.slice b0 m0 d0] [t0] 1 rfl (by omega) ((cN.nil _ d W).snoc r0 k0) hB⟩
set_option maxHeartbeats 1000000 in
theorem KE (W:World) (z0:Int) (a0 b0:Option Addr) (n0 c0 m0 d0:Nat) (z1:Int) (a1 b1:Option Addr) (n1 c1 m1 d1:Nat):(Instr.buildSlice 178 2 [(0,.agg #[.int .i64 z0,.slice a0 n0 c0,.slice b0 m0 d0]),(1,.agg #[.int .i64 z1,.slice a1 n1 c1,.slice b1 m1 d1])].toArray).run Tryz.prog W=.ok (.slice (some ⟨W.heap.size,0,none⟩) 2 2) (W.alloc (.cells #[.int .i64 z0,.slice a0 n0 c0,.slice b0 m0 d0,.int .i64 z1,.slice a1 n1 c1,.slice b1 m1 d1] 180)):=by go_simp
set_option maxHeartbeats 1000000 in
theorem S4 (W:World) (z0:Int) (a0 b0:Option Addr) (n0 c0 m0 d0:Nat) (z1:Int) (a1 b1:Option Addr) (n1 c1 m1 d1:Nat) (z2:Int) (a2 b2:Option Addr) (n2 c2 m2 d2:Nat) (z3:Int) (a3 b3:Option Addr) (n3 c3 m3 d3:Nat) (z4:Int) (a4 b4:Option Addr) (n4 c4 m4 d4:Nat) (z5:Int) (a5 b5:Option Addr) (n5 c5 m5 d5:Nat) (z6:Int) (a6 b6:Option Addr) (n6 c6 m6 d6:Nat):(Instr.buildSlice 178 7 [(0,.agg #[.int .i64 z0,.slice a0 n0 c0,.slice b0 m0 d0]),(1,.agg #[.int .i64 z1,.slice a1 n1 c1,.slice b1 m1 d1]),(2,.agg #[.int .i64 z2,.slice a2 n2 c2,.slice b2 m2 d2]),(3,.agg #[.int .i64 z3,.slice a3 n3 c3,.slice b3 m3 d3]),(4,.agg #[.int .i64 z4,.slice a4 n4 c4,.slice b4 m4 d4]),(5,.agg #[.int .i64 z5,.slice a5 n5 c5,.slice b5 m5 d5]),(6,.agg #[.int .i64 z6,.slice a6 n6 c6,.slice b6 m6 d6])].toArray).run Tryz.prog W=.ok (.slice (some ⟨W.heap.size,0,none⟩) 7 7) (W.alloc (.cells #[.int .i64 z0,.slice a0 n0 c0,.slice b0 m0 d0,.int .i64 z1,.slice a1 n1 c1,.slice b1 m1 d1,.int .i64 z2,.slice a2 n2 c2,.slice b2 m2 d2,.int .i64 z3,.slice a3 n3 c3,.slice b3 m3 d3,.int .i64 z4,.slice a4 n4 c4,.slice b4 m4 d4,.int .i64 z5,.slice a5 n5 c5,.slice b5 m5 d5,.int .i64 z6,.slice a6 n6 c6,.slice b6 m6 d6] 180)):=by go_simp
theorem vV {B d:Nat} (W:World) (hB:B<=W.heap.size) {v0 v1 v2 v3 v4 v5 v6:Value}{t0 t1 t2 t3 t4 t5 t6:Nd} (h0:NdG B d t0 v0 W) (h1:NdG B d t1 v1 W) (h2:NdG B d t2 v2 W) (h3:NdG B d t3 v3 W) (h4:NdG B d t4 v4 W) (h5:NdG B d t5 v5 W) (h6:NdG B d t6 v6 W):∃ v' w'',(Instr.buildSlice 178 7 [(0,v0),(1,v1),(2,v2),(3,v3),(4,v4),(5,v5),(6,v6)].toArray).run Tryz.prog W=.ok v' w''/\Ext W w''/\vT B (d+1) [t0,t1,t2,t3,t4,t5,t6] v' w'':=by
 obtain ⟨a0,n0,c0,b0,m0,d0,rfl,r0,k0⟩:=h0
 obtain ⟨a1,n1,c1,b1,m1,d1,rfl,r1,k1⟩:=h1
 obtain ⟨a2,n2,c2,b2,m2,d2,rfl,r2,k2⟩:=h2
 obtain ⟨a3,n3,c3,b3,m3,d3,rfl,r3,k3⟩:=h3
 obtain ⟨a4,n4,c4,b4,m4,d4,rfl,r4,k4⟩:=h4
 obtain ⟨a5,n5,c5,b5,m5,d5,rfl,r5,k5⟩:=h5
 obtain ⟨a6,n6,c6,b6,m6,d6,rfl,r6,k6⟩:=h6
 exact ⟨_,_,S4 W t0.tag a0 b0 n0 c0 m0 d0 t1.tag a1 b1 n1 c1 m1 d1 t2.tag a2 b2 n2 c2 m2 d2 t3.tag a3 b3 n3 c3 m3 d3 t4.tag a4 b4 n4 c4 m4 d4 t5.tag a5 b5 n5 c5 m5 d5 t6.tag a6 b6 n6 c6 m6 d6,(Below.refl _ _).alloc (YF _) _,qE [.int .i64 t0.tag,.slice a0 n0 c0,.slice b0 m0 d0,.int .i64 t1.tag,.slice a1 n1 c1,.slice b1 m1 d1,.int .i64 t2.tag,.slice a2 n2 c2,.slice b2 m2 d2,.int .i64 t3.tag,.slice a3 n3 c3,.slice b3 m3 d3,.int .i64 t4.tag,.slice a4 n4 c4,.slice b4 m4 d4,.int .i64 t5.tag,.slice a5 n5 c5,.slice b5 m5 d5,.int .i64 t6.tag,.slice a6 n6 c6,.slice b6 m6 d6] [t0,t1,t2,t3,t4,t5,t6] 7 rfl (by omega) ((((((((cN.nil _ d W).snoc r0 k0).snoc r1 k1).snoc r2 k2).snoc r3 k3).snoc r4 k4).snoc r5 k5).snoc r6 k6) hB⟩
def GF (B:Nat) (l:List UInt8):aE:=fun v w=>∃ A,v=.slice A l.length l.length/\RdS (fun b=>B<=b) w v (bvs l)
theorem lC (B:Nat) (l:List UInt8):cZ (GF B l):=fun v w w' e ⟨A,h1,h⟩=>⟨A,h1,h.map fun b hb hlt=>⟨hb,e.block b hlt⟩⟩
theorem GF.gs {B:Nat}{l:List UInt8}{v:Value}{w:World} (h:GF B l v w):GS B l v w:=by obtain ⟨A,_,k⟩:=h;exact k
theorem mV {B:Nat} (size:Nat) (x z:Int) (w:World) (hB:B<=w.heap.size) (h0:0<=x) (h1:x<9223372036854775808) (hz:z=(size:Int)) (hs:size<=100):Calls Tryz.prog 153 #[.int .i64 x,.int .i64 z] w fun e w'=>∃ v,e=.returned v/\Ext w w'/\GF B (beN size x) v w' :=
 (oU size x z w h0 h1 hz hs).mono fun e w' ⟨A,h1,h2,h3⟩=>⟨_,h1,h3,A,by rw [gY],RdS.of h2 fun b hb=>YO hB hb⟩
theorem lD {B d:Nat} (W:World) (t:Int) {v:Value}{l:List UInt8} (h:GS B l v W):Calls Tryz.prog 152 #[.int .i64 t,v] W fun e w''=>∃ v',e=.returned v'/\Ext W w''/\NdG B d (bC t l) v' w'':=by
 obtain ⟨A,n,c,rfl⟩:=h.slice
 exact (DP t A n c W).mono fun e w'' ⟨h1,h2⟩=>⟨_,h1,h2,_,_,_,_,_,_,rfl,bP B l _ _ _ h2 h,gN.nil _ _⟩
theorem gC.gs {w w':World}{B:Nat}{l:List UInt8}{e:Ending} (h:gC w l e w') (hB:B<=w.heap.size):∃ v,e=.returned v/\Ext w w'/\GS B l v w':=by
 obtain ⟨A,n,c,h1,h2,h3,h4⟩:=h
 exact ⟨_,h1,h4,RdS.of h3 fun b hb=>YO hB hb⟩
theorem B9 {B:Nat} (W:World) (hB:B<=W.heap.size) (l:List UInt8) (hl:l.length<=4096):∃ v w'',(convert 9 89 (.string (aK l))).run Tryz.prog W=.ok v w''/\Ext W w''/\GS B l v w'':=by
 obtain ⟨A,n,c',w2,h1,h2,h3,h4⟩:=B7 W l hl
 exact ⟨_,_,h1,h2,h4.map (fun b hb _=>⟨YO hB hb,rfl⟩)⟩
theorem V4 {B:Nat} (W:World) (hB:B<=W.heap.size) (cs:Array Value) (l:List UInt8) (n:Nat) (hn:n=l.length) (hm:n<=100) (hc:cs.toList=bvs l):GS B l (.slice (some ⟨W.heap.size,0,none⟩) n n) (W.alloc (.cells cs 5)):=by
 have h:=Own.lit W cs 5 n (by rw [hn,<- bK,<- hc];simp) (by unfold maxLen;omega)
 rw [hc] at h
 exact RdS.of h fun b hb=>YO hB hb
def ON (w:World) (d:Nat) (t:Nd) (mkv:Value->Value) (e:Ending) (w':World):Prop:=Ext w w'/\∃ v,NdG w.heap.size d t v w'/\e=.returned (mkv v)
theorem yZ {w w':World}{rb d:Nat}{t:Nd}{A1 A2:Option Addr}{n1 c1 n2 c2 B:Nat} (hB:w.heap.size<=B) (hrb:rb<B) (r:RdS (fun b=>B<=b) w' (.slice A1 n1 c1) (bvs t.val)) (k:gN (fun b=>B<=b) d w' (.slice A2 n2 c2) t.kids) (v0 v1 v2:Value) :
 NdG w.heap.size d t (.agg #[.int .i64 t.tag,.slice A1 n1 c1,.slice A2 n2 c2]) (Go.Proofs.YtkjplpmogfmhkaaGreatDoor.set3 w' rb v0 v1 v2) :=
 ⟨_,_,_,_,_,_,rfl,r.map fun b hb _=>⟨YO hB hb,pL (by have hb:B<=b:=hb;omega)⟩,k.map fun b hb _=>⟨YO hB hb,pL (by have hb:B<=b:=hb;omega)⟩⟩
theorem vW {w w':World}{rb:Nat} (h:Ext w w') (hrb:w.heap.size<=rb) (v0 v1 v2:Value):Ext w (Go.Proofs.YtkjplpmogfmhkaaGreatDoor.set3 w' rb v0 v1 v2) :=
 ((h.setCell (p:=⟨rb,0,none⟩) hrb _).setCell (p:=⟨rb,1,none⟩) hrb _).setCell (p:=⟨rb,2,none⟩) hrb _
theorem Rd.gs0 {w:World}{v:Value}{l:List UInt8} (h:Rd w v (bvs l)):GS 0 l v w:=by
 obtain ⟨A,n,c,h1,h2,h3,h4,h5⟩:=h
 exact ⟨A,n,c,h1,h2,h3,h4,fun h0=>by obtain ⟨b,o,q1,q2⟩:=h5 h0;exact ⟨b,o,q1,YK _,q2⟩⟩
theorem NdG.zero {B d:Nat}{t:Nd}{v:Value}{w:World} (h:NdG B d t v w):NdG 0 d t v w:=by
 obtain ⟨A1,n1,c1,A2,n2,c2,h1,h2,h3⟩:=h
 exact ⟨A1,n1,c1,A2,n2,c2,h1,h2.map fun b _ _=>⟨YK _,rfl⟩,h3.map fun b _ _=>⟨YK _,rfl⟩⟩
theorem uJ {d g:Nat}{W:World}{t:Nd}{A1 A2:Option Addr}{n1 c1 n2 c2:Nat} (hg:g=W.heap.size) (h:NdG 0 d t (.agg #[.int .i64 t.tag,.slice A1 n1 c1,.slice A2 n2 c2]) W) :
 fH (d+1) (W.alloc (.cells #[.int .i64 t.tag,.slice A1 n1 c1,.slice A2 n2 c2] 180)) (.slice (some ⟨g,0,none⟩) 1 1) [t]:=by
 subst hg
 obtain ⟨B1,m1,k1,B2,m2,k2,e,r,k⟩:=h
 injection e with e
 injection e with e
 simp only [List.cons.injEq,Value.slice.injEq,and_true,true_and] at e
 obtain ⟨⟨rfl,rfl,rfl⟩,rfl,rfl,rfl⟩:=e
 exact (qE [.int .i64 t.tag,.slice A1 n1 c1,.slice A2 n2 c2] [t] 1 rfl (by omega) ((cN.nil _ d W).snoc r k) (YK _)).rd
theorem oE {B d:Nat}{t:Nd}{v:Value}{w:World} (h:NdG B d t v w):∃ (A1:Option Addr) (n1 c1:Nat) (A2:Option Addr) (n2 c2:Nat),v=.agg #[.int .i64 t.tag,.slice A1 n1 c1,.slice A2 n2 c2]:=by
 obtain ⟨A1,n1,c1,A2,n2,c2,h,_⟩:=h
 exact ⟨A1,n1,c1,A2,n2,c2,h⟩
theorem aF {w:World}{g:Nat}{cs:Array Value}{t:TypeId}{fr:Nat × Nat} (h:w.heap[g]?=some (.cells cs t fr)) (i:Nat) (v:Value):(w.setCell ⟨g,i,none⟩ v).heap[g]?=some (.cells (cs.setIfInBounds i v) t fr):=by
 simp only [World.setCell,Array.getElem?_modify,if_true,h,Option.map_some]
 rfl
theorem aG {w w':World}{g i:Nat}{v:Value} (h:Ext w w') (hg:w.heap.size<=g):Ext w (w'.setCell ⟨g,i,none⟩ v):=h.setCell (p:=⟨g,i,none⟩) hg _
theorem aJ.row_ne {w:World}{B B2 e1 e2 k1 k2:Nat}{v1 v2:Value}{x1 x2:List Value} (h1:aJ w B e1 k1 v1 x1) (h2:aJ w B2 e2 k2 v2 x2) (hne:e1≠e2):aO v2=none \/ aO v2≠aO v1:=by
 obtain ⟨A1,n1,c1,rfl,_,h1⟩:=h1
 obtain ⟨A2,n2,c2,rfl,_,h2⟩:=h2
 rcases h2 with ⟨_,rfl⟩ | ⟨g2,cur2,rfl,_,hg2,_⟩
 · left;cases A2 <;> rfl
 · cases c2 with
   | zero=>left;rfl
   | succ c2 =>
     right
     rcases h1 with ⟨_,rfl⟩ | ⟨g1,cur1,rfl,_,hg1,_⟩
     · cases A1 <;> simp [aO]
     · cases c1 with
       | zero=>simp [aO]
       | succ c1 =>
         simp only [aO,ne_eq,Option.some.injEq]
         intro e
         subst e
         rw [hg1] at hg2
         injection hg2 with hg2
         injection hg2 with _ hg2
         exact hne hg2
theorem aJ.row_blk {w:World}{B e k g T:Nat}{v:Value}{x:List Value}{cs:Array Value}{fr:Nat × Nat} (h:aJ w B e k v x) (hg:w.heap[g]?=some (.cells cs T fr)) (hne:e≠T):aO v≠some g:=by
 obtain ⟨A,n,c,rfl,_,h⟩:=h
 rcases h with ⟨_,rfl⟩ | ⟨g1,cur1,rfl,_,hg1,_⟩
 · cases A <;> simp [aO]
 · cases c with
   | zero=>simp [aO]
   | succ c =>
     simp only [aO,ne_eq,Option.some.injEq]
     intro e
     subst e
     rw [hg1] at hg
     injection hg with hg
     injection hg with _ hg
     exact hne hg
theorem qF {w:World}{B e k:Nat}{v:Value}{x:List Value} (h:aJ w B e k v x):∀ r,aO v=some r->r<w.heap.size:=by
 obtain ⟨A,n,c,rfl,_,h⟩:=h
 intro r hr
 rcases h with ⟨_,rfl⟩ | ⟨g1,cur1,rfl,_,hg1,_⟩
 · cases A <;> simp [aO] at hr
 · cases c with
   | zero=>simp [aO] at hr
   | succ c =>
     simp only [aO,Option.some.injEq] at hr
     subst hr
     exact aA hg1
theorem z8 {P:Program}{w:World}{t ty e:TypeId}{k bytes B:Nat} (hk:0<k) (he:kI P t e k bytes) {v src:Value}{n m:Nat}{xs news:List Value} (hown:aJ w B e k v xs) (hnx:n*k=xs.length) (hr:RdK w k src news) (hmx:m*k=news.length) (hm:0<m) (h1:∀ u ∈ news,u.oneCell'=true)
 (hb:(n+m)*bytes<=140737488355328) (h63:n+m<=maxLen) (hB:B<=w.heap.size) :
 ∃ A c w',(Builtin.append_ #[t,t] ty #[v,src]).run P w=.ok (.slice A (n+m) c) w'/\aJ w' B e k (.slice A (n+m) c) (xs++news)/\w.grownBy w' (aO v)/\aJ w' B e k v xs /\
  ∀ A1 c1,aJ w B e k (.slice A1 (n+m) c1) (xs++news)->aJ w' B e k (.slice A1 (n+m) c1) (xs++news):=by
 obtain ⟨A',c',w',r1,o1,g1,f1⟩:=nX (P:=P) (ty:=ty) hk he hown hnx hr hmx h1 hb h63 hB
 obtain ⟨i,z,ht,hi,hz,hsz,hby,hzs⟩:=he.ex
 obtain ⟨A2,m',c2,rfl,hm',hmc,hcm2,hcells⟩:=hr
 obtain rfl:m'=m:=ZD hk (hm'.trans hmx.symm)
 obtain ⟨b2,o2,rfl,hc2⟩:=hcells hm
 have hnews:∀ j u,news[j]?=some u->w.cell? ((⟨b2,o2,none⟩:Addr).add j)=some u:=by
  intro j u hu
  rw [Addr.add_lit]
  exact hc2 j u hu
 refine ⟨A',c',w',r1,o1,g1,?_⟩
 have hown0:=hown
 obtain ⟨A,n',c,rfl,hn,hcase⟩:=hown
 obtain rfl:n'=n:=ZD hk (hn.trans hnx.symm)
 have ext:Ext w w'->aJ w' B e k (.slice A n' c) xs/\∀ A1 c1,aJ w B e k (.slice A1 (n'+m') c1) (xs++news)->aJ w' B e k (.slice A1 (n'+m') c1) (xs++news):=fun h=>⟨hown0.ext h,fun A1 c1 h2=>h2.ext h⟩
 rcases hcase with ⟨h0,hc0⟩ | ⟨g,cur,rfl,hbg,hg,hnc,hcm,hcs,htk⟩
 · subst hc0
   refine ext ((Below.refl w.heap.size w).grown g1 (YF _) fun r hr=>?_)
   cases A <;> simp [aO] at hr
 · by_cases hc0:c=0
   · subst hc0
     refine ext ((Below.refl w.heap.size w).grown g1 (YF _) fun r hr=>?_)
     simp [aO] at hr
   · by_cases hroom:n'+m'<=c
     · have hfit:n'*i.size+news.length<=cur.size:=by rw [hsz,hcs,<- hmx,<- Nat.add_mul];exact Nat.mul_le_mul_right _ hroom
       have r2:=run_append_room (P:=P) w t ty e i ht hi g n' c cur hg ⟨b2,o2,none⟩ m' c2 news (by rw [hsz];exact hmx.symm) hnews h1 hroom hfit
       rw [r2] at r1
       injection r1 with q1 q2
       have hw:w'.heap[g]?=some (.cells (cur.toList.take (n'*i.size)++news++cur.toList.drop (n'*i.size+news.length)).toArray e (0,0)):=by
        rw [<- q2]
        exact setRow_heap w g cur _ e _ hg
       rw [hsz] at hw hfit
       have hsize:(cur.toList.take (n'*k)++news++cur.toList.drop (n'*k+news.length)).toArray.size=cur.size:=by
        simp only [List.size_toArray,YJ,YY,List.length_drop,Array.length_toList]
        omega
       have htk2:cur.toList.take (n'*k)=xs:=htk
       have hl:(xs++news).length=(n'+m')*k:=by rw [YJ,<- hnx,<- hmx,Nat.add_mul]
       refine ⟨⟨_,n',c,rfl,hn,.inr ⟨g,_,rfl,hbg,hw,hnc,hcm,by rw [hsize];exact hcs,?_⟩⟩,fun A1 c1 h2=>?_⟩
       · rw [htk2,YW,hn]
         exact List.take_left
       · obtain ⟨A9,n9,c9,e9,hn9,h2⟩:=h2
         injection e9 with e1 e2 e3
         subst e1 e2 e3
         rcases h2 with h2 | ⟨g9,cur9,rfl,hb9,hg9,hnc9,hcm9,hcs9,ht9⟩
         · exact ⟨_,_,_,rfl,hn9,.inl h2⟩
         · by_cases hgg:g9=g
           · subst hgg
             rw [hg] at hg9
             injection hg9 with hg9
             injection hg9 with hg9
             subst hg9
             refine ⟨_,_,_,rfl,hn9,.inr ⟨g9,_,rfl,hbg,hw,hnc9,hcm9,by rw [hsize];exact hcs9,?_⟩⟩
             rw [htk2,<- hl]
             exact List.take_left
           · refine ⟨_,_,_,rfl,hn9,.inr ⟨g9,cur9,rfl,hb9,(g1.block g9 (aA hg9) fun q=>?_).trans hg9,hnc9,hcm9,hcs9,ht9⟩⟩
             obtain ⟨c',rfl⟩:∃ c',c=c'+1:=⟨c - 1,by omega⟩
             have q:some g=some g9:=by first | exact q | exact q.symm
             injection q with q
             exact hgg q.symm
     · have holds:∀ j u,xs[j]?=some u->w.cell? ((⟨g,0,none⟩:Addr).add j)=some u:=by
        intro j u hu
        rw [Addr.add_lit]
        show w.cell? ⟨g,0+j,none⟩=_
        rw [YR,cell_of_row w g j cur e (0,0) hg]
        rw [<- htk,List.getElem?_take] at hu
        split at hu
        · simpa using hu
        · cases hu
       have hbb:(n'+m')*i.bytes<=140737488355328:=by rw [hby];exact hb
       have r2:=run_append_grow (P:=P) w t ty e i z ht hi hz ⟨g,0,none⟩ n' c xs (by rw [hsz];exact hn.symm) holds ⟨b2,o2,none⟩ m' c2 news (by rw [hsz];exact hmx.symm) hnews (by omega) (by unfold maxLen at h63;omega) (growslice_fits (by omega) hbb)
       rw [r2] at r1
       injection r1 with q1 q2
       refine ext ?_
       rw [<- q2]
       exact (Below.refl _ _).drew.alloc (YF _) _
theorem M7 {P:Program}{o o2:Oper} (h1:o2.op=o.op) (h2:o2.dst=o.dst) (h3:o2.type=o.type) {a:Act}{w:World}{K:Act->World->Prop}{Q:Exit->Act->World->Prop} (h:o2.wp P a w K Q):o.wp P a w K Q:=by
 obtain ⟨d,op,ty,ps,af,gd⟩:=o
 obtain ⟨d2,op2,ty2,ps2,af2,gd2⟩:=o2
 simp only at h1 h2 h3
 subst h1 h2 h3
 exact h
theorem DR {P:Program}{o o2:Oper} (h1:o2.op=o.op) (h2:o2.dst=o.dst) (h3:o2.type=o.type) {a:Act}{w:World} (h:o2.asks P a w):o.asks P a w:=by
 obtain ⟨d,op,ty,ps,af,gd⟩:=o
 obtain ⟨d2,op2,ty2,ps2,af2,gd2⟩:=o2
 simp only at h1 h2 h3
 subst h1 h2 h3
 exact h
def UN (ops ops2:Array Oper) (l1:Array Bool) (s:List Nat):Bool :=
 decide (l1.size=ops.size) && decide (s.length=ops2.size) &&
 (List.range s.length).all (fun k=>(List.range s.length).all fun m=>k == m || s.getD k 0 != s.getD m 0) &&
 (List.range s.length).all (fun k=>decide (s.getD k 0<ops.size) && !l1.getD (s.getD k 0) true) &&
 (List.range ops.size).all (fun i=>l1.getD i true || (List.range s.length).any fun k=>s.getD k 0 == i) &&
 (List.range s.length).all (fun k=>match ops[s.getD k 0]?,ops2[k]? with
   | some o,some o2=>o.guard.isNone && o2.guard.isNone &&
     o.after.all (fun e=>!Region.binds .any e || l1.getD e.on false || o2.after.any fun e2=>Region.binds .any e2 && decide (e2.on<s.length) && s.getD e2.on 0 == e.on) &&
     o2.after.all (fun e2=>!Region.binds .any e2 || (decide (e2.on<s.length) && o.after.any fun e=>Region.binds .any e && s.getD e2.on 0 == e.on))
   | _,_=>false)
structure WX (ops ops2:Array Oper) (l1:Array Bool) (s:List Nat):Prop where
 size1:l1.size=ops.size
 size2:s.length=ops2.size
 inj:∀ k m,k<s.length->m<s.length->s.getD k 0=s.getD m 0->k=m
 lt:∀ k,k<s.length->s.getD k 0<ops.size/\l1.getD (s.getD k 0) true=false
 onto:∀ i,i<ops.size->l1.getD i true=false->∃ k,k<s.length/\s.getD k 0=i
 edge:∀ k,k<s.length->∃ o o2,ops[s.getD k 0]?=some o/\ops2[k]?=some o2/\o.guard=none/\o2.guard=none /\
  (∀ e ∈ o.after,Region.binds .any e=true->l1.getD e.on false=true \/ ∃ e2 ∈ o2.after,Region.binds .any e2=true/\e2.on<s.length/\s.getD e2.on 0=e.on) /\
  (∀ e2 ∈ o2.after,Region.binds .any e2=true->e2.on<s.length/\∃ e ∈ o.after,Region.binds .any e=true/\s.getD e2.on 0=e.on)
theorem S6 {ops ops2:Array Oper}{l1:Array Bool}{s:List Nat} (h:UN ops ops2 l1 s=true):WX ops ops2 l1 s:=by
 unfold UN at h
 simp only [Bool.and_eq_true,decide_eq_true_eq] at h
 obtain ⟨⟨⟨⟨⟨h1,h2⟩,h3⟩,h4⟩,h5⟩,h6⟩:=h
 refine ⟨h1,h2,fun k m hk hm e=>?_,fun k hk=>?_,fun i hi hl=>?_,fun k hk=>?_⟩
 · have q:=List.all_eq_true.1 (List.all_eq_true.1 h3 k (List.mem_range.2 hk)) m (List.mem_range.2 hm)
   simp only [Bool.or_eq_true,beq_iff_eq,bne_iff_ne] at q
   exact q.resolve_right (fun q=>q e)
 · have q:=List.all_eq_true.1 h4 k (List.mem_range.2 hk)
   simpa using q
 · have q:=List.all_eq_true.1 h5 i (List.mem_range.2 hi)
   rw [hl,Bool.false_or] at q
   obtain ⟨k,hk,e⟩:=List.any_eq_true.1 q
   exact ⟨k,List.mem_range.1 hk,by simpa using e⟩
 · have q:=List.all_eq_true.1 h6 k (List.mem_range.2 hk)
   split at q
   · rename_i o o2 ho ho2
     simp only [Bool.and_eq_true,Option.isNone_iff_eq_none] at q
     obtain ⟨⟨⟨g1,g2⟩,f⟩,b⟩:=q
     refine ⟨o,o2,ho,ho2,g1,g2,fun e he hb=>?_,fun e2 he hb=>?_⟩
     · have q:=Array.all_eq_true_iff_forall_mem.1 f e he
       simp only [hb,Bool.not_true,Bool.false_or,Bool.or_eq_true] at q
       rcases q with q | q
       · exact .inl q
       · obtain ⟨e2,he2,q⟩:=Array.any_eq_true'.1 q
         simp only [Bool.and_eq_true,decide_eq_true_eq,beq_iff_eq] at q
         exact .inr ⟨e2,he2,q.1.1,q.1.2,q.2⟩
     · have q:=Array.all_eq_true_iff_forall_mem.1 b e2 he
       simp only [hb,Bool.not_true,Bool.false_or,Bool.and_eq_true,decide_eq_true_eq] at q
       obtain ⟨e,he',q2⟩:=Array.any_eq_true'.1 q.2
       simp only [Bool.and_eq_true,beq_iff_eq] at q2
       exact ⟨q.1,e,he',q2.1,q2.2⟩
   · cases q
def V5 (o:Oper):Op × Option Nat × TypeId:=(o.op,o.dst,o.type)
theorem WY {P:Program}{ops ops2:Array Oper}{Q:Exit->Act->World->Prop}{l1:Array Bool}{s:List Nat} (R:WX ops ops2 l1 s) (hsame:∀ k o o2,k<s.length->ops[s.getD k 0]?=some o->ops2[k]?=some o2->o2.op=o.op/\o2.dst=o.dst/\o2.type=o.type) :
 ∀ (fuel:Nat) (listed listed2:Array Bool) (a:Act) (w:World),listed.size=ops.size->listed2.size=ops2.size->(∀ i,i<ops.size->l1.getD i true=true->listed.getD i true=true)->(∀ k,k<s.length->listed.getD (s.getD k 0) true=listed2.getD k true) ->
  wpAny P .any ops2 Q fuel listed2 a w->wpAny P .any ops Q fuel listed a w:=by
 have gd:∀ (l:Array Bool) (i:Nat),i<l.size->l.getD i true=l.getD i false:=fun l i h=>by simp [h]
 have rdy:∀ (listed listed2:Array Bool),listed.size=ops.size->listed2.size=ops2.size->(∀ i,i<ops.size->l1.getD i true=true->listed.getD i true=true)->(∀ k,k<s.length->listed.getD (s.getD k 0) true=listed2.getD k true) ->
  (∀ i,i ∈ Region.ready .any ops listed->∃ k,k<s.length/\s.getD k 0=i/\k ∈ Region.ready .any ops2 listed2)/\(∀ k,k ∈ Region.ready .any ops2 listed2->s.getD k 0 ∈ Region.ready .any ops listed):=by
  intro listed listed2 z1 z2 hold heq
  refine ⟨fun i hi=>?_,fun k hk=>?_⟩
  · obtain ⟨hl,o,ho,hall⟩:=mem_ready.1 hi
    have hio:=(Array.getElem?_eq_some_iff.1 ho).1
    have hl1:l1.getD i true=false:=by
     cases hc:l1.getD i true with
     | false=>rfl
     | true=>rw [hold i hio hc] at hl;cases hl
    obtain ⟨k,hk,rfl⟩:=R.onto i hio hl1
    obtain ⟨o',o2,ho',ho2,_,_,_,bw⟩:=R.edge k hk
    rw [ho] at ho'
    injection ho' with ho'
    subst ho'
    refine ⟨k,hk,rfl,mem_ready.2 ⟨by rw [<- heq k hk];exact hl,o2,ho2,fun e2 he hb=>?_⟩⟩
    obtain ⟨hlt,e,he',hb',hon⟩:=bw e2 he hb
    have:=hall e he' hb'
    rw [<- hon] at this
    have h3:=heq e2.on hlt
    rw [gd listed _ (by rw [z1];exact (R.lt _ hlt).1),this] at h3
    rw [<- gd listed2 _ (by rw [z2,<- R.size2];exact hlt)]
    exact h3.symm
  · obtain ⟨hl,o2,ho2,hall⟩:=mem_ready.1 hk
    have hks:k<s.length:=by rw [R.size2];exact (Array.getElem?_eq_some_iff.1 ho2).1
    obtain ⟨o,o2',ho,ho2',_,_,fw,_⟩:=R.edge k hks
    rw [ho2] at ho2'
    injection ho2' with ho2'
    subst ho2'
    refine mem_ready.2 ⟨by rw [heq k hks];exact hl,o,ho,fun e he hb=>?_⟩
    rcases fw e he hb with q | ⟨e2,he2,hb2,hlt,hon⟩
    · have hlt:e.on<ops.size:=by
       rcases Nat.lt_or_ge e.on l1.size with h | h
       · rw [R.size1] at h;exact h
       · simp [Nat.not_lt.2 h] at q
      rw [<- gd listed _ (by rw [z1];exact hlt)]
      exact hold _ hlt (by rw [gd l1 _ (by rw [R.size1];exact hlt)];exact q)
    · have:=hall e2 he2 hb2
      rw [<- hon,<- gd listed _ (by rw [z1];exact (R.lt _ hlt).1),heq _ hlt,gd listed2 _ (by rw [z2,<- R.size2];exact hlt)]
      exact this
 intro fuel
 induction fuel with
 | zero =>
   intro listed listed2 a w z1 z2 hold heq h
   obtain ⟨r1,r2⟩:=rdy listed listed2 z1 z2 hold heq
   refine ⟨List.eq_nil_iff_forall_not_mem.2 fun i hi=>?_,h.2⟩
   obtain ⟨k,_,_,hk⟩:=r1 i hi
   have:=h.1
   rw [this] at hk
   cases hk
 | succ fuel ih =>
   intro listed listed2 a w z1 z2 hold heq h
   obtain ⟨r1,r2⟩:=rdy listed listed2 z1 z2 hold heq
   refine ⟨fun h0=>h.1 (List.eq_nil_iff_forall_not_mem.2 fun k hk=>?_),fun i hi=>?_⟩
   · have:=r2 k hk
     rw [h0] at this
     cases this
   · obtain ⟨k,hk,rfl,hk2⟩:=r1 i hi
     have h2:=h.2 k hk2
     obtain ⟨o,o2,ho,ho2,g1,g2,_,_⟩:=R.edge k hk
     obtain ⟨e1,e2,e3⟩:=hsame k o o2 hk ho ho2
     unfold wpOp at h2 ⊢
     simp only [ho2,ho] at h2 ⊢
     have w1:Region.wanted o (yielded ops a.tmps)=true:=by simp [Region.wanted,g1]
     have w2:Region.wanted o2 (yielded ops2 a.tmps)=true:=by simp [Region.wanted,g2]
     rw [if_pos w2] at h2
     rw [if_pos w1]
     refine h2.imp (fun h2=>M7 e1 e2 e3 (Oper.wp_mono (fun a' w' h3=>?_) h2)) (fun h2=>⟨DR e1 e2 e3 h2.1,h2.2⟩)
     refine ih _ _ a' w' (by simpa using z1) (by simpa using z2) (fun i hi hl=>?_) (fun m hm=>?_) h3
     · by_cases q:i=s.getD k 0
       · subst q
         simp [z1]
       · rw [getD_set_ne true (Ne.symm q)]
         exact hold i hi hl
     · by_cases q:m=k
       · subst q
         have b1:=(R.lt m hm).1
         have b2:m<ops2.size:=by rw [<- R.size2];exact hm
         simp [z1,z2,b2]
       · have q2:s.getD k 0≠s.getD m 0:=fun e=>q (R.inj k m hk hm e).symm
         rw [getD_set_ne true q2,getD_set_ne true (Ne.symm q)]
         exact heq m hm
theorem DS {P:Program}{ops:Array Oper}{Q:Exit->Act->World->Prop}{i:Nat} (d:Nat) {oi:Oper}{v:Value}{fuel:Nat}{listed:Array Bool}{a:Act}{w:World} (hi:ops[i]?=some oi) (hd:oi.dst=some d)
 (hs:Region.noSelect ops=true) (hf:Region.free .any ops listed i=true) (hr:(Region.ready .any ops listed).contains i=true)
 (hQ:∀ c a w,Q (.panic c) (a.put oi.dst v) w->Q (.panic c) a w) (hy:Yields P ops oi v a)
 (h:wpAny P .any ops Q fuel (listed.setIfInBounds i true) (a.put (some d) v) w):wpAny P .any ops Q (fuel+1) listed a w :=
 wpAny_take hi hs hf hr hQ hy (by rw [hd];exact h)
theorem SB {ops ops2:Array Oper}{s:List Nat} (h:(List.range s.length).map (fun k=>(ops[s.getD k 0]?).map V5)=(List.range s.length).map (fun k=>(ops2[k]?).map V5)) :
 ∀ k o o2,k<s.length->ops[s.getD k 0]?=some o->ops2[k]?=some o2->o2.op=o.op/\o2.dst=o.dst/\o2.type=o.type:=by
 intro k o o2 hk ho ho2
 have h2:=congrArg (fun l=>l[k]?) h
 simp only [List.getElem?_map,List.getElem?_range hk,Option.map_some,ho,ho2,Option.some.injEq] at h2
 unfold V5 at h2
 simp only [Prod.mk.injEq] at h2
 exact ⟨h2.1.symm,h2.2.1.symm,h2.2.2.symm⟩
theorem aS {w w':World}{g:Nat} (h:Ext w w') (hg:w.heap.size<=g) (cs:Array Value):Ext w (w'.setRow g cs):=below_setRow h hg cs
theorem Gb.setRow (g:Nat) (W:World) (cs:Array Value):Gb g W (W.setRow g cs):=⟨rfl,rfl,rfl,by simp,fun k hk hne=>setRow_other W g k cs (fun q=>hne (by rw [q]))⟩
theorem dC {w:World}{g k:Nat}{cs:Array Value} (h:k≠g):(w.setRow g cs).heap[k]?=w.heap[k]?:=setRow_other w g k cs h
theorem M8 {w wr:World}{B:Nat} (e:Ext w wr) (h1:w.heap.size<=B) (h2:B<=wr.heap.size):∃ w0:World,w0.heap.size=B/\Ext w0 wr/\Ext w w0:=by
 have hs:(wr.heap.extract 0 B).size=B:=by simp;omega
 have hk:∀ k,k<B->(wr.heap.extract 0 B)[k]?=wr.heap[k]?:=fun k hk=>by
  rw [Array.getElem?_extract]
  simp
  intro q
  omega
 exact ⟨{ wr with heap:=wr.heap.extract 0 B },hs,⟨rfl,rfl,rfl,by show (wr.heap.extract 0 B).size<=_;omega,fun k q=>(hk k (by rw [<- hs];exact q)).symm⟩,
  ⟨e.os,e.tape,e.output,by show _<=(wr.heap.extract 0 B).size;omega,fun k q=>(hk k (by omega)).trans (e.block k q)⟩⟩
section
variable {P:Program}{ty t:TypeId}{w:World}{g:Nat}{old cells:Array Value}
theorem dQ (hg:w.heap[g]?=some (.cells old t (0,0))) (hi:(P.info? ty).map (·.size)=some cells.size) (ho:old.size=cells.size) (h1:cells.all (·.oneCell')=true) :
 (Instr.storeAt ty (.pointer (some ⟨g,0,none⟩)) (.agg cells)).run P w=.ok () (w.setRow g cells):=by
 simp only [Instr.storeAt,Instr.sureAddr,Sem.run_bind,Sem.run_pure,Result.andThen_ok,run_storeVar_row w g t ty old cells hg hi ho h1]
theorem aL {ops:Array Oper}{rest:List Oper}{o:Oper}{a:Act}{w:World}{Q:Exit->Act->World->Prop} (hgd:o.guard=none) (ty:TypeId) (x y:Operand) (ho:o.op=.store ty x y)
 (hd:o.dst=none) (g:Nat) (cells:Array Value) (hx:a.eval x=.pointer (some ⟨g,0,none⟩)) (hy:a.eval y=.agg cells)
 (t:TypeId) (old:Array Value) (hg:w.heap[g]?=some (.cells old t (0,0))) (hi:(P.info? ty).map (·.size)=some cells.size)
 (hold:old.size=cells.size) (h1:cells.all (·.oneCell')=true)
 (h:wpList P ops Q rest a (w.setRow g cells)):wpList P ops Q (o::rest) a w :=
 wpList_store_row hgd ty x y ho g cells hx hy t old hg hi hold h1 (by rw [hd];exact h)
theorem aX (hg:w.heap[g]?=some (.cells old t (0,0))):(w.setRow g cells).heap[g]?=some (.cells cells t (0,0)):=setRow_heap w g old cells t (0,0) hg
end
def bQ (w:World) (B:Nat) (e:TypeId) (k:Nat) (v:Value) (xs:List Value):Prop :=
 RdK w k v xs/\∀ A n c,v=.slice A n c->0<n->∃ b o,A=some ⟨b,o,none⟩/\(b<B \/ ∃ cs fr,w.heap[b]?=some (.cells cs e fr))
theorem aJ.safe {w:World}{B0:Nat}{e:TypeId}{k:Nat}{v:Value}{xs:List Value} (h:aJ w B0 e k v xs) (B:Nat):bQ w B e k v xs:=by
 refine ⟨h.rd,fun A n c hv hn=>?_⟩
 obtain ⟨A',n',c',rfl,_,⟨h1,h2⟩ | ⟨g,cur,rfl,_,hg,_⟩⟩:=h
 · injection hv with e1 e2 e3
   omega
 · injection hv with e1 e2 e3
   exact ⟨g,0,e1.symm,.inr ⟨cur,_,hg⟩⟩
theorem RdK.safe {w:World}{B:Nat}{e:TypeId}{k:Nat}{v:Value}{xs:List Value} (h:RdK w k v xs) (hk:0<k) (hB:w.heap.size<=B):bQ w B e k v xs:=by
 refine ⟨h,fun A n c hv hn=>?_⟩
 obtain ⟨A',n',c',rfl,hl,_,_,hc⟩:=h
 injection hv with e1 e2 e3
 subst e1 e2 e3
 obtain ⟨b,o,rfl,hcell⟩:=hc hn
 have h0:0<xs.length:=by rw [<- hl];exact Nat.mul_pos hn hk
 have:=World.block_lt_of_cell? w _ (hcell 0 _ (YL h0))
 exact ⟨b,o,rfl,.inl (YX this hB)⟩
theorem bQ.rd {w:World}{B:Nat}{e:TypeId}{k:Nat}{v:Value}{xs:List Value} (h:bQ w B e k v xs):RdK w k v xs:=h.1
theorem bQ.mono {w:World}{B B':Nat}{e:TypeId}{k:Nat}{v:Value}{xs:List Value} (h:bQ w B e k v xs) (hB:B<=B'):bQ w B' e k v xs :=
 ⟨h.1,fun A n c hv hn=>by
   obtain ⟨b,o,h1,h2⟩:=h.2 A n c hv hn
   exact ⟨b,o,h1,h2.imp (fun q=>YX q hB) id⟩⟩
theorem bQ.ext {w w':World}{B:Nat}{e:TypeId}{k:Nat}{v:Value}{xs:List Value} (h:bQ w B e k v xs) (x:Ext w w'):bQ w' B e k v xs :=
 ⟨h.1.ext x,fun A n c hv hn=>by
   obtain ⟨b,o,h1,h2⟩:=h.2 A n c hv hn
   refine ⟨b,o,h1,h2.imp id fun ⟨cs,fr,q⟩=>⟨cs,fr,(x.block b (aA q)).trans q⟩⟩⟩
structure RtS (T:TypeId) (B:Nat) (w w':World):Prop where
 os:w'.os=w.os
 tape:w'.tape=w.tape
 output:w'.output=w.output
 size:w.heap.size<=w'.heap.size
 block:∀ k,k<w.heap.size->w'.heap[k]?=w.heap[k]? \/ (B<=k/\∃ cs cs' fr,w.heap[k]?=some (.cells cs T fr)/\w'.heap[k]?=some (.cells cs' T fr)/\cs'.size=cs.size)
theorem RtS.refl (T:TypeId) (B:Nat) (w:World):RtS T B w w:=⟨rfl,rfl,rfl,YF _,fun _ _=>.inl rfl⟩
theorem RtS.tr {T:TypeId}{B:Nat}{a b c:World} (h:RtS T B a b) (h2:RtS T B b c):RtS T B a c :=
 ⟨h2.os.trans h.os,h2.tape.trans h.tape,h2.output.trans h.output,YO h.size h2.size,fun k hk=>by
   rcases h.block k hk with e1 | ⟨hB,cs,cs',fr,e1,e2,e3⟩
   · rcases h2.block k (YX hk h.size) with f1 | ⟨hB,cs,cs',fr,f1,f2,f3⟩
     · exact .inl (f1.trans e1)
     · exact .inr ⟨hB,cs,cs',fr,e1 ▸ f1,f2,f3⟩
   · rcases h2.block k (YX hk h.size) with f1 | ⟨_,ds,ds',gr,f1,f2,f3⟩
     · exact .inr ⟨hB,cs,cs',fr,e1,f1.trans e2,e3⟩
     · rw [e2] at f1
       injection f1 with f1
       injection f1 with f1 _ f4
       subst f1 f4
       exact .inr ⟨hB,cs,ds',fr,e1,f2,f3.trans e3⟩⟩
def RT (T:TypeId) (B:Nat):Gr.Rl:=⟨RtS T B,RtS.refl T B,fun h k=>h.tr k,fun h=>⟨h.os,h.tape,h.output,h.size,fun k hk=>.inl (h.block k hk)⟩⟩
theorem RtS.below {T:TypeId}{B:Nat}{w w':World} (h:RtS T B w w') (hB:B<=w.heap.size):Below B w w' :=
 ⟨h.os,h.tape,h.output,h.size,fun k hk=>(h.block k (YX hk hB)).resolve_right fun q=>by have:=q.1;omega⟩
theorem RtS.other {T e:TypeId}{B k:Nat}{w w':World}{cs:Array Value}{fr:Nat × Nat} (h:RtS T B w w') (hk:w.heap[k]?=some (.cells cs e fr)) (he:e≠T):w'.heap[k]?=some (.cells cs e fr):=by
 rcases h.block k (aA hk) with e1 | ⟨_,ds,_,gr,e1,_,_⟩
 · exact e1.trans hk
 · rw [hk] at e1
   injection e1 with e1
   injection e1 with _ e1
   exact absurd e1 he
theorem RtS.shape {T:TypeId}{B k:Nat}{w w':World}{cs:Array Value}{fr:Nat × Nat} (h:RtS T B w w') (hk:w.heap[k]?=some (.cells cs T fr)):∃ cs':Array Value,w'.heap[k]?=some (.cells cs' T fr)/\cs'.size=cs.size:=by
 rcases h.block k (aA hk) with e1 | ⟨_,ds,ds',gr,e1,e2,e3⟩
 · exact ⟨cs,e1.trans hk,rfl⟩
 · rw [hk] at e1
   injection e1 with e1
   injection e1 with e1 _ e4
   subst e1 e4
   exact ⟨ds',e2,e3⟩
theorem RtS.set {T:TypeId}{B g:Nat}{w:World}{cs:Array Value}{fr:Nat × Nat} (hg:w.heap[g]?=some (.cells cs T fr)) (hB:B<=g) (i:Nat) (v:Value):RtS T B w (w.setCell ⟨g,i,none⟩ v):=by
 have hb:=Gb.set g i w v
 refine ⟨hb.os,hb.tape,hb.output,hb.size,fun k hk=>?_⟩
 by_cases hkg:k=g
 · subst hkg
   exact .inr ⟨hB,cs,_,fr,hg,aF hg i v,by simp⟩
 · exact .inl (hb.block k hk (fun q=>hkg (by injection q)))
theorem bQ.rt {w w':World}{B:Nat}{e T:TypeId}{k:Nat}{v:Value}{xs:List Value} (h:bQ w B e k v xs) (he:e≠T) (r:RtS T B w w'):bQ w' B e k v xs:=by
 have key:∀ A n c,v=.slice A n c->0<n->∃ b o,A=some ⟨b,o,none⟩/\(b<w.heap.size->w'.heap[b]?=w.heap[b]?)/\(b<B \/ ∃ cs fr,w'.heap[b]?=some (.cells cs e fr)):=fun A n c hv hn=>by
  obtain ⟨b,o,h1,h2⟩:=h.2 A n c hv hn
  refine ⟨b,o,h1,?_⟩
  rcases h2 with h2 | ⟨cs,fr,h2⟩
  · exact ⟨fun hb=>(r.block b hb).resolve_right fun q=>by have:=q.1;omega,.inl h2⟩
  · have:=r.other h2 he
    exact ⟨fun _=>this.trans h2.symm,.inr ⟨cs,fr,this⟩⟩
 refine ⟨?_,fun A n c hv hn=>?_⟩
 · obtain ⟨A,n,c,rfl,hn,hnc,hcm,hc⟩:=h.1
   refine ⟨A,n,c,rfl,hn,hnc,hcm,fun h0=>?_⟩
   obtain ⟨b,o,rfl,hcell⟩:=hc h0
   obtain ⟨b',o',e1,e2,_⟩:=key _ n c rfl h0
   injection e1 with e1
   injection e1 with e1 e3
   subst e1 e3
   refine ⟨b,o,rfl,fun j u hu=>?_⟩
   have h1:=hcell j u hu
   have h2:=e2 (World.block_lt_of_cell? w _ h1)
   unfold World.cell? at h1 ⊢
   simp only at h1 ⊢
   rw [h2]
   exact h1
 · obtain ⟨b,o,h1,_,h2⟩:=key A n c hv hn
   exact ⟨b,o,h1,h2⟩
theorem bQ.set {w:World}{B g:Nat}{e T:TypeId}{k:Nat}{v:Value}{xs:List Value} (h:bQ w B e k v xs) {cs:Array Value}{fr:Nat × Nat} (hg:w.heap[g]?=some (.cells cs T fr)) (he:e≠T) (hB:B<=g) (i:Nat) (x:Value):bQ (w.setCell ⟨g,i,none⟩ x) B e k v xs :=
 h.rt he (RtS.set hg hB i x)
structure RgS (S:List Nat) (G:Nat->Prop) (w w':World):Prop where
 os:w'.os=w.os
 tape:w'.tape=w.tape
 output:w'.output=w.output
 size:w.heap.size<=w'.heap.size
 block:∀ k,k<w.heap.size->w'.heap[k]?=w.heap[k]? \/ (G k/\∃ T cs cs' fr,T ∈ S/\w.heap[k]?=some (.cells cs T fr)/\w'.heap[k]?=some (.cells cs' T fr)/\cs'.size=cs.size)
theorem RgS.refl (S:List Nat) (G:Nat->Prop) (w:World):RgS S G w w:=⟨rfl,rfl,rfl,YF _,fun _ _=>.inl rfl⟩
theorem RgS.tr {S:List Nat}{G:Nat->Prop}{a b c:World} (h:RgS S G a b) (h2:RgS S G b c):RgS S G a c :=
 ⟨h2.os.trans h.os,h2.tape.trans h.tape,h2.output.trans h.output,YO h.size h2.size,fun k hk=>by
   rcases h.block k hk with e1 | ⟨hB,T,cs,cs',fr,hT,e1,e2,e3⟩
   · rcases h2.block k (YX hk h.size) with f1 | ⟨hB,T,cs,cs',fr,hT,f1,f2,f3⟩
     · exact .inl (f1.trans e1)
     · exact .inr ⟨hB,T,cs,cs',fr,hT,e1 ▸ f1,f2,f3⟩
   · rcases h2.block k (YX hk h.size) with f1 | ⟨_,T',ds,ds',gr,_,f1,f2,f3⟩
     · exact .inr ⟨hB,T,cs,cs',fr,hT,e1,f1.trans e2,e3⟩
     · rw [e2] at f1
       injection f1 with f1
       injection f1 with f1 f5 f4
       subst f1 f4 f5
       exact .inr ⟨hB,T,cs,ds',fr,hT,e1,f2,f3.trans e3⟩⟩
theorem RgS.sub {S S':List Nat}{G G':Nat->Prop}{w w':World} (h:RgS S G w w') (hS:∀ T ∈ S,T ∈ S') (hG:∀ k,G k->G' k):RgS S' G' w w' :=
 ⟨h.os,h.tape,h.output,h.size,fun k hk=>(h.block k hk).imp id fun ⟨hB,T,cs,cs',fr,hT,e1,e2,e3⟩=>⟨hG k hB,T,cs,cs',fr,hS T hT,e1,e2,e3⟩⟩
def RG (S:List Nat) (G:Nat->Prop):Gt.Rl:=⟨RgS S G,fun T w w'=>T ∈ S/\RgS [T] G w w',RgS.refl S G,fun h k=>h.tr k,fun h=>⟨h.os,h.tape,h.output,h.size,fun k hk=>.inl (h.block k hk)⟩,fun h=>h.2.sub (fun T hT=>by rw [List.mem_singleton.1 hT];exact h.1) (fun _ h=>h),Ext,id,fun h=>⟨h.os,h.tape,h.output,h.size,fun k hk=>.inl (h.block k hk)⟩⟩
theorem RgS.below {S:List Nat}{G:Nat->Prop}{B:Nat}{w w':World} (h:RgS S G w w') (hG:∀ k,G k->B<=k) (hB:B<=w.heap.size):Below B w w' :=
 ⟨h.os,h.tape,h.output,h.size,fun k hk=>(h.block k (YX hk hB)).resolve_right fun q=>by have:=hG k q.1;omega⟩
theorem RgS.keep {S:List Nat}{G:Nat->Prop}{k:Nat}{w w':World}{o:Obj} (h:RgS S G w w') (hk:w.heap[k]?=some o) (hG:¬ G k):w'.heap[k]?=some o :=
 ((h.block k (Array.getElem?_eq_some_iff.1 hk).1).resolve_right fun q=>hG q.1).trans hk
theorem RgS.other {S:List Nat}{G:Nat->Prop}{e:TypeId}{k:Nat}{w w':World}{cs:Array Value}{fr:Nat × Nat} (h:RgS S G w w') (hk:w.heap[k]?=some (.cells cs e fr)) (he:e ∉ S):w'.heap[k]?=some (.cells cs e fr):=by
 rcases h.block k (aA hk) with e1 | ⟨_,T,ds,_,gr,hT,e1,_,_⟩
 · exact e1.trans hk
 · rw [hk] at e1
   injection e1 with e1
   injection e1 with _ e1
   exact absurd (e1 ▸ hT) he
theorem RgS.shape {S:List Nat}{G:Nat->Prop}{T:TypeId}{k:Nat}{w w':World}{cs:Array Value}{fr:Nat × Nat} (h:RgS S G w w') (hk:w.heap[k]?=some (.cells cs T fr)):∃ cs':Array Value,w'.heap[k]?=some (.cells cs' T fr)/\cs'.size=cs.size:=by
 rcases h.block k (aA hk) with e1 | ⟨_,T',ds,ds',gr,_,e1,e2,e3⟩
 · exact ⟨cs,e1.trans hk,rfl⟩
 · rw [hk] at e1
   injection e1 with e1
   injection e1 with e1 e5 e4
   subst e1 e4 e5
   exact ⟨ds',e2,e3⟩
theorem RgS.set {S:List Nat}{G:Nat->Prop}{T:TypeId}{g:Nat}{w:World}{cs:Array Value}{fr:Nat × Nat} (hg:w.heap[g]?=some (.cells cs T fr)) (hT:T ∈ S) (hG:G g) (i:Nat) (v:Value):RgS S G w (w.setCell ⟨g,i,none⟩ v):=by
 have hb:=Gb.set g i w v
 refine ⟨hb.os,hb.tape,hb.output,hb.size,fun k hk=>?_⟩
 by_cases hkg:k=g
 · subst hkg
   exact .inr ⟨hG,T,cs,_,fr,hT,hg,aF hg i v,by simp⟩
 · exact .inl (hb.block k hk (fun q=>hkg (by injection q)))
theorem bQ.rg {w w':World}{B1:Nat}{e:TypeId}{S:List Nat}{G:Nat->Prop}{k:Nat}{v:Value}{xs:List Value} (h:bQ w B1 e k v xs) (he:e ∉ S) (hB:∀ k,G k->B1<=k) (r:RgS S G w w'):bQ w' B1 e k v xs:=by
 have key:∀ A n c,v=.slice A n c->0<n->∃ b o,A=some ⟨b,o,none⟩/\(b<w.heap.size->w'.heap[b]?=w.heap[b]?)/\(b<B1 \/ ∃ cs fr,w'.heap[b]?=some (.cells cs e fr)):=fun A n c hv hn=>by
  obtain ⟨b,o,h1,h2⟩:=h.2 A n c hv hn
  refine ⟨b,o,h1,?_⟩
  rcases h2 with h2 | ⟨cs,fr,h2⟩
  · exact ⟨fun hb=>(r.block b hb).resolve_right fun q=>by have:=hB b q.1;omega,.inl h2⟩
  · have:=r.other h2 he
    exact ⟨fun _=>this.trans h2.symm,.inr ⟨cs,fr,this⟩⟩
 refine ⟨?_,fun A n c hv hn=>?_⟩
 · obtain ⟨A,n,c,rfl,hn,hnc,hcm,hc⟩:=h.1
   refine ⟨A,n,c,rfl,hn,hnc,hcm,fun h0=>?_⟩
   obtain ⟨b,o,rfl,hcell⟩:=hc h0
   obtain ⟨b',o',e1,e2,_⟩:=key _ n c rfl h0
   injection e1 with e1
   injection e1 with e1 e3
   subst e1 e3
   refine ⟨b,o,rfl,fun j u hu=>?_⟩
   have h1:=hcell j u hu
   have h2:=e2 (World.block_lt_of_cell? w _ h1)
   unfold World.cell? at h1 ⊢
   simp only at h1 ⊢
   rw [h2]
   exact h1
 · obtain ⟨b,o,h1,_,h2⟩:=key A n c hv hn
   exact ⟨b,o,h1,h2⟩
def pM (w:World) (g:Nat) (T:TypeId) (n:Nat):Prop:=∃ cs:Array Value,w.heap[g]?=some (.cells cs T (0,0))/\cs.size=n
theorem pM.rg {w w':World}{g n:Nat}{G:Nat->Prop}{T:TypeId}{S:List Nat} (h:pM w g T n) (r:RgS S G w w'):pM w' g T n:=by
 obtain ⟨cs,h1,h2⟩:=h
 obtain ⟨cs',h3,h4⟩:=r.shape h1
 exact ⟨cs',h3,h4.trans h2⟩
theorem pM.ext {w w':World}{g n:Nat}{T:TypeId} (h:pM w g T n) (e:Ext w w'):pM w' g T n:=by
 obtain ⟨cs,h1,h2⟩:=h
 exact ⟨cs,(e.block g (aA h1)).trans h1,h2⟩
def OO (w:World) (g:Nat):Nat->List Value->World
 | _,[]=>w
 | i,v::vs=>OO (w.setCell ⟨g,i,none⟩ v) g (i+1) vs
theorem lE:∀ (vs pre post:List Value) (w:World) (g:Nat) (cs:List Value) (T:TypeId) (fr:Nat × Nat),w.heap[g]?=some (.cells (pre++cs++post).toArray T fr)->cs.length=vs.length->(OO w g pre.length vs).heap[g]?=some (.cells (pre++vs++post).toArray T fr)
 | [],pre,post,w,g,cs,T,fr,h,hl=>by
   obtain rfl:cs=[]:=ZB hl
   exact h
 | v::vs,pre,post,w,g,c::cs,T,fr,h,hl=>by
   have h1:=aF h pre.length v
   have h2:((pre++c::cs++post).toArray.setIfInBounds pre.length v)=((pre++[v])++cs++post).toArray:=by
    rw [YG]
    congr 1
    rw [YW,List.set_append_right _ _ (YF _),Nat.sub_self]
    simp
   rw [h2] at h1
   have h3:=lE vs (pre++[v]) post (w.setCell ⟨g,pre.length,none⟩ v) g cs T fr h1 (by simpa using hl)
   rw [YJ] at h3
   rw [YW pre [v] vs] at h3
   exact h3
structure TP where
 ho:List UInt8
 key:Int
 rights:Int
 fr:Int
 to:Int
structure CH where
 ho:List UInt8
 key:Int
 role:Int
 rights:Int
 fr:Int
 to:Int
structure TR where
 ps:List TP
 dt:Int
def ptK (p:TP):Int :=
 if ¬ KC p.ho then 60 else if cJ p.key=false then 10 else if p.rights<0 \/ 65535<p.rights then 62 else if ¬ OM p.fr p.to then 8 else 0
def V7:List TP->Int
 | []=>0
 | p::l=>if ptK p=0 then V7 l else ptK p
def Y9:List TP->Bool
 | [p,q]=>decide (p.ho=q.ho)
 | _=>false
def vdK (t:TR):Int :=
 if t.ps.length<1 \/ 2<t.ps.length then 72 else if V7 t.ps≠0 then V7 t.ps else if Y9 t.ps=true then 15 else if t.dt<0 \/ 73048<t.dt then 8 else 0
def SC (b r:Int):Bool:=if b=1 then decide (r≠4) else if b=2 \/ b=3 then decide (r=4) else false
section
variable {t:TR}{c:CH}{x:TC} (h1:vdK t=0)
include h1
variable (h2:c.ho≠[])
include h2
variable (h3:ckT x=0)
include h3
variable (h4:x.au=c.ho)
include h4
variable (h5:vfB c.key x=true)
include h5
variable (h6:SC c.role x.role=true)
include h6
variable (h7:¬ (c.to<t.dt \/ x.to<t.dt))
include h7
end
end Go.Proofs.YtkjplpmogfmhkaaGreatDoor
