/- Parts Mb Mc Uc Md Ug of the proof. -/
import Derived.Test.YtkjplpmogfmhkaaGreatDoorIay
import Derived.Test.YtkjplpmogfmhkaaGreatDoorIaw
import Derived.Test.YtkjplpmogfmhkaaGreatDoorIar
namespace Go.Proofs.YtkjplpmogfmhkaaGreatDoor
open Go.RowKit
set_option linter.unusedVariables false
set_option maxRecDepth 100000
theorem qD {c:NC} (h:rtN c=true):inB 0 1073741789 c.e=true∧inB 0 1073741789 c.s=true:=by
 unfold rtN vfN at h
 split at h
 · split at h
   · unfold jT at h
     simp only [Bool.and_eq_true] at h
     exact ⟨h.1.1.2,h.1.2⟩
   · cases h
 · cases h
def lK (a:MA) (k:Nat):List Nd:=[aY 19 a.st,aY 130 (be4 a.num),aY 134 (be3 a.day)]++(a.roots.take k).map eC
theorem vN (a:MA):lK a 0=[aY 19 a.st,aY 130 (be4 a.num),aY 134 (be3 a.day)]:=by simp [lK]
theorem vO (a:MA) {k:Nat}{c:NC} (h:a.roots[k]?=some c):lK a (k+1)=lK a k++[eC c]:=by
 unfold lK
 rw [iK h,List.map_append,UE]
 rfl
theorem nO (a:MA) {k:Nat} (h:k≤a.roots.length):(lK a k).length=k+3:=by
 simp [lK,Nat.min_eq_left h]
theorem xV (a:MA):Nd.mk 49 [] (lK a a.roots.length)=eW a:=by
 unfold lK eW
 rw [List.take_length]
 rfl
structure NdO (w wr:World) (X:Nat→Prop) (A:Option Addr) (n c:Nat) (ts:List Nd):Prop where
 ext:Ext w wr
 own:∃ xs,aJ wr w.heap.size 180 3 (.slice A n c) xs∧cF (fun b=>X b∧aK (.slice A n c)≠some b) 2 wr xs ts
section
variable {w wr wx w8:World}{X:Nat→Prop}{A A8:Option Addr}{n c n8 c8 rb:Nat}{ts:List Nd}
theorem NdO.len (h:NdO w wr X A n c ts):n=ts.length:=by
 obtain ⟨xs,⟨A',n',c',e,hn,_⟩,hx⟩:=h.own
 injection e with e1 e2 e3
 have:=hx.1
 omega
theorem NdO.nd (h:NdO w wr X A n c ts):NdG 0 3 (.mk 49 [] ts) (.agg #[.int .i64 49,.slice none 0 0,.slice A n c]) wr:=by
 obtain ⟨xs,O,hx⟩:=h.own
 exact ⟨_,_,_,_,_,_,rfl,RdS.nil _,gX.mk O hx (fun b _=>U4 _) (fun b _=>U4 _)⟩
theorem GG {xs:List Value}{t:Nd}{A1 A2:Option Addr}{n1 c1 n2 c2:Nat} (O:aJ wr w.heap.size 180 3 (.slice A n c) xs) (hN:cF (fun b=>X b∧aK (.slice A n c)≠some b) 2 wr xs ts) (e:Ext wr wx)
 (hu:NdG wr.heap.size 2 t (.agg #[.int .i64 t.tag,.slice A1 n1 c1,.slice A2 n2 c2]) wx) (hX:∀ b,wr.heap.size≤b→X b)
 (o8:aJ w8 w.heap.size 180 3 (.slice A8 n8 c8) (xs++[.int .i64 t.tag,.slice A1 n1 c1,.slice A2 n2 c2])) (x8:Ext w w8) (g8:wx.grownBy w8 (aK (.slice A n c))) (f8:∀ r,aK (.slice A8 n8 c8)=some r→aK (.slice A n c)=some r ∨ wx.heap.size≤r):NdO w w8 X A8 n8 c8 (ts++[t]):=by
 obtain ⟨B1,m1,k1,B2,m2,k2,q,r1,r2⟩:=hu
 injection q with q
 injection q with q
 simp only [List.cons.injEq,Value.slice.injEq,and_true,true_and] at q
 obtain ⟨⟨rfl,rfl,rfl⟩,rfl,rfl,rfl⟩:=q
 have hs:=e.size
 have old:∀ b,(X b∧aK (.slice A n c)≠some b)→b<wr.heap.size→(X b∧aK (.slice A8 n8 c8)≠some b)∧w8.heap[b]?=wr.heap[b]?:=fun b hb hl =>
  ⟨⟨hb.1,fun q=>(f8 b q).elim (fun q=>hb.2 q) (fun q=>by omega)⟩,(g8.block b (by omega) (fun q=>hb.2 q.symm)).trans (e.block b hl)⟩
 have new:∀ b,wr.heap.size≤b→b<wx.heap.size→(X b∧aK (.slice A8 n8 c8)≠some b)∧w8.heap[b]?=wx.heap[b]?:=fun b hb hl=>by
  have hne:aK (.slice A n c)≠some b:=fun q=>by have:=pO O b q;omega
  exact ⟨⟨hX b hb,fun q=>(f8 b q).elim hne (fun q=>by omega)⟩,g8.block b hl (fun q=>hne q.symm)⟩
 exact ⟨x8,_,o8,(hN.map old).snoc (r1.map new) (r2.map new)⟩
theorem NdO.poke (h:NdO w wr (fun b=>b≠rb) A n c ts) (hr:aK (.slice A n c)≠some rb) (hg:w.heap.size≤rb) (i:Nat) (v:Value):NdO w (wr.setCell ⟨rb,i,none⟩ v) (fun b=>b≠rb) A n c ts:=by
 obtain ⟨xs,O,hx⟩:=h.own
 exact ⟨h.ext.setCell (p:=⟨rb,i,none⟩) hg _,xs,O.grown (Gb.set rb i wr v) (.inr hr),hx.map fun b hb _=>⟨hb,aV hb.1⟩⟩
structure BdI (w:World) (rb:Nat) (wr:World) (A:Option Addr) (n c:Nat) (ts:List Nd):Prop where
 nd:NdO w wr (fun b=>b≠rb) A n c ts
 ge:w.heap.size≤rb
 blk:C3 wr rb (.int .i64 49) (.slice none 0 0) (.slice A n c)
 row:aK (.slice A n c)≠some rb
theorem BdI.app {xs:List Value}{t:Nd}{A1 A2:Option Addr}{n1 c1 n2 c2:Nat} (h:BdI w rb wr A n c ts) (O:aJ wr w.heap.size 180 3 (.slice A n c) xs) (hN:cF (fun b=>b≠rb∧aK (.slice A n c)≠some b) 2 wr xs ts) (e:Ext wr wx)
 (hu:NdG wr.heap.size 2 t (.agg #[.int .i64 t.tag,.slice A1 n1 c1,.slice A2 n2 c2]) wx)
 (o8:aJ w8 w.heap.size 180 3 (.slice A8 n8 c8) (xs++[.int .i64 t.tag,.slice A1 n1 c1,.slice A2 n2 c2])) (x8:Ext w w8) (g8:wx.grownBy w8 (aK (.slice A n c))) (f8:∀ r,aK (.slice A8 n8 c8)=some r→aK (.slice A n c)=some r ∨ wx.heap.size≤r) :
 w8.cell? ⟨rb,2,none⟩=some (.slice A n c)∧w8.frozen? ⟨rb,2,none⟩=false∧rb<w8.heap.size∧BdI w rb (w8.setCell ⟨rb,2,none⟩ (.slice A8 n8 c8)) A8 n8 c8 (ts++[t]):=by
 have hl:=h.blk.lt
 have hs:=e.size
 have hC:C3 w8 rb (.int .i64 49) (.slice none 0 0) (.slice A n c):=(g8.block rb (by omega) (fun q=>h.row q.symm)).trans (h.blk.ex e)
 have hr:aK (.slice A8 n8 c8)≠some rb:=fun q=>(f8 rb q).elim h.row (fun q=>by omega)
 exact ⟨hC.cells.2.2.1,hC.cells.2.2.2.2.2,hC.lt,(GG O hN e hu (fun b hb=>by omega) o8 x8 g8 f8).poke hr h.ge 2 _,h.ge,hC.set2 _,hr⟩
end
theorem PB (x:Int):iU 3 [x]=be3 x:=by show beN 3 x++[]=_;rw [List.append_nil,sC]
def MJ (B:Nat) (ts:List Nd):aF:=fun v w=>∃ (g:Nat) (cs:Array Value),v=.slice (some ⟨g,0,none⟩) ts.length ts.length∧B≤g∧w.heap[g]?=some (.cells cs 180 (0,0))∧cF (fun b=>B≤b∧b≠g) 2 w cs.toList ts
theorem sP (B:Nat) (ts:List Nd):bL (MJ B ts):=fun v w w' e ⟨g,cs,h1,h2,h3,h4⟩=>⟨g,cs,h1,h2,(e.block g (a9 h3)).trans h3,h4.map fun b hb hlt=>⟨hb,e.block b hlt⟩⟩
theorem CN {B:Nat} (W:World) (hB:B≤W.heap.size) {v0 v1 v2:Value}{t0 t1 t2:Nd} (h0:NdG B 2 t0 v0 W) (h1:NdG B 2 t1 v1 W) (h2:NdG B 2 t2 v2 W):∃ v' w'',(Instr.buildSlice 178 3 [(0,v0),(1,v1),(2,v2)].toArray).run Tryz.prog W=.ok v' w''∧Ext W w''∧MJ B [t0,t1,t2] v' w'':=by
 obtain ⟨a0,n0,c0,b0,m0,d0,rfl,r0,k0⟩:=h0
 obtain ⟨a1,n1,c1,b1,m1,d1,rfl,r1,k1⟩:=h1
 obtain ⟨a2,n2,c2,b2,m2,d2,rfl,r2,k2⟩:=h2
 have e:Ext W (W.alloc (.cells #[.int .i64 t0.tag,.slice a0 n0 c0,.slice b0 m0 d0,.int .i64 t1.tag,.slice a1 n1 c1,.slice b1 m1 d1,.int .i64 t2.tag,.slice a2 n2 c2,.slice b2 m2 d2] 180)):=(Below.refl _ _).alloc (TM _) _
 exact ⟨_,_,P6 W t0.tag a0 b0 n0 c0 m0 d0 t1.tag a1 b1 n1 c1 m1 d1 t2.tag a2 b2 n2 c2 m2 d2,e,_,_,rfl,hB,aB W _,((((cF.nil _ 2 W).snoc r0 k0).snoc r1 k1).snoc r2 k2).map fun b hb hlt=>⟨⟨hb,by omega⟩,e.block b hlt⟩⟩
def NdH (B:Nat) (ts:List Nd):aF:=fun v w=>∃ u,v=.agg #[.int .i64 49,.slice none 0 0,u]∧MJ B ts u w
theorem F1 (B:Nat) (ts:List Nd):bL (NdH B ts):=fun v w w' e ⟨u,h1,h2⟩=>⟨u,h1,sP _ _ _ _ _ e h2⟩
theorem PC {B:Nat} (W:World) {v:Value}{ts:List Nd} (h:MJ B ts v W):∃ v' w'',(Instr.build 180 [(0,.int .i64 49),(2,v)].toArray).run Tryz.prog W=.ok v' w''∧Ext W w''∧NdH B ts v' w'':=by
 obtain ⟨g,cs,rfl,h⟩:=h
 exact ⟨_,_,pN W 49 _ _ _,Below.refl _ _,_,rfl,g,cs,rfl,h⟩
theorem NdF.own {B:Nat}{ts:List Nd}{g:Nat}{cs:Array Value}{w:World} (hb:B≤g) (hg:w.heap[g]?=some (.cells cs 180 (0,0))) (hl:cs.toList.length=ts.length*3) (ht:ts.length≤1000):aJ w B 180 3 (.slice (some ⟨g,0,none⟩) ts.length ts.length) cs.toList:=by
 exact ⟨_,_,_,rfl,hl.symm,.inr ⟨g,cs,rfl,hb,hg,TM _,by unfold maxLen;omega,by rw [← Array.length_toList];exact hl,by rw [← hl];exact List.take_length⟩⟩
theorem CO {B d:Nat} (W:World) (hB:B≤W.heap.size) {v0:Value}{t0:Nd} (h0:NdG B d t0 v0 W):∃ v' w'',(Instr.buildSlice 178 1 [(0,v0)].toArray).run Tryz.prog W=.ok v' w''∧Ext W w''∧NdF B d [t0] v' w'':=by
 obtain ⟨a0,n0,c0,b0,m0,d0,rfl,r0,k0⟩:=h0
 have e:Ext W (W.alloc (.cells #[.int .i64 t0.tag,.slice a0 n0 c0,.slice b0 m0 d0] 180)):=(Below.refl _ _).alloc (TM _) _
 exact ⟨_,_,(by go_simp:(Instr.buildSlice 178 1 [(0,.agg #[.int .i64 t0.tag,.slice a0 n0 c0,.slice b0 m0 d0])].toArray).run Tryz.prog W=.ok (.slice (some ⟨W.heap.size,0,none⟩) 1 1) (W.alloc (.cells #[.int .i64 t0.tag,.slice a0 n0 c0,.slice b0 m0 d0] 180))),e,_,_,rfl,hB,aB W _,((cF.nil _ d W).snoc r0 k0).map fun b hb hlt=>⟨hb,e.block b hlt⟩⟩
def GC3 (B:Nat):aF:=fun v w=>∃ g,v=.pointer (some ⟨g,0,none⟩)∧B≤g∧C3 w g (.int .i64 0) (.slice none 0 0) (.slice none 0 0)
theorem F2 (B:Nat):bL (GC3 B):=fun v w w' e ⟨g,h1,h2,h3⟩=>⟨g,h1,h2,h3.ex e⟩
theorem CP (W:World):(Instr.alloc 180 true (.tuple #[])).run Tryz.prog W=.ok (.pointer (some ⟨W.heap.size,0,none⟩)) (W.alloc (.cells #[.int .i64 0,.slice none 0 0,.slice none 0 0] 180)):=by go_simp
section
open Go.Proofs.YtkjplpmogfmhkaaGreatDoor.Gd (cN)
variable {ops:Array Oper}{Q:Exit→Act→World→Prop}{w0:World}{R:Act→World→Prop}
theorem Gd.wpX_allocN3 {o:Oper}{rest:List Oper}{a:Act}{hs:List (Nat × aF)}{d:Nat} (B:Nat) (hB:∀ m:Lt w0,B≤m.1.heap.size) (hg:cN ops o a hs)
 (hd:o.dst=some d) (hz:Nat.blt d a.tmps.size=true) (ho:o.op=.alloc 180) (hin:(aQ o).all (fun t=>Nat.blt t a.tmps.size)=true)
 (hr:Gd.wpX Tryz.prog ops Q w0 R rest (a.put (some d) undef) ((d,GC3 B)::hs)):Gd.wpX Tryz.prog ops Q w0 R (o::rest) a hs :=
 Gd.dY hg (GC3 B) (F2 B) (fun _=>Instr.alloc 180 true (.tuple #[])) hd hz (by unfold aO;rw [ho]) hin (fun f=>by unfold execOp;simp only [ho])
  (fun m f hf=>⟨_,_,CP m.1,(Below.refl _ _).alloc (TM _) _,_,rfl,hB m,C3.new _ _ _ _⟩) hr
end
theorem MK {S S':Nat→Prop}{w w':World}{v:Value} (h:gX S 2 w v []):gX S' 2 w' v []:=by
 obtain ⟨A,n,c,h1,h2,h3,h4,_⟩:=h
 exact ⟨A,n,c,h1,h2,h3,h4,fun h0=>by rw [h2] at h0;cases h0⟩
theorem zG {S:Nat→Prop}{w:World}{xs:List Value}{ts:List Nd}{yb:Nat}{z:Int}{A B:Option Addr}{n c n' c':Nat} (h:cF S 2 w xs ts) (hk:∀ t ∈ ts,t.kids=[]) (hy:C3 w yb (.int .i64 z) (.slice A n c) (.slice B n' c')):cF (fun b=>S b∧b≠yb) 2 w xs ts :=
 ⟨h.1,fun i t ht=>by
   obtain ⟨A1,n1,c1,A2,n2,c2,e0,e1,e2,r1,r2⟩:=h.2 i t ht
   have hk:=hk t (UC ht)
   rw [hk] at r2
   exact ⟨A1,n1,c1,A2,n2,c2,e0,e1,e2,r1.avoid hy (fun b hb _ hne=>⟨hb,hne⟩),by rw [hk];exact MK r2⟩⟩
def PD (B:Nat) (ts:List Nd):aF:=fun v w=>∃ A n c xs,v=.slice A n c∧aJ w B 180 3 (.slice A n c) xs∧cF (fun b=>True∧aK (.slice A n c)≠some b) 2 w xs ts
theorem CQ (B:Nat) (ts:List Nd):bL (PD B ts):=fun v w w' e ⟨A,n,c,xs,h1,h2,h3⟩=>⟨A,n,c,xs,h1,h2.ext e,h3.map fun b hb hl=>⟨hb,e.block b hl⟩⟩
theorem CR {B:Nat}{W:World}{ty:TypeId}{v src:Value}{ts us:List Nd} (hB:B≤W.heap.size) (hx:NdF B 2 ts v W) (hy:NdF B 2 us src W) (h2:0<us.length) (hs:ts.length+us.length≤1000) :
 ∃ v' w'',(Builtin.append_ #[178,178] ty #[v,src]).run Tryz.prog W=.ok v' w''∧Ext W w''∧PD B (ts++us) v' w'':=by
 obtain ⟨i,z,ht,hi,hz,hsz,hby,hzs⟩:=DY
 obtain ⟨g,cs,rfl,hg,hb,hc⟩:=hx
 obtain ⟨g2,cs2,rfl,hg2,hb2,hc2⟩:=hy
 obtain ⟨v',w',k1,k2,k3⟩:=run_append_arg_grows (P:=Tryz.prog) W 178 ty 180 i z 3 56 ht hi hz hsz hby hzs (by decide) ⟨g,0,none⟩ ts.length ts.length cs.toList hc.1 (fun j u hu=>by rw [Addr.add_lit,UA,cell_of_row W g j cs _ (0,0) hb];simpa using hu) ⟨g2,0,none⟩ us.length us.length cs2.toList hc2.1 (fun j u hu=>by rw [Addr.add_lit,UA,cell_of_row W g2 j cs2 _ (0,0) hb2];simpa using hu) (by omega) (by unfold maxLen;omega) (by omega)
 have e:Ext W w':=⟨k3.os,k3.tape,k3.output,k3.size,fun k hk=>k3.block k hk (by simp)⟩
 have O:=jA (by decide) k2
 obtain ⟨A',n',c',rfl,_⟩:=id O
 exact ⟨_,w',k1,e,A',n',c',_,rfl,O.mono hB,(hc.append hc2).map fun b hb hlt=>⟨⟨trivial,fun q=>by have:=aT O b q;omega⟩,e.block b hlt⟩⟩
set_option maxHeartbeats 8000000 in
theorem JB (a:MA) (v:Value) (w:World) (hv:RdN w v a.roots) (hs:smL a.roots) (hg:smN a.sg) (ht:a.st.length≤maxLen) (E:dN w 1):Calls Tryz.prog 60 #[maV a v] w (FU w (byM a) (ckM a)):=by
 obtain ⟨wz,hwz,ez,TZ⟩:=jZ w a v
 have HC:=UP (fun W (e:Ext w W)=>oW a v W (RdK.ext hv e) hs hg ht (E.below e))
 have HTR:=UP (fun (c:NC) W (h:c ∈ a.roots) (q:ckN c=0) (r:rtN c=true)=>JA c W (hs c h) q (qD r).1 (qD r).2)
 obtain ⟨A,n,cp,rfl,hn,hnc,hcm,hel⟩:=hv.at_
 subst hn
 have HEL:=UP hel
 unfold maxLen at hcm
 have EZ:=UP ez
 have HZ:=UP TZ
 clear hv hs hg ht E hel ez TZ
 unfold maV aC
 go_enter Tryz.func60,Tryz.ntmps60
 go_upto_region 1 with fail
 rw [← hwz]
 clear hwz
 have HROW:=UP HZ.out.row
 go_wp2_with (refine wpList_load_row rfl 80 _ rfl w.heap.size rfl 80 (aC a (.slice A a.roots.length cp)).toArray (0,0) _ HROW.out Tryz.underlying80 rfl aP ?_)
 refine (HC.out wz EZ.out).mono ?_
 rintro e ww ⟨rfl,b1⟩
 have X1:=UP (EZ.out.tr b1)
 have T1:=UP (HZ.out.ext b1)
 clear b1 HZ EZ HROW HC
 by_cases hc:ckM a=0
 case neg =>
  have hb:(ckM a != 0)=true:=by simpa using hc
  have HB:=UP (show byM a=[] from if_neg hc)
  clear hc
  go_wp2_with fail
  go_ret2
  rw [HB.out]
  exact ⟨_,_,_,rfl,(show _=_ from rfl),Rd.nil_ _,X1.out⟩
 have HK:=UP hc
 have HB:=UP (show byM a=hU a from if_pos hc)
 obtain ⟨hst,⟨num0,num1⟩,⟨day0,day1⟩,hrts,_⟩:=EX hc
 have sa:a.st.length≤4096:=by have:=hst.1.2;omega
 obtain ⟨⟨_,h16⟩,hall⟩:=zD hrts
 have HALL:=UP hall
 rw [hc]
 clear hc hst hrts hall
 go_upto_region 4 with fail
 refine Gd.aN 17 (by kernel_rfl) (by kernel_rfl) ?_
 simp only [UF,UD,UG,UH]
 intro wq hw1
 have LL:∀ m:Lt wq,Ext ww m.1:=fun m=>hw1.tr m.2
 have BB:∀ m:Lt wq,ww.heap.size≤m.1.heap.size:=fun m=>(LL m).size
 have v0:∀ m:Lt wq,m.1.cell? ⟨w.heap.size,0,none⟩=some (.string (aH a.st)):=fun m=>(T1.out.ext (LL m)).c0
 have v1:∀ m:Lt wq,m.1.cell? ⟨w.heap.size,1,none⟩=some (.int .i64 a.num):=fun m=>(T1.out.ext (LL m)).c1
 have v2:∀ m:Lt wq,m.1.cell? ⟨w.heap.size,2,none⟩=some (.int .i64 a.day):=fun m=>(T1.out.ext (LL m)).c2
 have vl:∀ m:Lt wq,w.heap.size<m.1.heap.size:=fun m=>(T1.out.ext (LL m)).lt
 repeat (refine Gd.aD (by first | exact trivial | exact ⟨_,rfl,rfl,rfl⟩) rfl rfl rfl rfl rfl (fun K hK=>?_);go_big_quiet_op;refine hK _ ?_;clear hK K)
 refine Gd.qY (by first | exact trivial | exact ⟨_,rfl,rfl,rfl⟩) (GS ww.heap.size a.st) (bY _ _) (fun _=>.string (aH a.st)) rfl rfl rfl rfl rfl (fun _=>rfl) (fun m f hf=>yS m.1 (BB m) a.st sa) ?_
 simp only [Act.put,TO,TQ,TU]
 refine Gd.d9 (by first | exact trivial | exact ⟨_,rfl,rfl,rfl⟩) (NdG ww.heap.size 2 (aY 19 a.st)) (bI _ _ _) (fun f=>[(0,.int .i64 19),(1,f 17)]) rfl rfl rfl rfl rfl (fun f=>rfl) (fun m f hf=>gG m.1 19 (hf 17 _ rfl rfl)) ?_
 simp only [Act.put,TO,TQ,TU]
 repeat (refine Gd.aD (by first | exact trivial | exact ⟨_,rfl,rfl,rfl⟩) rfl rfl rfl rfl rfl (fun K hK=>?_);go_big_quiet_op;refine hK _ ?_;clear hK K)
 refine Gd.bK (by first | exact trivial | exact ⟨_,rfl,rfl,rfl⟩) (GI [a.num]) (jJ _) (fun _=>[(0,.int .i64 a.num)]) rfl rfl rfl rfl rfl (fun _=>rfl) (fun m f hf=>⟨_,_,(by go_simp:(Instr.buildSlice 41 1 [(0,.int .i64 a.num)].toArray).run Tryz.prog m.1=.ok (.slice (some ⟨m.1.heap.size,0,none⟩) 1 1) (m.1.alloc (.cells #[.int .i64 a.num] 3))),(Below.refl _ _).alloc (TM _) _,rC m.1 #[.int .i64 a.num] [a.num] 1 rfl (by omega) rfl⟩) ?_
 simp only [Act.put,TO,TQ,TU]
 refine Gd.aU (by first | exact trivial | exact ⟨_,rfl,rfl,rfl⟩) (GS ww.heap.size (be4 a.num)) (bY _ _) (fun f=>[.int .i64 4,f 21]) rfl rfl rfl rfl rfl (by kernel_rfl) rfl (fun f=>rfl) (fun m f hf=>(lB 4 m.1 (hf 21 _ rfl rfl) (by omega) (by simp)).mono fun _ _ h=>(tH a.num ▸ h:gP _ _ _ _).gs (BB m)) ?_
 simp only [Act.put,TO,TQ,TU]
 refine Gd.d9 (by first | exact trivial | exact ⟨_,rfl,rfl,rfl⟩) (NdG ww.heap.size 2 (aY 130 (be4 a.num))) (bI _ _ _) (fun f=>[(0,.int .i64 130),(1,f 22)]) rfl rfl rfl rfl rfl (fun f=>rfl) (fun m f hf=>gG m.1 130 (hf 22 _ rfl rfl)) ?_
 simp only [Act.put,TO,TQ,TU]
 repeat (refine Gd.aD (by first | exact trivial | exact ⟨_,rfl,rfl,rfl⟩) rfl rfl rfl rfl rfl (fun K hK=>?_);go_big_quiet_op;refine hK _ ?_;clear hK K)
 refine Gd.bK (by first | exact trivial | exact ⟨_,rfl,rfl,rfl⟩) (GI [a.day]) (jJ _) (fun _=>[(0,.int .i64 a.day)]) rfl rfl rfl rfl rfl (fun _=>rfl) (fun m f hf=>⟨_,_,(by go_simp:(Instr.buildSlice 41 1 [(0,.int .i64 a.day)].toArray).run Tryz.prog m.1=.ok (.slice (some ⟨m.1.heap.size,0,none⟩) 1 1) (m.1.alloc (.cells #[.int .i64 a.day] 3))),(Below.refl _ _).alloc (TM _) _,rC m.1 #[.int .i64 a.day] [a.day] 1 rfl (by omega) rfl⟩) ?_
 simp only [Act.put,TO,TQ,TU]
 refine Gd.aU (by first | exact trivial | exact ⟨_,rfl,rfl,rfl⟩) (GS ww.heap.size (be3 a.day)) (bY _ _) (fun f=>[.int .i64 3,f 26]) rfl rfl rfl rfl rfl (by kernel_rfl) rfl (fun f=>rfl) (fun m f hf=>(lB 3 m.1 (hf 26 _ rfl rfl) (by omega) (by simp)).mono fun _ _ h=>(PB a.day ▸ h:gP _ _ _ _).gs (BB m)) ?_
 simp only [Act.put,TO,TQ,TU]
 refine Gd.d9 (by first | exact trivial | exact ⟨_,rfl,rfl,rfl⟩) (NdG ww.heap.size 2 (aY 134 (be3 a.day))) (bI _ _ _) (fun f=>[(0,.int .i64 134),(1,f 27)]) rfl rfl rfl rfl rfl (fun f=>rfl) (fun m f hf=>gG m.1 134 (hf 27 _ rfl rfl)) ?_
 simp only [Act.put,TO,TQ,TU]
 refine Gd.bK (by first | exact trivial | exact ⟨_,rfl,rfl,rfl⟩) (MJ ww.heap.size [aY 19 a.st,aY 130 (be4 a.num),aY 134 (be3 a.day)]) (sP _ _) (fun f=>[(0,f 18),(1,f 23),(2,f 28)]) rfl rfl rfl rfl rfl (fun f=>rfl) (fun m f hf=>CN m.1 (BB m) (hf 18 _ rfl rfl) (hf 23 _ rfl rfl) (hf 28 _ rfl rfl)) ?_
 simp only [Act.put,TO,TQ,TU]
 refine Gd.d9 (by first | exact trivial | exact ⟨_,rfl,rfl,rfl⟩) (NdH ww.heap.size [aY 19 a.st,aY 130 (be4 a.num),aY 134 (be3 a.day)]) (F1 _ _) (fun f=>[(0,.int .i64 49),(2,f 29)]) rfl rfl rfl rfl rfl (fun f=>rfl) (fun m f hf=>PC m.1 (hf 29 _ rfl rfl)) ?_
 simp only [Act.put,TO,TQ,TU]
 refine Gd.wpX_allocN3 ww.heap.size BB (by first | exact trivial | exact ⟨_,rfl,rfl,rfl⟩) rfl rfl rfl rfl ?_
 simp only [Act.put,TO,TQ,TU]
 refine Gd.cM (fun m f hf=>?_)
 obtain ⟨u,e30,g,cs,e29,hBg,hgb,hcl⟩:=hf 30 (NdH ww.heap.size [aY 19 a.st,aY 130 (be4 a.num),aY 134 (be3 a.day)]) rfl
 obtain ⟨rb,e5,hBr,hC⟩:=hf 5 (GC3 ww.heap.size) rfl
 obtain rfl:u=.slice (some ⟨g,0,none⟩) 3 3:=e29
 simp only [aW]
 simp only [Act.put,TO,TQ,TU]
 rw [e30,e5]
 have LM:=UP (LL m)
 have BM:=UP (BB m)
 have HCL:=UP hcl
 have HGB:=UP hgb
 have HBG:=UP hBg
 have HBR:=UP hBr
 have HC:=UP hC
 clear hf e30 e5 hw1 LL BB v0 v1 v2 vl hcl hgb hBg hBr hC
 generalize m.1=w2 at *
 generalize f 17=f17 at *
 generalize f 18=f18 at *
 generalize f 21=f21 at *
 generalize f 22=f22 at *
 generalize f 23=f23 at *
 generalize f 26=f26 at *
 generalize f 27=f27 at *
 generalize f 28=f28 at *
 generalize f 29=f29 at *
 clear m f
 show wpList _ _ _ _ _ _
 obtain ⟨wn,hwn⟩:∃ wn,wn=((w2.setCell ⟨rb,0,none⟩ (.int .i64 49)).setCell ⟨rb,1,none⟩ (.slice none 0 0)).setCell ⟨rb,2,none⟩ (.slice (some ⟨g,0,none⟩) 3 3):=⟨_,rfl⟩
 have hgr:g≠rb:=fun q=>by
  subst q
  have h1:=HGB.out.symm.trans HC.out
  injection h1 with h1
  injection h1 with h1
  have h2:=HCL.out.1
  rw [h1] at h2
  simp at h2
 have hX2:Ext ww wn:=by rw [hwn];exact mH LM.out HBR.out _ _ _
 have HI:Hid (BdI ww rb wn (some ⟨g,0,none⟩) 3 3 (lK a 0)):=UP (by
  have hs:∀ b,b≠rb→wn.heap[b]?=w2.heap[b]?:=fun b hb=>by rw [hwn];exact lU hb
  have O:=NdF.own HBG.out ((hs g hgr).trans HGB.out) HCL.out.1 (by simp)
  have hrow:aK (.slice (some ⟨g,0,none⟩) 3 3)≠some rb:=fun q=>hgr (by have q:some g=some rb:=q;injection q)
  have hc2:=zG HCL.out (by intro t ht;simp only [List.mem_cons,List.not_mem_nil,or_false] at ht;rcases ht with rfl | rfl | rfl <;> rfl) HC.out
  exact ⟨⟨hX2,_,O,by rw [vN];exact hc2.map fun b hb hl=>⟨⟨hb.2,fun q=>hb.1.2 (by have q:some g=some b:=q;injection q with q;exact q.symm)⟩,hs b hb.2⟩⟩,HBR.out,by rw [hwn];exact HC.out.set3 _ _ _,hrow⟩)
 obtain ⟨y0,y1,y2,yf0,yf1,yf2⟩:=HC.out.cells
 have hlb:=HC.out.lt
 have T2:=UP (T1.out.ext hX2)
 have XW:=UP (X1.out.tr hX2)
 go_upto_region 5 with fail
 rw [← hwn]
 clear y0 y1 y2 yf0 yf1 yf2 hlb hwn hgr hX2 HCL HGB HBG HBR HC BM LM T1
 have c3:=T2.out.c3
 have cl:=T2.out.lt
 go_wp2_with fail
 clear c3 cl
 go_loopw [34] (fun s34 wr=>∃ (k:Nat) (A5:Option Addr) (n5 c5:Nat),k≤a.roots.length∧s34=.int .i64 (k:Int)∧Hid (BdI ww rb wr A5 n5 c5 (lK a k))) (fun s34 _=>a.roots.length - (intOf s34).toNat)
 case atStart=>exact ⟨0,_,_,_,U4 _,rfl,HI⟩
 case round =>
  obtain ⟨k,A5,n5,c5,hk,rfl,I⟩:=hrel
  by_cases hlt:k<a.roots.length
  case neg =>
   obtain rfl:k=a.roots.length:=by omega
   have HV:=UP (show NdG 0 3 (eW a) (.agg #[.int .i64 (eW a).tag,.slice none 0 0,.slice A5 n5 c5]) wr by rw [← xV];exact I.out.nd.nd)
   obtain ⟨y0,y1,y2,yf0,yf1,yf2⟩:=I.out.blk.cells
   have hlb:=I.out.blk.lt
   have X9:=UP (X1.out.tr I.out.nd.ext)
   clear I hlt hk
   go_wp2_with fail
   refine (xD (d:=4) (ts:=[eW a]) _ (xR a) (tG (t:=eW a) rfl HV.out) (by omega) (oV h16) (mQ HK.out)).mono ?_
   rintro e w9 ⟨A9,n9,c9,rfl,hn9,o9,b9⟩
   go_wp2_with fail
   go_ret2
   rw [HB.out,HK.out]
   exact ⟨_,_,_,rfl,hn9,o9.rd,Ext.tr (X9.out.alloc X9.out.size _) b9⟩
  case pos =>
  have XR:=UP (X1.out.tr I.out.nd.ext)
  obtain ⟨y,hy⟩:∃ y,a.roots[k]?=some y:=⟨_,U5 hlt⟩
  obtain ⟨b,o,rfl,hbl,hc⟩:=HEL.out (by omega)
  have hcy:=hc k y hy
  have HY:=UP hy
  clear hy hc
  have wi1:IntKind.i64.wrap ((k:Int))=(k:Int):=IntWalk.i64_in _ (by omega)
  have zi1:(0:Int)≤(k:Int):=by omega
  have li1:(k:Int)<(a.roots.length:Int):=by omega
  have ti1:((k:Int)).toNat=k:=by omega
  have wk:IntKind.i64.wrap ((k:Int)+1)=(k:Int)+1:=IntWalk.i64_in _ (by omega)
  have q0:=(XR.out.cell (p:=⟨b,o+k*11,none⟩) hbl).trans hcy.1
  have q1:=(XR.out.cell (p:=⟨b,o+k*11+1,none⟩) hbl).trans hcy.2.1
  have q2:=(XR.out.cell (p:=⟨b,o+k*11+2,none⟩) hbl).trans hcy.2.2.1
  have q3:=(XR.out.cell (p:=⟨b,o+k*11+3,none⟩) hbl).trans hcy.2.2.2.1
  have q4:=(XR.out.cell (p:=⟨b,o+k*11+4,none⟩) hbl).trans hcy.2.2.2.2.1
  have q5:=(XR.out.cell (p:=⟨b,o+k*11+5,none⟩) hbl).trans hcy.2.2.2.2.2.1
  have q6:=(XR.out.cell (p:=⟨b,o+k*11+6,none⟩) hbl).trans hcy.2.2.2.2.2.2.1
  have q7:=(XR.out.cell (p:=⟨b,o+k*11+7,none⟩) hbl).trans hcy.2.2.2.2.2.2.2.1
  have q8:=(XR.out.cell (p:=⟨b,o+k*11+8,none⟩) hbl).trans hcy.2.2.2.2.2.2.2.2.1
  have q9:=(XR.out.cell (p:=⟨b,o+k*11+9,none⟩) hbl).trans hcy.2.2.2.2.2.2.2.2.2.1
  have q10:=(XR.out.cell (p:=⟨b,o+k*11+10,none⟩) hbl).trans hcy.2.2.2.2.2.2.2.2.2.2
  clear hcy
  obtain ⟨wc,hwc,en,TN⟩:=cB wr y
  go_upto_region 8 with fail
  rw [← hwc]
  clear hwc q0 q1 q2 q3 q4 q5 q6 q7 q8 q9 q10
  have EN:=UP en
  obtain ⟨t0,t1,t2,t3,t4,t5,t6,t7,t8,t9,t10⟩:=TN.cells
  have hl:=TN.lt
  clear en TN
  go_wp2_with fail
  refine (HTR.out y _ (UC HY.out) (HALL.out y (UC HY.out)).1 (HALL.out y (UC HY.out)).2).mono ?_
  rintro e w5 ⟨b5,u,hu,rfl⟩
  obtain ⟨A1,n1,c1,A2,n2,c2,rfl⟩:=jI hu
  rw [show (eC y).tag=48 from rfl] at hu ⊢
  clear t0 t1 t2 t3 t4 t5 t6 t7 t8 t9 t10 hl
  obtain ⟨wa,hwa⟩:∃ wa,wa=w5.alloc (.cells #[.int .i64 48,.slice A1 n1 c1,.slice A2 n2 c2] 180):=⟨_,rfl⟩
  have ea:Ext w5 wa:=by rw [hwa];exact (Below.refl _ _).alloc (TM _) _
  have hba:C3 wa w5.heap.size (.int .i64 48) (.slice A1 n1 c1) (.slice A2 n2 c2):=by rw [hwa];exact C3.new _ _ _ _
  go_upto_region 9 with fail
  rw [← hwa]
  clear hwa
  have ERA:=UP ((EN.out.tr b5).tr ea)
  have ED:Ext wa (wa.alloc (.cells #[.int .i64 48,.slice A1 n1 c1,.slice A2 n2 c2] 180)):=(Below.refl _ _).alloc (TM _) _
  have HU:=UP (bI _ _ _ _ _ _ (ea.tr ED) (hu.mono (U9 EN.out.size (TM _))))
  have hn5:=I.out.nd.len
  rw [nO a hk] at hn5
  have HNN:=UP hn5
  obtain ⟨xs,O5,N5⟩:=I.out.nd.own
  have HO5:=UP O5
  have HN5:=UP N5
  have HNX:=UP (show n5*3=xs.length by rw [N5.1,nO a hk,hn5])
  have O6:=UP (O5.ext (ERA.out.tr ED))
  have HRK:=UP (show RdK (wa.alloc (.cells #[.int .i64 48,.slice A1 n1 c1,.slice A2 n2 c2] 180)) 3 (.slice (some ⟨wa.heap.size,0,none⟩) 1 1) [.int .i64 48,.slice A1 n1 c1,.slice A2 n2 c2] from RdK.lit wa 3 #[.int .i64 48,.slice A1 n1 c1,.slice A2 n2 c2] 180 1 rfl (by unfold maxLen;omega))
  have HONE:=UP (show ∀ u ∈ [Value.int .i64 48,.slice A1 n1 c1,.slice A2 n2 c2],u.oneCell'=true from fun u hu=>by simp only [List.mem_cons,List.not_mem_nil,or_false] at hu;rcases hu with rfl | rfl | rfl <;> rfl)
  have X6:=UP (I.out.nd.ext.tr (ERA.out.tr ED))
  have hcr:=I.out.blk.ex ERA.out
  obtain ⟨y0,y1,y2,yf0,yf1,yf2⟩:=hcr.cells
  have hlb:=hcr.lt
  obtain ⟨z0,z1,z2,zf0,zf1,zf2⟩:=hba.cells
  have hlz:=hba.lt
  have ERD:=UP (ERA.out.tr ED)
  clear O5 N5 b5 ea hu hba hcr ED EN XR hn5
  go_wp2_with (refine jB (k:=3) (by decide) DY (n:=n5) (m:=1) (B:=ww.heap.size) (w0:=ww) O6.out HNX.out HRK.out (by rfl) HONE.out X6.out (by have:=HNN.out;omega) (by have:=HNN.out;unfold maxLen;omega) X6.out.size rfl rfl rfl rfl ?_;intro A8 n8 c8 w8 hn8 o8 x8 g8 f8;obtain ⟨p1,p2,p3,I8⟩:=BdI.app I.out HO5.out HN5.out ERD.out HU.out o8 x8 g8 f8;have HI8:=UP I8;clear y0 y1 y2 yf0 yf1 yf2 z0 z1 z2 zf0 zf1 zf2 hlb hlz o8 x8 g8 f8 I8)
  rw [← vO a HY.out] at HI8
  go_roundw
  case rel=>exact ⟨k+1,A8,n8,c8,by omega,by go_num,HI8⟩
  case measure=>simp [intOf];omega
theorem ML {B:Nat}{ts:List Nd}{v:Value}{w:World} (h:NdF B 0 ts v w) (hk:∀ t ∈ ts,t.kids=[]):NdF B 2 ts v w:=by
 obtain ⟨g,cs,h1,h2,h3,h4⟩:=h
 refine ⟨g,cs,h1,h2,h3,h4.1,fun i t ht=>?_⟩
 obtain ⟨A1,n1,c1,A2,n2,c2,e0,e1,e2,r1,r2⟩:=h4.2 i t ht
 have hk:=hk t (UC ht)
 obtain ⟨_,A,c,q1,q2⟩:=r2
 rw [q1] at e2
 exact ⟨A1,n1,c1,A,0,c,e0,e1,e2,r1,by rw [hk];exact ⟨A,0,c,rfl,rfl,U4 _,q2,fun h0=>absurd h0 (Nat.lt_irrefl 0)⟩⟩
set_option maxHeartbeats 8000000 in
theorem qE (a:MA) (v:Value) (w:World) (hv:RdN w v a.roots) (hs:smL a.roots) (hg:smN a.sg) (ht:a.st.length≤maxLen) (E:dN w 0):Calls Tryz.prog 61 #[maV a v] w (FU w (byM a) (ckM a)):=by
 obtain ⟨wz,hwz,ez,TZ⟩:=jZ w a v
 have HC:=UP (fun W (e:Ext w W)=>kP a v W (RdK.ext hv e) hs hg ht (E.below e))
 have HTR:=UP (fun (c:NC) W (h:c ∈ a.roots) (q:ckN c=0) (r:rtN c=true)=>CL c W (hs c h) q (qD r).1 (qD r).2)
 obtain ⟨A,n,cp,rfl,hn,hnc,hcm,hel⟩:=hv.at_
 subst hn
 have HEL:=UP hel
 unfold maxLen at hcm
 have EZ:=UP ez
 have HZ:=UP TZ
 clear hv hs hg ht E hel ez TZ
 unfold maV aC
 go_enter Tryz.func61,Tryz.ntmps61
 go_upto_region 1 with fail
 rw [← hwz]
 clear hwz
 have HROW:=UP HZ.out.row
 go_wp2_with (refine wpList_load_row rfl 80 _ rfl w.heap.size rfl 80 (aC a (.slice A a.roots.length cp)).toArray (0,0) _ HROW.out Tryz.underlying80 rfl aP ?_)
 refine (HC.out wz EZ.out).mono ?_
 rintro e ww ⟨rfl,b1⟩
 have X1:=UP (EZ.out.tr b1)
 have T1:=UP (HZ.out.ext b1)
 clear b1 HZ EZ HROW HC
 by_cases hc:ckM a=0
 case neg =>
  have hb:(ckM a != 0)=true:=by simpa using hc
  have HB:=UP (show byM a=[] from if_neg hc)
  clear hc
  go_wp2_with fail
  go_ret2
  rw [HB.out]
  exact ⟨_,_,_,rfl,(show _=_ from rfl),Rd.nil_ _,X1.out⟩
 have HK:=UP hc
 have HB:=UP (show byM a=hU a from if_pos hc)
 obtain ⟨hst,⟨num0,num1⟩,⟨day0,day1⟩,hrts,_⟩:=EX hc
 have sa:a.st.length≤4096:=by have:=hst.1.2;omega
 obtain ⟨⟨_,h16⟩,hall⟩:=zD hrts
 have HALL:=UP hall
 rw [hc]
 clear hc hst hrts hall
 have n63:a.num<9223372036854775808:=by omega
 have d63:a.day<9223372036854775808:=by omega
 have nn0:0≤a.num:=by omega
 go_upto_region 4 with fail
 refine Gd.aN 11 (by kernel_rfl) (by kernel_rfl) ?_
 simp only [UF,UD,UG,UH]
 intro wq hw1
 have LL:∀ m:Lt wq,Ext ww m.1:=fun m=>hw1.tr m.2
 have BB:∀ m:Lt wq,ww.heap.size≤m.1.heap.size:=fun m=>(LL m).size
 have v0:∀ m:Lt wq,m.1.cell? ⟨w.heap.size,0,none⟩=some (.string (aH a.st)):=fun m=>(T1.out.ext (LL m)).c0
 have v1:∀ m:Lt wq,m.1.cell? ⟨w.heap.size,1,none⟩=some (.int .i64 a.num):=fun m=>(T1.out.ext (LL m)).c1
 have v2:∀ m:Lt wq,m.1.cell? ⟨w.heap.size,2,none⟩=some (.int .i64 a.day):=fun m=>(T1.out.ext (LL m)).c2
 have vl:∀ m:Lt wq,w.heap.size<m.1.heap.size:=fun m=>(T1.out.ext (LL m)).lt
 repeat (refine Gd.aD (by first | exact trivial | exact ⟨_,rfl,rfl,rfl⟩) rfl rfl rfl rfl rfl (fun K hK=>?_);go_big_quiet_op;refine hK _ ?_;clear hK K)
 refine Gd.aU (by first | exact trivial | exact ⟨_,rfl,rfl,rfl⟩) (NdF ww.heap.size 2 [aY 19 a.st,aY 130 (be4 a.num)]) (vH _ _ _) (fun _=>[.string (aH a.st),.int .i64 a.num]) rfl rfl rfl rfl rfl (by kernel_rfl) rfl (fun _=>rfl) (fun m f hf=>(CF a.st a.num m.1 sa nn0 n63).mono fun e w3 ⟨v,h1,h2,h3⟩=>⟨v,h1,h2,ML (MF h3 (BB m)) (by intro t ht;simp only [List.mem_cons,List.not_mem_nil,or_false] at ht;rcases ht with rfl | rfl <;> rfl)⟩) ?_
 simp only [Act.put,TO,TQ,TU]
 repeat (refine Gd.aD (by first | exact trivial | exact ⟨_,rfl,rfl,rfl⟩) rfl rfl rfl rfl rfl (fun K hK=>?_);go_big_quiet_op;refine hK _ ?_;clear hK K)
 refine Gd.aU (by first | exact trivial | exact ⟨_,rfl,rfl,rfl⟩) (GS ww.heap.size (be3 a.day)) (bY _ _) (fun _=>[.int .i64 a.day,.int .i64 3]) rfl rfl rfl rfl rfl (by kernel_rfl) rfl (fun _=>rfl) (fun m f hf=>(fY 3 a.day 3 m.1 day0 d63 rfl (by omega)).mono fun _ _ h=>(sC a.day ▸ h:gP _ _ _ _).gs (BB m)) ?_
 simp only [Act.put,TO,TQ,TU]
 refine Gd.aU (by first | exact trivial | exact ⟨_,rfl,rfl,rfl⟩) (NdG ww.heap.size 2 (aY 134 (be3 a.day))) (bI _ _ _) (fun f=>[.int .i64 134,f 21]) rfl rfl rfl rfl rfl (by kernel_rfl) rfl (fun f=>rfl) (fun m f hf=>oG m.1 134 (hf 21 _ rfl rfl)) ?_
 simp only [Act.put,TO,TQ,TU]
 refine Gd.bK (by first | exact trivial | exact ⟨_,rfl,rfl,rfl⟩) (NdF ww.heap.size 2 [aY 134 (be3 a.day)]) (vH _ _ _) (fun f=>[(0,f 22)]) rfl rfl rfl rfl rfl (fun f=>rfl) (fun m f hf=>CO m.1 (BB m) (hf 22 _ rfl rfl)) ?_
 simp only [Act.put,TO,TQ,TU]
 refine Gd.wpX_appF (by first | exact trivial | exact ⟨_,rfl,rfl,rfl⟩) (PD ww.heap.size ([aY 19 a.st,aY 130 (be4 a.num)]++[aY 134 (be3 a.day)])) (CQ _ _) (fun f=>f 18) (fun f=>f 23) rfl rfl rfl rfl rfl rfl (fun _=>rfl) (fun _=>rfl) (fun m f hf=>CR (BB m) (hf 18 _ rfl rfl) (hf 23 _ rfl rfl) (by simp) (by simp)) ?_
 simp only [Act.put,TO,TQ,TU]
 refine Gd.cM (fun m f hf=>?_)
 obtain ⟨A24,n24,c24,xs24,e24,O24,N24⟩:=hf 24 (PD ww.heap.size ([aY 19 a.st,aY 130 (be4 a.num)]++[aY 134 (be3 a.day)])) rfl
 simp only [aW]
 simp only [Act.put,TO,TQ,TU]
 rw [e24]
 have LM:=UP (LL m)
 have HI:Hid (NdO ww m.1 (fun _=>True) A24 n24 c24 (lK a 0)):=UP ⟨LM.out,xs24,O24,by rw [vN];exact N24⟩
 clear hf e24 hw1 LL BB v0 v1 v2 vl O24 N24 LM
 generalize m.1=w2 at *
 generalize f 18=f18 at *
 generalize f 21=f21 at *
 generalize f 22=f22 at *
 generalize f 23=f23 at *
 clear m f
 show wpList _ _ _ _ _ _
 go_wp2_with fail
 go_loopw [5,6] (fun s5 s6 wr=>∃ (k:Nat) (A5:Option Addr) (n5 c5:Nat),k≤a.roots.length∧s6=.int .i64 (k:Int)∧s5=.slice A5 n5 c5∧Hid (NdO ww wr (fun _=>True) A5 n5 c5 (lK a k))) (fun _ s6 _=>a.roots.length - (intOf s6).toNat)
 case atStart=>exact ⟨0,_,_,_,U4 _,rfl,rfl,HI⟩
 case round =>
  obtain ⟨k,A5,n5,c5,hk,rfl,rfl,I⟩:=hrel
  have TR:=UP (T1.out.ext I.out.ext)
  have c3:=TR.out.c3
  have cl:=TR.out.lt
  by_cases hlt:k<a.roots.length
  case neg =>
   obtain rfl:k=a.roots.length:=by omega
   have HV:=UP (show NdG 0 3 (eW a) (.agg #[.int .i64 (eW a).tag,.slice none 0 0,.slice A5 n5 c5]) wr by rw [← xV];exact I.out.nd)
   have X9:=UP (X1.out.tr I.out.ext)
   clear I hlt hk
   go_wp2_with fail
   refine (pL (d:=4) (ts:=[eW a]) _ (xR a) (tG (t:=eW a) rfl HV.out) (by omega) (oV h16) (mQ HK.out)).mono ?_
   rintro e w9 ⟨A9,n9,c9,rfl,hn9,o9,b9⟩
   go_wp2_with fail
   go_ret2
   rw [HB.out,HK.out]
   exact ⟨_,_,_,rfl,hn9,o9.rd,Ext.tr (X9.out.alloc X9.out.size _) b9⟩
  case pos =>
  have XR:=UP (X1.out.tr I.out.ext)
  obtain ⟨y,hy⟩:∃ y,a.roots[k]?=some y:=⟨_,U5 hlt⟩
  obtain ⟨b,o,rfl,hbl,hc⟩:=HEL.out (by omega)
  have hcy:=hc k y hy
  have HY:=UP hy
  clear hy hc
  have wi1:IntKind.i64.wrap ((k:Int))=(k:Int):=IntWalk.i64_in _ (by omega)
  have zi1:(0:Int)≤(k:Int):=by omega
  have li1:(k:Int)<(a.roots.length:Int):=by omega
  have ti1:((k:Int)).toNat=k:=by omega
  have wk:IntKind.i64.wrap ((k:Int)+1)=(k:Int)+1:=IntWalk.i64_in _ (by omega)
  have q0:=(XR.out.cell (p:=⟨b,o+k*11,none⟩) hbl).trans hcy.1
  have q1:=(XR.out.cell (p:=⟨b,o+k*11+1,none⟩) hbl).trans hcy.2.1
  have q2:=(XR.out.cell (p:=⟨b,o+k*11+2,none⟩) hbl).trans hcy.2.2.1
  have q3:=(XR.out.cell (p:=⟨b,o+k*11+3,none⟩) hbl).trans hcy.2.2.2.1
  have q4:=(XR.out.cell (p:=⟨b,o+k*11+4,none⟩) hbl).trans hcy.2.2.2.2.1
  have q5:=(XR.out.cell (p:=⟨b,o+k*11+5,none⟩) hbl).trans hcy.2.2.2.2.2.1
  have q6:=(XR.out.cell (p:=⟨b,o+k*11+6,none⟩) hbl).trans hcy.2.2.2.2.2.2.1
  have q7:=(XR.out.cell (p:=⟨b,o+k*11+7,none⟩) hbl).trans hcy.2.2.2.2.2.2.2.1
  have q8:=(XR.out.cell (p:=⟨b,o+k*11+8,none⟩) hbl).trans hcy.2.2.2.2.2.2.2.2.1
  have q9:=(XR.out.cell (p:=⟨b,o+k*11+9,none⟩) hbl).trans hcy.2.2.2.2.2.2.2.2.2.1
  have q10:=(XR.out.cell (p:=⟨b,o+k*11+10,none⟩) hbl).trans hcy.2.2.2.2.2.2.2.2.2.2
  clear hcy
  go_wp2_with fail
  refine (HTR.out y _ (UC HY.out) (HALL.out y (UC HY.out)).1 (HALL.out y (UC HY.out)).2).mono ?_
  rintro e w5 ⟨b5,u,hu,rfl⟩
  obtain ⟨A1,n1,c1,A2,n2,c2,rfl⟩:=jI hu
  rw [show (eC y).tag=48 from rfl] at hu ⊢
  clear q0 q1 q2 q3 q4 q5 q6 q7 q8 q9 q10 c3 cl
  obtain ⟨wa,hwa⟩:∃ wa,wa=w5.alloc (.cells #[.int .i64 48,.slice A1 n1 c1,.slice A2 n2 c2] 180):=⟨_,rfl⟩
  have ea:Ext w5 wa:=by rw [hwa];exact (Below.refl _ _).alloc (TM _) _
  have hba:C3 wa w5.heap.size (.int .i64 48) (.slice A1 n1 c1) (.slice A2 n2 c2):=by rw [hwa];exact C3.new _ _ _ _
  go_upto_region 9 with fail
  rw [← hwa]
  clear hwa
  have ERA:=UP (b5.tr ea)
  have ED:Ext wa (wa.alloc (.cells #[.int .i64 48,.slice A1 n1 c1,.slice A2 n2 c2] 180)):=(Below.refl _ _).alloc (TM _) _
  have HU:=UP (bI _ _ _ _ _ _ (ea.tr ED) hu)
  have hn5:=I.out.len
  rw [nO a hk] at hn5
  have HNN:=UP hn5
  obtain ⟨xs,O5,N5⟩:=I.out.own
  have HO5:=UP O5
  have HN5:=UP N5
  have HNX:=UP (show n5*3=xs.length by rw [N5.1,nO a hk,hn5])
  have O6:=UP (O5.ext (ERA.out.tr ED))
  have HRK:=UP (show RdK (wa.alloc (.cells #[.int .i64 48,.slice A1 n1 c1,.slice A2 n2 c2] 180)) 3 (.slice (some ⟨wa.heap.size,0,none⟩) 1 1) [.int .i64 48,.slice A1 n1 c1,.slice A2 n2 c2] from RdK.lit wa 3 #[.int .i64 48,.slice A1 n1 c1,.slice A2 n2 c2] 180 1 rfl (by unfold maxLen;omega))
  have HONE:=UP (show ∀ u ∈ [Value.int .i64 48,.slice A1 n1 c1,.slice A2 n2 c2],u.oneCell'=true from fun u hu=>by simp only [List.mem_cons,List.not_mem_nil,or_false] at hu;rcases hu with rfl | rfl | rfl <;> rfl)
  have X6:=UP (I.out.ext.tr (ERA.out.tr ED))
  obtain ⟨z0,z1,z2,zf0,zf1,zf2⟩:=hba.cells
  have hlz:=hba.lt
  have ERD:=UP (ERA.out.tr ED)
  clear O5 N5 b5 ea hu hba ED XR hn5
  go_wp2_with (refine jB (k:=3) (by decide) DY (n:=n5) (m:=1) (B:=ww.heap.size) (w0:=ww) O6.out HNX.out HRK.out (by rfl) HONE.out X6.out (by have:=HNN.out;omega) (by have:=HNN.out;unfold maxLen;omega) X6.out.size rfl rfl rfl rfl ?_;intro A8 n8 c8 w8 hn8 o8 x8 g8 f8;have HI8:=UP (GG HO5.out HN5.out ERD.out HU.out (fun _ _=>trivial) o8 x8 g8 f8);clear z0 z1 z2 zf0 zf1 zf2 hlz o8 x8 g8 f8)
  rw [← vO a HY.out] at HI8
  go_roundw
  case rel=>exact ⟨k+1,A8,n8,c8,by omega,by go_num,rfl,HI8⟩
  case measure=>simp [intOf];omega
theorem QV:kA Tryz.prog 96 177 5 56:=by
 have h:(Tryz.prog.info? 177).map (fun i=>(i.zero,i.size,i.bytes))=some (some (.agg #[.int .i64 0,.int .i64 0,.int .i64 0,.string ⟨#[]⟩,.string ⟨#[]⟩]),5,56):=by kernel_rfl
 obtain ⟨i,h1,h2,h3,h4⟩:=info_parts h
 exact ⟨i,_,Tryz.underlying96,h1,h2,h3,h4,rfl⟩
theorem xW {w:World}{A:Option Addr}{n c k:Nat}{xs:List Value} (hk:0<k) (h:RdK w k (.slice A n c) xs) (hA:A=none):xs=[]:=by
 obtain ⟨A',n',c',e,hn,_,_,hc⟩:=h
 injection e with e1 e2 e3
 subst e1 e2 e3
 by_cases h0:0<n
 · obtain ⟨b,o,e,_⟩:=hc h0
   rw [hA] at e
   cases e
 · obtain rfl:n=0:=by omega
   rw [Nat.zero_mul] at hn
   exact UM hn.symm
theorem lL (w:World) (A:Option Addr) (n c:Nat):(binOp .eql 51 (.slice A n c) (.slice none 0 0)).run Tryz.prog w=.ok (.bool A.isNone) w:=Lib.run_eql_slice_nil w _ 56 A n c 0 0 Tryz.underlying51
set_option maxHeartbeats 1000000 in
theorem vP {a:Value}{l:List NC} (w:World) (ha:RdK w 11 a (aA l)) (hl:l.length≤1000000):Calls Tryz.prog 201 #[a] w fun e w'=>∃ A n c,e=.returned (.slice A n c)∧aJ w' w.heap.size 56 11 (.slice A n c) (aA l)∧Ext w w':=by
 have ha0:=ha
 obtain ⟨A,n,c,rfl,hn,hnc,hcm,hA⟩:=ha
 rw [aX] at hn
 obtain rfl:n=l.length:=by omega
 unfold maxLen at hcm
 have HON:=UP (hH l)
 cases A with
 | none =>
   have h0:=UP (xW (by decide) ha0 rfl)
   clear hA ha0 hn
   have hq:=fun w=>lL w none l.length c
   go_enter Tryz.func201,Tryz.ntmps201
   go_wp2
   go_ret
   exact ⟨_,_,_,rfl,by rw [h0.out];exact aJ.empty _ _ _ _ _,Below.refl _ _⟩
 | some ad =>
   clear hA hn
   have hq:=fun w=>lL w (some ad) l.length c
   have e6:Ext w (w.alloc (.cells #[] 56)):=(Below.refl _ _).alloc (TM _) _
   have H6:=UP (RdK.ext ha0 e6)
   have E6:=UP e6
   clear ha0 e6
   go_enter Tryz.func201,Tryz.ntmps201
   go_wp2_with (refine bJ (k:=11) (by decide) fU (n:=0) (m:=l.length) (B:=w.heap.size) (aJ.empty _ _ _ _ _) rfl H6.out (by rw [aX]) HON.out E6.out (by omega) (by unfold maxLen;omega) E6.out.size rfl rfl rfl rfl ?_;intro A2 n2 c2 w2 hn2 o2 b2 g2)
   simp only [UL] at o2
   go_ret
   exact ⟨_,_,_,rfl,o2,b2⟩
theorem lM (w:World) (A:Option Addr) (n c:Nat):(binOp .eql 96 (.slice A n c) (.slice none 0 0)).run Tryz.prog w=.ok (.bool A.isNone) w:=Lib.run_eql_slice_nil w _ 177 A n c 0 0 Tryz.underlying96
set_option maxHeartbeats 1000000 in
theorem F3 {a:Value}{l:List DF} (w:World) (ha:RdK w 5 a (hO l)) (hl:l.length≤1000000):Calls Tryz.prog 234 #[a] w fun e w'=>∃ A n c,e=.returned (.slice A n c)∧aJ w' w.heap.size 177 5 (.slice A n c) (hO l)∧Ext w w':=by
 have ha0:=ha
 obtain ⟨A,n,c,rfl,hn,hnc,hcm,hA⟩:=ha
 rw [qB] at hn
 obtain rfl:n=l.length:=by omega
 unfold maxLen at hcm
 have HON:=UP (zC l)
 cases A with
 | none =>
   have h0:=UP (xW (by decide) ha0 rfl)
   clear hA ha0 hn
   have hq:=fun w=>lM w none l.length c
   go_enter Tryz.func234,Tryz.ntmps234
   go_wp2
   go_ret
   exact ⟨_,_,_,rfl,by rw [h0.out];exact aJ.empty _ _ _ _ _,Below.refl _ _⟩
 | some ad =>
   clear hA hn
   have hq:=fun w=>lM w (some ad) l.length c
   have e6:Ext w (w.alloc (.cells #[] 177)):=(Below.refl _ _).alloc (TM _) _
   have H6:=UP (RdK.ext ha0 e6)
   have E6:=UP e6
   clear ha0 e6
   go_enter Tryz.func234,Tryz.ntmps234
   go_wp2_with (refine bJ (k:=5) (by decide) QV (n:=0) (m:=l.length) (B:=w.heap.size) (aJ.empty _ _ _ _ _) rfl H6.out (by rw [qB]) HON.out E6.out (by omega) (by unfold maxLen;omega) E6.out.size rfl rfl rfl rfl ?_;intro A2 n2 c2 w2 hn2 o2 b2 g2)
   simp only [UL] at o2
   go_ret
   exact ⟨_,_,_,rfl,o2,b2⟩
def cG:MA:=⟨[],0,0,[],cP,0,0⟩
theorem eX (r:MA) (v:Value) (h:v.oneCell'=true):(aC r v).toArray.all (·.oneCell')=true:=by
 rw [List.all_toArray,List.all_eq_true]
 exact kM.one r v h
set_option maxHeartbeats 4000000 in
theorem sQ (r:MA) (v:Value) (w:World) (hv:RdK w 11 v (aA r.roots)) (hl:r.roots.length≤1000000):Calls Tryz.prog 135 #[.agg (aC r v).toArray] w fun e w'=>∃ A n c,e=.returned (.agg (aC r (.slice A n c)).toArray)∧aJ w' w.heap.size 56 11 (.slice A n c) (aA r.roots)∧Ext w w':=by
 obtain ⟨wz,hwz⟩:∃ wz,wz=(w.alloc (.cells #[.string (aH r.st),.int .i64 r.num,.int .i64 r.day,v,.string (aH r.sg.st),.int .i64 r.sg.kind,.int .i64 r.sg.num,.int .i64 r.sg.iss,.int .i64 r.sg.own,.int .i64 r.sg.key,.int .i64 r.sg.fr,.int .i64 r.sg.un,.int .i64 r.sg.to,.int .i64 r.sg.e,.int .i64 r.sg.s,.int .i64 r.e,.int .i64 r.s] 80)).alloc (.cells #[.string ⟨#[]⟩,.int .i64 0,.int .i64 0,.slice none 0 0,.string ⟨#[]⟩,.int .i64 0,.int .i64 0,.int .i64 0,.int .i64 0,.int .i64 0,.int .i64 0,.int .i64 0,.int .i64 0,.int .i64 0,.int .i64 0,.int .i64 0,.int .i64 0] 80):=⟨_,rfl⟩
 have e1:Ext w (w.alloc (.cells #[.string (aH r.st),.int .i64 r.num,.int .i64 r.day,v,.string (aH r.sg.st),.int .i64 r.sg.kind,.int .i64 r.sg.num,.int .i64 r.sg.iss,.int .i64 r.sg.own,.int .i64 r.sg.key,.int .i64 r.sg.fr,.int .i64 r.sg.un,.int .i64 r.sg.to,.int .i64 r.sg.e,.int .i64 r.sg.s,.int .i64 r.e,.int .i64 r.s] 80)):=(Below.refl _ _).alloc (TM _) _
 have ez:Ext w wz:=by rw [hwz];exact e1.alloc (by simp) _
 have b0:wz.heap[w.heap.size]?=some (.cells (aC r v).toArray 80 (0,0)):=by
  rw [hwz]
  exact (((Below.refl _ _).alloc (TM _) _:Ext (w.alloc (.cells #[.string (aH r.st),.int .i64 r.num,.int .i64 r.day,v,.string (aH r.sg.st),.int .i64 r.sg.kind,.int .i64 r.sg.num,.int .i64 r.sg.iss,.int .i64 r.sg.own,.int .i64 r.sg.key,.int .i64 r.sg.fr,.int .i64 r.sg.un,.int .i64 r.sg.to,.int .i64 r.sg.e,.int .i64 r.sg.s,.int .i64 r.e,.int .i64 r.s] 80)) _).block _ (by simp)).trans (aB w _)
 have b1:wz.heap[w.heap.size+1]?=some (.cells (aC cG (.slice none 0 0)).toArray 80 (0,0)):=by
  have:=aB (w.alloc (.cells #[.string (aH r.st),.int .i64 r.num,.int .i64 r.day,v,.string (aH r.sg.st),.int .i64 r.sg.kind,.int .i64 r.sg.num,.int .i64 r.sg.iss,.int .i64 r.sg.own,.int .i64 r.sg.key,.int .i64 r.sg.fr,.int .i64 r.sg.un,.int .i64 r.sg.to,.int .i64 r.sg.e,.int .i64 r.sg.s,.int .i64 r.e,.int .i64 r.s] 80)) (.cells #[.string ⟨#[]⟩,.int .i64 0,.int .i64 0,.slice none 0 0,.string ⟨#[]⟩,.int .i64 0,.int .i64 0,.int .i64 0,.int .i64 0,.int .i64 0,.int .i64 0,.int .i64 0,.int .i64 0,.int .i64 0,.int .i64 0,.int .i64 0,.int .i64 0] 80)
  rw [show (w.alloc (.cells #[.string (aH r.st),.int .i64 r.num,.int .i64 r.day,v,.string (aH r.sg.st),.int .i64 r.sg.kind,.int .i64 r.sg.num,.int .i64 r.sg.iss,.int .i64 r.sg.own,.int .i64 r.sg.key,.int .i64 r.sg.fr,.int .i64 r.sg.un,.int .i64 r.sg.to,.int .i64 r.sg.e,.int .i64 r.sg.s,.int .i64 r.e,.int .i64 r.s] 80)).heap.size=w.heap.size+1 by simp] at this
  rw [hwz]
  exact this
 have HR:=UP (RdK.ext hv ez)
 have HL:=UP hl
 have EZ:=UP ez
 have c3:wz.cell? ⟨w.heap.size,3,none⟩=some v:=by rw [cell_of_row wz w.heap.size 3 _ _ _ b0];rfl
 have cl:=a9 b0
 have B0:=UP b0
 have B1:=UP b1
 clear b0 b1 e1 ez hv hl
 obtain ⟨A,n,c,rfl,-⟩:=id HR.out
 unfold aC
 go_enter Tryz.func135,Tryz.ntmps135
 go_wp2_with fail
 rw [← hwz]
 clear hwz
 refine (vP _ HR.out HL.out).mono ?_
 rintro e w1 ⟨A1,n1,c1,rfl,o1,x1⟩
 have k0:=(x1.block _ cl).trans B0.out
 have k1:=(x1.block _ (a9 B1.out)).trans B1.out
 have f3:w1.frozen? ⟨w.heap.size,3,none⟩=false:=by simp [World.frozen?,k0]
 have cl1:=a9 k0
 have c31:w1.cell? ⟨w.heap.size,3,none⟩=some (.slice A n c):=by rw [cell_of_row _ _ 3 _ _ _ k0];rfl
 have hz:=a9 B1.out
 have t0:(w1.setCell ⟨w.heap.size,3,none⟩ (.slice A1 n1 c1)).heap[w.heap.size]?=some (.cells (aC r (.slice A1 n1 c1)).toArray 80 (0,0)):=by
  have h9:=aG k0 3 (.slice A1 n1 c1)
  exact h9
 have t1:(w1.setCell ⟨w.heap.size,3,none⟩ (.slice A1 n1 c1)).heap[w.heap.size+1]?=some (.cells (aC cG (.slice none 0 0)).toArray 80 (0,0)):=(aV (by omega)).trans k1
 have HT0:=UP t0
 have HT1:=UP t1
 have H1:=UP (eX r (.slice A1 n1 c1) rfl)
 have X1:=UP (EZ.out.tr x1)
 have O1:=UP o1
 clear t0 t1 k0 k1 c3 x1 o1 B0 B1
 go_wp2_with (first | (refine wpList_load_row rfl 80 _ rfl w.heap.size rfl 80 (aC r (.slice A1 n1 c1)).toArray (0,0) _ HT0.out Tryz.underlying80 rfl aP ?_) | (refine aL rfl 80 _ _ rfl rfl (w.heap.size+1) (aC r (.slice A1 n1 c1)).toArray rfl rfl 80 (aC cG (.slice none 0 0)).toArray HT1.out aP rfl H1.out ?_))
 refine bodyPost_ret (v:=.agg (aC r (.slice A1 n1 c1)).toArray) ?_ rfl ⟨A1,n1,c1,rfl,?_,?_⟩
 · exact results_cell_row rfl _ _ (w.heap.size+1) 80 (aC r (.slice A1 n1 c1)).toArray (0,0) _ rfl (bE HT1.out) Tryz.underlying80 rfl aP
 · have hh:w.heap.size<wz.heap.size:=by omega
   exact ((O1.out.grown (Gb.set w.heap.size 3 w1 _) (.inr fun q=>by have:=aT O1.out _ q;omega)).grown (Gb.setRow (w.heap.size+1) _ _) (.inr fun q=>by have:=aT O1.out _ q;omega)).mono (by omega)
 · exact aR (aI X1.out (TM _)) (by omega) _
def MM:DV:=⟨[],0,0,[],cP,0,0⟩
theorem QW (r:DV) (v:Value) (h:v.oneCell'=true):(cO r v).toArray.all (·.oneCell')=true:=by
 rw [List.all_toArray,List.all_eq_true]
 exact kD.one r v h
set_option maxHeartbeats 4000000 in
theorem MN (r:DV) (v:Value) (w:World) (hv:RdK w 5 v (hO r.defs)) (hl:r.defs.length≤1000000):Calls Tryz.prog 171 #[.agg (cO r v).toArray] w fun e w'=>∃ A n c,e=.returned (.agg (cO r (.slice A n c)).toArray)∧aJ w' w.heap.size 177 5 (.slice A n c) (hO r.defs)∧Ext w w':=by
 obtain ⟨wz,hwz⟩:∃ wz,wz=(w.alloc (.cells #[.string (aH r.st),.int .i64 r.num,.int .i64 r.day,v,.string (aH r.sg.st),.int .i64 r.sg.kind,.int .i64 r.sg.num,.int .i64 r.sg.iss,.int .i64 r.sg.own,.int .i64 r.sg.key,.int .i64 r.sg.fr,.int .i64 r.sg.un,.int .i64 r.sg.to,.int .i64 r.sg.e,.int .i64 r.sg.s,.int .i64 r.e,.int .i64 r.s] 121)).alloc (.cells #[.string ⟨#[]⟩,.int .i64 0,.int .i64 0,.slice none 0 0,.string ⟨#[]⟩,.int .i64 0,.int .i64 0,.int .i64 0,.int .i64 0,.int .i64 0,.int .i64 0,.int .i64 0,.int .i64 0,.int .i64 0,.int .i64 0,.int .i64 0,.int .i64 0] 121):=⟨_,rfl⟩
 have e1:Ext w (w.alloc (.cells #[.string (aH r.st),.int .i64 r.num,.int .i64 r.day,v,.string (aH r.sg.st),.int .i64 r.sg.kind,.int .i64 r.sg.num,.int .i64 r.sg.iss,.int .i64 r.sg.own,.int .i64 r.sg.key,.int .i64 r.sg.fr,.int .i64 r.sg.un,.int .i64 r.sg.to,.int .i64 r.sg.e,.int .i64 r.sg.s,.int .i64 r.e,.int .i64 r.s] 121)):=(Below.refl _ _).alloc (TM _) _
 have ez:Ext w wz:=by rw [hwz];exact e1.alloc (by simp) _
 have b0:wz.heap[w.heap.size]?=some (.cells (cO r v).toArray 121 (0,0)):=by
  rw [hwz]
  exact (((Below.refl _ _).alloc (TM _) _:Ext (w.alloc (.cells #[.string (aH r.st),.int .i64 r.num,.int .i64 r.day,v,.string (aH r.sg.st),.int .i64 r.sg.kind,.int .i64 r.sg.num,.int .i64 r.sg.iss,.int .i64 r.sg.own,.int .i64 r.sg.key,.int .i64 r.sg.fr,.int .i64 r.sg.un,.int .i64 r.sg.to,.int .i64 r.sg.e,.int .i64 r.sg.s,.int .i64 r.e,.int .i64 r.s] 121)) _).block _ (by simp)).trans (aB w _)
 have b1:wz.heap[w.heap.size+1]?=some (.cells (cO MM (.slice none 0 0)).toArray 121 (0,0)):=by
  have:=aB (w.alloc (.cells #[.string (aH r.st),.int .i64 r.num,.int .i64 r.day,v,.string (aH r.sg.st),.int .i64 r.sg.kind,.int .i64 r.sg.num,.int .i64 r.sg.iss,.int .i64 r.sg.own,.int .i64 r.sg.key,.int .i64 r.sg.fr,.int .i64 r.sg.un,.int .i64 r.sg.to,.int .i64 r.sg.e,.int .i64 r.sg.s,.int .i64 r.e,.int .i64 r.s] 121)) (.cells #[.string ⟨#[]⟩,.int .i64 0,.int .i64 0,.slice none 0 0,.string ⟨#[]⟩,.int .i64 0,.int .i64 0,.int .i64 0,.int .i64 0,.int .i64 0,.int .i64 0,.int .i64 0,.int .i64 0,.int .i64 0,.int .i64 0,.int .i64 0,.int .i64 0] 121)
  rw [show (w.alloc (.cells #[.string (aH r.st),.int .i64 r.num,.int .i64 r.day,v,.string (aH r.sg.st),.int .i64 r.sg.kind,.int .i64 r.sg.num,.int .i64 r.sg.iss,.int .i64 r.sg.own,.int .i64 r.sg.key,.int .i64 r.sg.fr,.int .i64 r.sg.un,.int .i64 r.sg.to,.int .i64 r.sg.e,.int .i64 r.sg.s,.int .i64 r.e,.int .i64 r.s] 121)).heap.size=w.heap.size+1 by simp] at this
  rw [hwz]
  exact this
 have HR:=UP (RdK.ext hv ez)
 have HL:=UP hl
 have EZ:=UP ez
 have c3:wz.cell? ⟨w.heap.size,3,none⟩=some v:=by rw [cell_of_row wz w.heap.size 3 _ _ _ b0];rfl
 have cl:=a9 b0
 have B0:=UP b0
 have B1:=UP b1
 clear b0 b1 e1 ez hv hl
 obtain ⟨A,n,c,rfl,-⟩:=id HR.out
 unfold cO
 go_enter Tryz.func171,Tryz.ntmps171
 go_wp2_with fail
 rw [← hwz]
 clear hwz
 refine (F3 _ HR.out HL.out).mono ?_
 rintro e w1 ⟨A1,n1,c1,rfl,o1,x1⟩
 have k0:=(x1.block _ cl).trans B0.out
 have k1:=(x1.block _ (a9 B1.out)).trans B1.out
 have f3:w1.frozen? ⟨w.heap.size,3,none⟩=false:=by simp [World.frozen?,k0]
 have cl1:=a9 k0
 have c31:w1.cell? ⟨w.heap.size,3,none⟩=some (.slice A n c):=by rw [cell_of_row _ _ 3 _ _ _ k0];rfl
 have hz:=a9 B1.out
 have t0:(w1.setCell ⟨w.heap.size,3,none⟩ (.slice A1 n1 c1)).heap[w.heap.size]?=some (.cells (cO r (.slice A1 n1 c1)).toArray 121 (0,0)):=by
  have h9:=aG k0 3 (.slice A1 n1 c1)
  exact h9
 have t1:(w1.setCell ⟨w.heap.size,3,none⟩ (.slice A1 n1 c1)).heap[w.heap.size+1]?=some (.cells (cO MM (.slice none 0 0)).toArray 121 (0,0)):=(aV (by omega)).trans k1
 have HT0:=UP t0
 have HT1:=UP t1
 have H1:=UP (QW r (.slice A1 n1 c1) rfl)
 have X1:=UP (EZ.out.tr x1)
 have O1:=UP o1
 clear t0 t1 k0 k1 c3 x1 o1 B0 B1
 go_wp2_with (first | (refine wpList_load_row rfl 121 _ rfl w.heap.size rfl 121 (cO r (.slice A1 n1 c1)).toArray (0,0) _ HT0.out Tryz.underlying121 rfl tL ?_) | (refine aL rfl 121 _ _ rfl rfl (w.heap.size+1) (cO r (.slice A1 n1 c1)).toArray rfl rfl 121 (cO MM (.slice none 0 0)).toArray HT1.out tL rfl H1.out ?_))
 refine bodyPost_ret (v:=.agg (cO r (.slice A1 n1 c1)).toArray) ?_ rfl ⟨A1,n1,c1,rfl,?_,?_⟩
 · exact results_cell_row rfl _ _ (w.heap.size+1) 121 (cO r (.slice A1 n1 c1)).toArray (0,0) _ rfl (bE HT1.out) Tryz.underlying121 rfl tL
 · have hh:w.heap.size<wz.heap.size:=by omega
   exact ((O1.out.grown (Gb.set w.heap.size 3 w1 _) (.inr fun q=>by have:=aT O1.out _ q;omega)).grown (Gb.setRow (w.heap.size+1) _ _) (.inr fun q=>by have:=aT O1.out _ q;omega)).mono (by omega)
 · exact aR (aI X1.out (TM _)) (by omega) _
def qF (m:MA) (e s:Int):MA:=⟨m.st,m.num,m.day,m.roots,m.sg,e,s⟩
def fV (k:Int) (m:MA):MA:=if ckM m=0∧sK k=0 then qF m (sE k (hU m)) (sS k (hU m)) else cG
def nZ (k:Int) (m:MA):Int:=if ckM m=0 then sK k else ckM m
theorem zH (m:MA):(byM m).length≤4096:=by
 unfold byM
 split
 · rename_i h;exact mQ h
 · simp
def S5 (w:World) (v:Value) (m:MA) (k:Int) (e:Ending) (w':World):Prop:=∃ A n c,e=.returned (.tuple #[maV m (.slice A n c),.int .i64 k])∧RdN w' (.slice A n c) m.roots∧Ext w w'∧(.slice A n c=v ∨ .slice A n c=Value.slice none 0 0)
theorem bA.frozen {w:World}{g:Nat}{m:MA}{v:Value} (h:bA w g m v) (i:Nat):w.frozen? ⟨g,i,none⟩=false:=by
 unfold bA at h
 simp [World.frozen?,h]
theorem bA.setSig {w:World}{g:Nat}{m:MA}{v:Value} (h:bA w g m v) (e s:Int):bA ((w.setCell ⟨g,15,none⟩ (.int .i64 e)).setCell ⟨g,16,none⟩ (.int .i64 s)) g (qF m e s) v:=by
 have h9:=aG (aG h 15 (.int .i64 e)) 16 (.int .i64 s)
 exact h9
theorem bA.other {w:World}{g b i:Nat}{m:MA}{v u:Value} (h:bA w g m v) (hne:g≠b):bA (w.setCell ⟨b,i,none⟩ u) g m v:=(aV hne).trans h
structure PE (w wz:World) (m:MA) (v:Value):Prop where
 ext:Ext w wz
 c:bA wz w.heap.size m v
 r:bA wz (w.heap.size+1) cG (.slice none 0 0)
theorem F4 (w:World) (a:MA) (v:Value):∃ wz,wz=(w.alloc (.cells #[.string (aH a.st),.int .i64 a.num,.int .i64 a.day,v,.string (aH a.sg.st),.int .i64 a.sg.kind,.int .i64 a.sg.num,.int .i64 a.sg.iss,.int .i64 a.sg.own,.int .i64 a.sg.key,.int .i64 a.sg.fr,.int .i64 a.sg.un,.int .i64 a.sg.to,.int .i64 a.sg.e,.int .i64 a.sg.s,.int .i64 a.e,.int .i64 a.s] 80)).alloc (.cells #[.string ⟨#[]⟩,.int .i64 0,.int .i64 0,.slice none 0 0,.string ⟨#[]⟩,.int .i64 0,.int .i64 0,.int .i64 0,.int .i64 0,.int .i64 0,.int .i64 0,.int .i64 0,.int .i64 0,.int .i64 0,.int .i64 0,.int .i64 0,.int .i64 0] 80)∧PE w wz a v:=by
 have e1:Ext w (w.alloc (.cells #[.string (aH a.st),.int .i64 a.num,.int .i64 a.day,v,.string (aH a.sg.st),.int .i64 a.sg.kind,.int .i64 a.sg.num,.int .i64 a.sg.iss,.int .i64 a.sg.own,.int .i64 a.sg.key,.int .i64 a.sg.fr,.int .i64 a.sg.un,.int .i64 a.sg.to,.int .i64 a.sg.e,.int .i64 a.sg.s,.int .i64 a.e,.int .i64 a.s] 80)):=(Below.refl _ _).alloc (TM _) _
 have e2:Ext (w.alloc (.cells #[.string (aH a.st),.int .i64 a.num,.int .i64 a.day,v,.string (aH a.sg.st),.int .i64 a.sg.kind,.int .i64 a.sg.num,.int .i64 a.sg.iss,.int .i64 a.sg.own,.int .i64 a.sg.key,.int .i64 a.sg.fr,.int .i64 a.sg.un,.int .i64 a.sg.to,.int .i64 a.sg.e,.int .i64 a.sg.s,.int .i64 a.e,.int .i64 a.s] 80)) ((w.alloc (.cells #[.string (aH a.st),.int .i64 a.num,.int .i64 a.day,v,.string (aH a.sg.st),.int .i64 a.sg.kind,.int .i64 a.sg.num,.int .i64 a.sg.iss,.int .i64 a.sg.own,.int .i64 a.sg.key,.int .i64 a.sg.fr,.int .i64 a.sg.un,.int .i64 a.sg.to,.int .i64 a.sg.e,.int .i64 a.sg.s,.int .i64 a.e,.int .i64 a.s] 80)).alloc (.cells #[.string ⟨#[]⟩,.int .i64 0,.int .i64 0,.slice none 0 0,.string ⟨#[]⟩,.int .i64 0,.int .i64 0,.int .i64 0,.int .i64 0,.int .i64 0,.int .i64 0,.int .i64 0,.int .i64 0,.int .i64 0,.int .i64 0,.int .i64 0,.int .i64 0] 80)):=(Below.refl _ _).alloc (TM _) _
 refine ⟨_,rfl,e1.tr e2,(e2.block _ (by simp)).trans (aB w _),?_⟩
 have:=aB (w.alloc (.cells #[.string (aH a.st),.int .i64 a.num,.int .i64 a.day,v,.string (aH a.sg.st),.int .i64 a.sg.kind,.int .i64 a.sg.num,.int .i64 a.sg.iss,.int .i64 a.sg.own,.int .i64 a.sg.key,.int .i64 a.sg.fr,.int .i64 a.sg.un,.int .i64 a.sg.to,.int .i64 a.sg.e,.int .i64 a.sg.s,.int .i64 a.e,.int .i64 a.s] 80)) (.cells #[.string ⟨#[]⟩,.int .i64 0,.int .i64 0,.slice none 0 0,.string ⟨#[]⟩,.int .i64 0,.int .i64 0,.int .i64 0,.int .i64 0,.int .i64 0,.int .i64 0,.int .i64 0,.int .i64 0,.int .i64 0,.int .i64 0,.int .i64 0,.int .i64 0] 80)
 rw [show (w.alloc (.cells #[.string (aH a.st),.int .i64 a.num,.int .i64 a.day,v,.string (aH a.sg.st),.int .i64 a.sg.kind,.int .i64 a.sg.num,.int .i64 a.sg.iss,.int .i64 a.sg.own,.int .i64 a.sg.key,.int .i64 a.sg.fr,.int .i64 a.sg.un,.int .i64 a.sg.to,.int .i64 a.sg.e,.int .i64 a.sg.s,.int .i64 a.e,.int .i64 a.s] 80)).heap.size=w.heap.size+1 by simp] at this
 exact this
theorem PE.tr {w wz wy:World}{m:MA}{v:Value} (h:PE w wz m v) (e:Ext wz wy):PE w wy m v:=⟨h.ext.tr e,h.c.ext e,h.r.ext e⟩
set_option maxHeartbeats 8000000 in
theorem wO (k:Int) (a:MA) (v:Value) (w:World) (hv:RdN w v a.roots) (hs:smL a.roots) (hg:smN a.sg) (ht:a.st.length≤maxLen) (E:dN w 0):Calls Tryz.prog 63 #[.int .i64 k,maV a v] w (S5 w v (fV k a) (nZ k a)):=by
 obtain ⟨wz,hwz,Tz⟩:=F4 w a v
 have HB:=UP (fun W (e:Ext w W)=>qE a v W (RdK.ext hv e) hs hg ht (E.below e))
 have HV:=UP (fun W (e:Ext w W)=>(RdK.ext hv e:RdN W v a.roots))
 obtain ⟨A,n,cp,rfl,hn,-⟩:=hv.at_
 subst hn
 have TZ:=UP Tz
 have HE:=UP E
 clear hv hs hg ht Tz E
 unfold maV aC
 go_enter Tryz.func63,Tryz.ntmps63
 go_upto_region 1 with fail
 rw [← hwz]
 clear hwz
 have HR0:=UP TZ.out.c.row
 go_wp2_with (refine wpList_load_row rfl 80 _ rfl (w.heap.size) rfl 80 (aC a (.slice A a.roots.length cp)).toArray (0,0) _ HR0.out Tryz.underlying80 rfl aP ?_)
 refine (HB.out wz TZ.out.ext).mono ?_
 rintro e w1 ⟨A1,n1,c1,rfl,hn1,r1,b1⟩
 have T1:=UP (TZ.out.tr b1)
 have HRB:=UP r1
 clear b1 TZ HR0 r1 hn1 HB
 have hlr:=T1.out.r.lt
 have hlc:=T1.out.c.lt
 have HZA:=UP (eX cG (.slice none 0 0) rfl)
 by_cases hc:ckM a=0
 case neg =>
  have HI:=UP (show fV k a=cG from if_neg (fun q=>hc q.1))
  have HJ:=UP (show nZ k a=ckM a from if_neg hc)
  have hb:(ckM a != 0)=true:=by simpa using hc
  clear hc
  have HZ:=UP T1.out.r.row
  go_wp2_with (refine aL rfl 80 _ _ rfl rfl (w.heap.size+1) (aC cG (.slice none 0 0)).toArray rfl rfl 80 (aC cG (.slice none 0 0)).toArray HZ.out aP rfl HZA.out ?_)
  have HY:=UP (bE (cells:=(aC cG (.slice none 0 0)).toArray) HZ.out)
  refine bodyPost_ret (v:=.tuple #[.agg (aC cG (.slice none 0 0)).toArray,.int .i64 (ckM a)]) ?_ rfl ⟨none,0,0,by rw [HI.out,HJ.out];rfl,by rw [HI.out];exact RdK.nil_ _ _ _,aR T1.out.ext (by omega) _,.inr rfl⟩
  simp [results,Tryz.results63,asAddr,run_loadVar_row _ (w.heap.size+1) 80 80 (aC cG (.slice none 0 0)).toArray (0,0) _ HY.out Tryz.underlying80 rfl aP]
 have HK:=UP hc
 have hlen:=zH a
 have HBY:=UP (show byM a=hU a from if_pos hc)
 rw [hc]
 clear hc
 go_wp2_with fail
 refine (rZ k _ HRB.out (by omega) (HE.out.below T1.out.ext)).mono ?_
 rintro e w2 ⟨rfl,b2⟩
 have T2:=UP (T1.out.tr b2)
 clear T1 hlr hlc b2
 unfold sgV
 rw [HBY.out]
 obtain ⟨es,hes⟩:∃ es,sE k (hU a)=es:=⟨_,rfl⟩
 obtain ⟨ss,hss⟩:∃ ss,sS k (hU a)=ss:=⟨_,rfl⟩
 rw [hes,hss]
 have HES:=UP hes
 have HSS:=UP hss
 clear hes hss
 obtain ⟨wa,hwa,sa⟩:=uJ w2 es ss
 have T3:=UP (T2.out.tr sa.ext)
 have s0:=sa.c0
 have s1:=sa.c1
 have sl:=sa.lt
 clear sa
 have HZ3:=UP T3.out.r
 by_cases hk:sK k=0
 case neg =>
  have HI:=UP (show fV k a=cG from if_neg (fun q=>hk q.2))
  have HJ:=UP (show nZ k a=sK k from if_pos HK.out)
  have hb:(sK k != 0)=true:=by simpa using hk
  clear hk
  have HZ:=UP HZ3.out.row
  go_upto_region 5 with fail
  rw [← hwa]
  clear hwa
  go_wp2_with (refine aL rfl 80 _ _ rfl rfl (w.heap.size+1) (aC cG (.slice none 0 0)).toArray rfl rfl 80 (aC cG (.slice none 0 0)).toArray HZ.out aP rfl HZA.out ?_)
  have HY:=UP (bE (cells:=(aC cG (.slice none 0 0)).toArray) HZ.out)
  refine bodyPost_ret (v:=.tuple #[.agg (aC cG (.slice none 0 0)).toArray,.int .i64 (sK k)]) ?_ rfl ⟨none,0,0,by rw [HI.out,HJ.out];rfl,by rw [HI.out];exact RdK.nil_ _ _ _,aR T3.out.ext (by omega) _,.inr rfl⟩
  simp [results,Tryz.results63,asAddr,run_loadVar_row _ (w.heap.size+1) 80 80 (aC cG (.slice none 0 0)).toArray (0,0) _ HY.out Tryz.underlying80 rfl aP]
 have HI:=UP (show fV k a=qF a es ss by rw [← HES.out,← HSS.out];exact if_pos ⟨HK.out,hk⟩)
 have HJ:=UP (show nZ k a=0 by unfold nZ;rw [if_pos HK.out,hk])
 rw [hk]
 clear hk
 go_upto_region 5 with fail
 rw [← hwa]
 clear hwa
 have f15:=T3.out.c.frozen 15
 have f16:=T3.out.c.frozen 16
 have c15:=T3.out.c.c15
 have c16:=T3.out.c.c16
 have hl0:=T3.out.c.lt
 have HZ:=UP (((HZ3.out.other (b:=w.heap.size) (i:=15) (u:=.int .i64 es) (by omega)).other (b:=w.heap.size) (i:=16) (u:=.int .i64 ss) (by omega)).row)
 have HS:=UP ((T3.out.c.setSig es ss).row)
 have HNA:=UP (eX (qF a es ss) (.slice A a.roots.length cp) rfl)
 go_wp2_with (first | (refine wpList_load_row rfl 80 _ rfl (w.heap.size) rfl 80 (aC (qF a es ss) (.slice A a.roots.length cp)).toArray (0,0) _ HS.out Tryz.underlying80 rfl aP ?_) | (refine aL rfl 80 _ _ rfl rfl (w.heap.size+1) (aC (qF a es ss) (.slice A a.roots.length cp)).toArray rfl rfl 80 (aC cG (.slice none 0 0)).toArray HZ.out aP rfl HNA.out ?_))
 have HY:=UP (bE (cells:=(aC (qF a es ss) (.slice A a.roots.length cp)).toArray) HZ.out)
 have XZ:=UP (aR (g:=w.heap.size+1) (aI (i:=16) (v:=.int .i64 ss) (aI (i:=15) (v:=.int .i64 es) T3.out.ext (TM _)) (TM _)) (Nat.le_succ _) (aC (qF a es ss) (.slice A a.roots.length cp)).toArray)
 refine bodyPost_ret (v:=.tuple #[.agg (aC (qF a es ss) (.slice A a.roots.length cp)).toArray,.int .i64 0]) ?_ rfl ⟨A,_,cp,by rw [HI.out,HJ.out];rfl,by rw [HI.out];exact HV.out _ XZ.out,XZ.out,.inl rfl⟩
 simp [results,Tryz.results63,asAddr,run_loadVar_row _ (w.heap.size+1) 80 80 (aC (qF a es ss) (.slice A a.roots.length cp)).toArray (0,0) _ HY.out Tryz.underlying80 rfl aP]
theorem F5 {α:Type}{l:List α}{y:α}{k:Nat} (h:l[k]?=some y):l.take (k+1)=l.take k++[y]:=by
 obtain ⟨hk,rfl⟩:=List.getElem?_eq_some_iff.1 h
 exact List.take_succ_eq_append_getElem hk
def rtT (S:ST) (k:Nat):List NC:=(S.ms.take k).foldl (fun out m=>eG out m.roots) (eG [] S.roots)
theorem CT {S:ST}{k:Nat}{t:MA} (h:S.ms[k]?=some t):rtT S (k+1)=eG (rtT S k) t.roots:=by
 unfold rtT
 rw [F5 h,List.foldl_append]
 rfl
theorem GH (S:ST):rtT S S.ms.length=j2 S:=by
 unfold rtT j2
 rw [List.take_length]
theorem GJ {S:ST} (h:StB S) (k:Nat):(rtT S k).length≤210000:=by
 have h1:=mP (S.ms.take k) (eG [] S.roots) fun x hx=>(h.m x (List.mem_of_mem_take hx)).2
 have h2:=lJ [] S.roots
 have h3:=h.lr
 have h4:=h.lm
 have h6:(S.ms.take k).length≤20:=by rw [UJ];omega
 have h5:(S.ms.take k).length*10000≤20*10000:=Nat.mul_le_mul_right _ h6
 rw [U7] at h2
 unfold rtT
 omega
set_option maxHeartbeats 4000000 in
theorem xX (s0 s1 s2 s3 s4:SlT) (S:ST) (w:World) (h0:RdN w (slV s0) S.roots) (h2:RdX kM w (slV s2) S.ms) (hB:StB S):Calls Tryz.prog 57 #[cC s0 s1 s2 s3 s4] w (J3 w (j2 S)):=by
 obtain ⟨A',n',c',hs,hn,hnc,hcm,hel⟩:=h2.at_
 obtain ⟨A,n,cp⟩:=s2
 unfold slV at hs
 injection hs with hs1 hs2 hs3
 simp only at hs1 hs2 hs3
 subst hs1 hs2 hs3 hn
 obtain ⟨ws,hws⟩:∃ ws,ws=w.alloc (.cells #[.slice s0.1 s0.2.1 s0.2.2,.slice s1.1 s1.2.1 s1.2.2,.slice A S.ms.length cp,.slice s3.1 s3.2.1 s3.2.2,.slice s4.1 s4.2.1 s4.2.2] 75):=⟨_,rfl⟩
 have es:Ext w ws:=by rw [hws];exact (Below.refl _ _).alloc (TM _) _
 have hsz:ws.heap.size=w.heap.size+1:=by rw [hws];simp
 have hb:ws.heap[w.heap.size]?=some (.cells #[.slice s0.1 s0.2.1 s0.2.2,.slice s1.1 s1.2.1 s1.2.2,.slice A S.ms.length cp,.slice s3.1 s3.2.1 s3.2.2,.slice s4.1 s4.2.1 s4.2.2] 75 (0,0)):=by rw [hws];exact aB w _
 obtain ⟨wz,hwz⟩:∃ wz,wz=ws.alloc (.cells #[.slice none 0 0] 51):=⟨_,rfl⟩
 have ez:Ext ws wz:=by rw [hwz];exact (Below.refl _ _).alloc (TM _) _
 have IZ:AdI wz ws.heap.size ws.heap.size ([]:List NC):=⟨none,0,by rw [hwz];exact aB ws _,aJ.empty _ _ _ _ _⟩
 have HLR:=UP (GJ hB)
 have HMB:=UP hB.m
 have h00:S.roots.length≤10000:=hB.lr
 have HA0:=UP (show Calls Tryz.prog 147 #[.slice s0.1 s0.2.1 s0.2.2,.pointer (some ⟨ws.heap.size,0,none⟩)] wz _ from CM ws wz (RdK.ext h0 es) (TM _) IZ ez (by rw [U7];omega))
 have HAN:=UP (fun (u:Value) (l L:List NC) (W:World) (hu:RdN ws u l) (I:AdI W ws.heap.size ws.heap.size L) (X:Ext ws W) (hl:L.length+l.length≤1000000)=>CM ws W hu (TM _) I X hl)
 have ES:=UP es
 have HBK:=UP hb
 have HEL:=UP hel
 have HALL:=UP (GH S)
 unfold maxLen at hcm
 rw [hsz] at HA0 HAN
 rw [hws] at hwz
 clear h0 h2 hB es hb ez IZ hel h00
 unfold cC
 go_enter Tryz.func57,Tryz.ntmps57
 go_wp2_with fail
 rw [← hwz]
 refine HA0.out.mono ?_
 rintro e w1 ⟨rfl,I1,X1⟩
 have HI1:=UP (show AdI w1 (w.heap.size+1) (w.heap.size+1) (rtT S 0) from I1)
 have c2:w1.cell? ⟨w.heap.size,2,none⟩=some (.slice A S.ms.length cp):=by rw [cell_of_row w1 _ 2 _ _ _ ((X1.block _ (a9 HBK.out)).trans HBK.out)];rfl
 have cl:w.heap.size<w1.heap.size:=UI (a9 HBK.out) X1.size
 have HX1:=UP X1
 clear I1 X1 hwz hws HA0
 go_upto_region 5 with fail
 clear c2 cl
 go_loopw [15] (fun s15 wr=>∃ k:Nat,k≤S.ms.length∧s15=.int .i64 (k:Int)∧Hid (AdI wr (w.heap.size+1) (w.heap.size+1) (rtT S k))∧Hid (Ext ws wr)) (fun s15 _=>S.ms.length - (intOf s15).toNat)
 case atStart=>exact ⟨0,U4 _,rfl,HI1,HX1⟩
 case round =>
  obtain ⟨k,hk,rfl,I,X⟩:=hrel
  by_cases hlt:k<S.ms.length
  case neg =>
   obtain rfl:k=S.ms.length:=by omega
   have HI:=UP (show AdI wr (w.heap.size+1) (w.heap.size+1) (j2 S) by have:=I.out;rwa [HALL.out] at this)
   clear I
   obtain ⟨Ao,co,hb,ho⟩:=HI.out
   have cg:wr.cell? ⟨w.heap.size+1,0,none⟩=some (.slice Ao (j2 S).length co):=by rw [cell_of_row wr _ 0 _ _ _ hb];rfl
   have gl:=a9 hb
   have HO:=UP ho
   clear hb ho
   go_wp2_with fail
   go_ret
   exact ⟨ES.out.tr X.out,_,_,rfl,HO.out.rd⟩
  case pos =>
  obtain ⟨t,ht⟩:∃ t,S.ms[k]?=some t:=⟨_,U5 hlt⟩
  obtain ⟨b,o,rfl,hbl,u,hcell,hu⟩:=HEL.out k t ht
  have HSN:=UP (CT ht)
  have HLT:=UP (HMB.out t (UC ht)).2
  obtain ⟨Au,nu,cu,rfl,-⟩:=id hu
  have HU0:=UP (RdK.ext hu ES.out)
  have XW:=UP (ES.out.tr X.out)
  clear ht hu
  have wi1:IntKind.i64.wrap ((k:Int))=(k:Int):=IntWalk.i64_in _ (by omega)
  have zi1:(0:Int)≤(k:Int):=by omega
  have li1:(k:Int)<(S.ms.length:Int):=by omega
  have ti1:((k:Int)).toNat=k:=by omega
  have wk:IntKind.i64.wrap ((k:Int)+1)=(k:Int)+1:=IntWalk.i64_in _ (by omega)
  have l0:wr.cell? ⟨b,o+k*17,none⟩=some (.string (aH t.st)):=by
   have:=(XW.out.cell (p:=⟨b,o+(k*17+0),none⟩) hbl).trans (hcell 0 _ rfl)
   exact this
  have l1:wr.cell? ⟨b,o+k*17+1,none⟩=some (.int .i64 t.num):=by
   have:=(XW.out.cell (p:=⟨b,o+(k*17+1),none⟩) hbl).trans (hcell 1 _ rfl)
   rwa [← TW] at this
  have l2:wr.cell? ⟨b,o+k*17+2,none⟩=some (.int .i64 t.day):=by
   have:=(XW.out.cell (p:=⟨b,o+(k*17+2),none⟩) hbl).trans (hcell 2 _ rfl)
   rwa [← TW] at this
  have l3:wr.cell? ⟨b,o+k*17+3,none⟩=some (.slice Au nu cu):=by
   have:=(XW.out.cell (p:=⟨b,o+(k*17+3),none⟩) hbl).trans (hcell 3 _ rfl)
   rwa [← TW] at this
  have l4:wr.cell? ⟨b,o+k*17+4,none⟩=some (.string (aH t.sg.st)):=by
   have:=(XW.out.cell (p:=⟨b,o+(k*17+4),none⟩) hbl).trans (hcell 4 _ rfl)
   rwa [← TW] at this
  have l5:wr.cell? ⟨b,o+k*17+5,none⟩=some (.int .i64 t.sg.kind):=by
   have:=(XW.out.cell (p:=⟨b,o+(k*17+5),none⟩) hbl).trans (hcell 5 _ rfl)
   rwa [← TW] at this
  have l6:wr.cell? ⟨b,o+k*17+6,none⟩=some (.int .i64 t.sg.num):=by
   have:=(XW.out.cell (p:=⟨b,o+(k*17+6),none⟩) hbl).trans (hcell 6 _ rfl)
   rwa [← TW] at this
  have l7:wr.cell? ⟨b,o+k*17+7,none⟩=some (.int .i64 t.sg.iss):=by
   have:=(XW.out.cell (p:=⟨b,o+(k*17+7),none⟩) hbl).trans (hcell 7 _ rfl)
   rwa [← TW] at this
  have l8:wr.cell? ⟨b,o+k*17+8,none⟩=some (.int .i64 t.sg.own):=by
   have:=(XW.out.cell (p:=⟨b,o+(k*17+8),none⟩) hbl).trans (hcell 8 _ rfl)
   rwa [← TW] at this
  have l9:wr.cell? ⟨b,o+k*17+9,none⟩=some (.int .i64 t.sg.key):=by
   have:=(XW.out.cell (p:=⟨b,o+(k*17+9),none⟩) hbl).trans (hcell 9 _ rfl)
   rwa [← TW] at this
  have l10:wr.cell? ⟨b,o+k*17+10,none⟩=some (.int .i64 t.sg.fr):=by
   have:=(XW.out.cell (p:=⟨b,o+(k*17+10),none⟩) hbl).trans (hcell 10 _ rfl)
   rwa [← TW] at this
  have l11:wr.cell? ⟨b,o+k*17+11,none⟩=some (.int .i64 t.sg.un):=by
   have:=(XW.out.cell (p:=⟨b,o+(k*17+11),none⟩) hbl).trans (hcell 11 _ rfl)
   rwa [← TW] at this
  have l12:wr.cell? ⟨b,o+k*17+12,none⟩=some (.int .i64 t.sg.to):=by
   have:=(XW.out.cell (p:=⟨b,o+(k*17+12),none⟩) hbl).trans (hcell 12 _ rfl)
   rwa [← TW] at this
  have l13:wr.cell? ⟨b,o+k*17+13,none⟩=some (.int .i64 t.sg.e):=by
   have:=(XW.out.cell (p:=⟨b,o+(k*17+13),none⟩) hbl).trans (hcell 13 _ rfl)
   rwa [← TW] at this
  have l14:wr.cell? ⟨b,o+k*17+14,none⟩=some (.int .i64 t.sg.s):=by
   have:=(XW.out.cell (p:=⟨b,o+(k*17+14),none⟩) hbl).trans (hcell 14 _ rfl)
   rwa [← TW] at this
  have l15:wr.cell? ⟨b,o+k*17+15,none⟩=some (.int .i64 t.e):=by
   have:=(XW.out.cell (p:=⟨b,o+(k*17+15),none⟩) hbl).trans (hcell 15 _ rfl)
   rwa [← TW] at this
  have l16:wr.cell? ⟨b,o+k*17+16,none⟩=some (.int .i64 t.s):=by
   have:=(XW.out.cell (p:=⟨b,o+(k*17+16),none⟩) hbl).trans (hcell 16 _ rfl)
   rwa [← TW] at this
  clear hcell
  obtain ⟨wn,hwn⟩:∃ wn,wn=wr.alloc (.cells #[.string (aH t.st),.int .i64 t.num,.int .i64 t.day,.slice Au nu cu,.string (aH t.sg.st),.int .i64 t.sg.kind,.int .i64 t.sg.num,.int .i64 t.sg.iss,.int .i64 t.sg.own,.int .i64 t.sg.key,.int .i64 t.sg.fr,.int .i64 t.sg.un,.int .i64 t.sg.to,.int .i64 t.sg.e,.int .i64 t.sg.s,.int .i64 t.e,.int .i64 t.s] 80):=⟨_,rfl⟩
  have en:Ext wr wn:=by rw [hwn];exact (Below.refl _ _).alloc (TM _) _
  have bn:wn.heap[wr.heap.size]?=some (.cells #[.string (aH t.st),.int .i64 t.num,.int .i64 t.day,.slice Au nu cu,.string (aH t.sg.st),.int .i64 t.sg.kind,.int .i64 t.sg.num,.int .i64 t.sg.iss,.int .i64 t.sg.own,.int .i64 t.sg.key,.int .i64 t.sg.fr,.int .i64 t.sg.un,.int .i64 t.sg.to,.int .i64 t.sg.e,.int .i64 t.sg.s,.int .i64 t.e,.int .i64 t.s] 80 (0,0)):=by rw [hwn];exact aB wr _
  have u3:wn.cell? ⟨wr.heap.size,3,none⟩=some (.slice Au nu cu):=by rw [cell_of_row wn _ 3 _ _ _ bn];rfl
  have ul:=a9 bn
  have HCA:=UP (HAN.out (.slice Au nu cu) t.roots (rtT S k) wn HU0.out (I.out.ext en) (X.out.tr en) (by have:=HLR.out k;have:=HLT.out;omega))
  clear I X en bn
  go_upto_region 7 with fail
  rw [← hwn]
  clear hwn l0 l1 l2 l3 l4 l5 l6 l7 l8 l9 l10 l11 l12 l13 l14 l15 l16
  go_wp2_with fail
  refine HCA.out.mono ?_
  rintro e w8 ⟨rfl,I8,X8⟩
  have HI8:=UP (show AdI w8 (w.heap.size+1) (w.heap.size+1) (rtT S (k+1)) by rw [HSN.out];exact I8)
  have HX8:=UP X8
  clear I8 X8 u3 ul HCA
  go_wp2_with fail
  go_roundw
  case rel=>exact ⟨k+1,by omega,by go_num,HI8,HX8⟩
  case measure=>simp [intOf];omega
end Go.Proofs.YtkjplpmogfmhkaaGreatDoor
