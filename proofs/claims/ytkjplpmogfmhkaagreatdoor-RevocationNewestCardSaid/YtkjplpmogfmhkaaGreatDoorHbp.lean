/- Parts By Bz Bx of the proof. -/
import Derived.Test.YtkjplpmogfmhkaaGreatDoorHbh
import Derived.Test.YtkjplpmogfmhkaaGreatDoorHbn
namespace Go.Proofs.YtkjplpmogfmhkaaGreatDoor
open Go.RowKit
set_option linter.unusedVariables false
set_option maxRecDepth 100000
def KN (S:List Nat) (w w':World):Prop:=∀ (e:TypeId) (b:Nat) (cs:Array Value) (fr:Nat × Nat),e ∉ S->w.heap[b]?=some (.cells cs e fr)->w'.heap[b]?=some (.cells cs e fr)
section
variable {w w' w'':World}{S:List Nat}
theorem KN.ext (e:Ext w w'):KN S w w':=fun _ b _ _ _ h=>(e.block b (aA h)).trans h
theorem KN.tr (h:KN S w w') (k:KN S w' w''):KN S w w'':=fun e b cs fr he q=>k e b cs fr he (h e b cs fr he q)
theorem KN.rg {G:Nat->Prop} (r:RgS S G w w'):KN S w w':=fun _ _ _ _ he h=>r.other h he
theorem KN.own {B T k:Nat}{v:Value}{xs:List Value} (o:aJ w B T k v xs) (hT:T ∈ S) (g:w.grownBy w' (aO v)):KN S w w':=fun t b cs fr ht h =>
 (g.block b (aA h) (fun q=>o.row_blk h (fun e=>ht (e ▸ hT)) q.symm)).trans h
theorem bQ.kn {e k:Nat}{v:Value}{xs:List Value} (h:bQ w 0 e k v xs) (he:e ∉ S) (r:KN S w w'):bQ w' 0 e k v xs:=by
 have key:∀ A n c,v=.slice A n c->0<n->∃ b o,A=some ⟨b,o,none⟩/\w'.heap[b]?=w.heap[b]?/\∃ cs fr,w'.heap[b]?=some (.cells cs e fr):=fun A n c hv hn=>by
  obtain ⟨b,o,h1,h2⟩:=h.2 A n c hv hn
  rcases h2 with h2 | ⟨cs,fr,h2⟩
  · omega
  · exact ⟨b,o,h1,(r e b cs fr he h2).trans h2.symm,cs,fr,r e b cs fr he h2⟩
 refine ⟨?_,fun A n c hv hn=>?_⟩
 · obtain ⟨A,n,c,rfl,hn,hnc,hcm,hc⟩:=h.1
   refine ⟨A,n,c,rfl,hn,hnc,hcm,fun h0=>?_⟩
   obtain ⟨b,o,rfl,hcell⟩:=hc h0
   obtain ⟨b',o',e1,e2,_⟩:=key _ n c rfl h0
   injection e1 with e1
   injection e1 with e1 e3
   subst e1 e3
   refine ⟨b,o,rfl,fun j u hu=>?_⟩
   have h1:=hcell j u hu
   unfold World.cell? at h1 ⊢
   simp only at h1 ⊢
   rw [e2]
   exact h1
 · obtain ⟨b,o,h1,_,h2⟩:=key A n c hv hn
   exact ⟨b,o,h1,.inr h2⟩
theorem aJ.kn {B e k:Nat}{v:Value}{xs:List Value} (h:aJ w B e k v xs) (he:e ∉ S) (r:KN S w w'):aJ w' B e k v xs:=by
 obtain ⟨A,n,c,h1,h2,h3⟩:=h
 refine ⟨A,n,c,h1,h2,h3.imp id ?_⟩
 rintro ⟨g,cur,q1,q2,q3,q4⟩
 exact ⟨g,cur,q1,q2,r e g _ _ he q3,q4⟩
theorem RdK.stw {k g:Nat}{v:Value}{xs:List Value}{s0 s1 s2 s3 s4:SlT}{cs:Array Value}{T:TypeId} (h:RdK w k v xs) (hk:0<k) (hx:∀ u,xs[0]?=some u->∀ A n c,u≠.slice A n c) (hg:w.heap[g]?=some (.cells (aM s0 s1 s2 s3 s4) T (0,0))):RdK (w.setRow g cs) k v xs:=by
 obtain ⟨A,n,c,rfl,hn,hnc,hcm,hc⟩:=h
 refine ⟨A,n,c,rfl,hn,hnc,hcm,fun h0=>?_⟩
 obtain ⟨b,o,rfl,hcell⟩:=hc h0
 refine ⟨b,o,rfl,fun j u hu=>?_⟩
 have hl:0<xs.length:=by rw [<- hn];exact Nat.mul_pos h0 hk
 obtain ⟨u0,hu0⟩:∃ u0,xs[0]?=some u0:=⟨_,YL hl⟩
 have hne:g≠b:=fun q=>by
  have h1:=hcell 0 u0 hu0
  subst q
  rw [cell_of_row w g _ _ _ _ hg] at h1
  have h2:u0 ∈ (aM s0 s1 s2 s3 s4).toList:=by
   rw [<- Array.getElem?_toList] at h1
   exact YS h1
  simp only [aM,List.mem_cons,List.not_mem_nil,or_false] at h2
  rcases h2 with h2 | h2 | h2 | h2 | h2 <;> exact hx u0 hu0 _ _ _ h2
 have h1:=hcell j u hu
 unfold World.cell? at h1 ⊢
 simp only at h1 ⊢
 rw [dC (fun q=>hne q.symm)]
 exact h1
end
theorem oL {l:List NC} (u:Value) (h:(aD l)[0]?=some u):∀ A n c,u≠.slice A n c:=by
 cases l with
 | nil=>simp [aD] at h
 | cons c l =>
   have e:(aD (c::l))[0]?=some (.string (aK c.st)):=rfl
   rw [e] at h
   intro A n c q
   rw [q] at h
   injection h with h
   cases h
theorem AA {l:List (RV × Value)} (u:Value) (h:(kR.cells l)[0]?=some u):∀ A n c,u≠.slice A n c:=by
 cases l with
 | nil=>simp [LK.cells] at h
 | cons c l =>
   have e:(kR.cells (c::l))[0]?=some (.string (aK c.1.st)):=rfl
   rw [e] at h
   intro A n c q
   rw [q] at h
   injection h with h
   cases h
theorem xO {l:List Int} (u:Value) (h:(aQ l)[0]?=some u):∀ A n c,u≠.slice A n c:=by
 cases l with
 | nil=>simp [aQ] at h
 | cons c l =>
   have e:(aQ (c::l))[0]?=some (.int .i64 c):=rfl
   rw [e] at h
   intro A n c q
   rw [q] at h
   injection h with h
   cases h
theorem oM {u:Value} (h:([]:List Value)[0]?=some u):∀ A n c,u≠.slice A n c:=by simp at h
theorem StR.stw {w:World}{g:Nat}{s0 s1 s2 s3 s4 t0 t1 t2 t3 t4:SlT}{cs:Array Value}{T:TypeId}{roots:List NC}{R:Nat->RV}{b:Nat} (h:StR w t0 t1 t2 t3 t4 (stN roots R b)) (hg:w.heap[g]?=some (.cells (aM s0 s1 s2 s3 s4) T (0,0))):StR (w.setRow g cs) t0 t1 t2 t3 t4 (stN roots R b):=by
 refine ⟨h.r0.stw (by decide) oL hg,h.r1.stw (by decide) oL hg,?_,?_,?_⟩
 · obtain ⟨ps,h1,h2,h3⟩:=h.r2
   obtain rfl:ps=[]:=List.map_eq_nil_iff.1 h1
   exact ⟨[],h1,h2.stw (by decide) (fun u q=>oM q) hg,fun p hp=>(by cases hp)⟩
 · obtain ⟨ps,h1,h2,h3⟩:=h.r3
   exact ⟨ps,h1,h2.stw (by decide) AA hg,fun p hp=>(h3 p hp).stw (by decide) xO hg⟩
 · obtain ⟨ps,h1,h2,h3⟩:=h.r4
   obtain rfl:ps=[]:=List.map_eq_nil_iff.1 h1
   exact ⟨[],h1,h2.stw (by decide) (fun u q=>oM q) hg,fun p hp=>(by cases hp)⟩
structure NwX (w:World) (a:AU) (li:Int) (vs:List Int) (i:Nat) (x:AB):Prop where
 st:x.st=a.st
 li:x.li=li+(i:Int)
 V:bQ w 0 3 1 x.V (aQ (nwL vs i))
 S:bQ w 0 3 1 x.S (aQ a.secs)
 one:qZ x
theorem NwX.kn {S:List Nat}{w w':World}{a:AU}{li:Int}{vs:List Int}{i:Nat}{x:AB} (h:NwX w a li vs i x) (he:3 ∉ S) (r:KN S w w'):NwX w' a li vs i x:=⟨h.st,h.li,h.V.kn he r,h.S.kn he r,h.one⟩
theorem UI {w:World}{x:AB}{a:AU}{ds:List Int}{li ks:Int}{vs:List Int}{i:Nat} (hai:AuI a ds) (hne:1<=ds.length) (hd:∀ d ∈ ds,d<=40060) (hk:a.secs[a.secs.length - 1]?=some ks) (hl:1<=li/\li<=100) (h3:vs.length<=3) (hp:vs.Pairwise (·<·)) (hv:∀ v ∈ vs,1<=v/\v<=8) (hi:i<4) (hx:NwX w a li vs i x) (E:dS w 0) :
 Calls Tryz.prog 74 #[abV x,.int .i64 (10+(i:Int)),.int .i64 40100] w (TX w x (nwL vs (i+1)) (rN a.st li vs (a.secs.length:Int) ks i) 0):=by
 have hll:=hx.li
 have h:=rC x (nwL vs i) a.secs ks (10+(i:Int)) 40100 w (RdK.r1 hx.V.rd) (RdK.r1 hx.S.rd) hk (by have:=hai.len;have:=hai.le;omega) (by rw [rD];omega) (by rw [hx.st];have:=hai.st.1.2;unfold maxLen;omega) (by omega) (by omega) (by omega) (by omega) hx.one E
 rw [QD i hv,hx.st,hx.li] at h
 have hz:=(UT hai hne hd hk hl h3 hp hv hi).1
 unfold rNb at hz
 rw [hz] at h
 exact h
structure NwJ (w wr:World) (g gs:Nat) (a:AU) (li:Int) (vs:List Int) (R:Nat->RV) (t0:SlT) (i:Nat) (x:AB) (v:Value) (ps:List (RV × Value)):Prop where
 ext:Ext w wr
 gg:w.heap.size<=g
 ggs:w.heap.size<=gs
 au:aU wr g x
 hx:NwX wr a li vs i x
 st:wr.heap[gs]?=some (.cells (aM t0 zS zS zS zS) 75 (0,0))
 rt:bQ wr 0 56 11 (slV t0) (aD a.roots)
 own:aJ wr w.heap.size 103 8 v (kR.cells ps)
 mp:ps.map Prod.fst=(List.range i).map R
 inn:∀ p ∈ ps,bQ wr 0 3 1 p.2 (aQ p.1.ser)
section
variable {w wr wx:World}{g gs:Nat}{a:AU}{li:Int}{vs:List Int}{R:Nat->RV}{t0:SlT}{i:Nat}{x y:AB}{v:Value}{ps:List (RV × Value)}
theorem NwJ.len (h:NwJ w wr g gs a li vs R t0 i x v ps):ps.length=i:=by
 have:=congrArg List.length h.mp
 simpa using this
theorem NwJ.tr (h:NwJ w wr g gs a li vs R t0 i x v ps) (e:Ext wr wx):NwJ w wx g gs a li vs R t0 i x v ps :=
 ⟨h.ext.tr e,h.gg,h.ggs,h.au.ext e,h.hx.kn (S:=[]) (by decide) (KN.ext e),(e.block _ (aA h.st)).trans h.st,h.rt.kn (S:=[]) (by decide) (KN.ext e),h.own.ext e,h.mp,fun p hp=>(h.inn p hp).kn (S:=[]) (by decide) (KN.ext e)⟩
theorem NwJ.store (h:NwJ w wr g gs a li vs R t0 i x v ps) (hy:NwX wr a li vs (i+1) y):Ext w (wr.setRow g (bE y))/\KN [98] wr (wr.setRow g (bE y))/\aU (wr.setRow g (bE y)) g y/\NwX (wr.setRow g (bE y)) a li vs (i+1) y:=by
 have r:RgS [98] (fun k=>k=g) wr (wr.setRow g (bE y)):=RgS.setRow h.au.row (List.mem_singleton.2 rfl) rfl (by rfl)
 have k:KN [98] wr (wr.setRow g (bE y)):=KN.rg r
 exact ⟨aS h.ext h.gg _,k,aX h.au.row,hy.kn (by decide) k⟩
theorem NwJ.next {A:Option Addr}{n c:Nat}{ws wy:World}{u:Value} (h:NwJ w wr g gs a li vs R t0 i x v ps) (e1:Ext w ws) (k1:KN [98] wr ws) (h1:aU ws g y) (h2:NwX ws a li vs (i+1) y) (hu:bQ ws 0 3 1 u (aQ (R i).ser)) (o:aJ ws w.heap.size 103 8 v (kR.cells ps)) (gr:ws.grownBy wy (aO v)) (o2:aJ wy w.heap.size 103 8 (.slice A n c) (kR.cells (ps++[(R i,u)]))) :
 NwJ w wy g gs a li vs R t0 (i+1) y (.slice A n c) (ps++[(R i,u)]):=by
 have k2:KN [103] ws wy:=KN.own o (List.mem_singleton.2 rfl) gr
 refine ⟨e1.grown gr e1.size (fun k hk=>aZ o k hk),h.gg,h.ggs,k2 _ _ _ _ (by decide) h1.row,h2.kn (by decide) k2,k2 _ _ _ _ (by decide) (k1 _ _ _ _ (by decide) h.st),(h.rt.kn (by decide) k1).kn (by decide) k2,o2,?_,fun p hp=>?_⟩
 · rw [List.map_append,h.mp,List.range_succ,List.map_append]
   rfl
 · rcases List.mem_append.1 hp with hp | hp
   · exact ((h.inn p hp).kn (by decide) k1).kn (by decide) k2
   · rw [List.mem_singleton.1 hp]
     exact hu.kn (by decide) k2
end
def NwA (w:World) (ga:Nat) (R:Nat->RV):Prop:=(∃ cs fr,w.heap[ga]?=some (.cells cs 103 fr))/\∀ k,k<4->∃ A n c,w.rangeAt ga (k*8) (aY (R k) (.slice A n c))/\bQ w 0 3 1 (.slice A n c) (aQ (R k).ser)
theorem NwA.kn {S:List Nat}{w w':World}{ga:Nat}{R:Nat->RV} (h:NwA w ga R) (h1:103 ∉ S) (h2:3 ∉ S) (r:KN S w w'):NwA w' ga R:=by
 obtain ⟨⟨cs,fr,hb⟩,h⟩:=h
 have hb':=r _ _ _ _ h1 hb
 refine ⟨⟨cs,fr,hb'⟩,fun k hk=>?_⟩
 obtain ⟨A,n,c,q1,q2⟩:=h k hk
 refine ⟨A,n,c,fun j u hu=>?_,q2.kn h2 r⟩
 have h3:=q1 j u hu
 unfold World.cell? at h3 ⊢
 simp only at h3 ⊢
 rw [hb',<- hb]
 exact h3
theorem NwJ.form {w wr:World}{g gs:Nat}{a:AU}{li:Int}{vs:List Int}{R:Nat->RV}{t0:SlT}{x:AB}{v:Value}{ps:List (RV × Value)} (h:NwJ w wr g gs a li vs R t0 4 x v ps) :
 ∃ ga ca,v=.slice (some ⟨ga,0,none⟩) 4 ca/\4<=ca/\ca<=maxLen/\ga<wr.heap.size/\NwA wr ga R:=by
 have hl:=h.len
 obtain ⟨A,n,c,e1,hn,h3⟩:=h.own
 rw [LK.cells_len,hl] at hn
 obtain rfl:n=4:=ZD (by decide:0<8) hn
 rcases h3 with ⟨h4,_⟩ | ⟨ga,cur,rfl,_,q3,q4,q5,q6,q7⟩
 · omega
 · refine ⟨ga,c,e1,q4,q5,aA q3,⟨cur,_,q3⟩,fun k hk=>?_⟩
   obtain ⟨p,hp⟩:∃ p,ps[k]?=some p:=⟨_,YL (by omega)⟩
   have hp1:p.1=R k:=by
    have h5:(ps.map Prod.fst)[k]?=some p.1:=by rw [List.getElem?_map,hp];rfl
    rw [h.mp,List.getElem?_map,List.getElem?_range hk] at h5
    exact (Option.some.inj h5).symm
   have h6:=h.inn p (YS hp)
   obtain ⟨A6,n6,c6,e6,_⟩:=h6.rd
   have ho:=h.own
   rw [e1] at ho
   obtain ⟨g',e',-,-,-,-,-,h7⟩:=aJ.rangeFlat (row:=fun p:RV × Value=>aY p.1 p.2) (fun _=>rfl) (by decide) ho hp
   obtain rfl:ga=g':=by injection e' with e';injection e'
   refine ⟨A6,n6,c6,?_,?_⟩
   · rw [<- e6,<- hp1];exact h7
   · rw [<- e6,<- hp1];exact h6
structure NwK (w wr:World) (g gs ga:Nat) (a:AU) (R:Nat->RV) (z:AB) (b:Nat) (s0 s1 s2 s3 s4:SlT):Prop where
 ext:Ext w wr
 ggs:w.heap.size<=gs
 au:aU wr g z
 st:wr.heap[gs]?=some (.cells (aM s0 s1 s2 s3 s4) 75 (0,0))
 str:StR wr s0 s1 s2 s3 s4 (stN a.roots R b)
 al:NwA wr ga R
section
variable {w wr wx:World}{g gs ga:Nat}{a:AU}{R:Nat->RV}{z:AB}{b b':Nat}{s0 s1 s2 s3 s4 t0 t1 t2 t3 t4:SlT}
theorem NwK.tr (h:NwK w wr g gs ga a R z b s0 s1 s2 s3 s4) (e:Ext wr wx):NwK w wx g gs ga a R z b s0 s1 s2 s3 s4 :=
 ⟨h.ext.tr e,h.ggs,h.au.ext e,(e.block _ (aA h.st)).trans h.st,h.str.ext e,h.al.kn (S:=[]) (by decide) (by decide) (KN.ext e)⟩
theorem NwK.store (h:NwK w wr g gs ga a R z b s0 s1 s2 s3 s4) (hs:StR wr t0 t1 t2 t3 t4 (stN a.roots R b')):NwK w (wr.setRow gs (aM t0 t1 t2 t3 t4)) g gs ga a R z b' t0 t1 t2 t3 t4:=by
 have k:KN [75] wr (wr.setRow gs (aM t0 t1 t2 t3 t4)):=KN.rg (RgS.setRow (G:=fun k=>k=gs) h.st (List.mem_singleton.2 rfl) rfl (by rfl))
 exact ⟨aS h.ext h.ggs _,h.ggs,k _ _ _ _ (by decide) h.au.row,aX h.st,hs.stw h.st,h.al.kn (by decide) (by decide) k⟩
end
theorem NJ {a:AU}{R:Nat->RV}{st:List UInt8}{li:Int}{vs:List Int}{b:Nat} (hR:∀ i,i<4->NwR a.roots st li vs i (R i)) (h3:vs.length<=3) (hs:smL a.roots) (hl:a.roots.length<=10000) (hb:b<=4):StB (stN a.roots R b):=by
 refine ⟨hs,fun x hx=>(by cases hx),fun x hx=>(by cases hx),fun x hx=>?_,fun x hx=>(by cases hx),hl,YK _,YK _,?_,YK _⟩
 · unfold stN at hx
   cases b with
   | zero=>simp at hx
   | succ b =>
     have hx:x ∈ [R b]:=hx
     rw [List.mem_singleton.1 hx,(hR b (by omega)).ser,rD]
     omega
 · have:=U7 a.roots R b
   omega
open Gd (dT kV)
structure RS (B:Nat) (w w':World):Prop where
 os:w'.os=w.os
 tape:w'.tape=w.tape
 output:w'.output=w.output
 size:w.heap.size<=w'.heap.size
 block:∀ k,k<w.heap.size->w'.heap[k]?=w.heap[k]? \/ (B<=k/\(∃ s0 s1 s2 s3 s4:SlT,w.heap[k]?=some (.cells (aM s0 s1 s2 s3 s4) 75 (0,0)))/\∃ s0 s1 s2 s3 s4:SlT,w'.heap[k]?=some (.cells (aM s0 s1 s2 s3 s4) 75 (0,0)))
section
variable {B:Nat}{w w' w'':World}
theorem RS.refl (B:Nat) (w:World):RS B w w:=⟨rfl,rfl,rfl,YF _,fun _ _=>.inl rfl⟩
theorem RS.tr (h:RS B w w') (k:RS B w' w''):RS B w w'' :=
 ⟨k.os.trans h.os,k.tape.trans h.tape,k.output.trans h.output,YO h.size k.size,fun i hi=>by
   rcases h.block i hi with q | ⟨q1,q2,q3⟩
   · rcases k.block i (YX hi h.size) with p | ⟨p1,p2,p3⟩
     · exact .inl (p.trans q)
     · exact .inr ⟨p1,by rw [<- q];exact p2,p3⟩
   · rcases k.block i (YX hi h.size) with p | ⟨p1,p2,p3⟩
     · exact .inr ⟨q1,q2,by rw [p];exact q3⟩
     · exact .inr ⟨q1,q2,p3⟩⟩
theorem RS.ext (e:Ext w w'):RS B w w':=⟨e.os,e.tape,e.output,e.size,fun k hk=>.inl (e.block k hk)⟩
theorem RS.old {k:Nat}{o:Obj} (h:RS B w w') (hk:w.heap[k]?=some o) (hB:k<B):w'.heap[k]?=some o :=
 ((h.block k (Array.getElem?_eq_some_iff.1 hk).1).resolve_right fun q=>by have:=q.1;omega).trans hk
theorem RS.kn (h:RS B w w'):KN [75] w w':=fun e b cs fr he q=>by
 rcases h.block b (aA q) with p | ⟨_,⟨s0,s1,s2,s3,s4,p⟩,_⟩
 · exact p.trans q
 · rw [p] at q
   injection q with q
   injection q with _ q _
   exact absurd (List.mem_singleton.2 q.symm) he
theorem RS.below (h:RS B w w') (hB:B<=w.heap.size):Below B w w' :=
 ⟨h.os,h.tape,h.output,h.size,fun k hk=>(h.block k (YX hk hB)).resolve_right fun q=>by have:=q.1;omega⟩
theorem RdK.rs {k:Nat}{v:Value}{xs:List Value} (h:RdK w k v xs) (hk:0<k) (hx:∀ u,xs[0]?=some u->∀ A n c,u≠.slice A n c) (r:RS B w w'):RdK w' k v xs:=by
 obtain ⟨A,n,c,rfl,hn,hnc,hcm,hc⟩:=h
 refine ⟨A,n,c,rfl,hn,hnc,hcm,fun h0=>?_⟩
 obtain ⟨b,o,rfl,hcell⟩:=hc h0
 refine ⟨b,o,rfl,fun j u hu=>?_⟩
 have hl:0<xs.length:=by rw [<- hn];exact Nat.mul_pos h0 hk
 obtain ⟨u0,hu0⟩:∃ u0,xs[0]?=some u0:=⟨_,YL hl⟩
 have hb:=World.block_lt_of_cell? w _ (hcell 0 u0 hu0)
 have hs:w'.heap[b]?=w.heap[b]?:=(r.block b hb).resolve_right fun q=>by
  obtain ⟨_,⟨s0,s1,s2,s3,s4,hg⟩,_⟩:=q
  have h1:=hcell 0 u0 hu0
  rw [cell_of_row w b _ _ _ _ hg] at h1
  have h2:u0 ∈ (aM s0 s1 s2 s3 s4).toList:=by
   rw [<- Array.getElem?_toList] at h1
   exact YS h1
  simp only [aM,List.mem_cons,List.not_mem_nil,or_false] at h2
  rcases h2 with h2 | h2 | h2 | h2 | h2 <;> exact hx u0 hu0 _ _ _ h2
 have h1:=hcell j u hu
 unfold World.cell? at h1 ⊢
 simp only at h1 ⊢
 rw [hs]
 exact h1
theorem StR.rs {t0 t1 t2 t3 t4:SlT}{roots:List NC}{R:Nat->RV}{b:Nat} (h:StR w t0 t1 t2 t3 t4 (stN roots R b)) (r:RS B w w'):StR w' t0 t1 t2 t3 t4 (stN roots R b):=by
 refine ⟨h.r0.rs (by decide) oL r,h.r1.rs (by decide) oL r,?_,?_,?_⟩
 · obtain ⟨ps,h1,h2,h3⟩:=h.r2
   obtain rfl:ps=[]:=List.map_eq_nil_iff.1 h1
   exact ⟨[],h1,h2.rs (by decide) (fun u q=>oM q) r,fun p hp=>(by cases hp)⟩
 · obtain ⟨ps,h1,h2,h3⟩:=h.r3
   exact ⟨ps,h1,h2.rs (by decide) AA r,fun p hp=>(h3 p hp).rs (by decide) xO r⟩
 · obtain ⟨ps,h1,h2,h3⟩:=h.r4
   obtain rfl:ps=[]:=List.map_eq_nil_iff.1 h1
   exact ⟨[],h1,h2.rs (by decide) (fun u q=>oM q) r,fun p hp=>(by cases hp)⟩
end
def rS (B:Nat):Gt.Rl where
 rel:=RS B
 st T w w':=T=75/\RS B w w'
 refl:=RS.refl B
 tr h k:=h.tr k
 ext e:=RS.ext e
 sub h:=h.2
 dx:=Ext
 dxe:=id
 dxs e:=RS.ext e
def GAt (roots:List NC) (R:Nat->RV) (b:Nat) (k:Int):aE:=fun v w=>∃ t0 t1 t2 t3 t4:SlT,v=.tuple #[bH t0 t1 t2 t3 t4,.int .i64 k]/\StR w t0 t1 t2 t3 t4 (stN roots R b)
def GAs (roots:List NC) (R:Nat->RV) (b:Nat):aE:=fun v w=>∃ t0 t1 t2 t3 t4:SlT,v=bH t0 t1 t2 t3 t4/\StR w t0 t1 t2 t3 t4 (stN roots R b)
def GSb (B:Nat):aE:=fun v w=>∃ g,v=.pointer (some ⟨g,0,none⟩)/\B<=g/\∃ s0 s1 s2 s3 s4:SlT,w.heap[g]?=some (.cells (aM s0 s1 s2 s3 s4) 75 (0,0))
def GSq (B:Nat) (roots:List NC) (R:Nat->RV) (b:Nat):aE:=fun v w=>∃ (g:Nat) (t0 t1 t2 t3 t4:SlT),v=.pointer (some ⟨g,0,none⟩)/\B<=g/\w.heap[g]?=some (.cells (aM t0 t1 t2 t3 t4) 75 (0,0))/\StR w t0 t1 t2 t3 t4 (stN roots R b)
theorem xP (B:Nat) (roots:List NC) (R:Nat->RV) (b:Nat) (k:Int):(rS B).stable (GAt roots R b k):=fun v w w' r ⟨t0,t1,t2,t3,t4,h1,h2⟩=>⟨t0,t1,t2,t3,t4,h1,StR.rs h2 r⟩
theorem JH (B:Nat) (roots:List NC) (R:Nat->RV) (b:Nat):(rS B).stable (GAs roots R b):=fun v w w' r ⟨t0,t1,t2,t3,t4,h1,h2⟩=>⟨t0,t1,t2,t3,t4,h1,StR.rs h2 r⟩
theorem JI (B:Nat):(rS B).stable (GSb B):=fun v w w' r ⟨g,h1,h2,s0,s1,s2,s3,s4,h3⟩=>⟨g,h1,h2,by
 rcases r.block g (aA h3) with p | ⟨_,_,p⟩
 · exact ⟨s0,s1,s2,s3,s4,p.trans h3⟩
 · exact p⟩
theorem GSq.ext {B:Nat}{roots:List NC}{R:Nat->RV}{b:Nat} (v:Value) (w w':World) (e:Ext w w') (h:GSq B roots R b v w):GSq B roots R b v w':=by
 obtain ⟨g,t0,t1,t2,t3,t4,h1,h2,h3,h4⟩:=h
 exact ⟨g,t0,t1,t2,t3,t4,h1,h2,(e.block _ (aA h3)).trans h3,h4.ext e⟩
theorem GSq.st {B:Nat}{roots:List NC}{R:Nat->RV}{b:Nat} (t:Nat) (ht:t≠75) (v:Value) (w w':World) (e:(rS B).st t w w') (h:GSq B roots R b v w):GSq B roots R b v w':=absurd e.1 ht
theorem FN (W:World):(Instr.alloc 75 true (.tuple #[])).run Tryz.prog W=.ok (.pointer (some ⟨W.heap.size,0,none⟩)) (W.alloc (.cells #[.slice none 0 0,.slice none 0 0,.slice none 0 0,.slice none 0 0,.slice none 0 0] 75)):=by go_simp
theorem RS.setRow {B g:Nat}{w:World}{s0 s1 s2 s3 s4 t0 t1 t2 t3 t4:SlT} (hB:B<=g) (hg:w.heap[g]?=some (.cells (aM s0 s1 s2 s3 s4) 75 (0,0))):RS B w (w.setRow g (aM t0 t1 t2 t3 t4)) :=
 ⟨rfl,rfl,rfl,by rw [setRow_size];exact YF _,fun k hk=>by
   by_cases q:k=g
   · subst q
     exact .inr ⟨hB,⟨s0,s1,s2,s3,s4,hg⟩,t0,t1,t2,t3,t4,aX hg⟩
   · exact .inl (dC q)⟩
section
variable {r:Gt.Rl}{ops:Array Oper}{Q:Exit->Act->World->Prop}{w0:World}{R:Act->World->Prop}{ss:List (Nat × aE)}
theorem Gt.wpX_allocS5 {o:Oper}{rest:List Oper}{a:Act}{hs:List (Nat × aE)}{d:Nat} (B:Nat) (hB:∀ m:r.Lt w0,B<=m.1.heap.size) (hst:r.stable (GSb B)) (hg:dT ops o a hs)
 (hd:o.dst=some d) (hz:Nat.blt d a.tmps.size=true) (ho:o.op=.alloc 75) (hin:(bG o).all (fun t=>Nat.blt t a.tmps.size)=true)
 (hr:Gt.wpX r Tryz.prog ops Q w0 R ss rest (a.put (some d) undef) ((d,GSb B)::hs)):Gt.wpX r Tryz.prog ops Q w0 R ss (o::rest) a hs :=
 Gt.eZ hg (GSb B) hst (fun _=>Instr.alloc 75 true (.tuple #[])) hd hz (by unfold aV;rw [ho]) hin (fun f=>by unfold execOp;simp only [ho])
  (fun m f hf=>⟨_,_,FN m.1,r.dxe ((Below.refl _ _).alloc (YF _) _),_,rfl,hB m,zS,zS,zS,zS,zS,aB m.1 _⟩) hr
end
theorem FO (W:World) (v:Value) (s0 s1 s2 s3 s4:SlT) (day:Int):(Instr.field 100 (.agg (eU v s0 s1 s2 s3 s4 day)) 0).run Tryz.prog W=.ok v W:=by
 unfold eU Instr.field
 go_simp
 simp [asAgg]
set_option maxHeartbeats 16000000 in
theorem CI {v1 v2:Value}{l ol:List Int} (w:World) (h:RdI w .i64 v1 l) (hw:∀ x ∈ l,k8 x) (h2:RdI w .i64 v2 ol) (h2w:∀ x ∈ ol,k8 x) (E:Env w) :
 Calls Tryz.prog 14 #[v1,v2] w (dR w (.bool true)):=by
 have HA:=ZH (fun W (e:Ext w W)=>tU W (E.ext e))
 have HL1:=ZH (wH w h)
 have HWO:=ZH (fun (q:l.length<=80)=>rI w h hw (by omega) E.r)
 have HMO:=ZH (fun (x:Int) (hx:k8 x) W=>iP x 4 W hx.1 hx.2 (by omega))
 have HOW:=ZH h2w
 have HE:=ZH E
 obtain ⟨AO,nO,cO,rfl,hnO,hncO,hcmO,helO⟩:=h2.ints
 subst hnO
 have HEO:=ZH helO
 have HCO:=ZH (And.intro hncO hcmO)
 clear E h hw h2 h2w helO hncO hcmO
 go_enter Tryz.func14,Tryz.ntmps14
 go_wp2_with fail
 refine (HL1.out).mono ?_
 rintro e w' ⟨rfl,rfl⟩
 by_cases a1:l.length<=80
 case neg =>
  rw [decide_eq_false a1]
  go_wp2_with fail
  refine (HA.out _ (Below.refl _ _)).mono ?_
  rintro e w3 ⟨rfl,b3⟩
  go_wp2_with fail
  go_ret
  exact ⟨rfl,b3⟩
 rw [decide_eq_true a1]
 by_cases h8:ol.length<=8
 case neg =>
  have hgt:(8:Int)<(ol.length:Int):=by omega
  clear h8
  go_wp2_with fail
  refine (HA.out _ (Below.refl _ _)).mono ?_
  rintro e w3 ⟨rfl,b3⟩
  go_wp2_with fail
  go_ret
  exact ⟨rfl,b3⟩
 have hgt:¬ ((8:Int)<(ol.length:Int)):=by omega
 have HWO:=ZH (HWO.out a1)
 clear a1 HL1
 go_wp2_with fail
 refine HWO.out.mono ?_
 rintro e w1 ⟨A,c,s0,s1,s2,s3,s4,S,day,x,y,rfl,b1,-,rA,uA,vA,-,-,-,-⟩
 clear hgt
 obtain ⟨gA,oA,rfl,hglr,-,h2c,hcm,R0⟩:=UE rA (i:=0) (x:=x) rfl
 unfold maxLen at hcm
 obtain ⟨ai,di,Sx⟩:=uA x (by simp)
 obtain ⟨vs,Vx,vl,vp,vb⟩:=vA x (by simp)
 obtain ⟨ks,hks⟩:∃ ks,ai.secs[ai.secs.length - 1]?=some ks:=⟨_,YL (by have:=Sx.ai.len;have:=Sx.ne.1;omega)⟩
 have HR0:=ZH (show w1.rangeAt gA oA (abL x) from R0)
 have HON:=ZH (show (bE x).all (·.oneCell')=true from dE Sx.one)
 have HZA:=ZH (aB w1 (.cells (.string ⟨#[]⟩::.slice none 0 0::.slice none 0 0::.slice none 0 0::.string ⟨#[]⟩::.int .i64 0::.int .i64 0::.int .i64 0::.int .i64 0::.int .i64 0::.int .i64 0::.int .i64 0::.int .i64 0::.int .i64 0::.int .i64 0::.string ⟨#[]⟩::.int .i64 0::.int .i64 0::.int .i64 0::.int .i64 0::.int .i64 0::.int .i64 0::.int .i64 0::.int .i64 0::.int .i64 0::.int .i64 0::.int .i64 0::.int .i64 0::.int .i64 0::.int .i64 0::.slice none 0 0::.slice none 0 0::.slice none 0 0::([]:List Value)).toArray 98))
 obtain ⟨wk,hwk⟩:∃ wk,wk=(w1.alloc (.cells (.string ⟨#[]⟩::.slice none 0 0::.slice none 0 0::.slice none 0 0::.string ⟨#[]⟩::.int .i64 0::.int .i64 0::.int .i64 0::.int .i64 0::.int .i64 0::.int .i64 0::.int .i64 0::.int .i64 0::.int .i64 0::.int .i64 0::.string ⟨#[]⟩::.int .i64 0::.int .i64 0::.int .i64 0::.int .i64 0::.int .i64 0::.int .i64 0::.int .i64 0::.int .i64 0::.int .i64 0::.int .i64 0::.int .i64 0::.int .i64 0::.int .i64 0::.int .i64 0::.slice none 0 0::.slice none 0 0::.slice none 0 0::([]:List Value)).toArray 98)).setRow w1.heap.size (bE x):=⟨_,rfl⟩
 have ek:Ext w1 wk:=by rw [hwk];exact aS ((Below.refl _ _).alloc (YF _) _) (YF _) _
 have HTK:=ZH (show aU wk w1.heap.size x by rw [hwk];exact aX HZA.out)
 obtain ⟨AR,cR,eR,-,-⟩:=nQ (l:=ai.roots) Sx.R.rd
 have HXK:=ZH (show NwX wk ai x.li vs 0 x from ⟨Sx.st,by omega,Vx.kn (S:=[]) (by decide) (KN.ext ek),Sx.S.kn (S:=[]) (by decide) (KN.ext ek),Sx.one⟩)
 have HRT:=ZH (show bQ wk 0 56 11 (slV (AR,ai.roots.length,cR)) (aD ai.roots) from by have h:=Sx.R.kn (S:=[]) (by decide) (KN.ext ek);rw [eR] at h;exact h)
 have X1:=ZH (b1.tr ek)
 have hgg:=b1.size
 have hli:1<=x.li/\x.li<=100:=by have:=Sx.li;omega
 obtain ⟨R,hR⟩:∃ R:Nat->RV,R=rN ai.st x.li vs (ai.secs.length:Int) ks:=⟨_,rfl⟩
 have vl3:vs.length<=3:=by omega
 have HNR:=ZH (show ∀ i,i<4->NwR ai.roots ai.st x.li vs i (R i) from fun i hi=>by rw [hR];exact (UT Sx.ai Sx.ne.1 Sx.ne.2.2 hks hli vl3 vp vb hi).2)
 have HRV:=ZH (show ∀ (i:Nat) (z:AB) (W:World),i<4->Ext w W->NwX W ai x.li vs i z->Calls Tryz.prog 74 #[abV z,.int .i64 (10+(i:Int)),.int .i64 40100] W (TX W z (nwL vs (i+1)) (R i) 0) from
  fun i z W hi e hz=>by rw [hR];exact UI Sx.ai Sx.ne.1 Sx.ne.2.2 hks hli vl3 vp vb hi hz (HE.out.ext e).r)
 have HVB:=ZH vb
 have HVL:=ZH vl3
 have HSM:=ZH (And.intro Sx.sm.1 (show ai.roots.length<=10000 by have:=Sx.ai.rlen;have:=Sx.ne.2.1;omega))
 have HST:=ZH (show ai.st.length<=maxLen by have:=Sx.ai.st.1.2;unfold maxLen;omega)
 clear hR hks Sx Vx vl vp vb vl3 uA vA rA b1 hli R0 ek
 have hfw:(Instr.field 100 (.agg (eU (.slice (some ⟨gA,oA,none⟩) 2 c) s0 s1 s2 s3 s4 day)) 0).run Tryz.prog w1=.ok (.slice (some ⟨gA,oA,none⟩) 2 c) w1:=FO _ _ _ _ _ _ _ _
 go_upto_region 4 with (first | (refine wpList_load_mid rfl 98 _ rfl gA oA rfl (abL x) _ HR0.out Tryz.underlying98 rfl bX ?_) | (refine aL rfl 98 _ _ rfl rfl w1.heap.size (bE x) rfl rfl 98 (.string ⟨#[]⟩::.slice none 0 0::.slice none 0 0::.slice none 0 0::.string ⟨#[]⟩::.int .i64 0::.int .i64 0::.int .i64 0::.int .i64 0::.int .i64 0::.int .i64 0::.int .i64 0::.int .i64 0::.int .i64 0::.int .i64 0::.string ⟨#[]⟩::.int .i64 0::.int .i64 0::.int .i64 0::.int .i64 0::.int .i64 0::.int .i64 0::.int .i64 0::.int .i64 0::.int .i64 0::.int .i64 0::.int .i64 0::.int .i64 0::.int .i64 0::.int .i64 0::.slice none 0 0::.slice none 0 0::.slice none 0 0::([]:List Value)).toArray HZA.out bX rfl HON.out ?_))
 rw [<- hwk]
 clear hfw hwk HR0 HON HZA HWO hglr h2c hcm
 obtain ⟨g,hg⟩:∃ g,w1.heap.size=g:=⟨_,rfl⟩
 rw [hg] at HTK hgg ⊢
 clear hg
 have c1:wk.cell? ⟨g,1,none⟩=some (.slice AR ai.roots.length cR):=by rw [HTK.out.c1,eR]
 have cl:=HTK.out.lt
 obtain ⟨wb,hwb⟩:∃ wb,wb=wk.alloc (.cells #[.slice AR ai.roots.length cR,.slice none 0 0,.slice none 0 0,.slice none 0 0,.slice none 0 0] 75):=⟨_,rfl⟩
 have eb:Ext wk wb:=by rw [hwb];exact (Below.refl _ _).alloc (YF _) _
 have J0:=ZH (show NwJ w wb g wk.heap.size ai x.li vs R (AR,ai.roots.length,cR) 0 x (.slice none 0 0) [] from
  ⟨X1.out.tr eb,hgg,X1.out.size,HTK.out.ext eb,HXK.out.kn (S:=[]) (by decide) (KN.ext eb),by rw [hwb];exact aB wk _,HRT.out.kn (S:=[]) (by decide) (KN.ext eb),aJ.empty _ _ _ _ _,rfl,fun p hp=>(by cases hp)⟩)
 clear HTK HXK HRT X1 eb hgg
 go_upto_region 5 with fail
 rw [<- hwb]
 clear hwb c1 cl eR
 generalize wk.heap.size=gs at *
 clear wk w1
 go_upto_region 7 with fail
 go_loopw [7,8] (fun s7 s8 wr=>∃ (i:Nat) (z:AB) (v:Value) (ps:List (RV × Value)),i<=4/\s8=.int .i64 (i:Int)/\s7=v/\Hid (NwJ w wr g gs ai x.li vs R (AR,ai.roots.length,cR) i z v ps)) (fun _ s8 _=>4 - (intOf s8).toNat)
 case atStart=>exact ⟨0,x,_,[],by omega,rfl,rfl,J0⟩
 case round =>
  clear J0
  obtain ⟨i,z,v,ps,hi,rfl,rfl,J⟩:=hrel
  by_cases hlt:i<4
  case neg =>
   obtain rfl:i=4:=by omega
   clear HRV
   obtain ⟨ga,ca,rfl,hca,hcm,hgal,HAL0⟩:=J.out.form
   unfold maxLen at hcm
   have HZS:=ZH J.out.hx.st
   have K0:=ZH (show NwK w wr g gs ga ai R z 0 (AR,ai.roots.length,cR) zS zS zS zS from ⟨J.out.ext,J.out.ggs,J.out.au,J.out.st,⟨J.out.rt.rd,RdK.nil_ _ _ _,RdX.nil_ _ _ _,RdX.nil_ _ _ _,RdX.nil_ _ _ _⟩,HAL0⟩)
   clear J HAL0 hi hlt hgal
   go_upto_region 16 with fail
   go_loopw [12,13] (fun s12 s13 wx=>∃ (j b:Nat) (s0 s1 s2 s3 s4:SlT),j<=ol.length/\b<=4/\s13=.int .i64 (j:Int)/\s12=.int .i64 ((b:Int) - 1)/\Hid (NwK w wx g gs ga ai R z b s0 s1 s2 s3 s4)) (fun _ s13 _=>ol.length - (intOf s13).toNat)
   case atStart=>exact ⟨0,0,_,_,_,_,_,YK _,by omega,rfl,rfl,K0⟩
   case round =>
    clear K0
    obtain ⟨j,b,s0,s1,s2,s3,s4,hj,hb,rfl,rfl,K⟩:=hrel
    by_cases hlt:j<ol.length
    case neg =>
     obtain rfl:j=ol.length:=by omega
     have HZ3:=ZH K.out.au.c0
     go_upto_region 25 with fail
     go_loopw [17] (fun s17 wx=>∃ i:Nat,i<=4/\s17=.int .i64 (i:Int)/\Hid (NwK w wx g gs ga ai R z b s0 s1 s2 s3 s4)) (fun s17 _=>4 - (intOf s17).toNat)
     case atStart=>exact ⟨0,by omega,rfl,K⟩
     case round =>
      clear K HZ3
      obtain ⟨i,hi,rfl,K⟩:=hrel
      by_cases hl4:i<4
      case neg =>
       go_wp2_with fail
       refine (HA.out wr K.out.ext).mono ?_
       rintro e w9 ⟨rfl,b9⟩
       have X9:=ZH (K.out.ext.tr b9)
       clear b9
       go_wp2_with fail
       go_ret
       exact ⟨rfl,X9.out⟩
      case pos =>
      have w10:IntKind.i64.wrap (10+(i:Int))=10+(i:Int):=IntWalk.i64_in _ (by omega)
      have wi:IntKind.i64.wrap ((i:Int)+1)=(i:Int)+1:=IntWalk.i64_in _ (by omega)
      have ka0:wr.cell? ⟨gs,0,none⟩=some (.slice s0.1 s0.2.1 s0.2.2):=by rw [cell_of_row wr gs 0 _ _ _ K.out.st];rfl
      have ka1:wr.cell? ⟨gs,1,none⟩=some (.slice s1.1 s1.2.1 s1.2.2):=by rw [cell_of_row wr gs 1 _ _ _ K.out.st];rfl
      have ka2:wr.cell? ⟨gs,2,none⟩=some (.slice s2.1 s2.2.1 s2.2.2):=by rw [cell_of_row wr gs 2 _ _ _ K.out.st];rfl
      have ka3:wr.cell? ⟨gs,3,none⟩=some (.slice s3.1 s3.2.1 s3.2.2):=by rw [cell_of_row wr gs 3 _ _ _ K.out.st];rfl
      have ka4:wr.cell? ⟨gs,4,none⟩=some (.slice s4.1 s4.2.1 s4.2.2):=by rw [cell_of_row wr gs 4 _ _ _ K.out.st];rfl
      have gl1:=aA K.out.st
      have kc0:wr.cell? ⟨g,0,none⟩=some (.string (aK ai.st)):=by rw [K.out.au.c0,HZS.out]
      have gl2:=K.out.au.lt
      have HRQ:=ZH (show Calls Tryz.prog 70 #[bH s0 s1 s2 s3 s4,ncV ⟨ai.st,0,10+(i:Int),0,0,0,0,0,0,0,0⟩] wr (dR wr (.bool (decide (i<b)))) by
       have h:=j2 s0 s1 s2 s3 s4 (stN ai.roots R b).rs ⟨ai.st,0,10+(i:Int),0,0,0,0,0,0,0,0⟩ wr K.out.str.r3.rdV
       rw [U5 HNR.out HVB.out hb hl4] at h
       exact h)
      go_wp2_with fail
      refine HRQ.out.mono ?_
      rintro e w9 ⟨rfl,b9⟩
      have K9:=ZH (K.out.tr b9)
      clear b9 K ka0 ka1 ka2 ka3 ka4 gl1 kc0 gl2 HRQ
      by_cases hib:i<b
      case pos =>
       have d1:(i:Int)<=(b:Int) - 1:=by omega
       have hd:decide ((i:Int)<=(b:Int) - 1)=true:=decide_eq_true d1
       have hd2:decide (i<b)=true:=decide_eq_true hib
       rw [hd2]
       go_wp2_with fail
       go_roundw
       case rel=>exact ⟨_,_,_,_,_,_,_,_,_,_,_,_,_,_,_,_,_,⟨i+1,by omega,by go_num,K9⟩,rfl⟩
       case measure=>simp [intOf];omega
      case neg =>
       have d1:¬ (i:Int)<=(b:Int) - 1:=by omega
       have hd:decide ((i:Int)<=(b:Int) - 1)=false:=decide_eq_false d1
       have hd2:decide (i<b)=false:=decide_eq_false hib
       rw [hd2]
       go_wp2_with fail
       go_roundw
       case rel=>exact ⟨_,_,_,_,_,_,_,_,_,_,_,_,_,_,_,_,_,⟨i+1,by omega,by go_num,K9⟩,rfl⟩
       case measure=>simp [intOf];omega
    case pos =>
    obtain ⟨t,ht⟩:∃ t,ol[j]?=some t:=⟨_,YL hlt⟩
    obtain ⟨bo,oo,rfl,hbl,hc⟩:=HEO.out (by omega)
    have l0:=(K.out.ext.cell (p:=⟨bo,oo+j,none⟩) hbl).trans (hc j hlt)
    rw [show ol.getD j 0=t by rw [List.getD_eq_getElem?_getD,ht];rfl] at l0
    have hmb:=iO (x:=t) (m:=4) (by omega)
    obtain ⟨k,hk⟩:∃ k:Nat,fL t 4=(k:Int):=⟨(fL t 4).toNat,by omega⟩
    rw [hk] at hmb
    have hk4:k<4:=by omega
    have HMT:=ZH (fun W=>HMO.out t (HOW.out t (YS ht)) W)
    rw [hk] at HMT
    clear hc ht hk hmb
    have wj:IntKind.i64.wrap ((j:Int)+1)=(j:Int)+1:=IntWalk.i64_in _ (by have:=HCO.out;unfold maxLen at this;omega)
    have wi1:IntKind.i64.wrap ((j:Int))=(j:Int):=IntWalk.i64_in _ (by omega)
    have zi1:(0:Int)<=(j:Int):=by omega
    have li1:(j:Int)<(ol.length:Int):=by omega
    have ti1:((j:Int)).toNat=j:=by omega
    go_wp2_with fail
    refine (HMT.out wr).mono ?_
    rintro e w' ⟨rfl,rfl⟩
    go_upto_region 19 with fail
    clear l0 HMT
    have wi2:IntKind.i64.wrap ((k:Int))=(k:Int):=IntWalk.i64_in _ (by omega)
    have zi2:(0:Int)<=(k:Int):=by omega
    have li2:(k:Int)<4:=by omega
    have ti2:((k:Int)).toNat=k:=by omega
    obtain ⟨A6,n6,c6,hRA,hSI⟩:=K.out.al.2 k hk4
    have HRA:=ZH hRA
    have HSI:=ZH hSI
    obtain ⟨b9,e9,hac,hcase⟩:∃ (b9:Nat) (e9:Int),accR (stN ai.roots R b) (R k) 40100=(stN ai.roots R b9,e9)/\((b<=k/\b9=k+1/\e9=0) \/ (k<b/\b9=b/\e9=67)):=by
     have h:=U4 HNR.out hb hk4
     by_cases q:b<=k
     · rw [if_pos q] at h
       exact ⟨_,_,h,.inl ⟨q,rfl,rfl⟩⟩
     · rw [if_neg q] at h
       exact ⟨_,_,h,.inr ⟨by omega,rfl,rfl⟩⟩
    have HCASE:=ZH hcase
    have HACC:=ZH (fun (W:World) (e:Ext w W) (hs:StR W s0 s1 s2 s3 s4 (stN ai.roots R b)) (hu:RdI W .i64 (.slice A6 n6 c6) (R k).ser)=>(by
     have h:=kN s0 s1 s2 s3 s4 (stN ai.roots R b) (R k) (.slice A6 n6 c6) 40100 W hs (NJ HNR.out HVL.out HSM.out.1 HSM.out.2 hb) hu (by rw [(HNR.out k hk4).st];exact HST.out) (by rw [(HNR.out k hk4).ser,rD];have:=HVL.out;omega) (HE.out.ext e).d
     rw [hac] at h
     exact h:Calls Tryz.prog 68 #[bH s0 s1 s2 s3 s4,rvV (R k) (.slice A6 n6 c6),.int .i64 40100] W (UX W (stN ai.roots R b9) e9)))
    clear hRA hSI hac hcase
    have hga:ga<wr.heap.size:=by obtain ⟨⟨cs,fr,q⟩,_⟩:=K.out.al;exact aA q
    have hgsl:=aA K.out.st
    refine Gt.aI (r:=(rS wr.heap.size)) 12 (by kernel_rfl) (by kernel_rfl) ?_
    simp only [YT,YQ,YU,YV]
    intro wq hw1
    have LR:∀ m1:(rS wr.heap.size).Lt wq,RS wr.heap.size wr m1.1:=fun m1=>RS.tr hw1 m1.2
    have LX:∀ m1:(rS wr.heap.size).Lt wq,Ext wr m1.1:=fun m1=>(LR m1).below (YF _)
    have KS:=fun m1:(rS wr.heap.size).Lt wq=>rE ((K.out.tr (LX m1)).st)
    have KR:=fun m1:(rS wr.heap.size).Lt wq=>j3 HRA.out hga (LX m1)
    repeat (refine Gt.aC rfl fun K hK=>?_;go_big_quiet_op;refine hK _ ?_;clear hK K)
    refine Gt.wpX_midK (Gd.gR rfl) (gs) (0) ([slV s0,slV s1,slV s2,slV s3,slV s4]) rfl rfl rfl rfl rfl KS Tryz.underlying75 rfl aN ?_
    simp only [Act.put,YG,YI,YH]
    repeat (refine Gt.aC rfl fun K hK=>?_;go_big_quiet_op;refine hK _ ?_;clear hK K)
    refine Gt.wpX_midK (Gd.gR rfl) (ga) (k*8) (aY (R k) (.slice A6 n6 c6)) rfl rfl rfl rfl rfl KR Tryz.underlying103 rfl bA ?_
    simp only [Act.put,YG,YI,YH]
    refine Gt.aR (Gd.gR rfl) (GAt ai.roots R b9 e9) (xP _ _ _ _ _) (fun _=>[bH s0 s1 s2 s3 s4,rvV (R k) (.slice A6 n6 c6),.int .i64 40100]) rfl rfl rfl rfl rfl (by kernel_rfl) rfl (fun _=>rfl) (fun m1 f hf=>(HACC.out m1.1 (K.out.ext.tr (LX m1)) ((K.out.tr (LX m1)).str) (RdK.r1 (HSI.out.ext (LX m1)).rd)).mono fun e w'' ⟨t0,t1,t2,t3,t4,h1,h2,h3⟩=>⟨_,h1,h3,t0,t1,t2,t3,t4,rfl,h2⟩) ?_
    simp only [Act.put,YG,YI,YH]
    refine Gt.wpX_movU (Gd.gR rfl) (GAt ai.roots R b9 e9) (xP _ _ _ _ _) (fun f=>f 71) rfl rfl rfl rfl rfl (fun _=>rfl) (fun m1 f hf=>hf 71 _ rfl rfl) ?_
    simp only [Act.put,YG,YI,YH]
    refine Gt.dL (Gd.gR rfl) (GAs ai.roots R b9) (JH _ _ _ _) (fun f=>f 65) rfl rfl rfl rfl rfl (fun _=>rfl) (fun m1 f hf=>by obtain ⟨t0,t1,t2,t3,t4,h1,h2⟩:=hf 65 _ rfl rfl;rw [h1];exact ⟨_,_,(qY _ _ _).1,Below.refl _ _,t0,t1,t2,t3,t4,rfl,h2⟩) ?_
    simp only [Act.put,YG,YI,YH]
    refine Gt.dL (Gd.gR rfl) (fun v _=>v=.int .i64 e9) (Gt.Rl.stable_eq _ _) (fun f=>f 65) rfl rfl rfl rfl rfl (fun _=>rfl) (fun m1 f hf=>by obtain ⟨t0,t1,t2,t3,t4,h1,h2⟩:=hf 65 _ rfl rfl;rw [h1];exact ⟨_,_,(qY _ _ _).2,Below.refl _ _,rfl⟩) ?_
    simp only [Act.put,YG,YI,YH]
    refine Gt.wpX_allocS5 wr.heap.size (fun m1=>(LR m1).size) (JI _) (Gd.gR rfl) rfl rfl rfl rfl ?_
    simp only [Act.put,YG,YI,YH]
    refine Gt.dP (Gd.gR rfl) (GSq wr.heap.size ai.roots R b9) (fun f=>f 15) (fun f=>f 72) rfl rfl rfl rfl rfl (fun _=>rfl) (fun _=>rfl) GSq.ext GSq.st (fun m1 f hf=>?_) ?_
    · obtain ⟨g5,e5,hg5,u0,u1,u2,u3,u4,q1⟩:=hf 15 _ rfl rfl
      obtain ⟨t0,t1,t2,t3,t4,h5,o5⟩:=hf 72 _ rfl rfl
      rw [e5,h5]
      exact ⟨_,dQ (cells:=aM t0 t1 t2 t3 t4) q1 aN rfl (bT t0 t1 t2 t3 t4),⟨rfl,RS.setRow hg5 q1⟩,g5,t0,t1,t2,t3,t4,rfl,hg5,aX q1,StR.rs o5 (RS.setRow hg5 q1)⟩
    refine Gt.wpX_asgU (Gd.gR rfl) (fun v _=>v=.int .i64 e9) (Gt.Rl.stable_eq _ _) (fun f=>f 73) rfl rfl rfl rfl rfl (fun _=>rfl) (fun m1 f hf=>hf 73 _ rfl rfl) ?_
    simp only [Act.put,YG,YI,YH]
    refine Gt.wpX_endG rfl (fun m1 f hf hqs=>?_)
    have hq:GSq wr.heap.size ai.roots R b9 (f 15) m1.1:=hqs _ YZ
    have e16:f 16=.int .i64 e9:=hf 16 _ rfl
    obtain ⟨g5,t0,t1,t2,t3,t4,e5,hg5,T5,S5⟩:=hq
    simp only [bO]
    simp only [Act.put,YG,YI,YH]
    rw [e5,e16]
    have K2:=ZH (K.out.tr (LX m1))
    have HT5:=ZH T5
    have HS5:=ZH S5
    clear hqs hf e5 e16 KS KR LX LR hw1 K T5 S5 HACC HRA HSI hga hgsl hg5
    generalize m1.1=w5 at *
    generalize f 65=f65 at *
    generalize f 71=f71 at *
    generalize f 72=f72 at *
    generalize f 73=f73 at *
    clear m1 f
    clear wq wr
    show wpList _ _ _ _ _ _
    have HSG:=ZH K2.out.st
    rcases HCASE.out with ⟨q1,rfl,rfl⟩ | ⟨q1,rfl,rfl⟩
    · have d1:((b:Int) - 1)<(k:Int):=by omega
      have hd:decide (((b:Int) - 1)<(k:Int))=true:=decide_eq_true d1
      go_upto_region 23 with (first | (refine wpList_load_row rfl 75 _ rfl g5 rfl 75 (aM t0 t1 t2 t3 t4) (0,0) _ HT5.out Tryz.underlying75 rfl aN ?_) | (refine aL rfl 75 _ _ rfl rfl gs (aM t0 t1 t2 t3 t4) rfl rfl 75 (aM s0 s1 s2 s3 s4) HSG.out aN rfl (bT t0 t1 t2 t3 t4) ?_))
      have K3:=ZH (K2.out.store HS5.out)
      clear HSG K2 HT5 HS5 hd
      generalize w5.setRow gs (aM t0 t1 t2 t3 t4)=w6 at *
      go_wp2_with fail
      go_roundw
      case rel=>exact ⟨_,_,_,⟨j+1,by omega,k+1,by omega,by go_num,congrArg (Value.int IntKind.i64) (by omega),t0.1,t0.2.1,t0.2.2,t1.1,t1.2.1,t1.2.2,t2.1,t2.2.1,t2.2.2,t3.1,t3.2.1,t3.2.2,t4.1,t4.2.1,t4.2.2,K3⟩,rfl,rfl,rfl⟩
      case measure=>simp [intOf];omega
    · have d1:¬ ((b9:Int) - 1)<(k:Int):=by omega
      have hd:decide (((b9:Int) - 1)<(k:Int))=false:=decide_eq_false d1
      go_upto_region 23 with (first | (refine wpList_load_row rfl 75 _ rfl g5 rfl 75 (aM t0 t1 t2 t3 t4) (0,0) _ HT5.out Tryz.underlying75 rfl aN ?_) | (refine aL rfl 75 _ _ rfl rfl gs (aM t0 t1 t2 t3 t4) rfl rfl 75 (aM s0 s1 s2 s3 s4) HSG.out aN rfl (bT t0 t1 t2 t3 t4) ?_))
      have K3:=ZH (K2.out.store HS5.out)
      clear HSG K2 HT5 HS5 hd
      generalize w5.setRow gs (aM t0 t1 t2 t3 t4)=w6 at *
      go_wp2_with fail
      go_roundw
      case rel=>exact ⟨_,_,_,⟨j+1,by omega,b9,by omega,by go_num,congrArg (Value.int IntKind.i64) (by omega),t0.1,t0.2.1,t0.2.2,t1.1,t1.2.1,t1.2.2,t2.1,t2.2.1,t2.2.2,t3.1,t3.2.1,t3.2.2,t4.1,t4.2.1,t4.2.2,K3⟩,rfl,rfl,rfl⟩
      case measure=>simp [intOf];omega
  case pos =>
  have w10:IntKind.i64.wrap (10+(i:Int))=10+(i:Int):=IntWalk.i64_in _ (by omega)
  have wi:IntKind.i64.wrap ((i:Int)+1)=(i:Int)+1:=IntWalk.i64_in _ (by omega)
  have HRVi:=ZH (HRV.out i z wr hlt J.out.ext J.out.hx)
  have HAR:=ZH J.out.au.row
  go_wp2_with (refine wpList_load_row rfl 98 _ rfl g rfl 98 (bE z) (0,0) _ HAR.out Tryz.underlying98 rfl bX ?_)
  refine HRVi.out.mono ?_
  rintro e w2 ⟨A9,n9,c9,A6,n6,c6,rfl,-,-,b2,s9,o6⟩
  have J2:=ZH (J.out.tr b2)
  obtain ⟨z9,hz9⟩:∃ z9:AB,z9={ z with V:=.slice A9 n9 c9,li:=z.li+1 }:=⟨_,rfl⟩
  have HZ9:=ZH (show NwX w2 ai x.li vs (i+1) z9 by
   have h:=J2.out.hx
   have hl:=h.li
   rw [hz9]
   exact ⟨h.st,by show z.li+1=x.li+((i+1:Nat):Int);omega,s9,h.S,⟨h.one.R,h.one.L,h.one.S,rfl,h.one.D,h.one.Z⟩⟩)
  have HU2:=ZH o6.safeK
  have HX9:=ZH (show (bE z9).all (·.oneCell')=true from dE HZ9.out.one)
  rw [<- hz9]
  clear hz9 HRVi HAR s9 o6 b2 J
  obtain ⟨wd,hwd⟩:∃ wd,wd=(((w2.alloc (.cells (.string ⟨#[]⟩::.slice none 0 0::.slice none 0 0::.slice none 0 0::.string ⟨#[]⟩::.int .i64 0::.int .i64 0::.int .i64 0::.int .i64 0::.int .i64 0::.int .i64 0::.int .i64 0::.int .i64 0::.int .i64 0::.int .i64 0::.string ⟨#[]⟩::.int .i64 0::.int .i64 0::.int .i64 0::.int .i64 0::.int .i64 0::.int .i64 0::.int .i64 0::.int .i64 0::.int .i64 0::.int .i64 0::.int .i64 0::.int .i64 0::.int .i64 0::.int .i64 0::.slice none 0 0::.slice none 0 0::.slice none 0 0::([]:List Value)).toArray 98)).alloc (.cells #[.string ⟨#[]⟩,.int .i64 0,.int .i64 0,.int .i64 0,.slice none 0 0,.int .i64 0,.int .i64 0,.int .i64 0] 103)).setRow w2.heap.size (bE z9)).setRow (w2.heap.size+1) (bI (R i) (.slice A6 n6 c6)):=⟨_,rfl⟩
  have ed:Ext w2 wd:=by rw [hwd];exact aS (aS (((Below.refl _ _).alloc (YF _) _).alloc (by simp) _) (YF _) _) (Nat.le_succ _) _
  have HD1:=ZH (heap_alloc2_old w2 (.cells (bE dG) 98) (.cells #[.string ⟨#[]⟩,.int .i64 0,.int .i64 0,.int .i64 0,.slice none 0 0,.int .i64 0,.int .i64 0,.int .i64 0] 103))
  have hd2:=heap_alloc2_new w2 (.cells (bE dG) 98) (.cells #[.string ⟨#[]⟩,.int .i64 0,.int .i64 0,.int .i64 0,.slice none 0 0,.int .i64 0,.int .i64 0,.int .i64 0] 103)
  have HD2:=ZH (show (((w2.alloc (.cells (.string ⟨#[]⟩::.slice none 0 0::.slice none 0 0::.slice none 0 0::.string ⟨#[]⟩::.int .i64 0::.int .i64 0::.int .i64 0::.int .i64 0::.int .i64 0::.int .i64 0::.int .i64 0::.int .i64 0::.int .i64 0::.int .i64 0::.string ⟨#[]⟩::.int .i64 0::.int .i64 0::.int .i64 0::.int .i64 0::.int .i64 0::.int .i64 0::.int .i64 0::.int .i64 0::.int .i64 0::.int .i64 0::.int .i64 0::.int .i64 0::.int .i64 0::.int .i64 0::.slice none 0 0::.slice none 0 0::.slice none 0 0::([]:List Value)).toArray 98)).alloc (.cells #[.string ⟨#[]⟩,.int .i64 0,.int .i64 0,.int .i64 0,.slice none 0 0,.int .i64 0,.int .i64 0,.int .i64 0] 103)).setRow w2.heap.size (bE z9)).heap[w2.heap.size+1]?=some (.cells #[.string ⟨#[]⟩,.int .i64 0,.int .i64 0,.int .i64 0,.slice none 0 0,.int .i64 0,.int .i64 0,.int .i64 0] 103 (0,0)) by rw [dC (by omega)];exact hd2)
  have HR1:=ZH (fW (R i) A6 n6 c6)
  have HRD:=ZH (show bM wd (w2.heap.size+1) (R i) (.slice A6 n6 c6) by rw [hwd];exact aX HD2.out)
  have HTD:=ZH (show aU wd w2.heap.size z9 by rw [hwd];exact (dC (by omega)).trans (aX HD1.out))
  have JD:=ZH (J2.out.tr ed)
  have HZD:=ZH (HZ9.out.kn (S:=[]) (by decide) (KN.ext ed))
  have HUD:=ZH (HU2.out.kn (S:=[]) (by decide) (KN.ext ed))
  clear hd2 ed J2 HZ9 HU2
  unfold abV rvV
  go_upto_region 10 with (first | (refine aL rfl 98 _ _ rfl rfl w2.heap.size (bE z9) rfl rfl 98 (bE dG) HD1.out bX rfl HX9.out ?_) | (refine aL rfl 103 _ _ rfl rfl (w2.heap.size+1) (bI (R i) (.slice A6 n6 c6)) rfl rfl 103 #[.string ⟨#[]⟩,.int .i64 0,.int .i64 0,.int .i64 0,.slice none 0 0,.int .i64 0,.int .i64 0,.int .i64 0] HD2.out bA rfl HR1.out ?_))
  rw [<- hwd]
  clear hwd HD1 HD2 HR1
  obtain ⟨gr,hgr⟩:∃ gr,w2.heap.size+1=gr:=⟨_,rfl⟩
  rw [hgr] at HRD
  try rw [hgr]
  clear hgr
  generalize w2.heap.size=g9 at *
  clear w2
  have H9:=ZH HTD.out.row
  have HG:=ZH JD.out.au.row
  obtain ⟨e1,k1,t1,x1⟩:=JD.out.store HZD.out
  have HRE:=ZH (show bM (wd.setRow g (bE z9)) gr (R i) (.slice A6 n6 c6) from k1 _ _ _ _ (by decide) HRD.out)
  have HUE:=ZH (HUD.out.kn (by decide) k1)
  have HOE:=ZH (JD.out.own.kn (by decide) k1)
  have HE1:=ZH e1
  have HK1:=ZH k1
  have HT1:=ZH t1
  have HX1:=ZH x1
  clear e1 k1 t1 x1
  go_upto_region 13 with (first | (refine wpList_load_row rfl 98 _ rfl g9 rfl 98 (bE z9) (0,0) _ H9.out Tryz.underlying98 rfl bX ?_) | (refine aL rfl 98 _ _ rfl rfl g (bE z9) rfl rfl 98 (bE z) HG.out bX rfl HX9.out ?_))
  clear H9 HG HTD HRD HZD HUD HX9
  generalize wd.setRow g (bE z9)=we at *
  have HRR:=ZH (show we.heap[gr]?=some (.cells #[.string (aK (R i).st),.int .i64 (R i).num,.int .i64 (R i).day,.int .i64 (R i).nxt,.slice A6 n6 c6,.int .i64 (R i).iss,.int .i64 (R i).e,.int .i64 (R i).s] 103 (0,0)) from HRE.out)
  have ef:Ext we (we.alloc (.cells #[.string (aK (R i).st),.int .i64 (R i).num,.int .i64 (R i).day,.int .i64 (R i).nxt,.slice A6 n6 c6,.int .i64 (R i).iss,.int .i64 (R i).e,.int .i64 (R i).s] 103)):=(Below.refl _ _).alloc (YF _) _
  have HLR:=ZH (VR we (R i) (.slice A6 n6 c6))
  have HOF:=ZH (HOE.out.ext ef)
  have XB:=ZH (Below.refl w.heap.size (we.alloc (.cells #[.string (aK (R i).st),.int .i64 (R i).num,.int .i64 (R i).day,.int .i64 (R i).nxt,.slice A6 n6 c6,.int .i64 (R i).iss,.int .i64 (R i).e,.int .i64 (R i).s] 103)))
  have HEF:=ZH (HE1.out.tr ef)
  have HKF:=ZH (HK1.out.tr (KN.ext ef))
  have HTF:=ZH (HT1.out.ext ef)
  have HXF:=ZH (HX1.out.kn (S:=[]) (by decide) (KN.ext ef))
  have HUF:=ZH (HUE.out.kn (S:=[]) (by decide) (KN.ext ef))
  have HLE:=ZH JD.out.len
  unfold aY at HLR
  clear ef HE1 HK1 HT1 HX1 HUE HOE HRE
  go_upto_region 8 with (first | (refine wpList_load_row rfl 103 _ rfl gr rfl 103 #[.string (aK (R i).st),.int .i64 (R i).num,.int .i64 (R i).day,.int .i64 (R i).nxt,.slice A6 n6 c6,.int .i64 (R i).iss,.int .i64 (R i).e,.int .i64 (R i).s] (0,0) _ HRR.out Tryz.underlying103 rfl bA ?_) | (refine bL (k:=8) (by decide) sN (n:=i) (m:=1) (B:=w.heap.size) HOF.out (by rw [LK.cells_len,HLE.out];rfl) HLR.out rfl (kR.one (R i) (.slice A6 n6 c6) rfl) XB.out (by omega) (by unfold maxLen;omega) HEF.out.size rfl rfl rfl rfl ?_;intro A8 n8 c8 w8 hn8 o8 x8 g8))
  have HJN:=ZH (JD.out.next HEF.out HKF.out HTF.out HXF.out HUF.out HOF.out g8 (show aJ w8 w.heap.size 103 8 (.slice A8 n8 c8) (kR.cells (ps++[(R i,(.slice A6 n6 c6))])) by rw [<- LK.cells_snoc];exact o8))
  clear HRR HLR HOF XB HEF HKF HTF HXF HUF HLE JD hn8 o8 x8 g8
  go_wp2_with fail
  go_roundw
  case rel=>exact ⟨i+1,z9,_,ps++[(R i,(.slice A6 n6 c6))],by omega,by go_num,rfl,HJN⟩
  case measure=>simp [intOf];omega
end Go.Proofs.YtkjplpmogfmhkaaGreatDoor
