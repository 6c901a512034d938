import Derived.Test.YtmmoenkmicimcaaGreatDoorOap
import Derived.Test.YtmmoenkmicimcaaGreatDoorOay
namespace Go.Proofs.YtmmoenkmicimcaaGreatDoor
open Go.RowKit
set_option linter.unusedVariables false
set_option maxRecDepth 100000
theorem ML(n:Int):dQ n 4=0\/dQ n 4=1\/dQ n 4=2\/dQ n 4=3:=by have:=fV (x:=n) (m:=4) (by omega);omega
set_option maxHeartbeats 1000000 in theorem rW(n:Int)(w:World)(G:iT n):Calls Tryz.prog 32 #[.int .i64 n] w fun e w'=>e=.returned (.string (aD (dO n)))/\Ext w w':=by
 obtain⟨q,C⟩:=G;have H:=ab (fun W=>fF n 4 W q C (by omega));have c4:=ML n;have F:dO n=if dQ n 4=0 then m7 else if dQ n 4=1 then SW else if dQ n 4=2 then a0w else a0x:=rfl;generalize dO n=S at*;generalize dQ n 4=I at*;have l:=ab F;clear q C F;go_in;go_wp2_with fail;refine(H _).mono ?_;rintro e w'⟨rfl,rfl⟩;rcases c4 with rfl | rfl | rfl | rfl;· go_wp2_with fail;go_ret;obtain rfl:=l.out;exact⟨rfl,(aa _ _).alloc (bh _) _⟩
 · go_wp2_with fail;go_ret;obtain rfl:=l.out;exact⟨rfl,(aa _ _).alloc (bh _) _⟩
 · go_wp2_with fail;go_ret;obtain rfl:=l.out;exact⟨rfl,(aa _ _).alloc (bh _) _⟩
 · go_wp2_with fail;go_ret;obtain rfl:=l.out;exact⟨rfl,(aa _ _).alloc (bh _) _⟩
structure AB where
 st:List UInt8
 R:Value
 L:Value
 S:Value
 sg:NC
 ls:NC
 ssec:Int
 lsec:Int
 next:Int
 li:Int
 V:Value
 D:Value
 Z:Value
def gt(x:AB):Value:=.agg ((.string (aD x.st))::x.R::x.L::x.S::(.string (aD x.sg.st))::(.int .i64 x.sg.kind)::(.int .i64 x.sg.num)::(.int .i64 x.sg.iss)::(.int .i64 x.sg.own)::(.int .i64 x.sg.key)::(.int .i64 x.sg.fr)::(.int .i64 x.sg.un)::(.int .i64 x.sg.tqq)::(.int .i64 x.sg.e)::(.int .i64 x.sg.s)::(.string (aD x.ls.st))::(.int .i64 x.ls.kind)::(.int .i64 x.ls.num)::(.int .i64 x.ls.iss)::(.int .i64 x.ls.own)::(.int .i64 x.ls.key)::(.int .i64 x.ls.fr)::(.int .i64 x.ls.un)::(.int .i64 x.ls.tqq)::(.int .i64 x.ls.e)::(.int .i64 x.ls.s)::(.int .i64 x.ssec)::(.int .i64 x.lsec)::(.int .i64 x.next)::(.int .i64 x.li)::x.V::x.D::x.Z::([]:List Value)).toArray
def aV(w:World)(g:Nat)(x:AB):Prop:=w.heap[g]?=some (.cells ((.string (aD x.st))::x.R::x.L::x.S::(.string (aD x.sg.st))::(.int .i64 x.sg.kind)::(.int .i64 x.sg.num)::(.int .i64 x.sg.iss)::(.int .i64 x.sg.own)::(.int .i64 x.sg.key)::(.int .i64 x.sg.fr)::(.int .i64 x.sg.un)::(.int .i64 x.sg.tqq)::(.int .i64 x.sg.e)::(.int .i64 x.sg.s)::(.string (aD x.ls.st))::(.int .i64 x.ls.kind)::(.int .i64 x.ls.num)::(.int .i64 x.ls.iss)::(.int .i64 x.ls.own)::(.int .i64 x.ls.key)::(.int .i64 x.ls.fr)::(.int .i64 x.ls.un)::(.int .i64 x.ls.tqq)::(.int .i64 x.ls.e)::(.int .i64 x.ls.s)::(.int .i64 x.ssec)::(.int .i64 x.lsec)::(.int .i64 x.next)::(.int .i64 x.li)::x.V::x.D::x.Z::([]:List Value)).toArray 50 (0,0))
section
variable {w w':World}{g:Nat}{x:AB}
theorem aV.lt(h:aV w g x):g<w.heap.size:=a9 h
theorem aV.ext(h:aV w g x)(e:Ext w w'):aV w' g x:=(e.block g h.lt).trans h
theorem aV.frozen(h:aV w g x)(i:Nat):w.frozen? ⟨g,i,none⟩=false:=by unfold aV at h;simp [World.frozen?,h]
theorem aV.other {b i:Nat}{v:Value}(h:aV w g x)(l:g≠b):aV (w.setCell ⟨b,i,none⟩ v) g x:=(aP l).trans h
theorem aV.c0(h:aV w g x):w.cell? ⟨g,0,none⟩=some (.string (aD x.st)):=by rw [ae w g 0 _ _ _ h];rfl
theorem aV.c1(h:aV w g x):w.cell? ⟨g,1,none⟩=some (x.R):=by rw [ae w g 1 _ _ _ h];rfl
theorem aV.c2(h:aV w g x):w.cell? ⟨g,2,none⟩=some (x.L):=by rw [ae w g 2 _ _ _ h];rfl
theorem aV.c3(h:aV w g x):w.cell? ⟨g,3,none⟩=some (x.S):=by rw [ae w g 3 _ _ _ h];rfl
theorem aV.c4(h:aV w g x):w.cell? ⟨g,4,none⟩=some (.string (aD x.sg.st)):=by rw [ae w g 4 _ _ _ h];rfl
theorem aV.c5(h:aV w g x):w.cell? ⟨g,5,none⟩=some (.int .i64 x.sg.kind):=by rw [ae w g 5 _ _ _ h];rfl
theorem aV.c6(h:aV w g x):w.cell? ⟨g,6,none⟩=some (.int .i64 x.sg.num):=by rw [ae w g 6 _ _ _ h];rfl
theorem aV.c7(h:aV w g x):w.cell? ⟨g,7,none⟩=some (.int .i64 x.sg.iss):=by rw [ae w g 7 _ _ _ h];rfl
theorem aV.c8(h:aV w g x):w.cell? ⟨g,8,none⟩=some (.int .i64 x.sg.own):=by rw [ae w g 8 _ _ _ h];rfl
theorem aV.c9(h:aV w g x):w.cell? ⟨g,9,none⟩=some (.int .i64 x.sg.key):=by rw [ae w g 9 _ _ _ h];rfl
theorem aV.c10(h:aV w g x):w.cell? ⟨g,10,none⟩=some (.int .i64 x.sg.fr):=by rw [ae w g 10 _ _ _ h];rfl
theorem aV.c11(h:aV w g x):w.cell? ⟨g,11,none⟩=some (.int .i64 x.sg.un):=by rw [ae w g 11 _ _ _ h];rfl
theorem aV.c12(h:aV w g x):w.cell? ⟨g,12,none⟩=some (.int .i64 x.sg.tqq):=by rw [ae w g 12 _ _ _ h];rfl
theorem aV.c13(h:aV w g x):w.cell? ⟨g,13,none⟩=some (.int .i64 x.sg.e):=by rw [ae w g 13 _ _ _ h];rfl
theorem aV.c14(h:aV w g x):w.cell? ⟨g,14,none⟩=some (.int .i64 x.sg.s):=by rw [ae w g 14 _ _ _ h];rfl
theorem aV.c15(h:aV w g x):w.cell? ⟨g,15,none⟩=some (.string (aD x.ls.st)):=by rw [ae w g 15 _ _ _ h];rfl
theorem aV.c16(h:aV w g x):w.cell? ⟨g,16,none⟩=some (.int .i64 x.ls.kind):=by rw [ae w g 16 _ _ _ h];rfl
theorem aV.c17(h:aV w g x):w.cell? ⟨g,17,none⟩=some (.int .i64 x.ls.num):=by rw [ae w g 17 _ _ _ h];rfl
theorem aV.c18(h:aV w g x):w.cell? ⟨g,18,none⟩=some (.int .i64 x.ls.iss):=by rw [ae w g 18 _ _ _ h];rfl
theorem aV.c19(h:aV w g x):w.cell? ⟨g,19,none⟩=some (.int .i64 x.ls.own):=by rw [ae w g 19 _ _ _ h];rfl
theorem aV.c20(h:aV w g x):w.cell? ⟨g,20,none⟩=some (.int .i64 x.ls.key):=by rw [ae w g 20 _ _ _ h];rfl
theorem aV.c21(h:aV w g x):w.cell? ⟨g,21,none⟩=some (.int .i64 x.ls.fr):=by rw [ae w g 21 _ _ _ h];rfl
theorem aV.c22(h:aV w g x):w.cell? ⟨g,22,none⟩=some (.int .i64 x.ls.un):=by rw [ae w g 22 _ _ _ h];rfl
theorem aV.c23(h:aV w g x):w.cell? ⟨g,23,none⟩=some (.int .i64 x.ls.tqq):=by rw [ae w g 23 _ _ _ h];rfl
theorem aV.c24(h:aV w g x):w.cell? ⟨g,24,none⟩=some (.int .i64 x.ls.e):=by rw [ae w g 24 _ _ _ h];rfl
theorem aV.c25(h:aV w g x):w.cell? ⟨g,25,none⟩=some (.int .i64 x.ls.s):=by rw [ae w g 25 _ _ _ h];rfl
theorem aV.c26(h:aV w g x):w.cell? ⟨g,26,none⟩=some (.int .i64 x.ssec):=by rw [ae w g 26 _ _ _ h];rfl
theorem aV.c27(h:aV w g x):w.cell? ⟨g,27,none⟩=some (.int .i64 x.lsec):=by rw [ae w g 27 _ _ _ h];rfl
theorem aV.c28(h:aV w g x):w.cell? ⟨g,28,none⟩=some (.int .i64 x.next):=by rw [ae w g 28 _ _ _ h];rfl
theorem aV.c29(h:aV w g x):w.cell? ⟨g,29,none⟩=some (.int .i64 x.li):=by rw [ae w g 29 _ _ _ h];rfl
theorem aV.c30(h:aV w g x):w.cell? ⟨g,30,none⟩=some (x.V):=by rw [ae w g 30 _ _ _ h];rfl
theorem aV.c31(h:aV w g x):w.cell? ⟨g,31,none⟩=some (x.D):=by rw [ae w g 31 _ _ _ h];rfl
theorem aV.put_R(h:aV w g x)(v:Value):aV (w.setCell ⟨g,1,none⟩ (v)) g {x with R:=v}:=by have l:=aG h 1 (v);simp only [bz,bu,bt]at l;exact l
theorem aV.put_L(h:aV w g x)(v:Value):aV (w.setCell ⟨g,2,none⟩ (v)) g {x with L:=v}:=by have l:=aG h 2 (v);simp only [bz,bu,bt]at l;exact l
theorem aV.put_S(h:aV w g x)(v:Value):aV (w.setCell ⟨g,3,none⟩ (v)) g {x with S:=v}:=by have l:=aG h 3 (v);simp only [bz,bu,bt]at l;exact l
theorem aV.put_ssec(h:aV w g x)(v:Int):aV (w.setCell ⟨g,26,none⟩ (.int .i64 v)) g {x with ssec:=v}:=by have l:=aG h 26 (.int .i64 v);simp only [bz,bu,bt]at l;exact l
theorem aV.put_lsec(h:aV w g x)(v:Int):aV (w.setCell ⟨g,27,none⟩ (.int .i64 v)) g {x with lsec:=v}:=by have l:=aG h 27 (.int .i64 v);simp only [bz,bu,bt]at l;exact l
theorem aV.put_next(h:aV w g x)(v:Int):aV (w.setCell ⟨g,28,none⟩ (.int .i64 v)) g {x with next:=v}:=by have l:=aG h 28 (.int .i64 v);simp only [bz,bu,bt]at l;exact l
def AK(w:World)(g:Nat)(c:NC):World:=(((((((((((w.setCell ⟨g,4,none⟩ (.string (aD c.st))).setCell ⟨g,5,none⟩ (.int .i64 c.kind)).setCell ⟨g,6,none⟩ (.int .i64 c.num)).setCell ⟨g,7,none⟩ (.int .i64 c.iss)).setCell ⟨g,8,none⟩ (.int .i64 c.own)).setCell ⟨g,9,none⟩ (.int .i64 c.key)).setCell ⟨g,10,none⟩ (.int .i64 c.fr)).setCell ⟨g,11,none⟩ (.int .i64 c.un)).setCell ⟨g,12,none⟩ (.int .i64 c.tqq)).setCell ⟨g,13,none⟩ (.int .i64 c.e)).setCell ⟨g,14,none⟩ (.int .i64 c.s))
theorem aV.put_sg(h:aV w g x)(c:NC):aV (AK w g c) g {x with sg:=c}:=by have l:=(aG (aG (aG (aG (aG (aG (aG (aG (aG (aG (aG h 4 (.string (aD c.st))) 5 (.int .i64 c.kind)) 6 (.int .i64 c.num)) 7 (.int .i64 c.iss)) 8 (.int .i64 c.own)) 9 (.int .i64 c.key)) 10 (.int .i64 c.fr)) 11 (.int .i64 c.un)) 12 (.int .i64 c.tqq)) 13 (.int .i64 c.e)) 14 (.int .i64 c.s));simp only [bz,bu,bt]at l;exact l
theorem a0P(h:Ext w w')(hg:w.heap.size<=g)(c:NC):Ext w (AK w' g c):=aI (aI (aI (aI (aI (aI (aI (aI (aI (aI (aI h hg) hg) hg) hg) hg) hg) hg) hg) hg) hg) hg
def AM(w:World)(g:Nat)(c:NC):World:=(((((((((((w.setCell ⟨g,15,none⟩ (.string (aD c.st))).setCell ⟨g,16,none⟩ (.int .i64 c.kind)).setCell ⟨g,17,none⟩ (.int .i64 c.num)).setCell ⟨g,18,none⟩ (.int .i64 c.iss)).setCell ⟨g,19,none⟩ (.int .i64 c.own)).setCell ⟨g,20,none⟩ (.int .i64 c.key)).setCell ⟨g,21,none⟩ (.int .i64 c.fr)).setCell ⟨g,22,none⟩ (.int .i64 c.un)).setCell ⟨g,23,none⟩ (.int .i64 c.tqq)).setCell ⟨g,24,none⟩ (.int .i64 c.e)).setCell ⟨g,25,none⟩ (.int .i64 c.s))
theorem aV.put_ls(h:aV w g x)(c:NC):aV (AM w g c) g {x with ls:=c}:=by have l:=(aG (aG (aG (aG (aG (aG (aG (aG (aG (aG (aG h 15 (.string (aD c.st))) 16 (.int .i64 c.kind)) 17 (.int .i64 c.num)) 18 (.int .i64 c.iss)) 19 (.int .i64 c.own)) 20 (.int .i64 c.key)) 21 (.int .i64 c.fr)) 22 (.int .i64 c.un)) 23 (.int .i64 c.tqq)) 24 (.int .i64 c.e)) 25 (.int .i64 c.s));simp only [bz,bu,bt]at l;exact l
theorem a0Q(h:Ext w w')(hg:w.heap.size<=g)(c:NC):Ext w (AM w' g c):=aI (aI (aI (aI (aI (aI (aI (aI (aI (aI (aI h hg) hg) hg) hg) hg) hg) hg) hg) hg) hg) hg
theorem pP(w:World)(x:AB):∃wz,wz=w.alloc (.cells ((.string (aD x.st))::x.R::x.L::x.S::(.string (aD x.sg.st))::(.int .i64 x.sg.kind)::(.int .i64 x.sg.num)::(.int .i64 x.sg.iss)::(.int .i64 x.sg.own)::(.int .i64 x.sg.key)::(.int .i64 x.sg.fr)::(.int .i64 x.sg.un)::(.int .i64 x.sg.tqq)::(.int .i64 x.sg.e)::(.int .i64 x.sg.s)::(.string (aD x.ls.st))::(.int .i64 x.ls.kind)::(.int .i64 x.ls.num)::(.int .i64 x.ls.iss)::(.int .i64 x.ls.own)::(.int .i64 x.ls.key)::(.int .i64 x.ls.fr)::(.int .i64 x.ls.un)::(.int .i64 x.ls.tqq)::(.int .i64 x.ls.e)::(.int .i64 x.ls.s)::(.int .i64 x.ssec)::(.int .i64 x.lsec)::(.int .i64 x.next)::(.int .i64 x.li)::x.V::x.D::x.Z::([]:List Value)).toArray 50)/\Ext w wz/\aV wz w.heap.size x:=⟨_,rfl,(aa _ _).alloc (bh _) _,aA w _⟩
end
def apart(u v:Value):Prop:=∀r,aQ u=some r->aQ v≠some r
structure AbR (w:World) (B:Nat) (x:AB) (a:AU):Prop where
 o1:aK w B 39 11 x.R (aC a.roots)
 o2:aK w B 39 11 x.L (aC a.links)
 o3:aK w B 3 1 x.S (bH a.secs)
 ap:apart x.R x.L
 st:x.st=a.st
 sg:x.sg=a.sg
 ls:x.ls=a.ls
 ssec:x.ssec=a.ssec
 lsec:x.lsec=a.lsec
 next:x.next=a.next
theorem AbR.ext {w w':World}{B:Nat}{x:AB}{a:AU}(h:AbR w B x a)(e:Ext w w'):AbR w' B x a:=⟨h.o1.ext e,h.o2.ext e,h.o3.ext e,h.ap,h.st,h.sg,h.ls,h.ssec,h.lsec,h.next⟩
theorem kQ:39≠50:=by decide
theorem wO:3≠50:=by decide
def dG:AB:=⟨[],.slice none 0 0,.slice none 0 0,.slice none 0 0,dL,dL,0,0,0,0,.slice none 0 0,.slice none 0 0,.slice none 0 0⟩
structure fk (w0:World) (g:Nat) (wx:World) (x:AB) (roots links:List NC) (secs:List Int):Prop where
 ext:Ext w0 wx
 hg:w0.heap.size<=g
 au:aV wx g x
 zr:aV wx (g+1) dG
 o1:aK wx w0.heap.size 39 11 x.R (aC roots)
 o2:aK wx w0.heap.size 39 11 x.L (aC links)
 o3:aK wx w0.heap.size 3 1 x.S (bH secs)
 ap:apart x.R x.L
theorem aK.setX {wx:World}{B:Nat}{e:TypeId}{k:Nat}{v:Value}{xs:List Value}{g i:Nat}{u:Value}(h:aK wx B e k v xs)(l:aQ v≠some g):aK (wx.setCell ⟨g,i,none⟩ u) B e k v xs:=h.grown (Gb.set g i wx u) (.inr l)
section
variable {w0 wx wy w8:World}{g:Nat}{x:AB}{roots links:List NC}{secs:List Int}
theorem fk.step(h:fk w0 g wx x roots links secs)(e:Ext wx wy):fk w0 g wy x roots links secs:=⟨h.ext.tr e,h.hg,h.au.ext e,h.zr.ext e,h.o1.ext e,h.o2.ext e,h.o3.ext e,h.ap⟩
theorem fk.r1(h:fk w0 g wx x roots links secs):aQ x.R≠some g:=h.o1.row_blk h.au kQ
theorem fk.r2(h:fk w0 g wx x roots links secs):aQ x.L≠some g:=h.o2.row_blk h.au kQ
theorem fk.r3(h:fk w0 g wx x roots links secs):aQ x.S≠some g:=h.o3.row_blk h.au wO
theorem fk.set {i:Nat}{v:Value}{y:AB}(h:fk w0 g wx x roots links secs)(C:aV (wx.setCell ⟨g,i,none⟩ v) g y)(l:y.R=x.R)(q:y.L=x.L)(F:y.S=x.S):fk w0 g (wx.setCell ⟨g,i,none⟩ v) y roots links secs:=⟨aI h.ext h.hg,h.hg,C,h.zr.other (by omega),by rw [l];exact h.o1.setX h.r1,by rw [q];exact h.o2.setX h.r2,by rw [F];exact h.o3.setX h.r3,by rw [l,q];exact h.ap⟩
theorem fk.next(h:fk w0 g wx x roots links secs)(v:Int):fk w0 g (wx.setCell ⟨g,28,none⟩ (.int .i64 v)) {x with next:=v} roots links secs:=h.set (h.au.put_next v) rfl rfl rfl
theorem fk.ssec(h:fk w0 g wx x roots links secs)(v:Int):fk w0 g (wx.setCell ⟨g,26,none⟩ (.int .i64 v)) {x with ssec:=v} roots links secs:=h.set (h.au.put_ssec v) rfl rfl rfl
theorem fk.lsec(h:fk w0 g wx x roots links secs)(v:Int):fk w0 g (wx.setCell ⟨g,27,none⟩ (.int .i64 v)) {x with lsec:=v} roots links secs:=h.set (h.au.put_lsec v) rfl rfl rfl
theorem fk.appR {F:List NC}{v:Value}(h:fk w0 g wx x roots links secs)(G:aK w8 w0.heap.size 39 11 v (aC F))(I:Ext w0 w8)(l:wx.grownBy w8 (aQ x.R))(J:∀r,aQ v=some r->aQ x.R=some r\/wx.heap.size<=r):fk w0 g (w8.setCell ⟨g,1,none⟩ v) {x with R:=v} F links secs:=by
 have C:aV w8 g x:=(l.block g h.au.lt (fun q=>h.r1 q.symm)).trans h.au;have K:aV w8 (g+1) dG:=(l.block (g+1) h.zr.lt (fun q=>h.o1.row_blk h.zr kQ q.symm)).trans h.zr;have p2:aK w8 w0.heap.size 39 11 x.L (aC links):=h.o2.grown l (by cases N:aQ x.L with | none=>exact .inl rfl | some r=>exact .inr (fun q=>h.ap r q.symm N));have p3:aK w8 w0.heap.size 3 1 x.S (bH secs):=h.o3.grown l (h.o1.row_ne h.o3 wE);have O:apart v x.L:=fun r Q H=>by rcases J r Q with q | q;(· exact h.ap r q H);· have:=mV h.o2 r H;omega
 exact⟨aI I h.hg,h.hg,C.put_R v,K.other (by omega),G.setX (G.row_blk C kQ),p2.setX (p2.row_blk C kQ),p3.setX (p3.row_blk C wO),O⟩
theorem fk.appL {F:List NC}{v:Value}(h:fk w0 g wx x roots links secs)(G:aK w8 w0.heap.size 39 11 v (aC F))(I:Ext w0 w8)(l:wx.grownBy w8 (aQ x.L))(J:∀r,aQ v=some r->aQ x.L=some r\/wx.heap.size<=r):fk w0 g (w8.setCell ⟨g,2,none⟩ v) {x with L:=v} roots F secs:=by
 have C:aV w8 g x:=(l.block g h.au.lt (fun q=>h.r2 q.symm)).trans h.au;have K:aV w8 (g+1) dG:=(l.block (g+1) h.zr.lt (fun q=>h.o2.row_blk h.zr kQ q.symm)).trans h.zr;have p1:aK w8 w0.heap.size 39 11 x.R (aC roots):=h.o1.grown l (by cases N:aQ x.R with | none=>exact .inl rfl | some r=>exact .inr (fun q=>h.ap r N q.symm));have p3:aK w8 w0.heap.size 3 1 x.S (bH secs):=h.o3.grown l (h.o2.row_ne h.o3 wE);have O:apart x.R v:=fun r H Q=>by rcases J r Q with q | q;(· exact h.ap r H q);· have:=mV h.o1 r H;omega
 exact⟨aI I h.hg,h.hg,C.put_L v,K.other (by omega),p1.setX (p1.row_blk C kQ),G.setX (G.row_blk C kQ),p3.setX (p3.row_blk C wO),O⟩
theorem fk.appS {F:List Int}{v:Value}(h:fk w0 g wx x roots links secs)(G:aK w8 w0.heap.size 3 1 v (bH F))(H:Ext w0 w8)(l:wx.grownBy w8 (aQ x.S)):fk w0 g (w8.setCell ⟨g,3,none⟩ v) {x with S:=v} roots links F:=by have C:aV w8 g x:=(l.block g h.au.lt (fun q=>h.r3 q.symm)).trans h.au;have I:aV w8 (g+1) dG:=(l.block (g+1) h.zr.lt (fun q=>h.o3.row_blk h.zr wO q.symm)).trans h.zr;have p1:aK w8 w0.heap.size 39 11 x.R (aC roots):=h.o1.grown l (h.o3.row_ne h.o1 (Ne.symm wE));have p2:aK w8 w0.heap.size 39 11 x.L (aC links):=h.o2.grown l (h.o3.row_ne h.o2 (Ne.symm wE));exact⟨aI H h.hg,h.hg,C.put_S v,I.other (by omega),p1.setX (p1.row_blk C kQ),p2.setX (p2.row_blk C kQ),G.setX (G.row_blk C wO),h.ap⟩
theorem fk.sg(h:fk w0 g wx x roots links secs)(c:NC):fk w0 g (AK wx g c) {x with sg:=c} roots links secs:=by
 have l:g+1≠g:=by omega
 exact⟨a0P h.ext h.hg c,h.hg,h.au.put_sg c,(((((((((((h.zr).other l).other l).other l).other l).other l).other l).other l).other l).other l).other l).other l,(((((((((((h.o1).setX h.r1).setX h.r1).setX h.r1).setX h.r1).setX h.r1).setX h.r1).setX h.r1).setX h.r1).setX h.r1).setX h.r1).setX h.r1,(((((((((((h.o2).setX h.r2).setX h.r2).setX h.r2).setX h.r2).setX h.r2).setX h.r2).setX h.r2).setX h.r2).setX h.r2).setX h.r2).setX h.r2,(((((((((((h.o3).setX h.r3).setX h.r3).setX h.r3).setX h.r3).setX h.r3).setX h.r3).setX h.r3).setX h.r3).setX h.r3).setX h.r3).setX h.r3,h.ap⟩
theorem fk.ls(h:fk w0 g wx x roots links secs)(c:NC):fk w0 g (AM wx g c) {x with ls:=c} roots links secs:=by
 have l:g+1≠g:=by omega
 exact⟨a0Q h.ext h.hg c,h.hg,h.au.put_ls c,(((((((((((h.zr).other l).other l).other l).other l).other l).other l).other l).other l).other l).other l).other l,(((((((((((h.o1).setX h.r1).setX h.r1).setX h.r1).setX h.r1).setX h.r1).setX h.r1).setX h.r1).setX h.r1).setX h.r1).setX h.r1).setX h.r1,(((((((((((h.o2).setX h.r2).setX h.r2).setX h.r2).setX h.r2).setX h.r2).setX h.r2).setX h.r2).setX h.r2).setX h.r2).setX h.r2).setX h.r2,(((((((((((h.o3).setX h.r3).setX h.r3).setX h.r3).setX h.r3).setX h.r3).setX h.r3).setX h.r3).setX h.r3).setX h.r3).setX h.r3).setX h.r3,h.ap⟩
end
section
end
end Go.Proofs.YtmmoenkmicimcaaGreatDoor
