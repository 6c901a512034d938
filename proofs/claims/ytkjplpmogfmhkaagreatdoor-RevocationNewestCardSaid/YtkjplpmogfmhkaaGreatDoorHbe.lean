/- Parts Jp Jr Ju Jx Jy Jq of the proof. -/
import Derived.Test.YtkjplpmogfmhkaaGreatDoorHay
namespace Go.Proofs.YtkjplpmogfmhkaaGreatDoor
open Go.RowKit
set_option linter.unusedVariables false
set_option maxRecDepth 100000
theorem IJ (n:Int):fL n 4=0 \/ fL n 4=1 \/ fL n 4=2 \/ fL n 4=3:=by have:=iO (x:=n) (m:=4) (by omega);omega
set_option maxHeartbeats 1000000 in
theorem xB (n:Int) (w:World) (hn:k8 n):Calls Tryz.prog 127 #[.int .i64 n] w fun e w'=>e=.returned (.string (aK (gZ n)))/\Ext w w':=by
 obtain ⟨n0,n1⟩:=hn
 have HM:=ZH (fun W=>iP n 4 W n0 n1 (by omega))
 have c4:=IJ n
 have hS:gZ n=if fL n 4=0 then jF else if fL n 4=1 then VD else if fL n 4=2 then VE else VF:=rfl
 generalize gZ n=S at *
 generalize fL n 4=m4 at *
 have HS:=ZH hS
 clear n0 n1 hS
 go_enter Tryz.func127,Tryz.ntmps127
 go_wp2_with fail
 refine (HM.out _).mono ?_
 rintro e w' ⟨rfl,rfl⟩
 rcases c4 with rfl | rfl | rfl | rfl
 · go_wp2_with fail
   go_ret
   obtain rfl:=HS.out
   exact ⟨rfl,(Below.refl _ _).alloc (YF _) _⟩
 · go_wp2_with fail
   go_ret
   obtain rfl:=HS.out
   exact ⟨rfl,(Below.refl _ _).alloc (YF _) _⟩
 · go_wp2_with fail
   go_ret
   obtain rfl:=HS.out
   exact ⟨rfl,(Below.refl _ _).alloc (YF _) _⟩
 · go_wp2_with fail
   go_ret
   obtain rfl:=HS.out
   exact ⟨rfl,(Below.refl _ _).alloc (YF _) _⟩
structure AB where
 st:List UInt8
 R:Value
 L:Value
 S:Value
 sg:NC
 ls:NC
 ssec:Int
 lsec:Int
 next:Int
 li:Int
 V:Value
 D:Value
 Z:Value
def abV (x:AB):Value:=.agg ((.string (aK x.st))::x.R::x.L::x.S::(.string (aK x.sg.st))::(.int .i64 x.sg.kind)::(.int .i64 x.sg.num)::(.int .i64 x.sg.iss)::(.int .i64 x.sg.own)::(.int .i64 x.sg.key)::(.int .i64 x.sg.fr)::(.int .i64 x.sg.un)::(.int .i64 x.sg.to)::(.int .i64 x.sg.e)::(.int .i64 x.sg.s)::(.string (aK x.ls.st))::(.int .i64 x.ls.kind)::(.int .i64 x.ls.num)::(.int .i64 x.ls.iss)::(.int .i64 x.ls.own)::(.int .i64 x.ls.key)::(.int .i64 x.ls.fr)::(.int .i64 x.ls.un)::(.int .i64 x.ls.to)::(.int .i64 x.ls.e)::(.int .i64 x.ls.s)::(.int .i64 x.ssec)::(.int .i64 x.lsec)::(.int .i64 x.next)::(.int .i64 x.li)::x.V::x.D::x.Z::([]:List Value)).toArray
def aU (w:World) (g:Nat) (x:AB):Prop:=w.heap[g]?=some (.cells ((.string (aK x.st))::x.R::x.L::x.S::(.string (aK x.sg.st))::(.int .i64 x.sg.kind)::(.int .i64 x.sg.num)::(.int .i64 x.sg.iss)::(.int .i64 x.sg.own)::(.int .i64 x.sg.key)::(.int .i64 x.sg.fr)::(.int .i64 x.sg.un)::(.int .i64 x.sg.to)::(.int .i64 x.sg.e)::(.int .i64 x.sg.s)::(.string (aK x.ls.st))::(.int .i64 x.ls.kind)::(.int .i64 x.ls.num)::(.int .i64 x.ls.iss)::(.int .i64 x.ls.own)::(.int .i64 x.ls.key)::(.int .i64 x.ls.fr)::(.int .i64 x.ls.un)::(.int .i64 x.ls.to)::(.int .i64 x.ls.e)::(.int .i64 x.ls.s)::(.int .i64 x.ssec)::(.int .i64 x.lsec)::(.int .i64 x.next)::(.int .i64 x.li)::x.V::x.D::x.Z::([]:List Value)).toArray 98 (0,0))
section
variable {w w':World}{g:Nat}{x:AB}
theorem aU.lt (h:aU w g x):g<w.heap.size:=aA h
theorem aU.ext (h:aU w g x) (e:Ext w w'):aU w' g x:=(e.block g h.lt).trans h
theorem aU.frozen (h:aU w g x) (i:Nat):w.frozen? ⟨g,i,none⟩=false:=by
 unfold aU at h
 simp [World.frozen?,h]
theorem aU.other {b i:Nat}{v:Value} (h:aU w g x) (hne:g≠b):aU (w.setCell ⟨b,i,none⟩ v) g x:=(aT hne).trans h
theorem aU.c0 (h:aU w g x):w.cell? ⟨g,0,none⟩=some (.string (aK x.st)):=by rw [cell_of_row w g 0 _ _ _ h];rfl
theorem aU.c1 (h:aU w g x):w.cell? ⟨g,1,none⟩=some (x.R):=by rw [cell_of_row w g 1 _ _ _ h];rfl
theorem aU.c2 (h:aU w g x):w.cell? ⟨g,2,none⟩=some (x.L):=by rw [cell_of_row w g 2 _ _ _ h];rfl
theorem aU.c3 (h:aU w g x):w.cell? ⟨g,3,none⟩=some (x.S):=by rw [cell_of_row w g 3 _ _ _ h];rfl
theorem aU.c4 (h:aU w g x):w.cell? ⟨g,4,none⟩=some (.string (aK x.sg.st)):=by rw [cell_of_row w g 4 _ _ _ h];rfl
theorem aU.c5 (h:aU w g x):w.cell? ⟨g,5,none⟩=some (.int .i64 x.sg.kind):=by rw [cell_of_row w g 5 _ _ _ h];rfl
theorem aU.c6 (h:aU w g x):w.cell? ⟨g,6,none⟩=some (.int .i64 x.sg.num):=by rw [cell_of_row w g 6 _ _ _ h];rfl
theorem aU.c7 (h:aU w g x):w.cell? ⟨g,7,none⟩=some (.int .i64 x.sg.iss):=by rw [cell_of_row w g 7 _ _ _ h];rfl
theorem aU.c8 (h:aU w g x):w.cell? ⟨g,8,none⟩=some (.int .i64 x.sg.own):=by rw [cell_of_row w g 8 _ _ _ h];rfl
theorem aU.c9 (h:aU w g x):w.cell? ⟨g,9,none⟩=some (.int .i64 x.sg.key):=by rw [cell_of_row w g 9 _ _ _ h];rfl
theorem aU.c10 (h:aU w g x):w.cell? ⟨g,10,none⟩=some (.int .i64 x.sg.fr):=by rw [cell_of_row w g 10 _ _ _ h];rfl
theorem aU.c11 (h:aU w g x):w.cell? ⟨g,11,none⟩=some (.int .i64 x.sg.un):=by rw [cell_of_row w g 11 _ _ _ h];rfl
theorem aU.c12 (h:aU w g x):w.cell? ⟨g,12,none⟩=some (.int .i64 x.sg.to):=by rw [cell_of_row w g 12 _ _ _ h];rfl
theorem aU.c13 (h:aU w g x):w.cell? ⟨g,13,none⟩=some (.int .i64 x.sg.e):=by rw [cell_of_row w g 13 _ _ _ h];rfl
theorem aU.c14 (h:aU w g x):w.cell? ⟨g,14,none⟩=some (.int .i64 x.sg.s):=by rw [cell_of_row w g 14 _ _ _ h];rfl
theorem aU.c15 (h:aU w g x):w.cell? ⟨g,15,none⟩=some (.string (aK x.ls.st)):=by rw [cell_of_row w g 15 _ _ _ h];rfl
theorem aU.c16 (h:aU w g x):w.cell? ⟨g,16,none⟩=some (.int .i64 x.ls.kind):=by rw [cell_of_row w g 16 _ _ _ h];rfl
theorem aU.c17 (h:aU w g x):w.cell? ⟨g,17,none⟩=some (.int .i64 x.ls.num):=by rw [cell_of_row w g 17 _ _ _ h];rfl
theorem aU.c18 (h:aU w g x):w.cell? ⟨g,18,none⟩=some (.int .i64 x.ls.iss):=by rw [cell_of_row w g 18 _ _ _ h];rfl
theorem aU.c19 (h:aU w g x):w.cell? ⟨g,19,none⟩=some (.int .i64 x.ls.own):=by rw [cell_of_row w g 19 _ _ _ h];rfl
theorem aU.c20 (h:aU w g x):w.cell? ⟨g,20,none⟩=some (.int .i64 x.ls.key):=by rw [cell_of_row w g 20 _ _ _ h];rfl
theorem aU.c21 (h:aU w g x):w.cell? ⟨g,21,none⟩=some (.int .i64 x.ls.fr):=by rw [cell_of_row w g 21 _ _ _ h];rfl
theorem aU.c22 (h:aU w g x):w.cell? ⟨g,22,none⟩=some (.int .i64 x.ls.un):=by rw [cell_of_row w g 22 _ _ _ h];rfl
theorem aU.c23 (h:aU w g x):w.cell? ⟨g,23,none⟩=some (.int .i64 x.ls.to):=by rw [cell_of_row w g 23 _ _ _ h];rfl
theorem aU.c24 (h:aU w g x):w.cell? ⟨g,24,none⟩=some (.int .i64 x.ls.e):=by rw [cell_of_row w g 24 _ _ _ h];rfl
theorem aU.c25 (h:aU w g x):w.cell? ⟨g,25,none⟩=some (.int .i64 x.ls.s):=by rw [cell_of_row w g 25 _ _ _ h];rfl
theorem aU.c26 (h:aU w g x):w.cell? ⟨g,26,none⟩=some (.int .i64 x.ssec):=by rw [cell_of_row w g 26 _ _ _ h];rfl
theorem aU.c27 (h:aU w g x):w.cell? ⟨g,27,none⟩=some (.int .i64 x.lsec):=by rw [cell_of_row w g 27 _ _ _ h];rfl
theorem aU.c28 (h:aU w g x):w.cell? ⟨g,28,none⟩=some (.int .i64 x.next):=by rw [cell_of_row w g 28 _ _ _ h];rfl
theorem aU.c29 (h:aU w g x):w.cell? ⟨g,29,none⟩=some (.int .i64 x.li):=by rw [cell_of_row w g 29 _ _ _ h];rfl
theorem aU.c30 (h:aU w g x):w.cell? ⟨g,30,none⟩=some (x.V):=by rw [cell_of_row w g 30 _ _ _ h];rfl
theorem aU.c31 (h:aU w g x):w.cell? ⟨g,31,none⟩=some (x.D):=by rw [cell_of_row w g 31 _ _ _ h];rfl
theorem aU.put_R (h:aU w g x) (v:Value):aU (w.setCell ⟨g,1,none⟩ (v)) g { x with R:=v }:=by
 have h9:=aF h 1 (v)
 simp only [YG,YI,YH] at h9
 exact h9
theorem aU.put_L (h:aU w g x) (v:Value):aU (w.setCell ⟨g,2,none⟩ (v)) g { x with L:=v }:=by
 have h9:=aF h 2 (v)
 simp only [YG,YI,YH] at h9
 exact h9
theorem aU.put_S (h:aU w g x) (v:Value):aU (w.setCell ⟨g,3,none⟩ (v)) g { x with S:=v }:=by
 have h9:=aF h 3 (v)
 simp only [YG,YI,YH] at h9
 exact h9
theorem aU.put_ssec (h:aU w g x) (v:Int):aU (w.setCell ⟨g,26,none⟩ (.int .i64 v)) g { x with ssec:=v }:=by
 have h9:=aF h 26 (.int .i64 v)
 simp only [YG,YI,YH] at h9
 exact h9
theorem aU.put_lsec (h:aU w g x) (v:Int):aU (w.setCell ⟨g,27,none⟩ (.int .i64 v)) g { x with lsec:=v }:=by
 have h9:=aF h 27 (.int .i64 v)
 simp only [YG,YI,YH] at h9
 exact h9
theorem aU.put_next (h:aU w g x) (v:Int):aU (w.setCell ⟨g,28,none⟩ (.int .i64 v)) g { x with next:=v }:=by
 have h9:=aF h 28 (.int .i64 v)
 simp only [YG,YI,YH] at h9
 exact h9
def xC (w:World) (g:Nat) (c:NC):World:=(((((((((((w.setCell ⟨g,4,none⟩ (.string (aK c.st))).setCell ⟨g,5,none⟩ (.int .i64 c.kind)).setCell ⟨g,6,none⟩ (.int .i64 c.num)).setCell ⟨g,7,none⟩ (.int .i64 c.iss)).setCell ⟨g,8,none⟩ (.int .i64 c.own)).setCell ⟨g,9,none⟩ (.int .i64 c.key)).setCell ⟨g,10,none⟩ (.int .i64 c.fr)).setCell ⟨g,11,none⟩ (.int .i64 c.un)).setCell ⟨g,12,none⟩ (.int .i64 c.to)).setCell ⟨g,13,none⟩ (.int .i64 c.e)).setCell ⟨g,14,none⟩ (.int .i64 c.s))
theorem aU.put_sg (h:aU w g x) (c:NC):aU (xC w g c) g { x with sg:=c }:=by
 have h9:=(aF (aF (aF (aF (aF (aF (aF (aF (aF (aF (aF h 4 (.string (aK c.st))) 5 (.int .i64 c.kind)) 6 (.int .i64 c.num)) 7 (.int .i64 c.iss)) 8 (.int .i64 c.own)) 9 (.int .i64 c.key)) 10 (.int .i64 c.fr)) 11 (.int .i64 c.un)) 12 (.int .i64 c.to)) 13 (.int .i64 c.e)) 14 (.int .i64 c.s))
 simp only [YG,YI,YH] at h9
 exact h9
theorem VT (h:Ext w w') (hg:w.heap.size<=g) (c:NC):Ext w (xC w' g c) :=
 aG (aG (aG (aG (aG (aG (aG (aG (aG (aG (aG h hg) hg) hg) hg) hg) hg) hg) hg) hg) hg) hg
def xD (w:World) (g:Nat) (c:NC):World:=(((((((((((w.setCell ⟨g,15,none⟩ (.string (aK c.st))).setCell ⟨g,16,none⟩ (.int .i64 c.kind)).setCell ⟨g,17,none⟩ (.int .i64 c.num)).setCell ⟨g,18,none⟩ (.int .i64 c.iss)).setCell ⟨g,19,none⟩ (.int .i64 c.own)).setCell ⟨g,20,none⟩ (.int .i64 c.key)).setCell ⟨g,21,none⟩ (.int .i64 c.fr)).setCell ⟨g,22,none⟩ (.int .i64 c.un)).setCell ⟨g,23,none⟩ (.int .i64 c.to)).setCell ⟨g,24,none⟩ (.int .i64 c.e)).setCell ⟨g,25,none⟩ (.int .i64 c.s))
theorem aU.put_ls (h:aU w g x) (c:NC):aU (xD w g c) g { x with ls:=c }:=by
 have h9:=(aF (aF (aF (aF (aF (aF (aF (aF (aF (aF (aF h 15 (.string (aK c.st))) 16 (.int .i64 c.kind)) 17 (.int .i64 c.num)) 18 (.int .i64 c.iss)) 19 (.int .i64 c.own)) 20 (.int .i64 c.key)) 21 (.int .i64 c.fr)) 22 (.int .i64 c.un)) 23 (.int .i64 c.to)) 24 (.int .i64 c.e)) 25 (.int .i64 c.s))
 simp only [YG,YI,YH] at h9
 exact h9
theorem VU (h:Ext w w') (hg:w.heap.size<=g) (c:NC):Ext w (xD w' g c) :=
 aG (aG (aG (aG (aG (aG (aG (aG (aG (aG (aG h hg) hg) hg) hg) hg) hg) hg) hg) hg) hg) hg
theorem F6 (w:World) (x:AB):∃ wz,wz=w.alloc (.cells ((.string (aK x.st))::x.R::x.L::x.S::(.string (aK x.sg.st))::(.int .i64 x.sg.kind)::(.int .i64 x.sg.num)::(.int .i64 x.sg.iss)::(.int .i64 x.sg.own)::(.int .i64 x.sg.key)::(.int .i64 x.sg.fr)::(.int .i64 x.sg.un)::(.int .i64 x.sg.to)::(.int .i64 x.sg.e)::(.int .i64 x.sg.s)::(.string (aK x.ls.st))::(.int .i64 x.ls.kind)::(.int .i64 x.ls.num)::(.int .i64 x.ls.iss)::(.int .i64 x.ls.own)::(.int .i64 x.ls.key)::(.int .i64 x.ls.fr)::(.int .i64 x.ls.un)::(.int .i64 x.ls.to)::(.int .i64 x.ls.e)::(.int .i64 x.ls.s)::(.int .i64 x.ssec)::(.int .i64 x.lsec)::(.int .i64 x.next)::(.int .i64 x.li)::x.V::x.D::x.Z::([]:List Value)).toArray 98)/\Ext w wz/\aU wz w.heap.size x :=
 ⟨_,rfl,(Below.refl _ _).alloc (YF _) _,aB w _⟩
end
def apart (u v:Value):Prop:=∀ r,aO u=some r->aO v≠some r
structure AbR (w:World) (B:Nat) (x:AB) (a:AU):Prop where
 o1:aJ w B 56 11 x.R (aD a.roots)
 o2:aJ w B 56 11 x.L (aD a.links)
 o3:aJ w B 3 1 x.S (aQ a.secs)
 ap:apart x.R x.L
 st:x.st=a.st
 sg:x.sg=a.sg
 ls:x.ls=a.ls
 ssec:x.ssec=a.ssec
 lsec:x.lsec=a.lsec
 next:x.next=a.next
theorem AbR.ext {w w':World}{B:Nat}{x:AB}{a:AU} (h:AbR w B x a) (e:Ext w w'):AbR w' B x a:=⟨h.o1.ext e,h.o2.ext e,h.o3.ext e,h.ap,h.st,h.sg,h.ls,h.ssec,h.lsec,h.next⟩
theorem jC:56≠98:=by decide
theorem tS:3≠98:=by decide
def dG:AB:=⟨[],.slice none 0 0,.slice none 0 0,.slice none 0 0,fZ,fZ,0,0,0,0,.slice none 0 0,.slice none 0 0,.slice none 0 0⟩
structure KyI (w0:World) (g:Nat) (wx:World) (x:AB) (roots links:List NC) (secs:List Int):Prop where
 ext:Ext w0 wx
 hg:w0.heap.size<=g
 au:aU wx g x
 zr:aU wx (g+1) dG
 o1:aJ wx w0.heap.size 56 11 x.R (aD roots)
 o2:aJ wx w0.heap.size 56 11 x.L (aD links)
 o3:aJ wx w0.heap.size 3 1 x.S (aQ secs)
 ap:apart x.R x.L
theorem aJ.setX {wx:World}{B:Nat}{e:TypeId}{k:Nat}{v:Value}{xs:List Value}{g i:Nat}{u:Value} (h:aJ wx B e k v xs) (hne:aO v≠some g):aJ (wx.setCell ⟨g,i,none⟩ u) B e k v xs:=h.grown (Gb.set g i wx u) (.inr hne)
section
variable {w0 wx wy w8:World}{g:Nat}{x:AB}{roots links:List NC}{secs:List Int}
theorem KyI.step (h:KyI w0 g wx x roots links secs) (e:Ext wx wy):KyI w0 g wy x roots links secs:=⟨h.ext.tr e,h.hg,h.au.ext e,h.zr.ext e,h.o1.ext e,h.o2.ext e,h.o3.ext e,h.ap⟩
theorem KyI.r1 (h:KyI w0 g wx x roots links secs):aO x.R≠some g:=h.o1.row_blk h.au jC
theorem KyI.r2 (h:KyI w0 g wx x roots links secs):aO x.L≠some g:=h.o2.row_blk h.au jC
theorem KyI.r3 (h:KyI w0 g wx x roots links secs):aO x.S≠some g:=h.o3.row_blk h.au tS
theorem KyI.set {i:Nat}{v:Value}{y:AB} (h:KyI w0 g wx x roots links secs) (ha:aU (wx.setCell ⟨g,i,none⟩ v) g y) (hR:y.R=x.R) (hL:y.L=x.L) (hS:y.S=x.S):KyI w0 g (wx.setCell ⟨g,i,none⟩ v) y roots links secs :=
 ⟨aG h.ext h.hg,h.hg,ha,h.zr.other (by omega),by rw [hR];exact h.o1.setX h.r1,by rw [hL];exact h.o2.setX h.r2,by rw [hS];exact h.o3.setX h.r3,by rw [hR,hL];exact h.ap⟩
theorem KyI.next (h:KyI w0 g wx x roots links secs) (v:Int):KyI w0 g (wx.setCell ⟨g,28,none⟩ (.int .i64 v)) { x with next:=v } roots links secs:=h.set (h.au.put_next v) rfl rfl rfl
theorem KyI.ssec (h:KyI w0 g wx x roots links secs) (v:Int):KyI w0 g (wx.setCell ⟨g,26,none⟩ (.int .i64 v)) { x with ssec:=v } roots links secs:=h.set (h.au.put_ssec v) rfl rfl rfl
theorem KyI.lsec (h:KyI w0 g wx x roots links secs) (v:Int):KyI w0 g (wx.setCell ⟨g,27,none⟩ (.int .i64 v)) { x with lsec:=v } roots links secs:=h.set (h.au.put_lsec v) rfl rfl rfl
theorem KyI.appR {roots':List NC}{v:Value} (h:KyI w0 g wx x roots links secs) (o8:aJ w8 w0.heap.size 56 11 v (aD roots')) (x8:Ext w0 w8) (g8:wx.grownBy w8 (aO x.R)) (f8:∀ r,aO v=some r->aO x.R=some r \/ wx.heap.size<=r) :
 KyI w0 g (w8.setCell ⟨g,1,none⟩ v) { x with R:=v } roots' links secs:=by
 have au8:aU w8 g x:=(g8.block g h.au.lt (fun q=>h.r1 q.symm)).trans h.au
 have zr8:aU w8 (g+1) dG:=(g8.block (g+1) h.zr.lt (fun q=>h.o1.row_blk h.zr jC q.symm)).trans h.zr
 have p2:aJ w8 w0.heap.size 56 11 x.L (aD links):=h.o2.grown g8 (by
  cases hq:aO x.L with
  | none=>exact .inl rfl
  | some r=>exact .inr (fun q=>h.ap r q.symm hq))
 have p3:aJ w8 w0.heap.size 3 1 x.S (aQ secs):=h.o3.grown g8 (h.o1.row_ne h.o3 tH)
 have a8:apart v x.L:=fun r hr hl=>by
  rcases f8 r hr with q | q
  · exact h.ap r q hl
  · have:=lB h.o2 r hl;omega
 exact ⟨aG x8 h.hg,h.hg,au8.put_R v,zr8.other (by omega),o8.setX (o8.row_blk au8 jC),p2.setX (p2.row_blk au8 jC),p3.setX (p3.row_blk au8 tS),a8⟩
theorem KyI.appL {links':List NC}{v:Value} (h:KyI w0 g wx x roots links secs) (o8:aJ w8 w0.heap.size 56 11 v (aD links')) (x8:Ext w0 w8) (g8:wx.grownBy w8 (aO x.L)) (f8:∀ r,aO v=some r->aO x.L=some r \/ wx.heap.size<=r) :
 KyI w0 g (w8.setCell ⟨g,2,none⟩ v) { x with L:=v } roots links' secs:=by
 have au8:aU w8 g x:=(g8.block g h.au.lt (fun q=>h.r2 q.symm)).trans h.au
 have zr8:aU w8 (g+1) dG:=(g8.block (g+1) h.zr.lt (fun q=>h.o2.row_blk h.zr jC q.symm)).trans h.zr
 have p1:aJ w8 w0.heap.size 56 11 x.R (aD roots):=h.o1.grown g8 (by
  cases hq:aO x.R with
  | none=>exact .inl rfl
  | some r=>exact .inr (fun q=>h.ap r hq q.symm))
 have p3:aJ w8 w0.heap.size 3 1 x.S (aQ secs):=h.o3.grown g8 (h.o2.row_ne h.o3 tH)
 have a8:apart x.R v:=fun r hr hl=>by
  rcases f8 r hl with q | q
  · exact h.ap r hr q
  · have:=lB h.o1 r hr;omega
 exact ⟨aG x8 h.hg,h.hg,au8.put_L v,zr8.other (by omega),p1.setX (p1.row_blk au8 jC),o8.setX (o8.row_blk au8 jC),p3.setX (p3.row_blk au8 tS),a8⟩
theorem KyI.appS {secs':List Int}{v:Value} (h:KyI w0 g wx x roots links secs) (o8:aJ w8 w0.heap.size 3 1 v (aQ secs')) (x8:Ext w0 w8) (g8:wx.grownBy w8 (aO x.S)) :
 KyI w0 g (w8.setCell ⟨g,3,none⟩ v) { x with S:=v } roots links secs':=by
 have au8:aU w8 g x:=(g8.block g h.au.lt (fun q=>h.r3 q.symm)).trans h.au
 have zr8:aU w8 (g+1) dG:=(g8.block (g+1) h.zr.lt (fun q=>h.o3.row_blk h.zr tS q.symm)).trans h.zr
 have p1:aJ w8 w0.heap.size 56 11 x.R (aD roots):=h.o1.grown g8 (h.o3.row_ne h.o1 (Ne.symm tH))
 have p2:aJ w8 w0.heap.size 56 11 x.L (aD links):=h.o2.grown g8 (h.o3.row_ne h.o2 (Ne.symm tH))
 exact ⟨aG x8 h.hg,h.hg,au8.put_S v,zr8.other (by omega),p1.setX (p1.row_blk au8 jC),p2.setX (p2.row_blk au8 jC),o8.setX (o8.row_blk au8 tS),h.ap⟩
theorem KyI.sg (h:KyI w0 g wx x roots links secs) (c:NC):KyI w0 g (xC wx g c) { x with sg:=c } roots links secs:=by
 have hne:g+1≠g:=by omega
 exact ⟨VT h.ext h.hg c,h.hg,h.au.put_sg c,(((((((((((h.zr).other hne).other hne).other hne).other hne).other hne).other hne).other hne).other hne).other hne).other hne).other hne,(((((((((((h.o1).setX h.r1).setX h.r1).setX h.r1).setX h.r1).setX h.r1).setX h.r1).setX h.r1).setX h.r1).setX h.r1).setX h.r1).setX h.r1,(((((((((((h.o2).setX h.r2).setX h.r2).setX h.r2).setX h.r2).setX h.r2).setX h.r2).setX h.r2).setX h.r2).setX h.r2).setX h.r2).setX h.r2,(((((((((((h.o3).setX h.r3).setX h.r3).setX h.r3).setX h.r3).setX h.r3).setX h.r3).setX h.r3).setX h.r3).setX h.r3).setX h.r3).setX h.r3,h.ap⟩
theorem KyI.ls (h:KyI w0 g wx x roots links secs) (c:NC):KyI w0 g (xD wx g c) { x with ls:=c } roots links secs:=by
 have hne:g+1≠g:=by omega
 exact ⟨VU h.ext h.hg c,h.hg,h.au.put_ls c,(((((((((((h.zr).other hne).other hne).other hne).other hne).other hne).other hne).other hne).other hne).other hne).other hne).other hne,(((((((((((h.o1).setX h.r1).setX h.r1).setX h.r1).setX h.r1).setX h.r1).setX h.r1).setX h.r1).setX h.r1).setX h.r1).setX h.r1).setX h.r1,(((((((((((h.o2).setX h.r2).setX h.r2).setX h.r2).setX h.r2).setX h.r2).setX h.r2).setX h.r2).setX h.r2).setX h.r2).setX h.r2).setX h.r2,(((((((((((h.o3).setX h.r3).setX h.r3).setX h.r3).setX h.r3).setX h.r3).setX h.r3).setX h.r3).setX h.r3).setX h.r3).setX h.r3).setX h.r3,h.ap⟩
end
def set_au (w:World) (g:Nat) (x:AB):World:=(((((((((((((((((((((((((((((((((w.setCell ⟨g,0,none⟩ (.string (aK x.st))).setCell ⟨g,1,none⟩ x.R).setCell ⟨g,2,none⟩ x.L).setCell ⟨g,3,none⟩ x.S).setCell ⟨g,4,none⟩ (.string (aK x.sg.st))).setCell ⟨g,5,none⟩ (.int .i64 x.sg.kind)).setCell ⟨g,6,none⟩ (.int .i64 x.sg.num)).setCell ⟨g,7,none⟩ (.int .i64 x.sg.iss)).setCell ⟨g,8,none⟩ (.int .i64 x.sg.own)).setCell ⟨g,9,none⟩ (.int .i64 x.sg.key)).setCell ⟨g,10,none⟩ (.int .i64 x.sg.fr)).setCell ⟨g,11,none⟩ (.int .i64 x.sg.un)).setCell ⟨g,12,none⟩ (.int .i64 x.sg.to)).setCell ⟨g,13,none⟩ (.int .i64 x.sg.e)).setCell ⟨g,14,none⟩ (.int .i64 x.sg.s)).setCell ⟨g,15,none⟩ (.string (aK x.ls.st))).setCell ⟨g,16,none⟩ (.int .i64 x.ls.kind)).setCell ⟨g,17,none⟩ (.int .i64 x.ls.num)).setCell ⟨g,18,none⟩ (.int .i64 x.ls.iss)).setCell ⟨g,19,none⟩ (.int .i64 x.ls.own)).setCell ⟨g,20,none⟩ (.int .i64 x.ls.key)).setCell ⟨g,21,none⟩ (.int .i64 x.ls.fr)).setCell ⟨g,22,none⟩ (.int .i64 x.ls.un)).setCell ⟨g,23,none⟩ (.int .i64 x.ls.to)).setCell ⟨g,24,none⟩ (.int .i64 x.ls.e)).setCell ⟨g,25,none⟩ (.int .i64 x.ls.s)).setCell ⟨g,26,none⟩ (.int .i64 x.ssec)).setCell ⟨g,27,none⟩ (.int .i64 x.lsec)).setCell ⟨g,28,none⟩ (.int .i64 x.next)).setCell ⟨g,29,none⟩ (.int .i64 x.li)).setCell ⟨g,30,none⟩ x.V).setCell ⟨g,31,none⟩ x.D).setCell ⟨g,32,none⟩ x.Z)
theorem aU.set_au {w:World}{g:Nat}{y:AB} (h:aU w g y) (x:AB):aU (set_au w g x) g x:=by
 have h9:=(aF (aF (aF (aF (aF (aF (aF (aF (aF (aF (aF (aF (aF (aF (aF (aF (aF (aF (aF (aF (aF (aF (aF (aF (aF (aF (aF (aF (aF (aF (aF (aF (aF h 0 (.string (aK x.st))) 1 x.R) 2 x.L) 3 x.S) 4 (.string (aK x.sg.st))) 5 (.int .i64 x.sg.kind)) 6 (.int .i64 x.sg.num)) 7 (.int .i64 x.sg.iss)) 8 (.int .i64 x.sg.own)) 9 (.int .i64 x.sg.key)) 10 (.int .i64 x.sg.fr)) 11 (.int .i64 x.sg.un)) 12 (.int .i64 x.sg.to)) 13 (.int .i64 x.sg.e)) 14 (.int .i64 x.sg.s)) 15 (.string (aK x.ls.st))) 16 (.int .i64 x.ls.kind)) 17 (.int .i64 x.ls.num)) 18 (.int .i64 x.ls.iss)) 19 (.int .i64 x.ls.own)) 20 (.int .i64 x.ls.key)) 21 (.int .i64 x.ls.fr)) 22 (.int .i64 x.ls.un)) 23 (.int .i64 x.ls.to)) 24 (.int .i64 x.ls.e)) 25 (.int .i64 x.ls.s)) 26 (.int .i64 x.ssec)) 27 (.int .i64 x.lsec)) 28 (.int .i64 x.next)) 29 (.int .i64 x.li)) 30 x.V) 31 x.D) 32 x.Z)
 simp only [YG,YI,YH] at h9
 exact h9
theorem VV {w w':World}{g:Nat} (h:Ext w w') (hg:w.heap.size<=g) (x:AB):Ext w (Proofs.YtkjplpmogfmhkaaGreatDoor.set_au w' g x) :=
 aG (aG (aG (aG (aG (aG (aG (aG (aG (aG (aG (aG (aG (aG (aG (aG (aG (aG (aG (aG (aG (aG (aG (aG (aG (aG (aG (aG (aG (aG (aG (aG (aG h hg) hg) hg) hg) hg) hg) hg) hg) hg) hg) hg) hg) hg) hg) hg) hg) hg) hg) hg) hg) hg) hg) hg) hg) hg) hg) hg) hg) hg) hg) hg) hg) hg
theorem aJ.set_au {w:World}{B:Nat}{e:TypeId}{k:Nat}{v:Value}{xs:List Value}{g:Nat} (h:aJ w B e k v xs) (r:aO v≠some g) (x:AB):aJ (Proofs.YtkjplpmogfmhkaaGreatDoor.set_au w g x) B e k v xs:=(((((((((((((((((((((((((((((((((h).setX r).setX r).setX r).setX r).setX r).setX r).setX r).setX r).setX r).setX r).setX r).setX r).setX r).setX r).setX r).setX r).setX r).setX r).setX r).setX r).setX r).setX r).setX r).setX r).setX r).setX r).setX r).setX r).setX r).setX r).setX r).setX r).setX r
theorem KyI.fin {w0 wx:World}{g:Nat}{x:AB}{roots links:List NC}{secs:List Int} (h:KyI w0 g wx x roots links secs):Ext w0 (Proofs.YtkjplpmogfmhkaaGreatDoor.set_au wx (g+1) x)/\aU (Proofs.YtkjplpmogfmhkaaGreatDoor.set_au wx (g+1) x) (g+1) x /\
 aJ (Proofs.YtkjplpmogfmhkaaGreatDoor.set_au wx (g+1) x) w0.heap.size 56 11 x.R (aD roots)/\aJ (Proofs.YtkjplpmogfmhkaaGreatDoor.set_au wx (g+1) x) w0.heap.size 56 11 x.L (aD links)/\aJ (Proofs.YtkjplpmogfmhkaaGreatDoor.set_au wx (g+1) x) w0.heap.size 3 1 x.S (aQ secs) :=
 ⟨VV h.ext (by have:=h.hg;omega) x,h.zr.set_au x,h.o1.set_au (h.o1.row_blk h.zr jC) x,h.o2.set_au (h.o2.row_blk h.zr jC) x,h.o3.set_au (h.o3.row_blk h.zr tS) x⟩
section
end
def F7 (c:NC):Array Value:=#[.string (aK c.st),.int .i64 c.kind,.int .i64 c.num,.int .i64 c.iss,.int .i64 c.own,.int .i64 c.key,.int .i64 c.fr,.int .i64 c.un,.int .i64 c.to,.int .i64 c.e,.int .i64 c.s]
theorem N4 (c:NC):(F7 c).all (·.oneCell')=true:=by simp [F7,Value.oneCell']
theorem m8:(Tryz.prog.info? 56).map (·.size)=some 11:=by kernel_rfl
theorem bX:(Tryz.prog.info? 98).map (·.size)=some 33:=by kernel_rfl
theorem cK.row {w:World}{g:Nat}{c:NC} (h:cK w g c):w.heap[g]?=some (.cells (F7 c) 56 (0,0)):=h
theorem cK.setRow {w:World}{g:Nat}{c:NC} (h:cK w g c) (d:NC):cK (w.setRow g (F7 d)) g d:=aX h
theorem RgS.setRow {S:List Nat}{G:Nat->Prop}{T:TypeId}{g:Nat}{w:World}{cs cs':Array Value} (hg:w.heap[g]?=some (.cells cs T (0,0))) (hT:T ∈ S) (hG:G g) (hs:cs'.size=cs.size):RgS S G w (w.setRow g cs'):=by
 have hb:=Gb.setRow g w cs'
 refine ⟨hb.os,hb.tape,hb.output,hb.size,fun k hk=>?_⟩
 by_cases hkg:k=g
 · subst hkg
   exact .inr ⟨hG,T,cs,_,(0,0),hT,hg,aX hg,hs⟩
 · exact .inl (hb.block k hk (fun q=>hkg (by injection q)))
def TJ (B:Nat):aE:=fun v w=>∃ g,v=.pointer (some ⟨g,0,none⟩)/\B<=g/\pM w g 56 11
def yF (B:Nat) (c:NC):aE:=fun v w=>∃ g,v=.pointer (some ⟨g,0,none⟩)/\B<=g/\cK w g c
theorem yF.ext {B:Nat}{c:NC} (v:Value) (w w':World) (e:Ext w w') (h:yF B c v w):yF B c v w':=by
 obtain ⟨g,h1,h2,h3⟩:=h
 exact ⟨g,h1,h2,h3.ext e⟩
def ncT:List Nat:=[56]
theorem VW:56 ∈ ncT:=List.mem_singleton.2 rfl
theorem yF.st {B:Nat}{c:NC}{S:List Nat}{G:Nat->Prop} (T:Nat) (hT:T≠56) (v:Value) (w w':World) (e:(RG S G).st T w w') (h:yF B c v w):yF B c v w':=by
 obtain ⟨g,h1,h2,h3⟩:=h
 exact ⟨g,h1,h2,e.2.other h3 (fun q=>hT (List.mem_singleton.1 q).symm)⟩
theorem F8 (B:Nat) (S:List Nat) (G:Nat->Prop):(RG S G).stable (TJ B):=fun v w w' r ⟨g,h1,h2,h3⟩=>⟨g,h1,h2,h3.rg r⟩
theorem BY (W:World):(Instr.alloc 56 true (.tuple #[])).run Tryz.prog W=.ok (.pointer (some ⟨W.heap.size,0,none⟩)) (W.alloc (.cells #[.string ⟨#[]⟩,.int .i64 0,.int .i64 0,.int .i64 0,.int .i64 0,.int .i64 0,.int .i64 0,.int .i64 0,.int .i64 0,.int .i64 0,.int .i64 0] 56)):=by go_simp
theorem Q0 {w:World}{g:Nat} (h:pM w g 56 11) (c:NC) :
 ∃ w',(Instr.storeAt 56 (.pointer (some ⟨g,0,none⟩)) (ncV c)).run Tryz.prog w=.ok () w'/\cK w' g c/\∀ G:Nat->Prop,G g->RgS [56] G w w':=by
 obtain ⟨cs,h1,h2⟩:=h
 exact ⟨_,dQ (cells:=F7 c) h1 m8 h2 (N4 c),aX h1,fun G hG=>RgS.setRow h1 (List.mem_singleton.2 rfl) hG h2.symm⟩
section
open Gd (dT)
variable {P:Program}
variable {r:Gt.Rl}{ops:Array Oper}{Q:Exit->Act->World->Prop}{w0:World}{R:Act->World->Prop}{ss:List (Nat × aE)}
theorem Gt.wpX_allocN11 {o:Oper}{rest:List Oper}{a:Act}{hs:List (Nat × aE)}{d:Nat} (B:Nat) (hB:∀ m:r.Lt w0,B<=m.1.heap.size) (hst:r.stable (TJ B)) (hg:dT ops o a hs)
 (hd:o.dst=some d) (hz:Nat.blt d a.tmps.size=true) (ho:o.op=.alloc 56) (hin:(bG o).all (fun t=>Nat.blt t a.tmps.size)=true)
 (hr:Gt.wpX r Tryz.prog ops Q w0 R ss rest (a.put (some d) undef) ((d,TJ B)::hs)):Gt.wpX r Tryz.prog ops Q w0 R ss (o::rest) a hs :=
 Gt.eZ hg (TJ B) hst (fun _=>Instr.alloc 56 true (.tuple #[])) hd hz (by unfold aV;rw [ho]) hin (fun f=>by unfold execOp;simp only [ho])
  (fun m f hf=>⟨_,_,BY m.1,r.dxe ((Below.refl _ _).alloc (YF _) _),_,rfl,hB m,_,aB m.1 _,rfl⟩) hr
theorem Gt.wpX_endG {a:Act}{hs:List (Nat × aE)} (hok:(ss.all fun q=>lW a (.tmp q.1))=true)
 (h:∀ (m:r.Lt w0) (f:Nat->Value),(∀ t p,hs.lookup t=some p->p (f t) m.1)->(∀ q ∈ ss,q.2 (evF a hs f (.tmp q.1)) m.1)->R (bO a hs f) m.1):Gt.wpX r P ops Q w0 R ss [] a hs :=
 Gt.cH fun m f hf hqs=>h m f hf fun q hq=>by
  have:=hqs q hq
  rwa [Gt.dY (List.all_eq_true.1 hok q hq)] at this
end
theorem qY (W:World) (a b:Value):(Instr.extract (.tuple #[a,b]) 0).run Tryz.prog W=.ok a W/\(Instr.extract (.tuple #[a,b]) 1).run Tryz.prog W=.ok b W:=by
 refine ⟨?_,?_⟩ <;> go_simp
def bE (x:AB):Array Value:=((.string (aK x.st))::x.R::x.L::x.S::(.string (aK x.sg.st))::(.int .i64 x.sg.kind)::(.int .i64 x.sg.num)::(.int .i64 x.sg.iss)::(.int .i64 x.sg.own)::(.int .i64 x.sg.key)::(.int .i64 x.sg.fr)::(.int .i64 x.sg.un)::(.int .i64 x.sg.to)::(.int .i64 x.sg.e)::(.int .i64 x.sg.s)::(.string (aK x.ls.st))::(.int .i64 x.ls.kind)::(.int .i64 x.ls.num)::(.int .i64 x.ls.iss)::(.int .i64 x.ls.own)::(.int .i64 x.ls.key)::(.int .i64 x.ls.fr)::(.int .i64 x.ls.un)::(.int .i64 x.ls.to)::(.int .i64 x.ls.e)::(.int .i64 x.ls.s)::(.int .i64 x.ssec)::(.int .i64 x.lsec)::(.int .i64 x.next)::(.int .i64 x.li)::x.V::x.D::x.Z::([]:List Value)).toArray
structure qZ (x:AB):Prop where
 R:x.R.oneCell'=true
 L:x.L.oneCell'=true
 S:x.S.oneCell'=true
 V:x.V.oneCell'=true
 D:x.D.oneCell'=true
 Z:x.Z.oneCell'=true
theorem dE {x:AB} (h:qZ x):(bE x).all (·.oneCell')=true:=by
 unfold bE
 simp only [List.all_toArray,List.all_cons,List.all_nil,h.R,h.L,h.S,h.V,h.D,h.Z]
 rfl
theorem aU.row {w:World}{g:Nat}{x:AB} (h:aU w g x):w.heap[g]?=some (.cells (bE x) 98 (0,0)):=h
theorem aU.setRow {w:World}{g:Nat}{x:AB} (h:aU w g x) (y:AB):aU (w.setRow g (bE y)) g y:=aX h
theorem aJ.one {w:World}{B:Nat}{e:TypeId}{k:Nat}{v:Value}{xs:List Value} (h:aJ w B e k v xs):v.oneCell'=true:=by
 obtain ⟨A,n,c,rfl,_⟩:=h
 rfl
theorem aJ.setR {wx:World}{B:Nat}{e:TypeId}{k:Nat}{v:Value}{xs:List Value}{g:Nat}{cs:Array Value} (h:aJ wx B e k v xs) (hne:aO v≠some g):aJ (wx.setRow g cs) B e k v xs:=h.grown (Gb.setRow g wx cs) (.inr hne)
theorem KyI.poke {w0 wx:World}{g b i:Nat}{v:Value}{x:AB}{roots links:List NC}{secs:List Int} (h:KyI w0 g wx x roots links secs) (hb:w0.heap.size<=b) (h1:g≠b) (h2:g+1≠b) (r1:aO x.R≠some b) (r2:aO x.L≠some b) (r3:aO x.S≠some b):KyI w0 g (wx.setCell ⟨b,i,none⟩ v) x roots links secs :=
 ⟨aG h.ext hb,h.hg,h.au.other h1,h.zr.other h2,h.o1.setX r1,h.o2.setX r2,h.o3.setX r3,h.ap⟩
theorem cK.put123 {w:World}{g:Nat}{c:NC} (h:cK w g c) (a b d:Int):cK (((w.setCell ⟨g,1,none⟩ (.int .i64 a)).setCell ⟨g,2,none⟩ (.int .i64 b)).setCell ⟨g,3,none⟩ (.int .i64 d)) g ⟨c.st,a,b,d,c.own,c.key,c.fr,c.un,c.to,c.e,c.s⟩:=by
 have h9:=aF (aF (aF h 1 (.int .i64 a)) 2 (.int .i64 b)) 3 (.int .i64 d)
 simp only [YG,YI,YH] at h9
 exact h9
theorem KyI.finR {w0 wx:World}{g:Nat}{x:AB}{roots links:List NC}{secs:List Int} (h:KyI w0 g wx x roots links secs):Ext w0 (wx.setRow (g+1) (bE x))/\aU (wx.setRow (g+1) (bE x)) (g+1) x /\
 aJ (wx.setRow (g+1) (bE x)) w0.heap.size 56 11 x.R (aD roots)/\aJ (wx.setRow (g+1) (bE x)) w0.heap.size 56 11 x.L (aD links)/\aJ (wx.setRow (g+1) (bE x)) w0.heap.size 3 1 x.S (aQ secs) :=
 ⟨aS h.ext (by have:=h.hg;omega) _,h.zr.setRow x,h.o1.setR (h.o1.row_blk h.zr jC),h.o2.setR (h.o2.row_blk h.zr jC),h.o3.setR (h.o3.row_blk h.zr tS)⟩
section
variable {w w':World}{P:Nat}{R L T:Value}{day:Int}
end
section
variable {w wr wx:World}{B D b P:Nat}{day:Int}{R L T:Value}{vs us t:List (Value × List NC)}
end
def Q1 (B:Nat) (c:NC):aE:=fun v w=>∃ g,v=.slice (some ⟨g,0,none⟩) 1 1/\B<=g/\w.heap[g]?=some (.cells (aH c).toArray 56 (0,0))
theorem BZ (B:Nat) (c:NC):cZ (Q1 B c):=fun v w w' e ⟨g,h1,h2,h3⟩=>⟨g,h1,h2,(e.block g (aA h3)).trans h3⟩
theorem XG (W:World) (B:Nat) (c:NC) (h:B<=W.heap.size):Q1 B c (.slice (some ⟨W.heap.size,0,none⟩) 1 1) (W.alloc (.cells (aH c).toArray 56)):=⟨_,rfl,h,aB W _⟩
theorem VX {w:World}{g:Nat}{c:NC} (h:w.heap[g]?=some (.cells (aH c).toArray 56 (0,0))):RdK w 11 (.slice (some ⟨g,0,none⟩) 1 1) (aH c) :=
 ⟨_,1,1,rfl,rfl,YF _,by unfold maxLen;omega,fun _=>⟨g,0,rfl,fun j u hu=>by
   rw [YR,cell_of_row w g j _ _ (0,0) h,List.getElem?_toArray]
   exact hu⟩⟩
theorem IK (n:Int):(gZ n).length<=4096:=by
 unfold gZ
 split
 · decide
 · split
   · decide
   · split
     · decide
     · decide
theorem zO (n:Int):(gZ n).length<=maxLen:=YO (IK n) (by unfold maxLen;omega)
theorem zP (x:Int):-9223372036854775808<=wrap64 x/\wrap64 x<9223372036854775808:=by unfold wrap64;omega
end Go.Proofs.YtkjplpmogfmhkaaGreatDoor
