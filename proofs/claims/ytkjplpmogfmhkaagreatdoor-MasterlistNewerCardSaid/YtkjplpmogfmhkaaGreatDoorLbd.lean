/- Parts Jp Jr Ju Jx Jy Jq of the proof. -/
import Derived.Test.YtkjplpmogfmhkaaGreatDoorLau
import Derived.Test.YtkjplpmogfmhkaaGreatDoorLav
import Derived.Deep.CutRange
import Derived.Deep.RegionWith
import Derived.Test.YtkjplpmogfmhkaaGreatDoorLaw
import Derived.Test.YtkjplpmogfmhkaaGreatDoorLar
import Derived.Test.YtkjplpmogfmhkaaGreatDoorLat
namespace Go.Proofs.YtkjplpmogfmhkaaGreatDoor
open Go.RowKit
set_option linter.unusedVariables false
set_option maxRecDepth 100000
theorem FX (n:Int):eF n 4=0 ∨ eF n 4=1 ∨ eF n 4=2 ∨ eF n 4=3:=by have:=iP (x:=n) (m:=4) (by omega);omega
set_option maxHeartbeats 1000000 in
theorem pB (n:Int) (w:World) (hn:mA n):Calls Tryz.prog 127 #[.int .i64 n] w fun e w'=>e=.returned (.string (aI (gE n)))∧Ext w w':=by
 obtain ⟨n0,n1⟩:=hn
 have HM:=VR (fun W=>gN n 4 W n0 n1 (by omega))
 have c4:=FX n
 have hS:gE n=if eF n 4=0 then mR else if eF n 4=1 then JN else if eF n 4=2 then RP else RQ:=rfl
 generalize gE n=S at *
 generalize eF n 4=m4 at *
 have HS:=VR hS
 clear n0 n1 hS
 go_enter Tryz.func127,Tryz.ntmps127
 go_wp2_with fail
 refine (HM.out _).mono ?_
 rintro e w' ⟨rfl,rfl⟩
 rcases c4 with rfl | rfl | rfl | rfl
 · go_wp2_with fail
   go_ret
   obtain rfl:=HS.out
   exact ⟨rfl,(Below.refl _ _).alloc (UX _) _⟩
 · go_wp2_with fail
   go_ret
   obtain rfl:=HS.out
   exact ⟨rfl,(Below.refl _ _).alloc (UX _) _⟩
 · go_wp2_with fail
   go_ret
   obtain rfl:=HS.out
   exact ⟨rfl,(Below.refl _ _).alloc (UX _) _⟩
 · go_wp2_with fail
   go_ret
   obtain rfl:=HS.out
   exact ⟨rfl,(Below.refl _ _).alloc (UX _) _⟩
structure AB where
 st:List UInt8
 R:Value
 L:Value
 S:Value
 sg:NC
 ls:NC
 ssec:Int
 lsec:Int
 next:Int
 li:Int
 V:Value
 D:Value
 Z:Value
def abV (x:AB):Value:=.agg ((.string (aI x.st))::x.R::x.L::x.S::(.string (aI x.sg.st))::(.int .i64 x.sg.kind)::(.int .i64 x.sg.num)::(.int .i64 x.sg.iss)::(.int .i64 x.sg.own)::(.int .i64 x.sg.key)::(.int .i64 x.sg.fr)::(.int .i64 x.sg.un)::(.int .i64 x.sg.to)::(.int .i64 x.sg.e)::(.int .i64 x.sg.s)::(.string (aI x.ls.st))::(.int .i64 x.ls.kind)::(.int .i64 x.ls.num)::(.int .i64 x.ls.iss)::(.int .i64 x.ls.own)::(.int .i64 x.ls.key)::(.int .i64 x.ls.fr)::(.int .i64 x.ls.un)::(.int .i64 x.ls.to)::(.int .i64 x.ls.e)::(.int .i64 x.ls.s)::(.int .i64 x.ssec)::(.int .i64 x.lsec)::(.int .i64 x.next)::(.int .i64 x.li)::x.V::x.D::x.Z::([]:List Value)).toArray
def aS (w:World) (g:Nat) (x:AB):Prop:=w.heap[g]?=some (.cells ((.string (aI x.st))::x.R::x.L::x.S::(.string (aI x.sg.st))::(.int .i64 x.sg.kind)::(.int .i64 x.sg.num)::(.int .i64 x.sg.iss)::(.int .i64 x.sg.own)::(.int .i64 x.sg.key)::(.int .i64 x.sg.fr)::(.int .i64 x.sg.un)::(.int .i64 x.sg.to)::(.int .i64 x.sg.e)::(.int .i64 x.sg.s)::(.string (aI x.ls.st))::(.int .i64 x.ls.kind)::(.int .i64 x.ls.num)::(.int .i64 x.ls.iss)::(.int .i64 x.ls.own)::(.int .i64 x.ls.key)::(.int .i64 x.ls.fr)::(.int .i64 x.ls.un)::(.int .i64 x.ls.to)::(.int .i64 x.ls.e)::(.int .i64 x.ls.s)::(.int .i64 x.ssec)::(.int .i64 x.lsec)::(.int .i64 x.next)::(.int .i64 x.li)::x.V::x.D::x.Z::([]:List Value)).toArray 98 (0,0))
section
variable {w w':World}{g:Nat}{x:AB}
theorem aS.lt (h:aS w g x):g<w.heap.size:=a9 h
theorem aS.ext (h:aS w g x) (e:Ext w w'):aS w' g x:=(e.block g h.lt).trans h
theorem aS.frozen (h:aS w g x) (i:Nat):w.frozen? ⟨g,i,none⟩=false:=by
 unfold aS at h
 simp [World.frozen?,h]
theorem aS.other {b i:Nat}{v:Value} (h:aS w g x) (hne:g≠b):aS (w.setCell ⟨b,i,none⟩ v) g x:=(aW hne).trans h
theorem aS.c0 (h:aS w g x):w.cell? ⟨g,0,none⟩=some (.string (aI x.st)):=by rw [cell_of_row w g 0 _ _ _ h];rfl
theorem aS.c1 (h:aS w g x):w.cell? ⟨g,1,none⟩=some (x.R):=by rw [cell_of_row w g 1 _ _ _ h];rfl
theorem aS.c2 (h:aS w g x):w.cell? ⟨g,2,none⟩=some (x.L):=by rw [cell_of_row w g 2 _ _ _ h];rfl
theorem aS.c3 (h:aS w g x):w.cell? ⟨g,3,none⟩=some (x.S):=by rw [cell_of_row w g 3 _ _ _ h];rfl
theorem aS.c4 (h:aS w g x):w.cell? ⟨g,4,none⟩=some (.string (aI x.sg.st)):=by rw [cell_of_row w g 4 _ _ _ h];rfl
theorem aS.c5 (h:aS w g x):w.cell? ⟨g,5,none⟩=some (.int .i64 x.sg.kind):=by rw [cell_of_row w g 5 _ _ _ h];rfl
theorem aS.c6 (h:aS w g x):w.cell? ⟨g,6,none⟩=some (.int .i64 x.sg.num):=by rw [cell_of_row w g 6 _ _ _ h];rfl
theorem aS.c7 (h:aS w g x):w.cell? ⟨g,7,none⟩=some (.int .i64 x.sg.iss):=by rw [cell_of_row w g 7 _ _ _ h];rfl
theorem aS.c8 (h:aS w g x):w.cell? ⟨g,8,none⟩=some (.int .i64 x.sg.own):=by rw [cell_of_row w g 8 _ _ _ h];rfl
theorem aS.c9 (h:aS w g x):w.cell? ⟨g,9,none⟩=some (.int .i64 x.sg.key):=by rw [cell_of_row w g 9 _ _ _ h];rfl
theorem aS.c10 (h:aS w g x):w.cell? ⟨g,10,none⟩=some (.int .i64 x.sg.fr):=by rw [cell_of_row w g 10 _ _ _ h];rfl
theorem aS.c11 (h:aS w g x):w.cell? ⟨g,11,none⟩=some (.int .i64 x.sg.un):=by rw [cell_of_row w g 11 _ _ _ h];rfl
theorem aS.c12 (h:aS w g x):w.cell? ⟨g,12,none⟩=some (.int .i64 x.sg.to):=by rw [cell_of_row w g 12 _ _ _ h];rfl
theorem aS.c13 (h:aS w g x):w.cell? ⟨g,13,none⟩=some (.int .i64 x.sg.e):=by rw [cell_of_row w g 13 _ _ _ h];rfl
theorem aS.c14 (h:aS w g x):w.cell? ⟨g,14,none⟩=some (.int .i64 x.sg.s):=by rw [cell_of_row w g 14 _ _ _ h];rfl
theorem aS.c15 (h:aS w g x):w.cell? ⟨g,15,none⟩=some (.string (aI x.ls.st)):=by rw [cell_of_row w g 15 _ _ _ h];rfl
theorem aS.c16 (h:aS w g x):w.cell? ⟨g,16,none⟩=some (.int .i64 x.ls.kind):=by rw [cell_of_row w g 16 _ _ _ h];rfl
theorem aS.c17 (h:aS w g x):w.cell? ⟨g,17,none⟩=some (.int .i64 x.ls.num):=by rw [cell_of_row w g 17 _ _ _ h];rfl
theorem aS.c18 (h:aS w g x):w.cell? ⟨g,18,none⟩=some (.int .i64 x.ls.iss):=by rw [cell_of_row w g 18 _ _ _ h];rfl
theorem aS.c19 (h:aS w g x):w.cell? ⟨g,19,none⟩=some (.int .i64 x.ls.own):=by rw [cell_of_row w g 19 _ _ _ h];rfl
theorem aS.c20 (h:aS w g x):w.cell? ⟨g,20,none⟩=some (.int .i64 x.ls.key):=by rw [cell_of_row w g 20 _ _ _ h];rfl
theorem aS.c21 (h:aS w g x):w.cell? ⟨g,21,none⟩=some (.int .i64 x.ls.fr):=by rw [cell_of_row w g 21 _ _ _ h];rfl
theorem aS.c22 (h:aS w g x):w.cell? ⟨g,22,none⟩=some (.int .i64 x.ls.un):=by rw [cell_of_row w g 22 _ _ _ h];rfl
theorem aS.c23 (h:aS w g x):w.cell? ⟨g,23,none⟩=some (.int .i64 x.ls.to):=by rw [cell_of_row w g 23 _ _ _ h];rfl
theorem aS.c24 (h:aS w g x):w.cell? ⟨g,24,none⟩=some (.int .i64 x.ls.e):=by rw [cell_of_row w g 24 _ _ _ h];rfl
theorem aS.c25 (h:aS w g x):w.cell? ⟨g,25,none⟩=some (.int .i64 x.ls.s):=by rw [cell_of_row w g 25 _ _ _ h];rfl
theorem aS.c26 (h:aS w g x):w.cell? ⟨g,26,none⟩=some (.int .i64 x.ssec):=by rw [cell_of_row w g 26 _ _ _ h];rfl
theorem aS.c27 (h:aS w g x):w.cell? ⟨g,27,none⟩=some (.int .i64 x.lsec):=by rw [cell_of_row w g 27 _ _ _ h];rfl
theorem aS.c28 (h:aS w g x):w.cell? ⟨g,28,none⟩=some (.int .i64 x.next):=by rw [cell_of_row w g 28 _ _ _ h];rfl
theorem aS.c29 (h:aS w g x):w.cell? ⟨g,29,none⟩=some (.int .i64 x.li):=by rw [cell_of_row w g 29 _ _ _ h];rfl
theorem aS.c31 (h:aS w g x):w.cell? ⟨g,31,none⟩=some (x.D):=by rw [cell_of_row w g 31 _ _ _ h];rfl
theorem aS.put_R (h:aS w g x) (v:Value):aS (w.setCell ⟨g,1,none⟩ (v)) g { x with R:=v }:=by
 have h9:=aG h 1 (v)
 simp only [UY,UZ,V0] at h9
 exact h9
theorem aS.put_L (h:aS w g x) (v:Value):aS (w.setCell ⟨g,2,none⟩ (v)) g { x with L:=v }:=by
 have h9:=aG h 2 (v)
 simp only [UY,UZ,V0] at h9
 exact h9
theorem aS.put_S (h:aS w g x) (v:Value):aS (w.setCell ⟨g,3,none⟩ (v)) g { x with S:=v }:=by
 have h9:=aG h 3 (v)
 simp only [UY,UZ,V0] at h9
 exact h9
theorem aS.put_ssec (h:aS w g x) (v:Int):aS (w.setCell ⟨g,26,none⟩ (.int .i64 v)) g { x with ssec:=v }:=by
 have h9:=aG h 26 (.int .i64 v)
 simp only [UY,UZ,V0] at h9
 exact h9
theorem aS.put_lsec (h:aS w g x) (v:Int):aS (w.setCell ⟨g,27,none⟩ (.int .i64 v)) g { x with lsec:=v }:=by
 have h9:=aG h 27 (.int .i64 v)
 simp only [UY,UZ,V0] at h9
 exact h9
theorem aS.put_next (h:aS w g x) (v:Int):aS (w.setCell ⟨g,28,none⟩ (.int .i64 v)) g { x with next:=v }:=by
 have h9:=aG h 28 (.int .i64 v)
 simp only [UY,UZ,V0] at h9
 exact h9
def wI (w:World) (g:Nat) (c:NC):World:=(((((((((((w.setCell ⟨g,4,none⟩ (.string (aI c.st))).setCell ⟨g,5,none⟩ (.int .i64 c.kind)).setCell ⟨g,6,none⟩ (.int .i64 c.num)).setCell ⟨g,7,none⟩ (.int .i64 c.iss)).setCell ⟨g,8,none⟩ (.int .i64 c.own)).setCell ⟨g,9,none⟩ (.int .i64 c.key)).setCell ⟨g,10,none⟩ (.int .i64 c.fr)).setCell ⟨g,11,none⟩ (.int .i64 c.un)).setCell ⟨g,12,none⟩ (.int .i64 c.to)).setCell ⟨g,13,none⟩ (.int .i64 c.e)).setCell ⟨g,14,none⟩ (.int .i64 c.s))
theorem aS.put_sg (h:aS w g x) (c:NC):aS (wI w g c) g { x with sg:=c }:=by
 have h9:=(aG (aG (aG (aG (aG (aG (aG (aG (aG (aG (aG h 4 (.string (aI c.st))) 5 (.int .i64 c.kind)) 6 (.int .i64 c.num)) 7 (.int .i64 c.iss)) 8 (.int .i64 c.own)) 9 (.int .i64 c.key)) 10 (.int .i64 c.fr)) 11 (.int .i64 c.un)) 12 (.int .i64 c.to)) 13 (.int .i64 c.e)) 14 (.int .i64 c.s))
 simp only [UY,UZ,V0] at h9
 exact h9
theorem SD (h:Ext w w') (hg:w.heap.size≤g) (c:NC):Ext w (wI w' g c) :=
 aH (aH (aH (aH (aH (aH (aH (aH (aH (aH (aH h hg) hg) hg) hg) hg) hg) hg) hg) hg) hg) hg
def wJ (w:World) (g:Nat) (c:NC):World:=(((((((((((w.setCell ⟨g,15,none⟩ (.string (aI c.st))).setCell ⟨g,16,none⟩ (.int .i64 c.kind)).setCell ⟨g,17,none⟩ (.int .i64 c.num)).setCell ⟨g,18,none⟩ (.int .i64 c.iss)).setCell ⟨g,19,none⟩ (.int .i64 c.own)).setCell ⟨g,20,none⟩ (.int .i64 c.key)).setCell ⟨g,21,none⟩ (.int .i64 c.fr)).setCell ⟨g,22,none⟩ (.int .i64 c.un)).setCell ⟨g,23,none⟩ (.int .i64 c.to)).setCell ⟨g,24,none⟩ (.int .i64 c.e)).setCell ⟨g,25,none⟩ (.int .i64 c.s))
theorem aS.put_ls (h:aS w g x) (c:NC):aS (wJ w g c) g { x with ls:=c }:=by
 have h9:=(aG (aG (aG (aG (aG (aG (aG (aG (aG (aG (aG h 15 (.string (aI c.st))) 16 (.int .i64 c.kind)) 17 (.int .i64 c.num)) 18 (.int .i64 c.iss)) 19 (.int .i64 c.own)) 20 (.int .i64 c.key)) 21 (.int .i64 c.fr)) 22 (.int .i64 c.un)) 23 (.int .i64 c.to)) 24 (.int .i64 c.e)) 25 (.int .i64 c.s))
 simp only [UY,UZ,V0] at h9
 exact h9
theorem SE (h:Ext w w') (hg:w.heap.size≤g) (c:NC):Ext w (wJ w' g c) :=
 aH (aH (aH (aH (aH (aH (aH (aH (aH (aH (aH h hg) hg) hg) hg) hg) hg) hg) hg) hg) hg) hg
theorem DH (w:World) (x:AB):∃ wz,wz=w.alloc (.cells ((.string (aI x.st))::x.R::x.L::x.S::(.string (aI x.sg.st))::(.int .i64 x.sg.kind)::(.int .i64 x.sg.num)::(.int .i64 x.sg.iss)::(.int .i64 x.sg.own)::(.int .i64 x.sg.key)::(.int .i64 x.sg.fr)::(.int .i64 x.sg.un)::(.int .i64 x.sg.to)::(.int .i64 x.sg.e)::(.int .i64 x.sg.s)::(.string (aI x.ls.st))::(.int .i64 x.ls.kind)::(.int .i64 x.ls.num)::(.int .i64 x.ls.iss)::(.int .i64 x.ls.own)::(.int .i64 x.ls.key)::(.int .i64 x.ls.fr)::(.int .i64 x.ls.un)::(.int .i64 x.ls.to)::(.int .i64 x.ls.e)::(.int .i64 x.ls.s)::(.int .i64 x.ssec)::(.int .i64 x.lsec)::(.int .i64 x.next)::(.int .i64 x.li)::x.V::x.D::x.Z::([]:List Value)).toArray 98)∧Ext w wz∧aS wz w.heap.size x :=
 ⟨_,rfl,(Below.refl _ _).alloc (UX _) _,aC w _⟩
end
def apart (u v:Value):Prop:=∀ r,aL u=some r→aL v≠some r
structure AbR (w:World) (B:Nat) (x:AB) (a:AU):Prop where
 o1:aJ w B 56 11 x.R (aA a.roots)
 o2:aJ w B 56 11 x.L (aA a.links)
 o3:aJ w B 3 1 x.S (bC a.secs)
 ap:apart x.R x.L
 st:x.st=a.st
 sg:x.sg=a.sg
 ls:x.ls=a.ls
 ssec:x.ssec=a.ssec
 lsec:x.lsec=a.lsec
 next:x.next=a.next
theorem AbR.ext {w w':World}{B:Nat}{x:AB}{a:AU} (h:AbR w B x a) (e:Ext w w'):AbR w' B x a:=⟨h.o1.ext e,h.o2.ext e,h.o3.ext e,h.ap,h.st,h.sg,h.ls,h.ssec,h.lsec,h.next⟩
theorem jC:56≠98:=by decide
theorem sT:3≠98:=by decide
def cZ:AB:=⟨[],.slice none 0 0,.slice none 0 0,.slice none 0 0,cQ,cQ,0,0,0,0,.slice none 0 0,.slice none 0 0,.slice none 0 0⟩
structure KyI (w0:World) (g:Nat) (wx:World) (x:AB) (roots links:List NC) (secs:List Int):Prop where
 ext:Ext w0 wx
 hg:w0.heap.size≤g
 au:aS wx g x
 zr:aS wx (g+1) cZ
 o1:aJ wx w0.heap.size 56 11 x.R (aA roots)
 o2:aJ wx w0.heap.size 56 11 x.L (aA links)
 o3:aJ wx w0.heap.size 3 1 x.S (bC secs)
 ap:apart x.R x.L
theorem aJ.setX {wx:World}{B:Nat}{e:TypeId}{k:Nat}{v:Value}{xs:List Value}{g i:Nat}{u:Value} (h:aJ wx B e k v xs) (hne:aL v≠some g):aJ (wx.setCell ⟨g,i,none⟩ u) B e k v xs:=h.grown (Gb.set g i wx u) (.inr hne)
section
variable {w0 wx wy w8:World}{g:Nat}{x:AB}{roots links:List NC}{secs:List Int}
theorem KyI.step (h:KyI w0 g wx x roots links secs) (e:Ext wx wy):KyI w0 g wy x roots links secs:=⟨h.ext.tr e,h.hg,h.au.ext e,h.zr.ext e,h.o1.ext e,h.o2.ext e,h.o3.ext e,h.ap⟩
theorem KyI.r1 (h:KyI w0 g wx x roots links secs):aL x.R≠some g:=h.o1.row_blk h.au jC
theorem KyI.r2 (h:KyI w0 g wx x roots links secs):aL x.L≠some g:=h.o2.row_blk h.au jC
theorem KyI.r3 (h:KyI w0 g wx x roots links secs):aL x.S≠some g:=h.o3.row_blk h.au sT
theorem KyI.set {i:Nat}{v:Value}{y:AB} (h:KyI w0 g wx x roots links secs) (ha:aS (wx.setCell ⟨g,i,none⟩ v) g y) (hR:y.R=x.R) (hL:y.L=x.L) (hS:y.S=x.S):KyI w0 g (wx.setCell ⟨g,i,none⟩ v) y roots links secs :=
 ⟨aH h.ext h.hg,h.hg,ha,h.zr.other (by omega),by rw [hR];exact h.o1.setX h.r1,by rw [hL];exact h.o2.setX h.r2,by rw [hS];exact h.o3.setX h.r3,by rw [hR,hL];exact h.ap⟩
theorem KyI.next (h:KyI w0 g wx x roots links secs) (v:Int):KyI w0 g (wx.setCell ⟨g,28,none⟩ (.int .i64 v)) { x with next:=v } roots links secs:=h.set (h.au.put_next v) rfl rfl rfl
theorem KyI.ssec (h:KyI w0 g wx x roots links secs) (v:Int):KyI w0 g (wx.setCell ⟨g,26,none⟩ (.int .i64 v)) { x with ssec:=v } roots links secs:=h.set (h.au.put_ssec v) rfl rfl rfl
theorem KyI.lsec (h:KyI w0 g wx x roots links secs) (v:Int):KyI w0 g (wx.setCell ⟨g,27,none⟩ (.int .i64 v)) { x with lsec:=v } roots links secs:=h.set (h.au.put_lsec v) rfl rfl rfl
theorem KyI.appR {roots':List NC}{v:Value} (h:KyI w0 g wx x roots links secs) (o8:aJ w8 w0.heap.size 56 11 v (aA roots')) (x8:Ext w0 w8) (g8:wx.grownBy w8 (aL x.R)) (f8:∀ r,aL v=some r→aL x.R=some r ∨ wx.heap.size≤r) :
 KyI w0 g (w8.setCell ⟨g,1,none⟩ v) { x with R:=v } roots' links secs:=by
 have au8:aS w8 g x:=(g8.block g h.au.lt (fun q=>h.r1 q.symm)).trans h.au
 have zr8:aS w8 (g+1) cZ:=(g8.block (g+1) h.zr.lt (fun q=>h.o1.row_blk h.zr jC q.symm)).trans h.zr
 have p2:aJ w8 w0.heap.size 56 11 x.L (aA links):=h.o2.grown g8 (by
  cases hq:aL x.L with
  | none=>exact .inl rfl
  | some r=>exact .inr (fun q=>h.ap r q.symm hq))
 have p3:aJ w8 w0.heap.size 3 1 x.S (bC secs):=h.o3.grown g8 (h.o1.row_ne h.o3 sM)
 have a8:apart v x.L:=fun r hr hl=>by
  rcases f8 r hr with q | q
  · exact h.ap r q hl
  · have:=lC h.o2 r hl;omega
 exact ⟨aH x8 h.hg,h.hg,au8.put_R v,zr8.other (by omega),o8.setX (o8.row_blk au8 jC),p2.setX (p2.row_blk au8 jC),p3.setX (p3.row_blk au8 sT),a8⟩
theorem KyI.appL {links':List NC}{v:Value} (h:KyI w0 g wx x roots links secs) (o8:aJ w8 w0.heap.size 56 11 v (aA links')) (x8:Ext w0 w8) (g8:wx.grownBy w8 (aL x.L)) (f8:∀ r,aL v=some r→aL x.L=some r ∨ wx.heap.size≤r) :
 KyI w0 g (w8.setCell ⟨g,2,none⟩ v) { x with L:=v } roots links' secs:=by
 have au8:aS w8 g x:=(g8.block g h.au.lt (fun q=>h.r2 q.symm)).trans h.au
 have zr8:aS w8 (g+1) cZ:=(g8.block (g+1) h.zr.lt (fun q=>h.o2.row_blk h.zr jC q.symm)).trans h.zr
 have p1:aJ w8 w0.heap.size 56 11 x.R (aA roots):=h.o1.grown g8 (by
  cases hq:aL x.R with
  | none=>exact .inl rfl
  | some r=>exact .inr (fun q=>h.ap r hq q.symm))
 have p3:aJ w8 w0.heap.size 3 1 x.S (bC secs):=h.o3.grown g8 (h.o2.row_ne h.o3 sM)
 have a8:apart x.R v:=fun r hr hl=>by
  rcases f8 r hl with q | q
  · exact h.ap r hr q
  · have:=lC h.o1 r hr;omega
 exact ⟨aH x8 h.hg,h.hg,au8.put_L v,zr8.other (by omega),p1.setX (p1.row_blk au8 jC),o8.setX (o8.row_blk au8 jC),p3.setX (p3.row_blk au8 sT),a8⟩
theorem KyI.appS {secs':List Int}{v:Value} (h:KyI w0 g wx x roots links secs) (o8:aJ w8 w0.heap.size 3 1 v (bC secs')) (x8:Ext w0 w8) (g8:wx.grownBy w8 (aL x.S)) :
 KyI w0 g (w8.setCell ⟨g,3,none⟩ v) { x with S:=v } roots links secs':=by
 have au8:aS w8 g x:=(g8.block g h.au.lt (fun q=>h.r3 q.symm)).trans h.au
 have zr8:aS w8 (g+1) cZ:=(g8.block (g+1) h.zr.lt (fun q=>h.o3.row_blk h.zr sT q.symm)).trans h.zr
 have p1:aJ w8 w0.heap.size 56 11 x.R (aA roots):=h.o1.grown g8 (h.o3.row_ne h.o1 (Ne.symm sM))
 have p2:aJ w8 w0.heap.size 56 11 x.L (aA links):=h.o2.grown g8 (h.o3.row_ne h.o2 (Ne.symm sM))
 exact ⟨aH x8 h.hg,h.hg,au8.put_S v,zr8.other (by omega),p1.setX (p1.row_blk au8 jC),p2.setX (p2.row_blk au8 jC),o8.setX (o8.row_blk au8 sT),h.ap⟩
theorem KyI.sg (h:KyI w0 g wx x roots links secs) (c:NC):KyI w0 g (wI wx g c) { x with sg:=c } roots links secs:=by
 have hne:g+1≠g:=by omega
 exact ⟨SD h.ext h.hg c,h.hg,h.au.put_sg c,(((((((((((h.zr).other hne).other hne).other hne).other hne).other hne).other hne).other hne).other hne).other hne).other hne).other hne,(((((((((((h.o1).setX h.r1).setX h.r1).setX h.r1).setX h.r1).setX h.r1).setX h.r1).setX h.r1).setX h.r1).setX h.r1).setX h.r1).setX h.r1,(((((((((((h.o2).setX h.r2).setX h.r2).setX h.r2).setX h.r2).setX h.r2).setX h.r2).setX h.r2).setX h.r2).setX h.r2).setX h.r2).setX h.r2,(((((((((((h.o3).setX h.r3).setX h.r3).setX h.r3).setX h.r3).setX h.r3).setX h.r3).setX h.r3).setX h.r3).setX h.r3).setX h.r3).setX h.r3,h.ap⟩
theorem KyI.ls (h:KyI w0 g wx x roots links secs) (c:NC):KyI w0 g (wJ wx g c) { x with ls:=c } roots links secs:=by
 have hne:g+1≠g:=by omega
 exact ⟨SE h.ext h.hg c,h.hg,h.au.put_ls c,(((((((((((h.zr).other hne).other hne).other hne).other hne).other hne).other hne).other hne).other hne).other hne).other hne).other hne,(((((((((((h.o1).setX h.r1).setX h.r1).setX h.r1).setX h.r1).setX h.r1).setX h.r1).setX h.r1).setX h.r1).setX h.r1).setX h.r1).setX h.r1,(((((((((((h.o2).setX h.r2).setX h.r2).setX h.r2).setX h.r2).setX h.r2).setX h.r2).setX h.r2).setX h.r2).setX h.r2).setX h.r2).setX h.r2,(((((((((((h.o3).setX h.r3).setX h.r3).setX h.r3).setX h.r3).setX h.r3).setX h.r3).setX h.r3).setX h.r3).setX h.r3).setX h.r3).setX h.r3,h.ap⟩
end
def set_au (w:World) (g:Nat) (x:AB):World:=(((((((((((((((((((((((((((((((((w.setCell ⟨g,0,none⟩ (.string (aI x.st))).setCell ⟨g,1,none⟩ x.R).setCell ⟨g,2,none⟩ x.L).setCell ⟨g,3,none⟩ x.S).setCell ⟨g,4,none⟩ (.string (aI x.sg.st))).setCell ⟨g,5,none⟩ (.int .i64 x.sg.kind)).setCell ⟨g,6,none⟩ (.int .i64 x.sg.num)).setCell ⟨g,7,none⟩ (.int .i64 x.sg.iss)).setCell ⟨g,8,none⟩ (.int .i64 x.sg.own)).setCell ⟨g,9,none⟩ (.int .i64 x.sg.key)).setCell ⟨g,10,none⟩ (.int .i64 x.sg.fr)).setCell ⟨g,11,none⟩ (.int .i64 x.sg.un)).setCell ⟨g,12,none⟩ (.int .i64 x.sg.to)).setCell ⟨g,13,none⟩ (.int .i64 x.sg.e)).setCell ⟨g,14,none⟩ (.int .i64 x.sg.s)).setCell ⟨g,15,none⟩ (.string (aI x.ls.st))).setCell ⟨g,16,none⟩ (.int .i64 x.ls.kind)).setCell ⟨g,17,none⟩ (.int .i64 x.ls.num)).setCell ⟨g,18,none⟩ (.int .i64 x.ls.iss)).setCell ⟨g,19,none⟩ (.int .i64 x.ls.own)).setCell ⟨g,20,none⟩ (.int .i64 x.ls.key)).setCell ⟨g,21,none⟩ (.int .i64 x.ls.fr)).setCell ⟨g,22,none⟩ (.int .i64 x.ls.un)).setCell ⟨g,23,none⟩ (.int .i64 x.ls.to)).setCell ⟨g,24,none⟩ (.int .i64 x.ls.e)).setCell ⟨g,25,none⟩ (.int .i64 x.ls.s)).setCell ⟨g,26,none⟩ (.int .i64 x.ssec)).setCell ⟨g,27,none⟩ (.int .i64 x.lsec)).setCell ⟨g,28,none⟩ (.int .i64 x.next)).setCell ⟨g,29,none⟩ (.int .i64 x.li)).setCell ⟨g,30,none⟩ x.V).setCell ⟨g,31,none⟩ x.D).setCell ⟨g,32,none⟩ x.Z)
theorem aS.set_au {w:World}{g:Nat}{y:AB} (h:aS w g y) (x:AB):aS (set_au w g x) g x:=by
 have h9:=(aG (aG (aG (aG (aG (aG (aG (aG (aG (aG (aG (aG (aG (aG (aG (aG (aG (aG (aG (aG (aG (aG (aG (aG (aG (aG (aG (aG (aG (aG (aG (aG (aG h 0 (.string (aI x.st))) 1 x.R) 2 x.L) 3 x.S) 4 (.string (aI x.sg.st))) 5 (.int .i64 x.sg.kind)) 6 (.int .i64 x.sg.num)) 7 (.int .i64 x.sg.iss)) 8 (.int .i64 x.sg.own)) 9 (.int .i64 x.sg.key)) 10 (.int .i64 x.sg.fr)) 11 (.int .i64 x.sg.un)) 12 (.int .i64 x.sg.to)) 13 (.int .i64 x.sg.e)) 14 (.int .i64 x.sg.s)) 15 (.string (aI x.ls.st))) 16 (.int .i64 x.ls.kind)) 17 (.int .i64 x.ls.num)) 18 (.int .i64 x.ls.iss)) 19 (.int .i64 x.ls.own)) 20 (.int .i64 x.ls.key)) 21 (.int .i64 x.ls.fr)) 22 (.int .i64 x.ls.un)) 23 (.int .i64 x.ls.to)) 24 (.int .i64 x.ls.e)) 25 (.int .i64 x.ls.s)) 26 (.int .i64 x.ssec)) 27 (.int .i64 x.lsec)) 28 (.int .i64 x.next)) 29 (.int .i64 x.li)) 30 x.V) 31 x.D) 32 x.Z)
 simp only [UY,UZ,V0] at h9
 exact h9
theorem SG {w w':World}{g:Nat} (h:Ext w w') (hg:w.heap.size≤g) (x:AB):Ext w (Proofs.YtkjplpmogfmhkaaGreatDoor.set_au w' g x) :=
 aH (aH (aH (aH (aH (aH (aH (aH (aH (aH (aH (aH (aH (aH (aH (aH (aH (aH (aH (aH (aH (aH (aH (aH (aH (aH (aH (aH (aH (aH (aH (aH (aH h hg) hg) hg) hg) hg) hg) hg) hg) hg) hg) hg) hg) hg) hg) hg) hg) hg) hg) hg) hg) hg) hg) hg) hg) hg) hg) hg) hg) hg) hg) hg) hg) hg
theorem aJ.set_au {w:World}{B:Nat}{e:TypeId}{k:Nat}{v:Value}{xs:List Value}{g:Nat} (h:aJ w B e k v xs) (r:aL v≠some g) (x:AB):aJ (Proofs.YtkjplpmogfmhkaaGreatDoor.set_au w g x) B e k v xs:=(((((((((((((((((((((((((((((((((h).setX r).setX r).setX r).setX r).setX r).setX r).setX r).setX r).setX r).setX r).setX r).setX r).setX r).setX r).setX r).setX r).setX r).setX r).setX r).setX r).setX r).setX r).setX r).setX r).setX r).setX r).setX r).setX r).setX r).setX r).setX r).setX r).setX r
theorem KyI.fin {w0 wx:World}{g:Nat}{x:AB}{roots links:List NC}{secs:List Int} (h:KyI w0 g wx x roots links secs):Ext w0 (Proofs.YtkjplpmogfmhkaaGreatDoor.set_au wx (g+1) x)∧aS (Proofs.YtkjplpmogfmhkaaGreatDoor.set_au wx (g+1) x) (g+1) x ∧
 aJ (Proofs.YtkjplpmogfmhkaaGreatDoor.set_au wx (g+1) x) w0.heap.size 56 11 x.R (aA roots)∧aJ (Proofs.YtkjplpmogfmhkaaGreatDoor.set_au wx (g+1) x) w0.heap.size 56 11 x.L (aA links)∧aJ (Proofs.YtkjplpmogfmhkaaGreatDoor.set_au wx (g+1) x) w0.heap.size 3 1 x.S (bC secs) :=
 ⟨SG h.ext (by have:=h.hg;omega) x,h.zr.set_au x,h.o1.set_au (h.o1.row_blk h.zr jC) x,h.o2.set_au (h.o2.row_blk h.zr jC) x,h.o3.set_au (h.o3.row_blk h.zr sT) x⟩
section
end
def cF (c:NC):Array Value:=#[.string (aI c.st),.int .i64 c.kind,.int .i64 c.num,.int .i64 c.iss,.int .i64 c.own,.int .i64 c.key,.int .i64 c.fr,.int .i64 c.un,.int .i64 c.to,.int .i64 c.e,.int .i64 c.s]
theorem fK (c:NC):(cF c).all (·.oneCell')=true:=by simp [cF,Value.oneCell']
theorem bT:(Tryz.prog.info? 56).map (·.size)=some 11:=by kernel_rfl
theorem dF:(Tryz.prog.info? 98).map (·.size)=some 33:=by kernel_rfl
theorem bE.row {w:World}{g:Nat}{c:NC} (h:bE w g c):w.heap[g]?=some (.cells (cF c) 56 (0,0)):=h
theorem bE.setRow {w:World}{g:Nat}{c:NC} (h:bE w g c) (d:NC):bE (w.setRow g (cF d)) g d:=aZ h
theorem RgS.setRow {S:List Nat}{G:Nat→Prop}{T:TypeId}{g:Nat}{w:World}{cs cs':Array Value} (hg:w.heap[g]?=some (.cells cs T (0,0))) (hT:T ∈ S) (hG:G g) (hs:cs'.size=cs.size):RgS S G w (w.setRow g cs'):=by
 have hb:=Gb.setRow g w cs'
 refine ⟨hb.os,hb.tape,hb.output,hb.size,fun k hk=>?_⟩
 by_cases hkg:k=g
 · subst hkg
   exact .inr ⟨hG,T,cs,_,(0,0),hT,hg,aZ hg,hs⟩
 · exact .inl (hb.block k hk (fun q=>hkg (by injection q)))
def QF (B:Nat):aE:=fun v w=>∃ g,v=.pointer (some ⟨g,0,none⟩)∧B≤g∧rG w g 56 11
def xC (B:Nat) (c:NC):aE:=fun v w=>∃ g,v=.pointer (some ⟨g,0,none⟩)∧B≤g∧bE w g c
theorem xC.ext {B:Nat}{c:NC} (v:Value) (w w':World) (e:Ext w w') (h:xC B c v w):xC B c v w':=by
 obtain ⟨g,h1,h2,h3⟩:=h
 exact ⟨g,h1,h2,h3.ext e⟩
def ncT:List Nat:=[56]
theorem SH:56 ∈ ncT:=List.mem_singleton.2 rfl
theorem xC.st {B:Nat}{c:NC}{S:List Nat}{G:Nat→Prop} (T:Nat) (hT:T≠56) (v:Value) (w w':World) (e:(RG S G).st T w w') (h:xC B c v w):xC B c v w':=by
 obtain ⟨g,h1,h2,h3⟩:=h
 exact ⟨g,h1,h2,e.2.other h3 (fun q=>hT (List.mem_singleton.1 q).symm)⟩
theorem DI (B:Nat) (S:List Nat) (G:Nat→Prop):(RG S G).stable (QF B):=fun v w w' r ⟨g,h1,h2,h3⟩=>⟨g,h1,h2,h3.rg r⟩
theorem AA (W:World):(Instr.alloc 56 true (.tuple #[])).run Tryz.prog W=.ok (.pointer (some ⟨W.heap.size,0,none⟩)) (W.alloc (.cells #[.string ⟨#[]⟩,.int .i64 0,.int .i64 0,.int .i64 0,.int .i64 0,.int .i64 0,.int .i64 0,.int .i64 0,.int .i64 0,.int .i64 0,.int .i64 0] 56)):=by go_simp
theorem NQ {w:World}{g:Nat} (h:rG w g 56 11) (c:NC) :
 ∃ w',(Instr.storeAt 56 (.pointer (some ⟨g,0,none⟩)) (ncV c)).run Tryz.prog w=.ok () w'∧bE w' g c∧∀ G:Nat→Prop,G g→RgS [56] G w w':=by
 obtain ⟨cs,h1,h2⟩:=h
 exact ⟨_,fR (cells:=cF c) h1 bT h2 (fK c),aZ h1,fun G hG=>RgS.setRow h1 (List.mem_singleton.2 rfl) hG h2.symm⟩
section
open Go.Proofs.YtkjplpmogfmhkaaGreatDoor.Gd (cN)
variable {P:Program}
variable {r:Gt.Rl}{ops:Array Oper}{Q:Exit→Act→World→Prop}{w0:World}{R:Act→World→Prop}{ss:List (Nat × aE)}
theorem Gt.wpX_allocN11 {o:Oper}{rest:List Oper}{a:Act}{hs:List (Nat × aE)}{d:Nat} (B:Nat) (hB:∀ m:r.Lt w0,B≤m.1.heap.size) (hst:r.stable (QF B)) (hg:cN ops o a hs)
 (hd:o.dst=some d) (hz:Nat.blt d a.tmps.size=true) (ho:o.op=.alloc 56) (hin:(aR o).all (fun t=>Nat.blt t a.tmps.size)=true)
 (hr:Gt.wpX r Tryz.prog ops Q w0 R ss rest (a.put (some d) undef) ((d,QF B)::hs)):Gt.wpX r Tryz.prog ops Q w0 R ss (o::rest) a hs :=
 Gt.dV hg (QF B) hst (fun _=>Instr.alloc 56 true (.tuple #[])) hd hz (by unfold aP;rw [ho]) hin (fun f=>by unfold execOp;simp only [ho])
  (fun m f hf=>⟨_,_,AA m.1,(Below.refl _ _).alloc (UX _) _,_,rfl,hB m,_,aC m.1 _,rfl⟩) hr
theorem Gt.wpX_endG {a:Act}{hs:List (Nat × aE)} (hok:(ss.all fun q=>jY a (.tmp q.1))=true)
 (h:∀ (m:r.Lt w0) (f:Nat→Value),(∀ t p,hs.lookup t=some p→p (f t) m.1)→(∀ q ∈ ss,q.2 (evF a hs f (.tmp q.1)) m.1)→R (aV a hs f) m.1):Gt.wpX r P ops Q w0 R ss [] a hs :=
 Gt.cO fun m f hf hqs=>h m f hf fun q hq=>by
  have:=hqs q hq
  rwa [Gt.dE (List.all_eq_true.1 hok q hq)] at this
end
def bU (x:AB):Array Value:=((.string (aI x.st))::x.R::x.L::x.S::(.string (aI x.sg.st))::(.int .i64 x.sg.kind)::(.int .i64 x.sg.num)::(.int .i64 x.sg.iss)::(.int .i64 x.sg.own)::(.int .i64 x.sg.key)::(.int .i64 x.sg.fr)::(.int .i64 x.sg.un)::(.int .i64 x.sg.to)::(.int .i64 x.sg.e)::(.int .i64 x.sg.s)::(.string (aI x.ls.st))::(.int .i64 x.ls.kind)::(.int .i64 x.ls.num)::(.int .i64 x.ls.iss)::(.int .i64 x.ls.own)::(.int .i64 x.ls.key)::(.int .i64 x.ls.fr)::(.int .i64 x.ls.un)::(.int .i64 x.ls.to)::(.int .i64 x.ls.e)::(.int .i64 x.ls.s)::(.int .i64 x.ssec)::(.int .i64 x.lsec)::(.int .i64 x.next)::(.int .i64 x.li)::x.V::x.D::x.Z::([]:List Value)).toArray
structure wK (x:AB):Prop where
 R:x.R.oneCell'=true
 L:x.L.oneCell'=true
 S:x.S.oneCell'=true
 V:x.V.oneCell'=true
 D:x.D.oneCell'=true
 Z:x.Z.oneCell'=true
theorem eR {x:AB} (h:wK x):(bU x).all (·.oneCell')=true:=by
 unfold bU
 simp only [List.all_toArray,List.all_cons,List.all_nil,h.R,h.L,h.S,h.V,h.D,h.Z]
 rfl
theorem aS.row {w:World}{g:Nat}{x:AB} (h:aS w g x):w.heap[g]?=some (.cells (bU x) 98 (0,0)):=h
theorem aS.setRow {w:World}{g:Nat}{x:AB} (h:aS w g x) (y:AB):aS (w.setRow g (bU y)) g y:=aZ h
theorem aJ.one {w:World}{B:Nat}{e:TypeId}{k:Nat}{v:Value}{xs:List Value} (h:aJ w B e k v xs):v.oneCell'=true:=by
 obtain ⟨A,n,c,rfl,_⟩:=h
 rfl
theorem aJ.setR {wx:World}{B:Nat}{e:TypeId}{k:Nat}{v:Value}{xs:List Value}{g:Nat}{cs:Array Value} (h:aJ wx B e k v xs) (hne:aL v≠some g):aJ (wx.setRow g cs) B e k v xs:=h.grown (Gb.setRow g wx cs) (.inr hne)
theorem KyI.poke {w0 wx:World}{g b i:Nat}{v:Value}{x:AB}{roots links:List NC}{secs:List Int} (h:KyI w0 g wx x roots links secs) (hb:w0.heap.size≤b) (h1:g≠b) (h2:g+1≠b) (r1:aL x.R≠some b) (r2:aL x.L≠some b) (r3:aL x.S≠some b):KyI w0 g (wx.setCell ⟨b,i,none⟩ v) x roots links secs :=
 ⟨aH h.ext hb,h.hg,h.au.other h1,h.zr.other h2,h.o1.setX r1,h.o2.setX r2,h.o3.setX r3,h.ap⟩
theorem bE.put123 {w:World}{g:Nat}{c:NC} (h:bE w g c) (a b d:Int):bE (((w.setCell ⟨g,1,none⟩ (.int .i64 a)).setCell ⟨g,2,none⟩ (.int .i64 b)).setCell ⟨g,3,none⟩ (.int .i64 d)) g ⟨c.st,a,b,d,c.own,c.key,c.fr,c.un,c.to,c.e,c.s⟩:=by
 have h9:=aG (aG (aG h 1 (.int .i64 a)) 2 (.int .i64 b)) 3 (.int .i64 d)
 simp only [UY,UZ,V0] at h9
 exact h9
theorem KyI.finR {w0 wx:World}{g:Nat}{x:AB}{roots links:List NC}{secs:List Int} (h:KyI w0 g wx x roots links secs):Ext w0 (wx.setRow (g+1) (bU x))∧aS (wx.setRow (g+1) (bU x)) (g+1) x ∧
 aJ (wx.setRow (g+1) (bU x)) w0.heap.size 56 11 x.R (aA roots)∧aJ (wx.setRow (g+1) (bU x)) w0.heap.size 56 11 x.L (aA links)∧aJ (wx.setRow (g+1) (bU x)) w0.heap.size 3 1 x.S (bC secs) :=
 ⟨aQ h.ext (by have:=h.hg;omega) _,h.zr.setRow x,h.o1.setR (h.o1.row_blk h.zr jC),h.o2.setR (h.o2.row_blk h.zr jC),h.o3.setR (h.o3.row_blk h.zr sT)⟩
section
variable {w w':World}{P:Nat}{R L T:Value}{day:Int}
end
section
variable {w wr wx:World}{B D b P:Nat}{day:Int}{R L T:Value}{vs us t:List (Value × List NC)}
end
def NR (B:Nat) (c:NC):aE:=fun v w=>∃ g,v=.slice (some ⟨g,0,none⟩) 1 1∧B≤g∧w.heap[g]?=some (.cells (aF c).toArray 56 (0,0))
theorem AC (B:Nat) (c:NC):bK (NR B c):=fun v w w' e ⟨g,h1,h2,h3⟩=>⟨g,h1,h2,(e.block g (a9 h3)).trans h3⟩
theorem U4 (W:World) (B:Nat) (c:NC) (h:B≤W.heap.size):NR B c (.slice (some ⟨W.heap.size,0,none⟩) 1 1) (W.alloc (.cells (aF c).toArray 56)):=⟨_,rfl,h,aC W _⟩
theorem FY {w:World}{g:Nat}{c:NC} (h:w.heap[g]?=some (.cells (aF c).toArray 56 (0,0))):RdK w 11 (.slice (some ⟨g,0,none⟩) 1 1) (aF c) :=
 ⟨_,1,1,rfl,rfl,UX _,by unfold maxLen;omega,fun _=>⟨g,0,rfl,fun j u hu=>by
   rw [VB,cell_of_row w g j _ _ (0,0) h,List.getElem?_toArray]
   exact hu⟩⟩
theorem FZ (n:Int):(gE n).length≤4096:=by
 unfold gE
 split
 · decide
 · split
   · decide
   · split
     · decide
     · decide
theorem rN (n:Int):(gE n).length≤maxLen:=V9 (FZ n) (by unfold maxLen;omega)
theorem nS (x:Int):-9223372036854775808≤wrap64 x∧wrap64 x<9223372036854775808:=by unfold wrap64;omega
theorem bE.put_st {w:World}{g:Nat}{c:NC} (h:bE w g c) (x:List UInt8):bE (w.setCell ⟨g,0,none⟩ (.string (aI x))) g ⟨x,c.kind,c.num,c.iss,c.own,c.key,c.fr,c.un,c.to,c.e,c.s⟩:=by
 have h9:=aG h 0 (.string (aI x))
 simp only [UY,UZ] at h9
 exact h9
theorem bE.put_kind {w:World}{g:Nat}{c:NC} (h:bE w g c) (x:Int):bE (w.setCell ⟨g,1,none⟩ (.int .i64 x)) g ⟨c.st,x,c.num,c.iss,c.own,c.key,c.fr,c.un,c.to,c.e,c.s⟩:=by
 have h9:=aG h 1 (.int .i64 x)
 simp only [UY,UZ,V0] at h9
 exact h9
theorem bE.put_num {w:World}{g:Nat}{c:NC} (h:bE w g c) (x:Int):bE (w.setCell ⟨g,2,none⟩ (.int .i64 x)) g ⟨c.st,c.kind,x,c.iss,c.own,c.key,c.fr,c.un,c.to,c.e,c.s⟩:=by
 have h9:=aG h 2 (.int .i64 x)
 simp only [UY,UZ,V0] at h9
 exact h9
theorem bE.put_iss {w:World}{g:Nat}{c:NC} (h:bE w g c) (x:Int):bE (w.setCell ⟨g,3,none⟩ (.int .i64 x)) g ⟨c.st,c.kind,c.num,x,c.own,c.key,c.fr,c.un,c.to,c.e,c.s⟩:=by
 have h9:=aG h 3 (.int .i64 x)
 simp only [UY,UZ,V0] at h9
 exact h9
theorem bE.put_own {w:World}{g:Nat}{c:NC} (h:bE w g c) (x:Int):bE (w.setCell ⟨g,4,none⟩ (.int .i64 x)) g ⟨c.st,c.kind,c.num,c.iss,x,c.key,c.fr,c.un,c.to,c.e,c.s⟩:=by
 have h9:=aG h 4 (.int .i64 x)
 simp only [UY,UZ,V0] at h9
 exact h9
theorem bE.put_key {w:World}{g:Nat}{c:NC} (h:bE w g c) (x:Int):bE (w.setCell ⟨g,5,none⟩ (.int .i64 x)) g ⟨c.st,c.kind,c.num,c.iss,c.own,x,c.fr,c.un,c.to,c.e,c.s⟩:=by
 have h9:=aG h 5 (.int .i64 x)
 simp only [UY,UZ,V0] at h9
 exact h9
theorem bE.put_fr {w:World}{g:Nat}{c:NC} (h:bE w g c) (x:Int):bE (w.setCell ⟨g,6,none⟩ (.int .i64 x)) g ⟨c.st,c.kind,c.num,c.iss,c.own,c.key,x,c.un,c.to,c.e,c.s⟩:=by
 have h9:=aG h 6 (.int .i64 x)
 simp only [UY,UZ,V0] at h9
 exact h9
theorem bE.put_to {w:World}{g:Nat}{c:NC} (h:bE w g c) (x:Int):bE (w.setCell ⟨g,8,none⟩ (.int .i64 x)) g ⟨c.st,c.kind,c.num,c.iss,c.own,c.key,c.fr,c.un,x,c.e,c.s⟩:=by
 have h9:=aG h 8 (.int .i64 x)
 simp only [UY,UZ,V0] at h9
 exact h9
theorem bE.put_s {w:World}{g:Nat}{c:NC} (h:bE w g c) (x:Int):bE (w.setCell ⟨g,10,none⟩ (.int .i64 x)) g ⟨c.st,c.kind,c.num,c.iss,c.own,c.key,c.fr,c.un,c.to,c.e,x⟩:=by
 have h9:=aG h 10 (.int .i64 x)
 simp only [UY,UZ,V0] at h9
 exact h9
set_option maxHeartbeats 8000000 in
theorem KL (c:NC) (what bye:Int) (w:World) (hs:smN c) (hw:mA what) (h0:0≤bye) (h1:bye<1000) :
 Calls Tryz.prog 43 #[ncV c,.int .i64 what,.int .i64 bye] w fun e w'=>Ext w w'∧∃ c':NC,smN c'∧e=.returned (ncV c'):=by
 obtain ⟨wa,hwa,ea,TA⟩:=cC w c
 obtain ⟨wb,hwb,eb,TB⟩:=C8 wa
 have has:wa.heap.size=w.heap.size+1:=by rw [hwa];simp
 rw [has] at TB
 have TC:=TA.ext eb
 have X:=VR (ea.tr eb)
 have HM:=VR (fun W=>gN what 9 W hw.1 hw.2 (by omega))
 have HB:=VR (fun W=>gN bye 6 W (by omega) (by omega) (by omega))
 have HK:=VR (fun W=>kI bye W (by omega) (by omega))
 have HT:=VR (fun W=>pB bye W ⟨by omega,by omega⟩)
 have HO:=VR (fun W=>gN (wrap64 (c.s+bye)) 1073741789 W (nS _).1 (nS _).2 (by omega))
 have HSM:=VR (show c.st.length≤maxLen from hs)
 have c9:eF what 9=0 ∨ eF what 9=1 ∨ eF what 9=2 ∨ eF what 9=3 ∨ eF what 9=4 ∨ eF what 9=5 ∨ eF what 9=6 ∨ eF what 9=7 ∨ eF what 9=8:=by have:=iP (x:=what) (m:=9) (by omega);omega
 have HBN:=VR (rN bye)
 generalize eF what 9=m9 at *
 generalize eF bye 6=m6 at *
 generalize hM bye=kb at *
 generalize eF (wrap64 (c.s+bye)) 1073741789=ms at *
 generalize gE bye=sb at *
 obtain ⟨st,kind,num,iss,own,key,fr,un,dto,e,s⟩:=c
 have hne:w.heap.size+1≠w.heap.size:=by omega
 clear hs hw h0 h1 ea eb TA
 have HTC:=VR TC
 have HTB:=VR TB
 have HZL:=VR TB.lt
 clear TC TB
 unfold ncV
 go_enter Tryz.func43,Tryz.ntmps43
 go_wp2_with fail
 rw [← hwa,← hwb]
 clear hwa hwb
 refine (HM.out _).mono ?_
 rintro e w' ⟨rfl,rfl⟩
 rcases c9 with rfl | rfl | rfl | rfl | rfl | rfl | rfl | rfl | rfl
 · have p:=HTC.out.cells.1
   have pf:=HTC.out.frozen 0
   have pl:=HTC.out.lt
   go_wp2_with fail
   refine (HT.out _).mono ?_
   rintro e w2 ⟨rfl,b2⟩
   clear p pf pl
   have X2:=VR (X.out.tr b2)
   have T2:=VR (HTC.out.ext b2)
   have Z2:=VR (HTB.out.ext b2)
   clear b2
   have p:=T2.out.cells.1
   have pf:=T2.out.frozen 0
   have pl:=T2.out.lt
   obtain ⟨w3,hw3⟩:∃ w3,w3=w2.setCell ⟨w.heap.size,0,none⟩ (.string (aI sb)):=⟨_,rfl⟩
   have T3:Hid (bE w3 w.heap.size ⟨sb,kind,num,iss,own,key,fr,un,dto,e,s⟩):=by rw [hw3];exact bE.put_st (c:=⟨st,kind,num,iss,own,key,fr,un,dto,e,s⟩) T2.out sb
   have Z3:Hid (bE w3 (w.heap.size+1) cQ):=by rw [hw3];exact Z2.out.other hne
   have X3:Hid (Ext w w3):=by rw [hw3];exact aH X2.out (UX _)
   have HF:=VR (show smN ⟨sb,kind,num,iss,own,key,fr,un,dto,e,s⟩ from HBN.out)
   have hws:=hw3.symm
   clear hw3 X2 T2 Z2 HTC HTB X HM HB HK HT HO
   go_wp2_with (first | (refine wpList_load_row rfl 56 _ rfl w.heap.size rfl 56 (cF ⟨sb,kind,num,iss,own,key,fr,un,dto,e,s⟩) (0,0) _ T3.out.row Tryz.underlying56 rfl bT ?_) | (refine aK rfl 56 _ _ rfl rfl (w.heap.size+1) (cF ⟨sb,kind,num,iss,own,key,fr,un,dto,e,s⟩) rfl rfl 56 (cF cQ) Z3.out.row bT rfl (fK _) ?_))
   refine bodyPost_ret (v:=.agg (cF ⟨sb,kind,num,iss,own,key,fr,un,dto,e,s⟩)) ?_ rfl ⟨aQ X3.out (Nat.le_succ _) _,_,HF.out,rfl⟩
   exact results_cell_row rfl _ _ (w.heap.size+1) 56 (cF ⟨sb,kind,num,iss,own,key,fr,un,dto,e,s⟩) (0,0) _ rfl (aZ Z3.out.row) Tryz.underlying56 rfl bT
 · have p:=HTC.out.cells.2.1
   have pf:=HTC.out.frozen 1
   have pl:=HTC.out.lt
   go_wp2_with fail
   refine (HB.out _).mono ?_
   rintro e w2 ⟨rfl,rfl⟩
   have X2:=X
   have T2:=HTC
   have Z2:=HTB
   obtain ⟨w3,hw3⟩:∃ w3,w3=wb.setCell ⟨w.heap.size,1,none⟩ (.int .i64 m6):=⟨_,rfl⟩
   have T3:Hid (bE w3 w.heap.size ⟨st,m6,num,iss,own,key,fr,un,dto,e,s⟩):=by rw [hw3];exact bE.put_kind (c:=⟨st,kind,num,iss,own,key,fr,un,dto,e,s⟩) T2.out m6
   have Z3:Hid (bE w3 (w.heap.size+1) cQ):=by rw [hw3];exact Z2.out.other hne
   have X3:Hid (Ext w w3):=by rw [hw3];exact aH X2.out (UX _)
   have HF:=VR (show smN ⟨st,m6,num,iss,own,key,fr,un,dto,e,s⟩ from HSM.out)
   have hws:=hw3.symm
   clear hw3 X2 T2 Z2 HTC HTB X HM HB HK HT HO
   go_wp2_with (first | (refine wpList_load_row rfl 56 _ rfl w.heap.size rfl 56 (cF ⟨st,m6,num,iss,own,key,fr,un,dto,e,s⟩) (0,0) _ T3.out.row Tryz.underlying56 rfl bT ?_) | (refine aK rfl 56 _ _ rfl rfl (w.heap.size+1) (cF ⟨st,m6,num,iss,own,key,fr,un,dto,e,s⟩) rfl rfl 56 (cF cQ) Z3.out.row bT rfl (fK _) ?_))
   refine bodyPost_ret (v:=.agg (cF ⟨st,m6,num,iss,own,key,fr,un,dto,e,s⟩)) ?_ rfl ⟨aQ X3.out (Nat.le_succ _) _,_,HF.out,rfl⟩
   exact results_cell_row rfl _ _ (w.heap.size+1) 56 (cF ⟨st,m6,num,iss,own,key,fr,un,dto,e,s⟩) (0,0) _ rfl (aZ Z3.out.row) Tryz.underlying56 rfl bT
 · have p:=HTC.out.cells.2.2.1
   have pf:=HTC.out.frozen 2
   have pl:=HTC.out.lt
   have X2:=X
   have T2:=HTC
   have Z2:=HTB
   obtain ⟨w3,hw3⟩:∃ w3,w3=wb.setCell ⟨w.heap.size,2,none⟩ (.int .i64 (wrap64 (num+bye))):=⟨_,rfl⟩
   have T3:Hid (bE w3 w.heap.size ⟨st,kind,(wrap64 (num+bye)),iss,own,key,fr,un,dto,e,s⟩):=by rw [hw3];exact bE.put_num (c:=⟨st,kind,num,iss,own,key,fr,un,dto,e,s⟩) T2.out (wrap64 (num+bye))
   have Z3:Hid (bE w3 (w.heap.size+1) cQ):=by rw [hw3];exact Z2.out.other hne
   have X3:Hid (Ext w w3):=by rw [hw3];exact aH X2.out (UX _)
   have HF:=VR (show smN ⟨st,kind,(wrap64 (num+bye)),iss,own,key,fr,un,dto,e,s⟩ from HSM.out)
   have hws:=hw3.symm
   clear hw3 X2 T2 Z2 HTC HTB X HM HB HK HT HO
   go_wp2_with (first | (refine wpList_load_row rfl 56 _ rfl w.heap.size rfl 56 (cF ⟨st,kind,(wrap64 (num+bye)),iss,own,key,fr,un,dto,e,s⟩) (0,0) _ T3.out.row Tryz.underlying56 rfl bT ?_) | (refine aK rfl 56 _ _ rfl rfl (w.heap.size+1) (cF ⟨st,kind,(wrap64 (num+bye)),iss,own,key,fr,un,dto,e,s⟩) rfl rfl 56 (cF cQ) Z3.out.row bT rfl (fK _) ?_))
   refine bodyPost_ret (v:=.agg (cF ⟨st,kind,(wrap64 (num+bye)),iss,own,key,fr,un,dto,e,s⟩)) ?_ rfl ⟨aQ X3.out (Nat.le_succ _) _,_,HF.out,rfl⟩
   exact results_cell_row rfl _ _ (w.heap.size+1) 56 (cF ⟨st,kind,(wrap64 (num+bye)),iss,own,key,fr,un,dto,e,s⟩) (0,0) _ rfl (aZ Z3.out.row) Tryz.underlying56 rfl bT
 · have p:=HTC.out.cells.2.2.2.1
   have pf:=HTC.out.frozen 3
   have pl:=HTC.out.lt
   go_wp2_with fail
   refine (HB.out _).mono ?_
   rintro e w2 ⟨rfl,rfl⟩
   have X2:=X
   have T2:=HTC
   have Z2:=HTB
   obtain ⟨w3,hw3⟩:∃ w3,w3=wb.setCell ⟨w.heap.size,3,none⟩ (.int .i64 m6):=⟨_,rfl⟩
   have T3:Hid (bE w3 w.heap.size ⟨st,kind,num,m6,own,key,fr,un,dto,e,s⟩):=by rw [hw3];exact bE.put_iss (c:=⟨st,kind,num,iss,own,key,fr,un,dto,e,s⟩) T2.out m6
   have Z3:Hid (bE w3 (w.heap.size+1) cQ):=by rw [hw3];exact Z2.out.other hne
   have X3:Hid (Ext w w3):=by rw [hw3];exact aH X2.out (UX _)
   have HF:=VR (show smN ⟨st,kind,num,m6,own,key,fr,un,dto,e,s⟩ from HSM.out)
   have hws:=hw3.symm
   clear hw3 X2 T2 Z2 HTC HTB X HM HB HK HT HO
   go_wp2_with (first | (refine wpList_load_row rfl 56 _ rfl w.heap.size rfl 56 (cF ⟨st,kind,num,m6,own,key,fr,un,dto,e,s⟩) (0,0) _ T3.out.row Tryz.underlying56 rfl bT ?_) | (refine aK rfl 56 _ _ rfl rfl (w.heap.size+1) (cF ⟨st,kind,num,m6,own,key,fr,un,dto,e,s⟩) rfl rfl 56 (cF cQ) Z3.out.row bT rfl (fK _) ?_))
   refine bodyPost_ret (v:=.agg (cF ⟨st,kind,num,m6,own,key,fr,un,dto,e,s⟩)) ?_ rfl ⟨aQ X3.out (Nat.le_succ _) _,_,HF.out,rfl⟩
   exact results_cell_row rfl _ _ (w.heap.size+1) 56 (cF ⟨st,kind,num,m6,own,key,fr,un,dto,e,s⟩) (0,0) _ rfl (aZ Z3.out.row) Tryz.underlying56 rfl bT
 · have p:=HTC.out.cells.2.2.2.2.1
   have pf:=HTC.out.frozen 4
   have pl:=HTC.out.lt
   go_wp2_with fail
   refine (HB.out _).mono ?_
   rintro e w2 ⟨rfl,rfl⟩
   have X2:=X
   have T2:=HTC
   have Z2:=HTB
   obtain ⟨w3,hw3⟩:∃ w3,w3=wb.setCell ⟨w.heap.size,4,none⟩ (.int .i64 m6):=⟨_,rfl⟩
   have T3:Hid (bE w3 w.heap.size ⟨st,kind,num,iss,m6,key,fr,un,dto,e,s⟩):=by rw [hw3];exact bE.put_own (c:=⟨st,kind,num,iss,own,key,fr,un,dto,e,s⟩) T2.out m6
   have Z3:Hid (bE w3 (w.heap.size+1) cQ):=by rw [hw3];exact Z2.out.other hne
   have X3:Hid (Ext w w3):=by rw [hw3];exact aH X2.out (UX _)
   have HF:=VR (show smN ⟨st,kind,num,iss,m6,key,fr,un,dto,e,s⟩ from HSM.out)
   have hws:=hw3.symm
   clear hw3 X2 T2 Z2 HTC HTB X HM HB HK HT HO
   go_wp2_with (first | (refine wpList_load_row rfl 56 _ rfl w.heap.size rfl 56 (cF ⟨st,kind,num,iss,m6,key,fr,un,dto,e,s⟩) (0,0) _ T3.out.row Tryz.underlying56 rfl bT ?_) | (refine aK rfl 56 _ _ rfl rfl (w.heap.size+1) (cF ⟨st,kind,num,iss,m6,key,fr,un,dto,e,s⟩) rfl rfl 56 (cF cQ) Z3.out.row bT rfl (fK _) ?_))
   refine bodyPost_ret (v:=.agg (cF ⟨st,kind,num,iss,m6,key,fr,un,dto,e,s⟩)) ?_ rfl ⟨aQ X3.out (Nat.le_succ _) _,_,HF.out,rfl⟩
   exact results_cell_row rfl _ _ (w.heap.size+1) 56 (cF ⟨st,kind,num,iss,m6,key,fr,un,dto,e,s⟩) (0,0) _ rfl (aZ Z3.out.row) Tryz.underlying56 rfl bT
 · have p:=HTC.out.cells.2.2.2.2.2.1
   have pf:=HTC.out.frozen 5
   have pl:=HTC.out.lt
   go_wp2_with fail
   refine (HK.out _).mono ?_
   rintro e w2 ⟨rfl,rfl⟩
   have X2:=X
   have T2:=HTC
   have Z2:=HTB
   obtain ⟨w3,hw3⟩:∃ w3,w3=wb.setCell ⟨w.heap.size,5,none⟩ (.int .i64 (pw 4 kb)):=⟨_,rfl⟩
   have T3:Hid (bE w3 w.heap.size ⟨st,kind,num,iss,own,(pw 4 kb),fr,un,dto,e,s⟩):=by rw [hw3];exact bE.put_key (c:=⟨st,kind,num,iss,own,key,fr,un,dto,e,s⟩) T2.out (pw 4 kb)
   have Z3:Hid (bE w3 (w.heap.size+1) cQ):=by rw [hw3];exact Z2.out.other hne
   have X3:Hid (Ext w w3):=by rw [hw3];exact aH X2.out (UX _)
   have HF:=VR (show smN ⟨st,kind,num,iss,own,(pw 4 kb),fr,un,dto,e,s⟩ from HSM.out)
   have hws:=hw3.symm
   clear hw3 X2 T2 Z2 HTC HTB X HM HB HK HT HO
   go_wp2_with (first | (refine wpList_load_row rfl 56 _ rfl w.heap.size rfl 56 (cF ⟨st,kind,num,iss,own,(pw 4 kb),fr,un,dto,e,s⟩) (0,0) _ T3.out.row Tryz.underlying56 rfl bT ?_) | (refine aK rfl 56 _ _ rfl rfl (w.heap.size+1) (cF ⟨st,kind,num,iss,own,(pw 4 kb),fr,un,dto,e,s⟩) rfl rfl 56 (cF cQ) Z3.out.row bT rfl (fK _) ?_))
   refine bodyPost_ret (v:=.agg (cF ⟨st,kind,num,iss,own,(pw 4 kb),fr,un,dto,e,s⟩)) ?_ rfl ⟨aQ X3.out (Nat.le_succ _) _,_,HF.out,rfl⟩
   exact results_cell_row rfl _ _ (w.heap.size+1) 56 (cF ⟨st,kind,num,iss,own,(pw 4 kb),fr,un,dto,e,s⟩) (0,0) _ rfl (aZ Z3.out.row) Tryz.underlying56 rfl bT
 · have p:=HTC.out.cells.2.2.2.2.2.2.1
   have pf:=HTC.out.frozen 6
   have pl:=HTC.out.lt
   have X2:=X
   have T2:=HTC
   have Z2:=HTB
   obtain ⟨w3,hw3⟩:∃ w3,w3=wb.setCell ⟨w.heap.size,6,none⟩ (.int .i64 (wrap64 (fr+bye))):=⟨_,rfl⟩
   have T3:Hid (bE w3 w.heap.size ⟨st,kind,num,iss,own,key,(wrap64 (fr+bye)),un,dto,e,s⟩):=by rw [hw3];exact bE.put_fr (c:=⟨st,kind,num,iss,own,key,fr,un,dto,e,s⟩) T2.out (wrap64 (fr+bye))
   have Z3:Hid (bE w3 (w.heap.size+1) cQ):=by rw [hw3];exact Z2.out.other hne
   have X3:Hid (Ext w w3):=by rw [hw3];exact aH X2.out (UX _)
   have HF:=VR (show smN ⟨st,kind,num,iss,own,key,(wrap64 (fr+bye)),un,dto,e,s⟩ from HSM.out)
   have hws:=hw3.symm
   clear hw3 X2 T2 Z2 HTC HTB X HM HB HK HT HO
   go_wp2_with (first | (refine wpList_load_row rfl 56 _ rfl w.heap.size rfl 56 (cF ⟨st,kind,num,iss,own,key,(wrap64 (fr+bye)),un,dto,e,s⟩) (0,0) _ T3.out.row Tryz.underlying56 rfl bT ?_) | (refine aK rfl 56 _ _ rfl rfl (w.heap.size+1) (cF ⟨st,kind,num,iss,own,key,(wrap64 (fr+bye)),un,dto,e,s⟩) rfl rfl 56 (cF cQ) Z3.out.row bT rfl (fK _) ?_))
   refine bodyPost_ret (v:=.agg (cF ⟨st,kind,num,iss,own,key,(wrap64 (fr+bye)),un,dto,e,s⟩)) ?_ rfl ⟨aQ X3.out (Nat.le_succ _) _,_,HF.out,rfl⟩
   exact results_cell_row rfl _ _ (w.heap.size+1) 56 (cF ⟨st,kind,num,iss,own,key,(wrap64 (fr+bye)),un,dto,e,s⟩) (0,0) _ rfl (aZ Z3.out.row) Tryz.underlying56 rfl bT
 · have p:=HTC.out.cells.2.2.2.2.2.2.2.2.1
   have pf:=HTC.out.frozen 8
   have pl:=HTC.out.lt
   have X2:=X
   have T2:=HTC
   have Z2:=HTB
   obtain ⟨w3,hw3⟩:∃ w3,w3=wb.setCell ⟨w.heap.size,8,none⟩ (.int .i64 (wrap64 (dto - bye))):=⟨_,rfl⟩
   have T3:Hid (bE w3 w.heap.size ⟨st,kind,num,iss,own,key,fr,un,(wrap64 (dto - bye)),e,s⟩):=by rw [hw3];exact bE.put_to (c:=⟨st,kind,num,iss,own,key,fr,un,dto,e,s⟩) T2.out (wrap64 (dto - bye))
   have Z3:Hid (bE w3 (w.heap.size+1) cQ):=by rw [hw3];exact Z2.out.other hne
   have X3:Hid (Ext w w3):=by rw [hw3];exact aH X2.out (UX _)
   have HF:=VR (show smN ⟨st,kind,num,iss,own,key,fr,un,(wrap64 (dto - bye)),e,s⟩ from HSM.out)
   have hws:=hw3.symm
   clear hw3 X2 T2 Z2 HTC HTB X HM HB HK HT HO
   go_wp2_with (first | (refine wpList_load_row rfl 56 _ rfl w.heap.size rfl 56 (cF ⟨st,kind,num,iss,own,key,fr,un,(wrap64 (dto - bye)),e,s⟩) (0,0) _ T3.out.row Tryz.underlying56 rfl bT ?_) | (refine aK rfl 56 _ _ rfl rfl (w.heap.size+1) (cF ⟨st,kind,num,iss,own,key,fr,un,(wrap64 (dto - bye)),e,s⟩) rfl rfl 56 (cF cQ) Z3.out.row bT rfl (fK _) ?_))
   refine bodyPost_ret (v:=.agg (cF ⟨st,kind,num,iss,own,key,fr,un,(wrap64 (dto - bye)),e,s⟩)) ?_ rfl ⟨aQ X3.out (Nat.le_succ _) _,_,HF.out,rfl⟩
   exact results_cell_row rfl _ _ (w.heap.size+1) 56 (cF ⟨st,kind,num,iss,own,key,fr,un,(wrap64 (dto - bye)),e,s⟩) (0,0) _ rfl (aZ Z3.out.row) Tryz.underlying56 rfl bT
 · have p:=HTC.out.cells.2.2.2.2.2.2.2.2.2.2
   have pf:=HTC.out.frozen 10
   have pl:=HTC.out.lt
   go_wp2_with fail
   refine (HO.out _).mono ?_
   rintro e w2 ⟨rfl,rfl⟩
   have X2:=X
   have T2:=HTC
   have Z2:=HTB
   obtain ⟨w3,hw3⟩:∃ w3,w3=wb.setCell ⟨w.heap.size,10,none⟩ (.int .i64 ms):=⟨_,rfl⟩
   have T3:Hid (bE w3 w.heap.size ⟨st,kind,num,iss,own,key,fr,un,dto,e,ms⟩):=by rw [hw3];exact bE.put_s (c:=⟨st,kind,num,iss,own,key,fr,un,dto,e,s⟩) T2.out ms
   have Z3:Hid (bE w3 (w.heap.size+1) cQ):=by rw [hw3];exact Z2.out.other hne
   have X3:Hid (Ext w w3):=by rw [hw3];exact aH X2.out (UX _)
   have HF:=VR (show smN ⟨st,kind,num,iss,own,key,fr,un,dto,e,ms⟩ from HSM.out)
   have hws:=hw3.symm
   clear hw3 X2 T2 Z2 HTC HTB X HM HB HK HT HO
   go_wp2_with (first | (refine wpList_load_row rfl 56 _ rfl w.heap.size rfl 56 (cF ⟨st,kind,num,iss,own,key,fr,un,dto,e,ms⟩) (0,0) _ T3.out.row Tryz.underlying56 rfl bT ?_) | (refine aK rfl 56 _ _ rfl rfl (w.heap.size+1) (cF ⟨st,kind,num,iss,own,key,fr,un,dto,e,ms⟩) rfl rfl 56 (cF cQ) Z3.out.row bT rfl (fK _) ?_))
   refine bodyPost_ret (v:=.agg (cF ⟨st,kind,num,iss,own,key,fr,un,dto,e,ms⟩)) ?_ rfl ⟨aQ X3.out (Nat.le_succ _) _,_,HF.out,rfl⟩
   exact results_cell_row rfl _ _ (w.heap.size+1) 56 (cF ⟨st,kind,num,iss,own,key,fr,un,dto,e,ms⟩) (0,0) _ rfl (aZ Z3.out.row) Tryz.underlying56 rfl bT
end Go.Proofs.YtkjplpmogfmhkaaGreatDoor
