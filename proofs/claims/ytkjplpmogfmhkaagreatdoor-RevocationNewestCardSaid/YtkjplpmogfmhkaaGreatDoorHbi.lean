/- Parts Jm Jn Jo of the proof. -/
import Derived.Test.YtkjplpmogfmhkaaGreatDoorHay
namespace Go.Proofs.YtkjplpmogfmhkaaGreatDoor
open Go.RowKit
set_option linter.unusedVariables false
set_option maxRecDepth 100000
theorem N9 (w:World) (g:Nat) {cur:List Value}{p:List NC}{rest:List Value}{T:TypeId}{fr:Nat × Nat} (h:w.heap[g]?=some (.cells cur.toArray T fr)) (hc:cur=aD p++rest) (i:Nat) (hi:i<p.length) (x:NC) :
 (OO w g (i*11) (aH x)).heap[g]?=some (.cells (aD (p.set i x)++rest).toArray T fr):=by
 have e:p=p.take i++[p[i]]++p.drop (i+1):=by
  rw [YW,List.singleton_append,<- List.drop_eq_getElem_cons hi,List.take_append_drop]
 have e2:p.set i x=p.take i++[x]++p.drop (i+1):=by
  rw [List.set_eq_take_append_cons_drop,if_pos hi,YW]
  rfl
 have hl:(aD (p.take i)).length=i*11:=by rw [bJ,YY,Nat.min_eq_left (Nat.le_of_lt hi)]
 have one:∀ y,aD [y]=aH y:=fun y=>by simp [aD]
 have h':w.heap[g]?=some (.cells (aD (p.take i)++aH p[i]++(aD (p.drop (i+1))++rest)).toArray T fr):=by
  rw [h,hc]
  congr 3
  conv=>lhs;rw [e,<- jG,<- jG,one]
  simp only [YW]
 have h2:=lE (aH x) (aD (p.take i)) (aD (p.drop (i+1))++rest) w g (aH p[i]) T fr h' rfl
 rw [hl] at h2
 rw [h2,e2,<- jG,<- jG,one]
 simp only [YW]
theorem FD {α:Type}{p:α->Bool}:∀ {l:List α}{k:Nat}{y:α},l[k]?=some y->p y=true->(∀ (j:Nat) (a:α),j<k->l[j]?=some a->p a=false)->l.find? p=some y
 | [],k,y,h,_,_=>by simp at h
 | a::l,0,y,h,hp,_=>by
   have h:a=y:=by simpa using h
   rw [h,List.find?_cons_of_pos hp]
 | a::l,k+1,y,h,hp,hn=>by
   rw [List.find?_cons_of_neg (by rw [hn 0 a (Nat.zero_lt_succ _) rfl];simp)]
   exact FD (k:=k) (by simpa using h) hp fun j b hj hb=>hn (j+1) b (Nat.succ_lt_succ hj) (by simpa using hb)
open Classical in
noncomputable def npK (roots pool:List NC) (c:NC) (day:Int):Int :=
 if onN c day≠0 then onN c day else if c.kind=1 then 61 else if 32<gO roots c.st \/ 32<gO pool c.st then 72 else if lH day (cW roots pool c.st day) c=none then 66 else 0
noncomputable def npL (roots pool:List NC) (c:NC) (day:Int):List NC:=if npK roots pool c day=0 then (lH day (cW roots pool c.st day) c).getD [] else []
section
variable {roots pool:List NC}{c:NC}{day:Int}
theorem W6 (h:onN c day≠0):npK roots pool c day=onN c day/\npL roots pool c day=[]:=by
 have e:npK roots pool c day=onN c day:=if_pos h
 exact ⟨e,by unfold npL;rw [if_neg (by rw [e];exact h)]⟩
theorem QG (h:onN c day=0) (h1:c.kind=1):npK roots pool c day=61/\npL roots pool c day=[]:=by
 have e:npK roots pool c day=61:=by unfold npK;rw [if_neg (not_not_intro h),if_pos h1]
 exact ⟨e,by unfold npL;rw [if_neg (by rw [e];decide)]⟩
theorem FE (h:onN c day=0) (h1:c.kind≠1) (h2:32<gO roots c.st \/ 32<gO pool c.st):npK roots pool c day=72/\npL roots pool c day=[]:=by
 have e:npK roots pool c day=72:=by unfold npK;rw [if_neg (not_not_intro h),if_neg h1,if_pos h2]
 exact ⟨e,by unfold npL;rw [if_neg (by rw [e];decide)]⟩
theorem QH (h:onN c day=0) (h1:c.kind≠1) (h2:¬ (32<gO roots c.st \/ 32<gO pool c.st)) (h3:lH day (cW roots pool c.st day) c=none):npK roots pool c day=66/\npL roots pool c day=[]:=by
 have e:npK roots pool c day=66:=by unfold npK;rw [if_neg (not_not_intro h),if_neg h1,if_neg h2,if_pos h3]
 exact ⟨e,by unfold npL;rw [if_neg (by rw [e];decide)]⟩
theorem QI (h:onN c day=0) (h1:c.kind≠1) (h2:¬ (32<gO roots c.st \/ 32<gO pool c.st)) {p:List NC} (h3:lH day (cW roots pool c.st day) c=some p):npK roots pool c day=0/\npL roots pool c day=p:=by
 have e:npK roots pool c day=0:=by unfold npK;rw [if_neg (not_not_intro h),if_neg h1,if_neg h2,if_neg (by rw [h3];simp)]
 exact ⟨e,by unfold npL;rw [if_pos e,h3];rfl⟩
end
structure PtI (day:Int) (L:List NC) (c:NC) (ys:List NC) (x:NC):Prop where
 last:(c::ys).getLast?=some x
 back:∀ b,BkN day L x b->BkN day L c (ys++b)
 idx:ys=[] \/ (x ∈ L/\x.kind≠1/\L.idxOf x+ys.length<=L.length)
theorem QJ (day:Int) (L:List NC) (c:NC):PtI day L c [] c:=⟨rfl,fun b h=>h,.inl rfl⟩
theorem PtI.none {day:Int}{L ys:List NC}{c x:NC} (h:PtI day L c ys x) (hl:Lad day L) (hf:sD day L x=none):lH day L c=none:=by
 rcases h.idx with h0 | ⟨h1,h2,_⟩
 · subst h0
   have:=h.last
   have:c=x:=by simpa using this
   subst this
   exact OX hf
 · obtain ⟨z,hz,_⟩:=hl x h1 h2
   rw [hf] at hz
   cases hz
theorem PtI.root {day:Int}{L ys:List NC}{c x y:NC} (h:PtI day L c ys x) (hf:sD day L x=some y) (hk:y.kind=1):lH day L c=some ((c::(ys++[y])).reverse):=OW (h.back [y] (.root hf hk))
theorem PtI.step {day:Int}{L ys:List NC}{c x y:NC} (h:PtI day L c ys x) (hl:Lad day L) (hf:sD day L x=some y) (hk:y.kind≠1):PtI day L c (ys++[y]) y:=by
 have hy:=qR hf
 refine ⟨by rw [<- List.cons_append,List.getLast?_append];rfl,fun b hb=>by rw [YW];exact h.back (y::b) (.step hf hk hb),.inr ⟨hy.1,hk,?_⟩⟩
 rw [YJ]
 simp only [YP,YN]
 rcases h.idx with h0 | ⟨h1,h2,h3⟩
 · subst h0
   have:=G9 hy.1
   simp only [YN]
   omega
 · obtain ⟨z,hz,hlt⟩:=hl x h1 h2
   rw [hf] at hz
   injection hz with hz
   subst hz
   omega
theorem PtI.len {day:Int}{L ys:List NC}{c x:NC} (h:PtI day L c ys x):ys.length<=L.length:=by
 rcases h.idx with h0 | ⟨_,_,h3⟩
 · rw [h0];exact YK _
 · omega
def XI (w:World) (l:List NC) (k:Int) (e:Ending) (w':World):Prop:=Ext w w'/\∃ (A:Option Addr) (cp:Nat),e=.returned (.tuple #[.slice A l.length cp,.int .i64 k])/\RdN w' (.slice A l.length cp) l
theorem nM {w w':World}{l:List NC}{k k':Int} (e:Ext w w') (h1:k=k') (h2:l=[]):XI w l k (.returned (.tuple #[.slice none 0 0,.int .i64 k'])) w':=by
 subst h1 h2
 exact ⟨e,none,0,rfl,RdN.nil_ _ _⟩
def PtR (day:Int) (L:List NC) (c:NC) (ys:List NC) (x:NC):Prop:=(c::ys).getLast?=some x/\ys.length<=L.length/\((x.kind≠1/\PtI day L c ys x) \/ (x.kind=1/\lH day L c=some (c::ys).reverse))
theorem QK (day:Int) (L:List NC) {c:NC} (h:c.kind≠1):PtR day L c [] c:=⟨rfl,YK _,.inl ⟨h,QJ _ _ _⟩⟩
theorem PtI.ptR {day:Int}{L ys:List NC}{c x y:NC} (h:PtI day L c ys x) (hl:Lad day L) (hf:sD day L x=some y):PtR day L c (ys++[y]) y:=by
 have hy:=qR hf
 have hlast:(c::(ys++[y])).getLast?=some y:=by rw [<- List.cons_append,List.getLast?_append];rfl
 by_cases hk:y.kind=1
 · refine ⟨hlast,?_,.inr ⟨hk,h.root hf hk⟩⟩
   rw [YJ]
   simp only [YP,YN]
   rcases h.idx with h0 | ⟨h1,h2,h3⟩
   · have:=G9 hy.1
     rw [h0]
     simp only [YN]
     omega
   · obtain ⟨z,hz,hlt⟩:=hl x h1 h2
     omega
 · have hs:=h.step hl hf hk
   exact ⟨hlast,hs.len,.inl ⟨hk,hs⟩⟩
theorem QL {α:Type}{l:List α}{x:α} (h:l.getLast?=some x):l.reverse[0]?=some x:=by
 rw [<- List.head?_eq_getElem?,List.head?_reverse]
 exact h
theorem QM (c y:NC) (ys:List NC):(c::(ys++[y])).reverse=y::(c::ys).reverse:=by
 rw [<- List.cons_append,List.reverse_append]
 rfl
set_option maxHeartbeats 8000000 in
theorem C7 {v1 v2:Value}{roots pool:List NC} (c:NC) (day:Int) (w:World) (h1:RdN w v1 roots) (h2:RdN w v2 pool) (hs1:smL roots) (hs2:smL pool) (hc:smN c) (hl:roots.length+pool.length<=900000) (E:dS w 0) :
 Calls Tryz.prog 39 #[v1,v2,ncV c,.int .i64 day] w (XI w (npL roots pool c day) (npK roots pool c day)):=by
 have HON:=ZH (fun W=>fN c day W hc)
 have HN1:=ZH (fun W (e:Ext w W)=>wP c.st W (RdK.ext h1 e))
 have HN2:=ZH (fun W (e:Ext w W)=>wP c.st W (RdK.ext h2 e))
 have HFI:=ZH (fun W (e:Ext w W)=>nB c.st day W (RdK.ext h1 e) (RdK.ext h2 e) hs1 hs2 hl (E.below e))
 have HFL:=ZH (fun (a b:NC) (ha:smN a) (hb:smN b) W (e:Ext w W)=>hH a b day W ha hb (E.below e))
 have HSC:=ZH hc
 have HSL:=ZH (show smL (cW roots pool c.st day) from fun q hq=>(MK hq).elim (fun h=>hs1 q h.1) (fun h=>hs2 q h.1))
 have HLB0:=ZH (show (cW roots pool c.st day).length<=900000 by
  have hb:∀ (n:Nat) (L:List NC),L.length+iE pool L<=roots.length+pool.length->(trT pool day n L).length<=roots.length+pool.length:=by
   intro n
   induction n with
   | zero=>intro L h;show L.length<=_;omega
   | succ n ih =>
     intro L h
     unfold trT
     split
     · omega
     · refine ih _ ?_
       have h9:∀ (l N:List NC),(∀ q ∈ l,q ∈ pool)->N.length+iE pool N<=roots.length+pool.length->(l.foldl (dW day L) N).length+iE pool (l.foldl (dW day L) N)<=roots.length+pool.length:=by
        intro l
        induction l with
        | nil=>intro N _ h;exact h
        | cons q l ih2 =>
          intro N hq h
          refine ih2 _ (fun z hz=>hq z (ZG _ hz)) ?_
          unfold dW
          split
          · rename_i hp
            exact GT (hq q YZ) hp.2.1 h
          · exact h
       exact h9 pool L (fun q hq=>hq) h
  have h1:=kC c.st day roots
  have h2:=lG pool (bR roots c.st day)
  have:=hb (pool.length+1) (bR roots c.st day) (by omega)
  unfold cW
  omega)
 obtain ⟨wz,hwz,ez,TZ⟩:=cT w c
 obtain ⟨rk,hrk⟩:∃ r,npK roots pool c day=r:=⟨_,rfl⟩
 obtain ⟨rl,hrl⟩:∃ r,npL roots pool c day=r:=⟨_,rfl⟩
 rw [hrk,hrl]
 have HK1:=ZH hrk
 have HK2:=ZH hrl
 unfold ncV
 clear hrk hrl h1 h2 hs1 hs2 hc E
 go_enter Tryz.func39,Tryz.ntmps39
 go_upto_region 1 with fail
 rw [<- hwz]
 clear hwz
 obtain ⟨p0,p1,p2,p3,p4,p5,p6,p7,p8,p9,p10⟩:=(TZ).cells
 have pf0:=(TZ).frozen 0
 have pf1:=(TZ).frozen 1
 have pf2:=(TZ).frozen 2
 have pf3:=(TZ).frozen 3
 have pf4:=(TZ).frozen 4
 have pf5:=(TZ).frozen 5
 have pf6:=(TZ).frozen 6
 have pf7:=(TZ).frozen 7
 have pf8:=(TZ).frozen 8
 have pf9:=(TZ).frozen 9
 have pf10:=(TZ).frozen 10
 have pl:=(TZ).lt
 go_wp2_with fail
 refine (HON.out _).mono ?_
 rintro e w2 ⟨rfl,b2⟩
 have T2:=TZ.ext b2
 have X2:=ZH (ez.tr b2)
 clear p0 pf0 p1 pf1 p2 pf2 p3 pf3 p4 pf4 p5 pf5 p6 pf6 p7 pf7 p8 pf8 p9 pf9 p10 pf10 pl
 clear TZ ez b2
 by_cases o1:onN c day=0
 case neg =>
  have hb:(onN c day != 0)=true:=by simpa using o1
  have HN:=ZH (by have q:=W6 (roots:=roots) (pool:=pool) o1;rw [HK1.out,HK2.out] at q;exact q:rk=onN c day/\rl=[])
  clear o1 T2
  go_wp2_with fail
  refine bodyPost_ret (results_tmp2 rfl _ _ _) rfl ?_
  exact nM X2.out HN.out.1 HN.out.2
 have hb:(onN c day != 0)=false:=by simp [o1]
 have O1:=ZH o1
 clear o1
 obtain ⟨p0,p1,p2,p3,p4,p5,p6,p7,p8,p9,p10⟩:=(T2).cells
 have pf0:=(T2).frozen 0
 have pf1:=(T2).frozen 1
 have pf2:=(T2).frozen 2
 have pf3:=(T2).frozen 3
 have pf4:=(T2).frozen 4
 have pf5:=(T2).frozen 5
 have pf6:=(T2).frozen 6
 have pf7:=(T2).frozen 7
 have pf8:=(T2).frozen 8
 have pf9:=(T2).frozen 9
 have pf10:=(T2).frozen 10
 have pl:=(T2).lt
 by_cases o2:c.kind=1
 · have hb2:(c.kind == 1)=true:=by simpa using o2
   have HN:=ZH (by have q:=QG (roots:=roots) (pool:=pool) O1.out o2;rw [HK1.out,HK2.out] at q;exact q:rk=61/\rl=[])
   clear o2
   go_wp2_with fail
   refine bodyPost_ret (results_tmp2 rfl _ _ _) rfl ?_
   exact nM X2.out HN.out.1 HN.out.2
 have hb2:(c.kind == 1)=false:=by simpa using o2
 have O2:=ZH o2
 clear o2
 go_wp2_with fail
 refine (HN1.out _ X2.out).mono ?_
 rintro e w3 ⟨rfl,b3⟩
 have T3:=T2.ext b3
 have X3:=ZH (X2.out.tr b3)
 clear p0 pf0 p1 pf1 p2 pf2 p3 pf3 p4 pf4 p5 pf5 p6 pf6 p7 pf7 p8 pf8 p9 pf9 p10 pf10 pl
 clear T2 X2 b3
 by_cases o3:32<gO roots c.st
 · have hb3:(32:Int)<(gO roots c.st:Int):=by omega
   have HN:=ZH (by have q:=FE (roots:=roots) (pool:=pool) O1.out O2.out (.inl o3);rw [HK1.out,HK2.out] at q;exact q:rk=72/\rl=[])
   clear o3
   generalize (gO roots c.st:Int)=z at *
   go_wp2_with fail
   refine bodyPost_ret (results_tmp2 rfl _ _ _) rfl ?_
   exact nM X3.out HN.out.1 HN.out.2
 have hb3:¬ (32:Int)<(gO roots c.st:Int):=by omega
 have O3:=ZH o3
 clear o3
 generalize (gO roots c.st:Int)=z1 at *
 obtain ⟨p0,p1,p2,p3,p4,p5,p6,p7,p8,p9,p10⟩:=(T3).cells
 have pf0:=(T3).frozen 0
 have pf1:=(T3).frozen 1
 have pf2:=(T3).frozen 2
 have pf3:=(T3).frozen 3
 have pf4:=(T3).frozen 4
 have pf5:=(T3).frozen 5
 have pf6:=(T3).frozen 6
 have pf7:=(T3).frozen 7
 have pf8:=(T3).frozen 8
 have pf9:=(T3).frozen 9
 have pf10:=(T3).frozen 10
 have pl:=(T3).lt
 go_wp2_with fail
 refine (HN2.out _ X3.out).mono ?_
 rintro e w4 ⟨rfl,b4⟩
 have T4:=T3.ext b4
 have X4:=ZH (X3.out.tr b4)
 clear p0 pf0 p1 pf1 p2 pf2 p3 pf3 p4 pf4 p5 pf5 p6 pf6 p7 pf7 p8 pf8 p9 pf9 p10 pf10 pl
 clear T3 X3 b4
 by_cases o4:32<gO pool c.st
 · have hb4:(32:Int)<(gO pool c.st:Int):=by omega
   have HN:=ZH (by have q:=FE (roots:=roots) (pool:=pool) O1.out O2.out (.inr o4);rw [HK1.out,HK2.out] at q;exact q:rk=72/\rl=[])
   clear o4
   generalize (gO pool c.st:Int)=z at *
   go_wp2_with fail
   refine bodyPost_ret (results_tmp2 rfl _ _ _) rfl ?_
   exact nM X4.out HN.out.1 HN.out.2
 have hb4:¬ (32:Int)<(gO pool c.st:Int):=by omega
 have O4:=ZH (show ¬ (32<gO roots c.st \/ 32<gO pool c.st) from fun q=>q.elim O3.out o4)
 clear o4 O3
 generalize (gO pool c.st:Int)=z2 at *
 obtain ⟨p0,p1,p2,p3,p4,p5,p6,p7,p8,p9,p10⟩:=(T4).cells
 have pf0:=(T4).frozen 0
 have pf1:=(T4).frozen 1
 have pf2:=(T4).frozen 2
 have pf3:=(T4).frozen 3
 have pf4:=(T4).frozen 4
 have pf5:=(T4).frozen 5
 have pf6:=(T4).frozen 6
 have pf7:=(T4).frozen 7
 have pf8:=(T4).frozen 8
 have pf9:=(T4).frozen 9
 have pf10:=(T4).frozen 10
 have pl:=(T4).lt
 have HLA:=ZH (MJ roots pool c.st day)
 have HFX:=ZH (HFI.out w4 X4.out)
 clear HFI
 go_wp2_with fail
 refine HFX.out.mono ?_
 rintro e w5 ⟨lv,rfl,zl⟩
 obtain ⟨Al,cl,rfl⟩:=zl.form
 have T5:=T4.ext zl.ext
 have X5:=ZH (X4.out.tr zl.ext)
 have HZL:=ZH zl.rd
 have HK9:=ZH (fun (p:List NC) (h:lH day (cW roots pool c.st day) c=some p)=>(by have q:=QI (roots:=roots) (pool:=pool) O1.out O2.out O4.out h;rw [HK1.out,HK2.out] at q;exact q:rk=0/\rl=p))
 have HK8:=ZH (fun (h:lH day (cW roots pool c.st day) c=none)=>(by have q:=QH (roots:=roots) (pool:=pool) O1.out O2.out O4.out h;rw [HK1.out,HK2.out] at q;exact q:rk=66/\rl=[]))
 clear p0 pf0 p1 pf1 p2 pf2 p3 pf3 p4 pf4 p5 pf5 p6 pf6 p7 pf7 p8 pf8 p9 pf9 p10 pf10 pl
 clear T4 X4 zl HFX HK1 HK2 O4
 generalize cW roots pool c.st day=L at *
 have HP0:=ZH (QK day L O2.out)
 obtain ⟨p0,p1,p2,p3,p4,p5,p6,p7,p8,p9,p10⟩:=(T5).cells
 have pf0:=(T5).frozen 0
 have pf1:=(T5).frozen 1
 have pf2:=(T5).frozen 2
 have pf3:=(T5).frozen 3
 have pf4:=(T5).frozen 4
 have pf5:=(T5).frozen 5
 have pf6:=(T5).frozen 6
 have pf7:=(T5).frozen 7
 have pf8:=(T5).frozen 8
 have pf9:=(T5).frozen 9
 have pf10:=(T5).frozen 10
 have pl:=(T5).lt
 obtain ⟨wl,hwl⟩:∃ wl,wl=w5.alloc (ncO c):=⟨_,rfl⟩
 have el:Ext w5 wl:=by rw [hwl];exact (Below.refl _ _).alloc (YF _) _
 have ZL:Hid (LsZ w5 wl (.slice (some ⟨w5.heap.size,0,none⟩) [c].length 1) [c].reverse):=ZH ⟨el,by
  rw [hwl]
  have:=aJ.lit w5 11 (aH c).toArray 56 1 rfl (by unfold maxLen;omega)
  have e1:(aH c).toArray.toList=aD [c].reverse:=by simp [aD]
  rw [e1] at this
  exact this,_,_,rfl⟩
 go_wp2_with fail
 rw [<- hwl]
 clear hwl el
 clear p0 pf0 p1 pf1 p2 pf2 p3 pf3 p4 pf4 p5 pf5 p6 pf6 p7 pf7 p8 pf8 p9 pf9 p10 pf10 pl
 clear T5
 go_loopw [12] (fun out wr=>∃ (ys:List NC) (x:NC),Hid (LsZ w5 wr out (c::ys).reverse)/\Hid (PtR day L c ys x)/\Hid (smL (c::ys))) (fun out _=>L.length+2 - KQ out)
 case atStart=>exact ⟨[],c,ZL,HP0,ZH (fun q hq=>by rw [List.mem_singleton.1 hq];exact HSC.out)⟩
 case round =>
  clear ZL HP0
  obtain ⟨ys,x,Z,HP,HSM⟩:=hrel
  obtain ⟨Ao,co,rfl⟩:=Z.out.form
  obtain ⟨wo,hwo⟩:∃ wo,wo=wr:=⟨_,rfl⟩
  subst hwo
  have hyl:=HP.out.2.1
  have hx:=QL HP.out.1
  have HSX:=ZH (HSM.out x (List.mem_reverse.1 (YS hx)))
  obtain ⟨Ar,nr,cr,e9,hnr,hnc,hcr,hcl⟩:=RdN.at_ Z.out.rd
  injection e9 with e1 e2 e3
  subst e1 e2 e3
  clear hnr
  obtain ⟨bo,oo,rfl,hbo,hcl⟩:=hcl (by simp)
  have hcx:=hcl 0 x hx
  simp only [Nat.zero_mul,Nat.add_zero] at hcx
  have HCX:=ZH hcx
  clear hcl hx
  obtain ⟨acc,hacc⟩:∃ acc,(c::ys).reverse=acc:=⟨_,rfl⟩
  rw [hacc] at Z hnc
  rw [hacc]
  have hla:acc.length=ys.length+1:=by rw [<- hacc];simp
  have HLQ:=ZH hla
  have HAC:=ZH hacc
  have i0:(0:Int)<(acc.length:Int):=by omega
  have i0':0<acc.length:=by omega
  have hlaL:acc.length<=L.length+1:=by omega
  unfold maxLen at hcr
  clear hla hacc hyl
  obtain ⟨x0,x1,x2,x3,x4,x5,x6,x7,x8,x9,x10⟩:=hcx
  by_cases k1:x.kind=1
  · have hb9:(x.kind != 1)=false:=by simp [k1]
    have HN:=ZH (HK9.out _ (HP.out.2.2.elim (fun h=>absurd k1 h.1) (fun h=>h.2)))
    have HX9:=ZH (X5.out.tr Z.out.ext)
    clear k1
    go_wp2_with fail
    refine bodyPost_ret (results_tmp2 rfl _ _ _) rfl ?_
    refine ⟨HX9.out,some ⟨bo,oo,none⟩,co,?_,?_⟩
    · rw [HN.out.1,HN.out.2,HAC.out];rfl
    · rw [HN.out.2,HAC.out];exact Z.out.rd
  have hb9:(x.kind != 1)=true:=by simpa using k1
  have HPI:=ZH (HP.out.2.2.elim (fun h=>h.2) (fun h=>absurd h.1 k1))
  clear k1 HP
  go_wp2_with fail
  clear x0 x1 x2 x3 x4 x5 x6 x7 x8 x9 x10
  go_loopw [13] (fun i wr=>∃ j:Nat,j<=L.length/\i=.int .i64 (j:Int)/\Hid (LsZ w5 wr (.slice (some ⟨bo,oo,none⟩) acc.length co) acc)/\Hid (∀ (i:Nat) (a:NC),i<j->L[i]?=some a->fG day a x=false)/\Hid (Ext wo wr)) (fun i _=>L.length - (intOf i).toNat)
  case atStart=>exact ⟨0,YK _,rfl,Z,ZH (fun i a hi=>absurd hi (Nat.not_lt_zero _)),ZH (Below.refl _ _)⟩
  case round =>
   obtain ⟨j,hj,rfl,ZJ,HNO,HWO⟩:=hrel
   have X:=ZJ.out.ext
   have XW:=X5.out.tr X
   by_cases hjl:j<L.length
   case neg =>
    obtain rfl:j=L.length:=by omega
    have hf:sD day L x=none:=List.find?_eq_none.2 fun a ha hf=>by
     obtain ⟨i,hi,rfl⟩:=List.getElem_of_mem ha
     have:=HNO.out i _ hi (YL hi)
     rw [this] at hf
     cases hf
    have HN:=ZH (HK8.out (HPI.out.none HLA.out hf))
    have HX9:=ZH XW
    clear hf
    go_upto_region 12 with fail
    refine Gd.aI 16 (by kernel_rfl) (by kernel_rfl) ?_
    simp only [YT,YQ,YU,YV]
    intro wq hw1
    have LW:∀ m:Lt wq,Ext w m.1:=fun m=>(XW.tr hw1).tr m.2
    repeat (first | (refine Gd.dJ (by exact ⟨_,rfl,rfl,rfl⟩) rfl rfl ?_;simp only [Act.put,YG,YI,YH]) | (refine Gd.aC rfl fun K hK=>?_;go_big_quiet_op;refine hK _ ?_;clear hK K))
    refine Gd.cQ (fun m=>?_)
    have Lm:=LW m
    obtain ⟨wm,hwm⟩:=m
    have Lm:Ext w wm:=Lm
    clear LW hw1 X XW
    show wpList _ _ _ _ _ _
    go_wp2_with fail
    refine bodyPost_ret (results_tmp2 rfl _ _ _) rfl ?_
    exact nM Lm HN.out.1 HN.out.2
   case pos =>
   obtain ⟨y,hy⟩:∃ y,L[j]?=some y:=⟨_,YL hjl⟩
   obtain ⟨A3,n3,c3,e9,hn3,_,_,hcl⟩:=RdN.at_ HZL.out
   injection e9 with e1 e2 e3
   subst e1 e2 e3
   clear hn3
   obtain ⟨b2,o2,rfl,hb2,hcl⟩:=hcl (by omega)
   have hcy:=hcl j y hy
   have hcx:=HCX.out
   have HYY:=ZH hy
   have HSY:=ZH (HSL.out y (YS hy))
   clear hy hcl
   have hLB:=HLB0.out
   have wi1:IntKind.i64.wrap ((j:Int))=(j:Int):=IntWalk.i64_in _ (by omega)
   have zi1:(0:Int)<=(j:Int):=by omega
   have li1:(j:Int)<(L.length:Int):=by omega
   have ti1:((j:Int)).toNat=j:=by omega
   have wj:IntKind.i64.wrap ((j:Int)+1)=(j:Int)+1:=IntWalk.i64_in _ (by have:=HLB0.out;omega)
   go_upto_region 12 with fail
   refine Gd.aI 16 (by kernel_rfl) (by kernel_rfl) ?_
   simp only [YT,YQ,YU,YV]
   intro wq hw1
   have LL:∀ m:Lt wq,Ext wr m.1:=fun m=>hw1.tr m.2
   have L5:∀ m:Lt wq,Ext w5 m.1:=fun m=>X.tr (LL m)
   have LO:∀ m:Lt wq,Ext wo m.1:=fun m=>HWO.out.tr (LL m)
   have LW:∀ m:Lt wq,Ext w m.1:=fun m=>XW.tr (LL m)
   have p0:=fun m:Lt wq=>((L5 m).cell (p:=⟨b2,o2+j*11,none⟩) hb2).trans hcy.1
   have p1:=fun m:Lt wq=>((L5 m).cell (p:=⟨b2,o2+j*11+1,none⟩) hb2).trans hcy.2.1
   have p2:=fun m:Lt wq=>((L5 m).cell (p:=⟨b2,o2+j*11+2,none⟩) hb2).trans hcy.2.2.1
   have p3:=fun m:Lt wq=>((L5 m).cell (p:=⟨b2,o2+j*11+3,none⟩) hb2).trans hcy.2.2.2.1
   have p4:=fun m:Lt wq=>((L5 m).cell (p:=⟨b2,o2+j*11+4,none⟩) hb2).trans hcy.2.2.2.2.1
   have p5:=fun m:Lt wq=>((L5 m).cell (p:=⟨b2,o2+j*11+5,none⟩) hb2).trans hcy.2.2.2.2.2.1
   have p6:=fun m:Lt wq=>((L5 m).cell (p:=⟨b2,o2+j*11+6,none⟩) hb2).trans hcy.2.2.2.2.2.2.1
   have p7:=fun m:Lt wq=>((L5 m).cell (p:=⟨b2,o2+j*11+7,none⟩) hb2).trans hcy.2.2.2.2.2.2.2.1
   have p8:=fun m:Lt wq=>((L5 m).cell (p:=⟨b2,o2+j*11+8,none⟩) hb2).trans hcy.2.2.2.2.2.2.2.2.1
   have p9:=fun m:Lt wq=>((L5 m).cell (p:=⟨b2,o2+j*11+9,none⟩) hb2).trans hcy.2.2.2.2.2.2.2.2.2.1
   have p10:=fun m:Lt wq=>((L5 m).cell (p:=⟨b2,o2+j*11+10,none⟩) hb2).trans hcy.2.2.2.2.2.2.2.2.2.2
   have q0:=fun m:Lt wq=>((LO m).cell (p:=⟨bo,oo,none⟩) hbo).trans hcx.1
   have q1:=fun m:Lt wq=>((LO m).cell (p:=⟨bo,oo+1,none⟩) hbo).trans hcx.2.1
   have q2:=fun m:Lt wq=>((LO m).cell (p:=⟨bo,oo+2,none⟩) hbo).trans hcx.2.2.1
   have q3:=fun m:Lt wq=>((LO m).cell (p:=⟨bo,oo+3,none⟩) hbo).trans hcx.2.2.2.1
   have q4:=fun m:Lt wq=>((LO m).cell (p:=⟨bo,oo+4,none⟩) hbo).trans hcx.2.2.2.2.1
   have q5:=fun m:Lt wq=>((LO m).cell (p:=⟨bo,oo+5,none⟩) hbo).trans hcx.2.2.2.2.2.1
   have q6:=fun m:Lt wq=>((LO m).cell (p:=⟨bo,oo+6,none⟩) hbo).trans hcx.2.2.2.2.2.2.1
   have q7:=fun m:Lt wq=>((LO m).cell (p:=⟨bo,oo+7,none⟩) hbo).trans hcx.2.2.2.2.2.2.2.1
   have q8:=fun m:Lt wq=>((LO m).cell (p:=⟨bo,oo+8,none⟩) hbo).trans hcx.2.2.2.2.2.2.2.2.1
   have q9:=fun m:Lt wq=>((LO m).cell (p:=⟨bo,oo+9,none⟩) hbo).trans hcx.2.2.2.2.2.2.2.2.2.1
   have q10:=fun m:Lt wq=>((LO m).cell (p:=⟨bo,oo+10,none⟩) hbo).trans hcx.2.2.2.2.2.2.2.2.2.2
   repeat (first | (refine Gd.dJ (by exact ⟨_,rfl,rfl,rfl⟩) rfl rfl ?_;simp only [Act.put,YG,YI,YH]) | (refine Gd.aC rfl fun K hK=>?_;go_big_quiet_op;refine hK _ ?_;clear hK K))
   refine Gd.bN (Gd.gR rfl) (.bool (fG day y x)) (args:=[ncV y,ncV x,.int .i64 day]) rfl rfl rfl rfl (by kernel_rfl) rfl rfl (fun m=>(HFL.out y x HSY.out HSX.out m.1 (LW m)).mono fun _ _ ⟨h1,h2⟩=>⟨h1,h2⟩) ?_
   simp only [Act.put,YG,YI,YH]
   repeat (first | (refine Gd.dJ (by exact ⟨_,rfl,rfl,rfl⟩) rfl rfl ?_;simp only [Act.put,YG,YI,YH]) | (refine Gd.aC rfl fun K hK=>?_;go_big_quiet_op;refine hK _ ?_;clear hK K))
   refine Gd.cQ (fun m=>?_)
   have Lm:=LL m
   obtain ⟨wm,hwm⟩:=m
   have Lm:Ext wr wm:=Lm
   have ZM:=ZH (ZJ.out.tr Lm)
   have HWM:=ZH (HWO.out.tr Lm)
   clear LL L5 LO LW p0 p1 p2 p3 p4 p5 p6 p7 p8 p9 p10 q0 q1 q2 q3 q4 q5 q6 q7 q8 q9 q10 hw1 X XW hcx Lm ZJ HWO
   show wpList _ _ _ _ _ _
   obtain ⟨f,hf⟩:∃ f,fG day y x=f:=⟨_,rfl⟩
   rw [hf]
   cases f
   · have HN2:Hid (∀ (i:Nat) (a:NC),i<j+1->L[i]?=some a->fG day a x=false):=ZH (by
      intro i a hi ha
      rcases Nat.lt_succ_iff_lt_or_eq.1 hi with q | q
      · exact HNO.out i a q ha
      · rw [q,HYY.out] at ha
        injection ha with ha
        rw [<- ha]
        exact hf)
     clear hf hcy
     go_wp2_with fail
     go_roundw
     case rel=>exact ⟨j+1,by omega,by go_num,ZM,HN2,HWM⟩
     case measure=>simp [intOf];omega
   · have hfs:sD day L x=some y:=FD HYY.out hf HNO.out
     have HPN:=ZH (HPI.out.ptR HLA.out hfs)
     have HSM2:Hid (smL (c::(ys++[y]))):=ZH (by
      rw [<- List.cons_append]
      exact HSM.out.app fun q hq=>by rw [List.mem_singleton.1 hq];exact HSY.out)
     have hjn:((j:Int) == (L.length:Int))=false:=by simp;omega
     have X:=ZM.out.ext
     have p0:=(X.cell (p:=⟨b2,o2+j*11,none⟩) hb2).trans hcy.1
     have p1:=(X.cell (p:=⟨b2,o2+j*11+1,none⟩) hb2).trans hcy.2.1
     have p2:=(X.cell (p:=⟨b2,o2+j*11+2,none⟩) hb2).trans hcy.2.2.1
     have p3:=(X.cell (p:=⟨b2,o2+j*11+3,none⟩) hb2).trans hcy.2.2.2.1
     have p4:=(X.cell (p:=⟨b2,o2+j*11+4,none⟩) hb2).trans hcy.2.2.2.2.1
     have p5:=(X.cell (p:=⟨b2,o2+j*11+5,none⟩) hb2).trans hcy.2.2.2.2.2.1
     have p6:=(X.cell (p:=⟨b2,o2+j*11+6,none⟩) hb2).trans hcy.2.2.2.2.2.2.1
     have p7:=(X.cell (p:=⟨b2,o2+j*11+7,none⟩) hb2).trans hcy.2.2.2.2.2.2.2.1
     have p8:=(X.cell (p:=⟨b2,o2+j*11+8,none⟩) hb2).trans hcy.2.2.2.2.2.2.2.2.1
     have p9:=(X.cell (p:=⟨b2,o2+j*11+9,none⟩) hb2).trans hcy.2.2.2.2.2.2.2.2.2.1
     have p10:=(X.cell (p:=⟨b2,o2+j*11+10,none⟩) hb2).trans hcy.2.2.2.2.2.2.2.2.2.2
     have eA:Ext wm (wm.alloc (.cells (aH y).toArray 56)):=(Below.refl _ _).alloc (YF _) _
     have HOL:=ZH (by
      have q:=(aJ.lit wm 11 (aH y).toArray 56 1 rfl (by unfold maxLen;omega)).mono X.size
      exact q:aJ (wm.alloc (.cells (aH y).toArray 56)) w5.heap.size 56 11 (.slice (some ⟨wm.heap.size,0,none⟩) 1 1) (aH y).toArray.toList)
     have HOA:=ZH (ZM.out.tr eA)
     have HB5:=ZH (show Ext w5 (wm.alloc (.cells (aH y).toArray 56)) from X.tr eA)
     unfold aH at HOL HOA HB5
     clear eA hf hcy X hfs
     go_wp2_with (refine bL (k:=11) (by decide) hF (n:=1) (m:=acc.length) (B:=w5.heap.size) HOL.out rfl HOA.out.rd (by rw [bJ]) (hC acc) HB5.out (by have:=HLB0.out;omega) (by have:=HLB0.out;unfold maxLen;omega) HB5.out.size rfl rfl rfl rfl ?_;intro A8 n8 c8 w8 hn8 o8 x8 _)
     have hn8:n8=(c::(ys++[y])).reverse.length:=by have:=hn8.out;have:=HLQ.out;simp;omega
     subst hn8
     have Z9:Hid (LsZ w5 w8 (.slice A8 (c::(ys++[y])).reverse.length c8) (c::(ys++[y])).reverse):=ZH ⟨x8,by
      have e1:aD (c::(ys++[y])).reverse=aH y++aD acc:=by rw [QM,HAC.out];simp [aD]
      rw [e1]
      exact o8,_,_,rfl⟩
     clear x8 o8 p0 p1 p2 p3 p4 p5 p6 p7 p8 p9 p10
     go_wp2_with fail
     go_roundw
     case rel=>repeat (first | exact ⟨ys++[y],y,Z9,HPN,HSM2⟩ | exact ⟨⟨ys++[y],y,Z9,HPN,HSM2⟩,rfl⟩ | refine ⟨_,?_⟩)
     case measure=>have:=HLQ.out;simp [KQ];omega
end Go.Proofs.YtkjplpmogfmhkaaGreatDoor
