/- Parts Jm Jn Jo Zf of the proof. -/
import Derived.Test.YtkjplpmogfmhkaaGreatDoorLax
import Derived.Test.YtkjplpmogfmhkaaGreatDoorLat
import Derived.BigRegion
import Derived.Deep.CutRange
namespace Go.Proofs.YtkjplpmogfmhkaaGreatDoor
open Go.RowKit
set_option linter.unusedVariables false
set_option maxRecDepth 100000
def NH (l q:List NC) (k:Nat):Prop:=q.length=l.length∧∀ p,p<l.length→q[p]?=if p<k ∨ l.length≤p+k then l[l.length - 1 - p]? else l[p]?
theorem KE (l:List NC):NH l l 0:=⟨rfl,fun p hp=>by rw [if_neg (by omega)]⟩
theorem KF {l q:List NC}{k:Nat} (h:NH l q k) (hk:l.length≤2*k+1) (hk2:2*k≤l.length):q=l.reverse:=by
 apply List.ext_getElem?
 intro p
 by_cases hp:p<l.length
 · rw [h.2 p hp,List.getElem?_reverse hp]
   split
   · rfl
   · rename_i hn
     congr 1
     omega
 · rw [List.getElem?_eq_none (by rw [h.1];omega),List.getElem?_eq_none (by rw [List.length_reverse];omega)]
theorem KG {l q:List NC}{k:Nat}{x y:NC} (h:NH l q k) (hk:2*k+1<l.length) (hx:q[k]?=some x) (hy:q[l.length - 1 - k]?=some y):NH l ((q.set k y).set (l.length - 1 - k) x) (k+1):=by
 refine ⟨by simp [h.1],fun p hp=>?_⟩
 have hxl:=h.2 k (by omega)
 rw [hx,if_neg (by omega)] at hxl
 have hyl:=h.2 (l.length - 1 - k) (by omega)
 rw [hy,if_neg (by omega)] at hyl
 rw [List.getElem?_set,List.getElem?_set]
 by_cases e1:l.length - 1 - k=p
 · subst e1
   rw [if_pos rfl,if_pos (by rw [List.length_set,h.1];omega),if_pos (by omega),show l.length - 1 - (l.length - 1 - k)=k by omega,hxl]
 · rw [if_neg e1]
   by_cases e2:k=p
   · subst e2
     rw [if_pos rfl,if_pos (by rw [h.1];omega),if_pos (by omega),hyl]
   · rw [if_neg e2,h.2 p hp]
     by_cases e3:p<k ∨ l.length≤p+k
     · rw [if_pos e3,if_pos (by omega)]
     · rw [if_neg e3,if_neg (by omega)]
theorem rM (w:World) (g:Nat) {cur:List Value}{p:List NC}{rest:List Value}{T:TypeId}{fr:Nat × Nat} (h:w.heap[g]?=some (.cells cur.toArray T fr)) (hc:cur=aA p++rest) (i:Nat) (hi:i<p.length) (x:NC) :
 (rH w g (i*11) (aF x)).heap[g]?=some (.cells (aA (p.set i x)++rest).toArray T fr):=by
 have e:p=p.take i++[p[i]]++p.drop (i+1):=by
  rw [VF,List.singleton_append,← List.drop_eq_getElem_cons hi,List.take_append_drop]
 have e2:p.set i x=p.take i++[x]++p.drop (i+1):=by
  rw [List.set_eq_take_append_cons_drop,if_pos hi,VF]
  rfl
 have hl:(aA (p.take i)).length=i*11:=by rw [bF,VL,Nat.min_eq_left (Nat.le_of_lt hi)]
 have one:∀ y,aA [y]=aF y:=fun y=>by simp [aA]
 have h':w.heap[g]?=some (.cells (aA (p.take i)++aF p[i]++(aA (p.drop (i+1))++rest)).toArray T fr):=by
  rw [h,hc]
  congr 3
  conv=>lhs;rw [e,← jI,← jI,one]
  simp only [VF]
 have h2:=jZ (aF x) (aA (p.take i)) (aA (p.drop (i+1))++rest) w g (aF p[i]) T fr h' rfl
 rw [hl] at h2
 rw [h2,e2,← jI,← jI,one]
 simp only [VF]
theorem mY {w:World}{g B:Nat} (hB:B≤g):∀ (vs:List Value) (i:Nat) (w':World),Below B w w'→Below B w (rH w' g i vs)
 | [],i,w',h=>h
 | v::vs,i,w',h=>mY hB vs (i+1) _ (h.setCell (p:=⟨g,i,none⟩) hB v)
theorem NI {w:World}{B g n c:Nat}{cur:Array Value}{q:List NC}{x y:NC}{i k:Nat} (hB:B≤g) (hg:w.heap[g]?=some (.cells cur 56 (0,0))) (hcur:cur.toList.take (n*11)=aA q) (hs:cur.size=c*11) (hq:q.length=n) (hi:i<n) (hk:k<n) (hc:n≤c) (hm:c≤maxLen) :
 aJ (rH (rH w g (i*11) (aF y)) g (k*11) (aF x)).drew B 56 11 (.slice (some ⟨g,0,none⟩) n c) (aA ((q.set i y).set k x)):=by
 have hcc:cur.toList=aA q++cur.toList.drop (n*11):=by rw [← hcur,List.take_append_drop]
 have h1:w.heap[g]?=some (.cells (aA q++cur.toList.drop (n*11)).toArray 56 (0,0)):=by rw [hg,← hcc,Array.toArray_toList]
 have h2:=rM w g h1 rfl i (by rw [hq];exact hi) y
 have h3:=rM (rH w g (i*11) (aF y)) g h2 rfl k (by rw [List.length_set,hq];exact hk) x
 have hl:((q.set i y).set k x).length=n:=by rw [List.length_set,List.length_set,hq]
 generalize rH (rH w g (i*11) (aF y)) g (k*11) (aF x)=W at *
 generalize (q.set i y).set k x=qs at *
 have hls:(aA qs).length=n*11:=by rw [bF,hl]
 have hlc:n*11≤c*11:=Nat.mul_le_mul_right _ hc
 refine ⟨_,n,c,rfl,hls.symm,.inr ⟨g,_,rfl,hB,h3,hc,hm,?_,?_⟩⟩
 · rw [List.size_toArray,V5,hls,List.length_drop,Array.length_toList,hs]
   omega
 · show (aA qs++_).take _=_
   rw [← hls]
   exact List.take_left
set_option maxHeartbeats 8000000 in
theorem DB {B:Nat}{A:Option Addr}{c:Nat}{l:List NC} (w:World) (h:aJ w B 56 11 (.slice A l.length c) (aA l)) (hl:1≤l.length) (hl2:l.length≤1000000) :
 Calls Tryz.prog 120 #[.slice A l.length c] w fun e w'=>Below B w w'∧e=.returned (.tuple #[])∧aJ w' B 56 11 (.slice A l.length c) (aA l.reverse):=by
 obtain ⟨g,rfl,hB⟩:∃ g,A=some ⟨g,0,none⟩∧B≤g:=by
  obtain ⟨A',n',c',e9,hn,hcase⟩:=h
  injection e9 with e1 e2 e3
  rcases hcase with ⟨h0,_⟩ | ⟨g,cur,hA,hB,_⟩
  · omega
  · exact ⟨g,by rw [e1,hA],hB⟩
 have HB:=VR hB
 have H0:=VR h
 clear h hB
 go_enter Tryz.func120,Tryz.ntmps120
 have w0:IntKind.i64.wrap ((l.length:Int) - 1)=(l.length:Int) - 1:=IntWalk.i64_in _ (by omega)
 go_wp2_with fail
 go_loopw [2,3] (fun i j wr=>∃ (k:Nat) (q:List NC),2*k≤l.length∧i=.int .i64 (k:Int)∧j=.int .i64 ((l.length:Int) - 1 - (k:Int))∧Hid (NH l q k)∧Hid (aJ wr B 56 11 (.slice (some ⟨g,0,none⟩) l.length c) (aA q))∧Hid (Below B w wr)) (fun i _ _=>l.length - (intOf i).toNat)
 case atStart=>exact ⟨0,l,by omega,rfl,by simp,VR (KE l),H0,VR (Below.refl _ _)⟩
 case round =>
  clear H0
  obtain ⟨k,q,hk,rfl,rfl,HR,HO,HX⟩:=hrel
  by_cases hlt:2*k+1<l.length
  case neg =>
   have hc:¬ (k:Int)<(l.length:Int) - 1 - (k:Int):=by omega
   have HF:=VR (KF HR.out (by omega) hk)
   clear hlt
   go_wp2_with fail
   refine bodyPost_end (v:=.tuple #[]) ?_ rfl ⟨HX.out,rfl,by have:=HO.out;rw [HF.out] at this;exact this⟩
   simp [results,Tryz.results120,go_sem]
  case pos =>
  have hc:(k:Int)<(l.length:Int) - 1 - (k:Int):=by omega
  obtain ⟨j,hj⟩:∃ j:Nat,j=l.length - 1 - k:=⟨_,rfl⟩
  have hji:(l.length:Int) - 1 - (k:Int)=(j:Int):=by omega
  have hjl:j<l.length:=by omega
  have hkj:k<j:=by omega
  have HJ:=VR hj
  clear hj
  rw [hji] at hc ⊢
  obtain ⟨x,hx⟩:∃ x,q[k]?=some x:=⟨_,V8 (by rw [HR.out.1];omega)⟩
  obtain ⟨y,hy⟩:∃ y,q[j]?=some y:=⟨_,V8 (by rw [HR.out.1];omega)⟩
  obtain ⟨Aq,nq,cq,e9,hnq,hrow⟩:=HO.out
  injection e9 with e1 e2 e3
  subst e2 e3
  rcases hrow with ⟨h0,_⟩ | ⟨g',cur,hA,hge,hg,hnc,hcm,hcs,htk⟩
  · exfalso;omega
  rw [← e1] at hA
  injection hA with hA
  injection hA with hA
  subst hA
  have HRQ:=VR (HO.out.rd:RdN wr _ q)
  obtain ⟨Ar,nr,cr,e9,hnr,_,_,hcl⟩:=RdN.at_ HRQ.out
  injection e9 with e4 e5 e6
  subst e5 e6
  obtain ⟨br,o0,e7,hbl,hcl⟩:=hcl (by omega)
  rw [← e4] at e7
  injection e7 with e7
  injection e7 with e8 e10 e11
  subst e8 e10
  obtain ⟨x0,x1,x2,x3,x4,x5,x6,x7,x8,x9,x10⟩:=hcl k x hx
  obtain ⟨y0,y1,y2,y3,y4,y5,y6,y7,y8,y9,y10⟩:=hcl j y hy
  simp only [VB] at x0 x1 x2 x3 x4 x5 x6 x7 x8 x9 x10 y0 y1 y2 y3 y4 y5 y6 y7 y8 y9 y10
  have hfz:∀ j,wr.frozen? ⟨g,j,none⟩=false:=fun j=>by simp [World.frozen?,hg]
  have gl:g<wr.heap.size:=hbl
  have HCU:=VR (And.intro hg (And.intro htk (And.intro hcs (And.intro hx (And.intro hy (And.intro hnc hcm))))))
  unfold maxLen at hcm
  clear hg hge hx hy hcs htk hcl e1 e4 e11 hnr hnq
  have h9:k*11+11≤j*11:=by omega
  have wi1:IntKind.i64.wrap ((k:Int))=(k:Int):=IntWalk.i64_in _ (by omega)
  have zi1:(0:Int)≤(k:Int):=by omega
  have li1:(k:Int)<(l.length:Int):=by omega
  have ti1:((k:Int)).toNat=k:=by omega
  have wi2:IntKind.i64.wrap ((j:Int))=(j:Int):=IntWalk.i64_in _ (by omega)
  have zi2:(0:Int)≤(j:Int):=by omega
  have li2:(j:Int)<(l.length:Int):=by omega
  have ti2:((j:Int)).toNat=j:=by omega
  have wk:IntKind.i64.wrap ((k:Int)+1)=(k:Int)+1:=IntWalk.i64_in _ (by omega)
  have wj:IntKind.i64.wrap ((j:Int) - 1)=(j:Int) - 1:=IntWalk.i64_in _ (by omega)
  go_upto_region 3 with fail
  obtain ⟨wc,hwc⟩:∃ wc,wc=((((((((((((((((((((((wr.setCell ⟨g,k*11,none⟩ (.string (aI y.st))).setCell ⟨g,k*11+1,none⟩ (.int .i64 y.kind)).setCell ⟨g,k*11+2,none⟩ (.int .i64 y.num)).setCell ⟨g,k*11+3,none⟩ (.int .i64 y.iss)).setCell ⟨g,k*11+4,none⟩ (.int .i64 y.own)).setCell ⟨g,k*11+5,none⟩ (.int .i64 y.key)).setCell ⟨g,k*11+6,none⟩ (.int .i64 y.fr)).setCell ⟨g,k*11+7,none⟩ (.int .i64 y.un)).setCell ⟨g,k*11+8,none⟩ (.int .i64 y.to)).setCell ⟨g,k*11+9,none⟩ (.int .i64 y.e)).setCell ⟨g,k*11+10,none⟩ (.int .i64 y.s)).setCell ⟨g,j*11,none⟩ (.string (aI x.st))).setCell ⟨g,j*11+1,none⟩ (.int .i64 x.kind)).setCell ⟨g,j*11+2,none⟩ (.int .i64 x.num)).setCell ⟨g,j*11+3,none⟩ (.int .i64 x.iss)).setCell ⟨g,j*11+4,none⟩ (.int .i64 x.own)).setCell ⟨g,j*11+5,none⟩ (.int .i64 x.key)).setCell ⟨g,j*11+6,none⟩ (.int .i64 x.fr)).setCell ⟨g,j*11+7,none⟩ (.int .i64 x.un)).setCell ⟨g,j*11+8,none⟩ (.int .i64 x.to)).setCell ⟨g,j*11+9,none⟩ (.int .i64 x.e)).setCell ⟨g,j*11+10,none⟩ (.int .i64 x.s)).drew:=⟨_,rfl⟩
  have hcut:wc=(rH (rH wr g (k*11) (aF y)) g (j*11) (aF x)).drew:=hwc
  go_region
  rw [← hwc]
  clear hwc
  obtain ⟨hg,htk,hcs,hx,hy,hnc',hcm'⟩:=HCU.out
  have HRN:=VR (KG HR.out hlt hx (by rw [← HJ.out];exact hy))
  have HON:Hid (aJ wc B 56 11 (.slice (some ⟨g,0,none⟩) l.length c) (aA ((q.set k y).set (l.length - 1 - k) x))):=VR (by
   rw [hcut,← HJ.out]
   exact NI HB.out hg htk hcs HR.out.1 (by omega) (by omega) hnc' hcm')
  have HXN:Hid (Below B w wc):=VR (by
   rw [hcut]
   exact (mY HB.out _ _ _ (mY HB.out _ _ _ HX.out)).drew)
  have hk2:2*(k+1)≤l.length:=by omega
  have hjj:=VR (show (j:Int)=(l.length:Int) - 1 - (k:Int) by have:=HJ.out;omega)
  clear hg htk hcs hx hy hnc' hcm' hcut x0 x1 x2 x3 x4 x5 x6 x7 x8 x9 x10 y0 y1 y2 y3 y4 y5 y6 y7 y8 y9 y10 hfz gl hbl HCU HRQ HO HX HR hc
  go_wp2_with fail
  go_roundw
  case rel=>exact ⟨k+1,_,hk2,by go_num,by have:=hjj.out;congr 1;omega,HRN,HON,HXN⟩
  case measure=>simp [intOf];omega
theorem wB {α:Type}{p:α→Bool}:∀ {l:List α}{k:Nat}{y:α},l[k]?=some y→p y=true→(∀ (j:Nat) (a:α),j<k→l[j]?=some a→p a=false)→l.find? p=some y
 | [],k,y,h,_,_=>by simp at h
 | a::l,0,y,h,hp,_=>by
   have h:a=y:=by simpa using h
   rw [h,List.find?_cons_of_pos hp]
 | a::l,k+1,y,h,hp,hn=>by
   rw [List.find?_cons_of_neg (by rw [hn 0 a (Nat.zero_lt_succ _) rfl];simp)]
   exact wB (k:=k) (by simpa using h) hp fun j b hj hb=>hn (j+1) b (Nat.succ_lt_succ hj) (by simpa using hb)
theorem QA {day:Int}{L:List NC}{x:NC}:(mC day L x<0∧lH day L x=none) ∨ ∃ (i:Nat) (y:NC),mC day L x=(i:Int)∧L[i]?=some y∧lH day L x=some y:=by
 by_cases h:(L.any fun a=>eM day a x)=true
 · right
   have e:mC day L x=((L.findIdx fun a=>eM day a x:Nat):Int):=if_pos h
   obtain ⟨a,ha,hf⟩:=List.any_eq_true.1 h
   have hlt:(L.findIdx fun a=>eM day a x)<L.length:=List.findIdx_lt_length_of_exists ⟨a,ha,hf⟩
   refine ⟨_,L[L.findIdx fun a=>eM day a x],e,V8 hlt,wB (V8 hlt) (List.findIdx_getElem (w:=hlt)) fun j b hj hb=>?_⟩
   obtain ⟨hj2,rfl⟩:=List.getElem?_eq_some_iff.1 hb
   have:=List.not_of_lt_findIdx hj
   simpa using this
 · left
   have e:mC day L x=-1:=if_neg h
   refine ⟨by rw [e];decide,List.find?_eq_none.2 fun a ha hf=>h (List.any_eq_true.2 ⟨a,ha,hf⟩)⟩
open Classical in
noncomputable def npK (roots pool:List NC) (c:NC) (day:Int):Int :=
 if onN c day≠0 then onN c day else if c.kind=1 then 61 else if 32<dK roots c.st ∨ 32<dK pool c.st then 72 else if iZ day (dB roots pool c.st day) c=none then 66 else 0
noncomputable def npL (roots pool:List NC) (c:NC) (day:Int):List NC:=if npK roots pool c day=0 then (iZ day (dB roots pool c.st day) c).getD [] else []
section
variable {roots pool:List NC}{c:NC}{day:Int}
theorem NJ (h:onN c day≠0):npK roots pool c day=onN c day∧npL roots pool c day=[]:=by
 have e:npK roots pool c day=onN c day:=if_pos h
 exact ⟨e,by unfold npL;rw [if_neg (by rw [e];exact h)]⟩
theorem DC (h:onN c day=0) (h1:c.kind=1):npK roots pool c day=61∧npL roots pool c day=[]:=by
 have e:npK roots pool c day=61:=by unfold npK;rw [if_neg (not_not_intro h),if_pos h1]
 exact ⟨e,by unfold npL;rw [if_neg (by rw [e];decide)]⟩
theorem qG (h:onN c day=0) (h1:c.kind≠1) (h2:32<dK roots c.st ∨ 32<dK pool c.st):npK roots pool c day=72∧npL roots pool c day=[]:=by
 have e:npK roots pool c day=72:=by unfold npK;rw [if_neg (not_not_intro h),if_neg h1,if_pos h2]
 exact ⟨e,by unfold npL;rw [if_neg (by rw [e];decide)]⟩
theorem wC (h:onN c day=0) (h1:c.kind≠1) (h2:¬ (32<dK roots c.st ∨ 32<dK pool c.st)) (h3:iZ day (dB roots pool c.st day) c=none):npK roots pool c day=66∧npL roots pool c day=[]:=by
 have e:npK roots pool c day=66:=by unfold npK;rw [if_neg (not_not_intro h),if_neg h1,if_neg h2,if_pos h3]
 exact ⟨e,by unfold npL;rw [if_neg (by rw [e];decide)]⟩
theorem wD (h:onN c day=0) (h1:c.kind≠1) (h2:¬ (32<dK roots c.st ∨ 32<dK pool c.st)) {p:List NC} (h3:iZ day (dB roots pool c.st day) c=some p):npK roots pool c day=0∧npL roots pool c day=p:=by
 have e:npK roots pool c day=0:=by unfold npK;rw [if_neg (not_not_intro h),if_neg h1,if_neg h2,if_neg (by rw [h3];simp)]
 exact ⟨e,by unfold npL;rw [if_pos e,h3];rfl⟩
end
structure PtI (day:Int) (L:List NC) (c:NC) (ys:List NC) (x:NC):Prop where
 last:(c::ys).getLast?=some x
 back:∀ b,BkN day L x b→BkN day L c (ys++b)
 idx:ys=[] ∨ (x ∈ L∧x.kind≠1∧L.idxOf x+ys.length≤L.length)
theorem DD (day:Int) (L:List NC) (c:NC):PtI day L c [] c:=⟨rfl,fun b h=>h,.inl rfl⟩
theorem PtI.none {day:Int}{L ys:List NC}{c x:NC} (h:PtI day L c ys x) (hl:Lad day L) (hf:lH day L x=none):iZ day L c=none:=by
 rcases h.idx with h0 | ⟨h1,h2,_⟩
 · subst h0
   have:=h.last
   have:c=x:=by simpa using this
   subst this
   exact vH hf
 · obtain ⟨z,hz,_⟩:=hl x h1 h2
   rw [hf] at hz
   cases hz
theorem PtI.root {day:Int}{L ys:List NC}{c x y:NC} (h:PtI day L c ys x) (hf:lH day L x=some y) (hk:y.kind=1):iZ day L c=some ((c::(ys++[y])).reverse):=CD (h.back [y] (.root hf hk))
theorem PtI.step {day:Int}{L ys:List NC}{c x y:NC} (h:PtI day L c ys x) (hl:Lad day L) (hf:lH day L x=some y) (hk:y.kind≠1):PtI day L c (ys++[y]) y:=by
 have hy:=mQ hf
 refine ⟨by rw [← List.cons_append,List.getLast?_append];rfl,fun b hb=>by rw [VF];exact h.back (y::b) (.step hf hk hb),.inr ⟨hy.1,hk,?_⟩⟩
 rw [V5]
 simp only [VC,VA]
 rcases h.idx with h0 | ⟨h1,h2,h3⟩
 · subst h0
   have:=F3 hy.1
   simp only [VA]
   omega
 · obtain ⟨z,hz,hlt⟩:=hl x h1 h2
   rw [hf] at hz
   injection hz with hz
   subst hz
   omega
theorem PtI.len {day:Int}{L ys:List NC}{c x:NC} (h:PtI day L c ys x):ys.length≤L.length:=by
 rcases h.idx with h0 | ⟨_,_,h3⟩
 · rw [h0];exact V7 _
 · omega
def SC (w:World) (l:List NC) (k:Int) (e:Ending) (w':World):Prop:=Ext w w'∧∃ (A:Option Addr) (cp:Nat),e=.returned (.tuple #[.slice A l.length cp,.int .i64 k])∧RdN w' (.slice A l.length cp) l
theorem gK {w w':World}{l:List NC}{k k':Int} (e:Ext w w') (h1:k=k') (h2:l=[]):SC w l k (.returned (.tuple #[.slice none 0 0,.int .i64 k'])) w':=by
 subst h1 h2
 exact ⟨e,none,0,rfl,RdN.nil_ _ _⟩
set_option maxHeartbeats 8000000 in
theorem KH {v1 v2:Value}{roots pool:List NC} (c:NC) (day:Int) (w:World) (h1:RdN w v1 roots) (h2:RdN w v2 pool) (hs1:smL roots) (hs2:smL pool) (hc:smN c) (hl:roots.length+pool.length≤900000) (E:dI w 1) :
 Calls Tryz.prog 34 #[v1,v2,ncV c,.int .i64 day] w (SC w (npL roots pool c day) (npK roots pool c day)):=by
 have HON:=VR (fun W=>gO c day W hc)
 have HN1:=VR (fun W (e:Ext w W)=>sL c.st W (RdK.ext h1 e))
 have HN2:=VR (fun W (e:Ext w W)=>sL c.st W (RdK.ext h2 e))
 have HFI:=VR (fun W (e:Ext w W)=>MZ c.st day W (RdK.ext h1 e) (RdK.ext h2 e) hs1 hs2 hl (E.below e))
 have HBE:=VR (fun (B S:Nat) (v1 v2:Value) (L:List NC) (R:List Int) (x:NC) (n:Nat) (W:World) (e:Ext w W) (hS:gV W B S day v1 v2 L R) (hn:n≤L.length) (hl:L.length≤1000000) (hR:Srt R) (hs:smL L) (hx:smN x)=>vN x n W hS hn hl hR hs hx (E.below e))
 have HSC:=VR hc
 obtain ⟨wz,hwz,ez,TZ⟩:=cC w c
 obtain ⟨rk,hrk⟩:∃ r,npK roots pool c day=r:=⟨_,rfl⟩
 obtain ⟨rl,hrl⟩:∃ r,npL roots pool c day=r:=⟨_,rfl⟩
 rw [hrk,hrl]
 have HK1:=VR hrk
 have HK2:=VR hrl
 unfold ncV
 clear hrk hrl h1 h2 hs1 hs2 hc E
 go_enter Tryz.func34,Tryz.ntmps34
 go_upto_region 1 with fail
 rw [← hwz]
 clear hwz
 obtain ⟨p0,p1,p2,p3,p4,p5,p6,p7,p8,p9,p10⟩:=(TZ).cells
 have pf0:=(TZ).frozen 0
 have pf1:=(TZ).frozen 1
 have pf2:=(TZ).frozen 2
 have pf3:=(TZ).frozen 3
 have pf4:=(TZ).frozen 4
 have pf5:=(TZ).frozen 5
 have pf6:=(TZ).frozen 6
 have pf7:=(TZ).frozen 7
 have pf8:=(TZ).frozen 8
 have pf9:=(TZ).frozen 9
 have pf10:=(TZ).frozen 10
 have pl:=(TZ).lt
 go_wp2_with fail
 refine (HON.out _).mono ?_
 rintro e w2 ⟨rfl,b2⟩
 have T2:=TZ.ext b2
 have X2:=VR (ez.tr b2)
 clear p0 pf0 p1 pf1 p2 pf2 p3 pf3 p4 pf4 p5 pf5 p6 pf6 p7 pf7 p8 pf8 p9 pf9 p10 pf10 pl
 clear TZ ez b2
 by_cases o1:onN c day=0
 case neg =>
  have hb:(onN c day != 0)=true:=by simpa using o1
  have HN:=VR (by have q:=NJ (roots:=roots) (pool:=pool) o1;rw [HK1.out,HK2.out] at q;exact q:rk=onN c day∧rl=[])
  clear o1 T2
  go_wp2_with fail
  refine bodyPost_ret (results_tmp2 rfl _ _ _) rfl ?_
  exact gK X2.out HN.out.1 HN.out.2
 have hb:(onN c day != 0)=false:=by simp [o1]
 have O1:=VR o1
 clear o1
 obtain ⟨p0,p1,p2,p3,p4,p5,p6,p7,p8,p9,p10⟩:=(T2).cells
 have pf0:=(T2).frozen 0
 have pf1:=(T2).frozen 1
 have pf2:=(T2).frozen 2
 have pf3:=(T2).frozen 3
 have pf4:=(T2).frozen 4
 have pf5:=(T2).frozen 5
 have pf6:=(T2).frozen 6
 have pf7:=(T2).frozen 7
 have pf8:=(T2).frozen 8
 have pf9:=(T2).frozen 9
 have pf10:=(T2).frozen 10
 have pl:=(T2).lt
 by_cases o2:c.kind=1
 · have hb2:(c.kind == 1)=true:=by simpa using o2
   have HN:=VR (by have q:=DC (roots:=roots) (pool:=pool) O1.out o2;rw [HK1.out,HK2.out] at q;exact q:rk=61∧rl=[])
   clear o2
   go_wp2_with fail
   refine bodyPost_ret (results_tmp2 rfl _ _ _) rfl ?_
   exact gK X2.out HN.out.1 HN.out.2
 have hb2:(c.kind == 1)=false:=by simpa using o2
 have O2:=VR o2
 clear o2
 go_wp2_with fail
 refine (HN1.out _ X2.out).mono ?_
 rintro e w3 ⟨rfl,b3⟩
 have T3:=T2.ext b3
 have X3:=VR (X2.out.tr b3)
 clear p0 pf0 p1 pf1 p2 pf2 p3 pf3 p4 pf4 p5 pf5 p6 pf6 p7 pf7 p8 pf8 p9 pf9 p10 pf10 pl
 clear T2 X2 b3
 by_cases o3:32<dK roots c.st
 · have hb3:(32:Int)<(dK roots c.st:Int):=by omega
   have HN:=VR (by have q:=qG (roots:=roots) (pool:=pool) O1.out O2.out (.inl o3);rw [HK1.out,HK2.out] at q;exact q:rk=72∧rl=[])
   clear o3
   generalize (dK roots c.st:Int)=z at *
   go_wp2_with fail
   refine bodyPost_ret (results_tmp2 rfl _ _ _) rfl ?_
   exact gK X3.out HN.out.1 HN.out.2
 have hb3:¬ (32:Int)<(dK roots c.st:Int):=by omega
 have O3:=VR o3
 clear o3
 generalize (dK roots c.st:Int)=z1 at *
 obtain ⟨p0,p1,p2,p3,p4,p5,p6,p7,p8,p9,p10⟩:=(T3).cells
 have pf0:=(T3).frozen 0
 have pf1:=(T3).frozen 1
 have pf2:=(T3).frozen 2
 have pf3:=(T3).frozen 3
 have pf4:=(T3).frozen 4
 have pf5:=(T3).frozen 5
 have pf6:=(T3).frozen 6
 have pf7:=(T3).frozen 7
 have pf8:=(T3).frozen 8
 have pf9:=(T3).frozen 9
 have pf10:=(T3).frozen 10
 have pl:=(T3).lt
 go_wp2_with fail
 refine (HN2.out _ X3.out).mono ?_
 rintro e w4 ⟨rfl,b4⟩
 have T4:=T3.ext b4
 have X4:=VR (X3.out.tr b4)
 clear p0 pf0 p1 pf1 p2 pf2 p3 pf3 p4 pf4 p5 pf5 p6 pf6 p7 pf7 p8 pf8 p9 pf9 p10 pf10 pl
 clear T3 X3 b4
 by_cases o4:32<dK pool c.st
 · have hb4:(32:Int)<(dK pool c.st:Int):=by omega
   have HN:=VR (by have q:=qG (roots:=roots) (pool:=pool) O1.out O2.out (.inr o4);rw [HK1.out,HK2.out] at q;exact q:rk=72∧rl=[])
   clear o4
   generalize (dK pool c.st:Int)=z at *
   go_wp2_with fail
   refine bodyPost_ret (results_tmp2 rfl _ _ _) rfl ?_
   exact gK X4.out HN.out.1 HN.out.2
 have hb4:¬ (32:Int)<(dK pool c.st:Int):=by omega
 have O4:=VR (show ¬ (32<dK roots c.st ∨ 32<dK pool c.st) from fun q=>q.elim O3.out o4)
 clear o4 O3
 generalize (dK pool c.st:Int)=z2 at *
 obtain ⟨p0,p1,p2,p3,p4,p5,p6,p7,p8,p9,p10⟩:=(T4).cells
 have pf0:=(T4).frozen 0
 have pf1:=(T4).frozen 1
 have pf2:=(T4).frozen 2
 have pf3:=(T4).frozen 3
 have pf4:=(T4).frozen 4
 have pf5:=(T4).frozen 5
 have pf6:=(T4).frozen 6
 have pf7:=(T4).frozen 7
 have pf8:=(T4).frozen 8
 have pf9:=(T4).frozen 9
 have pf10:=(T4).frozen 10
 have pl:=(T4).lt
 have HLA:=VR (rF roots pool c.st day)
 have HFX:=VR (HFI.out w4 X4.out)
 clear HFI
 go_wp2_with fail
 refine HFX.out.mono ?_
 rintro e w5 ⟨x5,S,u1,u2,R,rfl,hS,zs,rd,hI⟩
 have T5:=T4.ext x5
 have X5:=VR (X4.out.tr x5)
 obtain ⟨B1,d1,B2,d2,rfl,rfl,hd1,hd2,hm1,hm2⟩:=zs.forms
 have HZS:=VR zs
 have HIF:=VR hI
 have HK9:=VR (fun (p:List NC) (h:iZ day (dB roots pool c.st day) c=some p)=>(by have q:=wD (roots:=roots) (pool:=pool) O1.out O2.out O4.out h;rw [HK1.out,HK2.out] at q;exact q:rk=0∧rl=p))
 have HK8:=VR (fun (h:iZ day (dB roots pool c.st day) c=none)=>(by have q:=wC (roots:=roots) (pool:=pool) O1.out O2.out O4.out h;rw [HK1.out,HK2.out] at q;exact q:rk=66∧rl=[]))
 have HLB:=VR (show (dB roots pool c.st day).length≤900000 by have:=hI.bd;omega)
 clear p0 pf0 p1 pf1 p2 pf2 p3 pf3 p4 pf4 p5 pf5 p6 pf6 p7 pf7 p8 pf8 p9 pf9 p10 pf10 pl
 clear T4 X4 zs hI x5 hS HFX HK1 HK2 O4
 unfold maxLen at hm1 hm2
 generalize dB roots pool c.st day=L at *
 obtain ⟨p0,p1,p2,p3,p4,p5,p6,p7,p8,p9,p10⟩:=(T5).cells
 have pf0:=(T5).frozen 0
 have pf1:=(T5).frozen 1
 have pf2:=(T5).frozen 2
 have pf3:=(T5).frozen 3
 have pf4:=(T5).frozen 4
 have pf5:=(T5).frozen 5
 have pf6:=(T5).frozen 6
 have pf7:=(T5).frozen 7
 have pf8:=(T5).frozen 8
 have pf9:=(T5).frozen 9
 have pf10:=(T5).frozen 10
 have pl:=(T5).lt
 obtain ⟨wl,hwl⟩:∃ wl,wl=w5.alloc (.cells #[.string (aI c.st),.int .i64 c.kind,.int .i64 c.num,.int .i64 c.iss,.int .i64 c.own,.int .i64 c.key,.int .i64 c.fr,.int .i64 c.un,.int .i64 c.to,.int .i64 c.e,.int .i64 c.s] 56):=⟨_,rfl⟩
 have el:Ext w5 wl:=by rw [hwl];exact (Below.refl _ _).alloc (UX _) _
 have ZL:Hid (LsZ w5 wl (.slice (some ⟨w5.heap.size,0,none⟩) [c].length 1) [c]):=VR ⟨el,by
  rw [hwl]
  have:=aJ.lit w5 11 (aF c).toArray 56 1 rfl (by unfold maxLen;omega)
  have e1:(aF c).toArray.toList=aA [c]:=by simp [aA]
  rw [e1] at this
  exact this,_,_,rfl⟩
 have HP0:=VR (DD day L c)
 go_wp2_with fail
 rw [← hwl]
 clear hwl el
 clear p0 pf0 p1 pf1 p2 pf2 p3 pf3 p4 pf4 p5 pf5 p6 pf6 p7 pf7 p8 pf8 p9 pf9 p10 pf10 pl
 clear T5
 go_loopw [12] (fun out wr=>∃ (ys:List NC) (x:NC),Hid (LsZ w5 wr out (c::ys))∧Hid (PtI day L c ys x)∧Hid (smL (c::ys))) (fun out _=>L.length+2 - yD out)
 case atStart=>exact ⟨[],c,ZL,HP0,VR (fun q hq=>by rw [List.mem_singleton.1 hq];exact HSC.out)⟩
 case round =>
  clear ZL HP0
  obtain ⟨ys,x,Z,HP,HSM⟩:=hrel
  obtain ⟨Ao,co,rfl⟩:=Z.out.form
  have hyl:=HP.out.len
  have HZ5:=VR (HZS.out.ext Z.out.ext)
  have hXW:=Z.out.ext
  have hlx:=HP.out.last
  have hx:(c::ys)[(c::ys).length - 1]?=some x:=by rw [← List.getLast?_eq_getElem?];exact hlx
  have HSX:=VR (HSM.out x (VD hx))
  obtain ⟨Ar,nr,cr,e9,hnr,_,hcr,hcl⟩:=RdN.at_ Z.out.rd
  injection e9 with e1 e2 e3
  subst e1 e2 e3
  clear hnr
  obtain ⟨bo,oo,rfl,hbo,hcl⟩:=hcl (by simp)
  have hcx:=hcl _ x hx
  clear hcl hx hlx
  generalize hacc:(c::ys).length=la at *
  have hla:la=ys.length+1:=by rw [← hacc];rfl
  have hla1:1≤la:=by omega
  have hlaL:la≤L.length+1:=by omega
  have HLQ:=VR hla
  clear hla
  have HLA2:=VR hacc
  clear hacc
  unfold maxLen at hcr
  have wi1:IntKind.i64.wrap ((la:Int) - 1)=(la:Int) - 1:=IntWalk.i64_in _ (by omega)
  have zi1:(0:Int)≤(la:Int) - 1:=by omega
  have li1:(la:Int) - 1<(la:Int):=by omega
  have ti1:((la:Int) - 1).toNat=la - 1:=by omega
  go_upto_region 10 with fail
  refine Gd.aO 14 (by kernel_rfl) (by kernel_rfl) ?_
  simp only [VH,VE,VI,VJ]
  intro wq hw1
  have LL:∀ m:Lt wq,Ext wr m.1:=fun m=>hw1.tr m.2
  have L5:∀ m:Lt wq,Ext w5 m.1:=fun m=>hXW.tr (LL m)
  have LW:∀ m:Lt wq,Ext w m.1:=fun m=>X5.out.tr (L5 m)
  have s0:=fun m:Lt wq=>(HZ5.out.ext (LL m)).cells.1
  have s1:=fun m:Lt wq=>(HZ5.out.ext (LL m)).cells.2.1
  have s2:=fun m:Lt wq=>(HZ5.out.ext (LL m)).cells.2.2
  have q0:=fun m:Lt wq=>((LL m).cell (p:=⟨bo,oo+(la - 1)*11,none⟩) hbo).trans hcx.1
  have q1:=fun m:Lt wq=>((LL m).cell (p:=⟨bo,oo+(la - 1)*11+1,none⟩) hbo).trans hcx.2.1
  have q2:=fun m:Lt wq=>((LL m).cell (p:=⟨bo,oo+(la - 1)*11+2,none⟩) hbo).trans hcx.2.2.1
  have q3:=fun m:Lt wq=>((LL m).cell (p:=⟨bo,oo+(la - 1)*11+3,none⟩) hbo).trans hcx.2.2.2.1
  have q4:=fun m:Lt wq=>((LL m).cell (p:=⟨bo,oo+(la - 1)*11+4,none⟩) hbo).trans hcx.2.2.2.2.1
  have q5:=fun m:Lt wq=>((LL m).cell (p:=⟨bo,oo+(la - 1)*11+5,none⟩) hbo).trans hcx.2.2.2.2.2.1
  have q6:=fun m:Lt wq=>((LL m).cell (p:=⟨bo,oo+(la - 1)*11+6,none⟩) hbo).trans hcx.2.2.2.2.2.2.1
  have q7:=fun m:Lt wq=>((LL m).cell (p:=⟨bo,oo+(la - 1)*11+7,none⟩) hbo).trans hcx.2.2.2.2.2.2.2.1
  have q8:=fun m:Lt wq=>((LL m).cell (p:=⟨bo,oo+(la - 1)*11+8,none⟩) hbo).trans hcx.2.2.2.2.2.2.2.2.1
  have q9:=fun m:Lt wq=>((LL m).cell (p:=⟨bo,oo+(la - 1)*11+9,none⟩) hbo).trans hcx.2.2.2.2.2.2.2.2.2.1
  have q10:=fun m:Lt wq=>((LL m).cell (p:=⟨bo,oo+(la - 1)*11+10,none⟩) hbo).trans hcx.2.2.2.2.2.2.2.2.2.2
  repeat (first | (refine Gd.fE (by first | exact trivial | exact ⟨_,rfl,rfl,rfl⟩) _ rfl rfl rfl rfl rfl ?_;simp only [Act.put,UY,UZ,V0]) | (refine Gd.aD (by first | exact trivial | exact ⟨_,rfl,rfl,rfl⟩) rfl rfl rfl rfl rfl (fun K hK=>?_);go_big_quiet_op;refine hK _ ?_;clear hK K))
  refine Gd.bZ (by first | exact trivial | exact ⟨_,rfl,rfl,rfl⟩) (.int .i64 (mC day L x)) (args:=[.pointer (some ⟨S,0,none⟩),ncV x,.int .i64 (L.length:Int)]) rfl rfl rfl rfl (by kernel_rfl) rfl rfl (fun m=>(by have q:=HBE.out _ _ _ _ _ _ x L.length m.1 (LW m) (HZ5.out.ext (LL m)) (UX _) (by have:=HLB.out;omega) HIF.out.srt HIF.out.sm HSX.out;rw [List.take_length] at q;exact q.mono fun _ _ ⟨h1,h2⟩=>⟨h1,h2⟩)) ?_
  simp only [Act.put,UY,UZ,V0]
  repeat (first | (refine Gd.fE (by first | exact trivial | exact ⟨_,rfl,rfl,rfl⟩) _ rfl rfl rfl rfl rfl ?_;simp only [Act.put,UY,UZ,V0]) | (refine Gd.aD (by first | exact trivial | exact ⟨_,rfl,rfl,rfl⟩) rfl rfl rfl rfl rfl (fun K hK=>?_);go_big_quiet_op;refine hK _ ?_;clear hK K))
  refine Gd.dT (fun m=>?_)
  have Lm:=LL m
  obtain ⟨wm,hwm⟩:=m
  have Lm:Ext wr wm:=Lm
  have ZM:=VR (Z.out.tr Lm)
  have ZS:=VR (HZ5.out.ext Lm)
  clear LL L5 LW s0 s1 s2 q0 q1 q2 q3 q4 q5 q6 q7 q8 q9 q10 hw1 Lm hcx hXW Z HZ5
  show wpList _ _ _ _ _ _
  rcases (QA (day:=day) (L:=L) (x:=x)) with ⟨hz,hf⟩ | ⟨i,y,hz,hy,hf⟩
  · have HN:=VR (HK8.out (HP.out.none HLA.out hf))
    have HX:=VR (X5.out.tr ZM.out.ext)
    clear hf
    generalize mC day L x=z at *
    go_wp2_with fail
    refine bodyPost_ret (results_tmp2 rfl _ _ _) rfl ?_
    exact gK HX.out HN.out.1 HN.out.2
  rw [hz]
  have HF:=VR hf
  have hi:i<L.length:=(List.getElem?_eq_some_iff.1 hy).1
  obtain ⟨r,hr⟩:∃ r,R[i]?=some r:=⟨_,V8 (by rw [ZS.out.len];exact hi)⟩
  have HKD:=VR (HIF.out.kd i y r hy hr)
  have HSY:=VR (HIF.out.sm y (VD hy))
  obtain ⟨A3,n3,c3,e9,hn3,_,_,hcl⟩:=RdN.at_ (ZS.out.own1.rd:RdN wm _ L)
  injection e9 with e1 e2 e3
  subst e1 e2 e3
  clear hn3
  obtain ⟨b3,o3,rfl,hb3',hcl⟩:=hcl (by omega)
  obtain ⟨b4,o4,rfl,hb4',hcl4⟩:=tN HZS.out.own2 (by omega)
  obtain ⟨y0,y1,y2,y3,y4,y5,y6,y7,y8,y9,y10⟩:=hcl i y hy
  have hr4:=hcl4 i r hr
  obtain ⟨s0,s1,s2⟩:=ZS.out.cells
  have sl:=ZS.out.lt
  clear hz hf hy hr hcl hcl4
  have wi2:IntKind.i64.wrap ((i:Int))=(i:Int):=IntWalk.i64_in _ (by omega)
  have zi2:(0:Int)≤(i:Int):=by omega
  have li2:(i:Int)<(L.length:Int):=by omega
  have ti2:((i:Int)).toNat=i:=by omega
  have hin:¬ ((i:Int)<0):=by omega
  have eA:Ext wm (wm.alloc (.cells (aF y).toArray 56)):=(Below.refl _ _).alloc (UX _) _
  have HRK:=VR (rL wm y)
  have HOA:=VR (ZM.out.tr eA)
  unfold aF at HRK HOA
  clear eA
  have HPS:=VR (fun (hk:y.kind≠1)=>HP.out.step HLA.out HF.out hk)
  have HPR:=VR (fun (hk:y.kind=1)=>HK9.out _ (HP.out.root HF.out hk))
  have HSM2:Hid (smL (c::(ys++[y]))):=VR (by
   rw [← List.cons_append]
   exact HSM.out.app fun q hq=>by rw [List.mem_singleton.1 hq];exact HSY.out)
  by_cases r0:r=0
  · have hb0:(r == 0)=true:=by simp [r0]
    have HN:=VR (HPR.out (HKD.out.1 r0))
    clear r0
    go_wp2_with (refine bP (k:=11) (by decide) gU (n:=la) (m:=1) (B:=w5.heap.size) HOA.out.own (by rw [bF,HLA2.out]) HRK.out (by rfl) (dO y) HOA.out.ext (by have:=HLB.out;omega) (by have:=HLB.out;unfold maxLen;omega) HOA.out.ext.size rfl rfl rfl rfl ?_;intro A8 n8 c8 w8 hn8 o8 x8 _;obtain ⟨t0,t1,t2⟩:=gV.cells (gV.ext HZS.out x8);have tl:=gV.lt (gV.ext HZS.out x8);have r8:=(Below.cell x8 (p:=⟨b4,o4+i,none⟩) hb4').trans hr4)
    have hn8:n8=(c::(ys++[y])).length:=by have:=hn8.out;have:=HLQ.out;simp;omega
    subst hn8
    have HZ9:Hid (LsZ w5 w8 (.slice A8 (c::(ys++[y])).length c8) (c::(ys++[y]))):=VR ⟨x8,by rw [← List.cons_append,← eE];exact o8,_,_,rfl⟩
    have HX:=VR (X5.out.tr x8)
    clear t0 t1 t2 tl r8 x8 o8
    refine (DB w8 HZ9.out.own (by simp) (by have:=hlaL;have:=HLQ.out;have:=HLB.out;simp;omega)).mono ?_
    rintro e w9 ⟨b9,rfl,o9⟩
    have HO9:=VR o9
    have HX9:Hid (Ext w w9):=VR (Below.trans HX.out (b9.mono X5.out.size))
    clear b9 o9
    go_wp2_with fail
    refine bodyPost_ret (results_tmp2 rfl _ _ _) rfl ?_
    refine ⟨HX9.out,A8,c8,?_,?_⟩
    · rw [HN.out.1,HN.out.2,List.length_reverse,show (c::(ys++[y])).length=ys.length+1+1 by simp];rfl
    · rw [HN.out.2,List.length_reverse];exact HO9.out.rd
  · have hb0:(r == 0)=false:=by simpa using r0
    have HK:=VR (HPS.out (fun q=>r0 (HKD.out.2 q)))
    clear r0
    go_wp2_with (refine bP (k:=11) (by decide) gU (n:=la) (m:=1) (B:=w5.heap.size) HOA.out.own (by rw [bF,HLA2.out]) HRK.out (by rfl) (dO y) HOA.out.ext (by have:=HLB.out;omega) (by have:=HLB.out;unfold maxLen;omega) HOA.out.ext.size rfl rfl rfl rfl ?_;intro A8 n8 c8 w8 hn8 o8 x8 _;obtain ⟨t0,t1,t2⟩:=gV.cells (gV.ext HZS.out x8);have tl:=gV.lt (gV.ext HZS.out x8);have r8:=(Below.cell x8 (p:=⟨b4,o4+i,none⟩) hb4').trans hr4)
    have hn8:n8=(c::(ys++[y])).length:=by have:=hn8.out;have:=HLQ.out;simp;omega
    subst hn8
    have HZ9:Hid (LsZ w5 w8 (.slice A8 (c::(ys++[y])).length c8) (c::(ys++[y]))):=VR ⟨x8,by rw [← List.cons_append,← eE];exact o8,_,_,rfl⟩
    clear t0 t1 t2 tl r8 x8 o8
    go_roundw
    case rel=>exact ⟨ys++[y],y,HZ9,HK,HSM2⟩
    case measure=>have:=HLQ.out;simp [yD];omega
def PtR (day:Int) (L:List NC) (c:NC) (ys:List NC) (x:NC):Prop:=(c::ys).getLast?=some x∧ys.length≤L.length∧((x.kind≠1∧PtI day L c ys x) ∨ (x.kind=1∧iZ day L c=some (c::ys).reverse))
theorem NK (day:Int) (L:List NC) {c:NC} (h:c.kind≠1):PtR day L c [] c:=⟨rfl,V7 _,.inl ⟨h,DD _ _ _⟩⟩
theorem PtI.ptR {day:Int}{L ys:List NC}{c x y:NC} (h:PtI day L c ys x) (hl:Lad day L) (hf:lH day L x=some y):PtR day L c (ys++[y]) y:=by
 have hy:=mQ hf
 have hlast:(c::(ys++[y])).getLast?=some y:=by rw [← List.cons_append,List.getLast?_append];rfl
 by_cases hk:y.kind=1
 · refine ⟨hlast,?_,.inr ⟨hk,h.root hf hk⟩⟩
   rw [V5]
   simp only [VC,VA]
   rcases h.idx with h0 | ⟨h1,h2,h3⟩
   · have:=F3 hy.1
     rw [h0]
     simp only [VA]
     omega
   · obtain ⟨z,hz,hlt⟩:=hl x h1 h2
     omega
 · have hs:=h.step hl hf hk
   exact ⟨hlast,hs.len,.inl ⟨hk,hs⟩⟩
theorem NL {α:Type}{l:List α}{x:α} (h:l.getLast?=some x):l.reverse[0]?=some x:=by
 rw [← List.head?_eq_getElem?,List.head?_reverse]
 exact h
theorem NM (c y:NC) (ys:List NC):(c::(ys++[y])).reverse=y::(c::ys).reverse:=by
 rw [← List.cons_append,List.reverse_append]
 rfl
set_option maxHeartbeats 8000000 in
theorem zW {v1 v2:Value}{roots pool:List NC} (c:NC) (day:Int) (w:World) (h1:RdN w v1 roots) (h2:RdN w v2 pool) (hs1:smL roots) (hs2:smL pool) (hc:smN c) (hl:roots.length+pool.length≤900000) (E:dI w 0) :
 Calls Tryz.prog 39 #[v1,v2,ncV c,.int .i64 day] w (SC w (npL roots pool c day) (npK roots pool c day)):=by
 have HON:=VR (fun W=>fT c day W hc)
 have HN1:=VR (fun W (e:Ext w W)=>vM c.st W (RdK.ext h1 e))
 have HN2:=VR (fun W (e:Ext w W)=>vM c.st W (RdK.ext h2 e))
 have HFI:=VR (fun W (e:Ext w W)=>vQ c.st day W (RdK.ext h1 e) (RdK.ext h2 e) hs1 hs2 hl (E.below e))
 have HFL:=VR (fun (a b:NC) (ha:smN a) (hb:smN b) W (e:Ext w W)=>hU a b day W ha hb (E.below e))
 have HSC:=VR hc
 have HSL:=VR (show smL (dB roots pool c.st day) from fun q hq=>(yB hq).elim (fun h=>hs1 q h.1) (fun h=>hs2 q h.1))
 have HLB0:=VR (show (dB roots pool c.st day).length≤900000 by
  have hb:∀ (n:Nat) (L:List NC),L.length+iG pool L≤roots.length+pool.length→(trT pool day n L).length≤roots.length+pool.length:=by
   intro n
   induction n with
   | zero=>intro L h;show L.length≤_;omega
   | succ n ih =>
     intro L h
     unfold trT
     split
     · omega
     · refine ih _ ?_
       have h9:∀ (l N:List NC),(∀ q ∈ l,q ∈ pool)→N.length+iG pool N≤roots.length+pool.length→(l.foldl (dW day L) N).length+iG pool (l.foldl (dW day L) N)≤roots.length+pool.length:=by
        intro l
        induction l with
        | nil=>intro N _ h;exact h
        | cons q l ih2 =>
          intro N hq h
          refine ih2 _ (fun z hz=>hq z (VQ _ hz)) ?_
          unfold dW
          split
          · rename_i hp
            exact FF (hq q VM) hp.2.1 h
          · exact h
       exact h9 pool L (fun q hq=>hq) h
  have h1:=kA c.st day roots
  have h2:=lG pool (bN roots c.st day)
  have:=hb (pool.length+1) (bN roots c.st day) (by omega)
  unfold dB
  omega)
 obtain ⟨wz,hwz,ez,TZ⟩:=cC w c
 obtain ⟨rk,hrk⟩:∃ r,npK roots pool c day=r:=⟨_,rfl⟩
 obtain ⟨rl,hrl⟩:∃ r,npL roots pool c day=r:=⟨_,rfl⟩
 rw [hrk,hrl]
 have HK1:=VR hrk
 have HK2:=VR hrl
 unfold ncV
 clear hrk hrl h1 h2 hs1 hs2 hc E
 go_enter Tryz.func39,Tryz.ntmps39
 go_upto_region 1 with fail
 rw [← hwz]
 clear hwz
 obtain ⟨p0,p1,p2,p3,p4,p5,p6,p7,p8,p9,p10⟩:=(TZ).cells
 have pf0:=(TZ).frozen 0
 have pf1:=(TZ).frozen 1
 have pf2:=(TZ).frozen 2
 have pf3:=(TZ).frozen 3
 have pf4:=(TZ).frozen 4
 have pf5:=(TZ).frozen 5
 have pf6:=(TZ).frozen 6
 have pf7:=(TZ).frozen 7
 have pf8:=(TZ).frozen 8
 have pf9:=(TZ).frozen 9
 have pf10:=(TZ).frozen 10
 have pl:=(TZ).lt
 go_wp2_with fail
 refine (HON.out _).mono ?_
 rintro e w2 ⟨rfl,b2⟩
 have T2:=TZ.ext b2
 have X2:=VR (ez.tr b2)
 clear p0 pf0 p1 pf1 p2 pf2 p3 pf3 p4 pf4 p5 pf5 p6 pf6 p7 pf7 p8 pf8 p9 pf9 p10 pf10 pl
 clear TZ ez b2
 by_cases o1:onN c day=0
 case neg =>
  have hb:(onN c day != 0)=true:=by simpa using o1
  have HN:=VR (by have q:=NJ (roots:=roots) (pool:=pool) o1;rw [HK1.out,HK2.out] at q;exact q:rk=onN c day∧rl=[])
  clear o1 T2
  go_wp2_with fail
  refine bodyPost_ret (results_tmp2 rfl _ _ _) rfl ?_
  exact gK X2.out HN.out.1 HN.out.2
 have hb:(onN c day != 0)=false:=by simp [o1]
 have O1:=VR o1
 clear o1
 obtain ⟨p0,p1,p2,p3,p4,p5,p6,p7,p8,p9,p10⟩:=(T2).cells
 have pf0:=(T2).frozen 0
 have pf1:=(T2).frozen 1
 have pf2:=(T2).frozen 2
 have pf3:=(T2).frozen 3
 have pf4:=(T2).frozen 4
 have pf5:=(T2).frozen 5
 have pf6:=(T2).frozen 6
 have pf7:=(T2).frozen 7
 have pf8:=(T2).frozen 8
 have pf9:=(T2).frozen 9
 have pf10:=(T2).frozen 10
 have pl:=(T2).lt
 by_cases o2:c.kind=1
 · have hb2:(c.kind == 1)=true:=by simpa using o2
   have HN:=VR (by have q:=DC (roots:=roots) (pool:=pool) O1.out o2;rw [HK1.out,HK2.out] at q;exact q:rk=61∧rl=[])
   clear o2
   go_wp2_with fail
   refine bodyPost_ret (results_tmp2 rfl _ _ _) rfl ?_
   exact gK X2.out HN.out.1 HN.out.2
 have hb2:(c.kind == 1)=false:=by simpa using o2
 have O2:=VR o2
 clear o2
 go_wp2_with fail
 refine (HN1.out _ X2.out).mono ?_
 rintro e w3 ⟨rfl,b3⟩
 have T3:=T2.ext b3
 have X3:=VR (X2.out.tr b3)
 clear p0 pf0 p1 pf1 p2 pf2 p3 pf3 p4 pf4 p5 pf5 p6 pf6 p7 pf7 p8 pf8 p9 pf9 p10 pf10 pl
 clear T2 X2 b3
 by_cases o3:32<dK roots c.st
 · have hb3:(32:Int)<(dK roots c.st:Int):=by omega
   have HN:=VR (by have q:=qG (roots:=roots) (pool:=pool) O1.out O2.out (.inl o3);rw [HK1.out,HK2.out] at q;exact q:rk=72∧rl=[])
   clear o3
   generalize (dK roots c.st:Int)=z at *
   go_wp2_with fail
   refine bodyPost_ret (results_tmp2 rfl _ _ _) rfl ?_
   exact gK X3.out HN.out.1 HN.out.2
 have hb3:¬ (32:Int)<(dK roots c.st:Int):=by omega
 have O3:=VR o3
 clear o3
 generalize (dK roots c.st:Int)=z1 at *
 obtain ⟨p0,p1,p2,p3,p4,p5,p6,p7,p8,p9,p10⟩:=(T3).cells
 have pf0:=(T3).frozen 0
 have pf1:=(T3).frozen 1
 have pf2:=(T3).frozen 2
 have pf3:=(T3).frozen 3
 have pf4:=(T3).frozen 4
 have pf5:=(T3).frozen 5
 have pf6:=(T3).frozen 6
 have pf7:=(T3).frozen 7
 have pf8:=(T3).frozen 8
 have pf9:=(T3).frozen 9
 have pf10:=(T3).frozen 10
 have pl:=(T3).lt
 go_wp2_with fail
 refine (HN2.out _ X3.out).mono ?_
 rintro e w4 ⟨rfl,b4⟩
 have T4:=T3.ext b4
 have X4:=VR (X3.out.tr b4)
 clear p0 pf0 p1 pf1 p2 pf2 p3 pf3 p4 pf4 p5 pf5 p6 pf6 p7 pf7 p8 pf8 p9 pf9 p10 pf10 pl
 clear T3 X3 b4
 by_cases o4:32<dK pool c.st
 · have hb4:(32:Int)<(dK pool c.st:Int):=by omega
   have HN:=VR (by have q:=qG (roots:=roots) (pool:=pool) O1.out O2.out (.inr o4);rw [HK1.out,HK2.out] at q;exact q:rk=72∧rl=[])
   clear o4
   generalize (dK pool c.st:Int)=z at *
   go_wp2_with fail
   refine bodyPost_ret (results_tmp2 rfl _ _ _) rfl ?_
   exact gK X4.out HN.out.1 HN.out.2
 have hb4:¬ (32:Int)<(dK pool c.st:Int):=by omega
 have O4:=VR (show ¬ (32<dK roots c.st ∨ 32<dK pool c.st) from fun q=>q.elim O3.out o4)
 clear o4 O3
 generalize (dK pool c.st:Int)=z2 at *
 obtain ⟨p0,p1,p2,p3,p4,p5,p6,p7,p8,p9,p10⟩:=(T4).cells
 have pf0:=(T4).frozen 0
 have pf1:=(T4).frozen 1
 have pf2:=(T4).frozen 2
 have pf3:=(T4).frozen 3
 have pf4:=(T4).frozen 4
 have pf5:=(T4).frozen 5
 have pf6:=(T4).frozen 6
 have pf7:=(T4).frozen 7
 have pf8:=(T4).frozen 8
 have pf9:=(T4).frozen 9
 have pf10:=(T4).frozen 10
 have pl:=(T4).lt
 have HLA:=VR (rF roots pool c.st day)
 have HFX:=VR (HFI.out w4 X4.out)
 clear HFI
 go_wp2_with fail
 refine HFX.out.mono ?_
 rintro e w5 ⟨lv,rfl,zl⟩
 obtain ⟨Al,cl,rfl⟩:=zl.form
 have T5:=T4.ext zl.ext
 have X5:=VR (X4.out.tr zl.ext)
 have HZL:=VR zl.rd
 have HK9:=VR (fun (p:List NC) (h:iZ day (dB roots pool c.st day) c=some p)=>(by have q:=wD (roots:=roots) (pool:=pool) O1.out O2.out O4.out h;rw [HK1.out,HK2.out] at q;exact q:rk=0∧rl=p))
 have HK8:=VR (fun (h:iZ day (dB roots pool c.st day) c=none)=>(by have q:=wC (roots:=roots) (pool:=pool) O1.out O2.out O4.out h;rw [HK1.out,HK2.out] at q;exact q:rk=66∧rl=[]))
 clear p0 pf0 p1 pf1 p2 pf2 p3 pf3 p4 pf4 p5 pf5 p6 pf6 p7 pf7 p8 pf8 p9 pf9 p10 pf10 pl
 clear T4 X4 zl HFX HK1 HK2 O4
 generalize dB roots pool c.st day=L at *
 have HP0:=VR (NK day L O2.out)
 obtain ⟨p0,p1,p2,p3,p4,p5,p6,p7,p8,p9,p10⟩:=(T5).cells
 have pf0:=(T5).frozen 0
 have pf1:=(T5).frozen 1
 have pf2:=(T5).frozen 2
 have pf3:=(T5).frozen 3
 have pf4:=(T5).frozen 4
 have pf5:=(T5).frozen 5
 have pf6:=(T5).frozen 6
 have pf7:=(T5).frozen 7
 have pf8:=(T5).frozen 8
 have pf9:=(T5).frozen 9
 have pf10:=(T5).frozen 10
 have pl:=(T5).lt
 obtain ⟨wl,hwl⟩:∃ wl,wl=w5.alloc (.cells #[.string (aI c.st),.int .i64 c.kind,.int .i64 c.num,.int .i64 c.iss,.int .i64 c.own,.int .i64 c.key,.int .i64 c.fr,.int .i64 c.un,.int .i64 c.to,.int .i64 c.e,.int .i64 c.s] 56):=⟨_,rfl⟩
 have el:Ext w5 wl:=by rw [hwl];exact (Below.refl _ _).alloc (UX _) _
 have ZL:Hid (LsZ w5 wl (.slice (some ⟨w5.heap.size,0,none⟩) [c].length 1) [c].reverse):=VR ⟨el,by
  rw [hwl]
  have:=aJ.lit w5 11 (aF c).toArray 56 1 rfl (by unfold maxLen;omega)
  have e1:(aF c).toArray.toList=aA [c].reverse:=by simp [aA]
  rw [e1] at this
  exact this,_,_,rfl⟩
 go_wp2_with fail
 rw [← hwl]
 clear hwl el
 clear p0 pf0 p1 pf1 p2 pf2 p3 pf3 p4 pf4 p5 pf5 p6 pf6 p7 pf7 p8 pf8 p9 pf9 p10 pf10 pl
 clear T5
 go_loopw [12] (fun out wr=>∃ (ys:List NC) (x:NC),Hid (LsZ w5 wr out (c::ys).reverse)∧Hid (PtR day L c ys x)∧Hid (smL (c::ys))) (fun out _=>L.length+2 - yD out)
 case atStart=>exact ⟨[],c,ZL,HP0,VR (fun q hq=>by rw [List.mem_singleton.1 hq];exact HSC.out)⟩
 case round =>
  clear ZL HP0
  obtain ⟨ys,x,Z,HP,HSM⟩:=hrel
  obtain ⟨Ao,co,rfl⟩:=Z.out.form
  obtain ⟨wo,hwo⟩:∃ wo,wo=wr:=⟨_,rfl⟩
  subst hwo
  have hyl:=HP.out.2.1
  have hx:=NL HP.out.1
  have HSX:=VR (HSM.out x (List.mem_reverse.1 (VD hx)))
  obtain ⟨Ar,nr,cr,e9,hnr,hnc,hcr,hcl⟩:=RdN.at_ Z.out.rd
  injection e9 with e1 e2 e3
  subst e1 e2 e3
  clear hnr
  obtain ⟨bo,oo,rfl,hbo,hcl⟩:=hcl (by simp)
  have hcx:=hcl 0 x hx
  simp only [Nat.zero_mul,Nat.add_zero] at hcx
  have HCX:=VR hcx
  clear hcl hx
  obtain ⟨acc,hacc⟩:∃ acc,(c::ys).reverse=acc:=⟨_,rfl⟩
  rw [hacc] at Z hnc
  rw [hacc]
  have hla:acc.length=ys.length+1:=by rw [← hacc];simp
  have HLQ:=VR hla
  have HAC:=VR hacc
  have i0:(0:Int)<(acc.length:Int):=by omega
  have i0':0<acc.length:=by omega
  have hlaL:acc.length≤L.length+1:=by omega
  unfold maxLen at hcr
  clear hla hacc hyl
  obtain ⟨x0,x1,x2,x3,x4,x5,x6,x7,x8,x9,x10⟩:=hcx
  by_cases k1:x.kind=1
  · have hb9:(x.kind != 1)=false:=by simp [k1]
    have HN:=VR (HK9.out _ (HP.out.2.2.elim (fun h=>absurd k1 h.1) (fun h=>h.2)))
    have HX9:=VR (X5.out.tr Z.out.ext)
    clear k1
    go_wp2_with fail
    refine bodyPost_ret (results_tmp2 rfl _ _ _) rfl ?_
    refine ⟨HX9.out,some ⟨bo,oo,none⟩,co,?_,?_⟩
    · rw [HN.out.1,HN.out.2,HAC.out];rfl
    · rw [HN.out.2,HAC.out];exact Z.out.rd
  have hb9:(x.kind != 1)=true:=by simpa using k1
  have HPI:=VR (HP.out.2.2.elim (fun h=>h.2) (fun h=>absurd h.1 k1))
  clear k1 HP
  go_wp2_with fail
  clear x0 x1 x2 x3 x4 x5 x6 x7 x8 x9 x10
  go_loopw [13] (fun i wr=>∃ j:Nat,j≤L.length∧i=.int .i64 (j:Int)∧Hid (LsZ w5 wr (.slice (some ⟨bo,oo,none⟩) acc.length co) acc)∧Hid (∀ (i:Nat) (a:NC),i<j→L[i]?=some a→eM day a x=false)∧Hid (Ext wo wr)) (fun i _=>L.length - (intOf i).toNat)
  case atStart=>exact ⟨0,V7 _,rfl,Z,VR (fun i a hi=>absurd hi (Nat.not_lt_zero _)),VR (Below.refl _ _)⟩
  case round =>
   obtain ⟨j,hj,rfl,ZJ,HNO,HWO⟩:=hrel
   have X:=ZJ.out.ext
   have XW:=X5.out.tr X
   by_cases hjl:j<L.length
   case neg =>
    obtain rfl:j=L.length:=by omega
    have hf:lH day L x=none:=List.find?_eq_none.2 fun a ha hf=>by
     obtain ⟨i,hi,rfl⟩:=List.getElem_of_mem ha
     have:=HNO.out i _ hi (V8 hi)
     rw [this] at hf
     cases hf
    have HN:=VR (HK8.out (HPI.out.none HLA.out hf))
    have HX9:=VR XW
    clear hf
    go_upto_region 12 with fail
    refine Gd.aO 16 (by kernel_rfl) (by kernel_rfl) ?_
    simp only [VH,VE,VI,VJ]
    intro wq hw1
    have LW:∀ m:Lt wq,Ext w m.1:=fun m=>(XW.tr hw1).tr m.2
    repeat (first | (refine Gd.gF (by exact ⟨_,rfl,rfl,rfl⟩) rfl rfl ?_;simp only [Act.put,UY,UZ,V0]) | (refine Gd.aD (by first | exact trivial | exact ⟨_,rfl,rfl,rfl⟩) rfl rfl rfl rfl rfl (fun K hK=>?_);go_big_quiet_op;refine hK _ ?_;clear hK K))
    refine Gd.dT (fun m=>?_)
    have Lm:=LW m
    obtain ⟨wm,hwm⟩:=m
    have Lm:Ext w wm:=Lm
    clear LW hw1 X XW
    show wpList _ _ _ _ _ _
    go_wp2_with fail
    refine bodyPost_ret (results_tmp2 rfl _ _ _) rfl ?_
    exact gK Lm HN.out.1 HN.out.2
   case pos =>
   obtain ⟨y,hy⟩:∃ y,L[j]?=some y:=⟨_,V8 hjl⟩
   obtain ⟨A3,n3,c3,e9,hn3,_,_,hcl⟩:=RdN.at_ HZL.out
   injection e9 with e1 e2 e3
   subst e1 e2 e3
   clear hn3
   obtain ⟨b2,o2,rfl,hb2,hcl⟩:=hcl (by omega)
   have hcy:=hcl j y hy
   have hcx:=HCX.out
   have HYY:=VR hy
   have HSY:=VR (HSL.out y (VD hy))
   clear hy hcl
   have hLB:=HLB0.out
   have wi1:IntKind.i64.wrap ((j:Int))=(j:Int):=IntWalk.i64_in _ (by omega)
   have zi1:(0:Int)≤(j:Int):=by omega
   have li1:(j:Int)<(L.length:Int):=by omega
   have ti1:((j:Int)).toNat=j:=by omega
   have wj:IntKind.i64.wrap ((j:Int)+1)=(j:Int)+1:=IntWalk.i64_in _ (by have:=HLB0.out;omega)
   go_upto_region 12 with fail
   refine Gd.aO 16 (by kernel_rfl) (by kernel_rfl) ?_
   simp only [VH,VE,VI,VJ]
   intro wq hw1
   have LL:∀ m:Lt wq,Ext wr m.1:=fun m=>hw1.tr m.2
   have L5:∀ m:Lt wq,Ext w5 m.1:=fun m=>X.tr (LL m)
   have LO:∀ m:Lt wq,Ext wo m.1:=fun m=>HWO.out.tr (LL m)
   have LW:∀ m:Lt wq,Ext w m.1:=fun m=>XW.tr (LL m)
   have p0:=fun m:Lt wq=>((L5 m).cell (p:=⟨b2,o2+j*11,none⟩) hb2).trans hcy.1
   have p1:=fun m:Lt wq=>((L5 m).cell (p:=⟨b2,o2+j*11+1,none⟩) hb2).trans hcy.2.1
   have p2:=fun m:Lt wq=>((L5 m).cell (p:=⟨b2,o2+j*11+2,none⟩) hb2).trans hcy.2.2.1
   have p3:=fun m:Lt wq=>((L5 m).cell (p:=⟨b2,o2+j*11+3,none⟩) hb2).trans hcy.2.2.2.1
   have p4:=fun m:Lt wq=>((L5 m).cell (p:=⟨b2,o2+j*11+4,none⟩) hb2).trans hcy.2.2.2.2.1
   have p5:=fun m:Lt wq=>((L5 m).cell (p:=⟨b2,o2+j*11+5,none⟩) hb2).trans hcy.2.2.2.2.2.1
   have p6:=fun m:Lt wq=>((L5 m).cell (p:=⟨b2,o2+j*11+6,none⟩) hb2).trans hcy.2.2.2.2.2.2.1
   have p7:=fun m:Lt wq=>((L5 m).cell (p:=⟨b2,o2+j*11+7,none⟩) hb2).trans hcy.2.2.2.2.2.2.2.1
   have p8:=fun m:Lt wq=>((L5 m).cell (p:=⟨b2,o2+j*11+8,none⟩) hb2).trans hcy.2.2.2.2.2.2.2.2.1
   have p9:=fun m:Lt wq=>((L5 m).cell (p:=⟨b2,o2+j*11+9,none⟩) hb2).trans hcy.2.2.2.2.2.2.2.2.2.1
   have p10:=fun m:Lt wq=>((L5 m).cell (p:=⟨b2,o2+j*11+10,none⟩) hb2).trans hcy.2.2.2.2.2.2.2.2.2.2
   have q0:=fun m:Lt wq=>((LO m).cell (p:=⟨bo,oo,none⟩) hbo).trans hcx.1
   have q1:=fun m:Lt wq=>((LO m).cell (p:=⟨bo,oo+1,none⟩) hbo).trans hcx.2.1
   have q2:=fun m:Lt wq=>((LO m).cell (p:=⟨bo,oo+2,none⟩) hbo).trans hcx.2.2.1
   have q3:=fun m:Lt wq=>((LO m).cell (p:=⟨bo,oo+3,none⟩) hbo).trans hcx.2.2.2.1
   have q4:=fun m:Lt wq=>((LO m).cell (p:=⟨bo,oo+4,none⟩) hbo).trans hcx.2.2.2.2.1
   have q5:=fun m:Lt wq=>((LO m).cell (p:=⟨bo,oo+5,none⟩) hbo).trans hcx.2.2.2.2.2.1
   have q6:=fun m:Lt wq=>((LO m).cell (p:=⟨bo,oo+6,none⟩) hbo).trans hcx.2.2.2.2.2.2.1
   have q7:=fun m:Lt wq=>((LO m).cell (p:=⟨bo,oo+7,none⟩) hbo).trans hcx.2.2.2.2.2.2.2.1
   have q8:=fun m:Lt wq=>((LO m).cell (p:=⟨bo,oo+8,none⟩) hbo).trans hcx.2.2.2.2.2.2.2.2.1
   have q9:=fun m:Lt wq=>((LO m).cell (p:=⟨bo,oo+9,none⟩) hbo).trans hcx.2.2.2.2.2.2.2.2.2.1
   have q10:=fun m:Lt wq=>((LO m).cell (p:=⟨bo,oo+10,none⟩) hbo).trans hcx.2.2.2.2.2.2.2.2.2.2
   repeat (first | (refine Gd.gF (by exact ⟨_,rfl,rfl,rfl⟩) rfl rfl ?_;simp only [Act.put,UY,UZ,V0]) | (refine Gd.aD (by first | exact trivial | exact ⟨_,rfl,rfl,rfl⟩) rfl rfl rfl rfl rfl (fun K hK=>?_);go_big_quiet_op;refine hK _ ?_;clear hK K))
   refine Gd.bZ (by first | exact trivial | exact ⟨_,rfl,rfl,rfl⟩) (.bool (eM day y x)) (args:=[ncV y,ncV x,.int .i64 day]) rfl rfl rfl rfl (by kernel_rfl) rfl rfl (fun m=>(HFL.out y x HSY.out HSX.out m.1 (LW m)).mono fun _ _ ⟨h1,h2⟩=>⟨h1,h2⟩) ?_
   simp only [Act.put,UY,UZ,V0]
   repeat (first | (refine Gd.gF (by exact ⟨_,rfl,rfl,rfl⟩) rfl rfl ?_;simp only [Act.put,UY,UZ,V0]) | (refine Gd.aD (by first | exact trivial | exact ⟨_,rfl,rfl,rfl⟩) rfl rfl rfl rfl rfl (fun K hK=>?_);go_big_quiet_op;refine hK _ ?_;clear hK K))
   refine Gd.dT (fun m=>?_)
   have Lm:=LL m
   obtain ⟨wm,hwm⟩:=m
   have Lm:Ext wr wm:=Lm
   have ZM:=VR (ZJ.out.tr Lm)
   have HWM:=VR (HWO.out.tr Lm)
   clear LL L5 LO LW p0 p1 p2 p3 p4 p5 p6 p7 p8 p9 p10 q0 q1 q2 q3 q4 q5 q6 q7 q8 q9 q10 hw1 X XW hcx Lm ZJ HWO
   show wpList _ _ _ _ _ _
   obtain ⟨f,hf⟩:∃ f,eM day y x=f:=⟨_,rfl⟩
   rw [hf]
   cases f
   · have HN2:Hid (∀ (i:Nat) (a:NC),i<j+1→L[i]?=some a→eM day a x=false):=VR (by
      intro i a hi ha
      rcases Nat.lt_succ_iff_lt_or_eq.1 hi with q | q
      · exact HNO.out i a q ha
      · rw [q,HYY.out] at ha
        injection ha with ha
        rw [← ha]
        exact hf)
     clear hf hcy
     go_wp2_with fail
     go_roundw
     case rel=>exact ⟨j+1,by omega,by go_num,ZM,HN2,HWM⟩
     case measure=>simp [intOf];omega
   · have hfs:lH day L x=some y:=wB HYY.out hf HNO.out
     have HPN:=VR (HPI.out.ptR HLA.out hfs)
     have HSM2:Hid (smL (c::(ys++[y]))):=VR (by
      rw [← List.cons_append]
      exact HSM.out.app fun q hq=>by rw [List.mem_singleton.1 hq];exact HSY.out)
     have hjn:((j:Int) == (L.length:Int))=false:=by simp;omega
     have X:=ZM.out.ext
     have p0:=(X.cell (p:=⟨b2,o2+j*11,none⟩) hb2).trans hcy.1
     have p1:=(X.cell (p:=⟨b2,o2+j*11+1,none⟩) hb2).trans hcy.2.1
     have p2:=(X.cell (p:=⟨b2,o2+j*11+2,none⟩) hb2).trans hcy.2.2.1
     have p3:=(X.cell (p:=⟨b2,o2+j*11+3,none⟩) hb2).trans hcy.2.2.2.1
     have p4:=(X.cell (p:=⟨b2,o2+j*11+4,none⟩) hb2).trans hcy.2.2.2.2.1
     have p5:=(X.cell (p:=⟨b2,o2+j*11+5,none⟩) hb2).trans hcy.2.2.2.2.2.1
     have p6:=(X.cell (p:=⟨b2,o2+j*11+6,none⟩) hb2).trans hcy.2.2.2.2.2.2.1
     have p7:=(X.cell (p:=⟨b2,o2+j*11+7,none⟩) hb2).trans hcy.2.2.2.2.2.2.2.1
     have p8:=(X.cell (p:=⟨b2,o2+j*11+8,none⟩) hb2).trans hcy.2.2.2.2.2.2.2.2.1
     have p9:=(X.cell (p:=⟨b2,o2+j*11+9,none⟩) hb2).trans hcy.2.2.2.2.2.2.2.2.2.1
     have p10:=(X.cell (p:=⟨b2,o2+j*11+10,none⟩) hb2).trans hcy.2.2.2.2.2.2.2.2.2.2
     have eA:Ext wm (wm.alloc (.cells (aF y).toArray 56)):=(Below.refl _ _).alloc (UX _) _
     have HOL:=VR (by
      have q:=(aJ.lit wm 11 (aF y).toArray 56 1 rfl (by unfold maxLen;omega)).mono X.size
      exact q:aJ (wm.alloc (.cells (aF y).toArray 56)) w5.heap.size 56 11 (.slice (some ⟨wm.heap.size,0,none⟩) 1 1) (aF y).toArray.toList)
     have HOA:=VR (ZM.out.tr eA)
     have HB5:=VR (show Ext w5 (wm.alloc (.cells (aF y).toArray 56)) from X.tr eA)
     unfold aF at HOL HOA HB5
     clear eA hf hcy X hfs
     go_wp2_with (refine bP (k:=11) (by decide) gU (n:=1) (m:=acc.length) (B:=w5.heap.size) HOL.out rfl HOA.out.rd (by rw [bF]) (hO acc) HB5.out (by have:=HLB0.out;omega) (by have:=HLB0.out;unfold maxLen;omega) HB5.out.size rfl rfl rfl rfl ?_;intro A8 n8 c8 w8 hn8 o8 x8 _)
     have hn8:n8=(c::(ys++[y])).reverse.length:=by have:=hn8.out;have:=HLQ.out;simp;omega
     subst hn8
     have Z9:Hid (LsZ w5 w8 (.slice A8 (c::(ys++[y])).reverse.length c8) (c::(ys++[y])).reverse):=VR ⟨x8,by
      have e1:aA (c::(ys++[y])).reverse=aF y++aA acc:=by rw [NM,HAC.out];simp [aA]
      rw [e1]
      exact o8,_,_,rfl⟩
     clear x8 o8 p0 p1 p2 p3 p4 p5 p6 p7 p8 p9 p10
     go_wp2_with fail
     go_roundw
     case rel=>repeat (first | exact ⟨ys++[y],y,Z9,HPN,HSM2⟩ | exact ⟨⟨ys++[y],y,Z9,HPN,HSM2⟩,rfl⟩ | refine ⟨_,?_⟩)
     case measure=>have:=HLQ.out;simp [yD];omega
end Go.Proofs.YtkjplpmogfmhkaaGreatDoor
namespace Go.Proofs.YtkjplpmogfmhkaaGreatDoor
open Go.RowKit
set_option linter.unusedVariables false
section
variable {roots pool:List NC}{c:NC}{day:Int}
theorem zX (l:List NC) (st:List UInt8) (h:l.length≤32):¬ 32<dK l st:=by have:=RX l st;omega
end
end Go.Proofs.YtkjplpmogfmhkaaGreatDoor
