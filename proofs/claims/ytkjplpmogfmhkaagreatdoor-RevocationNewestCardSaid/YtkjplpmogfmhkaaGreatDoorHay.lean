/- Parts Je Jf Jg Jh Ji Rc of the proof. -/
import Derived.Test.YtkjplpmogfmhkaaGreatDoorHax
namespace Go.Proofs.YtkjplpmogfmhkaaGreatDoor
open Go.RowKit
set_option linter.unusedVariables false
set_option maxRecDepth 100000
def uB (day:Int) (L:List NC) (c:NC):Int:=if (L.any fun a=>fG day a c)=true then ((L.findIdx fun a=>fG day a c:Nat):Int) else -1
inductive oP (day:Int) (L:List NC) (c:NC) (k:Nat):Int->Prop
 | no:(∀ j a,j<k->L[j]?=some a->fG day a c=false)->oP day L c k (-1)
 | at_ (b:Nat) (a:NC):b<k->L[b]?=some a->fG day a c=true->(∀ j a,j<b->L[j]?=some a->fG day a c=false)->oP day L c k (b:Int)
theorem oP.res {day:Int}{L:List NC}{c:NC}{n:Nat}{z:Int} (h:oP day L c n z) (hn:n<=L.length):z=uB day (L.take n) c:=by
 cases h with
 | no h =>
   unfold uB
   rw [if_neg]
   intro q
   obtain ⟨a,ha,hf⟩:=List.any_eq_true.1 q
   obtain ⟨j,hj,rfl⟩:=List.getElem_of_mem ha
   rw [YY] at hj
   have:=h j _ (by omega) (YL (by omega))
   rw [List.getElem_take] at hf
   rw [this] at hf
   cases hf
 | at_ b a h1 h2 h3 h4 =>
   obtain ⟨hb,rfl⟩:=List.getElem?_eq_some_iff.1 h2
   have hm:b<(L.take n).length:=by rw [YY];omega
   have hany:((L.take n).any fun a=>fG day a c)=true:=List.any_eq_true.2 ⟨(L.take n)[b],List.getElem_mem hm,by rw [List.getElem_take];exact h3⟩
   unfold uB
   rw [if_pos hany]
   congr 1
   symm
   rw [List.findIdx_eq hm]
   refine ⟨by rw [List.getElem_take];exact h3,fun j hj=>?_⟩
   rw [List.getElem_take]
   exact Bool.not_eq_true _ ▸ (by rw [h4 j _ hj (YL (by omega))];simp)
theorem oP.next {day:Int}{L:List NC}{c y:NC}{k:Nat} (h:oP day L c k (-1)) (hy:L[k]?=some y) (hf:fG day y c=false):oP day L c (k+1) (-1):=by
 generalize hz:(-1:Int)=z at h
 cases h with
 | no h =>
   refine .no fun j a hj ha=>?_
   rcases Nat.lt_succ_iff_lt_or_eq.1 hj with q | rfl
   · exact h j a q ha
   · rw [hy] at ha;injection ha with ha;rw [<- ha];exact hf
 | at_ b=>omega
theorem oP.hit {day:Int}{L:List NC}{c y:NC}{k:Nat} (h:oP day L c k (-1)) (hy:L[k]?=some y) (hf:fG day y c=true):oP day L c (k+1) (k:Int):=by
 generalize hz:(-1:Int)=z at h
 cases h with
 | no h=>exact .at_ k y (Nat.lt_succ_self _) hy hf h
 | at_ b=>omega
theorem oP.skip {day:Int}{L:List NC}{c:NC}{k b:Nat} (h:oP day L c k (b:Int)):oP day L c (k+1) (b:Int)/\b<k:=by
 generalize hz:(b:Int)=z at h
 cases h with
 | no h=>omega
 | at_ b' a h1 h2 h3 h4 =>
   obtain rfl:b=b':=by omega
   exact ⟨.at_ b a (by omega) h2 h3 h4,h1⟩
theorem oP.cases' {day:Int}{L:List NC}{c:NC}{k:Nat}{z:Int} (h:oP day L c k z):z=-1 \/ ∃ b:Nat,z=(b:Int):=by
 cases h with
 | no h=>exact .inl rfl
 | at_ b=>exact .inr ⟨b,rfl⟩
def Srt (R:List Int):Prop:=∀ (i j:Nat) (x y:Int),i<=j->R[i]?=some x->R[j]?=some y->x<=y
theorem BM {w:World}{B:Nat}{A:Option Addr}{n c:Nat}{R:List Int} (h:aJ w B 3 1 (.slice A n c) (aQ R)) (h0:0<n):∃ b o,A=some ⟨b,o,none⟩/\b<w.heap.size/\∀ (i:Nat) (x:Int),R[i]?=some x->w.cell? ⟨b,o+i,none⟩=some (.int .i64 x):=by
 obtain ⟨A',n',c',e,hn,_,_,hc⟩:=h.rd
 injection e with e1 e2 e3
 subst e1 e2 e3
 obtain ⟨b,o,rfl,hq⟩:=hc h0
 have hx:0<R.length:=by rw [lJ] at hn;omega
 have g0:(aQ R)[0]?=some (.int .i64 R[0]):=by unfold aQ;rw [List.getElem?_map,YL hx];rfl
 refine ⟨b,o,rfl,World.block_lt_of_cell? w _ (hq 0 _ g0),fun i x hi=>hq i _ ?_⟩
 unfold aQ
 rw [List.getElem?_map,hi]
 rfl
set_option maxHeartbeats 4000000 in
theorem GQ {B S:Nat}{day:Int}{v1 v2:Value}{L:List NC}{R:List Int} (c:NC) (n:Nat) (w:World) (hS:kF w B S day v1 v2 L R) (hn:n<=L.length) (hl:L.length<=1000000) (hR:Srt R) (hs:smL L) (hc:smN c) (E:dS w 1) :
 Calls Tryz.prog 119 #[.pointer (some ⟨S,0,none⟩),ncV c,.int .i64 (n:Int)] w (dR w (.int .i64 (uB day (L.take n) c))):=by
 obtain ⟨A1,c1,A2,c2,rfl,rfl,hc1,hc2,hm1,hm2⟩:=hS.forms
 have hv:RdN w (.slice A1 L.length c1) L:=hS.own1.rd
 obtain ⟨A',n',c',e9,hn',hnc,hcm,hel⟩:=hv.at_
 injection e9 with e1 e2 e3
 subst e1 e2 e3
 clear hn'
 have HEL:=ZH hel
 have HIN:=ZH (fun h0=>BM hS.own2 h0)
 have HF:=ZH (fun (a:NC) (ha:smN a) W (e:Ext w W)=>mE a c day W ha hc (E.below e))
 unfold maxLen at hcm hm1 hm2
 clear hel hv hnc hcm
 obtain ⟨wz,hwz,ez,TZ⟩:=cT w c
 have HS:=ZH hS
 have HZ:=ZH TZ
 have HSM:=ZH hs
 have HRS:=ZH hR
 have HRL:=ZH hS.len
 unfold ncV
 clear TZ hS hs hR hc E
 go_enter Tryz.func119,Tryz.ntmps119
 go_upto_region 1 with fail
 rw [<- hwz]
 clear hwz
 go_wp2_with fail
 go_loopw [7,10] (fun bst i wr=>∃ (k:Nat) (z:Int),k<=n/\i=.int .i64 (k:Int)/\bst=.int .i64 z/\Hid (oP day L c k z)/\Ext wz wr) (fun _ i _=>n - (intOf i).toNat)
 case atStart=>exact ⟨0,-1,YK _,rfl,rfl,.no (fun j a hj _=>absurd hj (Nat.not_lt_zero _)),Below.refl _ _⟩
 case round =>
  obtain ⟨k,z,hk,rfl,rfl,HB,X⟩:=hrel
  by_cases hlt:k<n
  case neg =>
   obtain rfl:k=n:=by omega
   have HR:=ZH (HB.out.res hn)
   have XX:=ZH (ez.tr X)
   clear X
   go_wp2_with fail
   go_ret
   exact ⟨by rw [HR.out];rfl,XX.out⟩
  case pos =>
  obtain ⟨y,hy⟩:∃ y,L[k]?=some y:=⟨_,YL (by omega)⟩
  obtain ⟨b,o,rfl,hbl,hcc⟩:=HEL.out (by omega)
  obtain ⟨b2,o2,rfl,hbl2,hcc2⟩:=HIN.out (by omega)
  have hcy:=hcc k y hy
  have HY:=ZH hy
  have HSY:=ZH (HSM.out y (YS hy))
  clear hy hcc
  have hkL:k<L.length:=by omega
  have wi1:IntKind.i64.wrap ((k:Int))=(k:Int):=IntWalk.i64_in _ (by omega)
  have zi1:(0:Int)<=(k:Int):=by omega
  have li1:(k:Int)<(L.length:Int):=by omega
  have ti1:((k:Int)).toNat=k:=by omega
  have hkn:(k:Int)<(n:Int):=by omega
  go_upto_region 5 with fail
  refine Gd.aI 34 (by kernel_rfl) (by kernel_rfl) ?_
  simp only [YT,YQ,YU,YV]
  intro wq hw1
  have LL:∀ m:Lt wq,Ext wr m.1:=fun m=>hw1.tr m.2
  have LZ:∀ m:Lt wq,Ext wz m.1:=fun m=>X.tr (LL m)
  have LW:∀ m:Lt wq,Ext w m.1:=fun m=>ez.tr (LZ m)
  have s0:=fun m:Lt wq=>(HS.out.ext (LW m)).cells.1
  have s1:=fun m:Lt wq=>(HS.out.ext (LW m)).cells.2.1
  have s2:=fun m:Lt wq=>(HS.out.ext (LW m)).cells.2.2
  have p0:=fun m:Lt wq=>(HZ.out.ext (LZ m)).cells.1
  have p1:=fun m:Lt wq=>(HZ.out.ext (LZ m)).cells.2.1
  have p2:=fun m:Lt wq=>(HZ.out.ext (LZ m)).cells.2.2.1
  have p3:=fun m:Lt wq=>(HZ.out.ext (LZ m)).cells.2.2.2.1
  have p4:=fun m:Lt wq=>(HZ.out.ext (LZ m)).cells.2.2.2.2.1
  have p5:=fun m:Lt wq=>(HZ.out.ext (LZ m)).cells.2.2.2.2.2.1
  have p6:=fun m:Lt wq=>(HZ.out.ext (LZ m)).cells.2.2.2.2.2.2.1
  have p7:=fun m:Lt wq=>(HZ.out.ext (LZ m)).cells.2.2.2.2.2.2.2.1
  have p8:=fun m:Lt wq=>(HZ.out.ext (LZ m)).cells.2.2.2.2.2.2.2.2.1
  have p9:=fun m:Lt wq=>(HZ.out.ext (LZ m)).cells.2.2.2.2.2.2.2.2.2.1
  have p10:=fun m:Lt wq=>(HZ.out.ext (LZ m)).cells.2.2.2.2.2.2.2.2.2.2
  have q0:=fun m:Lt wq=>((LW m).cell (p:=⟨b,o+k*11,none⟩) hbl).trans hcy.1
  have q1:=fun m:Lt wq=>((LW m).cell (p:=⟨b,o+k*11+1,none⟩) hbl).trans hcy.2.1
  have q2:=fun m:Lt wq=>((LW m).cell (p:=⟨b,o+k*11+2,none⟩) hbl).trans hcy.2.2.1
  have q3:=fun m:Lt wq=>((LW m).cell (p:=⟨b,o+k*11+3,none⟩) hbl).trans hcy.2.2.2.1
  have q4:=fun m:Lt wq=>((LW m).cell (p:=⟨b,o+k*11+4,none⟩) hbl).trans hcy.2.2.2.2.1
  have q5:=fun m:Lt wq=>((LW m).cell (p:=⟨b,o+k*11+5,none⟩) hbl).trans hcy.2.2.2.2.2.1
  have q6:=fun m:Lt wq=>((LW m).cell (p:=⟨b,o+k*11+6,none⟩) hbl).trans hcy.2.2.2.2.2.2.1
  have q7:=fun m:Lt wq=>((LW m).cell (p:=⟨b,o+k*11+7,none⟩) hbl).trans hcy.2.2.2.2.2.2.2.1
  have q8:=fun m:Lt wq=>((LW m).cell (p:=⟨b,o+k*11+8,none⟩) hbl).trans hcy.2.2.2.2.2.2.2.2.1
  have q9:=fun m:Lt wq=>((LW m).cell (p:=⟨b,o+k*11+9,none⟩) hbl).trans hcy.2.2.2.2.2.2.2.2.2.1
  have q10:=fun m:Lt wq=>((LW m).cell (p:=⟨b,o+k*11+10,none⟩) hbl).trans hcy.2.2.2.2.2.2.2.2.2.2
  rcases HB.out.cases' with rfl | ⟨bb,rfl⟩
  · repeat (first | (refine Gd.dZ (Gd.gR rfl) _ rfl rfl rfl rfl rfl ?_;simp only [Act.put,YG,YI,YH]) | (refine Gd.dJ (by exact ⟨_,rfl,rfl,rfl⟩) rfl rfl ?_;simp only [Act.put,YG,YI,YH]) | (refine Gd.aC rfl fun K hK=>?_;go_big_quiet_op;refine hK _ ?_;clear hK K))
    refine Gd.bN (Gd.gR rfl) (.bool (fG day y c)) (args:=[ncV y,ncV c,.int .i64 day]) rfl rfl rfl rfl (by kernel_rfl) rfl rfl (fun m=>(HF.out y HSY.out m.1 (LW m)).mono fun _ _ ⟨h1,h2⟩=>⟨h1,h2⟩) ?_
    simp only [Act.put,YG,YI,YH]
    repeat (first | (refine Gd.dZ (Gd.gR rfl) _ rfl rfl rfl rfl rfl ?_;simp only [Act.put,YG,YI,YH]) | (refine Gd.dJ (by exact ⟨_,rfl,rfl,rfl⟩) rfl rfl ?_;simp only [Act.put,YG,YI,YH]) | (refine Gd.aC rfl fun K hK=>?_;go_big_quiet_op;refine hK _ ?_;clear hK K))
    refine Gd.cQ (fun m=>?_)
    have Lm:=LZ m
    obtain ⟨wm,hwm⟩:=m
    have Lm:Ext wz wm:=Lm
    clear LL LZ LW s0 s1 s2 p0 p1 p2 p3 p4 p5 p6 p7 p8 p9 p10 q0 q1 q2 q3 q4 q5 q6 q7 q8 q9 q10 hw1
    show wpList _ _ _ _ _ _
    obtain ⟨f,hf⟩:∃ f,fG day y c=f:=⟨_,rfl⟩
    rw [hf]
    cases f
    · have HN:=ZH (HB.out.next HY.out hf)
      clear hf
      go_wp2_with fail
      go_roundw
      case rel=>repeat (first | exact ⟨k+1,-1,by omega,by go_num,rfl,HN,Lm⟩ | exact ⟨⟨k+1,-1,by omega,by go_num,rfl,HN,Lm⟩,rfl⟩ | refine ⟨_,?_⟩)
      case measure=>simp [intOf];omega
    · have HN:=ZH (HB.out.hit HY.out hf)
      clear hf
      go_wp2_with fail
      go_roundw
      case rel=>repeat (first | exact ⟨k+1,(k:Int),by omega,by go_num,rfl,HN,Lm⟩ | exact ⟨⟨k+1,(k:Int),by omega,by go_num,rfl,HN,Lm⟩,rfl⟩ | refine ⟨_,?_⟩)
      case measure=>simp [intOf];omega
  · obtain ⟨HN,hbk⟩:=HB.out.skip
    have HN:=ZH HN
    obtain ⟨x1,hx1⟩:∃ x,R[k]?=some x:=⟨_,YL (by rw [HRL.out];omega)⟩
    obtain ⟨x2,hx2⟩:∃ x,R[bb]?=some x:=⟨_,YL (by rw [HRL.out];omega)⟩
    have hle:=HRS.out bb k x2 x1 (by omega) hx2 hx1
    have hlt2:¬ x1<x2:=by omega
    have r1:=fun m:Lt wq=>((LW m).cell (p:=⟨b2,o2+k,none⟩) hbl2).trans (hcc2 k x1 hx1)
    have r2:=fun m:Lt wq=>((LW m).cell (p:=⟨b2,o2+bb,none⟩) hbl2).trans (hcc2 bb x2 hx2)
    have hbn:¬ ((bb:Int)<0):=by omega
    have hbL:bb<L.length:=by omega
    have wi2:IntKind.i64.wrap ((bb:Int))=(bb:Int):=IntWalk.i64_in _ (by omega)
    have zi2:(0:Int)<=(bb:Int):=by omega
    have li2:(bb:Int)<(L.length:Int):=by omega
    have ti2:((bb:Int)).toNat=bb:=by omega
    clear hx1 hx2 hle hcc2
    repeat (first | (refine Gd.dZ (Gd.gR rfl) _ rfl rfl rfl rfl rfl ?_;simp only [Act.put,YG,YI,YH]) | (refine Gd.dJ (by exact ⟨_,rfl,rfl,rfl⟩) rfl rfl ?_;simp only [Act.put,YG,YI,YH]) | (refine Gd.aC rfl fun K hK=>?_;go_big_quiet_op;refine hK _ ?_;clear hK K))
    refine Gd.cQ (fun m=>?_)
    have Lm:=LZ m
    obtain ⟨wm,hwm⟩:=m
    have Lm:Ext wz wm:=Lm
    clear LL LZ LW s0 s1 s2 r1 r2 p0 p1 p2 p3 p4 p5 p6 p7 p8 p9 p10 q0 q1 q2 q3 q4 q5 q6 q7 q8 q9 q10 hw1
    show wpList _ _ _ _ _ _
    go_wp2_with fail
    go_roundw
    case rel=>repeat (first | exact ⟨k+1,(bb:Int),by omega,by go_num,rfl,HN,Lm⟩ | exact ⟨⟨k+1,(bb:Int),by omega,by go_num,rfl,HN,Lm⟩,rfl⟩ | refine ⟨_,?_⟩)
    case measure=>simp [intOf];omega
theorem MQ {pool next:List NC}{c:NC} (hc:c ∈ pool) (hn:c ∉ next):iE pool (next++[c])<iE pool next :=
 sC _ _ pool (fun x _ hx=>by
  have hx':x ∉ next++[c]:=of_decide_eq_true hx
  exact decide_eq_true fun q=>hx' (List.mem_append_left _ q)) ⟨c,hc,decide_eq_true hn,decide_eq_false (fun q=>q (List.mem_append_right _ YZ))⟩
theorem tN (st:List UInt8) (day:Int) {roots:List NC}{y:NC}{k:Nat} (h:roots[k]?=some y):bR (roots.take (k+1)) st day=cE st day (bR (roots.take k) st day) y:=by
 unfold bR
 rw [fS h,List.foldl_append]
 rfl
theorem kC (st:List UInt8) (day:Int) (roots:List NC):(bR roots st day).length<=roots.length:=by
 have h:∀ (l acc:List NC),(l.foldl (cE st day) acc).length<=acc.length+l.length:=by
  intro l
  induction l with
  | nil=>intro acc;exact YF _
  | cons x l IH =>
    intro acc
    refine YO (IH _) ?_
    have:(cE st day acc x).length<=acc.length+1:=by
     unfold cE
     split
     · simp
     · omega
    simp only [YP]
    omega
 have:=h roots []
 rw [YN,YR] at this
 exact this
def eX (day:Int) (out:List NC) (l:List NC):List NC:=l.foldl (dW day out) out
theorem wW (day:Int) (out:List NC) {pool:List NC}{y:NC}{k:Nat} (h:pool[k]?=some y):eX day out (pool.take (k+1))=dW day out (eX day out (pool.take k)) y:=by
 unfold eX
 rw [fS h,List.foldl_append]
 rfl
theorem MR (day:Int) (out l:List NC):∃ t,eX day out l=out++t:=by
 obtain ⟨t,h,_⟩:=sB day out l out
 exact ⟨t,h⟩
theorem PJ {day:Int}{L:List NC}{c:NC}:(0<=uB day L c) ↔ (L.any fun a=>fG day a c)=true:=by
 unfold uB
 split
 · rename_i h
   exact ⟨fun _=>h,fun _=>Int.natCast_nonneg _⟩
 · rename_i h
   exact ⟨fun q=>absurd q (by omega),fun q=>absurd q h⟩
structure FnI (C:Nat) (pool L:List NC) (R:List Int) (rd:Int):Prop where
 srt:Srt R
 le:∀ x ∈ R,x<=rd
 kd:∀ (i:Nat) (a:NC) (x:Int),L[i]?=some a->R[i]?=some x->(x=0 ↔ a.kind=1)
 sm:smL L
 bd:L.length+iE pool L<=C
theorem jL {α:Type}{l:List α}{x y:α}{i:Nat} (h:(l++[x])[i]?=some y):l[i]?=some y \/ (i=l.length/\y=x):=by
 by_cases hi:i<l.length
 · rw [List.getElem?_append_left hi] at h
   exact .inl h
 · rw [List.getElem?_append_right (by omega)] at h
   have h0:i - l.length=0:=by
    have:=(List.getElem?_eq_some_iff.1 h).1
    simpa using this
   rw [h0] at h
   exact .inr ⟨by omega,(Option.some.inj h).symm⟩
theorem PK {R:List Int}{rd:Int} (h:Srt R) (hl:∀ x ∈ R,x<=rd):Srt (R++[rd]):=by
 intro i j x y hij hi hj
 rcases jL hi with q | ⟨q,e⟩
 · rcases jL hj with q2 | ⟨q2,e2⟩
   · exact h i j x y hij q q2
   · rw [e2]
     exact hl x (YS q)
 · rcases jL hj with q2 | ⟨q2,e2⟩
   · have:=(List.getElem?_eq_some_iff.1 q2).1
     omega
   · rw [e,e2]
     exact Int.le_refl _
theorem FnI.app {C:Nat}{pool L:List NC}{R:List Int}{rd:Int}{c:NC} (h:FnI C pool L R rd) (hlen:R.length=L.length) (hk:rd=0 ↔ c.kind=1) (hs:smN c) (hb:(L++[c]).length+iE pool (L++[c])<=C):FnI C pool (L++[c]) (R++[rd]) rd :=
 ⟨PK h.srt h.le,fun x hx=>by
   rcases List.mem_append.1 hx with q | q
   · exact h.le x q
   · rw [List.mem_singleton.1 q];exact Int.le_refl _,fun i a x ha hx=>by
   rcases jL ha with ha | ⟨ha,rfl⟩
   · rcases jL hx with hx | ⟨hx,rfl⟩
     · exact h.kd i a x ha hx
     · have:=(List.getElem?_eq_some_iff.1 ha).1
       omega
   · rcases jL hx with hx | ⟨hx,rfl⟩
     · have:=(List.getElem?_eq_some_iff.1 hx).1
       omega
     · exact hk,h.sm.app (fun q hq=>by rw [List.mem_singleton.1 hq];exact hs),hb⟩
theorem FnI.up {C:Nat}{pool L:List NC}{R:List Int}{rd rd':Int} (h:FnI C pool L R rd) (hr:rd<=rd'):FnI C pool L R rd':=⟨h.srt,fun x hx=>Int.le_trans (h.le x hx) hr,h.kd,h.sm,h.bd⟩
def UQ (w:World) (roots pool:List NC) (st:List UInt8) (day:Int) (e:Ending) (w':World):Prop :=
 Ext w w'/\∃ (S:Nat) (v1 v2:Value) (R:List Int),e=.returned (.pointer (some ⟨S,0,none⟩))/\w.heap.size<=S/\kF w' w.heap.size S day v1 v2 (cW roots pool st day) R/\∃ rd,FnI (roots.length+pool.length) pool (cW roots pool st day) R rd
theorem VL (w:World) (day:Int):∃ wz,wz=w.alloc (.cells #[.int .i64 day,.slice none 0 0,.slice none 0 0] 155)/\Ext w wz/\kF wz w.heap.size w.heap.size day (.slice none 0 0) (.slice none 0 0) [] [] :=
 ⟨_,rfl,(Below.refl _ _).alloc (YF _) _,aB w _,aJ.empty _ _ _ _ _,aJ.empty _ _ _ _ _,rfl⟩
theorem MT {roots pool:List NC}{st:List UInt8}{day:Int}{R:List Int} (h0:∀ x ∈ R,x=0) (hs:smL roots):FnI (roots.length+pool.length) pool (bR roots st day) R 1 :=
 ⟨fun i j x y _ hx hy=>by rw [h0 x (YS hx),h0 y (YS hy)];exact Int.le_refl _,fun x hx=>by rw [h0 x hx];decide,fun i a x ha hx=>by
   rw [h0 x (YS hx)]
   exact ⟨fun _=>(BK (iM (YS ha)).2.2.2).1,fun _=>rfl⟩,fun c hc=>hs c (iM hc).1,by
   have h1:=kC st day roots
   have h2:=lG pool (bR roots st day)
   omega⟩
theorem GR {pool out:List NC}{day:Int} (h:(fA pool day out).length=out.length):fA pool day out=out:=by
 obtain ⟨t,e,_⟩:=iL pool day out
 rw [e] at h ⊢
 rw [YJ] at h
 rw [ZB (by omega:t.length=0),List.append_nil]
def FrD (roots pool:List NC) (st:List UInt8) (day:Int) (L:List NC) (r:Nat) (m:Bool):Prop :=
 (m=true->xU pool day L=cW roots pool st day/\iE pool L+r<=pool.length+1)/\(m=false->L=cW roots pool st day)
theorem PL {roots pool:List NC}{st:List UInt8}{day:Int}{L:List NC}{r:Nat} (h:FrD roots pool st day L r true):FrD roots pool st day (fA pool day L) (r+1) (decide ((fA pool day L).length≠L.length)):=by
 obtain ⟨h1,h2⟩:=h.1 rfl
 refine ⟨fun q=>?_,fun q=>?_⟩
 · have q:=of_decide_eq_true q
   have h3:=wI q
   exact ⟨by rw [<- zE q];exact h1,by omega⟩
 · have q:(fA pool day L).length=L.length:=by
    have:=of_decide_eq_false q
    omega
   rw [GR q,<- h1,zD q]
theorem GT {C:Nat}{pool N:List NC}{c:NC} (hc:c ∈ pool) (hn:c ∉ N) (h:N.length+iE pool N<=C):(N++[c]).length+iE pool (N++[c])<=C:=by
 have:=MQ hc hn
 rw [YJ]
 simp only [YP,YN]
 omega
structure FrI (w wr:World) (S:Nat) (day:Int) (C:Nat) (pool L:List NC) (R:List Int):Prop where
 ext:Ext w wr
 se:∃ v1 v2,kF wr w.heap.size S day v1 v2 L R
 len:R.length=L.length
theorem FrI.tr {w wr wx:World}{S:Nat}{day:Int}{C:Nat}{pool L:List NC}{R:List Int} (h:FrI w wr S day C pool L R) (e:Ext wr wx):FrI w wx S day C pool L R:=by
 obtain ⟨h1,⟨v1,v2,h2⟩,h3⟩:=h
 exact ⟨h1.tr e,⟨v1,v2,h2.ext e⟩,h3⟩
theorem FrI.add {w wr:World}{S:Nat}{day:Int}{C:Nat}{pool L:List NC}{R:List Int} (h:FrI w wr S day C pool L R) (hS:w.heap.size<=S) (c:NC) (rd:Int) (hl:L.length<=1000000) :
 Calls Tryz.prog 196 #[.pointer (some ⟨S,0,none⟩),ncV c,.int .i64 rd] wr fun e w'=>e=.returned (.bool (decide (c ∉ L)))/\FrI w w' S day C pool (xW L c) (xX L R c rd):=by
 obtain ⟨h1,⟨v1,v2,h2⟩,h3⟩:=h
 exact (SU c rd wr h2 h1.size hS hl).mono fun e w' ⟨q1,q2,u1,u2,q3⟩=>⟨q2,h1.trans q1,⟨u1,u2,q3⟩,WZ h3 c rd⟩
theorem FrI.before {w wr:World}{S:Nat}{day:Int}{C:Nat}{pool L:List NC}{R:List Int} (h:FrI w wr S day C pool L R) (c:NC) (n:Nat) (hn:n<=L.length) (hl:L.length<=1000000) (hR:Srt R) (hs:smL L) (hc:smN c) (E:dS w 1) :
 Calls Tryz.prog 119 #[.pointer (some ⟨S,0,none⟩),ncV c,.int .i64 (n:Int)] wr (dR wr (.int .i64 (uB day (L.take n) c))):=by
 obtain ⟨h1,⟨v1,v2,h2⟩,h3⟩:=h
 exact GQ c n wr h2 hn hl hR hs hc (E.below h1)
set_option maxHeartbeats 4000000 in
theorem PM {v1 v2:Value}{roots pool:List NC} (st:List UInt8) (day:Int) (w:World) (h1:RdN w v1 roots) (h2:RdN w v2 pool) (hs1:smL roots) (hs2:smL pool) (hl:roots.length+pool.length<=900000) (E:dS w 1) :
 Calls Tryz.prog 118 #[v1,v2,.string (aK st),.int .i64 day] w (UQ w roots pool st day):=by
 obtain ⟨A1,n1,c1,rfl,hn1,hnc1,hcm1,hel1⟩:=h1.at_
 subst hn1
 obtain ⟨A2,n2,c2,rfl,hn2,hnc2,hcm2,hel2⟩:=h2.at_
 subst hn2
 have HEL1:=ZH hel1
 have HEL2:=ZH hel2
 have HON:=ZH (fun (c:NC) (hs:smN c) W=>jA c day W hs)
 have HRT:=ZH (fun (c:NC) (hs:smN c) W (e:Ext w W)=>qP c W hs (E.below e))
 have HE:=ZH E
 have HS1:=ZH hs1
 have HS2:=ZH hs2
 have HQ:=ZH (fun s=>gJ s st)
 unfold maxLen at hcm1 hcm2
 obtain ⟨wz,hwz,ez,SZ⟩:=VL w day
 have Z0:=ZH (show FrI w wz w.heap.size day (roots.length+pool.length) pool (bR (roots.take 0) st day) [] from ⟨ez,⟨_,_,SZ⟩,rfl⟩)
 clear hel1 hel2 h1 h2 hs1 hs2 E ez SZ
 go_enter Tryz.func118,Tryz.ntmps118
 go_upto_region 2 with fail
 rw [<- hwz]
 clear hwz
 go_wp2_with fail
 go_loopw [22] (fun i wr=>∃ k:Nat,k<=roots.length/\i=.int .i64 (k:Int)/\∃ R:List Int,Hid (FrI w wr w.heap.size day (roots.length+pool.length) pool (bR (roots.take k) st day) R)/\Hid (∀ x ∈ R,x=0)) (fun i _=>roots.length - (intOf i).toNat)
 case atStart=>exact ⟨0,YK _,rfl,[],Z0,ZH (fun x hx=>by simp at hx)⟩
 case round =>
  clear Z0
  obtain ⟨k,hk,rfl,R,Z,HR0⟩:=hrel
  by_cases hlt:k<roots.length
  case neg =>
   obtain rfl:k=roots.length:=by omega
   have HF0:=ZH (show bR (roots.take roots.length) st day=bR roots st day by rw [List.take_length])
   have HI:=ZH (MT (pool:=pool) (st:=st) (day:=day) HR0.out HS1.out)
   have ZZ:Hid (FrI w wr w.heap.size day (roots.length+pool.length) pool (bR roots st day) R):=by have:=Z.out;rw [HF0.out] at this;exact this
   have HD0:Hid (FrD roots pool st day (bR roots st day) 1 true):=ZH ⟨fun _=>⟨rfl,by have:=lG pool (bR roots st day);omega⟩,fun q=>by cases q⟩
   clear Z HF0 HR0 hk hlt
   generalize bR roots st day=L0 at *
   go_wp2_with fail
   go_loopw [12,13] (fun rd mb wr=>∃ (r:Nat) (m:Bool) (L:List NC) (R:List Int),rd=.int .i64 (r:Int)/\mb=.bool m/\1<=r/\r<=pool.length+2/\Hid (FrI w wr w.heap.size day (roots.length+pool.length) pool L R)/\Hid (FnI (roots.length+pool.length) pool L R (r:Int))/\Hid (FrD roots pool st day L r m)) (fun rd _ _=>pool.length+3 - (intOf rd).toNat)
   case atStart=>exact ⟨1,true,L0,R,rfl,rfl,YF _,by omega,ZZ,HI,HD0⟩
   case round =>
    clear ZZ HI HD0
    clear R
    obtain ⟨r,m,L,R,rfl,rfl,r1,r2,Z,HI,HD⟩:=hrel
    cases m
    · have hL:=HD.out.2 rfl
      subst hL
      obtain ⟨zx,⟨u1,u2,zs⟩,zl⟩:=Z.out
      have FIN:=ZH (show UQ w roots pool st day (.returned (.pointer (some ⟨w.heap.size,0,none⟩))) wr from ⟨zx,_,u1,u2,R,rfl,YF _,zs,_,HI.out⟩)
      clear zx zs zl
      go_wp2_with fail
      go_ret
      exact FIN.out
    · have hr3:r<=pool.length+1:=by have:=(HD.out.1 rfl).2;omega
      obtain ⟨zx,⟨u1,u2,zs⟩,zl⟩:=Z.out
      obtain ⟨B1,d1,B2,d2,rfl,rfl,hd1,hd2,hm1,hm2⟩:=zs.forms
      obtain ⟨s0,s1,s2⟩:=zs.cells
      have sl:=zs.lt
      have HLB:=ZH (show L.length<=900000 by have:=HI.out.bd;omega)
      unfold maxLen at hm1 hm2
      clear zx zs zl
      have wr1:IntKind.i64.wrap ((r:Int)+1)=(r:Int)+1:=IntWalk.i64_in _ (by omega)
      go_wp2_with fail
      clear s0 s1 s2 sl
      go_loopw [54,13] (fun i mb wr=>∃ k:Nat,k<=pool.length/\i=.int .i64 (k:Int)/\mb=.bool (decide ((eX day L (pool.take k)).length≠L.length))/\∃ R':List Int,Hid (FrI w wr w.heap.size day (roots.length+pool.length) pool (eX day L (pool.take k)) R')/\Hid (FnI (roots.length+pool.length) pool (eX day L (pool.take k)) R' (r:Int))) (fun i _ _=>pool.length - (intOf i).toNat)
      case atStart=>exact ⟨0,YK _,rfl,by rw [YQ];simp [eX],R,by rw [YQ];exact Z,by rw [YQ];exact HI⟩
      case round =>
       clear Z
       obtain ⟨k,hk,rfl,rfl,R',Z,HIK⟩:=hrel
       by_cases hlt:k<pool.length
       case neg =>
        obtain rfl:k=pool.length:=by omega
        have HRD:Hid (eX day L (pool.take pool.length)=fA pool day L):=ZH (by rw [List.take_length];rfl)
        have HDN:Hid (FrD roots pool st day (eX day L (pool.take pool.length)) (r+1) (decide ((eX day L (pool.take pool.length)).length≠L.length))):=ZH (by rw [HRD.out];exact PL HD.out)
        have HIN:=ZH (HIK.out.up (rd':=((r+1:Nat):Int)) (by omega))
        obtain ⟨m9,hm9⟩:∃ m9,decide ((eX day L (pool.take pool.length)).length≠L.length)=m9:=⟨_,rfl⟩
        rw [hm9] at HDN
        rw [hm9]
        clear HRD
        clear hk hlt HIK HI hm9
        go_wp2_with fail
        go_roundw
        case rel=>exact ⟨r+1,m9,_,R',by go_num,rfl,by omega,by omega,Z,HIN,HDN⟩
        case measure=>simp [intOf];omega
       case pos =>
       obtain ⟨y,hy⟩:∃ y,pool[k]?=some y:=⟨_,YL hlt⟩
       obtain ⟨b,o,rfl,hbl,hc⟩:=HEL2.out (by omega)
       have hcy:=hc k y hy
       have HY:=ZH hy
       have HSY:=ZH (HS2.out y (YS hy))
       have X:=Z.out.ext
       clear hy hc
       have wi1:IntKind.i64.wrap ((k:Int))=(k:Int):=IntWalk.i64_in _ (by omega)
       have zi1:(0:Int)<=(k:Int):=by omega
       have li1:(k:Int)<(pool.length:Int):=by omega
       have ti1:((k:Int)).toNat=k:=by omega
       have wk:IntKind.i64.wrap ((k:Int)+1)=(k:Int)+1:=IntWalk.i64_in _ (by omega)
       have q0:=(X.cell (p:=⟨b,o+k*11,none⟩) hbl).trans hcy.1
       have q1:=(X.cell (p:=⟨b,o+k*11+1,none⟩) hbl).trans hcy.2.1
       have q2:=(X.cell (p:=⟨b,o+k*11+2,none⟩) hbl).trans hcy.2.2.1
       have q3:=(X.cell (p:=⟨b,o+k*11+3,none⟩) hbl).trans hcy.2.2.2.1
       have q4:=(X.cell (p:=⟨b,o+k*11+4,none⟩) hbl).trans hcy.2.2.2.2.1
       have q5:=(X.cell (p:=⟨b,o+k*11+5,none⟩) hbl).trans hcy.2.2.2.2.2.1
       have q6:=(X.cell (p:=⟨b,o+k*11+6,none⟩) hbl).trans hcy.2.2.2.2.2.2.1
       have q7:=(X.cell (p:=⟨b,o+k*11+7,none⟩) hbl).trans hcy.2.2.2.2.2.2.2.1
       have q8:=(X.cell (p:=⟨b,o+k*11+8,none⟩) hbl).trans hcy.2.2.2.2.2.2.2.2.1
       have q9:=(X.cell (p:=⟨b,o+k*11+9,none⟩) hbl).trans hcy.2.2.2.2.2.2.2.2.2.1
       have q10:=(X.cell (p:=⟨b,o+k*11+10,none⟩) hbl).trans hcy.2.2.2.2.2.2.2.2.2.2
       clear hcy
       obtain ⟨wn,hwn,en,TN⟩:=cT wr y
       have HSN:=ZH (wW day L HY.out)
       have HAP:=ZH (MR day L (pool.take k))
       obtain ⟨N,hN⟩:∃ N,eX day L (pool.take k)=N:=⟨_,rfl⟩
       rw [hN] at HSN HAP HIK Z
       rw [hN]
       clear hN
       have HLN:=ZH (show N.length<=1000000 by have:=HIK.out.bd;omega)
       have HTK:Hid (N.take L.length=L):=ZH (by obtain ⟨t,ht⟩:=HAP.out;rw [ht];simp)
       have HNL:=ZH (show L.length<=N.length by obtain ⟨t,ht⟩:=HAP.out;rw [ht];simp)
       obtain ⟨mb,hmb⟩:∃ mb,decide (N.length≠L.length)=mb:=⟨_,rfl⟩
       rw [hmb]
       have HMB:=ZH hmb
       clear hmb
       go_upto_region 16 with fail
       rw [<- hwn]
       clear hwn q0 q1 q2 q3 q4 q5 q6 q7 q8 q9 q10 X
       have HZL:=ZH (show R'.length=N.length from Z.out.len)
       have ZN:=ZH (Z.out.tr en)
       clear Z en
       obtain ⟨p0,p1,p2,p3,p4,p5,p6,p7,p8,p9,p10⟩:=(TN).cells
       have pf0:=(TN).frozen 0
       have pf1:=(TN).frozen 1
       have pf2:=(TN).frozen 2
       have pf3:=(TN).frozen 3
       have pf4:=(TN).frozen 4
       have pf5:=(TN).frozen 5
       have pf6:=(TN).frozen 6
       have pf7:=(TN).frozen 7
       have pf8:=(TN).frozen 8
       have pf9:=(TN).frozen 9
       have pf10:=(TN).frozen 10
       have pl:=(TN).lt
       by_cases k2:y.kind=2
       case neg =>
        have hb:(y.kind == 2)=false:=by simpa using k2
        have HF:=ZH (show eX day L (pool.take (k+1))=N by rw [HSN.out];unfold dW;rw [if_neg (fun q=>k2 q.1)])
        clear k2
        go_wp2_with fail
        go_roundw
        case rel=>exact ⟨k+1,by omega,by go_num,by rw [HF.out,HMB.out],R',by rw [HF.out];exact ZN,by rw [HF.out];exact HIK⟩
        case measure=>simp [intOf];omega
       have hb:(y.kind == 2)=true:=by simpa using k2
       have K2:=ZH k2
       clear k2
       go_wp2_with fail
       refine (ZN.out.before y L.length HNL.out HLN.out HIK.out.srt HIK.out.sm HSY.out HE.out).mono ?_
       rintro e w2 ⟨rfl,b2⟩
       rw [HTK.out]
       have TN2:=TN.ext b2
       have Z2:=ZH (ZN.out.tr b2)
       clear p0 pf0 p1 pf1 p2 pf2 p3 pf3 p4 pf4 p5 pf5 p6 pf6 p7 pf7 p8 pf8 p9 pf9 p10 pf10 pl
       clear TN ZN b2
       by_cases an:(L.any fun a=>fG day a y)=true
       case neg =>
        have hz:¬ ((0:Int)<=uB day L y):=fun q=>an (PJ.1 q)
        have hz2:uB day L y<0:=by omega
        have HF:=ZH (show eX day L (pool.take (k+1))=N by rw [HSN.out];unfold dW;rw [if_neg (fun q=>an q.2.2)])
        clear an
        generalize uB day L y=z at *
        go_wp2_with fail
        go_roundw
        case rel=>exact ⟨k+1,by omega,by go_num,by rw [HF.out,HMB.out],R',by rw [HF.out];exact Z2,by rw [HF.out];exact HIK⟩
        case measure=>simp [intOf];omega
       have hz:(0:Int)<=uB day L y:=PJ.2 an
       have AN:=ZH an
       clear an
       generalize uB day L y=z at *
       obtain ⟨p0,p1,p2,p3,p4,p5,p6,p7,p8,p9,p10⟩:=(TN2).cells
       have pf0:=(TN2).frozen 0
       have pf1:=(TN2).frozen 1
       have pf2:=(TN2).frozen 2
       have pf3:=(TN2).frozen 3
       have pf4:=(TN2).frozen 4
       have pf5:=(TN2).frozen 5
       have pf6:=(TN2).frozen 6
       have pf7:=(TN2).frozen 7
       have pf8:=(TN2).frozen 8
       have pf9:=(TN2).frozen 9
       have pf10:=(TN2).frozen 10
       have pl:=(TN2).lt
       go_wp2_with fail
       refine (Z2.out.add (YF _) y (r:Int) HLN.out).mono ?_
       rintro e w4 ⟨rfl,Z4⟩
       have HZ4:=ZH Z4
       clear p0 pf0 p1 pf1 p2 pf2 p3 pf3 p4 pf4 p5 pf5 p6 pf6 p7 pf7 p8 pf8 p9 pf9 p10 pf10 pl
       clear TN2 Z2 Z4
       by_cases hm:y ∈ N
       · have HF:=ZH (show eX day L (pool.take (k+1))=N by rw [HSN.out];unfold dW;rw [if_neg (fun q=>q.2.1 hm)])
         have HA1:=ZH (show xW N y=N from if_pos hm)
         have HA2:=ZH (show xX N R' y (r:Int)=R' from if_pos hm)
         have hd:decide (y ∉ N)=false:=decide_eq_false (fun q=>q hm)
         rw [hd]
         clear hm hd
         go_wp2_with fail
         go_roundw
         case rel=>exact ⟨k+1,by omega,by go_num,by rw [HF.out,HMB.out],R',by have:=HZ4.out;rw [HA1.out,HA2.out] at this;rw [HF.out];exact this,by rw [HF.out];exact HIK⟩
         case measure=>simp [intOf];omega
       · have HF:=ZH (show eX day L (pool.take (k+1))=N++[y] by rw [HSN.out];unfold dW;rw [if_pos ⟨K2.out,hm,AN.out⟩])
         have HA1:=ZH (show xW N y=N++[y] from if_neg hm)
         have HA2:=ZH (show xX N R' y (r:Int)=R'++[(r:Int)] from if_neg hm)
         have HIA:=ZH (HIK.out.app (c:=y) HZL.out ⟨fun q=>by omega,fun q=>by rw [K2.out] at q;cases q⟩ HSY.out (GT (YS HY.out) hm HIK.out.bd))
         have hd:decide (y ∉ N)=true:=decide_eq_true hm
         have HMT:=ZH (show decide ((N++[y]).length≠L.length)=true from decide_eq_true (by rw [YJ];simp only [YP,YN];have:=HNL.out;omega))
         rw [hd]
         clear hm hd
         go_wp2_with fail
         go_roundw
         case rel=>exact ⟨k+1,by omega,by go_num,by rw [HF.out,HMT.out],_,by have:=HZ4.out;rw [HA1.out,HA2.out] at this;rw [HF.out];exact this,by rw [HF.out];exact HIA⟩
         case measure=>simp [intOf];omega
  case pos =>
  obtain ⟨y,hy⟩:∃ y,roots[k]?=some y:=⟨_,YL hlt⟩
  obtain ⟨b,o,rfl,hbl,hc⟩:=HEL1.out (by omega)
  have hcy:=hc k y hy
  have HY:=ZH hy
  have HSY:=ZH (HS1.out y (YS hy))
  have X:=Z.out.ext
  clear hy hc
  have wi2:IntKind.i64.wrap ((k:Int))=(k:Int):=IntWalk.i64_in _ (by omega)
  have zi2:(0:Int)<=(k:Int):=by omega
  have li2:(k:Int)<(roots.length:Int):=by omega
  have ti2:((k:Int)).toNat=k:=by omega
  have wk:IntKind.i64.wrap ((k:Int)+1)=(k:Int)+1:=IntWalk.i64_in _ (by omega)
  have q0:=(X.cell (p:=⟨b,o+k*11,none⟩) hbl).trans hcy.1
  have q1:=(X.cell (p:=⟨b,o+k*11+1,none⟩) hbl).trans hcy.2.1
  have q2:=(X.cell (p:=⟨b,o+k*11+2,none⟩) hbl).trans hcy.2.2.1
  have q3:=(X.cell (p:=⟨b,o+k*11+3,none⟩) hbl).trans hcy.2.2.2.1
  have q4:=(X.cell (p:=⟨b,o+k*11+4,none⟩) hbl).trans hcy.2.2.2.2.1
  have q5:=(X.cell (p:=⟨b,o+k*11+5,none⟩) hbl).trans hcy.2.2.2.2.2.1
  have q6:=(X.cell (p:=⟨b,o+k*11+6,none⟩) hbl).trans hcy.2.2.2.2.2.2.1
  have q7:=(X.cell (p:=⟨b,o+k*11+7,none⟩) hbl).trans hcy.2.2.2.2.2.2.2.1
  have q8:=(X.cell (p:=⟨b,o+k*11+8,none⟩) hbl).trans hcy.2.2.2.2.2.2.2.2.1
  have q9:=(X.cell (p:=⟨b,o+k*11+9,none⟩) hbl).trans hcy.2.2.2.2.2.2.2.2.2.1
  have q10:=(X.cell (p:=⟨b,o+k*11+10,none⟩) hbl).trans hcy.2.2.2.2.2.2.2.2.2.2
  clear hcy
  obtain ⟨wn,hwn,en,TN⟩:=cT wr y
  go_upto_region 5 with fail
  rw [<- hwn]
  clear hwn q0 q1 q2 q3 q4 q5 q6 q7 q8 q9 q10 X
  have ZN:=ZH (Z.out.tr en)
  obtain ⟨p0,p1,p2,p3,p4,p5,p6,p7,p8,p9,p10⟩:=(TN).cells
  have pf0:=(TN).frozen 0
  have pf1:=(TN).frozen 1
  have pf2:=(TN).frozen 2
  have pf3:=(TN).frozen 3
  have pf4:=(TN).frozen 4
  have pf5:=(TN).frozen 5
  have pf6:=(TN).frozen 6
  have pf7:=(TN).frozen 7
  have pf8:=(TN).frozen 8
  have pf9:=(TN).frozen 9
  have pf10:=(TN).frozen 10
  have pl:=(TN).lt
  have HSN:=ZH (tN st day HY.out)
  by_cases c1':y.st=st
  case neg =>
   have hb:((aK y.st).toList == (aK st).toList)=false:=by rw [HQ.out];exact decide_eq_false c1'
   have HF:=ZH (show bR (roots.take (k+1)) st day=bR (roots.take k) st day by rw [HSN.out];unfold cE;rw [if_neg (fun q=>c1' q.1.1)])
   clear c1'
   go_wp2_with fail
   go_roundw
   case rel=>exact ⟨k+1,by omega,by go_num,R,by rw [HF.out];exact ZN,HR0⟩
   case measure=>simp [intOf];omega
  have hb:((aK y.st).toList == (aK st).toList)=true:=by rw [HQ.out];exact decide_eq_true c1'
  have C1:=ZH c1'
  clear c1'
  go_wp2_with fail
  refine (HON.out y HSY.out _).mono ?_
  rintro e w2 ⟨rfl,b2⟩
  have TN2:=TN.ext b2
  have Z2:=ZH (ZN.out.tr b2)
  clear p0 pf0 p1 pf1 p2 pf2 p3 pf3 p4 pf4 p5 pf5 p6 pf6 p7 pf7 p8 pf8 p9 pf9 p10 pf10 pl
  clear TN ZN b2
  by_cases c2':onN y day=0
  case neg =>
   have hb2:(onN y day == 0)=false:=by simpa using c2'
   have HF:=ZH (show bR (roots.take (k+1)) st day=bR (roots.take k) st day by rw [HSN.out];unfold cE;rw [if_neg (fun q=>c2' q.1.2.1)])
   clear c2'
   go_wp2_with fail
   go_roundw
   case rel=>exact ⟨k+1,by omega,by go_num,R,by rw [HF.out];exact Z2,HR0⟩
   case measure=>simp [intOf];omega
  have hb2:(onN y day == 0)=true:=by simpa using c2'
  have C2:=ZH c2'
  clear c2'
  obtain ⟨p0,p1,p2,p3,p4,p5,p6,p7,p8,p9,p10⟩:=(TN2).cells
  have pf0:=(TN2).frozen 0
  have pf1:=(TN2).frozen 1
  have pf2:=(TN2).frozen 2
  have pf3:=(TN2).frozen 3
  have pf4:=(TN2).frozen 4
  have pf5:=(TN2).frozen 5
  have pf6:=(TN2).frozen 6
  have pf7:=(TN2).frozen 7
  have pf8:=(TN2).frozen 8
  have pf9:=(TN2).frozen 9
  have pf10:=(TN2).frozen 10
  have pl:=(TN2).lt
  go_wp2_with fail
  refine (HRT.out y HSY.out _ Z2.out.ext).mono ?_
  rintro e w3 ⟨rfl,b3⟩
  have TN3:=TN2.ext b3
  have Z3:=ZH (Z2.out.tr b3)
  clear p0 pf0 p1 pf1 p2 pf2 p3 pf3 p4 pf4 p5 pf5 p6 pf6 p7 pf7 p8 pf8 p9 pf9 p10 pf10 pl
  clear TN2 Z2 b3
  obtain ⟨rb,hrb⟩:∃ rb,rtN y=rb:=⟨_,rfl⟩
  rw [hrb]
  cases rb
  · have HF:=ZH (show bR (roots.take (k+1)) st day=bR (roots.take k) st day by rw [HSN.out];unfold cE;rw [if_neg (fun q=>by have:=q.1.2.2;rw [hrb] at this;cases this)])
    clear hrb
    go_wp2_with fail
    go_roundw
    case rel=>exact ⟨k+1,by omega,by go_num,R,by rw [HF.out];exact Z3,HR0⟩
    case measure=>simp [intOf];omega
  have HF:=ZH (show bR (roots.take (k+1)) st day=xW (bR (roots.take k) st day) y by
   rw [HSN.out]
   unfold cE xW
   by_cases hm:y ∈ bR (roots.take k) st day
   · rw [if_neg (fun q=>q.2 hm),if_pos hm]
   · rw [if_pos ⟨⟨C1.out,C2.out,hrb⟩,hm⟩,if_neg hm])
  clear hrb
  obtain ⟨p0,p1,p2,p3,p4,p5,p6,p7,p8,p9,p10⟩:=(TN3).cells
  have pf0:=(TN3).frozen 0
  have pf1:=(TN3).frozen 1
  have pf2:=(TN3).frozen 2
  have pf3:=(TN3).frozen 3
  have pf4:=(TN3).frozen 4
  have pf5:=(TN3).frozen 5
  have pf6:=(TN3).frozen 6
  have pf7:=(TN3).frozen 7
  have pf8:=(TN3).frozen 8
  have pf9:=(TN3).frozen 9
  have pf10:=(TN3).frozen 10
  have pl:=(TN3).lt
  go_wp2_with fail
  refine (Z3.out.add (YF _) y 0 (by have h1:=kC st day (roots.take k);have h2:=List.length_take_le k roots;rw [YY] at h1;omega)).mono ?_
  rintro e w4 ⟨rfl,Z4⟩
  have HZ4:=ZH Z4
  have HR4:Hid (∀ x ∈ xX (bR (roots.take k) st day) R y 0,x=0):=ZH (by
   unfold xX
   split
   · exact HR0.out
   · intro x hx
     rcases List.mem_append.1 hx with q | q
     · exact HR0.out x q
     · exact List.mem_singleton.1 q)
  clear p0 pf0 p1 pf1 p2 pf2 p3 pf3 p4 pf4 p5 pf5 p6 pf6 p7 pf7 p8 pf8 p9 pf9 p10 pf10 pl
  clear TN3 Z3 Z4
  go_wp2_with fail
  go_roundw
  case rel=>exact ⟨k+1,by omega,by go_num,_,by rw [HF.out];exact HZ4,HR4⟩
  case measure=>simp [intOf];omega
def EF (w:World) (l:List NC) (e:Ending) (w':World):Prop:=Ext w w'/\∃ (A:Option Addr) (c:Nat),e=.returned (.slice A l.length c)/\RdN w' (.slice A l.length c) l
set_option maxHeartbeats 2000000 in
theorem EG {v1 v2:Value}{roots pool:List NC} (st:List UInt8) (day:Int) (w:World) (h1:RdN w v1 roots) (h2:RdN w v2 pool) (hs1:smL roots) (hs2:smL pool) (hl:roots.length+pool.length<=900000) (E:dS w 1) :
 Calls Tryz.prog 41 #[v1,v2,.string (aK st),.int .i64 day] w (EF w (cW roots pool st day)):=by
 have HF:=ZH (PM st day w h1 h2 hs1 hs2 hl E)
 clear h1 h2 hs1 hs2 E
 go_enter Tryz.func41,Tryz.ntmps41
 go_wp2_with fail
 refine HF.out.mono ?_
 rintro e w2 ⟨x2,S,u1,u2,R,rfl,hS,zs,rd,hI⟩
 obtain ⟨B1,d1,B2,d2,rfl,rfl,_⟩:=zs.forms
 have HR:=ZH zs.own1.rd
 have HX:=ZH x2
 obtain ⟨s0,s1,s2⟩:=zs.cells
 have sl:=zs.lt
 clear zs hI x2 hS
 go_wp2_with fail
 go_ret
 exact ⟨HX.out,B1,d1,rfl,HR.out⟩
structure LsZ (w wr:World) (v:Value) (L:List NC):Prop where
 ext:Ext w wr
 own:aJ wr w.heap.size 56 11 v (aD L)
 form:∃ A c,v=.slice A L.length c
theorem LsZ.tr {w wr wx:World}{v:Value}{L:List NC} (h:LsZ w wr v L) (e:Ext wr wx):LsZ w wx v L:=⟨h.ext.tr e,h.own.ext e,h.form⟩
theorem LsZ.rd {w wr:World}{v:Value}{L:List NC} (h:LsZ w wr v L):RdN wr v L:=h.own.rd
theorem pO (w:World) (c:NC):RdK (w.alloc (.cells (aH c).toArray 56)) 11 (.slice (some ⟨w.heap.size,0,none⟩) 1 1) (aH c):=by
 have:=RdK.lit w 11 (aH c).toArray 56 1 rfl (by unfold maxLen;omega)
 simpa using this
set_option maxHeartbeats 4000000 in
theorem BN {v1:Value}{roots:List NC} (st:List UInt8) (day:Int) (w:World) (h1:RdN w v1 roots) (hs1:smL roots) (hl:roots.length<=900000) (E:dS w 0) :
 Calls Tryz.prog 126 #[v1,.string (aK st),.int .i64 day] w fun e w'=>∃ v,e=.returned v/\LsZ w w' v (bR roots st day):=by
 obtain ⟨A1,n1,c1,rfl,hn1,hnc1,hcm1,hel1⟩:=h1.at_
 subst hn1
 have HEL1:=ZH hel1
 unfold maxLen at hcm1
 have HON:=ZH (fun (c:NC) (hs:smN c) W=>fN c day W hs)
 have HRT:=ZH (fun (c:NC) (hs:smN c) W (e:Ext w W)=>jB c W hs (E.below e))
 have HS1:=ZH hs1
 have HQ:=ZH (fun s=>gJ s st)
 clear hel1 h1 hs1 E
 go_enter Tryz.func126,Tryz.ntmps126
 go_wp2_with fail
 go_loopw [7,8] (fun out i wr=>∃ k:Nat,k<=roots.length/\i=.int .i64 (k:Int)/\Hid (LsZ w wr out (bR (roots.take k) st day))) (fun _ i _=>roots.length - (intOf i).toNat)
 case atStart=>exact ⟨0,YK _,rfl,ZH ⟨Below.refl _ _,aJ.empty _ _ _ _ _,_,_,rfl⟩⟩
 case round =>
  obtain ⟨k,hk,rfl,Z⟩:=hrel
  obtain ⟨Ao,co,rfl⟩:=Z.out.form
  by_cases hlt:k<roots.length
  case neg =>
   obtain rfl:k=roots.length:=by omega
   have HF:Hid (LsZ w wr _ (bR roots st day)):=ZH (by have:=Z.out;rw [List.take_length] at this;exact this)
   clear Z
   go_wp2_with fail
   go_ret
   exact ⟨_,rfl,by have:=HF.out;simpa [List.take_length] using this⟩
  case pos =>
  obtain ⟨y,hy⟩:∃ y,roots[k]?=some y:=⟨_,YL hlt⟩
  obtain ⟨b,o,rfl,hbl,hc⟩:=HEL1.out (by omega)
  have hcy:=hc k y hy
  have HY:=ZH hy
  have HSY:=ZH (HS1.out y (YS hy))
  have X:=Z.out.ext
  clear hy hc
  have wi1:IntKind.i64.wrap ((k:Int))=(k:Int):=IntWalk.i64_in _ (by omega)
  have zi1:(0:Int)<=(k:Int):=by omega
  have li1:(k:Int)<(roots.length:Int):=by omega
  have ti1:((k:Int)).toNat=k:=by omega
  have wk:IntKind.i64.wrap ((k:Int)+1)=(k:Int)+1:=IntWalk.i64_in _ (by omega)
  have q0:=(X.cell (p:=⟨b,o+k*11,none⟩) hbl).trans hcy.1
  have q1:=(X.cell (p:=⟨b,o+k*11+1,none⟩) hbl).trans hcy.2.1
  have q2:=(X.cell (p:=⟨b,o+k*11+2,none⟩) hbl).trans hcy.2.2.1
  have q3:=(X.cell (p:=⟨b,o+k*11+3,none⟩) hbl).trans hcy.2.2.2.1
  have q4:=(X.cell (p:=⟨b,o+k*11+4,none⟩) hbl).trans hcy.2.2.2.2.1
  have q5:=(X.cell (p:=⟨b,o+k*11+5,none⟩) hbl).trans hcy.2.2.2.2.2.1
  have q6:=(X.cell (p:=⟨b,o+k*11+6,none⟩) hbl).trans hcy.2.2.2.2.2.2.1
  have q7:=(X.cell (p:=⟨b,o+k*11+7,none⟩) hbl).trans hcy.2.2.2.2.2.2.2.1
  have q8:=(X.cell (p:=⟨b,o+k*11+8,none⟩) hbl).trans hcy.2.2.2.2.2.2.2.2.1
  have q9:=(X.cell (p:=⟨b,o+k*11+9,none⟩) hbl).trans hcy.2.2.2.2.2.2.2.2.2.1
  have q10:=(X.cell (p:=⟨b,o+k*11+10,none⟩) hbl).trans hcy.2.2.2.2.2.2.2.2.2.2
  clear hcy
  obtain ⟨wn,hwn,en,TN⟩:=cT wr y
  have HSN:=ZH (tN st day HY.out)
  have HLE:=ZH (show (bR (roots.take k) st day).length<=900000 by have h1:=kC st day (roots.take k);rw [YY] at h1;omega)
  obtain ⟨N,hN⟩:∃ N,bR (roots.take k) st day=N:=⟨_,rfl⟩
  rw [hN] at HSN HLE Z
  rw [hN]
  clear hN
  go_upto_region 6 with fail
  rw [<- hwn]
  clear hwn q0 q1 q2 q3 q4 q5 q6 q7 q8 q9 q10 X
  have ZN:=ZH (Z.out.tr en)
  clear Z en
  obtain ⟨p0,p1,p2,p3,p4,p5,p6,p7,p8,p9,p10⟩:=(TN).cells
  have pf0:=(TN).frozen 0
  have pf1:=(TN).frozen 1
  have pf2:=(TN).frozen 2
  have pf3:=(TN).frozen 3
  have pf4:=(TN).frozen 4
  have pf5:=(TN).frozen 5
  have pf6:=(TN).frozen 6
  have pf7:=(TN).frozen 7
  have pf8:=(TN).frozen 8
  have pf9:=(TN).frozen 9
  have pf10:=(TN).frozen 10
  have pl:=(TN).lt
  by_cases d1:y.st=st
  case neg =>
   have hb:((aK y.st).toList == (aK st).toList)=false:=by rw [HQ.out];exact decide_eq_false d1
   have HF:=ZH (show bR (roots.take (k+1)) st day=N by rw [HSN.out];unfold cE;rw [if_neg (fun q=>d1 q.1.1)])
   clear d1
   go_wp2_with fail
   go_roundw
   case rel=>exact ⟨k+1,by omega,by go_num,by rw [HF.out];exact ZN⟩
   case measure=>simp [intOf];omega
  have hb:((aK y.st).toList == (aK st).toList)=true:=by rw [HQ.out];exact decide_eq_true d1
  have C1:=ZH d1
  clear d1
  go_wp2_with fail
  refine (HON.out y HSY.out _).mono ?_
  rintro e w2 ⟨rfl,b2⟩
  have TN2:=TN.ext b2
  have Z2:=ZH (ZN.out.tr b2)
  clear p0 pf0 p1 pf1 p2 pf2 p3 pf3 p4 pf4 p5 pf5 p6 pf6 p7 pf7 p8 pf8 p9 pf9 p10 pf10 pl
  clear TN ZN b2
  by_cases d2:onN y day=0
  case neg =>
   have hb2:(onN y day == 0)=false:=by simpa using d2
   have HF:=ZH (show bR (roots.take (k+1)) st day=N by rw [HSN.out];unfold cE;rw [if_neg (fun q=>d2 q.1.2.1)])
   clear d2
   go_wp2_with fail
   go_roundw
   case rel=>exact ⟨k+1,by omega,by go_num,by rw [HF.out];exact Z2⟩
   case measure=>simp [intOf];omega
  have hb2:(onN y day == 0)=true:=by simpa using d2
  have C2:=ZH d2
  clear d2
  obtain ⟨p0,p1,p2,p3,p4,p5,p6,p7,p8,p9,p10⟩:=(TN2).cells
  have pf0:=(TN2).frozen 0
  have pf1:=(TN2).frozen 1
  have pf2:=(TN2).frozen 2
  have pf3:=(TN2).frozen 3
  have pf4:=(TN2).frozen 4
  have pf5:=(TN2).frozen 5
  have pf6:=(TN2).frozen 6
  have pf7:=(TN2).frozen 7
  have pf8:=(TN2).frozen 8
  have pf9:=(TN2).frozen 9
  have pf10:=(TN2).frozen 10
  have pl:=(TN2).lt
  go_wp2_with fail
  refine (HRT.out y HSY.out _ Z2.out.ext).mono ?_
  rintro e w3 ⟨rfl,b3⟩
  have TN3:=TN2.ext b3
  have Z3:=ZH (Z2.out.tr b3)
  clear p0 pf0 p1 pf1 p2 pf2 p3 pf3 p4 pf4 p5 pf5 p6 pf6 p7 pf7 p8 pf8 p9 pf9 p10 pf10 pl
  clear TN2 Z2 b3
  obtain ⟨rb,hrb⟩:∃ rb,rtN y=rb:=⟨_,rfl⟩
  rw [hrb]
  cases rb
  · have HF:=ZH (show bR (roots.take (k+1)) st day=N by rw [HSN.out];unfold cE;rw [if_neg (fun q=>by have:=q.1.2.2;rw [hrb] at this;cases this)])
    clear hrb
    go_wp2_with fail
    go_roundw
    case rel=>exact ⟨k+1,by omega,by go_num,by rw [HF.out];exact Z3⟩
    case measure=>simp [intOf];omega
  have C3:=ZH hrb
  clear hrb
  obtain ⟨p0,p1,p2,p3,p4,p5,p6,p7,p8,p9,p10⟩:=(TN3).cells
  have pf0:=(TN3).frozen 0
  have pf1:=(TN3).frozen 1
  have pf2:=(TN3).frozen 2
  have pf3:=(TN3).frozen 3
  have pf4:=(TN3).frozen 4
  have pf5:=(TN3).frozen 5
  have pf6:=(TN3).frozen 6
  have pf7:=(TN3).frozen 7
  have pf8:=(TN3).frozen 8
  have pf9:=(TN3).frozen 9
  have pf10:=(TN3).frozen 10
  have pl:=(TN3).lt
  go_wp2_with fail
  refine (wO y _ Z3.out.rd).mono ?_
  rintro e w4 ⟨rfl,b4⟩
  have TN4:=TN3.ext b4
  have Z4:=ZH (Z3.out.tr b4)
  clear p0 pf0 p1 pf1 p2 pf2 p3 pf3 p4 pf4 p5 pf5 p6 pf6 p7 pf7 p8 pf8 p9 pf9 p10 pf10 pl
  clear TN3 Z3 b4
  by_cases hm:y ∈ N
  · have HF:=ZH (show bR (roots.take (k+1)) st day=N by rw [HSN.out];unfold cE;rw [if_neg (fun q=>q.2 hm)])
    rw [decide_eq_true hm]
    clear hm
    go_wp2_with fail
    go_roundw
    case rel=>exact ⟨k+1,by omega,by go_num,by rw [HF.out];exact Z4⟩
    case measure=>simp [intOf];omega
  have HF:=ZH (show bR (roots.take (k+1)) st day=N++[y] by rw [HSN.out];unfold cE;rw [if_pos ⟨⟨C1.out,C2.out,C3.out⟩,hm⟩])
  rw [decide_eq_false hm]
  clear hm
  obtain ⟨p0,p1,p2,p3,p4,p5,p6,p7,p8,p9,p10⟩:=(TN4).cells
  have pf0:=(TN4).frozen 0
  have pf1:=(TN4).frozen 1
  have pf2:=(TN4).frozen 2
  have pf3:=(TN4).frozen 3
  have pf4:=(TN4).frozen 4
  have pf5:=(TN4).frozen 5
  have pf6:=(TN4).frozen 6
  have pf7:=(TN4).frozen 7
  have pf8:=(TN4).frozen 8
  have pf9:=(TN4).frozen 9
  have pf10:=(TN4).frozen 10
  have pl:=(TN4).lt
  have eA:Ext w4 (w4.alloc (.cells (aH y).toArray 56)):=(Below.refl _ _).alloc (YF _) _
  have HRK:=ZH (pO w4 y)
  have HOA:=ZH (Z4.out.tr eA)
  unfold aH at HRK HOA
  clear eA
  go_wp2_with (refine bL (k:=11) (by decide) hF (n:=N.length) (m:=1) (B:=w.heap.size) HOA.out.own (by rw [bJ]) HRK.out (by rfl) (eF y) HOA.out.ext (by have:=HLE.out;omega) (by have:=HLE.out;unfold maxLen;omega) HOA.out.ext.size rfl rfl rfl rfl ?_;intro A8 n8 c8 w8 hn8 o8 x8 _)
  have hn8:n8=(N++[y]).length:=by rw [YJ];exact hn8.out
  subst hn8
  have Z8:Hid (LsZ w w8 (.slice A8 (N++[y]).length c8) (N++[y])):=ZH ⟨x8,by rw [<- eE];exact o8,_,_,rfl⟩
  clear x8 o8
  go_roundw
  case rel=>exact ⟨k+1,by omega,by go_num,by rw [HF.out];exact Z8⟩
  case measure=>simp [intOf];omega
def KQ:Value->Nat
 | .slice _ n _=>n
 | _=>0
theorem mZ {day:Int}{out next:List NC}{y:NC} (h:¬ DW day out next y):dW day out next y=next:=if_neg h
theorem BO {day:Int}{out next:List NC}{y:NC} (h:DW day out next y):dW day out next y=next++[y]:=if_pos h
theorem VM {day:Int}{L:List NC}{y:NC} (h:∀ (j:Nat) (a:NC),j<L.length->L[j]?=some a->fG day a y=false):(L.any fun a=>fG day a y)=false:=by
 rw [List.any_eq_false]
 intro a ha
 obtain ⟨j,hj,rfl⟩:=List.getElem_of_mem ha
 rw [h j _ hj (YL hj)]
 simp
theorem T6 {day:Int}{L:List NC}{y a:NC}{j:Nat} (hj:L[j]?=some a) (h:fG day a y=true):(L.any fun a=>fG day a y)=true:=List.any_eq_true.2 ⟨a,YS hj,h⟩
theorem LsZ.mono {w w' wr:World}{v:Value}{L:List NC} (e:Ext w w') (h:LsZ w' wr v L):LsZ w wr v L:=⟨e.tr h.ext,h.own.mono e.size,h.form⟩
set_option maxHeartbeats 8000000 in
theorem nB {v1 v2:Value}{roots pool:List NC} (st:List UInt8) (day:Int) (w:World) (h1:RdN w v1 roots) (h2:RdN w v2 pool) (hs1:smL roots) (hs2:smL pool) (hl:roots.length+pool.length<=900000) (E:dS w 0) :
 Calls Tryz.prog 42 #[v1,v2,.string (aK st),.int .i64 day] w fun e w'=>∃ v,e=.returned v/\LsZ w w' v (cW roots pool st day):=by
 have HFI:=ZH (BN st day w h1 hs1 (by omega) E)
 obtain ⟨A2,n2,c2,rfl,hn2,hnc2,hcm2,hel2⟩:=h2.at_
 subst hn2
 have HEL2:=ZH hel2
 unfold maxLen at hcm2
 have HFL:=ZH (fun (a b:NC) (ha:smN a) (hb:smN b) W (e:Ext w W)=>hH a b day W ha hb (E.below e))
 have HS2:=ZH hs2
 have HI0:=ZH (show smL (bR roots st day)/\(bR roots st day).length+iE pool (bR roots st day)<=roots.length+pool.length from ⟨fun c hc=>hs1 c (iM hc).1,by
  have h1:=kC st day roots
  have h2:=lG pool (bR roots st day)
  omega⟩)
 have HT0:Hid (xU pool day (bR roots st day)=cW roots pool st day):=ZH rfl
 clear hel2 h1 h2 hs1 hs2 E
 go_enter Tryz.func42,Tryz.ntmps42
 go_wp2_with fail
 refine HFI.out.mono ?_
 rintro e w1 ⟨o1,rfl,z1⟩
 have Z1:=ZH z1
 generalize bR roots st day=L0 at *
 clear HFI z1
 go_wp2_with fail
 go_loopw [9] (fun out wr=>∃ L:List NC,Hid (LsZ w wr out L)/\Hid (xU pool day L=cW roots pool st day)/\Hid (smL L/\L.length+iE pool L<=roots.length+pool.length)) (fun out _=>roots.length+pool.length+1 - KQ out)
 case atStart=>exact ⟨L0,Z1,HT0,HI0⟩
 case round =>
  clear Z1 HT0 HI0
  obtain ⟨L,Z,HT,HI⟩:=hrel
  obtain ⟨Ao,co,rfl⟩:=Z.out.form
  obtain ⟨wo,hwo⟩:∃ wo,wo=wr:=⟨_,rfl⟩
  subst hwo
  have HLL:=ZH (show L.length<=900000 by have:=HI.out.2;omega)
  have hLC:L.length<=roots.length+pool.length:=by have:=HI.out.2;omega
  have e6:Ext wo (wo.alloc (.cells #[] 56)):=(Below.refl _ _).alloc (YF _) _
  have R6:=ZH (RdK.ext (Z.out.rd) e6)
  have E6:=ZH e6
  clear e6
  go_wp2_with (refine bL (k:=11) (by decide) hF (n:=0) (m:=L.length) (B:=wo.heap.size) (aJ.empty _ _ _ _ _) rfl R6.out (by rw [bJ]) (hC L) E6.out (by have:=HLL.out;omega) (by have:=HLL.out;unfold maxLen;omega) E6.out.size rfl rfl rfl rfl ?_;intro A7 n7 c7 w7 hn7 o7 b7 _)
  have hn7:n7=L.length:=by have:=hn7.out;omega
  subst hn7
  have ZX:Hid (LsZ wo w7 (.slice A7 L.length c7) (eX day L (pool.take 0))):=ZH ⟨b7,by rw [ZA] at o7;exact o7,_,_,rfl⟩
  clear R6 E6 o7 b7
  go_wp2_with fail
  go_loopw [10,11] (fun nx i wr=>∃ k:Nat,k<=pool.length/\i=.int .i64 (k:Int)/\Hid (LsZ wo wr nx (eX day L (pool.take k)))/\Hid ((eX day L (pool.take k)).length+iE pool (eX day L (pool.take k))<=roots.length+pool.length)) (fun _ i _=>pool.length - (intOf i).toNat)
  case atStart=>exact ⟨0,YK _,rfl,ZX,ZH HI.out.2⟩
  case round =>
   clear ZX
   obtain ⟨k,hk,rfl,ZN,HB⟩:=hrel
   obtain ⟨An,cn,rfl⟩:=ZN.out.form
   by_cases hlt:k<pool.length
   case neg =>
    obtain rfl:k=pool.length:=by omega
    have HRD:Hid (eX day L (pool.take pool.length)=fA pool day L):=ZH (by rw [List.take_length];rfl)
    obtain ⟨N,hN⟩:∃ N,eX day L (pool.take pool.length)=N:=⟨_,rfl⟩
    rw [hN] at HRD ZN HB
    rw [hN]
    clear hN hk hlt
    by_cases hle:N.length=L.length
    · have hb:((N.length:Int) == (L.length:Int))=true:=by simp [hle]
      have HF:=ZH (show L=cW roots pool st day by rw [<- HT.out];exact (zD (by rw [<- HRD.out];exact hle)).symm)
      have ZF:=ZH (Z.out.tr ZN.out.ext)
      clear hle
      go_wp2_with fail
      go_ret
      exact ⟨_,rfl,by have:=ZF.out;rw [<- HF.out];exact this⟩
    · have hb:((N.length:Int) == (L.length:Int))=false:=by simp;omega
      have hge:L.length<N.length:=by
       obtain ⟨t,e,_⟩:=iL pool day L
       rw [<- HRD.out] at e
       have h9:=congrArg List.length e
       rw [YJ] at h9
       omega
      have HT2:=ZH (show xU pool day N=cW roots pool st day by rw [HRD.out,<- zE (by rw [<- HRD.out];exact hle)];exact HT.out)
      have HS9:Hid (smL N):=ZH (by
       rw [HRD.out]
       obtain ⟨t,e,ht⟩:=iL pool day L
       rw [e]
       exact HI.out.1.app fun c hc=>HS2.out c (ht c hc).1)
      have HI2:=ZH (And.intro HS9.out HB.out)
      have ZF:=ZH (LsZ.mono Z.out.ext ZN.out)
      have hNC:N.length<=roots.length+pool.length:=by have:=HB.out;omega
      clear hle
      go_wp2_with fail
      go_roundw
      case rel=>exact ⟨N,ZF,HT2,HI2⟩
      case measure=>simp [KQ];omega
   case pos =>
   obtain ⟨y,hy⟩:∃ y,pool[k]?=some y:=⟨_,YL hlt⟩
   obtain ⟨b,o,rfl,hbl,hc⟩:=HEL2.out (by omega)
   have hcy:=hc k y hy
   have HY:=ZH hy
   have HSY:=ZH (HS2.out y (YS hy))
   have HX:=ZH (Z.out.ext.tr ZN.out.ext)
   have X:=HX.out
   have HCY:=ZH hcy
   clear hy hc
   have wi1:IntKind.i64.wrap ((k:Int))=(k:Int):=IntWalk.i64_in _ (by omega)
   have zi1:(0:Int)<=(k:Int):=by omega
   have li1:(k:Int)<(pool.length:Int):=by omega
   have ti1:((k:Int)).toNat=k:=by omega
   have wk:IntKind.i64.wrap ((k:Int)+1)=(k:Int)+1:=IntWalk.i64_in _ (by omega)
   have q0:=(X.cell (p:=⟨b,o+k*11,none⟩) hbl).trans hcy.1
   have q1:=(X.cell (p:=⟨b,o+k*11+1,none⟩) hbl).trans hcy.2.1
   have q2:=(X.cell (p:=⟨b,o+k*11+2,none⟩) hbl).trans hcy.2.2.1
   have q3:=(X.cell (p:=⟨b,o+k*11+3,none⟩) hbl).trans hcy.2.2.2.1
   have q4:=(X.cell (p:=⟨b,o+k*11+4,none⟩) hbl).trans hcy.2.2.2.2.1
   have q5:=(X.cell (p:=⟨b,o+k*11+5,none⟩) hbl).trans hcy.2.2.2.2.2.1
   have q6:=(X.cell (p:=⟨b,o+k*11+6,none⟩) hbl).trans hcy.2.2.2.2.2.2.1
   have q7:=(X.cell (p:=⟨b,o+k*11+7,none⟩) hbl).trans hcy.2.2.2.2.2.2.2.1
   have q8:=(X.cell (p:=⟨b,o+k*11+8,none⟩) hbl).trans hcy.2.2.2.2.2.2.2.2.1
   have q9:=(X.cell (p:=⟨b,o+k*11+9,none⟩) hbl).trans hcy.2.2.2.2.2.2.2.2.2.1
   have q10:=(X.cell (p:=⟨b,o+k*11+10,none⟩) hbl).trans hcy.2.2.2.2.2.2.2.2.2.2
   clear hcy
   have HSN:=ZH (wW day L HY.out)
   obtain ⟨N,hN⟩:∃ N,eX day L (pool.take k)=N:=⟨_,rfl⟩
   rw [hN] at HSN ZN HB
   rw [hN]
   clear hN X
   have HLN:=ZH (show N.length<=900000 by have:=HB.out;omega)
   by_cases k2:y.kind=2
   case neg =>
    have hb:(y.kind != 2)=true:=by simpa using k2
    have HF:=ZH (show eX day L (pool.take (k+1))=N by rw [HSN.out];exact mZ (fun q=>k2 q.1))
    clear k2
    go_wp2_with fail
    go_roundw
    case rel=>exact ⟨k+1,by omega,by go_num,by rw [HF.out];exact ZN,by rw [HF.out];exact HB⟩
    case measure=>simp [intOf];omega
   have hb:(y.kind != 2)=false:=by simp [k2]
   have K2:=ZH k2
   clear k2
   go_wp2_with fail
   refine (wO y _ ZN.out.rd).mono ?_
   rintro e w8 ⟨rfl,b8⟩
   have Z8:=ZH (ZN.out.tr b8)
   clear q0 q1 q2 q3 q4 q5 q6 q7 q8 q9 q10 b8 ZN HX
   by_cases hm:y ∈ N
   · have HF:=ZH (show eX day L (pool.take (k+1))=N by rw [HSN.out];exact mZ (fun q=>q.2.1 hm))
     rw [decide_eq_true hm]
     clear hm
     go_wp2_with fail
     go_roundw
     case rel=>exact ⟨k+1,by omega,by go_num,by rw [HF.out];exact Z8,by rw [HF.out];exact HB⟩
     case measure=>simp [intOf];omega
   rw [decide_eq_false hm]
   have HM:=ZH hm
   clear hm
   go_wp2_with fail
   go_loopw [10,12] (fun nx i wr=>∃ j:Nat,j<=L.length/\nx=.slice An N.length cn/\i=.int .i64 (j:Int)/\Hid (LsZ wo wr (.slice An N.length cn) N)/\Hid (∀ (i:Nat) (a:NC),i<j->L[i]?=some a->fG day a y=false)) (fun _ i _=>L.length - (intOf i).toNat)
   case atStart=>exact ⟨0,YK _,rfl,rfl,Z8,ZH (fun i a hi=>absurd hi (Nat.not_lt_zero _))⟩
   case round =>
    clear Z8
    obtain ⟨j,hj,rfl,rfl,ZJ,HNO⟩:=hrel
    by_cases hjl:j<L.length
    case neg =>
     obtain rfl:j=L.length:=by omega
     have HF:=ZH (show eX day L (pool.take (k+1))=N by rw [HSN.out];exact mZ (fun q=>by have:=q.2.2;rw [VM HNO.out] at this;cases this))
     go_wp2_with fail
     go_roundw
     case rel=>repeat (first | exact ⟨k+1,by omega,by go_num,by rw [HF.out];exact ZJ,by rw [HF.out];exact HB⟩ | exact ⟨⟨k+1,by omega,by go_num,by rw [HF.out];exact ZJ,by rw [HF.out];exact HB⟩,rfl⟩ | refine ⟨_,?_⟩)
     case measure=>simp [intOf];omega
    case pos =>
    obtain ⟨x,hx⟩:∃ x,L[j]?=some x:=⟨_,YL hjl⟩
    obtain ⟨Ar,nr,cr,e9,hnr,_,_,hcl⟩:=RdN.at_ Z.out.rd
    injection e9 with e1 e2 e3
    subst e1 e2 e3
    clear hnr
    obtain ⟨b2,o2,rfl,hb2,hcl⟩:=hcl (by omega)
    have hcx:=hcl j x hx
    have hcy:=HCY.out
    have HXX:=ZH hx
    have HSX:=ZH (HI.out.1 x (YS hx))
    clear hx hcl
    have wi2:IntKind.i64.wrap ((j:Int))=(j:Int):=IntWalk.i64_in _ (by omega)
    have zi2:(0:Int)<=(j:Int):=by omega
    have li2:(j:Int)<(L.length:Int):=by omega
    have ti2:((j:Int)).toNat=j:=by omega
    have wi3:IntKind.i64.wrap ((k:Int))=(k:Int):=IntWalk.i64_in _ (by omega)
    have zi3:(0:Int)<=(k:Int):=by omega
    have li3:(k:Int)<(pool.length:Int):=by omega
    have ti3:((k:Int)).toNat=k:=by omega
    have wj:IntKind.i64.wrap ((j:Int)+1)=(j:Int)+1:=IntWalk.i64_in _ (by omega)
    have X:=ZJ.out.ext
    have XW:=Z.out.ext.tr X
    go_upto_region 10 with fail
    refine Gd.aI 10 (by kernel_rfl) (by kernel_rfl) ?_
    simp only [YT,YQ,YU,YV]
    intro wq hw1
    have LL:∀ m:Lt wq,Ext wr m.1:=fun m=>hw1.tr m.2
    have LO:∀ m:Lt wq,Ext wo m.1:=fun m=>X.tr (LL m)
    have LW:∀ m:Lt wq,Ext w m.1:=fun m=>XW.tr (LL m)
    have p0:=fun m:Lt wq=>((LO m).cell (p:=⟨b2,o2+j*11,none⟩) hb2).trans hcx.1
    have p1:=fun m:Lt wq=>((LO m).cell (p:=⟨b2,o2+j*11+1,none⟩) hb2).trans hcx.2.1
    have p2:=fun m:Lt wq=>((LO m).cell (p:=⟨b2,o2+j*11+2,none⟩) hb2).trans hcx.2.2.1
    have p3:=fun m:Lt wq=>((LO m).cell (p:=⟨b2,o2+j*11+3,none⟩) hb2).trans hcx.2.2.2.1
    have p4:=fun m:Lt wq=>((LO m).cell (p:=⟨b2,o2+j*11+4,none⟩) hb2).trans hcx.2.2.2.2.1
    have p5:=fun m:Lt wq=>((LO m).cell (p:=⟨b2,o2+j*11+5,none⟩) hb2).trans hcx.2.2.2.2.2.1
    have p6:=fun m:Lt wq=>((LO m).cell (p:=⟨b2,o2+j*11+6,none⟩) hb2).trans hcx.2.2.2.2.2.2.1
    have p7:=fun m:Lt wq=>((LO m).cell (p:=⟨b2,o2+j*11+7,none⟩) hb2).trans hcx.2.2.2.2.2.2.2.1
    have p8:=fun m:Lt wq=>((LO m).cell (p:=⟨b2,o2+j*11+8,none⟩) hb2).trans hcx.2.2.2.2.2.2.2.2.1
    have p9:=fun m:Lt wq=>((LO m).cell (p:=⟨b2,o2+j*11+9,none⟩) hb2).trans hcx.2.2.2.2.2.2.2.2.2.1
    have p10:=fun m:Lt wq=>((LO m).cell (p:=⟨b2,o2+j*11+10,none⟩) hb2).trans hcx.2.2.2.2.2.2.2.2.2.2
    have q0:=fun m:Lt wq=>((LW m).cell (p:=⟨b,o+k*11,none⟩) hbl).trans hcy.1
    have q1:=fun m:Lt wq=>((LW m).cell (p:=⟨b,o+k*11+1,none⟩) hbl).trans hcy.2.1
    have q2:=fun m:Lt wq=>((LW m).cell (p:=⟨b,o+k*11+2,none⟩) hbl).trans hcy.2.2.1
    have q3:=fun m:Lt wq=>((LW m).cell (p:=⟨b,o+k*11+3,none⟩) hbl).trans hcy.2.2.2.1
    have q4:=fun m:Lt wq=>((LW m).cell (p:=⟨b,o+k*11+4,none⟩) hbl).trans hcy.2.2.2.2.1
    have q5:=fun m:Lt wq=>((LW m).cell (p:=⟨b,o+k*11+5,none⟩) hbl).trans hcy.2.2.2.2.2.1
    have q6:=fun m:Lt wq=>((LW m).cell (p:=⟨b,o+k*11+6,none⟩) hbl).trans hcy.2.2.2.2.2.2.1
    have q7:=fun m:Lt wq=>((LW m).cell (p:=⟨b,o+k*11+7,none⟩) hbl).trans hcy.2.2.2.2.2.2.2.1
    have q8:=fun m:Lt wq=>((LW m).cell (p:=⟨b,o+k*11+8,none⟩) hbl).trans hcy.2.2.2.2.2.2.2.2.1
    have q9:=fun m:Lt wq=>((LW m).cell (p:=⟨b,o+k*11+9,none⟩) hbl).trans hcy.2.2.2.2.2.2.2.2.2.1
    have q10:=fun m:Lt wq=>((LW m).cell (p:=⟨b,o+k*11+10,none⟩) hbl).trans hcy.2.2.2.2.2.2.2.2.2.2
    repeat (refine Gd.aC rfl fun K hK=>?_;go_big_quiet_op;refine hK _ ?_;clear hK K)
    refine Gd.bN (Gd.gR rfl) (.bool (fG day x y)) (args:=[ncV x,ncV y,.int .i64 day]) rfl rfl rfl rfl (by kernel_rfl) rfl rfl (fun m=>(HFL.out x y HSX.out HSY.out m.1 (LW m)).mono fun _ _ ⟨h1,h2⟩=>⟨h1,h2⟩) ?_
    simp only [Act.put,YG,YI,YH]
    refine Gd.cQ (fun m=>?_)
    have Lm:=LL m
    obtain ⟨wm,hwm⟩:=m
    have Lm:Ext wr wm:=Lm
    have ZM:=ZH (ZJ.out.tr Lm)
    clear LL LO LW p0 p1 p2 p3 p4 p5 p6 p7 p8 p9 p10 q0 q1 q2 q3 q4 q5 q6 q7 q8 q9 q10 hw1 X XW hcx Lm ZJ
    show wpList _ _ _ _ _ _
    obtain ⟨f,hf⟩:∃ f,fG day x y=f:=⟨_,rfl⟩
    rw [hf]
    cases f
    · have HN2:Hid (∀ (i:Nat) (a:NC),i<j+1->L[i]?=some a->fG day a y=false):=ZH (by
       intro i a hi ha
       rcases Nat.lt_succ_iff_lt_or_eq.1 hi with q | q
       · exact HNO.out i a q ha
       · rw [q,HXX.out] at ha
         injection ha with ha
         rw [<- ha]
         exact hf)
      clear hf hcy
      go_wp2_with fail
      go_roundw
      case rel=>exact ⟨j+1,by omega,rfl,by go_num,ZM,HN2⟩
      case measure=>simp [intOf];omega
    · have HF:=ZH (show eX day L (pool.take (k+1))=N++[y] by rw [HSN.out];exact BO ⟨K2.out,HM.out,T6 HXX.out hf⟩)
      have HB2:=ZH (GT (YS HY.out) HM.out HB.out)
      have X:=Z.out.ext.tr ZM.out.ext
      have q0:=(X.cell (p:=⟨b,o+k*11,none⟩) hbl).trans hcy.1
      have q1:=(X.cell (p:=⟨b,o+k*11+1,none⟩) hbl).trans hcy.2.1
      have q2:=(X.cell (p:=⟨b,o+k*11+2,none⟩) hbl).trans hcy.2.2.1
      have q3:=(X.cell (p:=⟨b,o+k*11+3,none⟩) hbl).trans hcy.2.2.2.1
      have q4:=(X.cell (p:=⟨b,o+k*11+4,none⟩) hbl).trans hcy.2.2.2.2.1
      have q5:=(X.cell (p:=⟨b,o+k*11+5,none⟩) hbl).trans hcy.2.2.2.2.2.1
      have q6:=(X.cell (p:=⟨b,o+k*11+6,none⟩) hbl).trans hcy.2.2.2.2.2.2.1
      have q7:=(X.cell (p:=⟨b,o+k*11+7,none⟩) hbl).trans hcy.2.2.2.2.2.2.2.1
      have q8:=(X.cell (p:=⟨b,o+k*11+8,none⟩) hbl).trans hcy.2.2.2.2.2.2.2.2.1
      have q9:=(X.cell (p:=⟨b,o+k*11+9,none⟩) hbl).trans hcy.2.2.2.2.2.2.2.2.2.1
      have q10:=(X.cell (p:=⟨b,o+k*11+10,none⟩) hbl).trans hcy.2.2.2.2.2.2.2.2.2.2
      have eA:Ext wm (wm.alloc (.cells (aH y).toArray 56)):=(Below.refl _ _).alloc (YF _) _
      have HRK:=ZH (pO wm y)
      have HOA:=ZH (ZM.out.tr eA)
      unfold aH at HRK HOA
      clear eA hf hcy X
      go_wp2_with (refine bL (k:=11) (by decide) hF (n:=N.length) (m:=1) (B:=wo.heap.size) HOA.out.own (by rw [bJ]) HRK.out (by rfl) (eF y) HOA.out.ext (by have:=HLN.out;omega) (by have:=HLN.out;unfold maxLen;omega) HOA.out.ext.size rfl rfl rfl rfl ?_;intro A8 n8 c8 w8 hn8 o8 x8 _)
      have hn8:n8=(N++[y]).length:=by rw [YJ];exact hn8.out
      subst hn8
      have Z9:Hid (LsZ wo w8 (.slice A8 (N++[y]).length c8) (N++[y])):=ZH ⟨x8,by rw [<- eE];exact o8,_,_,rfl⟩
      clear x8 o8 q0 q1 q2 q3 q4 q5 q6 q7 q8 q9 q10
      go_wp2_with fail
      go_roundw
      case rel=>repeat (first | exact ⟨k+1,by omega,by go_num,by rw [HF.out];exact Z9,by rw [HF.out];exact HB2⟩ | exact ⟨⟨k+1,by omega,by go_num,by rw [HF.out];exact Z9,by rw [HF.out];exact HB2⟩,rfl⟩ | refine ⟨_,?_⟩)
      case measure=>simp [intOf];omega
theorem cN.append {S:Nat->Prop}{w:World}{d:Nat}{xs ys:List Value}{ts us:List Nd} (h1:cN S d w xs ts) (h2:cN S d w ys us):cN S d w (xs++ys) (ts++us):=by
 have hl:=h1.1
 refine ⟨by rw [YJ,YJ,h1.1,h2.1,Nat.add_mul],fun i u hu=>?_⟩
 by_cases hi:i<ts.length
 · rw [List.getElem?_append_left hi] at hu
   obtain ⟨B1,m1,d1,B2,m2,d2,e0,e1,e2,q1,q2⟩:=h1.2 i u hu
   exact ⟨B1,m1,d1,B2,m2,d2,by rw [List.getElem?_append_left (by omega)];exact e0,by rw [List.getElem?_append_left (by omega)];exact e1,by rw [List.getElem?_append_left (by omega)];exact e2,q1,q2⟩
 · rw [List.getElem?_append_right (by omega)] at hu
   obtain ⟨B1,m1,d1,B2,m2,d2,e0,e1,e2,q1,q2⟩:=h2.2 _ u hu
   exact ⟨B1,m1,d1,B2,m2,d2,by rw [List.getElem?_append_right (by omega),show i*3 - xs.length=(i - ts.length)*3 by omega];exact e0,by rw [List.getElem?_append_right (by omega),show i*3+1 - xs.length=(i - ts.length)*3+1 by omega];exact e1,by rw [List.getElem?_append_right (by omega),show i*3+2 - xs.length=(i - ts.length)*3+2 by omega];exact e2,q1,q2⟩
def NdF (B d:Nat) (ts:List Nd):aE:=fun v w=>∃ (g:Nat) (cs:Array Value),v=.slice (some ⟨g,0,none⟩) ts.length ts.length/\B<=g/\w.heap[g]?=some (.cells cs 180 (0,0))/\cN (fun b=>B<=b) d w cs.toList ts
theorem lZ (B d:Nat) (ts:List Nd):cZ (NdF B d ts):=fun v w w' e ⟨g,cs,h1,h2,h3,h4⟩=>⟨g,cs,h1,h2,(e.block g (aA h3)).trans h3,h4.map fun b hb hlt=>⟨hb,e.block b hlt⟩⟩
theorem GU {B d:Nat}{W:World}{ty:TypeId}{v src:Value}{ts us:List Nd} (hB:B<=W.heap.size) (hx:NdF B d ts v W) (hy:NdF B d us src W) (h2:0<us.length) (hs:ts.length+us.length<=1000) :
 ∃ v' w'',(Builtin.append_ #[178,178] ty #[v,src]).run Tryz.prog W=.ok v' w''/\Ext W w''/\vT B (d+1) (ts++us) v' w'':=by
 obtain ⟨i,z,ht,hi,hz,hsz,hby,hzs⟩:=G0
 obtain ⟨g,cs,rfl,hg,hb,hc⟩:=hx
 obtain ⟨g2,cs2,rfl,hg2,hb2,hc2⟩:=hy
 obtain ⟨v',w',k1,k2,k3⟩:=run_append_arg_grows (P:=Tryz.prog) W 178 ty 180 i z 3 56 ht hi hz hsz hby hzs (by decide) ⟨g,0,none⟩ ts.length ts.length cs.toList hc.1 (fun j u hu=>by rw [Addr.add_lit,YR,cell_of_row W g j cs _ (0,0) hb];simpa using hu) ⟨g2,0,none⟩ us.length us.length cs2.toList hc2.1 (fun j u hu=>by rw [Addr.add_lit,YR,cell_of_row W g2 j cs2 _ (0,0) hb2];simpa using hu) (by omega) (by unfold maxLen;omega) (by omega)
 have e:Ext W w':=⟨k3.os,k3.tape,k3.output,k3.size,fun k hk=>k3.block k hk (by simp)⟩
 exact ⟨v',w',k1,e,gN.mk (gT (by decide) k2) ((hc.append hc2).map fun b hb hlt=>⟨hb,e.block b hlt⟩) (fun b hb=>hb) (fun b hb=>YO hB hb)⟩
set_option maxHeartbeats 1000000 in
theorem T7 (W:World) (z0:Int) (a0 b0:Option Addr) (n0 c0 m0 d0:Nat) (z1:Int) (a1 b1:Option Addr) (n1 c1 m1 d1:Nat) (z2:Int) (a2 b2:Option Addr) (n2 c2 m2 d2:Nat):(Instr.buildSlice 178 3 [(0,.agg #[.int .i64 z0,.slice a0 n0 c0,.slice b0 m0 d0]),(1,.agg #[.int .i64 z1,.slice a1 n1 c1,.slice b1 m1 d1]),(2,.agg #[.int .i64 z2,.slice a2 n2 c2,.slice b2 m2 d2])].toArray).run Tryz.prog W=.ok (.slice (some ⟨W.heap.size,0,none⟩) 3 3) (W.alloc (.cells #[.int .i64 z0,.slice a0 n0 c0,.slice b0 m0 d0,.int .i64 z1,.slice a1 n1 c1,.slice b1 m1 d1,.int .i64 z2,.slice a2 n2 c2,.slice b2 m2 d2] 180)):=by go_simp
theorem EH {B d:Nat} (W:World) (hB:B<=W.heap.size) {v0 v1:Value}{t0 t1:Nd} (h0:NdG B d t0 v0 W) (h1:NdG B d t1 v1 W):∃ v' w'',(Instr.buildSlice 178 2 [(0,v0),(1,v1)].toArray).run Tryz.prog W=.ok v' w''/\Ext W w''/\NdF B d [t0,t1] v' w'':=by
 obtain ⟨a0,n0,c0,b0,m0,d0,rfl,r0,k0⟩:=h0
 obtain ⟨a1,n1,c1,b1,m1,d1,rfl,r1,k1⟩:=h1
 have e:Ext W (W.alloc (.cells #[.int .i64 t0.tag,.slice a0 n0 c0,.slice b0 m0 d0,.int .i64 t1.tag,.slice a1 n1 c1,.slice b1 m1 d1] 180)):=(Below.refl _ _).alloc (YF _) _
 exact ⟨_,_,KE W t0.tag a0 b0 n0 c0 m0 d0 t1.tag a1 b1 n1 c1 m1 d1,e,_,_,rfl,hB,aB W _,(((cN.nil _ d W).snoc r0 k0).snoc r1 k1).map fun b hb hlt=>⟨hb,e.block b hlt⟩⟩
theorem EI {B d:Nat} (W:World) (hB:B<=W.heap.size) {v0 v1 v2:Value}{t0 t1 t2:Nd} (h0:NdG B d t0 v0 W) (h1:NdG B d t1 v1 W) (h2:NdG B d t2 v2 W):∃ v' w'',(Instr.buildSlice 178 3 [(0,v0),(1,v1),(2,v2)].toArray).run Tryz.prog W=.ok v' w''/\Ext W w''/\NdF B d [t0,t1,t2] v' w'':=by
 obtain ⟨a0,n0,c0,b0,m0,d0,rfl,r0,k0⟩:=h0
 obtain ⟨a1,n1,c1,b1,m1,d1,rfl,r1,k1⟩:=h1
 obtain ⟨a2,n2,c2,b2,m2,d2,rfl,r2,k2⟩:=h2
 have e:Ext W (W.alloc (.cells #[.int .i64 t0.tag,.slice a0 n0 c0,.slice b0 m0 d0,.int .i64 t1.tag,.slice a1 n1 c1,.slice b1 m1 d1,.int .i64 t2.tag,.slice a2 n2 c2,.slice b2 m2 d2] 180)):=(Below.refl _ _).alloc (YF _) _
 exact ⟨_,_,T7 W t0.tag a0 b0 n0 c0 m0 d0 t1.tag a1 b1 n1 c1 m1 d1 t2.tag a2 b2 n2 c2 m2 d2,e,_,_,rfl,hB,aB W _,((((cN.nil _ d W).snoc r0 k0).snoc r1 k1).snoc r2 k2).map fun b hb hlt=>⟨hb,e.block b hlt⟩⟩
section
variable {P:Program}{ops:Array Oper}{rest:List Oper}{o:Oper}{a:Act}{Q:Exit->Act->World->Prop}{w:World}
theorem EJ {t1 t2:TypeId}{x:Operand}{xv v:Value}{w':World} (hgd:o.guard=none) (ho:o.op=.convert t1 t2 x) (hx:a.eval x=xv) (hr:(convert t1 t2 xv).run P w=.ok v w') (h:wpList P ops Q rest (a.put o.dst v) w'):wpList P ops Q (o::rest) a w :=
 wpList_plain hgd fun _ hK=>by
  unfold Oper.wp execOp
  simp only [ho,hx,hr,Sem.run_bind,Sem.run_pure,Result.andThen_ok]
  exact hK _ _ h
end
theorem tO (st:List UInt8) (num:Int) (w:World) (hs:st.length<=4096) (h0:0<=num) (h1:num<9223372036854775808) :
 Calls Tryz.prog 151 #[.string (aK st),.int .i64 num] w fun e w'=>∃ v,e=.returned v/\Ext w w'/\NdF w.heap.size 0 [bC 19 st,bC 130 (be4 num)] v w':=by
 obtain ⟨v1,w1,r1,x1,g1⟩:=B9 (B:=w.heap.size) w (YF _) st hs
 obtain ⟨A1,n1,c1,rfl⟩:=g1.slice
 go_enter Tryz.func151,Tryz.ntmps151
 go_wp2_with (refine EJ rfl rfl rfl r1 ?_)
 refine (lD (B:=w.heap.size) (d:=0) w1 19 g1).mono ?_
 rintro e w2 ⟨v2,rfl,x2,g2⟩
 go_wp2_with fail
 refine (eP 4 num 4 w2 h0 h1 rfl (by omega)).mono ?_
 rintro e w3 hb
 obtain ⟨v3,rfl,x3,g3⟩:=(yY num ▸ hb:gC w2 (be4 num) _ _).gs (YO x1.size x2.size)
 go_wp2_with fail
 refine (lD (B:=w.heap.size) (d:=0) w3 130 g3).mono ?_
 rintro e w4 ⟨v4,rfl,x4,g4⟩
 have g2':=bF _ _ _ _ _ _ (x3.tr x4) g2
 have xw:=((x1.tr x2).tr x3).tr x4
 obtain ⟨v5,w5,r5,x5,g5⟩:=EH w4 xw.size g2' g4
 obtain ⟨a0,n0,c0,b0,m0,d0,rfl,r0,k0⟩:=g2'
 obtain ⟨a1,n1',c1',b1,m1,d1,rfl,r1',k1⟩:=g4
 rw [KE] at r5
 injection r5 with e1 e2
 subst e1 e2
 go_wp2_with fail
 go_ret
 exact ⟨_,rfl,xw.tr x5,g5⟩
theorem EK {B B' d:Nat}{ts:List Nd}{v:Value}{w:World} (h:NdF B d ts v w) (hB:B'<=B):NdF B' d ts v w:=by
 obtain ⟨g,cs,h1,h2,h3,h4⟩:=h
 exact ⟨g,cs,h1,YO hB h2,h3,h4.map fun b hb _=>⟨YO hB hb,rfl⟩⟩
set_option maxHeartbeats 4000000 in
theorem qU (r:RV) (v:Value) (w:World) (hv:RdI w .i64 v r.ser) (hs:r.st.length<=maxLen):Calls Tryz.prog 77 #[rvV r v] w (CZ w (byR r) (ckR r)):=by
 obtain ⟨wz,hwz,ez,TZ⟩:=hM w r v
 have HC:=ZH (fun W (e:Ext w W)=>xY r v W (hv.ext e) hs)
 obtain ⟨A,n,c,rfl,hn,hnc,hcm,hel⟩:=hv.ints
 subst hn
 unfold maxLen at hcm
 have HEL:=ZH hel
 clear hv hel hs
 have HTZ:=ZH TZ
 clear TZ
 unfold rvV
 go_enter Tryz.func77,Tryz.ntmps77
 go_wp2_with fail
 rw [<- hwz]
 clear hwz
 refine (HC.out _ ez).mono ?_
 rintro e ww ⟨rfl,b1⟩
 have x1:=ez.tr b1
 have HT:=ZH (HTZ.out.ext b1)
 have c4:=HT.out.c4
 have cl:=HT.out.lt
 clear b1
 by_cases hc:ckR r=0
 · have HK:=ZH hc
   have HB:=ZH (show byR r=dK r from if_pos hc)
   have sa:r.st.length<=4096:=by have:=(wR hc).1.1.2;omega
   obtain ⟨_,⟨⟨p1,p2⟩,p3,p4⟩,⟨p5,p6,p7⟩,h64,hser,_⟩:=wR hc
   have HS:=ZH hser
   rw [hc]
   clear hc hser
   go_wp2_with fail
   clear c4 cl
   go_loopw [5,6] (fun s5 s6 wr=>∃ (i:Nat) (A5:Option Addr) (n5 c5:Nat),i<=r.ser.length/\s6=.int .i64 (i:Int)/\s5=.slice A5 n5 c5/\Hid (Own wr (w.heap.size+1) 5 (.slice A5 n5 c5) (bvs (eW 4 (r.ser.take i))))/\Hid (Below (w.heap.size+1) ww wr)) (fun _ s6 _=>r.ser.length - (intOf s6).toNat)
   case atStart=>exact ⟨0,none,0,0,YK _,rfl,rfl,AG _ _,Below.refl _ _⟩
   case round =>
   obtain ⟨i,A5,n5,c5,hi,rfl,rfl,O5,B5⟩:=hrel
   have T5:=ZH (show bM wr w.heap.size r (.slice A r.ser.length c) from (B5.out.block _ (Nat.lt_succ_self _)).trans HT.out)
   have X5:=ZH (show Ext w wr from x1.trans (B5.out.mono (Nat.le_succ _)))
   have c4:=T5.out.c4
   have cl:=T5.out.lt
   by_cases hlt:i<r.ser.length
   case pos =>
    obtain ⟨t,ht⟩:∃ t,r.ser[i]?=some t:=⟨_,YL hlt⟩
    obtain ⟨b,o,rfl,hbl,hcc⟩:=HEL.out (by omega)
    have l0:=(X5.out.cell (p:=⟨b,o+i,none⟩) hbl).trans (hcc i hlt)
    rw [show r.ser.getD i 0=t by rw [List.getD_eq_getElem?_getD,ht];rfl] at l0
    have hst:=HS.out t (YS ht)
    have HW:=ZH (show eW 4 (r.ser.take (i+1))=eW 4 (r.ser.take i)++beN 4 t by rw [wD hlt,wC,show r.ser.getD i 0=t by rw [List.getD_eq_getElem?_getD,ht];rfl])
    have t0:0<=t:=by have:=hst.1;omega
    have t1:t<9223372036854775808:=by have:=hst.2;omega
    clear hcc ht hst
    have wi1:IntKind.i64.wrap ((i:Int))=(i:Int):=IntWalk.i64_in _ (by omega)
    have zi1:(0:Int)<=(i:Int):=by omega
    have li1:(i:Int)<(r.ser.length:Int):=by omega
    have ti1:((i:Int)).toNat=i:=by omega
    go_wp2_with fail
    refine (eP 4 t 4 _ t0 t1 rfl (by omega)).mono ?_
    rintro e w6 hb6
    obtain ⟨A6,n6,c6,rfl,hn6,k6,x6⟩:=hb6
    have hl5:(eW 4 (r.ser.take i)).length<=300:=by rw [oF];have:=List.length_take_le i r.ser;omega
    have X6:=ZH (B5.out.trans (x6.mono (Nat.succ_le_of_lt T5.out.lt)))
    have hg6:w.heap.size+1<=w6.heap.size:=YO (Nat.succ_le_of_lt T5.out.lt) x6.size
    have O6:=O5.out.ext x6
    go_wp2_with (refine jR (B:=w.heap.size+1) (w0:=ww) (xs:=eW 4 (r.ser.take i)) (ys:=beN 4 t) O6 k6.rd X6.out (by rw [gY];omega) hg6 rfl rfl rfl rfl ?_;intro A7 n7 c7 w7 hn7 o7 b7 g7)
    rw [<- HW.out] at o7
    go_roundw
    case rel=>exact ⟨i+1,A7,n7,c7,by omega,by go_num,rfl,o7,b7⟩
    case measure=>simp [intOf];omega
   case neg =>
   obtain rfl:i=r.ser.length:=by omega
   rw [List.take_length] at O5
   clear hlt hi
   go_wp2_with fail
   have day0:0<=r.day:=by omega
   have day1:r.day<9223372036854775808:=by omega
   have nxt0:0<=r.nxt:=by omega
   have nxt1:r.nxt<9223372036854775808:=by omega
   have num0:0<=r.num:=by omega
   have num1:r.num<9223372036854775808:=by omega
   have iss0:0<=r.iss:=by omega
   have iss1:r.iss<9223372036854775808:=by omega
   clear c4 cl p1 p2 p3 p4 p5 p6 p7
   refine Gd.aI 7 (by kernel_rfl) (by kernel_rfl) ?_
   simp only [YT,YQ,YU,YV]
   intro w1 hw1
   have LL:∀ m:Lt w1,Ext wr m.1:=fun m=>hw1.tr m.2
   have v2:∀ m:Lt w1,m.1.cell? ⟨w.heap.size,2,none⟩=some (.int .i64 r.day):=fun m=>(T5.out.ext (LL m)).c2
   have v3:∀ m:Lt w1,m.1.cell? ⟨w.heap.size,3,none⟩=some (.int .i64 r.nxt):=fun m=>(T5.out.ext (LL m)).c3
   have BB:∀ m:Lt w1,wr.heap.size<=m.1.heap.size:=fun m=>(LL m).size
   repeat (refine Gd.aC rfl fun K hK=>?_;go_big_quiet_op;refine hK _ ?_;clear hK K)
   refine Gd.aR (Gd.gR rfl) (GF wr.heap.size (be3 r.day)) (lC _ _) (fun _=>[.int .i64 r.day,.int .i64 3]) rfl rfl rfl rfl rfl (by kernel_rfl) rfl (fun _=>rfl) (fun m f hf=>mU r.day ▸ mV 3 r.day 3 m.1 (BB m) day0 day1 rfl (by omega)) ?_
   simp only [Act.put,YG,YI,YH]
   repeat (refine Gd.aC rfl fun K hK=>?_;go_big_quiet_op;refine hK _ ?_;clear hK K)
   refine Gd.aR (Gd.gR rfl) (GF wr.heap.size (be3 r.nxt)) (lC _ _) (fun _=>[.int .i64 r.nxt,.int .i64 3]) rfl rfl rfl rfl rfl (by kernel_rfl) rfl (fun _=>rfl) (fun m f hf=>mU r.nxt ▸ mV 3 r.nxt 3 m.1 (BB m) nxt0 nxt1 rfl (by omega)) ?_
   simp only [Act.put,YG,YI,YH]
   refine Gd.mM (Gd.gR rfl) (fun v w=>Own w wr.heap.size 5 v (bvs (be3 r.day++be3 r.nxt))) (lV _ _ _) (fun f=>f 31) (fun f=>f 34) rfl rfl rfl rfl rfl rfl (fun _=>rfl) (fun _=>rfl) (fun m f hf=>wE (BB m) (hf 31 _ rfl rfl) (hf 34 _ rfl rfl).gs (by simp [be3]) (by simp [be3]) (by simp [be3])) ?_
   simp only [Act.put,YG,YI,YH]
   refine Gd.cH (fun m f hf=>?_)
   have h35:=hf 35 _ rfl
   simp only [bO]
   simp only [Act.put,YG,YI,YH]
   obtain ⟨Aq,nq,cq,e35⟩:=Own.slice h35
   rw [e35] at h35 ⊢
   have Lm:=LL m
   obtain ⟨wq,hwq⟩:=m
   clear LL BB v2 v3 hf e35
   have TQ:=ZH (T5.out.ext Lm)
   have OS0:GS wr.heap.size (be3 r.day++be3 r.nxt) (.slice Aq nq cq) wq:=RdS.of (xs:=bvs (be3 r.day++be3 r.nxt)) h35 fun b hb=>hb
   have OS1:=(O5.out.ext Lm).rd
   have XQ:=X5.out.tr Lm
   clear h35
   have OQ0:=OS0.rd.gs0
   have OQ1:=OS1.gs0
   clear OS0 OS1 Lm
   show wpList _ _ _ _ _ _
   go_wp2_with fail
   refine Gd.aI 15 (by kernel_rfl) (by kernel_rfl) ?_
   simp only [YT,YQ,YU,YV]
   intro w1 hw1
   have LL:∀ m:Lt w1,Ext wq m.1:=fun m=>hw1.tr m.2
   have v0:∀ m:Lt w1,m.1.cell? ⟨w.heap.size,0,none⟩=some (.string (aK r.st)):=fun m=>(TQ.out.ext (LL m)).c0
   have v1:∀ m:Lt w1,m.1.cell? ⟨w.heap.size,1,none⟩=some (.int .i64 r.num):=fun m=>(TQ.out.ext (LL m)).c1
   have v5:∀ m:Lt w1,m.1.cell? ⟨w.heap.size,5,none⟩=some (.int .i64 r.iss):=fun m=>(TQ.out.ext (LL m)).c5
   have BB:∀ m:Lt w1,0<=m.1.heap.size:=fun m=>YK _
   have OR:∀ m:Lt w1,GS 0 (be3 r.day++be3 r.nxt) (.slice Aq nq cq) m.1:=fun m=>bP _ _ _ _ _ (LL m) OQ0
   have OS:∀ m:Lt w1,GS 0 (eW 4 r.ser) (.slice A5 n5 c5) m.1:=fun m=>bP _ _ _ _ _ (LL m) OQ1
   repeat (refine Gd.aC rfl fun K hK=>?_;go_big_quiet_op;refine hK _ ?_;clear hK K)
   refine Gd.aR (Gd.gR rfl) (NdF 0 0 [bC 19 r.st,bC 130 (be4 r.num)]) (lZ _ _ _) (fun _=>[.string (aK r.st),.int .i64 r.num]) rfl rfl rfl rfl rfl (by kernel_rfl) rfl (fun _=>rfl) (fun m f hf=>(tO r.st r.num m.1 sa num0 num1).mono fun e w3 ⟨v,h1,h2,h3⟩=>⟨v,h1,h2,EK h3 (BB m)⟩) ?_
   simp only [Act.put,YG,YI,YH]
   repeat (refine Gd.aC rfl fun K hK=>?_;go_big_quiet_op;refine hK _ ?_;clear hK K)
   refine Gd.aR (Gd.gR rfl) (GS 0 (be4 r.iss)) (bP _ _) (fun _=>[.int .i64 r.iss,.int .i64 4]) rfl rfl rfl rfl rfl (by kernel_rfl) rfl (fun _=>rfl) (fun m f hf=>(eP 4 r.iss 4 m.1 iss0 iss1 rfl (by omega)).mono fun _ _ h=>(yY r.iss ▸ h:gC _ _ _ _).gs (BB m)) ?_
   simp only [Act.put,YG,YI,YH]
   refine Gd.aR (Gd.gR rfl) (NdG 0 0 (bC 131 (be4 r.iss))) (bF _ _ _) (fun f=>[.int .i64 131,f 43]) rfl rfl rfl rfl rfl (by kernel_rfl) rfl (fun f=>rfl) (fun m f hf=>lD m.1 131 (hf 43 _ rfl rfl)) ?_
   simp only [Act.put,YG,YI,YH]
   repeat (refine Gd.aC rfl fun K hK=>?_;go_big_quiet_op;refine hK _ ?_;clear hK K)
   refine Gd.aR (Gd.gR rfl) (NdG 0 0 (bC 134 (be3 r.day++be3 r.nxt))) (bF _ _ _) (fun f=>[.int .i64 134,.slice Aq nq cq]) rfl rfl rfl rfl rfl (by kernel_rfl) rfl (fun f=>rfl) (fun m f hf=>lD m.1 134 (OR m)) ?_
   simp only [Act.put,YG,YI,YH]
   repeat (refine Gd.aC rfl fun K hK=>?_;go_big_quiet_op;refine hK _ ?_;clear hK K)
   refine Gd.aR (Gd.gR rfl) (NdG 0 0 (bC 136 (eW 4 r.ser))) (bF _ _ _) (fun f=>[.int .i64 136,.slice A5 n5 c5]) rfl rfl rfl rfl rfl (by kernel_rfl) rfl (fun f=>rfl) (fun m f hf=>lD m.1 136 (OS m)) ?_
   simp only [Act.put,YG,YI,YH]
   refine Gd.bD (Gd.gR rfl) (NdF 0 0 [bC 131 (be4 r.iss),bC 134 (be3 r.day++be3 r.nxt),bC 136 (eW 4 r.ser)]) (lZ _ _ _) (fun f=>[(0,f 44),(1,f 46),(2,f 48)]) rfl rfl rfl rfl rfl (fun f=>rfl) (fun m f hf=>EI m.1 (BB m) (hf 44 _ rfl rfl) (hf 46 _ rfl rfl) (hf 48 _ rfl rfl)) ?_
   simp only [Act.put,YG,YI,YH]
   refine Gd.mM (Gd.gR rfl) (vT 0 1 (fT r).kids) (iV _ _ _) (fun f=>f 40) (fun f=>f 49) rfl rfl rfl rfl rfl rfl (fun _=>rfl) (fun _=>rfl) (fun m f hf=>GU (BB m) (hf 40 _ rfl rfl) (hf 49 _ rfl rfl) (by simp) (by simp)) ?_
   simp only [Act.put,YG,YI,YH]
   refine Gd.cH (fun m f hf=>?_)
   have h50:=hf 50 _ rfl
   simp only [bO]
   simp only [Act.put,YG,YI,YH]
   obtain ⟨A8,n8,c8,e50⟩:=gN.slice h50
   rw [e50] at h50 ⊢
   have Lm:=LL m
   obtain ⟨wy,hwy⟩:=m
   clear LL BB OR OS v0 v1 v5 hf e50
   have HV:=ZH (show NdG 0 1 (fT r) (.agg #[.int .i64 (fT r).tag,.slice none 0 0,.slice A8 n8 c8]) wy from ⟨_,_,_,_,_,_,rfl,RdS.nil _,h50⟩)
   clear h50
   have X8:=XQ.tr Lm
   show wpList _ _ _ _ _ _
   go_wp2_with fail
   refine (lY (d:=2) (ts:=[fT r]) _ (zG r) (uJ (t:=fT r) rfl HV.out) (by omega) (wS r) (tL HK.out)).mono ?_
   rintro e w9 ⟨A9,n9,c9,rfl,hn9,o9,b9⟩
   go_wp2_with fail
   go_ret2
   rw [HB.out,HK.out]
   exact ⟨_,_,_,rfl,hn9,o9.rd,Ext.tr (X8.alloc X8.size _) b9⟩
 · have hb:(ckR r != 0)=true:=by simpa using hc
   have HB:=ZH (show byR r=[] from if_neg hc)
   clear hc
   go_wp2_with fail
   go_ret2
   rw [HB.out]
   exact ⟨_,_,_,rfl,(show _=_ from rfl),Rd.nil_ _,x1⟩
end Go.Proofs.YtkjplpmogfmhkaaGreatDoor
