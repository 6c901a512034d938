/- Parts Ub Um Ma Mo Mb Mc Uc Md of the proof. -/
import Derived.Test.YtkjplpmogfmhkaaGreatDoorHaz
import Derived.Test.YtkjplpmogfmhkaaGreatDoorHba
namespace Go.Proofs.YtkjplpmogfmhkaaGreatDoor
open Go.RowKit
set_option linter.unusedVariables false
set_option maxRecDepth 100000
def gL (out:List NC) (c:NC):List NC:=if c ∈ out then out else out++[c]
def eI (out l:List NC):List NC:=l.foldl gL out
def fB (S:ST):List NC:=S.ms.foldl (fun out m=>eI out m.roots) (eI [] S.roots)
theorem sM (out:List NC) {l:List NC}{y:NC}{k:Nat} (h:l[k]?=some y):eI out (l.take (k+1))=gL (eI out (l.take k)) y:=by
 unfold eI
 rw [fS h,List.foldl_append]
 rfl
theorem PN {out l:List NC}{c:NC} (h:c ∈ eI out l):c ∈ out \/ c ∈ l:=by
 unfold eI at h
 induction l generalizing out with
 | nil=>exact .inl h
 | cons x l ih =>
   rcases ih h with h | h
   · unfold gL at h
     split at h
     · exact .inl h
     · rcases List.mem_append.1 h with h | h
       · exact .inl h
       · rw [List.mem_singleton.1 h];exact .inr YZ
   · exact .inr (ZG _ h)
theorem lL (out l:List NC):(eI out l).length<=out.length+l.length:=by
 unfold eI
 induction l generalizing out with
 | nil=>exact YF _
 | cons x l ih =>
   have h:=ih (gL out x)
   have h2:(gL out x).length<=out.length+1:=by
    unfold gL
    split
    · omega
    · rw [YJ];exact YF _
   rw [List.foldl_cons,YP]
   omega
theorem KT {out l:List NC} (h:smL out) (k:smL l):smL (eI out l):=fun c hc=>(PN hc).elim (h c) (k c)
structure StB (S:ST):Prop where
 r:smL S.roots
 p:smL S.pool
 m:∀ x ∈ S.ms,smL x.roots/\x.roots.length<=10000
 s:∀ x ∈ S.rs,x.ser.length<=10000
 d:∀ x ∈ S.ds,x.defs.length<=10000
 lr:S.roots.length<=10000
 lp:S.pool.length<=10000
 lm:S.ms.length<=20
 ls:S.rs.length<=10000
 ld:S.ds.length<=10000
theorem wX:∀ (ms:List MA) (out:List NC),smL out->(∀ x ∈ ms,smL x.roots)->smL (ms.foldl (fun out m=>eI out m.roots) out)
 | [],out,h,_=>h
 | m::ms,out,h,k=>wX ms _ (KT h (k m YZ)) fun x hx=>k x (ZG _ hx)
theorem nC:∀ (ms:List MA) (out:List NC),(∀ x ∈ ms,x.roots.length<=10000)->(ms.foldl (fun out m=>eI out m.roots) out).length<=out.length+ms.length*10000
 | [],out,_=>by simp
 | m::ms,out,k=>by
   have h:=nC ms (eI out m.roots) fun x hx=>k x (ZG _ hx)
   have h2:=lL out m.roots
   have h3:=k m YZ
   rw [List.foldl_cons,YP]
   omega
theorem StB.roots {S:ST} (h:StB S):smL (fB S):=wX _ _ (KT (fun c hc=>(by cases hc)) h.r) fun x hx=>(h.m x hx).1
theorem StB.rlen {S:ST} (h:StB S):(fB S).length<=210000:=by
 have h1:=nC S.ms (eI [] S.roots) fun x hx=>(h.m x hx).2
 have h2:=lL [] S.roots
 have h3:=h.lr
 have h4:=h.lm
 unfold fB
 have h5:S.ms.length*10000<=20*10000:=Nat.mul_le_mul_right _ h4
 rw [YN] at h2
 omega
def GW (l:List NC) (r:RV):Int:=if (l.any fun c=>decide (c.own=r.iss) && fF c.key (byR r) r.e r.s)=true then 0 else if (l.any fun c=>decide (c.own=r.iss))=true then 11 else 66
def fY (S:ST) (r:RV) (day:Int):Int:=if ckR r=0 then GW (cW (fB S) S.pool r.st day) r else ckR r
def accR (S:ST) (r:RV) (day:Int):ST × Int :=
 if ckR r≠0 then (S,ckR r) else if day<r.day then (S,64) else if fY S r day≠0 then (S,fY S r day) else
 match S.rs.findIdx? (fun t=>decide (t.st=r.st)) with
 | some i=>if r.num<=(S.rs.getD i bY).num then (S,67) else (⟨S.roots,S.pool,S.ms,S.rs.set i r,S.ds⟩,0)
 | none=>if 16<=S.rs.length then (S,72) else (⟨S.roots,S.pool,S.ms,S.rs++[r],S.ds⟩,0)
def kG (l:List RV) (st:List UInt8) (num:Int):Bool:=match ofR l st with
 | none=>false
 | some r=>decide (num ∈ r.ser)
theorem MU (l:List RV) (st:List UInt8) (num:Int):kG l st num=decide (num ∈ ((ofR l st).getD bY).ser):=by
 unfold kG
 cases ofR l st with
 | none=>exact (decide_eq_false (fun q=>by cases q)).symm
 | some r=>rfl
theorem BS (r:RV) (e s:Int):ckR (uC r e s)=ckR r:=rfl
theorem MV (r:RV) (e s:Int):dK (uC r e s)=dK r:=rfl
theorem BT {k:Int}{r:RV} (hk:inB 1 1073741789 k=true) (hc:ckR r=0):eT k r=uC r (oO k (dK r)) (rZ k (dK r)):=by
 unfold eT sE sS
 have hs:sK k=0:=if_pos hk
 rw [if_pos ⟨hc,hs⟩,if_pos hk,if_pos hk]
theorem KU {k:Int}{r:RV} (hk:inB 1 1073741789 k=true) (hc:ckR r=0):kE k r=0:=by
 have hs:sK k=0:=if_pos hk
 unfold kE;rw [if_pos hc,hs]
theorem wY {k:Int}{r:RV} (hk:inB 1 1073741789 k=true) (hc:ckR r=0):fF (pw 4 k) (byR (eT k r)) (eT k r).e (eT k r).s=true:=by
 obtain ⟨h0,h1⟩:=dV hk
 rw [BT hk hc]
 unfold byR
 rw [BS,if_pos hc,MV]
 exact qB h0 h1 _
theorem BU {l:List NC}{r:RV}{c:NC} (h:c ∈ l) (h1:c.own=r.iss) (h2:fF c.key (byR r) r.e r.s=true):GW l r=0 :=
 if_pos (List.any_eq_true.2 ⟨c,h,by rw [decide_eq_true h1,h2];rfl⟩)
theorem VN {l:List NC}{r:RV} (h:∀ (j:Nat) (c:NC),l[j]?=some c->c.own=r.iss->fF c.key (byR r) r.e r.s=false):GW l r=if (l.any fun c=>decide (c.own=r.iss))=true then 11 else 66:=by
 unfold GW
 rw [if_neg]
 intro q
 obtain ⟨c,hc,hq⟩:=List.any_eq_true.1 q
 obtain ⟨j,hj⟩:=List.getElem?_of_mem hc
 rw [Bool.and_eq_true] at hq
 rw [h j c hj (of_decide_eq_true hq.1)] at hq
 exact absurd hq.2 (by decide)
theorem EO {l:List NC}{i:Int}{y:NC}{k:Nat} (h:l[k]?=some y):((l.take (k+1)).any fun c=>decide (c.own=i))=(((l.take k).any fun c=>decide (c.own=i)) || decide (y.own=i)):=by
 rw [fS h,List.any_append]
 simp
def awR (k num:Int):RV:=eT k ⟨jF,1,40010,40100,[num],1,0,0⟩
theorem VO {num:Int} (h0:1<=num) (h1:num<=100):ckR ⟨jF,1,40010,40100,[num],1,0,0⟩=0:=by
 unfold ckR
 rw [if_neg (fun q=>q wM),if_neg (fun q=>q ⟨⟨by show (1:Int)<=1;omega,by show (1:Int)<=1073741824;omega⟩,⟨by show (1:Int)<=1;omega,by show (1:Int)<=1073741824;omega⟩⟩),
  if_neg (fun q=>q ⟨by show (0:Int)<=40010;omega,by show (40010:Int)<=40100;omega,by show (40100:Int)<=73048;omega⟩),if_neg (by show ¬ 64<1;omega),if_neg,if_pos (show tZ [num]=true from rfl)]
 have hs:eH num:=⟨h0,by omega⟩
 show ¬ ((!decide (eH num)) || false)=true
 rw [decide_eq_true hs]
 decide
theorem yB {a:AU} (h:AuI a [40000]) (hst:a.st=jF):∃ (c:NC) (k:Int),a.roots=[c]/\a.secs=[k]/\smN c/\a.sg.st=jF/\a.ls.st=jF/\1<=a.sg.num/\a.sg.num<=100/\smN a.sg/\smN a.ls/\a.sg.num≠a.ls.num/\kE k ⟨jF,1,40010,40100,[a.sg.num],1,0,0⟩=0 /\
 accR ⟨[c],[],[],[],[]⟩ (awR k a.sg.num) 40010=(⟨[c],[],[],[awR k a.sg.num],[]⟩,0)/\(accR ⟨[c],[],[],[awR k a.sg.num],[]⟩ (awR k a.sg.num) 40010).2=67 /\
 kG [awR k a.sg.num] jF a.sg.num=true/\kG [awR k a.sg.num] jF a.ls.num=false/\frR [awR k a.sg.num] jF 40100=true/\frR [awR k a.sg.num] jF 40101=false:=by
 have rl:=h.rlen
 have sl:=h.len
 obtain ⟨c,er⟩:∃ c,a.roots=[c]:=by
  match hr:a.roots,rl with
  | [x],_=>exact ⟨x,rfl⟩
 obtain ⟨k,es⟩:∃ k,a.secs=[k]:=by
  match hr:a.secs,sl with
  | [x],_=>exact ⟨x,rfl⟩
 obtain ⟨k1,d1,n1,q1,q2,_,_,R⟩:=h.rt 0 c (by rw [er];rfl)
 obtain ⟨k2,d2,n2,v1,v2,hn2,hn2',_,S⟩:=h.sg (by simp)
 obtain ⟨k3,d3,n3,u1,u2,_,_,_,L⟩:=h.ls (by simp)
 have hne:=h.ne (by simp)
 rw [es] at q1
 obtain rfl:k=k1:=Option.some.inj q1
 obtain rfl:(40000:Int)=d1:=Option.some.inj q2
 have hk:inB 1 1073741789 k=true:=h.sec k (by rw [es];exact List.mem_singleton.2 rfl)
 have hN:=S.num
 have hc:=VO (num:=a.sg.num) (by rw [hN];exact hn2) (by rw [hN];exact hn2')
 have hr:awR k a.sg.num=uC ⟨jF,1,40010,40100,[a.sg.num],1,0,0⟩ (oO k (dK ⟨jF,1,40010,40100,[a.sg.num],1,0,0⟩)) (rZ k (dK ⟨jF,1,40010,40100,[a.sg.num],1,0,0⟩)):=BT hk hc
 have hv:fF (pw 4 k) (byR (awR k a.sg.num)) (awR k a.sg.num).e (awR k a.sg.num).s=true:=wY hk hc
 have hck:ckR (awR k a.sg.num)=0:=by rw [hr,BS];exact hc
 have f1:(awR k a.sg.num).st=jF:=by rw [hr];rfl
 have f2:(awR k a.sg.num).num=1:=by rw [hr];rfl
 have f3:(awR k a.sg.num).day=40010:=by rw [hr];rfl
 have f4:(awR k a.sg.num).nxt=40100:=by rw [hr];rfl
 have f5:(awR k a.sg.num).ser=[a.sg.num]:=by rw [hr];rfl
 have f6:(awR k a.sg.num).iss=1:=by rw [hr];rfl
 refine ⟨c,k,er,es,?_⟩
 generalize awR k a.sg.num=r at *
 have hroot:oX a.st 40010 c:=E4 R (by decide) (by decide)
 have htr:c ∈ cW [c] [] jF 40010:=by
  obtain ⟨t,ht,_⟩:=sF [c] [] jF 40010
  rw [ht]
  exact List.mem_append_left _ (wL.2 ⟨List.mem_singleton.2 rfl,by rw [<- hst];exact hroot⟩)
 have ho:c.own=r.iss:=by rw [R.own,f6];rfl
 have hy:fF c.key (byR r) r.e r.s=true:=by rw [R.key];exact hv
 have hsg:∀ rs:List RV,fY ⟨[c],[],[],rs,[]⟩ r 40010=0:=fun rs=>by
  unfold fY
  rw [if_pos hck,f1]
  exact BU htr ho hy
 have hof:ofR [r] jF=some r:=by
  unfold ofR
  rw [List.find?_cons,decide_eq_true f1]
 refine ⟨sG R,by rw [S.st,hst],by rw [L.st,hst],by rw [hN];exact hn2,by rw [hN];exact hn2',sG S,sG L,hne,KU hk hc,?_,?_,?_,?_,?_,?_⟩
 · unfold accR
   rw [if_neg (fun q=>q hck),if_neg (by rw [f3];omega),if_neg (fun q=>q (hsg []))]
   rfl
 · unfold accR
   rw [if_neg (fun q=>q hck),if_neg (by rw [f3];omega),if_neg (fun q=>q (hsg [r]))]
   have h0:[r].findIdx? (fun t:RV=>decide (t.st=r.st))=some 0:=by
    rw [List.findIdx?_cons,decide_eq_true rfl]
    rfl
   simp only [h0]
   exact congrArg Prod.snd (if_pos (Int.le_refl _))
 · unfold kG
   rw [hof]
   show decide (a.sg.num ∈ r.ser)=true
   rw [f5]
   exact decide_eq_true (List.mem_singleton.2 rfl)
 · unfold kG
   rw [hof]
   show decide (a.ls.num ∈ r.ser)=false
   rw [f5]
   exact decide_eq_false fun q=>hne (List.mem_singleton.1 q).symm
 · unfold frR
   rw [hof]
   show decide (40100<=r.nxt)=true
   rw [f4]
   exact decide_eq_true (by omega)
 · unfold frR
   rw [hof]
   show decide (40101<=r.nxt)=false
   rw [f4]
   exact decide_eq_false (by omega)
def uD (l:List NC):Int:=if l.length<1 \/ 16<l.length then 72 else match l.find? (fun c=>decide (ckN c≠0)) with
 | some c=>ckN c
 | none=>if (l.all rtN)=true then 0 else 61
def sgE (c:NC) (st:List UInt8):Int:=if ckN c≠0 then ckN c else if c.kind≠4 then 61 else if c.st≠st then 68 else 0
def ckM (m:MA):Int:=if ¬ cC m.st then 60 else if ¬ eH m.num then 3 else if ¬ (0<=m.day/\m.day<=73048) then 8 else if uD m.roots≠0 then uD m.roots else sgE m.sg m.st
theorem KV {l:List NC} (h:uD l=0):(1<=l.length/\l.length<=16)/\∀ c ∈ l,ckN c=0/\rtN c=true:=by
 unfold uD at h
 split at h
 · cases h
 rename_i h1
 split at h
 · rename_i c hc
   have:=List.find?_some hc
   exact absurd h (of_decide_eq_true this)
 rename_i h2
 split at h
 · rename_i h3
   refine ⟨by omega,fun c hc=>⟨?_,List.all_eq_true.1 h3 c hc⟩⟩
   have:=List.find?_eq_none.1 h2 c hc
   simpa using this
 · cases h
theorem PO {m:MA} (h:ckM m=0):cC m.st/\eH m.num/\(0<=m.day/\m.day<=73048)/\uD m.roots=0/\sgE m.sg m.st=0:=by
 unfold ckM at h
 split at h
 · cases h
 rename_i h1
 split at h
 · cases h
 rename_i h2
 split at h
 · cases h
 rename_i h3
 split at h
 · rename_i h4;exact absurd h h4
 rename_i h4
 exact ⟨Decidable.not_not.1 h1,Decidable.not_not.1 h2,Decidable.not_not.1 h3,Decidable.not_not.1 h4,h⟩
def fV (m:MA):Nd:=.mk 49 [] (bC 19 m.st::bC 130 (be4 m.num)::bC 134 (be3 m.day)::m.roots.map eS)
def pP (m:MA):List UInt8:=bZ 4 [fV m]
def byM (m:MA):List UInt8:=if ckM m=0 then pP m else []
theorem MW (m:MA):kY 4 [fV m]:=by
 refine cD (B6 (by decide) (by decide) (by decide) (by decide) ?_) (jY _)
 refine cD (gE (by decide) (by decide) (by decide) (by decide)) ?_
 refine cD (gE (by decide) (by decide) (by decide) (by decide)) ?_
 refine cD (gE (by decide) (by decide) (by decide) (by decide)) ?_
 intro t ht
 obtain ⟨c,_,rfl⟩:=List.mem_map.1 ht
 exact OT c _ (List.mem_singleton.2 rfl)
theorem zI:∀ l:List NC,bV 3 (l.map eS)=l.length*10
 | []=>rfl
 | c::l=>by
   have h:=zI l
   have h1:bV 3 [eS c]=10:=rfl
   have e:bV 3 ((c::l).map eS)=bV 3 [eS c]+bV 3 (l.map eS):=by
    show ((eS c::l.map eS).map _).sum=([eS c].map _).sum+((l.map eS).map _).sum
    simp
   rw [e,h1,h,YP]
   omega
theorem wZ {m:MA} (h:m.roots.length<=16):bV 4 [fV m]<=256:=by
 have e:bV 4 [fV m]=1+(3+bV 3 (m.roots.map eS)):=by
  show ([fV m].map _).sum=1+(3+((m.roots.map eS).map _).sum)
  simp [fV,bC,Nd.kids,bV]
  omega
 rw [e,zI]
 omega
theorem zJ:∀ l:List NC,(∀ c ∈ l,c.st.length<=3)->gP 3 (l.map eS)<=l.length*37
 | [],_=>YF _
 | c::l,k=>by
   have h:=zJ l fun x hx=>k x (ZG _ hx)
   have h0:=k c YZ
   have h1:gP 3 [eS c]=c.st.length+34:=by
    simp only [gP,eS,eQ,bC,oW,Nd.val,Nd.kids,List.map_cons,List.map_nil,List.sum_cons,List.sum_nil,YJ,YN,YP,be4,be3]
    omega
   have e:gP 3 ((c::l).map eS)=gP 3 [eS c]+gP 3 (l.map eS):=by
    show ((eS c::l.map eS).map _).sum=([eS c].map _).sum+((l.map eS).map _).sum
    simp
   rw [e,h1,YP]
   omega
theorem tP {m:MA} (h:ckM m=0):(bZ 4 [fV m]).length<=4096:=by
 obtain ⟨h1,_,_,h4,_⟩:=PO h
 obtain ⟨⟨_,h5⟩,h6⟩:=KV h4
 have h1:=h1.1.2
 have k:=kZ 4 [fV m]
 have c1:=wZ (m:=m) h5
 have v1:=zJ m.roots fun c hc=>(kQ (h6 c hc).1).1.1.2
 have e:gP 4 [fV m]=m.st.length+7+gP 3 (m.roots.map eS):=by
  show ([fV m].map _).sum=m.st.length+7+((m.roots.map eS).map _).sum
  simp [fV,bC,Nd.kids,Nd.val,gP,be4,be3]
  omega
 omega
def maV (m:MA) (v:Value):Value:=.agg (aP m v).toArray
def cY (w:World) (g:Nat) (m:MA) (v:Value):Prop:=w.heap[g]?=some (.cells (aP m v).toArray 80 (0,0))
section
variable {w w':World}{g:Nat}{m:MA}{v:Value}
theorem cY.lt (h:cY w g m v):g<w.heap.size:=aA h
theorem cY.ext (h:cY w g m v) (e:Ext w w'):cY w' g m v:=(e.block g h.lt).trans h
theorem cY.row (h:cY w g m v):w.heap[g]?=some (.cells (aP m v).toArray 80 (0,0)):=h
theorem cY.c0 (h:cY w g m v):w.cell? ⟨g,0,none⟩=some (.string (aK m.st)):=by rw [cell_of_row w g 0 _ _ _ h];rfl
theorem cY.c1 (h:cY w g m v):w.cell? ⟨g,1,none⟩=some (.int .i64 m.num):=by rw [cell_of_row w g 1 _ _ _ h];rfl
theorem cY.c2 (h:cY w g m v):w.cell? ⟨g,2,none⟩=some (.int .i64 m.day):=by rw [cell_of_row w g 2 _ _ _ h];rfl
theorem cY.c3 (h:cY w g m v):w.cell? ⟨g,3,none⟩=some (v):=by rw [cell_of_row w g 3 _ _ _ h];rfl
theorem cY.c4 (h:cY w g m v):w.cell? ⟨g,4,none⟩=some (.string (aK m.sg.st)):=by rw [cell_of_row w g 4 _ _ _ h];rfl
theorem cY.c5 (h:cY w g m v):w.cell? ⟨g,5,none⟩=some (.int .i64 m.sg.kind):=by rw [cell_of_row w g 5 _ _ _ h];rfl
theorem cY.c6 (h:cY w g m v):w.cell? ⟨g,6,none⟩=some (.int .i64 m.sg.num):=by rw [cell_of_row w g 6 _ _ _ h];rfl
theorem cY.c7 (h:cY w g m v):w.cell? ⟨g,7,none⟩=some (.int .i64 m.sg.iss):=by rw [cell_of_row w g 7 _ _ _ h];rfl
theorem cY.c8 (h:cY w g m v):w.cell? ⟨g,8,none⟩=some (.int .i64 m.sg.own):=by rw [cell_of_row w g 8 _ _ _ h];rfl
theorem cY.c9 (h:cY w g m v):w.cell? ⟨g,9,none⟩=some (.int .i64 m.sg.key):=by rw [cell_of_row w g 9 _ _ _ h];rfl
theorem cY.c10 (h:cY w g m v):w.cell? ⟨g,10,none⟩=some (.int .i64 m.sg.fr):=by rw [cell_of_row w g 10 _ _ _ h];rfl
theorem cY.c11 (h:cY w g m v):w.cell? ⟨g,11,none⟩=some (.int .i64 m.sg.un):=by rw [cell_of_row w g 11 _ _ _ h];rfl
theorem cY.c12 (h:cY w g m v):w.cell? ⟨g,12,none⟩=some (.int .i64 m.sg.to):=by rw [cell_of_row w g 12 _ _ _ h];rfl
theorem cY.c13 (h:cY w g m v):w.cell? ⟨g,13,none⟩=some (.int .i64 m.sg.e):=by rw [cell_of_row w g 13 _ _ _ h];rfl
theorem cY.c14 (h:cY w g m v):w.cell? ⟨g,14,none⟩=some (.int .i64 m.sg.s):=by rw [cell_of_row w g 14 _ _ _ h];rfl
theorem cY.c15 (h:cY w g m v):w.cell? ⟨g,15,none⟩=some (.int .i64 m.e):=by rw [cell_of_row w g 15 _ _ _ h];rfl
theorem cY.c16 (h:cY w g m v):w.cell? ⟨g,16,none⟩=some (.int .i64 m.s):=by rw [cell_of_row w g 16 _ _ _ h];rfl
theorem EP (w:World) (m:MA) (v:Value):∃ wz,wz=w.alloc (.cells #[.string (aK m.st),.int .i64 m.num,.int .i64 m.day,v,.string (aK m.sg.st),.int .i64 m.sg.kind,.int .i64 m.sg.num,.int .i64 m.sg.iss,.int .i64 m.sg.own,.int .i64 m.sg.key,.int .i64 m.sg.fr,.int .i64 m.sg.un,.int .i64 m.sg.to,.int .i64 m.sg.e,.int .i64 m.sg.s,.int .i64 m.e,.int .i64 m.s] 80)/\Ext w wz/\cY wz w.heap.size m v :=
 ⟨_,rfl,(Below.refl _ _).alloc (YF _) _,aB w _⟩
end
theorem uM {l:List NC} (h:l.length<1 \/ 16<l.length):uD l=72:=if_pos h
theorem PP {l:List NC}{c:NC}{k:Nat} (hk:l[k]?=some c) (hc:ckN c≠0) (hn:∀ (j:Nat) (x:NC),j<k->l[j]?=some x->ckN x=0):l.find? (fun c=>decide (ckN c≠0))=some c:=by
 induction l generalizing k with
 | nil=>simp at hk
 | cons y l ih =>
   cases k with
   | zero =>
     have:y=c:=by simpa using hk
     subst this
     rw [List.find?_cons_of_pos (by simpa using hc)]
   | succ k =>
     have h0:=hn 0 y (Nat.zero_lt_succ _) rfl
     rw [List.find?_cons_of_neg (by simpa using h0)]
     exact ih (by simpa using hk) (fun j x hj hx=>hn (j+1) x (Nat.succ_lt_succ hj) (by simpa using hx))
theorem KX {l:List NC}{c:NC}{k:Nat} (h:¬ (l.length<1 \/ 16<l.length)) (hk:l[k]?=some c) (hc:ckN c≠0) (hn:∀ (j:Nat) (x:NC),j<k->l[j]?=some x->ckN x=0):uD l=ckN c:=by
 unfold uD
 rw [if_neg h,PP hk hc hn]
theorem zK {l:List NC} (hn:∀ (j:Nat) (x:NC),j<l.length->l[j]?=some x->ckN x=0):l.find? (fun c=>decide (ckN c≠0))=none:=by
 rw [List.find?_eq_none]
 intro x hx
 obtain ⟨j,hj⟩:=List.getElem?_of_mem hx
 have:=hn j x (List.getElem?_eq_some_iff.1 hj).1 hj
 simp [this]
theorem EQ {l:List NC}{c:NC}{k:Nat} (h:¬ (l.length<1 \/ 16<l.length)) (hn:∀ (j:Nat) (x:NC),j<l.length->l[j]?=some x->ckN x=0) (hk:l[k]?=some c) (hc:rtN c=false):uD l=61:=by
 unfold uD
 rw [if_neg h,zK hn]
 refine if_neg fun q=>?_
 rw [List.all_eq_true.1 q c (YS hk)] at hc
 cases hc
theorem PQ {l:List NC} (h:¬ (l.length<1 \/ 16<l.length)) (hn:∀ (j:Nat) (x:NC),j<l.length->l[j]?=some x->ckN x=0) (hr:∀ (j:Nat) (x:NC),j<l.length->l[j]?=some x->rtN x=true):uD l=0:=by
 unfold uD
 rw [if_neg h,zK hn]
 refine if_pos (List.all_eq_true.2 fun x hx=>?_)
 obtain ⟨j,hj⟩:=List.getElem?_of_mem hx
 exact hr j x (List.getElem?_eq_some_iff.1 hj).1 hj
theorem zL {l:List NC}{c:NC}{k:Nat}{P:NC->Prop} (hk:l[k]?=some c) (hc:P c) (hn:∀ (j:Nat) (x:NC),j<k->l[j]?=some x->P x):∀ (j:Nat) (x:NC),j<k+1->l[j]?=some x->P x:=fun j x hj hx=>by
 by_cases h:j=k
 · subst h
   rw [hk] at hx
   rw [<- Option.some.inj hx];exact hc
 · exact hn j x (by omega) hx
set_option maxHeartbeats 2000000 in
theorem yC (c:NC) (st:List UInt8) (w:World) (hs:smN c):Calls Tryz.prog 143 #[ncV c,.string (aK st)] w (dR w (.int .i64 (sgE c st))):=by
 obtain ⟨wz,hwz,ez,TZ⟩:=cT w c
 have HC:=ZH (fun W=>dO c W hs)
 have HQ:=ZH (gJ c.st st)
 obtain ⟨K,hK⟩:∃ K,sgE c st=K:=⟨_,rfl⟩
 rw [hK]
 have HK:=ZH hK
 clear hK hs
 unfold ncV
 go_enter Tryz.func143,Tryz.ntmps143
 go_wp2_with fail
 rw [<- hwz]
 clear hwz
 refine (HC.out _).mono ?_
 rintro e w1 ⟨rfl,b1⟩
 have T1:=TZ.ext b1
 have X1:=ZH (ez.tr b1)
 clear TZ ez b1
 by_cases h1:ckN c=0
 case neg =>
  have HR:=ZH (show K=ckN c by rw [<- HK.out];exact if_pos h1)
  have hb:(ckN c != 0)=true:=by simpa using h1
  clear h1
  go_wp2_with fail
  go_ret
  exact ⟨by first | (rw [HR.out];rfl) | rw [HR.out],X1.out⟩
 rw [h1]
 obtain ⟨t0,t1,t2,t3,t4,t5,t6,t7,t8,t9,t10⟩:=T1.cells
 have hl:=T1.lt
 have H1:=ZH h1
 clear h1
 by_cases h2:c.kind=4
 case neg =>
  have HR:=ZH (show K=61 by rw [<- HK.out];unfold sgE;rw [if_neg (not_not_intro H1.out),if_pos h2])
  have hb:(c.kind != 4)=true:=by simpa using h2
  clear h2
  go_wp2_with fail
  go_ret
  exact ⟨by first | (rw [HR.out];rfl) | rw [HR.out],X1.out⟩
 have hb:(c.kind != 4)=false:=by simpa using h2
 have H2:=ZH h2
 clear h2
 by_cases h3:c.st=st
 case neg =>
  have HR:=ZH (show K=68 by rw [<- HK.out];unfold sgE;rw [if_neg (not_not_intro H1.out),if_neg (not_not_intro H2.out),if_pos h3])
  have hq:((aK c.st).toList == (aK st).toList)=false:=by rw [HQ.out];exact decide_eq_false h3
  have hq2:((aK c.st).toList != (aK st).toList)=true:=by unfold bne;rw [hq];rfl
  clear h3
  go_wp2_with fail
  go_ret
  exact ⟨by first | (rw [HR.out];rfl) | rw [HR.out],X1.out⟩
 have HR:=ZH (show K=0 by rw [<- HK.out];unfold sgE;rw [if_neg (not_not_intro H1.out),if_neg (not_not_intro H2.out),if_neg (not_not_intro h3)])
 have hq:((aK c.st).toList == (aK st).toList)=true:=by rw [HQ.out];exact decide_eq_true h3
 have hq2:((aK c.st).toList != (aK st).toList)=false:=by unfold bne;rw [hq];rfl
 clear h3
 go_wp2_with fail
 go_ret
 exact ⟨by first | (rw [HR.out];rfl) | rw [HR.out],X1.out⟩
theorem BV (x:Int) (w:World):Calls Tryz.prog 142 #[.int .i64 x] w (dR w (.bool (decide (0<=x/\x<=73048)))):=by
 go_enter Tryz.func142,Tryz.ntmps142
 obtain ⟨D,hD⟩:∃ D,decide (0<=x/\x<=73048)=D:=⟨_,rfl⟩
 rw [hD]
 have HDD:=ZH hD
 clear hD
 by_cases h0:0<=x
 · have HD:=ZH (show D=decide (x<=73048) by rw [<- HDD.out];simp [h0])
   go_wp2_with fail
   go_ret
   exact ⟨by rw [HD.out];rfl,Below.refl _ _⟩
 · have HD:=ZH (show D=false by rw [<- HDD.out];exact decide_eq_false fun q=>h0 q.1)
   have h2:x<0:=by omega
   clear h0
   go_wp2_with fail
   go_ret
   exact ⟨by rw [HD.out];rfl,Below.refl _ _⟩
set_option maxHeartbeats 8000000 in
theorem oZ (m:MA) (v:Value) (w:World) (hv:RdN w v m.roots) (hs:smL m.roots) (hg:smN m.sg) (ht:m.st.length<=maxLen) (E:dS w 0):Calls Tryz.prog 53 #[maV m v] w (dR w (.int .i64 (ckM m))):=by
 obtain ⟨wz,hwz,ez,TZ⟩:=EP w m v
 have HST:=ZH (fun W=>kB m.st W ht)
 have HSR:=ZH (fun W=>cF m.num W)
 have HDY:=ZH (fun W=>BV m.day W)
 have HCK:=ZH (fun (c:NC) W (h:c ∈ m.roots)=>dO c W (hs c h))
 have HRT:=ZH (fun (c:NC) W (h:c ∈ m.roots) (e:Ext w W)=>jB c W (hs c h) (E.below e))
 have HSG:=ZH (fun W=>yC m.sg m.st W hg)
 obtain ⟨A,n,cp,rfl,hn,hnc,hcm,hel⟩:=hv.at_
 subst hn
 have HEL:=ZH hel
 unfold maxLen at hcm
 obtain ⟨K,hK⟩:∃ K,ckM m=K:=⟨_,rfl⟩
 rw [hK]
 have HK:=ZH hK
 clear hK hv hs hg ht E hel
 have X:=ZH ez
 have c0:=TZ.c0
 have c1:=TZ.c1
 have c2:=TZ.c2
 have c3:=TZ.c3
 have cl:=TZ.lt
 have HTZ:=ZH TZ
 clear TZ ez
 unfold maV aP
 go_enter Tryz.func53,Tryz.ntmps53
 go_wp2_with fail
 rw [<- hwz]
 clear hwz
 refine (HST.out _).mono ?_
 rintro e0 w1 ⟨rfl,rfl⟩
 by_cases h1:cC m.st
 case neg =>
  have HR:=ZH (show K=60 by rw [<- HK.out];exact if_pos h1)
  rw [decide_eq_false h1]
  clear h1
  go_wp2_with fail
  go_ret
  exact ⟨by first | (rw [HR.out];rfl) | rw [HR.out],X.out⟩
 rw [decide_eq_true h1]
 have H1:=ZH h1
 clear h1
 go_wp2_with fail
 refine (HSR.out _).mono ?_
 rintro e0 w1 ⟨rfl,rfl⟩
 by_cases h2:eH m.num
 case neg =>
  have HR:=ZH (show K=3 by rw [<- HK.out];unfold ckM;rw [if_neg (not_not_intro H1.out),if_pos h2])
  rw [decide_eq_false h2]
  clear h2
  go_wp2_with fail
  go_ret
  exact ⟨by first | (rw [HR.out];rfl) | rw [HR.out],X.out⟩
 rw [decide_eq_true h2]
 have H2:=ZH h2
 clear h2
 go_wp2_with fail
 refine (HDY.out _).mono ?_
 rintro e0 w1 ⟨rfl,b1⟩
 have X1:=ZH (X.out.tr b1)
 have T1:=HTZ.out.ext b1
 clear c0 c1 c2 c3 cl b1
 have c3:=T1.c3
 have cl:=T1.lt
 have HT1:=ZH T1
 clear T1 HTZ X
 by_cases h3:0<=m.day/\m.day<=73048
 case neg =>
  have HR:=ZH (show K=8 by rw [<- HK.out];unfold ckM;rw [if_neg (not_not_intro H1.out),if_neg (not_not_intro H2.out),if_pos h3])
  rw [decide_eq_false h3]
  clear h3
  go_wp2_with fail
  go_ret
  exact ⟨by first | (rw [HR.out];rfl) | rw [HR.out],X1.out⟩
 rw [decide_eq_true h3]
 have H3:=ZH h3
 clear h3
 by_cases h1:m.roots.length<1
 case pos =>
  have HR:=ZH (show K=72 by rw [<- HK.out];unfold ckM;rw [if_neg (not_not_intro H1.out),if_neg (not_not_intro H2.out),if_neg (not_not_intro H3.out),if_pos (by rw [uM (.inl h1)];decide),uM (.inl h1)])
  have hb:((m.roots.length:Int)<1):=by omega
  clear h1
  go_wp2_with fail
  go_ret
  exact ⟨by first | (rw [HR.out];rfl) | rw [HR.out],X1.out⟩
 have hb1:¬ ((m.roots.length:Int)<1):=by omega
 by_cases h2:16<m.roots.length
 case pos =>
  have HR:=ZH (show K=72 by rw [<- HK.out];unfold ckM;rw [if_neg (not_not_intro H1.out),if_neg (not_not_intro H2.out),if_neg (not_not_intro H3.out),if_pos (by rw [uM (.inr h2)];decide),uM (.inr h2)])
  have hb:((16:Int)<(m.roots.length:Int)):=by omega
  clear h2
  go_wp2_with fail
  go_ret
  exact ⟨by first | (rw [HR.out];rfl) | rw [HR.out],X1.out⟩
 have hb2:¬ ((16:Int)<(m.roots.length:Int)):=by omega
 have HL:=ZH (show ¬ (m.roots.length<1 \/ 16<m.roots.length) by omega)
 clear h1 h2
 go_wp2_with fail
 clear hb1 hb2 c3 cl
 go_loopw [3] (fun s3 wr=>∃ k:Nat,k<=m.roots.length/\s3=.int .i64 (k:Int)/\Hid (Ext w wr)/\Hid (cY wr w.heap.size m (.slice A m.roots.length cp))/\Hid (∀ (j:Nat) (x:NC),j<k->m.roots[j]?=some x->ckN x=0)) (fun s3 _=>m.roots.length - (intOf s3).toNat)
 case atStart=>exact ⟨0,YK _,rfl,X1,HT1,ZH (fun j c h=>by omega)⟩
 case round =>
  obtain ⟨k,hk,rfl,X,TR,NO⟩:=hrel
  have c3:=TR.out.c3
  have cl:=TR.out.lt
  by_cases hlt:k<m.roots.length
  case pos =>
   obtain ⟨y,hy⟩:∃ y,m.roots[k]?=some y:=⟨_,YL hlt⟩
   obtain ⟨b,o,rfl,hbl,hc⟩:=HEL.out (by omega)
   have hcy:=hc k y hy
   have HY:=ZH hy
   clear hy hc
   have wi3:IntKind.i64.wrap ((k:Int))=(k:Int):=IntWalk.i64_in _ (by omega)
   have zi3:(0:Int)<=(k:Int):=by omega
   have li3:(k:Int)<(m.roots.length:Int):=by omega
   have ti3:((k:Int)).toNat=k:=by omega
   have wk:IntKind.i64.wrap ((k:Int)+1)=(k:Int)+1:=IntWalk.i64_in _ (by omega)
   have q0:=(X.out.cell (p:=⟨b,o+k*11,none⟩) hbl).trans hcy.1
   have q1:=(X.out.cell (p:=⟨b,o+k*11+1,none⟩) hbl).trans hcy.2.1
   have q2:=(X.out.cell (p:=⟨b,o+k*11+2,none⟩) hbl).trans hcy.2.2.1
   have q3:=(X.out.cell (p:=⟨b,o+k*11+3,none⟩) hbl).trans hcy.2.2.2.1
   have q4:=(X.out.cell (p:=⟨b,o+k*11+4,none⟩) hbl).trans hcy.2.2.2.2.1
   have q5:=(X.out.cell (p:=⟨b,o+k*11+5,none⟩) hbl).trans hcy.2.2.2.2.2.1
   have q6:=(X.out.cell (p:=⟨b,o+k*11+6,none⟩) hbl).trans hcy.2.2.2.2.2.2.1
   have q7:=(X.out.cell (p:=⟨b,o+k*11+7,none⟩) hbl).trans hcy.2.2.2.2.2.2.2.1
   have q8:=(X.out.cell (p:=⟨b,o+k*11+8,none⟩) hbl).trans hcy.2.2.2.2.2.2.2.2.1
   have q9:=(X.out.cell (p:=⟨b,o+k*11+9,none⟩) hbl).trans hcy.2.2.2.2.2.2.2.2.2.1
   have q10:=(X.out.cell (p:=⟨b,o+k*11+10,none⟩) hbl).trans hcy.2.2.2.2.2.2.2.2.2.2
   clear hcy
   go_wp2_with fail
   clear q0 q1 q2 q3 q4 q5 q6 q7 q8 q9 q10
   refine (HCK.out y _ (YS HY.out)).mono ?_
   rintro e w1 ⟨rfl,b1⟩
   have X1:=ZH (X.out.tr b1)
   have TR1:=ZH (TR.out.ext b1)
   clear X TR b1 c3 cl
   by_cases h3:ckN y=0
   case neg =>
    have HR:=ZH (show K=ckN y by rw [<- HK.out];unfold ckM;rw [if_neg (not_not_intro H1.out),if_neg (not_not_intro H2.out),if_neg (not_not_intro H3.out),if_pos (by rw [KX HL.out HY.out h3 NO.out];exact h3),KX HL.out HY.out h3 NO.out])
    have hb:(ckN y != 0)=true:=by simpa using h3
    clear h3
    go_wp2_with fail
    go_ret
    exact ⟨by first | (rw [HR.out];rfl) | rw [HR.out],X1.out⟩
   have NO2:=ZH (zL (P:=fun c=>ckN c=0) HY.out h3 NO.out)
   rw [h3]
   clear h3 NO
   go_wp2_with fail
   go_roundw
   case rel=>exact ⟨k+1,by omega,by go_num,X1,TR1,NO2⟩
   case measure=>simp [intOf];omega
  case neg =>
  obtain rfl:k=m.roots.length:=by omega
  clear hlt hk
  go_wp2_with fail
  have X2:=X
  have TR2:=TR
  clear X TR c3 cl
  go_loopw [5] (fun s5 wr=>∃ k:Nat,k<=m.roots.length/\s5=.int .i64 (k:Int)/\Hid (Ext w wr)/\Hid (cY wr w.heap.size m (.slice A m.roots.length cp))/\Hid (∀ (j:Nat) (x:NC),j<k->m.roots[j]?=some x->rtN x=true)) (fun s5 _=>m.roots.length - (intOf s5).toNat)
  case atStart=>exact ⟨0,YK _,rfl,X2,TR2,ZH (fun j c h=>by omega)⟩
  case round =>
   obtain ⟨k,hk,rfl,X,TR,RT⟩:=hrel
   have c3:=TR.out.c3
   have cl:=TR.out.lt
   by_cases hlt:k<m.roots.length
   case neg =>
    obtain rfl:k=m.roots.length:=by omega
    have H5:=ZH (PQ HL.out NO.out RT.out)
    have HR:=ZH (show K=sgE m.sg m.st by rw [<- HK.out];unfold ckM;rw [if_neg (not_not_intro H1.out),if_neg (not_not_intro H2.out),if_neg (not_not_intro H3.out),if_neg (not_not_intro H5.out)])
    have c0:=TR.out.c0
    have c4:=TR.out.c4
    have c5:=TR.out.c5
    have c6:=TR.out.c6
    have c7:=TR.out.c7
    have c8:=TR.out.c8
    have c9:=TR.out.c9
    have c10:=TR.out.c10
    have c11:=TR.out.c11
    have c12:=TR.out.c12
    have c13:=TR.out.c13
    have c14:=TR.out.c14
    go_wp2_with fail
    refine (HSG.out _).mono ?_
    rintro e0 w2 ⟨rfl,b2⟩
    have X2:=ZH (X.out.tr b2)
    clear b2 c0 c3 c4 c5 c6 c7 c8 c9 c10 c11 c12 c13 c14 cl
    go_wp2_with fail
    go_ret
    exact ⟨by first | (rw [HR.out];rfl) | rw [HR.out],X2.out⟩
   case pos =>
   obtain ⟨y,hy⟩:∃ y,m.roots[k]?=some y:=⟨_,YL hlt⟩
   obtain ⟨b,o,rfl,hbl,hc⟩:=HEL.out (by omega)
   have hcy:=hc k y hy
   have HY:=ZH hy
   clear hy hc
   have wi4:IntKind.i64.wrap ((k:Int))=(k:Int):=IntWalk.i64_in _ (by omega)
   have zi4:(0:Int)<=(k:Int):=by omega
   have li4:(k:Int)<(m.roots.length:Int):=by omega
   have ti4:((k:Int)).toNat=k:=by omega
   have wk:IntKind.i64.wrap ((k:Int)+1)=(k:Int)+1:=IntWalk.i64_in _ (by omega)
   have q0:=(X.out.cell (p:=⟨b,o+k*11,none⟩) hbl).trans hcy.1
   have q1:=(X.out.cell (p:=⟨b,o+k*11+1,none⟩) hbl).trans hcy.2.1
   have q2:=(X.out.cell (p:=⟨b,o+k*11+2,none⟩) hbl).trans hcy.2.2.1
   have q3:=(X.out.cell (p:=⟨b,o+k*11+3,none⟩) hbl).trans hcy.2.2.2.1
   have q4:=(X.out.cell (p:=⟨b,o+k*11+4,none⟩) hbl).trans hcy.2.2.2.2.1
   have q5:=(X.out.cell (p:=⟨b,o+k*11+5,none⟩) hbl).trans hcy.2.2.2.2.2.1
   have q6:=(X.out.cell (p:=⟨b,o+k*11+6,none⟩) hbl).trans hcy.2.2.2.2.2.2.1
   have q7:=(X.out.cell (p:=⟨b,o+k*11+7,none⟩) hbl).trans hcy.2.2.2.2.2.2.2.1
   have q8:=(X.out.cell (p:=⟨b,o+k*11+8,none⟩) hbl).trans hcy.2.2.2.2.2.2.2.2.1
   have q9:=(X.out.cell (p:=⟨b,o+k*11+9,none⟩) hbl).trans hcy.2.2.2.2.2.2.2.2.2.1
   have q10:=(X.out.cell (p:=⟨b,o+k*11+10,none⟩) hbl).trans hcy.2.2.2.2.2.2.2.2.2.2
   clear hcy
   go_wp2_with fail
   clear q0 q1 q2 q3 q4 q5 q6 q7 q8 q9 q10
   refine (HRT.out y _ (YS HY.out) X.out).mono ?_
   rintro e w1 ⟨rfl,b1⟩
   have X1:=ZH (X.out.tr b1)
   have TR1:=ZH (TR.out.ext b1)
   clear X TR b1 c3 cl
   cases h3:rtN y with
   | false =>
     have HR:=ZH (show K=61 by rw [<- HK.out];unfold ckM;rw [if_neg (not_not_intro H1.out),if_neg (not_not_intro H2.out),if_neg (not_not_intro H3.out),if_pos (by rw [EQ HL.out NO.out HY.out h3];decide),EQ HL.out NO.out HY.out h3])
     clear h3
     go_wp2_with fail
     go_ret
     exact ⟨by first | (rw [HR.out];rfl) | rw [HR.out],X1.out⟩
   | true =>
     have RT2:=ZH (zL (P:=fun c=>rtN c=true) HY.out h3 RT.out)
     clear h3 RT
     go_wp2_with fail
     go_roundw
     case rel=>exact ⟨k+1,by omega,by go_num,X1,TR1,RT2⟩
     case measure=>simp [intOf];omega
theorem GX {W:World}{rb g1 d:Nat}{t:Nd}{T S:Int}{l:List UInt8}{A1 A2 A:Option Addr}{n1 c1 n2 c2 n c:Nat} (hg1:g1=W.heap.size) (hrb:rb<W.heap.size)
 (h:NdG (rb+1) d t (.agg #[.int .i64 t.tag,.slice A1 n1 c1,.slice A2 n2 c2]) W) (hs:RdS (fun b=>rb+1<=b) W (.slice A n c) (bvs l)) (v0 v1 v2:Value) :
 NdG (rb+1) (d+1) (.mk T [] [t,bC S l]) (.agg #[.int .i64 T,.slice none 0 0,.slice (some ⟨g1,0,none⟩) 2 2])
  (Go.Proofs.YtkjplpmogfmhkaaGreatDoor.set3 (W.alloc (.cells #[.int .i64 t.tag,.slice A1 n1 c1,.slice A2 n2 c2,.int .i64 S,.slice A n c,.slice none 0 0] 180)) rb v0 v1 v2):=by
 subst hg1
 obtain ⟨B1,m1,k1,B2,m2,k2,e,r,k⟩:=h
 injection e with e
 injection e with e
 simp only [List.cons.injEq,Value.slice.injEq,and_true,true_and] at e
 obtain ⟨⟨rfl,rfl,rfl⟩,rfl,rfl,rfl⟩:=e
 have cells:=((cN.nil (fun b=>rb+1<=b) d W).snoc r k).snoc (t:=bC S l) hs (gN.nil _ _)
 have e0:Ext W (W.alloc (.cells #[.int .i64 t.tag,.slice A1 n1 c1,.slice A2 n2 c2,.int .i64 S,.slice A n c,.slice none 0 0] 180)):=(Below.refl _ _).alloc (YF _) _
 have ho:=aJ.lit W 3 #[.int .i64 t.tag,.slice A1 n1 c1,.slice A2 n2 c2,.int .i64 S,.slice A n c,.slice none 0 0] 180 2 rfl (by unfold maxLen;omega)
 have h2:gN (fun b=>rb+1<=b) (d+1) (W.alloc (.cells #[.int .i64 t.tag,.slice A1 n1 c1,.slice A2 n2 c2,.int .i64 S,.slice A n c,.slice none 0 0] 180)) (.slice (some ⟨W.heap.size,0,none⟩) 2 2) [t,bC S l] :=
  gN.mk ho (cells.map fun b hb hlt=>⟨hb,e0.block b hlt⟩) (fun b hb=>hb) (fun b (hb:W.heap.size<=b)=>by omega)
 exact ⟨_,_,_,_,_,_,rfl,RdS.nil _,h2.map fun b hb _=>⟨hb,pL (by omega)⟩⟩
def X7 (w:World) (l:List UInt8) (e:Ending) (w':World):Prop:=∃ A n c,e=.returned (.tuple #[.slice A n c,.int .i64 0])/\GS w.heap.size l (.slice A n c) w'/\Ext w w'
set_option maxHeartbeats 1000000 in
theorem GY (e s:Int) (w:World) (he:inB 0 1073741789 e=true) (hs:inB 0 1073741789 s=true) :
 Calls Tryz.prog 210 #[.agg #[.int .i64 e,.int .i64 s]] w (X7 w (be4 e++be4 s)):=by
 have x0:Ext w (w.alloc (.cells #[.int .i64 e,.int .i64 s] 33)):=(Below.refl _ _).alloc (YF _) _
 have Ec:∀ W,Ext (w.alloc (.cells #[.int .i64 e,.int .i64 s] 33)) W->W.cell? ⟨w.heap.size,0,none⟩=some (.int .i64 e)/\W.cell? ⟨w.heap.size,1,none⟩=some (.int .i64 s):=fun W h =>
  ⟨(h.cell (p:=⟨w.heap.size,0,none⟩) (by simp)).trans (by go_simp),(h.cell (p:=⟨w.heap.size,1,none⟩) (by simp)).trans (by go_simp)⟩
 have EC:=ZH Ec
 clear Ec
 go_enter Tryz.func210,Tryz.ntmps210
 go_wp2_with fail
 refine (iJ _ _).mono ?_
 rw [he]
 rintro e' w' ⟨rfl,rfl⟩
 go_wp2_with fail
 refine (iJ _ _).mono ?_
 rw [hs]
 rintro e' w' ⟨rfl,rfl⟩
 go_wp2_with fail
 refine Gd.aI 7 (by kernel_rfl) (by kernel_rfl) ?_
 simp only [YT,YQ,YU,YV]
 intro w1 hw1
 have L:∀ m:Lt w1,Ext (w.alloc (.cells #[.int .i64 e,.int .i64 s] 33)) m.1:=fun m=>hw1.tr m.2
 have q0:∀ m:Lt w1,m.1.cell? ⟨w.heap.size,0,none⟩=some (.int .i64 e):=fun m=>(EC.out _ (L m)).1
 have q1:∀ m:Lt w1,m.1.cell? ⟨w.heap.size,1,none⟩=some (.int .i64 s):=fun m=>(EC.out _ (L m)).2
 repeat (refine Gd.aC rfl fun K hK=>?_;go_big_quiet_op;refine hK _ ?_;clear hK K)
 refine Gd.cA (Gd.gR rfl) (GB (be4 e)) (yT _) rfl rfl rfl rfl (by kernel_rfl) rfl rfl (fun m=>(mP _ _).mono fun _ _ h=>h.gb) ?_
 simp only [Act.put,YG,YI,YH]
 repeat (refine Gd.aC rfl fun K hK=>?_;go_big_quiet_op;refine hK _ ?_;clear hK K)
 refine Gd.cA (Gd.gR rfl) (GB (be4 s)) (yT _) rfl rfl rfl rfl (by kernel_rfl) rfl rfl (fun m=>(mP _ _).mono fun _ _ h=>h.gb) ?_
 simp only [Act.put,YG,YI,YH]
 refine Gd.kW (Gd.gR rfl) (GS w.heap.size (be4 e++be4 s)) (bP _ _) (fun f=>[f 16,f 19]) rfl rfl rfl rfl (fun f=>rfl) (by kernel_rfl) (fun f=>rfl) (fun m f hf=>by
  obtain ⟨A1,n1,c1,h1,hn1,r1⟩:=hf 16 _ rfl rfl
  obtain ⟨A2,n2,c2,h2,hn2,r2⟩:=hf 19 _ rfl rfl
  rw [h1,h2]
  exact (uZ _ r1 r2 (by simp [be4])).mono fun _ _ h=>h.gs (YO x0.size (L m).size)) ?_
 simp only [Act.put,YG,YI,YH]
 refine Gd.mK (by decide) (by decide) (by decide) (fun m u1 u2 u3 hu1 hu2 hu3=>?_)
 simp only [Act.put,YG,YI,YH]
 obtain ⟨A5,n5,c5,rfl⟩:=GS.slice hu3
 have r5:=ZH hu3
 clear hu3
 have Lm:=L m
 obtain ⟨wy,hwy⟩:=m
 clear L q0 q1
 go_wp2_with fail
 go_ret2
 exact ⟨_,_,_,rfl,r5.out,x0.tr Lm⟩
set_option maxHeartbeats 2000000 in
theorem ER (c:NC) (w:World) (hs:smN c) (hc0:ckN c=0) (he0:inB 0 1073741789 c.e=true) (hs0:inB 0 1073741789 c.s=true):Calls Tryz.prog 154 #[ncV c] w (ON w 2 (eS c) fun v=>.tuple #[v,.int .i64 0]):=by
 obtain ⟨wz,hwz⟩:∃ wz,wz=((w.alloc (ncO c))).alloc (.cells #[.int .i64 0,.slice none 0 0,.slice none 0 0] 180):=⟨_,rfl⟩
 have e1:Ext w (w.alloc (ncO c)):=(Below.refl _ _).alloc (YF _) _
 have x0:Ext w wz:=by rw [hwz];exact e1.alloc (by simp) _
 have hT:cK wz w.heap.size c:=by rw [hwz];exact (cK.new w c).ext ((Below.refl _ _).alloc (YF _) _)
 have hb:C3 wz (w.heap.size+1) (.int .i64 0) (.slice none 0 0) (.slice none 0 0):=by
  have:=C3.new (w.alloc (ncO c)) (.int .i64 0) (.slice none 0 0) (.slice none 0 0)
  rw [show (w.alloc (ncO c)).heap.size=w.heap.size+1 by simp] at this
  rw [hwz];exact this
 have hsz:w.heap.size+1<wz.heap.size:=hb.lt
 unfold ncV
 go_enter Tryz.func154,Tryz.ntmps154
 go_wp2_with fail
 rw [<- hwz]
 clear hwz e1
 obtain ⟨t0,t1,t2,t3,t4,t5,t6,t7,t8,t9,t10⟩:=hT.cells
 have hl:=hT.lt
 go_wp2_with fail
 refine (dO c _ hs).mono ?_
 rintro e w1 ⟨rfl,b1⟩
 have x1:=x0.tr b1
 have hT1:=hT.ext b1
 have hb1:=hb.ex b1
 clear t0 t1 t2 t3 t4 t5 t6 t7 t8 t9 t10 hl hT hb
 have h1s:w.heap.size+1+1<=w1.heap.size:=hb1.lt
 have HK:=ZH hc0
 rw [hc0]
 clear hc0
 obtain ⟨t0,t1,t2,t3,t4,t5,t6,t7,t8,t9,t10⟩:=hT1.cells
 have hl:=hT1.lt
 go_wp2_with fail
 refine (GY c.e c.s _ he0 hs0).mono ?_
 rintro e w2 ⟨A,n,cs,rfl,r,b2⟩
 have x2:=x1.tr b2
 have hT2:=hT1.ext b2
 have hb2:=hb1.ex b2
 clear t0 t1 t2 t3 t4 t5 t6 t7 t8 t9 t10 hl hT1 hb1 he0 hs0
 obtain ⟨t0,t1,t2,t3,t4,t5,t6,t7,t8,t9,t10⟩:=hT2.cells
 have hl:=hT2.lt
 have hrb:=hb2.lt
 go_wp2_with fail
 refine (tC c _ HK.out).mono ?_
 rintro e w3 ⟨b3,v,hv,rfl⟩
 obtain ⟨A1,n1,c1,A2,n2,c2,rfl⟩:=oE hv
 rw [show (eQ c).tag=48 from rfl]
 have x3:=x2.tr b3
 have hb3:=hb2.ex b3
 simp only [id]
 go_wp2_with fail
 refine (DP 3 A n cs _).mono ?_
 rintro e w4 ⟨rfl,b4⟩
 have x4':=x3.tr b4
 have hb4':=hb3.ex b4
 have HV:=ZH (bF _ _ _ _ _ _ b4 (hv.mono (B':=w.heap.size+1+1) (by have:=x2.size;omega)))
 have HS:=ZH (((bP _ _ _ _ _ (b3.tr b4) r).map (fun b hb _=>⟨YO h1s hb,rfl⟩)))
 have hrb3:=hb4'.lt
 have HN:=ZH (GX (T:=48) (S:=3) (g1:=w4.heap.size) (t:=eQ c) (d:=1) rfl hrb3 HV.out HS.out (.int .i64 48) (.slice none 0 0) (.slice (some ⟨w4.heap.size,0,none⟩) 2 2))
 have W4:Ext w4 (w4.alloc (.cells #[.int .i64 48,.slice A1 n1 c1,.slice A2 n2 c2,.int .i64 3,.slice A n cs,.slice none 0 0] 180)):=(Below.refl _ _).alloc (YF _) _
 have x4:=x4'.tr W4
 have hb4:=hb4'.ex W4
 obtain ⟨wa,hwa⟩:∃ wa,wa=w4.alloc (.cells #[.int .i64 48,.slice A1 n1 c1,.slice A2 n2 c2,.int .i64 3,.slice A n cs,.slice none 0 0] 180):=⟨_,rfl⟩
 have HN2:=ZH (show NdG (w.heap.size+1+1) (1+1) (.mk 48 [] [eQ c,bC 3 (be4 c.e++be4 c.s)]) (.agg #[.int .i64 48,.slice none 0 0,.slice (some ⟨w4.heap.size,0,none⟩) 2 2]) (Go.Proofs.YtkjplpmogfmhkaaGreatDoor.set3 wa (w.heap.size+1) (.int .i64 48) (.slice none 0 0) (.slice (some ⟨w4.heap.size,0,none⟩) 2 2)) from by rw [hwa];exact HN.out)
 rw [<- hwa] at x4 hb4
 have hwb:=hwa.symm
 clear hb4' x4' hwa W4 HN hrb3
 obtain ⟨y0,y1,y2,yf0,yf1,yf2⟩:=hb4.cells
 obtain ⟨w0',w1',w2',_,_,_⟩:=(hb4.set3 (.int .i64 48) (.slice none 0 0) (.slice (some ⟨w4.heap.size,0,none⟩) 2 2)).cells
 have hlb:=hb4.lt
 clear t0 t1 t2 t3 t4 t5 t6 t7 t8 t9 t10 hl hT2 hv r hb2 hb3
 go_wp2_with fail
 refine bodyPost_ret (v:=.tuple #[.agg #[.int .i64 48,.slice none 0 0,.slice (some ⟨w4.heap.size,0,none⟩) 2 2],.int .i64 0]) ?_ rfl ⟨vW x4 (by omega) _ _ _,_,NdG.mono (by omega) HN2.out,rfl⟩
 simp [results,Tryz.results154,go_sem,w0',w1',w2']
theorem EU {c:NC} (h:rtN c=true):inB 0 1073741789 c.e=true/\inB 0 1073741789 c.s=true:=by
 unfold rtN vfN at h
 split at h
 · split at h
   · unfold fF at h
     simp only [Bool.and_eq_true] at h
     exact ⟨h.1.1.2,h.1.2⟩
   · cases h
 · cases h
def nD (a:MA) (k:Nat):List Nd:=[bC 19 a.st,bC 130 (be4 a.num),bC 134 (be3 a.day)]++(a.roots.take k).map eS
theorem I0 (a:MA):nD a 0=[bC 19 a.st,bC 130 (be4 a.num),bC 134 (be3 a.day)]:=by simp [nD]
theorem I3 (a:MA) {k:Nat}{c:NC} (h:a.roots[k]?=some c):nD a (k+1)=nD a k++[eS c]:=by
 unfold nD
 rw [fS h,List.map_append,YW]
 rfl
theorem zM (a:MA) {k:Nat} (h:k<=a.roots.length):(nD a k).length=k+3:=by
 simp [nD,Nat.min_eq_left h]
theorem MX (a:MA):Nd.mk 49 [] (nD a a.roots.length)=fV a:=by
 unfold nD fV
 rw [List.take_length]
 rfl
structure NdO (w wr:World) (X:Nat->Prop) (A:Option Addr) (n c:Nat) (ts:List Nd):Prop where
 ext:Ext w wr
 own:∃ xs,aJ wr w.heap.size 180 3 (.slice A n c) xs/\cN (fun b=>X b/\aO (.slice A n c)≠some b) 2 wr xs ts
section
variable {w wr wx w8:World}{X:Nat->Prop}{A A8:Option Addr}{n c n8 c8 rb:Nat}{ts:List Nd}
theorem NdO.len (h:NdO w wr X A n c ts):n=ts.length:=by
 obtain ⟨xs,⟨A',n',c',e,hn,_⟩,hx⟩:=h.own
 injection e with e1 e2 e3
 have:=hx.1
 omega
theorem NdO.nd (h:NdO w wr X A n c ts):NdG 0 3 (.mk 49 [] ts) (.agg #[.int .i64 49,.slice none 0 0,.slice A n c]) wr:=by
 obtain ⟨xs,O,hx⟩:=h.own
 exact ⟨_,_,_,_,_,_,rfl,RdS.nil _,gN.mk O hx (fun b _=>YK _) (fun b _=>YK _)⟩
theorem TD {xs:List Value}{t:Nd}{A1 A2:Option Addr}{n1 c1 n2 c2:Nat} (O:aJ wr w.heap.size 180 3 (.slice A n c) xs) (hN:cN (fun b=>X b/\aO (.slice A n c)≠some b) 2 wr xs ts) (e:Ext wr wx)
 (hu:NdG wr.heap.size 2 t (.agg #[.int .i64 t.tag,.slice A1 n1 c1,.slice A2 n2 c2]) wx) (hX:∀ b,wr.heap.size<=b->X b)
 (o8:aJ w8 w.heap.size 180 3 (.slice A8 n8 c8) (xs++[.int .i64 t.tag,.slice A1 n1 c1,.slice A2 n2 c2])) (x8:Ext w w8) (g8:wx.grownBy w8 (aO (.slice A n c))) (f8:∀ r,aO (.slice A8 n8 c8)=some r->aO (.slice A n c)=some r \/ wx.heap.size<=r):NdO w w8 X A8 n8 c8 (ts++[t]):=by
 obtain ⟨B1,m1,k1,B2,m2,k2,q,r1,r2⟩:=hu
 injection q with q
 injection q with q
 simp only [List.cons.injEq,Value.slice.injEq,and_true,true_and] at q
 obtain ⟨⟨rfl,rfl,rfl⟩,rfl,rfl,rfl⟩:=q
 have hs:=e.size
 have old:∀ b,(X b/\aO (.slice A n c)≠some b)->b<wr.heap.size->(X b/\aO (.slice A8 n8 c8)≠some b)/\w8.heap[b]?=wr.heap[b]?:=fun b hb hl =>
  ⟨⟨hb.1,fun q=>(f8 b q).elim (fun q=>hb.2 q) (fun q=>by omega)⟩,(g8.block b (by omega) (fun q=>hb.2 q.symm)).trans (e.block b hl)⟩
 have new:∀ b,wr.heap.size<=b->b<wx.heap.size->(X b/\aO (.slice A8 n8 c8)≠some b)/\w8.heap[b]?=wx.heap[b]?:=fun b hb hl=>by
  have hne:aO (.slice A n c)≠some b:=fun q=>by have:=qF O b q;omega
  exact ⟨⟨hX b hb,fun q=>(f8 b q).elim hne (fun q=>by omega)⟩,g8.block b hl (fun q=>hne q.symm)⟩
 exact ⟨x8,_,o8,(hN.map old).snoc (r1.map new) (r2.map new)⟩
theorem NdO.poke (h:NdO w wr (fun b=>b≠rb) A n c ts) (hr:aO (.slice A n c)≠some rb) (hg:w.heap.size<=rb) (i:Nat) (v:Value):NdO w (wr.setCell ⟨rb,i,none⟩ v) (fun b=>b≠rb) A n c ts:=by
 obtain ⟨xs,O,hx⟩:=h.own
 exact ⟨h.ext.setCell (p:=⟨rb,i,none⟩) hg _,xs,O.grown (Gb.set rb i wr v) (.inr hr),hx.map fun b hb _=>⟨hb,aT hb.1⟩⟩
end
theorem NdF.own {B:Nat}{ts:List Nd}{g:Nat}{cs:Array Value}{w:World} (hb:B<=g) (hg:w.heap[g]?=some (.cells cs 180 (0,0))) (hl:cs.toList.length=ts.length*3) (ht:ts.length<=1000):aJ w B 180 3 (.slice (some ⟨g,0,none⟩) ts.length ts.length) cs.toList:=by
 exact ⟨_,_,_,rfl,hl.symm,.inr ⟨g,cs,rfl,hb,hg,YF _,by unfold maxLen;omega,by rw [<- Array.length_toList];exact hl,by rw [<- hl];exact List.take_length⟩⟩
theorem EV {B d:Nat} (W:World) (hB:B<=W.heap.size) {v0:Value}{t0:Nd} (h0:NdG B d t0 v0 W):∃ v' w'',(Instr.buildSlice 178 1 [(0,v0)].toArray).run Tryz.prog W=.ok v' w''/\Ext W w''/\NdF B d [t0] v' w'':=by
 obtain ⟨a0,n0,c0,b0,m0,d0,rfl,r0,k0⟩:=h0
 have e:Ext W (W.alloc (.cells #[.int .i64 t0.tag,.slice a0 n0 c0,.slice b0 m0 d0] 180)):=(Below.refl _ _).alloc (YF _) _
 exact ⟨_,_,(by go_simp:(Instr.buildSlice 178 1 [(0,.agg #[.int .i64 t0.tag,.slice a0 n0 c0,.slice b0 m0 d0])].toArray).run Tryz.prog W=.ok (.slice (some ⟨W.heap.size,0,none⟩) 1 1) (W.alloc (.cells #[.int .i64 t0.tag,.slice a0 n0 c0,.slice b0 m0 d0] 180))),e,_,_,rfl,hB,aB W _,((cN.nil _ d W).snoc r0 k0).map fun b hb hlt=>⟨hb,e.block b hlt⟩⟩
section
open Gd (dT)
variable {ops:Array Oper}{Q:Exit->Act->World->Prop}{w0:World}{R:Act->World->Prop}
end
def TE (B:Nat) (ts:List Nd):aE:=fun v w=>∃ A n c xs,v=.slice A n c/\aJ w B 180 3 (.slice A n c) xs/\cN (fun b=>True/\aO (.slice A n c)≠some b) 2 w xs ts
theorem EX (B:Nat) (ts:List Nd):cZ (TE B ts):=fun v w w' e ⟨A,n,c,xs,h1,h2,h3⟩=>⟨A,n,c,xs,h1,h2.ext e,h3.map fun b hb hl=>⟨hb,e.block b hl⟩⟩
theorem EY {B:Nat}{W:World}{ty:TypeId}{v src:Value}{ts us:List Nd} (hB:B<=W.heap.size) (hx:NdF B 2 ts v W) (hy:NdF B 2 us src W) (h2:0<us.length) (hs:ts.length+us.length<=1000) :
 ∃ v' w'',(Builtin.append_ #[178,178] ty #[v,src]).run Tryz.prog W=.ok v' w''/\Ext W w''/\TE B (ts++us) v' w'':=by
 obtain ⟨i,z,ht,hi,hz,hsz,hby,hzs⟩:=G0
 obtain ⟨g,cs,rfl,hg,hb,hc⟩:=hx
 obtain ⟨g2,cs2,rfl,hg2,hb2,hc2⟩:=hy
 obtain ⟨v',w',k1,k2,k3⟩:=run_append_arg_grows (P:=Tryz.prog) W 178 ty 180 i z 3 56 ht hi hz hsz hby hzs (by decide) ⟨g,0,none⟩ ts.length ts.length cs.toList hc.1 (fun j u hu=>by rw [Addr.add_lit,YR,cell_of_row W g j cs _ (0,0) hb];simpa using hu) ⟨g2,0,none⟩ us.length us.length cs2.toList hc2.1 (fun j u hu=>by rw [Addr.add_lit,YR,cell_of_row W g2 j cs2 _ (0,0) hb2];simpa using hu) (by omega) (by unfold maxLen;omega) (by omega)
 have e:Ext W w':=⟨k3.os,k3.tape,k3.output,k3.size,fun k hk=>k3.block k hk (by simp)⟩
 have O:=gT (by decide) k2
 obtain ⟨A',n',c',rfl,_⟩:=id O
 exact ⟨_,w',k1,e,A',n',c',_,rfl,O.mono hB,(hc.append hc2).map fun b hb hlt=>⟨⟨trivial,fun q=>by have:=aZ O b q;omega⟩,e.block b hlt⟩⟩
theorem PR {B:Nat}{ts:List Nd}{v:Value}{w:World} (h:NdF B 0 ts v w) (hk:∀ t ∈ ts,t.kids=[]):NdF B 2 ts v w:=by
 obtain ⟨g,cs,h1,h2,h3,h4⟩:=h
 refine ⟨g,cs,h1,h2,h3,h4.1,fun i t ht=>?_⟩
 obtain ⟨A1,n1,c1,A2,n2,c2,e0,e1,e2,r1,r2⟩:=h4.2 i t ht
 have hk:=hk t (YS ht)
 obtain ⟨_,A,c,q1,q2⟩:=r2
 rw [q1] at e2
 exact ⟨A1,n1,c1,A,0,c,e0,e1,e2,r1,by rw [hk];exact ⟨A,0,c,rfl,rfl,YK _,q2,fun h0=>absurd h0 (Nat.lt_irrefl 0)⟩⟩
set_option maxHeartbeats 8000000 in
theorem qX (a:MA) (v:Value) (w:World) (hv:RdN w v a.roots) (hs:smL a.roots) (hg:smN a.sg) (ht:a.st.length<=maxLen) (E:dS w 0):Calls Tryz.prog 61 #[maV a v] w (CZ w (byM a) (ckM a)):=by
 obtain ⟨wz,hwz,ez,TZ⟩:=EP w a v
 have HC:=ZH (fun W (e:Ext w W)=>oZ a v W (RdK.ext hv e) hs hg ht (E.below e))
 have HTR:=ZH (fun (c:NC) W (h:c ∈ a.roots) (q:ckN c=0) (r:rtN c=true)=>ER c W (hs c h) q (EU r).1 (EU r).2)
 obtain ⟨A,n,cp,rfl,hn,hnc,hcm,hel⟩:=hv.at_
 subst hn
 have HEL:=ZH hel
 unfold maxLen at hcm
 have EZ:=ZH ez
 have HZ:=ZH TZ
 clear hv hs hg ht E hel ez TZ
 unfold maV aP
 go_enter Tryz.func61,Tryz.ntmps61
 go_upto_region 1 with fail
 rw [<- hwz]
 clear hwz
 have HROW:=ZH HZ.out.row
 go_wp2_with (refine wpList_load_row rfl 80 _ rfl w.heap.size rfl 80 (aP a (.slice A a.roots.length cp)).toArray (0,0) _ HROW.out Tryz.underlying80 rfl cP ?_)
 refine (HC.out wz EZ.out).mono ?_
 rintro e ww ⟨rfl,b1⟩
 have X1:=ZH (EZ.out.tr b1)
 have T1:=ZH (HZ.out.ext b1)
 clear b1 HZ EZ HROW HC
 by_cases hc:ckM a=0
 case neg =>
  have hb:(ckM a != 0)=true:=by simpa using hc
  have HB:=ZH (show byM a=[] from if_neg hc)
  clear hc
  go_wp2_with fail
  go_ret2
  rw [HB.out]
  exact ⟨_,_,_,rfl,(show _=_ from rfl),Rd.nil_ _,X1.out⟩
 have HK:=ZH hc
 have HB:=ZH (show byM a=pP a from if_pos hc)
 obtain ⟨hst,⟨num0,num1⟩,⟨day0,day1⟩,hrts,_⟩:=PO hc
 have sa:a.st.length<=4096:=by have:=hst.1.2;omega
 obtain ⟨⟨_,h16⟩,hall⟩:=KV hrts
 have HALL:=ZH hall
 rw [hc]
 clear hc hst hrts hall
 have n63:a.num<9223372036854775808:=by omega
 have d63:a.day<9223372036854775808:=by omega
 have nn0:0<=a.num:=by omega
 go_upto_region 4 with fail
 refine Gd.aI 11 (by kernel_rfl) (by kernel_rfl) ?_
 simp only [YT,YQ,YU,YV]
 intro wq hw1
 have LL:∀ m:Lt wq,Ext ww m.1:=fun m=>hw1.tr m.2
 have BB:∀ m:Lt wq,ww.heap.size<=m.1.heap.size:=fun m=>(LL m).size
 have v0:∀ m:Lt wq,m.1.cell? ⟨w.heap.size,0,none⟩=some (.string (aK a.st)):=fun m=>(T1.out.ext (LL m)).c0
 have v1:∀ m:Lt wq,m.1.cell? ⟨w.heap.size,1,none⟩=some (.int .i64 a.num):=fun m=>(T1.out.ext (LL m)).c1
 have v2:∀ m:Lt wq,m.1.cell? ⟨w.heap.size,2,none⟩=some (.int .i64 a.day):=fun m=>(T1.out.ext (LL m)).c2
 have vl:∀ m:Lt wq,w.heap.size<m.1.heap.size:=fun m=>(T1.out.ext (LL m)).lt
 repeat (refine Gd.aC rfl fun K hK=>?_;go_big_quiet_op;refine hK _ ?_;clear hK K)
 refine Gd.aR (Gd.gR rfl) (NdF ww.heap.size 2 [bC 19 a.st,bC 130 (be4 a.num)]) (lZ _ _ _) (fun _=>[.string (aK a.st),.int .i64 a.num]) rfl rfl rfl rfl rfl (by kernel_rfl) rfl (fun _=>rfl) (fun m f hf=>(tO a.st a.num m.1 sa nn0 n63).mono fun e w3 ⟨v,h1,h2,h3⟩=>⟨v,h1,h2,PR (EK h3 (BB m)) (by intro t ht;simp only [List.mem_cons,List.not_mem_nil,or_false] at ht;rcases ht with rfl | rfl <;> rfl)⟩) ?_
 simp only [Act.put,YG,YI,YH]
 repeat (refine Gd.aC rfl fun K hK=>?_;go_big_quiet_op;refine hK _ ?_;clear hK K)
 refine Gd.aR (Gd.gR rfl) (GS ww.heap.size (be3 a.day)) (bP _ _) (fun _=>[.int .i64 a.day,.int .i64 3]) rfl rfl rfl rfl rfl (by kernel_rfl) rfl (fun _=>rfl) (fun m f hf=>(eP 3 a.day 3 m.1 day0 d63 rfl (by omega)).mono fun _ _ h=>(mU a.day ▸ h:gC _ _ _ _).gs (BB m)) ?_
 simp only [Act.put,YG,YI,YH]
 refine Gd.aR (Gd.gR rfl) (NdG ww.heap.size 2 (bC 134 (be3 a.day))) (bF _ _ _) (fun f=>[.int .i64 134,f 21]) rfl rfl rfl rfl rfl (by kernel_rfl) rfl (fun f=>rfl) (fun m f hf=>lD m.1 134 (hf 21 _ rfl rfl)) ?_
 simp only [Act.put,YG,YI,YH]
 refine Gd.bD (Gd.gR rfl) (NdF ww.heap.size 2 [bC 134 (be3 a.day)]) (lZ _ _ _) (fun f=>[(0,f 22)]) rfl rfl rfl rfl rfl (fun f=>rfl) (fun m f hf=>EV m.1 (BB m) (hf 22 _ rfl rfl)) ?_
 simp only [Act.put,YG,YI,YH]
 refine Gd.mM (Gd.gR rfl) (TE ww.heap.size ([bC 19 a.st,bC 130 (be4 a.num)]++[bC 134 (be3 a.day)])) (EX _ _) (fun f=>f 18) (fun f=>f 23) rfl rfl rfl rfl rfl rfl (fun _=>rfl) (fun _=>rfl) (fun m f hf=>EY (BB m) (hf 18 _ rfl rfl) (hf 23 _ rfl rfl) (by simp) (by simp)) ?_
 simp only [Act.put,YG,YI,YH]
 refine Gd.cH (fun m f hf=>?_)
 obtain ⟨A24,n24,c24,xs24,e24,O24,N24⟩:=hf 24 (TE ww.heap.size ([bC 19 a.st,bC 130 (be4 a.num)]++[bC 134 (be3 a.day)])) rfl
 simp only [bO]
 simp only [Act.put,YG,YI,YH]
 rw [e24]
 have LM:=ZH (LL m)
 have HI:Hid (NdO ww m.1 (fun _=>True) A24 n24 c24 (nD a 0)):=ZH ⟨LM.out,xs24,O24,by rw [I0];exact N24⟩
 clear hf e24 hw1 LL BB v0 v1 v2 vl O24 N24 LM
 generalize m.1=w2 at *
 generalize f 18=f18 at *
 generalize f 21=f21 at *
 generalize f 22=f22 at *
 generalize f 23=f23 at *
 clear m f
 show wpList _ _ _ _ _ _
 go_wp2_with fail
 go_loopw [5,6] (fun s5 s6 wr=>∃ (k:Nat) (A5:Option Addr) (n5 c5:Nat),k<=a.roots.length/\s6=.int .i64 (k:Int)/\s5=.slice A5 n5 c5/\Hid (NdO ww wr (fun _=>True) A5 n5 c5 (nD a k))) (fun _ s6 _=>a.roots.length - (intOf s6).toNat)
 case atStart=>exact ⟨0,_,_,_,YK _,rfl,rfl,HI⟩
 case round =>
  obtain ⟨k,A5,n5,c5,hk,rfl,rfl,I⟩:=hrel
  have TR:=ZH (T1.out.ext I.out.ext)
  have c3:=TR.out.c3
  have cl:=TR.out.lt
  by_cases hlt:k<a.roots.length
  case neg =>
   obtain rfl:k=a.roots.length:=by omega
   have HV:=ZH (show NdG 0 3 (fV a) (.agg #[.int .i64 (fV a).tag,.slice none 0 0,.slice A5 n5 c5]) wr by rw [<- MX];exact I.out.nd)
   have X9:=ZH (X1.out.tr I.out.ext)
   clear I hlt hk
   go_wp2_with fail
   refine (lY (d:=4) (ts:=[fV a]) _ (MW a) (uJ (t:=fV a) rfl HV.out) (by omega) (wZ h16) (tP HK.out)).mono ?_
   rintro e w9 ⟨A9,n9,c9,rfl,hn9,o9,b9⟩
   go_wp2_with fail
   go_ret2
   rw [HB.out,HK.out]
   exact ⟨_,_,_,rfl,hn9,o9.rd,Ext.tr (X9.out.alloc X9.out.size _) b9⟩
  case pos =>
  have XR:=ZH (X1.out.tr I.out.ext)
  obtain ⟨y,hy⟩:∃ y,a.roots[k]?=some y:=⟨_,YL hlt⟩
  obtain ⟨b,o,rfl,hbl,hc⟩:=HEL.out (by omega)
  have hcy:=hc k y hy
  have HY:=ZH hy
  clear hy hc
  have wi1:IntKind.i64.wrap ((k:Int))=(k:Int):=IntWalk.i64_in _ (by omega)
  have zi1:(0:Int)<=(k:Int):=by omega
  have li1:(k:Int)<(a.roots.length:Int):=by omega
  have ti1:((k:Int)).toNat=k:=by omega
  have wk:IntKind.i64.wrap ((k:Int)+1)=(k:Int)+1:=IntWalk.i64_in _ (by omega)
  have q0:=(XR.out.cell (p:=⟨b,o+k*11,none⟩) hbl).trans hcy.1
  have q1:=(XR.out.cell (p:=⟨b,o+k*11+1,none⟩) hbl).trans hcy.2.1
  have q2:=(XR.out.cell (p:=⟨b,o+k*11+2,none⟩) hbl).trans hcy.2.2.1
  have q3:=(XR.out.cell (p:=⟨b,o+k*11+3,none⟩) hbl).trans hcy.2.2.2.1
  have q4:=(XR.out.cell (p:=⟨b,o+k*11+4,none⟩) hbl).trans hcy.2.2.2.2.1
  have q5:=(XR.out.cell (p:=⟨b,o+k*11+5,none⟩) hbl).trans hcy.2.2.2.2.2.1
  have q6:=(XR.out.cell (p:=⟨b,o+k*11+6,none⟩) hbl).trans hcy.2.2.2.2.2.2.1
  have q7:=(XR.out.cell (p:=⟨b,o+k*11+7,none⟩) hbl).trans hcy.2.2.2.2.2.2.2.1
  have q8:=(XR.out.cell (p:=⟨b,o+k*11+8,none⟩) hbl).trans hcy.2.2.2.2.2.2.2.2.1
  have q9:=(XR.out.cell (p:=⟨b,o+k*11+9,none⟩) hbl).trans hcy.2.2.2.2.2.2.2.2.2.1
  have q10:=(XR.out.cell (p:=⟨b,o+k*11+10,none⟩) hbl).trans hcy.2.2.2.2.2.2.2.2.2.2
  clear hcy
  go_wp2_with fail
  refine (HTR.out y _ (YS HY.out) (HALL.out y (YS HY.out)).1 (HALL.out y (YS HY.out)).2).mono ?_
  rintro e w5 ⟨b5,u,hu,rfl⟩
  obtain ⟨A1,n1,c1,A2,n2,c2,rfl⟩:=oE hu
  rw [show (eS y).tag=48 from rfl] at hu ⊢
  clear q0 q1 q2 q3 q4 q5 q6 q7 q8 q9 q10 c3 cl
  obtain ⟨wa,hwa⟩:∃ wa,wa=w5.alloc (.cells #[.int .i64 48,.slice A1 n1 c1,.slice A2 n2 c2] 180):=⟨_,rfl⟩
  have ea:Ext w5 wa:=by rw [hwa];exact (Below.refl _ _).alloc (YF _) _
  have hba:C3 wa w5.heap.size (.int .i64 48) (.slice A1 n1 c1) (.slice A2 n2 c2):=by rw [hwa];exact C3.new _ _ _ _
  go_upto_region 9 with fail
  rw [<- hwa]
  clear hwa
  have ERA:=ZH (b5.tr ea)
  have ED:Ext wa (wa.alloc (.cells #[.int .i64 48,.slice A1 n1 c1,.slice A2 n2 c2] 180)):=(Below.refl _ _).alloc (YF _) _
  have HU:=ZH (bF _ _ _ _ _ _ (ea.tr ED) hu)
  have hn5:=I.out.len
  rw [zM a hk] at hn5
  have HNN:=ZH hn5
  obtain ⟨xs,O5,N5⟩:=I.out.own
  have HO5:=ZH O5
  have HN5:=ZH N5
  have HNX:=ZH (show n5*3=xs.length by rw [N5.1,zM a hk,hn5])
  have O6:=ZH (O5.ext (ERA.out.tr ED))
  have HRK:=ZH (show RdK (wa.alloc (.cells #[.int .i64 48,.slice A1 n1 c1,.slice A2 n2 c2] 180)) 3 (.slice (some ⟨wa.heap.size,0,none⟩) 1 1) [.int .i64 48,.slice A1 n1 c1,.slice A2 n2 c2] from RdK.lit wa 3 #[.int .i64 48,.slice A1 n1 c1,.slice A2 n2 c2] 180 1 rfl (by unfold maxLen;omega))
  have HONE:=ZH (show ∀ u ∈ [Value.int .i64 48,.slice A1 n1 c1,.slice A2 n2 c2],u.oneCell'=true from fun u hu=>by simp only [List.mem_cons,List.not_mem_nil,or_false] at hu;rcases hu with rfl | rfl | rfl <;> rfl)
  have X6:=ZH (I.out.ext.tr (ERA.out.tr ED))
  obtain ⟨z0,z1,z2,zf0,zf1,zf2⟩:=hba.cells
  have hlz:=hba.lt
  have ERD:=ZH (ERA.out.tr ED)
  clear O5 N5 b5 ea hu hba ED XR hn5
  go_wp2_with (refine lU (k:=3) (by decide) G0 (n:=n5) (m:=1) (B:=ww.heap.size) (w0:=ww) O6.out HNX.out HRK.out (by rfl) HONE.out X6.out (by have:=HNN.out;omega) (by have:=HNN.out;unfold maxLen;omega) X6.out.size rfl rfl rfl rfl ?_;intro A8 n8 c8 w8 hn8 o8 x8 g8 f8;have HI8:=ZH (TD HO5.out HN5.out ERD.out HU.out (fun _ _=>trivial) o8 x8 g8 f8);clear z0 z1 z2 zf0 zf1 zf2 hlz o8 x8 g8 f8)
  rw [<- I3 a HY.out] at HI8
  go_roundw
  case rel=>exact ⟨k+1,A8,n8,c8,by omega,by go_num,rfl,HI8⟩
  case measure=>simp [intOf];omega
theorem VP:kI Tryz.prog 96 177 5 56:=by
 have h:(Tryz.prog.info? 177).map (fun i=>(i.zero,i.size,i.bytes))=some (some (.agg #[.int .i64 0,.int .i64 0,.int .i64 0,.string ⟨#[]⟩,.string ⟨#[]⟩]),5,56):=by kernel_rfl
 obtain ⟨i,h1,h2,h3,h4⟩:=info_parts h
 exact ⟨i,_,Tryz.underlying96,h1,h2,h3,h4,rfl⟩
theorem zN {w:World}{A:Option Addr}{n c k:Nat}{xs:List Value} (hk:0<k) (h:RdK w k (.slice A n c) xs) (hA:A=none):xs=[]:=by
 obtain ⟨A',n',c',e,hn,_,_,hc⟩:=h
 injection e with e1 e2 e3
 subst e1 e2 e3
 by_cases h0:0<n
 · obtain ⟨b,o,e,_⟩:=hc h0
   rw [hA] at e
   cases e
 · obtain rfl:n=0:=by omega
   rw [Nat.zero_mul] at hn
   exact ZB hn.symm
theorem lM (w:World) (A:Option Addr) (n c:Nat):(binOp .eql 51 (.slice A n c) (.slice none 0 0)).run Tryz.prog w=.ok (.bool A.isNone) w:=Lib.run_eql_slice_nil w _ 56 A n c 0 0 Tryz.underlying51
set_option maxHeartbeats 1000000 in
theorem xA {a:Value}{l:List NC} (w:World) (ha:RdK w 11 a (aD l)) (hl:l.length<=1000000):Calls Tryz.prog 201 #[a] w fun e w'=>∃ A n c,e=.returned (.slice A n c)/\aJ w' w.heap.size 56 11 (.slice A n c) (aD l)/\Ext w w':=by
 have ha0:=ha
 obtain ⟨A,n,c,rfl,hn,hnc,hcm,hA⟩:=ha
 rw [bJ] at hn
 obtain rfl:n=l.length:=by omega
 unfold maxLen at hcm
 have HON:=ZH (hC l)
 cases A with
 | none =>
   have h0:=ZH (zN (by decide) ha0 rfl)
   clear hA ha0 hn
   have hq:=fun w=>lM w none l.length c
   go_enter Tryz.func201,Tryz.ntmps201
   go_wp2
   go_ret
   exact ⟨_,_,_,rfl,by rw [h0.out];exact aJ.empty _ _ _ _ _,Below.refl _ _⟩
 | some ad =>
   clear hA hn
   have hq:=fun w=>lM w (some ad) l.length c
   have e6:Ext w (w.alloc (.cells #[] 56)):=(Below.refl _ _).alloc (YF _) _
   have H6:=ZH (RdK.ext ha0 e6)
   have E6:=ZH e6
   clear ha0 e6
   go_enter Tryz.func201,Tryz.ntmps201
   go_wp2_with (refine bL (k:=11) (by decide) hF (n:=0) (m:=l.length) (B:=w.heap.size) (aJ.empty _ _ _ _ _) rfl H6.out (by rw [bJ]) HON.out E6.out (by omega) (by unfold maxLen;omega) E6.out.size rfl rfl rfl rfl ?_;intro A2 n2 c2 w2 hn2 o2 b2 g2)
   simp only [ZA] at o2
   go_ret
   exact ⟨_,_,_,rfl,o2,b2⟩
theorem lN (w:World) (A:Option Addr) (n c:Nat):(binOp .eql 96 (.slice A n c) (.slice none 0 0)).run Tryz.prog w=.ok (.bool A.isNone) w:=Lib.run_eql_slice_nil w _ 177 A n c 0 0 Tryz.underlying96
set_option maxHeartbeats 1000000 in
theorem I6 {a:Value}{l:List DF} (w:World) (ha:RdK w 5 a (hU l)) (hl:l.length<=1000000):Calls Tryz.prog 234 #[a] w fun e w'=>∃ A n c,e=.returned (.slice A n c)/\aJ w' w.heap.size 177 5 (.slice A n c) (hU l)/\Ext w w':=by
 have ha0:=ha
 obtain ⟨A,n,c,rfl,hn,hnc,hcm,hA⟩:=ha
 rw [qV] at hn
 obtain rfl:n=l.length:=by omega
 unfold maxLen at hcm
 have HON:=ZH (BQ l)
 cases A with
 | none =>
   have h0:=ZH (zN (by decide) ha0 rfl)
   clear hA ha0 hn
   have hq:=fun w=>lN w none l.length c
   go_enter Tryz.func234,Tryz.ntmps234
   go_wp2
   go_ret
   exact ⟨_,_,_,rfl,by rw [h0.out];exact aJ.empty _ _ _ _ _,Below.refl _ _⟩
 | some ad =>
   clear hA hn
   have hq:=fun w=>lN w (some ad) l.length c
   have e6:Ext w (w.alloc (.cells #[] 177)):=(Below.refl _ _).alloc (YF _) _
   have H6:=ZH (RdK.ext ha0 e6)
   have E6:=ZH e6
   clear ha0 e6
   go_enter Tryz.func234,Tryz.ntmps234
   go_wp2_with (refine bL (k:=5) (by decide) VP (n:=0) (m:=l.length) (B:=w.heap.size) (aJ.empty _ _ _ _ _) rfl H6.out (by rw [qV]) HON.out E6.out (by omega) (by unfold maxLen;omega) E6.out.size rfl rfl rfl rfl ?_;intro A2 n2 c2 w2 hn2 o2 b2 g2)
   simp only [ZA] at o2
   go_ret
   exact ⟨_,_,_,rfl,o2,b2⟩
def fO:MA:=⟨[],0,0,[],fZ,0,0⟩
theorem nE (r:MA) (v:Value) (h:v.oneCell'=true):(aP r v).toArray.all (·.oneCell')=true:=by
 rw [List.all_toArray,List.all_eq_true]
 exact kM.one r v h
set_option maxHeartbeats 4000000 in
theorem F0 (r:MA) (v:Value) (w:World) (hv:RdK w 11 v (aD r.roots)) (hl:r.roots.length<=1000000):Calls Tryz.prog 135 #[.agg (aP r v).toArray] w fun e w'=>∃ A n c,e=.returned (.agg (aP r (.slice A n c)).toArray)/\aJ w' w.heap.size 56 11 (.slice A n c) (aD r.roots)/\Ext w w':=by
 obtain ⟨wz,hwz⟩:∃ wz,wz=(w.alloc (.cells #[.string (aK r.st),.int .i64 r.num,.int .i64 r.day,v,.string (aK r.sg.st),.int .i64 r.sg.kind,.int .i64 r.sg.num,.int .i64 r.sg.iss,.int .i64 r.sg.own,.int .i64 r.sg.key,.int .i64 r.sg.fr,.int .i64 r.sg.un,.int .i64 r.sg.to,.int .i64 r.sg.e,.int .i64 r.sg.s,.int .i64 r.e,.int .i64 r.s] 80)).alloc (.cells #[.string ⟨#[]⟩,.int .i64 0,.int .i64 0,.slice none 0 0,.string ⟨#[]⟩,.int .i64 0,.int .i64 0,.int .i64 0,.int .i64 0,.int .i64 0,.int .i64 0,.int .i64 0,.int .i64 0,.int .i64 0,.int .i64 0,.int .i64 0,.int .i64 0] 80):=⟨_,rfl⟩
 have e1:Ext w (w.alloc (.cells #[.string (aK r.st),.int .i64 r.num,.int .i64 r.day,v,.string (aK r.sg.st),.int .i64 r.sg.kind,.int .i64 r.sg.num,.int .i64 r.sg.iss,.int .i64 r.sg.own,.int .i64 r.sg.key,.int .i64 r.sg.fr,.int .i64 r.sg.un,.int .i64 r.sg.to,.int .i64 r.sg.e,.int .i64 r.sg.s,.int .i64 r.e,.int .i64 r.s] 80)):=(Below.refl _ _).alloc (YF _) _
 have ez:Ext w wz:=by rw [hwz];exact e1.alloc (by simp) _
 have b0:wz.heap[w.heap.size]?=some (.cells (aP r v).toArray 80 (0,0)):=by
  rw [hwz]
  exact (((Below.refl _ _).alloc (YF _) _:Ext (w.alloc (.cells #[.string (aK r.st),.int .i64 r.num,.int .i64 r.day,v,.string (aK r.sg.st),.int .i64 r.sg.kind,.int .i64 r.sg.num,.int .i64 r.sg.iss,.int .i64 r.sg.own,.int .i64 r.sg.key,.int .i64 r.sg.fr,.int .i64 r.sg.un,.int .i64 r.sg.to,.int .i64 r.sg.e,.int .i64 r.sg.s,.int .i64 r.e,.int .i64 r.s] 80)) _).block _ (by simp)).trans (aB w _)
 have b1:wz.heap[w.heap.size+1]?=some (.cells (aP fO (.slice none 0 0)).toArray 80 (0,0)):=by
  have:=aB (w.alloc (.cells #[.string (aK r.st),.int .i64 r.num,.int .i64 r.day,v,.string (aK r.sg.st),.int .i64 r.sg.kind,.int .i64 r.sg.num,.int .i64 r.sg.iss,.int .i64 r.sg.own,.int .i64 r.sg.key,.int .i64 r.sg.fr,.int .i64 r.sg.un,.int .i64 r.sg.to,.int .i64 r.sg.e,.int .i64 r.sg.s,.int .i64 r.e,.int .i64 r.s] 80)) (.cells #[.string ⟨#[]⟩,.int .i64 0,.int .i64 0,.slice none 0 0,.string ⟨#[]⟩,.int .i64 0,.int .i64 0,.int .i64 0,.int .i64 0,.int .i64 0,.int .i64 0,.int .i64 0,.int .i64 0,.int .i64 0,.int .i64 0,.int .i64 0,.int .i64 0] 80)
  rw [show (w.alloc (.cells #[.string (aK r.st),.int .i64 r.num,.int .i64 r.day,v,.string (aK r.sg.st),.int .i64 r.sg.kind,.int .i64 r.sg.num,.int .i64 r.sg.iss,.int .i64 r.sg.own,.int .i64 r.sg.key,.int .i64 r.sg.fr,.int .i64 r.sg.un,.int .i64 r.sg.to,.int .i64 r.sg.e,.int .i64 r.sg.s,.int .i64 r.e,.int .i64 r.s] 80)).heap.size=w.heap.size+1 by simp] at this
  rw [hwz]
  exact this
 have HR:=ZH (RdK.ext hv ez)
 have HL:=ZH hl
 have EZ:=ZH ez
 have c3:wz.cell? ⟨w.heap.size,3,none⟩=some v:=by rw [cell_of_row wz w.heap.size 3 _ _ _ b0];rfl
 have cl:=aA b0
 have B0:=ZH b0
 have B1:=ZH b1
 clear b0 b1 e1 ez hv hl
 obtain ⟨A,n,c,rfl,-⟩:=id HR.out
 unfold aP
 go_enter Tryz.func135,Tryz.ntmps135
 go_wp2_with fail
 rw [<- hwz]
 clear hwz
 refine (xA _ HR.out HL.out).mono ?_
 rintro e w1 ⟨A1,n1,c1,rfl,o1,x1⟩
 have k0:=(x1.block _ cl).trans B0.out
 have k1:=(x1.block _ (aA B1.out)).trans B1.out
 have f3:w1.frozen? ⟨w.heap.size,3,none⟩=false:=by simp [World.frozen?,k0]
 have cl1:=aA k0
 have c31:w1.cell? ⟨w.heap.size,3,none⟩=some (.slice A n c):=by rw [cell_of_row _ _ 3 _ _ _ k0];rfl
 have hz:=aA B1.out
 have t0:(w1.setCell ⟨w.heap.size,3,none⟩ (.slice A1 n1 c1)).heap[w.heap.size]?=some (.cells (aP r (.slice A1 n1 c1)).toArray 80 (0,0)):=by
  have h9:=aF k0 3 (.slice A1 n1 c1)
  exact h9
 have t1:(w1.setCell ⟨w.heap.size,3,none⟩ (.slice A1 n1 c1)).heap[w.heap.size+1]?=some (.cells (aP fO (.slice none 0 0)).toArray 80 (0,0)):=(aT (by omega)).trans k1
 have HT0:=ZH t0
 have HT1:=ZH t1
 have H1:=ZH (nE r (.slice A1 n1 c1) rfl)
 have X1:=ZH (EZ.out.tr x1)
 have O1:=ZH o1
 clear t0 t1 k0 k1 c3 x1 o1 B0 B1
 go_wp2_with (first | (refine wpList_load_row rfl 80 _ rfl w.heap.size rfl 80 (aP r (.slice A1 n1 c1)).toArray (0,0) _ HT0.out Tryz.underlying80 rfl cP ?_) | (refine aL rfl 80 _ _ rfl rfl (w.heap.size+1) (aP r (.slice A1 n1 c1)).toArray rfl rfl 80 (aP fO (.slice none 0 0)).toArray HT1.out cP rfl H1.out ?_))
 refine bodyPost_ret (v:=.agg (aP r (.slice A1 n1 c1)).toArray) ?_ rfl ⟨A1,n1,c1,rfl,?_,?_⟩
 · exact results_cell_row rfl _ _ (w.heap.size+1) 80 (aP r (.slice A1 n1 c1)).toArray (0,0) _ rfl (aX HT1.out) Tryz.underlying80 rfl cP
 · have hh:w.heap.size<wz.heap.size:=by omega
   exact ((O1.out.grown (Gb.set w.heap.size 3 w1 _) (.inr fun q=>by have:=aZ O1.out _ q;omega)).grown (Gb.setRow (w.heap.size+1) _ _) (.inr fun q=>by have:=aZ O1.out _ q;omega)).mono (by omega)
 · exact aS (aG X1.out (YF _)) (by omega) _
def PS:DV:=⟨[],0,0,[],fZ,0,0⟩
theorem VQ (r:DV) (v:Value) (h:v.oneCell'=true):(d9 r v).toArray.all (·.oneCell')=true:=by
 rw [List.all_toArray,List.all_eq_true]
 exact kD.one r v h
set_option maxHeartbeats 4000000 in
theorem PT (r:DV) (v:Value) (w:World) (hv:RdK w 5 v (hU r.defs)) (hl:r.defs.length<=1000000):Calls Tryz.prog 171 #[.agg (d9 r v).toArray] w fun e w'=>∃ A n c,e=.returned (.agg (d9 r (.slice A n c)).toArray)/\aJ w' w.heap.size 177 5 (.slice A n c) (hU r.defs)/\Ext w w':=by
 obtain ⟨wz,hwz⟩:∃ wz,wz=(w.alloc (.cells #[.string (aK r.st),.int .i64 r.num,.int .i64 r.day,v,.string (aK r.sg.st),.int .i64 r.sg.kind,.int .i64 r.sg.num,.int .i64 r.sg.iss,.int .i64 r.sg.own,.int .i64 r.sg.key,.int .i64 r.sg.fr,.int .i64 r.sg.un,.int .i64 r.sg.to,.int .i64 r.sg.e,.int .i64 r.sg.s,.int .i64 r.e,.int .i64 r.s] 121)).alloc (.cells #[.string ⟨#[]⟩,.int .i64 0,.int .i64 0,.slice none 0 0,.string ⟨#[]⟩,.int .i64 0,.int .i64 0,.int .i64 0,.int .i64 0,.int .i64 0,.int .i64 0,.int .i64 0,.int .i64 0,.int .i64 0,.int .i64 0,.int .i64 0,.int .i64 0] 121):=⟨_,rfl⟩
 have e1:Ext w (w.alloc (.cells #[.string (aK r.st),.int .i64 r.num,.int .i64 r.day,v,.string (aK r.sg.st),.int .i64 r.sg.kind,.int .i64 r.sg.num,.int .i64 r.sg.iss,.int .i64 r.sg.own,.int .i64 r.sg.key,.int .i64 r.sg.fr,.int .i64 r.sg.un,.int .i64 r.sg.to,.int .i64 r.sg.e,.int .i64 r.sg.s,.int .i64 r.e,.int .i64 r.s] 121)):=(Below.refl _ _).alloc (YF _) _
 have ez:Ext w wz:=by rw [hwz];exact e1.alloc (by simp) _
 have b0:wz.heap[w.heap.size]?=some (.cells (d9 r v).toArray 121 (0,0)):=by
  rw [hwz]
  exact (((Below.refl _ _).alloc (YF _) _:Ext (w.alloc (.cells #[.string (aK r.st),.int .i64 r.num,.int .i64 r.day,v,.string (aK r.sg.st),.int .i64 r.sg.kind,.int .i64 r.sg.num,.int .i64 r.sg.iss,.int .i64 r.sg.own,.int .i64 r.sg.key,.int .i64 r.sg.fr,.int .i64 r.sg.un,.int .i64 r.sg.to,.int .i64 r.sg.e,.int .i64 r.sg.s,.int .i64 r.e,.int .i64 r.s] 121)) _).block _ (by simp)).trans (aB w _)
 have b1:wz.heap[w.heap.size+1]?=some (.cells (d9 PS (.slice none 0 0)).toArray 121 (0,0)):=by
  have:=aB (w.alloc (.cells #[.string (aK r.st),.int .i64 r.num,.int .i64 r.day,v,.string (aK r.sg.st),.int .i64 r.sg.kind,.int .i64 r.sg.num,.int .i64 r.sg.iss,.int .i64 r.sg.own,.int .i64 r.sg.key,.int .i64 r.sg.fr,.int .i64 r.sg.un,.int .i64 r.sg.to,.int .i64 r.sg.e,.int .i64 r.sg.s,.int .i64 r.e,.int .i64 r.s] 121)) (.cells #[.string ⟨#[]⟩,.int .i64 0,.int .i64 0,.slice none 0 0,.string ⟨#[]⟩,.int .i64 0,.int .i64 0,.int .i64 0,.int .i64 0,.int .i64 0,.int .i64 0,.int .i64 0,.int .i64 0,.int .i64 0,.int .i64 0,.int .i64 0,.int .i64 0] 121)
  rw [show (w.alloc (.cells #[.string (aK r.st),.int .i64 r.num,.int .i64 r.day,v,.string (aK r.sg.st),.int .i64 r.sg.kind,.int .i64 r.sg.num,.int .i64 r.sg.iss,.int .i64 r.sg.own,.int .i64 r.sg.key,.int .i64 r.sg.fr,.int .i64 r.sg.un,.int .i64 r.sg.to,.int .i64 r.sg.e,.int .i64 r.sg.s,.int .i64 r.e,.int .i64 r.s] 121)).heap.size=w.heap.size+1 by simp] at this
  rw [hwz]
  exact this
 have HR:=ZH (RdK.ext hv ez)
 have HL:=ZH hl
 have EZ:=ZH ez
 have c3:wz.cell? ⟨w.heap.size,3,none⟩=some v:=by rw [cell_of_row wz w.heap.size 3 _ _ _ b0];rfl
 have cl:=aA b0
 have B0:=ZH b0
 have B1:=ZH b1
 clear b0 b1 e1 ez hv hl
 obtain ⟨A,n,c,rfl,-⟩:=id HR.out
 unfold d9
 go_enter Tryz.func171,Tryz.ntmps171
 go_wp2_with fail
 rw [<- hwz]
 clear hwz
 refine (I6 _ HR.out HL.out).mono ?_
 rintro e w1 ⟨A1,n1,c1,rfl,o1,x1⟩
 have k0:=(x1.block _ cl).trans B0.out
 have k1:=(x1.block _ (aA B1.out)).trans B1.out
 have f3:w1.frozen? ⟨w.heap.size,3,none⟩=false:=by simp [World.frozen?,k0]
 have cl1:=aA k0
 have c31:w1.cell? ⟨w.heap.size,3,none⟩=some (.slice A n c):=by rw [cell_of_row _ _ 3 _ _ _ k0];rfl
 have hz:=aA B1.out
 have t0:(w1.setCell ⟨w.heap.size,3,none⟩ (.slice A1 n1 c1)).heap[w.heap.size]?=some (.cells (d9 r (.slice A1 n1 c1)).toArray 121 (0,0)):=by
  have h9:=aF k0 3 (.slice A1 n1 c1)
  exact h9
 have t1:(w1.setCell ⟨w.heap.size,3,none⟩ (.slice A1 n1 c1)).heap[w.heap.size+1]?=some (.cells (d9 PS (.slice none 0 0)).toArray 121 (0,0)):=(aT (by omega)).trans k1
 have HT0:=ZH t0
 have HT1:=ZH t1
 have H1:=ZH (VQ r (.slice A1 n1 c1) rfl)
 have X1:=ZH (EZ.out.tr x1)
 have O1:=ZH o1
 clear t0 t1 k0 k1 c3 x1 o1 B0 B1
 go_wp2_with (first | (refine wpList_load_row rfl 121 _ rfl w.heap.size rfl 121 (d9 r (.slice A1 n1 c1)).toArray (0,0) _ HT0.out Tryz.underlying121 rfl uL ?_) | (refine aL rfl 121 _ _ rfl rfl (w.heap.size+1) (d9 r (.slice A1 n1 c1)).toArray rfl rfl 121 (d9 PS (.slice none 0 0)).toArray HT1.out uL rfl H1.out ?_))
 refine bodyPost_ret (v:=.agg (d9 r (.slice A1 n1 c1)).toArray) ?_ rfl ⟨A1,n1,c1,rfl,?_,?_⟩
 · exact results_cell_row rfl _ _ (w.heap.size+1) 121 (d9 r (.slice A1 n1 c1)).toArray (0,0) _ rfl (aX HT1.out) Tryz.underlying121 rfl uL
 · have hh:w.heap.size<wz.heap.size:=by omega
   exact ((O1.out.grown (Gb.set w.heap.size 3 w1 _) (.inr fun q=>by have:=aZ O1.out _ q;omega)).grown (Gb.setRow (w.heap.size+1) _ _) (.inr fun q=>by have:=aZ O1.out _ q;omega)).mono (by omega)
 · exact aS (aG X1.out (YF _)) (by omega) _
def yD (m:MA) (e s:Int):MA:=⟨m.st,m.num,m.day,m.roots,m.sg,e,s⟩
def lO (k:Int) (m:MA):MA:=if ckM m=0/\sK k=0 then yD m (sE k (pP m)) (sS k (pP m)) else fO
def I7 (k:Int) (m:MA):Int:=if ckM m=0 then sK k else ckM m
theorem KY (m:MA):(byM m).length<=4096:=by
 unfold byM
 split
 · rename_i h;exact tP h
 · simp
def XD (w:World) (v:Value) (m:MA) (k:Int) (e:Ending) (w':World):Prop:=∃ A n c,e=.returned (.tuple #[maV m (.slice A n c),.int .i64 k])/\RdN w' (.slice A n c) m.roots/\Ext w w'/\(.slice A n c=v \/ .slice A n c=Value.slice none 0 0)
theorem cY.frozen {w:World}{g:Nat}{m:MA}{v:Value} (h:cY w g m v) (i:Nat):w.frozen? ⟨g,i,none⟩=false:=by
 unfold cY at h
 simp [World.frozen?,h]
theorem cY.setSig {w:World}{g:Nat}{m:MA}{v:Value} (h:cY w g m v) (e s:Int):cY ((w.setCell ⟨g,15,none⟩ (.int .i64 e)).setCell ⟨g,16,none⟩ (.int .i64 s)) g (yD m e s) v:=by
 have h9:=aF (aF h 15 (.int .i64 e)) 16 (.int .i64 s)
 exact h9
theorem cY.other {w:World}{g b i:Nat}{m:MA}{v u:Value} (h:cY w g m v) (hne:g≠b):cY (w.setCell ⟨b,i,none⟩ u) g m v:=(aT hne).trans h
structure TF (w wz:World) (m:MA) (v:Value):Prop where
 ext:Ext w wz
 c:cY wz w.heap.size m v
 r:cY wz (w.heap.size+1) fO (.slice none 0 0)
theorem IA (w:World) (a:MA) (v:Value):∃ wz,wz=(w.alloc (.cells #[.string (aK a.st),.int .i64 a.num,.int .i64 a.day,v,.string (aK a.sg.st),.int .i64 a.sg.kind,.int .i64 a.sg.num,.int .i64 a.sg.iss,.int .i64 a.sg.own,.int .i64 a.sg.key,.int .i64 a.sg.fr,.int .i64 a.sg.un,.int .i64 a.sg.to,.int .i64 a.sg.e,.int .i64 a.sg.s,.int .i64 a.e,.int .i64 a.s] 80)).alloc (.cells #[.string ⟨#[]⟩,.int .i64 0,.int .i64 0,.slice none 0 0,.string ⟨#[]⟩,.int .i64 0,.int .i64 0,.int .i64 0,.int .i64 0,.int .i64 0,.int .i64 0,.int .i64 0,.int .i64 0,.int .i64 0,.int .i64 0,.int .i64 0,.int .i64 0] 80)/\TF w wz a v:=by
 have e1:Ext w (w.alloc (.cells #[.string (aK a.st),.int .i64 a.num,.int .i64 a.day,v,.string (aK a.sg.st),.int .i64 a.sg.kind,.int .i64 a.sg.num,.int .i64 a.sg.iss,.int .i64 a.sg.own,.int .i64 a.sg.key,.int .i64 a.sg.fr,.int .i64 a.sg.un,.int .i64 a.sg.to,.int .i64 a.sg.e,.int .i64 a.sg.s,.int .i64 a.e,.int .i64 a.s] 80)):=(Below.refl _ _).alloc (YF _) _
 have e2:Ext (w.alloc (.cells #[.string (aK a.st),.int .i64 a.num,.int .i64 a.day,v,.string (aK a.sg.st),.int .i64 a.sg.kind,.int .i64 a.sg.num,.int .i64 a.sg.iss,.int .i64 a.sg.own,.int .i64 a.sg.key,.int .i64 a.sg.fr,.int .i64 a.sg.un,.int .i64 a.sg.to,.int .i64 a.sg.e,.int .i64 a.sg.s,.int .i64 a.e,.int .i64 a.s] 80)) ((w.alloc (.cells #[.string (aK a.st),.int .i64 a.num,.int .i64 a.day,v,.string (aK a.sg.st),.int .i64 a.sg.kind,.int .i64 a.sg.num,.int .i64 a.sg.iss,.int .i64 a.sg.own,.int .i64 a.sg.key,.int .i64 a.sg.fr,.int .i64 a.sg.un,.int .i64 a.sg.to,.int .i64 a.sg.e,.int .i64 a.sg.s,.int .i64 a.e,.int .i64 a.s] 80)).alloc (.cells #[.string ⟨#[]⟩,.int .i64 0,.int .i64 0,.slice none 0 0,.string ⟨#[]⟩,.int .i64 0,.int .i64 0,.int .i64 0,.int .i64 0,.int .i64 0,.int .i64 0,.int .i64 0,.int .i64 0,.int .i64 0,.int .i64 0,.int .i64 0,.int .i64 0] 80)):=(Below.refl _ _).alloc (YF _) _
 refine ⟨_,rfl,e1.tr e2,(e2.block _ (by simp)).trans (aB w _),?_⟩
 have:=aB (w.alloc (.cells #[.string (aK a.st),.int .i64 a.num,.int .i64 a.day,v,.string (aK a.sg.st),.int .i64 a.sg.kind,.int .i64 a.sg.num,.int .i64 a.sg.iss,.int .i64 a.sg.own,.int .i64 a.sg.key,.int .i64 a.sg.fr,.int .i64 a.sg.un,.int .i64 a.sg.to,.int .i64 a.sg.e,.int .i64 a.sg.s,.int .i64 a.e,.int .i64 a.s] 80)) (.cells #[.string ⟨#[]⟩,.int .i64 0,.int .i64 0,.slice none 0 0,.string ⟨#[]⟩,.int .i64 0,.int .i64 0,.int .i64 0,.int .i64 0,.int .i64 0,.int .i64 0,.int .i64 0,.int .i64 0,.int .i64 0,.int .i64 0,.int .i64 0,.int .i64 0] 80)
 rw [show (w.alloc (.cells #[.string (aK a.st),.int .i64 a.num,.int .i64 a.day,v,.string (aK a.sg.st),.int .i64 a.sg.kind,.int .i64 a.sg.num,.int .i64 a.sg.iss,.int .i64 a.sg.own,.int .i64 a.sg.key,.int .i64 a.sg.fr,.int .i64 a.sg.un,.int .i64 a.sg.to,.int .i64 a.sg.e,.int .i64 a.sg.s,.int .i64 a.e,.int .i64 a.s] 80)).heap.size=w.heap.size+1 by simp] at this
 exact this
theorem TF.tr {w wz wy:World}{m:MA}{v:Value} (h:TF w wz m v) (e:Ext wz wy):TF w wy m v:=⟨h.ext.tr e,h.c.ext e,h.r.ext e⟩
set_option maxHeartbeats 8000000 in
theorem yE (k:Int) (a:MA) (v:Value) (w:World) (hv:RdN w v a.roots) (hs:smL a.roots) (hg:smN a.sg) (ht:a.st.length<=maxLen) (E:dS w 0):Calls Tryz.prog 63 #[.int .i64 k,maV a v] w (XD w v (lO k a) (I7 k a)):=by
 obtain ⟨wz,hwz,Tz⟩:=IA w a v
 have HB:=ZH (fun W (e:Ext w W)=>qX a v W (RdK.ext hv e) hs hg ht (E.below e))
 have HV:=ZH (fun W (e:Ext w W)=>(RdK.ext hv e:RdN W v a.roots))
 obtain ⟨A,n,cp,rfl,hn,-⟩:=hv.at_
 subst hn
 have TZ:=ZH Tz
 have HE:=ZH E
 clear hv hs hg ht Tz E
 unfold maV aP
 go_enter Tryz.func63,Tryz.ntmps63
 go_upto_region 1 with fail
 rw [<- hwz]
 clear hwz
 have HR0:=ZH TZ.out.c.row
 go_wp2_with (refine wpList_load_row rfl 80 _ rfl (w.heap.size) rfl 80 (aP a (.slice A a.roots.length cp)).toArray (0,0) _ HR0.out Tryz.underlying80 rfl cP ?_)
 refine (HB.out wz TZ.out.ext).mono ?_
 rintro e w1 ⟨A1,n1,c1,rfl,hn1,r1,b1⟩
 have T1:=ZH (TZ.out.tr b1)
 have HRB:=ZH r1
 clear b1 TZ HR0 r1 hn1 HB
 have hlr:=T1.out.r.lt
 have hlc:=T1.out.c.lt
 have HZA:=ZH (nE fO (.slice none 0 0) rfl)
 by_cases hc:ckM a=0
 case neg =>
  have HI:=ZH (show lO k a=fO from if_neg (fun q=>hc q.1))
  have HJ:=ZH (show I7 k a=ckM a from if_neg hc)
  have hb:(ckM a != 0)=true:=by simpa using hc
  clear hc
  have HZ:=ZH T1.out.r.row
  go_wp2_with (refine aL rfl 80 _ _ rfl rfl (w.heap.size+1) (aP fO (.slice none 0 0)).toArray rfl rfl 80 (aP fO (.slice none 0 0)).toArray HZ.out cP rfl HZA.out ?_)
  have HY:=ZH (aX (cells:=(aP fO (.slice none 0 0)).toArray) HZ.out)
  refine bodyPost_ret (v:=.tuple #[.agg (aP fO (.slice none 0 0)).toArray,.int .i64 (ckM a)]) ?_ rfl ⟨none,0,0,by rw [HI.out,HJ.out];rfl,by rw [HI.out];exact RdK.nil_ _ _ _,aS T1.out.ext (by omega) _,.inr rfl⟩
  simp [results,Tryz.results63,asAddr,run_loadVar_row _ (w.heap.size+1) 80 80 (aP fO (.slice none 0 0)).toArray (0,0) _ HY.out Tryz.underlying80 rfl cP]
 have HK:=ZH hc
 have hlen:=KY a
 have HBY:=ZH (show byM a=pP a from if_pos hc)
 rw [hc]
 clear hc
 go_wp2_with fail
 refine (mS k _ HRB.out (by omega) (HE.out.below T1.out.ext)).mono ?_
 rintro e w2 ⟨rfl,b2⟩
 have T2:=ZH (T1.out.tr b2)
 clear T1 hlr hlc b2
 unfold sgV
 rw [HBY.out]
 obtain ⟨es,hes⟩:∃ es,sE k (pP a)=es:=⟨_,rfl⟩
 obtain ⟨ss,hss⟩:∃ ss,sS k (pP a)=ss:=⟨_,rfl⟩
 rw [hes,hss]
 have HES:=ZH hes
 have HSS:=ZH hss
 clear hes hss
 obtain ⟨wa,hwa,sa⟩:=mT w2 es ss
 have T3:=ZH (T2.out.tr sa.ext)
 have s0:=sa.c0
 have s1:=sa.c1
 have sl:=sa.lt
 clear sa
 have HZ3:=ZH T3.out.r
 by_cases hk:sK k=0
 case neg =>
  have HI:=ZH (show lO k a=fO from if_neg (fun q=>hk q.2))
  have HJ:=ZH (show I7 k a=sK k from if_pos HK.out)
  have hb:(sK k != 0)=true:=by simpa using hk
  clear hk
  have HZ:=ZH HZ3.out.row
  go_upto_region 5 with fail
  rw [<- hwa]
  clear hwa
  go_wp2_with (refine aL rfl 80 _ _ rfl rfl (w.heap.size+1) (aP fO (.slice none 0 0)).toArray rfl rfl 80 (aP fO (.slice none 0 0)).toArray HZ.out cP rfl HZA.out ?_)
  have HY:=ZH (aX (cells:=(aP fO (.slice none 0 0)).toArray) HZ.out)
  refine bodyPost_ret (v:=.tuple #[.agg (aP fO (.slice none 0 0)).toArray,.int .i64 (sK k)]) ?_ rfl ⟨none,0,0,by rw [HI.out,HJ.out];rfl,by rw [HI.out];exact RdK.nil_ _ _ _,aS T3.out.ext (by omega) _,.inr rfl⟩
  simp [results,Tryz.results63,asAddr,run_loadVar_row _ (w.heap.size+1) 80 80 (aP fO (.slice none 0 0)).toArray (0,0) _ HY.out Tryz.underlying80 rfl cP]
 have HI:=ZH (show lO k a=yD a es ss by rw [<- HES.out,<- HSS.out];exact if_pos ⟨HK.out,hk⟩)
 have HJ:=ZH (show I7 k a=0 by unfold I7;rw [if_pos HK.out,hk])
 rw [hk]
 clear hk
 go_upto_region 5 with fail
 rw [<- hwa]
 clear hwa
 have f15:=T3.out.c.frozen 15
 have f16:=T3.out.c.frozen 16
 have c15:=T3.out.c.c15
 have c16:=T3.out.c.c16
 have hl0:=T3.out.c.lt
 have HZ:=ZH (((HZ3.out.other (b:=w.heap.size) (i:=15) (u:=.int .i64 es) (by omega)).other (b:=w.heap.size) (i:=16) (u:=.int .i64 ss) (by omega)).row)
 have HS:=ZH ((T3.out.c.setSig es ss).row)
 have HNA:=ZH (nE (yD a es ss) (.slice A a.roots.length cp) rfl)
 go_wp2_with (first | (refine wpList_load_row rfl 80 _ rfl (w.heap.size) rfl 80 (aP (yD a es ss) (.slice A a.roots.length cp)).toArray (0,0) _ HS.out Tryz.underlying80 rfl cP ?_) | (refine aL rfl 80 _ _ rfl rfl (w.heap.size+1) (aP (yD a es ss) (.slice A a.roots.length cp)).toArray rfl rfl 80 (aP fO (.slice none 0 0)).toArray HZ.out cP rfl HNA.out ?_))
 have HY:=ZH (aX (cells:=(aP (yD a es ss) (.slice A a.roots.length cp)).toArray) HZ.out)
 have XZ:=ZH (aS (g:=w.heap.size+1) (aG (i:=16) (v:=.int .i64 ss) (aG (i:=15) (v:=.int .i64 es) T3.out.ext (YF _)) (YF _)) (Nat.le_succ _) (aP (yD a es ss) (.slice A a.roots.length cp)).toArray)
 refine bodyPost_ret (v:=.tuple #[.agg (aP (yD a es ss) (.slice A a.roots.length cp)).toArray,.int .i64 0]) ?_ rfl ⟨A,_,cp,by rw [HI.out,HJ.out];rfl,by rw [HI.out];exact HV.out _ XZ.out,XZ.out,.inl rfl⟩
 simp [results,Tryz.results63,asAddr,run_loadVar_row _ (w.heap.size+1) 80 80 (aP (yD a es ss) (.slice A a.roots.length cp)).toArray (0,0) _ HY.out Tryz.underlying80 rfl cP]
end Go.Proofs.YtkjplpmogfmhkaaGreatDoor
