/- Parts Uk Ul Mk Ai of the proof. -/
import Derived.Test.YtkjplpmogfmhkaaGreatDoorHbb
import Derived.Test.YtkjplpmogfmhkaaGreatDoorHbe
namespace Go.Proofs.YtkjplpmogfmhkaaGreatDoor
open Go.RowKit
set_option linter.unusedVariables false
set_option maxRecDepth 100000
def dD (l:List Int) (n:Int):List Int:=(l.filter fun x=>decide (x<n))++n::(l.filter fun x=>decide (n<x))
def nI (l:List Int) (n:Int):List Int:=l.filter fun x=>decide (x<n)
def hiT (l:List Int) (n:Int):List Int:=l.filter fun x=>decide (n<x)
theorem N6 {l:List Int}{n y:Int}{k:Nat} (h:l[k]?=some y):nI (l.take (k+1)) n=if y<n then nI (l.take k) n++[y] else nI (l.take k) n:=by
 obtain ⟨hk,rfl⟩:=List.getElem?_eq_some_iff.1 h
 unfold nI
 rw [List.take_succ_eq_append_getElem hk,List.filter_append]
 by_cases q:l[k]<n
 · simp [q]
 · simp [q]
theorem Q4 {l:List Int}{n y:Int}{k:Nat} (h:l[k]?=some y):hiT (l.take (k+1)) n=if n<y then hiT (l.take k) n++[y] else hiT (l.take k) n:=by
 obtain ⟨hk,rfl⟩:=List.getElem?_eq_some_iff.1 h
 unfold hiT
 rw [List.take_succ_eq_append_getElem hk,List.filter_append]
 by_cases q:n<l[k]
 · simp [q]
 · simp [q]
theorem Q5 (l:List Int) (n:Int) (k:Nat):(nI (l.take k) n).length<=l.length:=YO (List.length_filter_le _ _) (List.length_take_le' _ _)
theorem TO (l:List Int) (n:Int) (k:Nat):(hiT (l.take k) n).length<=l.length:=YO (List.length_filter_le _ _) (List.length_take_le' _ _)
theorem TU (l:List Int) (n:Int):dD l n=(nI (l.take l.length) n++[n])++hiT (l.take l.length) n:=by
 unfold dD nI hiT
 rw [List.take_length]
 simp
theorem Q6 (w:World):∃ wz,wz=w.alloc (.cells (.string ⟨#[]⟩::.slice none 0 0::.slice none 0 0::.slice none 0 0::.string ⟨#[]⟩::.int .i64 0::.int .i64 0::.int .i64 0::.int .i64 0::.int .i64 0::.int .i64 0::.int .i64 0::.int .i64 0::.int .i64 0::.int .i64 0::.string ⟨#[]⟩::.int .i64 0::.int .i64 0::.int .i64 0::.int .i64 0::.int .i64 0::.int .i64 0::.int .i64 0::.int .i64 0::.int .i64 0::.int .i64 0::.int .i64 0::.int .i64 0::.int .i64 0::.int .i64 0::.slice none 0 0::.slice none 0 0::.slice none 0 0::([]:List Value)).toArray 98)/\Ext w wz/\aU wz w.heap.size dG :=
 ⟨_,rfl,(Below.refl _ _).alloc (YF _) _,aB w _⟩
theorem uN (w:World) (x:Int):Rd (w.alloc (.cells #[.int .i64 x] 3)) (.slice (some ⟨w.heap.size,0,none⟩) 1 1) [.int .i64 x]:=by
 have:=RdK.lit w 1 #[.int .i64 x] 3 1 rfl (by unfold maxLen;omega)
 exact RdK.r1 this
theorem aU.put_V {w:World}{g:Nat}{x:AB} (h:aU w g x) (v:Value):aU (w.setCell ⟨g,30,none⟩ v) g { x with V:=v }:=by
 have h9:=aF h 30 v
 simp only [YG,YI,YH] at h9
 exact h9
theorem aU.put_li {w:World}{g:Nat}{x:AB} (h:aU w g x) (v:Int):aU (w.setCell ⟨g,29,none⟩ (.int .i64 v)) g { x with li:=v }:=by
 have h9:=aF h 29 (.int .i64 v)
 simp only [YG,YI,YH] at h9
 exact h9
theorem IL (l:List Int) (x:Int):l.map (Value.int .i64)++[.int .i64 x]=(l++[x]).map (Value.int .i64):=by simp
def rvT:List Nat:=[103]
theorem VY:103 ∈ rvT:=List.mem_singleton.2 rfl
def IM (B:Nat):aE:=fun v w=>∃ g,v=.pointer (some ⟨g,0,none⟩)/\B<=g/\pM w g 103 8
theorem nJ (B:Nat) (S:List Nat) (G:Nat->Prop):(RG S G).stable (IM B):=fun v w w' r ⟨g,h1,h2,h3⟩=>⟨g,h1,h2,h3.rg r⟩
def GIs (B:Nat) (l:List Int):aE:=fun v w=>∃ A n c,v=.slice A n c/\Own w B 3 (.slice A n c) (l.map (Value.int .i64))
theorem Own.rgs {w w':World}{B:Nat}{e:TypeId}{v:Value}{xs:List Value}{S:List Nat}{G:Nat->Prop} (h:Own w B e v xs) (r:RgS S G w w') (he:e ∉ S):Own w' B e v xs:=by
 obtain ⟨A,n,c,rfl,hn,h | ⟨g,cur,rfl,hB,hg,hr⟩⟩:=h
 · exact ⟨A,n,c,rfl,hn,.inl h⟩
 · exact ⟨_,n,c,rfl,hn,.inr ⟨g,cur,rfl,hB,r.other hg he,hr⟩⟩
theorem IN (B:Nat) (l:List Int) (G:Nat->Prop):(RG rvT G).stable (GIs B l):=fun v w w' r ⟨A,n,c,h1,h2⟩=>⟨A,n,c,h1,h2.rgs r (by decide)⟩
def GRs (B:Nat) (r:RV) (l:List Int):aE:=fun v w=>∃ A n c,v=rvV r (.slice A n c)/\Own w B 3 (.slice A n c) (l.map (Value.int .i64))
theorem xE (B:Nat) (r:RV) (l:List Int) (G:Nat->Prop):(RG rvT G).stable (GRs B r l):=fun v w w' q ⟨A,n,c,h1,h2⟩=>⟨A,n,c,h1,h2.rgs q (by decide)⟩
def GRk (B:Nat) (r:RV) (k:Int):aE:=fun v w=>∃ A n c,v=.tuple #[rvV r (.slice A n c),.int .i64 k]/\Own w B 3 (.slice A n c) (r.ser.map (Value.int .i64))
theorem xF (B:Nat) (r:RV) (k:Int) (G:Nat->Prop):(RG rvT G).stable (GRk B r k):=fun v w w' q ⟨A,n,c,h1,h2⟩=>⟨A,n,c,h1,h2.rgs q (by decide)⟩
theorem FA (W:World):(Instr.alloc 103 true (.tuple #[])).run Tryz.prog W=.ok (.pointer (some ⟨W.heap.size,0,none⟩)) (W.alloc (.cells #[.string ⟨#[]⟩,.int .i64 0,.int .i64 0,.int .i64 0,.slice none 0 0,.int .i64 0,.int .i64 0,.int .i64 0] 103)):=by go_simp
theorem fW (r:RV) (A:Option Addr) (n c:Nat):(bI r (.slice A n c)).all (·.oneCell')=true:=by simp [bI,Value.oneCell']
theorem Q7 {w:World}{g:Nat} (h:pM w g 103 8) (r:RV) (A:Option Addr) (n c:Nat) :
 ∃ w',(Instr.storeAt 103 (.pointer (some ⟨g,0,none⟩)) (rvV r (.slice A n c))).run Tryz.prog w=.ok () w'/\bM w' g r (.slice A n c)/\∀ G:Nat->Prop,G g->RgS [103] G w w':=by
 obtain ⟨cs,h1,h2⟩:=h
 exact ⟨_,dQ (cells:=bI r (.slice A n c)) h1 bA h2 (fW r A n c),aX h1,fun G hG=>RgS.setRow h1 (List.mem_singleton.2 rfl) hG h2.symm⟩
section
open Gd (dT)
variable {P:Program}{r:Gt.Rl}{ops:Array Oper}{Q:Exit->Act->World->Prop}{w0:World}{R:Act->World->Prop}{ss:List (Nat × aE)}
theorem Gt.wpX_allocR8 {o:Oper}{rest:List Oper}{a:Act}{hs:List (Nat × aE)}{d:Nat} (B:Nat) (hB:∀ m:r.Lt w0,B<=m.1.heap.size) (hst:r.stable (IM B)) (hg:dT ops o a hs)
 (hd:o.dst=some d) (hz:Nat.blt d a.tmps.size=true) (ho:o.op=.alloc 103) (hin:(bG o).all (fun t=>Nat.blt t a.tmps.size)=true)
 (hr:Gt.wpX r Tryz.prog ops Q w0 R ss rest (a.put (some d) undef) ((d,IM B)::hs)):Gt.wpX r Tryz.prog ops Q w0 R ss (o::rest) a hs :=
 Gt.eZ hg (IM B) hst (fun _=>Instr.alloc 103 true (.tuple #[])) hd hz (by unfold aV;rw [ho]) hin (fun f=>by unfold execOp;simp only [ho])
  (fun m f hf=>⟨_,_,FA m.1,r.dxe ((Below.refl _ _).alloc (YF _) _),_,rfl,hB m,_,aB m.1 _,rfl⟩) hr
theorem Gt.wpX_movU:type_of% @Gt.yO:=@Gt.yO
theorem Gt.wpX_asgU:type_of% @Gt.jQ:=@Gt.jQ
theorem Gt.wpX_appU:type_of% @Gt.f9:=@Gt.f9
theorem Gt.wpX_rowU {o:Oper}{rest:List Oper}{a:Act}{hs:List (Nat × aE)}{d:Nat} (hg:dT ops o a hs) {ty t:TypeId}{x:Operand} (g:Nat) (cs:Array Value) {fr:Nat × Nat}{dsc:TypeDesc}
 (hd:o.dst=some d) (hz:Nat.blt d a.tmps.size=true) (ho:o.op=.load ty x) (hin:(bG o).all (fun t=>Nat.blt t a.tmps.size)=true) (hq:lW a x=true) (ha:∀ f,evF a hs f x=.pointer (some ⟨g,0,none⟩))
 (hrow:∀ m:r.Lt w0,m.1.heap[g]?=some (.cells cs t fr)) (hu:P.underlying ty=some dsc) (hdd:(match dsc with | .struct _ | .array _ _=>true | _=>false)=true) (hi:(P.info? ty).map (·.size)=some cs.size)
 (hr:Gt.wpX r P ops Q w0 R ss rest (a.put (some d) undef) ((d,fun v _=>v=.agg cs)::hs)):Gt.wpX r P ops Q w0 R ss (o::rest) a hs :=
 Gt.eZ hg (fun v _=>v=.agg cs) (Gt.Rl.stable_eq _ _) (fun _=>Instr.loadAt ty (.pointer (some ⟨g,0,none⟩))) hd hz (by unfold aV;rw [ho]) hin (fun f=>by unfold execOp;simp only [ho];rw [Gt.dY hq,ha f])
  (fun m f hf=>⟨_,_,by simp only [Instr.loadAt,Instr.sureAddr,Sem.run_bind,Sem.run_pure,Result.andThen_ok,run_loadVar_row m.1 g t ty cs fr dsc (hrow m) hu hdd hi],r.dxe (Below.refl _ _),rfl⟩) hr
end
def Q8:aE:=fun v _=>∃ A,v=.slice A 0 0
theorem C5 (S:List Nat) (G:Nat->Prop):(RG S G).stable Q8:=fun _ _ _ _ h=>h
theorem Q9 (W:World):(Instr.buildSlice 41 0 [].toArray).run Tryz.prog W=.ok (.slice (some ⟨W.heap.size,0,none⟩) 0 0) (W.alloc (.cells #[] 3)):=by go_simp
theorem N7 {ty:TypeId}{W:World}{B:Nat}{v u:Value}{l:List Int} (h:Q8 v W) (hr:RdI W .i64 u l) (hl:l.length<=1000000) (hB:B<=W.heap.size):∃ v' w'',(Builtin.append_ #[41,41] ty #[v,u]).run Tryz.prog W=.ok v' w''/\Ext W w''/\GIs B l v' w'':=by
 obtain ⟨A,rfl⟩:=h
 have h1:∀ u ∈ l.map (Value.int .i64),u.oneCell'=true:=by
  intro u hu
  obtain ⟨x,_,rfl⟩:=List.mem_map.1 hu
  rfl
 obtain ⟨A2,c2,w'',q1,q2,q3⟩:=JM (P:=Tryz.prog) (ty:=ty) wG (Own.empty W W.heap.size 3 A) hr h1 (by simp;omega) (by unfold maxLen;simp;omega) (YF _)
 rw [ZA] at q2
 exact ⟨_,w'',q1,(Below.refl W.heap.size W).grown q3 (YF _) (fun k hk=>by cases A <;> simp [aO] at hk),A2,_,c2,rfl,q2.mono hB⟩
theorem FB (W:World) (st:List UInt8) (num day nxt iss:Int) (A:Option Addr) (n c:Nat):(Instr.build 103 [(0,.string (aK st)),(1,.int .i64 num),(2,.int .i64 day),(3,.int .i64 nxt),(4,.slice A n c),(5,.int .i64 iss)].toArray).run Tryz.prog W=.ok (rvV ⟨st,num,day,nxt,[],iss,0,0⟩ (.slice A n c)) W:=by
 unfold rvV
 go_simp
theorem Own.safeK {w:World}{B:Nat}{e:TypeId}{v:Value}{xs:List Value} (h:Own w B e v xs):bQ w 0 e 1 v xs:=by
 refine ⟨h.rd.k1,fun A n c hv hn=>?_⟩
 obtain ⟨A',n',c',rfl,_,h | ⟨g,cur,rfl,_,hg,_⟩⟩:=h
 · injection hv with _ q _
   omega
 · injection hv with q _ _
   exact ⟨g,0,q.symm,.inr ⟨_,_,hg⟩⟩
def TX (w:World) (x:AB) (l':List Int) (r:RV) (k:Int) (e:Ending) (w':World):Prop:=∃ (A:Option Addr) (n c:Nat) (A2:Option Addr) (n2 c2:Nat),e=.returned (.tuple #[abV { x with V:=.slice A n c,li:=x.li+1 },rvV r (.slice A2 n2 c2),.int .i64 k])/\RdI w' .i64 (.slice A n c) l'/\RdI w' .i64 (.slice A2 n2 c2) r.ser/\Ext w w'/\bQ w' 0 3 1 (.slice A n c) (aQ l')/\Own w' w.heap.size 3 (.slice A2 n2 c2) (aQ r.ser)
structure RkZ (w wr:World) (x:AB):Prop where
 a:aU wr w.heap.size x
 z:aU wr (w.heap.size+1) dG
 r:bM wr (w.heap.size+1+1) bY (.slice none 0 0)
theorem RkZ.below {w wr wx:World}{x:AB}{B:Nat} (h:RkZ w wr x) (e:Below B wr wx) (hB:w.heap.size+1+1<B):RkZ w wx x :=
 ⟨(e.block _ (by omega)).trans h.a,(e.block _ (by omega)).trans h.z,(e.block _ (by omega)).trans h.r⟩
theorem RkZ.ext {w wr wx:World}{x:AB} (h:RkZ w wr x) (e:Ext wr wx):RkZ w wx x:=⟨h.a.ext e,h.z.ext e,h.r.ext e⟩
def auT:List Nat:=[98,103]
theorem VZ:98 ∈ auT:=YZ
theorem W0:103 ∈ auT:=ZG _ (List.mem_singleton.2 rfl)
def auG (w:World) (k:Nat):Prop:=k=w.heap.size+1 \/ k=w.heap.size+1+1
def yH (B:Nat) (r:RV):aE:=fun v w=>∃ g A n c,v=.pointer (some ⟨g,0,none⟩)/\B<=g/\bM w g r (.slice A n c)/\Own w B 3 (.slice A n c) (r.ser.map (Value.int .i64))
theorem yH.ext {B:Nat}{r:RV} (v:Value) (w w':World) (e:Ext w w') (h:yH B r v w):yH B r v w':=by
 obtain ⟨g,A,n,c,h1,h2,h3,h4⟩:=h
 exact ⟨g,A,n,c,h1,h2,h3.ext e,h4.ext e⟩
theorem yH.st {B:Nat}{r:RV}{G:Nat->Prop} (T:Nat) (hT:T≠103) (v:Value) (w w':World) (e:(RG rvT G).st T w w') (h:yH B r v w):yH B r v w':=absurd (List.mem_singleton.1 e.1) hT
theorem QA {B:Nat}{k:Int}{r:RV}{v:Value}{w w':World}{e:Ending} (h:UR w v (eT k r) (kE k r) e w') (o:Own w B 3 v (r.ser.map (Value.int .i64))) (hne:r.ser≠[]):∃ u,e=.returned u/\Ext w w'/\GRk B (eT k r) (kE k r) u w':=by
 obtain ⟨A,n,c,rfl,hr,x,hv⟩:=h
 refine ⟨_,rfl,x,A,n,c,rfl,?_⟩
 obtain ⟨A',n',c',e',hn',-⟩:=hr.ints
 injection e' with e1 e2 e3
 subst e1 e2 e3
 rcases hv with hv | hv
 · subst hv
   obtain ⟨A',n',c',e',hn2,-⟩:=id o
   injection e' with e1 e2 e3
   subst e1 e2 e3
   rw [List.length_map] at hn2
   by_cases q:ckR r=0/\sK k=0
   · have:eT k r=uC r (sE k (dK r)) (sS k (dK r)):=if_pos q
     rw [this]
     exact o.ext x
   · have:eT k r=bY:=if_neg q
     rw [this] at hn'
     rw [hn'] at hn2
     exact absurd (ZB hn2.symm) hne
 · injection hv with e1 e2 e3
   subst e1 e2 e3
   rw [ZB hn'.symm]
   exact Own.nil_ _ _ _
set_option maxHeartbeats 16000000 in
theorem rC (x:AB) (l ks:List Int) (k num day:Int) (w:World) (hV:RdI w .i64 x.V l) (hS:RdI w .i64 x.S ks) (hk:ks[ks.length - 1]?=some k) (hk1:ks.length<=100) (hl:l.length<=1000) (hst:x.st.length<=maxLen) (d0:0<=day) (d1:day<=1000000)
 (li0:0<=x.li) (li1:x.li<=1000000) (h1:qZ x) (E:dS w 0) :
 Calls Tryz.prog 74 #[abV x,.int .i64 num,.int .i64 day] w (TX w x (dD l num) (eT k ⟨x.st,x.li,day,day+90,dD l num,(ks.length:Int),0,0⟩) (kE k ⟨x.st,x.li,day,day+90,dD l num,(ks.length:Int),0,0⟩)):=by
 obtain ⟨st,R,L,S,sg,ls,ssec,lsec,nx,li,V,D,Z⟩:=x
 simp only at hV hS hst li0 li1
 obtain ⟨AV,nV,cV,rfl,hnV,hncV,hcmV,helV⟩:=hV.ints
 obtain ⟨AS,nS,cS,rfl,hnS,hncS,hcmS,helS⟩:=hS.ints
 subst hnV hnS
 obtain ⟨wa,hwa,ea,TA⟩:=F6 w ⟨st,R,L,.slice AS ks.length cS,sg,ls,ssec,lsec,nx,li,.slice AV l.length cV,D,Z⟩
 obtain ⟨wb,hwb,eb,TB⟩:=Q6 wa
 obtain ⟨wz,hwz⟩:∃ wz,wz=wb.alloc (.cells #[.string ⟨#[]⟩,.int .i64 0,.int .i64 0,.int .i64 0,.slice none 0 0,.int .i64 0,.int .i64 0,.int .i64 0] 103):=⟨_,rfl⟩
 have ez:Ext wb wz:=by rw [hwz];exact (Below.refl _ _).alloc (YF _) _
 have TZ:bM wz wb.heap.size bY (.slice none 0 0):=by rw [hwz];exact bM.new wb bY (.slice none 0 0)
 dsimp only at hwa
 have has:wa.heap.size=w.heap.size+1:=by rw [hwa];simp
 have hbs:wb.heap.size=w.heap.size+1+1:=by rw [hwb];simp [has]
 have hzs:wz.heap.size=w.heap.size+1+1+1:=by rw [hwz];simp [hbs]
 rw [has] at TB
 rw [hbs] at TZ
 have EZ:=ZH (ea.tr (eb.tr ez))
 have RZ:=ZH (show RkZ w wz ⟨st,R,L,.slice AS ks.length cS,sg,ls,ssec,lsec,nx,li,.slice AV l.length cV,D,Z⟩ from ⟨(TA.ext eb).ext ez,TB.ext ez,TZ⟩)
 have HEV:=ZH helV
 have HES:=ZH helS
 have HKL:=ZH hk
 have HKP:=ZH (show 0<ks.length from by have:=(List.getElem?_eq_some_iff.1 hk).1;omega)
 have HIS:=ZH (fun (u:Value) W (e:Ext w W) (hu:RdI W .i64 u (dD l num))=>yA k ⟨st,li,day,day+90,dD l num,(ks.length:Int),0,0⟩ u W hu hst (E.below e))
 have HIN:=ZH (TU l num)
 have H1:=ZH h1
 have HLT:=ZH (Q5 l num)
 have HGT:=ZH (TO l num)
 unfold maxLen at hcmV hcmS
 have HB:=ZH (show w.heap.size+1+1<wz.heap.size by omega)
 obtain ⟨B,hB⟩:∃ B,wz.heap.size=B:=⟨_,rfl⟩
 rw [hB] at HB
 have hB':=ZH hB
 have c30:=RZ.out.a.c30
 have cl:=RZ.out.a.lt
 clear hV hS hk helV helS ea eb ez TA TB TZ has hbs hzs h1 E hst hB
 unfold abV
 go_enter Tryz.func74,Tryz.ntmps74
 go_upto_region 3 with fail
 rw [<- hwa,<- hwb,<- hwz]
 clear hwa hwb hwz c30 cl
 go_loopw [9,10] (fun s9 si wr=>∃ (k:Nat) (A9:Option Addr) (c9:Nat),k<=l.length/\si=.int .i64 (k:Int)/\s9=.slice A9 (nI (l.take k) num).length c9/\Hid (Own wr B 3 (.slice A9 (nI (l.take k) num).length c9) ((nI (l.take k) num).map (Value.int .i64)))/\Hid (Below B wz wr)) (fun _ si _=>l.length - (intOf si).toNat)
 case atStart=>exact ⟨0,_,_,YK _,rfl,rfl,ZH (Own.nil_ _ _ _),ZH (Below.refl _ _)⟩
 case round =>
 obtain ⟨k,A9,c9,hkl,rfl,rfl,O,X⟩:=hrel
 have Z5:=ZH (RZ.out.below X.out HB.out)
 have X5:=ZH (show Ext w wr from EZ.out.trans (X.out.mono (by have:=EZ.out.size;have:=hB'.out;omega)))
 have c30:=Z5.out.a.c30
 have cl:=Z5.out.a.lt
 by_cases hlt:k<l.length
 case neg =>
  obtain rfl:k=l.length:=by omega
  have hd:¬ ((l.length:Int)<(l.length:Int)):=by omega
  clear hlt hd
  have HP0:=ZH (show Own wr B 3 (.slice A9 (nI (l.take l.length) num).length c9) ((nI (l.take l.length) num).map (Value.int .i64)) from O.out)
  obtain ⟨P0,hP0⟩:∃ P0,nI (l.take l.length) num=P0:=⟨_,rfl⟩
  have HPL:=ZH (show P0.length<=1000 by rw [<- hP0];have:=HLT.out l.length;omega)
  rw [hP0] at HP0 HIN
  rw [hP0]
  clear hP0 O
  have eA:Ext wr (wr.alloc (.cells #[.int .i64 num] 3)):=(Below.refl _ _).alloc (YF _) _
  have HOA:=ZH (HP0.out.ext eA)
  have HRA:=ZH (uN wr num)
  have XA:=ZH (X.out.alloc (by have:=X.out.size;have:=hB'.out;omega) (.cells #[.int .i64 num] 3))
  go_upto_region 7 with fail
  clear c30 cl eA HP0 X X5 Z5
  go_upto_region 9 with (refine gM (B:=B) (w0:=wz) wG HOA.out HRA.out (fun u hu=>by rw [List.mem_singleton.1 hu];rfl) XA.out (by have:=HPL.out;simp only [List.length_map,YP,YN];omega) (by have:=HPL.out;unfold maxLen;simp only [List.length_map,YP,YN];omega) (by have:=XA.out.size;have:=hB'.out;omega) rfl rfl rfl rfl ?_;intro A8 c8 w8 o8 x8 g8)
  have HO8:=ZH (show Own w8 B 3 (.slice A8 (P0++[num]).length c8) ((P0++[num]).map (Value.int .i64)) by rw [<- IL,YJ];rw [List.length_map] at o8;exact o8)
  have HX8:=ZH x8
  rw [show P0.length+1=(P0++[num]).length by simp]
  clear o8 x8 g8 HOA HRA XA
  have HPL2:=ZH (show (P0++[num]).length<=1001 by rw [YJ];have:=HPL.out;simp only [YP,YN];omega)
  generalize P0++[num]=P1 at *
  clear HPL
  have HAP:=ZH (show (P1++hiT (l.take 0) num)=P1 from List.append_nil P1)
  go_loopw [9,11] (fun s9 si wr=>∃ (k:Nat) (A9:Option Addr) (c9:Nat),k<=l.length/\si=.int .i64 (k:Int)/\s9=.slice A9 (P1++hiT (l.take k) num).length c9/\Hid (Own wr B 3 (.slice A9 (P1++hiT (l.take k) num).length c9) ((P1++hiT (l.take k) num).map (Value.int .i64)))/\Hid (Below B wz wr)) (fun _ si _=>l.length - (intOf si).toNat)
  case atStart=>exact ⟨0,_,_,YK _,rfl,by rw [HAP.out],by rw [HAP.out];exact HO8,HX8⟩
  case round =>
  obtain ⟨k,A9,c9,hkl,rfl,rfl,O,X⟩:=hrel
  have Z5:=ZH (RZ.out.below X.out HB.out)
  have X5:=ZH (show Ext w wr from EZ.out.trans (X.out.mono (by have:=EZ.out.size;have:=hB'.out;omega)))
  have c30:=Z5.out.a.c30
  have cl:=Z5.out.a.lt
  by_cases hlt:k<l.length
  case neg =>
   obtain rfl:k=l.length:=by omega
   have hd:¬ ((l.length:Int)<(l.length:Int)):=by omega
   clear hlt hd
   have HO9:=ZH (show Own wr B 3 (.slice A9 (P1++hiT (l.take l.length) num).length c9) ((dD l num).map (Value.int .i64)) by rw [HIN.out];exact O.out)
   obtain ⟨n9,hn9⟩:∃ n9,(P1++hiT (l.take l.length) num).length=n9:=⟨_,rfl⟩
   have HN9:=ZH (show n9=(dD l num).length by rw [HIN.out,hn9])
   rw [hn9] at HO9
   rw [hn9]
   clear hn9 O
   obtain ⟨ws,hws⟩:∃ ws,ws=(wr.setCell ⟨w.heap.size,30,none⟩ (.slice A9 n9 c9)):=⟨_,rfl⟩
   have fa:=Z5.out.a.frozen 30
   have hB30:w.heap.size<B:=by have:=HB.out;omega
   have ZS:=ZH (show RkZ w ws ⟨st,R,L,.slice AS ks.length cS,sg,ls,ssec,lsec,nx,li,.slice A9 n9 c9,D,Z⟩ by
    rw [hws]
    exact ⟨aU.put_V (x:=⟨st,R,L,.slice AS ks.length cS,sg,ls,ssec,lsec,nx,li,.slice AV l.length cV,D,Z⟩) Z5.out.a (.slice A9 n9 c9),Z5.out.z.other (by omega),Z5.out.r.other (by omega)⟩)
   have HOS:=ZH (show Own ws B 3 (.slice A9 n9 c9) ((dD l num).map (Value.int .i64)) by rw [hws];exact HO9.out.setLow hB30)
   have XS:=ZH (show Ext w ws by rw [hws];exact aG X5.out (YF _))
   have hBs:=ZH (show B<=ws.heap.size by rw [hws];have:=X.out.size;have:=hB'.out;simp;omega)
   go_upto_region 14 with fail
   rw [<- hws]
   clear hws fa c30 cl X X5 Z5 HO9 HEV hB30
   have c3:=ZS.out.a.c3
   have cl:=ZS.out.a.lt
   go_upto_region 15 with fail
   clear c3 cl
   obtain ⟨bS,oS,rfl,hbS,hcS⟩:=HES.out HKP.out
   have hlk:ks.length - 1<ks.length:=by have:=HKP.out;omega
   have hck:=hcS (ks.length - 1) hlk
   rw [show ks.getD (ks.length - 1) 0=k by rw [List.getD_eq_getElem?_getD,HKL.out];rfl] at hck
   have HCK:=ZH (And.intro hbS hck)
   clear hcS hck hbS hlk
   have hkp:=HKP.out
   have wi1:IntKind.i64.wrap ((ks.length:Int) - 1)=(ks.length:Int) - 1:=IntWalk.i64_in _ (by omega)
   have zi1:(0:Int)<=(ks.length:Int) - 1:=by omega
   have li1:(ks.length:Int) - 1<(ks.length:Int):=by omega
   have ti1:((ks.length:Int) - 1).toNat=ks.length - 1:=by omega
   have wd:IntKind.i64.wrap (day+90)=day+90:=IntWalk.i64_in _ (by omega)
   refine Gt.aI (r:=RG rvT (fun k=>ws.heap.size<=k)) 25 (by kernel_rfl) (by kernel_rfl) ?_
   simp only [YT,YQ,YU,YV]
   intro wq hw1
   have LR:∀ m:(RG rvT (fun k=>ws.heap.size<=k)).Lt wq,RgS rvT (fun k=>ws.heap.size<=k) ws m.1:=fun m=>RgS.tr hw1 m.2
   have LB:∀ m:(RG rvT (fun k=>ws.heap.size<=k)).Lt wq,Ext ws m.1:=fun m=>(LR m).below (fun _ h=>h) (YF _)
   have p0:∀ m:(RG rvT (fun k=>ws.heap.size<=k)).Lt wq,m.1.cell? ⟨w.heap.size,0,none⟩=some (.string (aK st)):=fun m=>(ZS.out.a.ext (LB m)).c0
   have p3:∀ m:(RG rvT (fun k=>ws.heap.size<=k)).Lt wq,m.1.cell? ⟨w.heap.size,3,none⟩=some (.slice (some ⟨bS,oS,none⟩) ks.length cS):=fun m=>(ZS.out.a.ext (LB m)).c3
   have p29:∀ m:(RG rvT (fun k=>ws.heap.size<=k)).Lt wq,m.1.cell? ⟨w.heap.size,29,none⟩=some (.int .i64 li):=fun m=>(ZS.out.a.ext (LB m)).c29
   have pk:∀ m:(RG rvT (fun k=>ws.heap.size<=k)).Lt wq,m.1.cell? ⟨bS,oS+(ks.length - 1),none⟩=some (.int .i64 k):=fun m=>((XS.out.tr (LB m)).cell (p:=⟨bS,oS+(ks.length - 1),none⟩) HCK.out.1).trans HCK.out.2
   have pl:∀ m:(RG rvT (fun k=>ws.heap.size<=k)).Lt wq,w.heap.size<m.1.heap.size:=fun m=>(ZS.out.a.ext (LB m)).lt
   have pb:∀ m:(RG rvT (fun k=>ws.heap.size<=k)).Lt wq,bS<m.1.heap.size:=fun m=>YX HCK.out.1 (XS.out.tr (LB m)).size
   repeat (refine Gt.aC rfl fun K hK=>?_;go_big_quiet_op;refine hK _ ?_;clear hK K)
   refine Gt.bD (Gd.gR rfl) Q8 (C5 _ _) (fun _=>[]) rfl rfl rfl rfl rfl (fun _=>rfl) (fun m f hf=>⟨_,_,Q9 m.1,(Below.refl _ _).alloc (YF _) _,_,rfl⟩) ?_
   simp only [Act.put,YG,YI,YH]
   repeat (refine Gt.aC rfl fun K hK=>?_;go_big_quiet_op;refine hK _ ?_;clear hK K)
   refine Gt.wpX_appU (Gd.gR rfl) (GIs ws.heap.size (dD l num)) (IN _ _ _) (fun f=>f 82) (fun _=>.slice A9 n9 c9) rfl rfl rfl rfl rfl rfl (fun _=>rfl) (fun _=>rfl) (fun m f hf=>N7 (hf 82 _ rfl rfl) (HOS.out.ext (LB m)).rd (by rw [<- HN9.out];have:=HPL2.out;have:=HGT.out l.length;have:=HN9.out;rw [HIN.out,YJ] at this;omega) (LB m).size) ?_
   simp only [Act.put,YG,YI,YH]
   repeat (refine Gt.aC rfl fun K hK=>?_;go_big_quiet_op;refine hK _ ?_;clear hK K)
   refine Gt.bW (Gd.gR rfl) (GRs ws.heap.size ⟨st,li,day,day+90,dD l num,(ks.length:Int),0,0⟩ (dD l num)) (xE _ _ _ _) (fun f=>[(0,.string (aK st)),(1,.int .i64 li),(2,.int .i64 day),(3,.int .i64 (day+90)),(4,f 84),(5,.int .i64 (ks.length:Int))]) rfl rfl rfl rfl rfl (fun _=>rfl) (fun m f hf=>?_) ?_
   · obtain ⟨A5,n5,c5,h5,o5⟩:=hf 84 _ rfl rfl
     rw [h5]
     exact ⟨_,_,FB m.1 st li day (day+90) (ks.length:Int) A5 n5 c5,Below.refl _ _,A5,n5,c5,rfl,o5⟩
   simp only [Act.put,YG,YI,YH]
   refine Gt.aR (Gd.gR rfl) (GRk ws.heap.size (eT k ⟨st,li,day,day+90,dD l num,(ks.length:Int),0,0⟩) (kE k ⟨st,li,day,day+90,dD l num,(ks.length:Int),0,0⟩)) (xF _ _ _ _) (fun f=>[.int .i64 k,f 86]) rfl rfl rfl rfl rfl (by kernel_rfl) rfl (fun _=>rfl) (fun m f hf=>?_) ?_
   · obtain ⟨A5,n5,c5,h5,o5⟩:=hf 86 _ rfl rfl
     rw [h5]
     exact (HIS.out _ m.1 (XS.out.tr (LB m)) o5.rd).mono fun e w'' q=>QA q o5 (by show dD l num≠[];unfold dD;simp)
   simp only [Act.put,YG,YI,YH]
   refine Gt.wpX_movU (Gd.gR rfl) (GRk ws.heap.size (eT k ⟨st,li,day,day+90,dD l num,(ks.length:Int),0,0⟩) (kE k ⟨st,li,day,day+90,dD l num,(ks.length:Int),0,0⟩)) (xF _ _ _ _) (fun f=>f 87) rfl rfl rfl rfl rfl (fun _=>rfl) (fun m f hf=>hf 87 _ rfl rfl) ?_
   simp only [Act.put,YG,YI,YH]
   refine Gt.dL (Gd.gR rfl) (GRs ws.heap.size (eT k ⟨st,li,day,day+90,dD l num,(ks.length:Int),0,0⟩) (eT k ⟨st,li,day,day+90,dD l num,(ks.length:Int),0,0⟩).ser) (xE _ _ _ _) (fun f=>f 68) rfl rfl rfl rfl rfl (fun _=>rfl) (fun m f hf=>by obtain ⟨A5,n5,c5,h5,o5⟩:=hf 68 _ rfl rfl;rw [h5];exact ⟨_,_,(qY _ _ _).1,Below.refl _ _,A5,n5,c5,rfl,o5⟩) ?_
   simp only [Act.put,YG,YI,YH]
   refine Gt.dL (Gd.gR rfl) (fun v _=>v=.int .i64 (kE k ⟨st,li,day,day+90,dD l num,(ks.length:Int),0,0⟩)) (Gt.Rl.stable_eq _ _) (fun f=>f 68) rfl rfl rfl rfl rfl (fun _=>rfl) (fun m f hf=>by obtain ⟨A5,n5,c5,h5,o5⟩:=hf 68 _ rfl rfl;rw [h5];exact ⟨_,_,(qY _ _ _).2,Below.refl _ _,rfl⟩) ?_
   simp only [Act.put,YG,YI,YH]
   refine Gt.wpX_allocR8 ws.heap.size (fun m=>(LB m).size) (nJ _ _ _) (Gd.gR rfl) rfl rfl rfl rfl ?_
   simp only [Act.put,YG,YI,YH]
   refine Gt.dP (Gd.gR rfl) (yH ws.heap.size (eT k ⟨st,li,day,day+90,dD l num,(ks.length:Int),0,0⟩)) (fun f=>f 13) (fun f=>f 88) rfl rfl rfl rfl rfl (fun _=>rfl) (fun _=>rfl) yH.ext yH.st (fun m f hf=>?_) ?_
   · obtain ⟨g,e9,hg,bg⟩:=hf 13 _ rfl rfl
     obtain ⟨A5,n5,c5,h5,o5⟩:=hf 88 _ rfl rfl
     rw [e9,h5]
     obtain ⟨w9,q1,q2,q3⟩:=Q7 bg (eT k ⟨st,li,day,day+90,dD l num,(ks.length:Int),0,0⟩) A5 n5 c5
     exact ⟨w9,q1,⟨VY,q3 _ hg⟩,g,A5,n5,c5,rfl,hg,q2,o5.rgs (q3 (fun k=>ws.heap.size<=k) hg) (by decide)⟩
   refine Gt.wpX_asgU (Gd.gR rfl) (fun v _=>v=.int .i64 (kE k ⟨st,li,day,day+90,dD l num,(ks.length:Int),0,0⟩)) (Gt.Rl.stable_eq _ _) (fun f=>f 89) rfl rfl rfl rfl rfl (fun _=>rfl) (fun m f hf=>hf 89 _ rfl rfl) ?_
   simp only [Act.put,YG,YI,YH]
   refine Gt.wpX_endG rfl (fun m f hf hqs=>?_)
   have hq1:yH ws.heap.size (eT k ⟨st,li,day,day+90,dD l num,(ks.length:Int),0,0⟩) (f 13) m.1:=hqs _ YZ
   have hk2:f 14=.int .i64 (kE k ⟨st,li,day,day+90,dD l num,(ks.length:Int),0,0⟩):=hf 14 _ rfl
   obtain ⟨g,A5,n5,c5,eg,hg,T5,O5⟩:=hq1
   simp only [bO]
   simp only [Act.put,YG,YI,YH]
   rw [eg,hk2]
   have LM:=ZH (LB m)
   have HT5:=ZH T5
   have HO5:=ZH O5
   clear hqs hf eg hk2 LR LB hw1 p0 p3 p29 pk pl pb T5 O5
   generalize m.1=wm at *
   generalize f 82=f82 at *
   generalize f 84=f84 at *
   generalize f 86=f86 at *
   generalize f 87=f87 at *
   generalize f 68=f68 at *
   generalize f 88=f88 at *
   generalize f 89=f89 at *
   clear m f
   generalize eT k ⟨st,li,day,day+90,dD l num,(ks.length:Int),0,0⟩=rr at *
   generalize kE k ⟨st,li,day,day+90,dD l num,(ks.length:Int),0,0⟩=kk at *
   show wpList _ _ _ _ _ _
   have ZM:=ZH (ZS.out.ext LM.out)
   have c29:=ZM.out.a.c29
   have cl:=ZM.out.a.lt
   have f29:=ZM.out.a.frozen 29
   have wl:IntKind.i64.wrap (li+1)=li+1:=IntWalk.i64_in _ (by omega)
   obtain ⟨wt,hwt⟩:∃ wt,wt=wm.setCell ⟨w.heap.size,29,none⟩ (.int .i64 (li+1)):=⟨_,rfl⟩
   have hgH:w.heap.size+1+1<g:=by have:=ZS.out.r.lt;omega
   have ZT:=ZH (show RkZ w wt ⟨st,R,L,.slice (some ⟨bS,oS,none⟩) ks.length cS,sg,ls,ssec,lsec,nx,li+1,.slice A9 n9 c9,D,Z⟩ by
    rw [hwt]
    exact ⟨aU.put_li (x:=⟨st,R,L,.slice (some ⟨bS,oS,none⟩) ks.length cS,sg,ls,ssec,lsec,nx,li,.slice A9 n9 c9,D,Z⟩) ZM.out.a (li+1),ZM.out.z.other (by omega),ZM.out.r.other (by omega)⟩)
   have XT:=ZH (show Ext w wt by rw [hwt];exact aG (XS.out.tr LM.out) (YF _))
   have HOT:=ZH (show Own wt B 3 (.slice A9 n9 c9) ((dD l num).map (Value.int .i64)) by rw [hwt];exact (HOS.out.ext LM.out).setLow (by have:=HB.out;omega))
   have HO6:=ZH (show Own wt ws.heap.size 3 (.slice A5 n5 c5) (rr.ser.map (Value.int .i64)) by rw [hwt];exact HO5.out.setLow (by have:=hBs.out;have:=HB.out;omega))
   have HT6:=ZH (show bM wt g rr (.slice A5 n5 c5) by rw [hwt];exact HT5.out.other (by omega))
   go_upto_region 17 with fail
   rw [<- hwt]
   clear hwt c29 cl f29 ZM HO5 HT5 LM HOS ZS XS
   have H1X:=ZH (dE (x:=⟨st,R,L,.slice (some ⟨bS,oS,none⟩) ks.length cS,sg,ls,ssec,lsec,nx,li+1,.slice A9 n9 c9,D,Z⟩) ⟨H1.out.R,H1.out.L,rfl,rfl,H1.out.D,H1.out.Z⟩)
   refine Gt.aI (r:=RG auT (auG w)) 6 (by kernel_rfl) (by kernel_rfl) ?_
   simp only [YT,YQ,YU,YV]
   intro wq hw1
   have LR:∀ m:(RG auT (auG w)).Lt wq,RgS auT (auG w) wt m.1:=fun m=>RgS.tr hw1 m.2
   refine Gt.wpX_rowU (Gd.gR rfl) w.heap.size (bE ⟨st,R,L,.slice (some ⟨bS,oS,none⟩) ks.length cS,sg,ls,ssec,lsec,nx,li+1,.slice A9 n9 c9,D,Z⟩) rfl rfl rfl rfl rfl (fun _=>rfl) (fun m=>(LR m).keep ZT.out.a.row (fun q=>by rcases q with q | q <;> omega)) Tryz.underlying98 rfl bX ?_
   simp only [Act.put,YG,YI,YH]
   refine Gt.wpX_rowU (Gd.gR rfl) g (bI rr (.slice A5 n5 c5)) rfl rfl rfl rfl rfl (fun _=>rfl) (fun m=>(LR m).keep HT6.out.row (fun q=>by rcases q with q | q <;> omega)) Tryz.underlying103 rfl bA ?_
   simp only [Act.put,YG,YI,YH]
   repeat (refine Gt.aC rfl fun K hK=>?_;go_big_quiet_op;refine hK _ ?_;clear hK K)
   refine Gt.dP (Gd.gR rfl) (fun _ w'=>aU w' (w.heap.size+1) ⟨st,R,L,.slice (some ⟨bS,oS,none⟩) ks.length cS,sg,ls,ssec,lsec,nx,li+1,.slice A9 n9 c9,D,Z⟩) (fun _=>.pointer (some ⟨w.heap.size+1,0,none⟩)) (fun f=>f 94) rfl rfl rfl rfl rfl (fun _=>rfl) (fun _=>rfl) (fun _ _ _ e h=>aU.ext h e) (fun T hT _ _ _ e h=>e.2.other h (fun q=>hT (List.mem_singleton.1 q).symm)) (fun m f hf=>?_) ?_
   · have e5:f 94=.agg (bE ⟨st,R,L,.slice (some ⟨bS,oS,none⟩) ks.length cS,sg,ls,ssec,lsec,nx,li+1,.slice A9 n9 c9,D,Z⟩):=hf 94 _ rfl rfl
     rw [e5]
     obtain ⟨cs9,q1,q2⟩:=pM.rg (n:=33) ⟨_,ZT.out.z.row,rfl⟩ (LR m)
     exact ⟨_,dQ (cells:=bE ⟨st,R,L,.slice (some ⟨bS,oS,none⟩) ks.length cS,sg,ls,ssec,lsec,nx,li+1,.slice A9 n9 c9,D,Z⟩) q1 bX q2 H1X.out,⟨VZ,RgS.setRow q1 (List.mem_singleton.2 rfl) (.inl rfl) q2.symm⟩,aX q1⟩
   refine Gt.dP (Gd.gR rfl) (fun _ w'=>bM w' (w.heap.size+1+1) rr (.slice A5 n5 c5)) (fun _=>.pointer (some ⟨w.heap.size+1+1,0,none⟩)) (fun f=>f 95) rfl rfl rfl rfl rfl (fun _=>rfl) (fun _=>rfl) (fun _ _ _ e h=>bM.ext h e) (fun T hT _ _ _ e h=>e.2.other h (fun q=>hT (List.mem_singleton.1 q).symm)) (fun m f hf=>?_) ?_
   · have e5:f 95=.agg (bI rr (.slice A5 n5 c5)):=hf 95 _ rfl rfl
     rw [e5]
     obtain ⟨cs9,q1,q2⟩:=pM.rg (n:=8) ⟨_,ZT.out.r.row,rfl⟩ (LR m)
     exact ⟨_,dQ (cells:=bI rr (.slice A5 n5 c5)) q1 bA q2 (fW rr A5 n5 c5),⟨W0,RgS.setRow q1 (List.mem_singleton.2 rfl) (.inr rfl) q2.symm⟩,aX q1⟩
   repeat (refine Gt.aC rfl fun K hK=>?_;go_big_quiet_op;refine hK _ ?_;clear hK K)
   refine Gt.wpX_endG rfl (fun m f hf hqs=>?_)
   have hq2:bM m.1 (w.heap.size+1+1) rr (.slice A5 n5 c5):=hqs _ YZ
   have hq1:aU m.1 (w.heap.size+1) ⟨st,R,L,.slice (some ⟨bS,oS,none⟩) ks.length cS,sg,ls,ssec,lsec,nx,li+1,.slice A9 n9 c9,D,Z⟩:=hqs _ (ZG _ YZ)
   simp only [bO]
   simp only [Act.put,YG,YI,YH]
   have HQ1:=ZH hq1
   have HQ2:=ZH hq2
   have XE:=ZH (show Ext w m.1 from XT.out.trans ((LR m).below (B:=w.heap.size+1) (fun k q=>by rcases q with q | q <;> omega) ZT.out.a.lt |>.mono (Nat.le_succ _)))
   have R9:=ZH (show RdI m.1 .i64 (.slice A9 n9 c9) (dD l num) from (HOT.out.rgs (LR m) (by decide)).rd)
   have S9:=ZH (show bQ m.1 0 3 1 (.slice A9 n9 c9) (aQ (dD l num)) from (HOT.out.rgs (LR m) (by decide)).safeK)
   have S5:=ZH (show Own m.1 w.heap.size 3 (.slice A5 n5 c5) (aQ rr.ser) from (HO6.out.rgs (LR m) (by decide)).mono (by have:=hBs.out;have:=HB.out;omega))
   have R5:=ZH (show RdI m.1 .i64 (.slice A5 n5 c5) rr.ser from (HO6.out.rgs (LR m) (by decide)).rd)
   clear hqs hf hw1 LR hq1 hq2
   generalize m.1=we at *
   show wpList _ _ _ _ _ _
   go_wp2_with fail
   refine bodyPost_ret (v:=.tuple #[.agg (bE ⟨st,R,L,.slice (some ⟨bS,oS,none⟩) ks.length cS,sg,ls,ssec,lsec,nx,li+1,.slice A9 n9 c9,D,Z⟩),.agg (bI rr (.slice A5 n5 c5)),.int .i64 kk]) ?_ rfl ⟨A9,n9,c9,A5,n5,c5,rfl,R9.out,R5.out,XE.out,S9.out,S5.out⟩
   simp [results,Tryz.results74,asAddr,run_loadVar_row we (w.heap.size+1) 98 98 (bE ⟨st,R,L,.slice (some ⟨bS,oS,none⟩) ks.length cS,sg,ls,ssec,lsec,nx,li+1,.slice A9 n9 c9,D,Z⟩) (0,0) _ HQ1.out.row Tryz.underlying98 rfl bX,run_loadVar_row we (w.heap.size+1+1) 103 103 (bI rr (.slice A5 n5 c5)) (0,0) _ HQ2.out.row Tryz.underlying103 rfl bA]
  case pos =>
  obtain ⟨t,ht⟩:∃ t,l[k]?=some t:=⟨_,YL hlt⟩
  obtain ⟨b,oo,rfl,hbl,hc⟩:=HEV.out (by omega)
  have l0:=(X5.out.cell (p:=⟨b,oo+k,none⟩) hbl).trans (hc k hlt)
  rw [show l.getD k 0=t by rw [List.getD_eq_getElem?_getD,ht];rfl] at l0
  have HSN:=ZH (Q4 (n:=num) ht)
  have HLE:=ZH (show (P1++hiT (l.take k) num).length<=2001 by have:=HPL2.out;have:=HGT.out k;rw [YJ];omega)
  clear hc ht
  have wi2:IntKind.i64.wrap ((k:Int))=(k:Int):=IntWalk.i64_in _ (by omega)
  have zi2:(0:Int)<=(k:Int):=by omega
  have li2:(k:Int)<(l.length:Int):=by omega
  have ti2:((k:Int)).toNat=k:=by omega
  obtain ⟨N,hN⟩:∃ N,hiT (l.take k) num=N:=⟨_,rfl⟩
  rw [hN] at HSN HLE O
  rw [hN]
  clear hN
  by_cases d3:num<t
  case neg =>
   have HF:=ZH (show hiT (l.take (k+1)) num=N by rw [HSN.out];exact if_neg d3)
   go_wp2_with fail
   go_roundw
   case rel=>exact ⟨k+1,A9,c9,by omega,by go_num,by rw [HF.out],by rw [HF.out];exact O,X⟩
   case measure=>simp [intOf];omega
  have HF:=ZH (show hiT (l.take (k+1)) num=N++[t] by rw [HSN.out];exact if_pos d3)
  have eA:Ext wr (wr.alloc (.cells #[.int .i64 t] 3)):=(Below.refl _ _).alloc (YF _) _
  have HOA:=ZH (O.out.ext eA)
  have HRA:=ZH (uN wr t)
  have XA:=ZH (X.out.alloc (by have:=X.out.size;have:=hB'.out;omega) (.cells #[.int .i64 t] 3))
  clear eA
  go_wp2_with (refine gM (B:=B) (w0:=wz) wG HOA.out HRA.out (fun u hu=>by rw [List.mem_singleton.1 hu];rfl) XA.out (by have:=HLE.out;simp only [List.length_map,YP,YN];omega) (by have:=HLE.out;unfold maxLen;simp only [List.length_map,YP,YN];omega) (by have:=XA.out.size;have:=hB'.out;omega) rfl rfl rfl rfl ?_;intro A8 c8 w8 o8 x8 g8)
  have HO8:=ZH o8
  have HX8:=ZH x8
  clear o8 x8 g8
  go_roundw
  case rel=>exact ⟨k+1,A8,c8,by omega,by go_num,by rw [HF.out];simp [List.length_append,Nat.add_assoc],by rw [HF.out];refine ZH ?_;have:=HO8.out;simpa [List.append_assoc,Nat.add_assoc] using this,HX8⟩
  case measure=>simp [intOf];omega
 case pos =>
 obtain ⟨t,ht⟩:∃ t,l[k]?=some t:=⟨_,YL hlt⟩
 obtain ⟨b,oo,rfl,hbl,hc⟩:=HEV.out (by omega)
 have l0:=(X5.out.cell (p:=⟨b,oo+k,none⟩) hbl).trans (hc k hlt)
 rw [show l.getD k 0=t by rw [List.getD_eq_getElem?_getD,ht];rfl] at l0
 have HSN:=ZH (N6 (n:=num) ht)
 have HLE:=ZH (show (nI (l.take k) num).length<=2001 by have:=HLT.out l.length;have:=HLT.out k;(try simp only [YJ,YP,YN]);omega)
 clear hc ht
 have wi3:IntKind.i64.wrap ((k:Int))=(k:Int):=IntWalk.i64_in _ (by omega)
 have zi3:(0:Int)<=(k:Int):=by omega
 have li3:(k:Int)<(l.length:Int):=by omega
 have ti3:((k:Int)).toNat=k:=by omega
 obtain ⟨N,hN⟩:∃ N,nI (l.take k) num=N:=⟨_,rfl⟩
 rw [hN] at HSN HLE O
 rw [hN]
 clear hN
 by_cases d3:t<num
 case neg =>
  have HF:=ZH (show nI (l.take (k+1)) num=N by rw [HSN.out];exact if_neg d3)
  go_wp2_with fail
  go_roundw
  case rel=>exact ⟨k+1,A9,c9,by omega,by go_num,by rw [HF.out],by rw [HF.out];exact O,X⟩
  case measure=>simp [intOf];omega
 have HF:=ZH (show nI (l.take (k+1)) num=N++[t] by rw [HSN.out];exact if_pos d3)
 have eA:Ext wr (wr.alloc (.cells #[.int .i64 t] 3)):=(Below.refl _ _).alloc (YF _) _
 have HOA:=ZH (O.out.ext eA)
 have HRA:=ZH (uN wr t)
 have XA:=ZH (X.out.alloc (by have:=X.out.size;have:=hB'.out;omega) (.cells #[.int .i64 t] 3))
 clear eA
 go_wp2_with (refine gM (B:=B) (w0:=wz) wG HOA.out HRA.out (fun u hu=>by rw [List.mem_singleton.1 hu];rfl) XA.out (by have:=HLE.out;simp only [List.length_map,YP,YN];omega) (by have:=HLE.out;unfold maxLen;simp only [List.length_map,YP,YN];omega) (by have:=XA.out.size;have:=hB'.out;omega) rfl rfl rfl rfl ?_;intro A8 c8 w8 o8 x8 g8)
 have HO8:=ZH o8
 have HX8:=ZH x8
 clear o8 x8 g8
 go_roundw
 case rel=>exact ⟨k+1,A8,c8,by omega,by go_num,by rw [HF.out];simp [List.length_append],by rw [HF.out];refine ZH ?_;have:=HO8.out;simpa [List.append_assoc,Nat.add_assoc] using this,HX8⟩
 case measure=>simp [intOf];omega
def amT:List Nat:=[98,80]
theorem W1:80 ∈ amT:=ZG _ (List.mem_singleton.2 rfl)
open Gd (dT kV)
def TY (B:Nat):aE:=fun v w=>∃ g,v=.pointer (some ⟨g,0,none⟩)/\B<=g/\pM w g 80 17
theorem nK (B:Nat) (S:List Nat) (G:Nat->Prop):(RG S G).stable (TY B):=fun v w w' r ⟨g,h1,h2,h3⟩=>⟨g,h1,h2,h3.rg r⟩
theorem C6 (W:World):(Instr.alloc 80 true (.tuple #[])).run Tryz.prog W=.ok (.pointer (some ⟨W.heap.size,0,none⟩)) (W.alloc (.cells #[.string ⟨#[]⟩,.int .i64 0,.int .i64 0,.slice none 0 0,.string ⟨#[]⟩,.int .i64 0,.int .i64 0,.int .i64 0,.int .i64 0,.int .i64 0,.int .i64 0,.int .i64 0,.int .i64 0,.int .i64 0,.int .i64 0,.int .i64 0,.int .i64 0] 80)):=by go_simp
def yI (B:Nat) (t:MA) (u:Value):aE:=fun v w=>∃ g,v=.pointer (some ⟨g,0,none⟩)/\B<=g/\cY w g t u
theorem yI.ext {B:Nat}{t:MA}{u:Value} (v:Value) (w w':World) (e:Ext w w') (h:yI B t u v w):yI B t u v w':=by
 obtain ⟨g,h1,h2,h3⟩:=h
 exact ⟨g,h1,h2,h3.ext e⟩
theorem yI.st {B:Nat}{t:MA}{u:Value}{G:Nat->Prop} (T:Nat) (hT:T≠80) (v:Value) (w w':World) (e:(RG [80] G).st T w w') (h:yI B t u v w):yI B t u v w':=absurd (List.mem_singleton.1 e.1) hT
def yJ (B:Nat) (t:RV) (u:Value):aE:=fun v w=>∃ g,v=.pointer (some ⟨g,0,none⟩)/\B<=g/\bM w g t u
theorem yJ.ext {B:Nat}{t:RV}{u:Value} (v:Value) (w w':World) (e:Ext w w') (h:yJ B t u v w):yJ B t u v w':=by
 obtain ⟨g,h1,h2,h3⟩:=h
 exact ⟨g,h1,h2,h3.ext e⟩
theorem yJ.st {B:Nat}{t:RV}{u:Value}{G:Nat->Prop} (T:Nat) (hT:T≠103) (v:Value) (w w':World) (e:(RG [103] G).st T w w') (h:yJ B t u v w):yJ B t u v w':=absurd (List.mem_singleton.1 e.1) hT
section
variable {P:Program}{r:Gt.Rl}{ops:Array Oper}{Q:Exit->Act->World->Prop}{w0:World}{R:Act->World->Prop}{ss:List (Nat × aE)}
theorem Gt.wpX_allocM17 {o:Oper}{rest:List Oper}{a:Act}{hs:List (Nat × aE)}{d:Nat} (B:Nat) (hB:∀ m:r.Lt w0,B<=m.1.heap.size) (hst:r.stable (TY B)) (hg:dT ops o a hs)
 (hd:o.dst=some d) (hz:Nat.blt d a.tmps.size=true) (ho:o.op=.alloc 80) (hin:(bG o).all (fun t=>Nat.blt t a.tmps.size)=true)
 (hr:Gt.wpX r Tryz.prog ops Q w0 R ss rest (a.put (some d) undef) ((d,TY B)::hs)):Gt.wpX r Tryz.prog ops Q w0 R ss (o::rest) a hs :=
 Gt.eZ hg (TY B) hst (fun _=>Instr.alloc 80 true (.tuple #[])) hd hz (by unfold aV;rw [ho]) hin (fun f=>by unfold execOp;simp only [ho])
  (fun m f hf=>⟨_,_,C6 m.1,r.dxe ((Below.refl _ _).alloc (YF _) _),_,rfl,hB m,_,aB m.1 _,rfl⟩) hr
theorem Gt.wpX_midK {o:Oper}{rest:List Oper}{a:Act}{hs:List (Nat × aE)}{d:Nat} (hg:dT ops o a hs) (g i:Nat) (cs:List Value) {ty:TypeId}{x:Operand}{ds:TypeDesc} (hd:o.dst=some d) (hz:Nat.blt d a.tmps.size=true) (ho:o.op=.load ty x) (hx:a.eval x=.pointer (some ⟨g,i,none⟩)) (hn:fK o hs=true)
 (hrow:∀ m:r.Lt w0,m.1.rangeAt g i cs) (hu:P.underlying ty=some ds) (hdd:ds.isRow=true) (hi:(P.info? ty).map (·.size)=some cs.length) (hr:Gt.wpX r P ops Q w0 R ss rest (a.put (some d) (.agg cs.toArray)) hs):Gt.wpX r P ops Q w0 R ss (o::rest) a hs :=
 Gt.gF hg (.agg cs.toArray) hd hz (by unfold aV;rw [ho]) hn (fun m K hK=>by
  unfold Oper.wp execOp
  simp only [ho,hx,Sem.run_bind,run_loadAt_mid m.1 g i ty cs ds (hrow m) hu hdd hi,Result.andThen_ok,Sem.run_pure]
  exact hK _ _ (by rw [hd];rfl) ⟨r.dxe (Below.refl _ _),by rw [hd,aW (cG hz)]⟩) hr
end
structure SsI (w wr:World) (s0 s1 s2 s3 s4 t0 t1 t2 t3 t4:SlT):Prop where
 ext:Ext w wr
 s:wr.heap[w.heap.size]?=some (.cells (aM s0 s1 s2 s3 s4) 75 (0,0))
 t:wr.heap[w.heap.size+1]?=some (.cells (aM t0 t1 t2 t3 t4) 75 (0,0))
theorem SsI.tr {w wr wx:World}{s0 s1 s2 s3 s4 t0 t1 t2 t3 t4:SlT} (h:SsI w wr s0 s1 s2 s3 s4 t0 t1 t2 t3 t4) (e:Ext wr wx):SsI w wx s0 s1 s2 s3 s4 t0 t1 t2 t3 t4:=⟨h.ext.tr e,(e.block _ (aA h.s)).trans h.s,(e.block _ (aA h.t)).trans h.t⟩
theorem QC (w:World) (s0 s1 s2 s3 s4 t0 t1 t2 t3 t4:SlT):∃ wz,wz=(w.alloc (stO s0 s1 s2 s3 s4)).alloc (.cells #[.slice t0.1 t0.2.1 t0.2.2,.slice t1.1 t1.2.1 t1.2.2,.slice t2.1 t2.2.1 t2.2.2,.slice t3.1 t3.2.1 t3.2.2,.slice t4.1 t4.2.1 t4.2.2] 75)/\SsI w wz s0 s1 s2 s3 s4 t0 t1 t2 t3 t4 :=
 ⟨_,rfl,((Below.refl _ _).alloc (YF _) _).alloc (by simp) _,heap_alloc2_old w _ _,heap_alloc2_new w _ _⟩
theorem sO {s:SlT}{A:Option Addr}{n c:Nat} (h:slV s=.slice A n c):s=(A,n,c):=by
 obtain ⟨a,b,d⟩:=s
 unfold slV at h
 injection h with h1 h2 h3
 simp only at h1 h2 h3
 rw [h1,h2,h3]
set_option maxHeartbeats 16000000 in
theorem yK (s0 s1 s2 s3 s4 t0 t1 t2 t3 t4:SlT) (S:ST) (w:World) (h:StR w s0 s1 s2 s3 s4 S) (k:StR w t0 t1 t2 t3 t4 S) (hd:S.ds=[]) :
 Calls Tryz.prog 56 #[bH s0 s1 s2 s3 s4,bH t0 t1 t2 t3 t4] w (dR w (.bool true)):=by
 have HNS:=ZH (fun (l:List NC) W (v1 v2:Value) (h1:RdN W v1 l) (h2:RdN W v2 l)=>GV W h1 h2)
 have HEQ:=ZH (fun W (y:NC)=>(by have h:=zF W y y;simpa using h:(binOp .neq 56 (ncV y) (ncV y)).run Tryz.prog W=.ok (.bool false) W))
 have H0:=ZH (And.intro h.r0 k.r0)
 have H1:=ZH (And.intro h.r1 k.r1)
 obtain ⟨A2,n2,c2,e2,hn2,hnc2,hcm2,hel2⟩:=h.r2.at_
 obtain ⟨B2,m2,d2,f2,hm2,hmd2,hdm2,hfl2⟩:=k.r2.at_
 obtain ⟨A3,n3,c3,e3,hn3,hnc3,hcm3,hel3⟩:=h.r3.at_
 obtain ⟨B3,m3,d3,f3,hm3,hmd3,hdm3,hfl3⟩:=k.r3.at_
 obtain ⟨A4,n4,c4,e4,hn4,-⟩:=h.r4.at_
 obtain ⟨B4,m4,d4,f4,hm4,-⟩:=k.r4.at_
 rw [hd] at hn4 hm4
 obtain rfl:=sO e2
 obtain rfl:=sO f2
 obtain rfl:=sO e3
 obtain rfl:=sO f3
 obtain rfl:=sO e4
 obtain rfl:=sO f4
 subst hn2 hm2 hn3 hm3 hn4 hm4
 unfold maxLen at hcm2 hdm2 hcm3 hdm3
 have HE2:=ZH (And.intro hel2 hfl2)
 have HE3:=ZH (And.intro hel3 hfl3)
 obtain ⟨wz,hwz,Zz⟩:=QC w s0 s1 (A2,S.ms.length,c2) (A3,S.rs.length,c3) (A4,([]:List DV).length,c4) t0 t1 (B2,S.ms.length,d2) (B3,S.rs.length,d3) (B4,([]:List DV).length,d4)
 have Z0:=ZH Zz
 clear Zz h k e2 f2 e3 f3 e4 f4 hel2 hfl2 hel3 hfl3 hd
 simp only [YN] at hwz Z0
 unfold bH
 go_enter Tryz.func56,Tryz.ntmps56
 go_upto_region 1 with fail
 rw [<- hwz]
 clear hwz
 have x0:wz.cell? ⟨w.heap.size,0,none⟩=some (.slice s0.1 s0.2.1 s0.2.2):=by rw [cell_of_row _ _ 0 _ _ _ Z0.out.s];rfl
 have y0:wz.cell? ⟨w.heap.size+1,0,none⟩=some (.slice t0.1 t0.2.1 t0.2.2):=by rw [cell_of_row _ _ 0 _ _ _ Z0.out.t];rfl
 have x1:wz.cell? ⟨w.heap.size,1,none⟩=some (.slice s1.1 s1.2.1 s1.2.2):=by rw [cell_of_row _ _ 1 _ _ _ Z0.out.s];rfl
 have y1:wz.cell? ⟨w.heap.size+1,1,none⟩=some (.slice t1.1 t1.2.1 t1.2.2):=by rw [cell_of_row _ _ 1 _ _ _ Z0.out.t];rfl
 have x2:wz.cell? ⟨w.heap.size,2,none⟩=some (.slice A2 S.ms.length c2):=by rw [cell_of_row _ _ 2 _ _ _ Z0.out.s];rfl
 have y2:wz.cell? ⟨w.heap.size+1,2,none⟩=some (.slice B2 S.ms.length d2):=by rw [cell_of_row _ _ 2 _ _ _ Z0.out.t];rfl
 have x3:wz.cell? ⟨w.heap.size,3,none⟩=some (.slice A3 S.rs.length c3):=by rw [cell_of_row _ _ 3 _ _ _ Z0.out.s];rfl
 have y3:wz.cell? ⟨w.heap.size+1,3,none⟩=some (.slice B3 S.rs.length d3):=by rw [cell_of_row _ _ 3 _ _ _ Z0.out.t];rfl
 have x4:wz.cell? ⟨w.heap.size,4,none⟩=some (.slice A4 0 c4):=by rw [cell_of_row _ _ 4 _ _ _ Z0.out.s];rfl
 have y4:wz.cell? ⟨w.heap.size+1,4,none⟩=some (.slice B4 0 d4):=by rw [cell_of_row _ _ 4 _ _ _ Z0.out.t];rfl
 have xl:=aA Z0.out.s
 have yl:=aA Z0.out.t
 go_wp2_with fail
 refine (HNS.out S.roots wz _ _ (RdK.ext H0.out.1 Z0.out.ext) (RdK.ext H0.out.2 Z0.out.ext)).mono ?_
 rintro e w1 ⟨rfl,b1⟩
 have Z1:=ZH (Z0.out.tr b1)
 clear x0 y0 x1 y1 x2 y2 x3 y3 x4 y4 xl yl b1 Z0
 have x0:w1.cell? ⟨w.heap.size,0,none⟩=some (.slice s0.1 s0.2.1 s0.2.2):=by rw [cell_of_row _ _ 0 _ _ _ Z1.out.s];rfl
 have y0:w1.cell? ⟨w.heap.size+1,0,none⟩=some (.slice t0.1 t0.2.1 t0.2.2):=by rw [cell_of_row _ _ 0 _ _ _ Z1.out.t];rfl
 have x1:w1.cell? ⟨w.heap.size,1,none⟩=some (.slice s1.1 s1.2.1 s1.2.2):=by rw [cell_of_row _ _ 1 _ _ _ Z1.out.s];rfl
 have y1:w1.cell? ⟨w.heap.size+1,1,none⟩=some (.slice t1.1 t1.2.1 t1.2.2):=by rw [cell_of_row _ _ 1 _ _ _ Z1.out.t];rfl
 have x2:w1.cell? ⟨w.heap.size,2,none⟩=some (.slice A2 S.ms.length c2):=by rw [cell_of_row _ _ 2 _ _ _ Z1.out.s];rfl
 have y2:w1.cell? ⟨w.heap.size+1,2,none⟩=some (.slice B2 S.ms.length d2):=by rw [cell_of_row _ _ 2 _ _ _ Z1.out.t];rfl
 have x3:w1.cell? ⟨w.heap.size,3,none⟩=some (.slice A3 S.rs.length c3):=by rw [cell_of_row _ _ 3 _ _ _ Z1.out.s];rfl
 have y3:w1.cell? ⟨w.heap.size+1,3,none⟩=some (.slice B3 S.rs.length d3):=by rw [cell_of_row _ _ 3 _ _ _ Z1.out.t];rfl
 have x4:w1.cell? ⟨w.heap.size,4,none⟩=some (.slice A4 0 c4):=by rw [cell_of_row _ _ 4 _ _ _ Z1.out.s];rfl
 have y4:w1.cell? ⟨w.heap.size+1,4,none⟩=some (.slice B4 0 d4):=by rw [cell_of_row _ _ 4 _ _ _ Z1.out.t];rfl
 have xl:=aA Z1.out.s
 have yl:=aA Z1.out.t
 go_wp2_with fail
 refine (HNS.out S.pool w1 _ _ (RdK.ext H1.out.1 Z1.out.ext) (RdK.ext H1.out.2 Z1.out.ext)).mono ?_
 rintro e w2 ⟨rfl,b2⟩
 have Z2:=ZH (Z1.out.tr b2)
 clear x0 y0 x1 y1 x2 y2 x3 y3 x4 y4 xl yl b2 Z1
 have x0:w2.cell? ⟨w.heap.size,0,none⟩=some (.slice s0.1 s0.2.1 s0.2.2):=by rw [cell_of_row _ _ 0 _ _ _ Z2.out.s];rfl
 have y0:w2.cell? ⟨w.heap.size+1,0,none⟩=some (.slice t0.1 t0.2.1 t0.2.2):=by rw [cell_of_row _ _ 0 _ _ _ Z2.out.t];rfl
 have x1:w2.cell? ⟨w.heap.size,1,none⟩=some (.slice s1.1 s1.2.1 s1.2.2):=by rw [cell_of_row _ _ 1 _ _ _ Z2.out.s];rfl
 have y1:w2.cell? ⟨w.heap.size+1,1,none⟩=some (.slice t1.1 t1.2.1 t1.2.2):=by rw [cell_of_row _ _ 1 _ _ _ Z2.out.t];rfl
 have x2:w2.cell? ⟨w.heap.size,2,none⟩=some (.slice A2 S.ms.length c2):=by rw [cell_of_row _ _ 2 _ _ _ Z2.out.s];rfl
 have y2:w2.cell? ⟨w.heap.size+1,2,none⟩=some (.slice B2 S.ms.length d2):=by rw [cell_of_row _ _ 2 _ _ _ Z2.out.t];rfl
 have x3:w2.cell? ⟨w.heap.size,3,none⟩=some (.slice A3 S.rs.length c3):=by rw [cell_of_row _ _ 3 _ _ _ Z2.out.s];rfl
 have y3:w2.cell? ⟨w.heap.size+1,3,none⟩=some (.slice B3 S.rs.length d3):=by rw [cell_of_row _ _ 3 _ _ _ Z2.out.t];rfl
 have x4:w2.cell? ⟨w.heap.size,4,none⟩=some (.slice A4 0 c4):=by rw [cell_of_row _ _ 4 _ _ _ Z2.out.s];rfl
 have y4:w2.cell? ⟨w.heap.size+1,4,none⟩=some (.slice B4 0 d4):=by rw [cell_of_row _ _ 4 _ _ _ Z2.out.t];rfl
 have xl:=aA Z2.out.s
 have yl:=aA Z2.out.t
 go_upto_region 3 with fail
 clear x0 y0 x1 y1 x2 y2 x3 y3 x4 y4 xl yl
 go_wp2_with fail
 go_loopw [5] (fun sl wr=>∃ k:Nat,k<=S.ms.length/\sl=.int .i64 (k:Int)/\Hid (SsI w wr s0 s1 (A2,S.ms.length,c2) (A3,S.rs.length,c3) (A4,0,c4) t0 t1 (B2,S.ms.length,d2) (B3,S.rs.length,d3) (B4,0,d4))) (fun sl _=>S.ms.length - (intOf sl).toNat)
 case atStart=>exact ⟨0,YK _,rfl,Z2⟩
 case round =>
  clear Z2
  obtain ⟨k,hk,rfl,Z⟩:=hrel
  have x2:wr.cell? ⟨w.heap.size,2,none⟩=some (.slice A2 S.ms.length c2):=by rw [cell_of_row _ _ 2 _ _ _ Z.out.s];rfl
  have y2:wr.cell? ⟨w.heap.size+1,2,none⟩=some (.slice B2 S.ms.length d2):=by rw [cell_of_row _ _ 2 _ _ _ Z.out.t];rfl
  have xl:=aA Z.out.s
  have yl:=aA Z.out.t
  by_cases hlt:k<S.ms.length
  case neg =>
   obtain rfl:k=S.ms.length:=by omega
   clear hlt hk
   go_wp2_with fail
   clear x2 y2 xl yl
   go_loopw [8] (fun sl wr=>∃ k:Nat,k<=S.rs.length/\sl=.int .i64 (k:Int)/\Hid (SsI w wr s0 s1 (A2,S.ms.length,c2) (A3,S.rs.length,c3) (A4,0,c4) t0 t1 (B2,S.ms.length,d2) (B3,S.rs.length,d3) (B4,0,d4))) (fun sl _=>S.rs.length - (intOf sl).toNat)
   case atStart=>exact ⟨0,YK _,rfl,Z⟩
   case round =>
    clear Z
    obtain ⟨k,hk,rfl,Z⟩:=hrel
    have x3:wr.cell? ⟨w.heap.size,3,none⟩=some (.slice A3 S.rs.length c3):=by rw [cell_of_row _ _ 3 _ _ _ Z.out.s];rfl
    have y3:wr.cell? ⟨w.heap.size+1,3,none⟩=some (.slice B3 S.rs.length d3):=by rw [cell_of_row _ _ 3 _ _ _ Z.out.t];rfl
    have xl:=aA Z.out.s
    have yl:=aA Z.out.t
    by_cases hlt:k<S.rs.length
    case neg =>
     obtain rfl:k=S.rs.length:=by omega
     clear hlt hk
     go_wp2_with fail
     clear x3 y3 xl yl
     have x4:wr.cell? ⟨w.heap.size,4,none⟩=some (.slice A4 0 c4):=by rw [cell_of_row _ _ 4 _ _ _ Z.out.s];rfl
     have y4:wr.cell? ⟨w.heap.size+1,4,none⟩=some (.slice B4 0 d4):=by rw [cell_of_row _ _ 4 _ _ _ Z.out.t];rfl
     have xl:=aA Z.out.s
     have yl:=aA Z.out.t
     go_loopw [12] (fun sl wr=>sl=.int .i64 0/\Hid (SsI w wr s0 s1 (A2,S.ms.length,c2) (A3,S.rs.length,c3) (A4,0,c4) t0 t1 (B2,S.ms.length,d2) (B3,S.rs.length,d3) (B4,0,d4))) (fun _ _=>0)
     case atStart=>exact ⟨rfl,Z⟩
     case round =>
      clear x4 y4 xl yl Z
      obtain ⟨rfl,Z⟩:=hrel
      have x4:wr.cell? ⟨w.heap.size,4,none⟩=some (.slice A4 0 c4):=by rw [cell_of_row _ _ 4 _ _ _ Z.out.s];rfl
      have y4:wr.cell? ⟨w.heap.size+1,4,none⟩=some (.slice B4 0 d4):=by rw [cell_of_row _ _ 4 _ _ _ Z.out.t];rfl
      have xl:=aA Z.out.s
      have yl:=aA Z.out.t
      go_wp2_with fail
      go_ret
      exact ⟨rfl,Z.out.ext⟩
    case pos =>
    obtain ⟨t,ht⟩:∃ t,S.rs[k]?=some t:=⟨_,YL hlt⟩
    obtain ⟨b1,o1,rfl,hb1,u1,hc1,hu1⟩:=HE3.out.1 k t ht
    obtain ⟨b2,o2,rfl,hb2,u2,hc2,hu2⟩:=HE3.out.2 k t ht
    have wi1:IntKind.i64.wrap ((k:Int))=(k:Int):=IntWalk.i64_in _ (by omega)
    have zi1:(0:Int)<=(k:Int):=by omega
    have li1:(k:Int)<(S.rs.length:Int):=by omega
    have ti1:((k:Int)).toNat=k:=by omega
    have wk:IntKind.i64.wrap ((k:Int)+1)=(k:Int)+1:=IntWalk.i64_in _ (by omega)
    obtain ⟨AU,nU,cU,rfl,hnU,hncU,hcmU,helU⟩:=RdI.ints (RdK.r1 hu1)
    obtain ⟨AV,nV,cV,rfl,hnV,hncV,hcmV,helV⟩:=RdI.ints (RdK.r1 hu2)
    subst hnU
    obtain rfl:nV=t.ser.length:=hnV
    unfold maxLen at hcmU hcmV
    have HU:=ZH (And.intro (RdK.r1 hu1) (RdK.r1 hu2))
    have HUV:=ZH (And.intro helU helV)
    have HC1:=ZH (And.intro hb1 hc1)
    have HC2:=ZH (And.intro hb2 hc2)
    clear ht hc1 hc2 hb1 hb2 hu1 hu2 helU helV
    go_upto_region 12 with fail
    clear x3 y3 xl yl
    refine Gt.aI (r:=RG [103] (fun q=>wr.heap.size<=q)) 13 (by kernel_rfl) (by kernel_rfl) ?_
    simp only [YT,YQ,YU,YV]
    intro wq hw1
    have LR:∀ m1:(RG [103] (fun q=>wr.heap.size<=q)).Lt wq,RgS [103] (fun q=>wr.heap.size<=q) wr m1.1:=fun m1=>RgS.tr hw1 m1.2
    have LL:∀ m1:(RG [103] (fun q=>wr.heap.size<=q)).Lt wq,Ext wr m1.1:=fun m1=>(LR m1).below (fun _ h=>h) (YF _)
    have x3:∀ m1:(RG [103] (fun q=>wr.heap.size<=q)).Lt wq,m1.1.cell? ⟨w.heap.size,3,none⟩=some (.slice (some ⟨b1,o1,none⟩) S.rs.length c3):=fun m1=>by rw [cell_of_row _ _ 3 _ _ _ (Z.out.tr (LL m1)).s];rfl
    have y3:∀ m1:(RG [103] (fun q=>wr.heap.size<=q)).Lt wq,m1.1.cell? ⟨w.heap.size+1,3,none⟩=some (.slice (some ⟨b2,o2,none⟩) S.rs.length d3):=fun m1=>by rw [cell_of_row _ _ 3 _ _ _ (Z.out.tr (LL m1)).t];rfl
    have xl:∀ m1:(RG [103] (fun q=>wr.heap.size<=q)).Lt wq,w.heap.size<m1.1.heap.size:=fun m1=>aA (Z.out.tr (LL m1)).s
    have yl:∀ m1:(RG [103] (fun q=>wr.heap.size<=q)).Lt wq,w.heap.size+1<m1.1.heap.size:=fun m1=>aA (Z.out.tr (LL m1)).t
    have KA:∀ m1:(RG [103] (fun q=>wr.heap.size<=q)).Lt wq,m1.1.rangeAt b1 (o1+k*8) (aY t (.slice AU t.ser.length cU)):=fun m1 j x hx=>by rw [YM];exact ((Z.out.tr (LL m1)).ext.cell (p:=⟨b1,o1+(k*8+j),none⟩) HC1.out.1).trans (HC1.out.2 j x hx)
    have KB:∀ m1:(RG [103] (fun q=>wr.heap.size<=q)).Lt wq,m1.1.rangeAt b2 (o2+k*8) (aY t (.slice AV t.ser.length cV)):=fun m1 j x hx=>by rw [YM];exact ((Z.out.tr (LL m1)).ext.cell (p:=⟨b2,o2+(k*8+j),none⟩) HC2.out.1).trans (HC2.out.2 j x hx)
    repeat (refine Gt.aC rfl fun K hK=>?_;go_big_quiet_op;refine hK _ ?_;clear hK K)
    refine Gt.wpX_midK (Gd.gR rfl) b1 (o1+k*8) (aY t (.slice AU t.ser.length cU)) rfl rfl rfl rfl rfl KA Tryz.underlying103 rfl bA ?_
    simp only [Act.put,YG,YI,YH]
    repeat (refine Gt.aC rfl fun K hK=>?_;go_big_quiet_op;refine hK _ ?_;clear hK K)
    refine Gt.wpX_midK (Gd.gR rfl) b2 (o2+k*8) (aY t (.slice AV t.ser.length cV)) rfl rfl rfl rfl rfl KB Tryz.underlying103 rfl bA ?_
    simp only [Act.put,YG,YI,YH]
    repeat (refine Gt.aC rfl fun K hK=>?_;go_big_quiet_op;refine hK _ ?_;clear hK K)
    refine Gt.wpX_allocR8 wr.heap.size (fun m1=>(LL m1).size) (nJ _ _ _) (Gd.gR rfl) rfl rfl rfl rfl ?_
    simp only [Act.put,YG,YI,YH]
    refine Gt.wpX_allocR8 wr.heap.size (fun m1=>(LL m1).size) (nJ _ _ _) (Gd.gR rfl) rfl rfl rfl rfl ?_
    simp only [Act.put,YG,YI,YH]
    refine Gt.dP (Gd.gR rfl) (yJ wr.heap.size t (.slice AU t.ser.length cU)) (fun f=>f 9) (fun _=>.agg (bI t (.slice AU t.ser.length cU))) rfl rfl rfl rfl rfl (fun _=>rfl) (fun _=>rfl) yJ.ext yJ.st (fun m1 f hf=>?_) ?_
    · obtain ⟨g,e9,hg,cs9,q1,q2⟩:=hf 9 _ rfl rfl
      rw [e9]
      exact ⟨_,dQ (cells:=bI t (.slice AU t.ser.length cU)) q1 bA q2 (fW t AU t.ser.length cU),⟨List.mem_singleton.2 rfl,RgS.setRow q1 (List.mem_singleton.2 rfl) hg q2.symm⟩,g,rfl,hg,aX q1⟩
    refine Gt.wpX_endG rfl (fun m1 f hf hqs=>?_)
    have hq:yJ wr.heap.size t (.slice AU t.ser.length cU) (f 9) m1.1:=hqs _ YZ
    obtain ⟨g1,e6,hg1,T1⟩:=hq
    obtain ⟨g2,e7,hg2,cs9,q1,q2⟩:=hf 10 _ rfl
    simp only [bO]
    simp only [Act.put,YG,YI,YH]
    rw [e6,e7]
    have HQ1:=ZH q1
    have eN:Ext wr (m1.1.setRow g2 (bI t (.slice AV t.ser.length cV))):=aS (LL m1) hg2 _
    have ZC:=ZH (Z.out.tr eN)
    have TB:=ZH (show bM (m1.1.setRow g2 (bI t (.slice AV t.ser.length cV))) g2 t (.slice AV t.ser.length cV) from aX q1)
    obtain ⟨AX,cX,hrx,ta⟩:∃ (AX:Option Addr) (cX:Nat),RdI w .i64 (.slice AX t.ser.length cX) t.ser/\bM (m1.1.setRow g2 (bI t (.slice AV t.ser.length cV))) g1 t (.slice AX t.ser.length cX):=by
     by_cases h12:g1=g2
     · subst h12
       exact ⟨AV,cV,HU.out.2,TB.out⟩
     · exact ⟨AU,cU,HU.out.1,(dC h12).trans T1⟩
    have TA:=ZH ta
    have HRX:=ZH hrx
    clear hw1 LL LR x3 y3 xl yl KA KB Z eN hqs hf e6 e7 q1 T1 ta hrx
    generalize m1.1=w5 at *
    clear m1 f
    show wpList _ _ _ _ _ _
    refine aL rfl 103 _ _ rfl rfl g2 (bI t (.slice AV t.ser.length cV)) rfl rfl 103 cs9 HQ1.out bA q2 (fW t AV t.ser.length cV) ?_
    clear HQ1 q2
    generalize w5.setRow g2 (bI t (.slice AV t.ser.length cV))=wc at *
    have p0:=TA.out.c0
    have p1:=TA.out.c1
    have p2:=TA.out.c2
    have p3:=TA.out.c3
    have p4:=TA.out.c4
    have p5:=TA.out.c5
    have p6:=TA.out.c6
    have p7:=TA.out.c7
    have pl:=TA.out.lt
    have q0:=TB.out.c0
    have q1:=TB.out.c1
    have q2:=TB.out.c2
    have q3:=TB.out.c3
    have q4:=TB.out.c4
    have q5:=TB.out.c5
    have q6:=TB.out.c6
    have q7:=TB.out.c7
    have ql:=TB.out.lt
    go_upto_region 15 with fail
    clear p0 p1 p2 p3 p4 p5 p6 p7 pl q0 q1 q2 q3 q4 q5 q6 q7 ql
    go_wp2_with fail
    have ZK:=ZC
    obtain ⟨A9,n9,c9,e9,hn9,hnc9,hcm9,hel9⟩:=RdI.ints HRX.out
    injection e9 with e91 e92 e93
    subst e91 e92 e93
    unfold maxLen at hcm9
    have HXE:=ZH hel9
    clear hel9 hn9
    go_loopw [11] (fun sl wr=>∃ i:Nat,i<=t.ser.length/\sl=.int .i64 (i:Int)/\Hid (SsI w wr s0 s1 (A2,S.ms.length,c2) (some ⟨b1,o1,none⟩,S.rs.length,c3) (A4,0,c4) t0 t1 (B2,S.ms.length,d2) (some ⟨b2,o2,none⟩,S.rs.length,d3) (B4,0,d4))/\Hid (bM wr g1 t (.slice AX t.ser.length cX))/\Hid (bM wr g2 t (.slice AV t.ser.length cV))) (fun sl _=>t.ser.length - (intOf sl).toNat)
    case atStart=>exact ⟨0,YK _,rfl,ZC,TA,TB⟩
    case round =>
     clear ZC TA TB ZK
     obtain ⟨i,hi,rfl,Z,TA,TB⟩:=hrel
     have a4:=TA.out.c4
     have b4:=TB.out.c4
     have al:=TA.out.lt
     have bl:=TB.out.lt
     by_cases hlt2:i<t.ser.length
     case neg =>
      obtain rfl:i=t.ser.length:=by omega
      go_wp2_with fail
      go_roundw
      case rel=>exact ⟨k+1,by omega,by go_num,Z⟩
      case measure=>simp [intOf];omega
     case pos =>
     obtain ⟨b,o,rfl,hbl,hc⟩:=HXE.out (by omega)
     have l0:=(Z.out.ext.cell (p:=⟨b,o+i,none⟩) hbl).trans (hc i hlt2)
     obtain ⟨b',o',rfl,hbl',hc'⟩:=HUV.out.2 (by omega)
     have l1:=(Z.out.ext.cell (p:=⟨b',o'+i,none⟩) hbl').trans (hc' i hlt2)
     generalize t.ser.getD i 0=z at l0 l1
     clear hc hc'
     have wi2:IntKind.i64.wrap ((i:Int))=(i:Int):=IntWalk.i64_in _ (by omega)
     have zi2:(0:Int)<=(i:Int):=by omega
     have li2:(i:Int)<(t.ser.length:Int):=by omega
     have ti2:((i:Int)).toNat=i:=by omega
     go_wp2_with (go_quiet (fail))
     have ZQ:=ZH (Z.out.tr (Ext.drewN_ wr nq))
     have TAQ:=ZH (TA.out.ext (Ext.drewN_ wr nq))
     have TBQ:=ZH (TB.out.ext (Ext.drewN_ wr nq))
     clear l0 l1 a4 b4 al bl Z TA TB
     generalize wr.drewN nq=wx at *
     go_wp2_with fail
     go_roundw
     case rel=>repeat (first | exact ⟨i+1,by omega,by go_num,ZQ,TAQ,TBQ⟩ | exact ⟨⟨i+1,by omega,by go_num,ZQ,TAQ,TBQ⟩,rfl⟩ | refine ⟨_,?_⟩)
     case measure=>simp [intOf];omega
  case pos =>
  obtain ⟨t,ht⟩:∃ t,S.ms[k]?=some t:=⟨_,YL hlt⟩
  obtain ⟨b1,o1,rfl,hb1,u1,hc1,hu1⟩:=HE2.out.1 k t ht
  obtain ⟨b2,o2,rfl,hb2,u2,hc2,hu2⟩:=HE2.out.2 k t ht
  have wi3:IntKind.i64.wrap ((k:Int))=(k:Int):=IntWalk.i64_in _ (by omega)
  have zi3:(0:Int)<=(k:Int):=by omega
  have li3:(k:Int)<(S.ms.length:Int):=by omega
  have ti3:((k:Int)).toNat=k:=by omega
  have wk:IntKind.i64.wrap ((k:Int)+1)=(k:Int)+1:=IntWalk.i64_in _ (by omega)
  obtain ⟨AU,nU,cU,rfl,hnU,hncU,hcmU,helU⟩:=RdN.at_ hu1
  obtain ⟨AV,nV,cV,rfl,hnV,hncV,hcmV,helV⟩:=RdN.at_ hu2
  subst hnU
  obtain rfl:nV=t.roots.length:=hnV
  unfold maxLen at hcmU hcmV
  have HU:=ZH (And.intro (hu1) (hu2))
  have HUV:=ZH (And.intro helU helV)
  have HC1:=ZH (And.intro hb1 hc1)
  have HC2:=ZH (And.intro hb2 hc2)
  clear ht hc1 hc2 hb1 hb2 hu1 hu2 helU helV
  go_upto_region 6 with fail
  clear x2 y2 xl yl
  refine Gt.aI (r:=RG [80] (fun q=>wr.heap.size<=q)) 13 (by kernel_rfl) (by kernel_rfl) ?_
  simp only [YT,YQ,YU,YV]
  intro wq hw1
  have LR:∀ m1:(RG [80] (fun q=>wr.heap.size<=q)).Lt wq,RgS [80] (fun q=>wr.heap.size<=q) wr m1.1:=fun m1=>RgS.tr hw1 m1.2
  have LL:∀ m1:(RG [80] (fun q=>wr.heap.size<=q)).Lt wq,Ext wr m1.1:=fun m1=>(LR m1).below (fun _ h=>h) (YF _)
  have x2:∀ m1:(RG [80] (fun q=>wr.heap.size<=q)).Lt wq,m1.1.cell? ⟨w.heap.size,2,none⟩=some (.slice (some ⟨b1,o1,none⟩) S.ms.length c2):=fun m1=>by rw [cell_of_row _ _ 2 _ _ _ (Z.out.tr (LL m1)).s];rfl
  have y2:∀ m1:(RG [80] (fun q=>wr.heap.size<=q)).Lt wq,m1.1.cell? ⟨w.heap.size+1,2,none⟩=some (.slice (some ⟨b2,o2,none⟩) S.ms.length d2):=fun m1=>by rw [cell_of_row _ _ 2 _ _ _ (Z.out.tr (LL m1)).t];rfl
  have xl:∀ m1:(RG [80] (fun q=>wr.heap.size<=q)).Lt wq,w.heap.size<m1.1.heap.size:=fun m1=>aA (Z.out.tr (LL m1)).s
  have yl:∀ m1:(RG [80] (fun q=>wr.heap.size<=q)).Lt wq,w.heap.size+1<m1.1.heap.size:=fun m1=>aA (Z.out.tr (LL m1)).t
  have KA:∀ m1:(RG [80] (fun q=>wr.heap.size<=q)).Lt wq,m1.1.rangeAt b1 (o1+k*17) (aP t (.slice AU t.roots.length cU)):=fun m1 j x hx=>by rw [YM];exact ((Z.out.tr (LL m1)).ext.cell (p:=⟨b1,o1+(k*17+j),none⟩) HC1.out.1).trans (HC1.out.2 j x hx)
  have KB:∀ m1:(RG [80] (fun q=>wr.heap.size<=q)).Lt wq,m1.1.rangeAt b2 (o2+k*17) (aP t (.slice AV t.roots.length cV)):=fun m1 j x hx=>by rw [YM];exact ((Z.out.tr (LL m1)).ext.cell (p:=⟨b2,o2+(k*17+j),none⟩) HC2.out.1).trans (HC2.out.2 j x hx)
  repeat (refine Gt.aC rfl fun K hK=>?_;go_big_quiet_op;refine hK _ ?_;clear hK K)
  refine Gt.wpX_midK (Gd.gR rfl) b1 (o1+k*17) (aP t (.slice AU t.roots.length cU)) rfl rfl rfl rfl rfl KA Tryz.underlying80 rfl cP ?_
  simp only [Act.put,YG,YI,YH]
  repeat (refine Gt.aC rfl fun K hK=>?_;go_big_quiet_op;refine hK _ ?_;clear hK K)
  refine Gt.wpX_midK (Gd.gR rfl) b2 (o2+k*17) (aP t (.slice AV t.roots.length cV)) rfl rfl rfl rfl rfl KB Tryz.underlying80 rfl cP ?_
  simp only [Act.put,YG,YI,YH]
  repeat (refine Gt.aC rfl fun K hK=>?_;go_big_quiet_op;refine hK _ ?_;clear hK K)
  refine Gt.wpX_allocM17 wr.heap.size (fun m1=>(LL m1).size) (nK _ _ _) (Gd.gR rfl) rfl rfl rfl rfl ?_
  simp only [Act.put,YG,YI,YH]
  refine Gt.wpX_allocM17 wr.heap.size (fun m1=>(LL m1).size) (nK _ _ _) (Gd.gR rfl) rfl rfl rfl rfl ?_
  simp only [Act.put,YG,YI,YH]
  refine Gt.dP (Gd.gR rfl) (yI wr.heap.size t (.slice AU t.roots.length cU)) (fun f=>f 6) (fun _=>.agg ((aP t (.slice AU t.roots.length cU)).toArray)) rfl rfl rfl rfl rfl (fun _=>rfl) (fun _=>rfl) yI.ext yI.st (fun m1 f hf=>?_) ?_
  · obtain ⟨g,e9,hg,cs9,q1,q2⟩:=hf 6 _ rfl rfl
    rw [e9]
    exact ⟨_,dQ (cells:=(aP t (.slice AU t.roots.length cU)).toArray) q1 cP q2 (nE t (.slice AU t.roots.length cU) rfl),⟨List.mem_singleton.2 rfl,RgS.setRow q1 (List.mem_singleton.2 rfl) hg q2.symm⟩,g,rfl,hg,aX q1⟩
  refine Gt.wpX_endG rfl (fun m1 f hf hqs=>?_)
  have hq:yI wr.heap.size t (.slice AU t.roots.length cU) (f 6) m1.1:=hqs _ YZ
  obtain ⟨g1,e6,hg1,T1⟩:=hq
  obtain ⟨g2,e7,hg2,cs9,q1,q2⟩:=hf 7 _ rfl
  simp only [bO]
  simp only [Act.put,YG,YI,YH]
  rw [e6,e7]
  have HQ1:=ZH q1
  have eN:Ext wr (m1.1.setRow g2 ((aP t (.slice AV t.roots.length cV)).toArray)):=aS (LL m1) hg2 _
  have ZC:=ZH (Z.out.tr eN)
  have TB:=ZH (show cY (m1.1.setRow g2 ((aP t (.slice AV t.roots.length cV)).toArray)) g2 t (.slice AV t.roots.length cV) from aX q1)
  obtain ⟨AX,cX,hrx,ta⟩:∃ (AX:Option Addr) (cX:Nat),RdN w (.slice AX t.roots.length cX) t.roots/\cY (m1.1.setRow g2 ((aP t (.slice AV t.roots.length cV)).toArray)) g1 t (.slice AX t.roots.length cX):=by
   by_cases h12:g1=g2
   · subst h12
     exact ⟨AV,cV,HU.out.2,TB.out⟩
   · exact ⟨AU,cU,HU.out.1,(dC h12).trans T1⟩
  have TA:=ZH ta
  have HRX:=ZH hrx
  clear hw1 LL LR x2 y2 xl yl KA KB Z eN hqs hf e6 e7 q1 T1 ta hrx
  generalize m1.1=w5 at *
  clear m1 f
  show wpList _ _ _ _ _ _
  refine aL rfl 80 _ _ rfl rfl g2 ((aP t (.slice AV t.roots.length cV)).toArray) rfl rfl 80 cs9 HQ1.out cP q2 (nE t (.slice AV t.roots.length cV) rfl) ?_
  clear HQ1 q2
  generalize w5.setRow g2 ((aP t (.slice AV t.roots.length cV)).toArray)=wc at *
  have p0:=TA.out.c0
  have p1:=TA.out.c1
  have p2:=TA.out.c2
  have p3:=TA.out.c3
  have p4:=TA.out.c4
  have p5:=TA.out.c5
  have p6:=TA.out.c6
  have p7:=TA.out.c7
  have p8:=TA.out.c8
  have p9:=TA.out.c9
  have p10:=TA.out.c10
  have p11:=TA.out.c11
  have p12:=TA.out.c12
  have p13:=TA.out.c13
  have p14:=TA.out.c14
  have p15:=TA.out.c15
  have p16:=TA.out.c16
  have pl:=TA.out.lt
  have q0:=TB.out.c0
  have q1:=TB.out.c1
  have q2:=TB.out.c2
  have q3:=TB.out.c3
  have q4:=TB.out.c4
  have q5:=TB.out.c5
  have q6:=TB.out.c6
  have q7:=TB.out.c7
  have q8:=TB.out.c8
  have q9:=TB.out.c9
  have q10:=TB.out.c10
  have q11:=TB.out.c11
  have q12:=TB.out.c12
  have q13:=TB.out.c13
  have q14:=TB.out.c14
  have q15:=TB.out.c15
  have q16:=TB.out.c16
  have ql:=TB.out.lt
  go_wp2_with fail
  refine (HNS.out t.roots wc _ _ (RdK.ext HRX.out ZC.out.ext) (RdK.ext HU.out.2 ZC.out.ext)).mono ?_
  rintro e w7 ⟨rfl,b7⟩
  have Z7:=ZH (ZC.out.tr b7)
  have TA7:=ZH (TA.out.ext b7)
  have TB7:=ZH (TB.out.ext b7)
  clear p0 p1 p2 p3 p4 p5 p6 p7 p8 p9 p10 p11 p12 p13 p14 p15 p16 pl q0 q1 q2 q3 q4 q5 q6 q7 q8 q9 q10 q11 q12 q13 q14 q15 q16 ql b7 ZC TA TB
  have p4:=TA7.out.c4
  have p5:=TA7.out.c5
  have p6:=TA7.out.c6
  have p7:=TA7.out.c7
  have p8:=TA7.out.c8
  have p9:=TA7.out.c9
  have p10:=TA7.out.c10
  have p11:=TA7.out.c11
  have p12:=TA7.out.c12
  have p13:=TA7.out.c13
  have p14:=TA7.out.c14
  have p15:=TA7.out.c15
  have p16:=TA7.out.c16
  have pl:=TA7.out.lt
  have q4:=TB7.out.c4
  have q5:=TB7.out.c5
  have q6:=TB7.out.c6
  have q7:=TB7.out.c7
  have q8:=TB7.out.c8
  have q9:=TB7.out.c9
  have q10:=TB7.out.c10
  have q11:=TB7.out.c11
  have q12:=TB7.out.c12
  have q13:=TB7.out.c13
  have q14:=TB7.out.c14
  have q15:=TB7.out.c15
  have q16:=TB7.out.c16
  have ql:=TB7.out.lt
  have eqq:=fun W=>HEQ.out W t.sg
  unfold ncV at eqq
  go_wp2_with fail
  go_roundw
  case rel=>exact ⟨k+1,by omega,by go_num,Z7⟩
  case measure=>simp [intOf];omega
end Go.Proofs.YtkjplpmogfmhkaaGreatDoor
