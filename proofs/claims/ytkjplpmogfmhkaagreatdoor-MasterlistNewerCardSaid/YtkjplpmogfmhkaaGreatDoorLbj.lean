/- Parts Al An of the proof. -/
import Derived.Test.YtkjplpmogfmhkaaGreatDoorLbi
import Derived.Test.YtkjplpmogfmhkaaGreatDoorLaz
import Derived.Test.YtkjplpmogfmhkaaGreatDoorLav
import Derived.Test.YtkjplpmogfmhkaaGreatDoorLbg
import Derived.Test.YtkjplpmogfmhkaaGreatDoorLbc
import Derived.Deep.CutRange
namespace Go.Proofs.YtkjplpmogfmhkaaGreatDoor
open Go.RowKit
open Go.Proofs.YtkjplpmogfmhkaaGreatDoor.Gd (cN mF)
set_option linter.unusedVariables false
set_option maxRecDepth 100000
namespace Gd
section
variable {P:Program}{ops:Array Oper}{Q:Exit→Act→World→Prop}{w0:World}{R:Act→World→Prop}
theorem OM {o:Oper}{rest:List Oper}{a:Act}{hs:List (Nat × aE)}{d:Nat} (hg:cN ops o a hs) (v:Value) (hd:o.dst=some d) (hz:Nat.blt d a.tmps.size=true) (hsel:aP o=true) (hin:(aR o).all (fun t=>Nat.blt t a.tmps.size)=true)
 (h:∀ (m:Lt w0) (f:Nat→Value),(∀ t p,hs.lookup t=some p→(aR o).contains t=true→p (f t) m.1)→∀ (K:Act→World→Prop),(∀ a'' w'',a''.defers=a.defers→(Ext m.1 w''∧a''.eval (.tmp d)=v)→K a'' w'')→o.wp P (aV a hs f) m.1 K (fun _ _ _=>False))
 (hr:wpX P ops Q w0 R rest (a.put (some d) v) hs):wpX P ops Q w0 R (o::rest) a hs :=
 ⟨d,fun u _=>u=v,hd,bH hz,stable_eq v,fun a' w he hsl=>fD hg hsl fun hsl=>by
   refine Oper.wp_mono (fun a'' w'' ⟨v,h1,h2⟩=>⟨v,h1,h2⟩) (dC (G:=fun u w''=>Ext w w''∧u=v) (cS (bL hsel) (gT (.inr trivial) hin hsl)) hd (by rw [bS];exact bH hz) (fun K hK=>h ⟨w,he⟩ (fun t=>a'.eval (.tmp t)) (fun t p hl hc=>?_) K (fun a'' w'' hd'=>hK a'' w'' (by rw [bO];exact hd'))))
   have:=hsl t (by simpa using hc)
   unfold bM at this
   rw [hl] at this
   exact this,.inl ⟨v,rfl,hr⟩⟩
end
end Gd
theorem AuS.ext {n:Int}{w w':World}{x:AB}{a:AU}{ds:List Int} (h:AuS n w x a ds) (e:Ext w w'):AuS n w' x a ds:=h.kp (Kp.ext e)
structure WoZ (w wr:World) (P:Nat) (A:Option Addr) (c:Nat) (s0 s1 s2 s3 s4:SlT) (S:ST) (day:Int) (x y:AB):Prop where
 ext:Ext w wr
 wo:wr.heap[P]?=some (.cells (fL (.slice A 2 c) s0 s1 s2 s3 s4 day) 77 (0,0))
 rd:RdK wr 33 (.slice A 2 c) (rQ [x,y])
 au:AuL 3 wr [x,y]
 st:StS wr s0 s1 s2 s3 s4 S
 sb:WSb S
 one:S.roots.length=1
 dy:40000≤day∧day<40080
section
variable {w wr wx:World}{P:Nat}{A:Option Addr}{c:Nat}{s0 s1 s2 s3 s4:SlT}{S:ST}{day:Int}{x y:AB}
theorem WoZ.tr (h:WoZ w wr P A c s0 s1 s2 s3 s4 S day x y) (e:Ext wr wx):WoZ w wx P A c s0 s1 s2 s3 s4 S day x y :=
 ⟨h.ext.tr e,(e.block _ (a9 h.wo)).trans h.wo,RdK.ext h.rd e,h.au.kp (Kp.ext e),h.st.kp (Kp.ext e),h.sb,h.one,h.dy⟩
theorem WoZ.all (h:WoZ w wr P A c s0 s1 s2 s3 s4 S day x y):wr.rangeAt P 0 [.slice A 2 c,slV s0,slV s1,slV s2,slV s3,slV s4,.int .i64 day]:=fun j u hu=>by
 rw [VB,cell_of_row _ _ j _ _ _ h.wo,show fL (.slice A 2 c) s0 s1 s2 s3 s4 day=([.slice A 2 c,slV s0,slV s1,slV s2,slV s3,slV s4,.int .i64 day]:List Value).toArray from rfl,List.getElem?_toArray]
 exact hu
theorem WoZ.mid (h:WoZ w wr P A c s0 s1 s2 s3 s4 S day x y):wr.rangeAt P 1 [slV s0,slV s1,slV s2,slV s3,slV s4]:=fun j u hu=>by
 rw [cell_of_row _ _ _ _ _ _ h.wo,show fL (.slice A 2 c) s0 s1 s2 s3 s4 day=([Value.slice A 2 c]++[slV s0,slV s1,slV s2,slV s3,slV s4]++[Value.int .i64 day]).toArray from rfl,List.getElem?_toArray,VF,List.getElem?_append_right (by show 1≤1+j;omega),show 1+j - ([.slice A 2 c]:List Value).length=j by show 1+j - 1=j;omega,List.getElem?_append_left (List.getElem?_eq_some_iff.1 hu).1]
 exact hu
theorem WoZ.c6 (h:WoZ w wr P A c s0 s1 s2 s3 s4 S day x y):wr.cell? ⟨P,6,none⟩=some (.int .i64 day):=by rw [cell_of_row _ _ 6 _ _ _ h.wo];rfl
theorem WoZ.c0 (h:WoZ w wr P A c s0 s1 s2 s3 s4 S day x y):wr.cell? ⟨P,0,none⟩=some (.slice A 2 c):=by rw [cell_of_row _ _ 0 _ _ _ h.wo];rfl
end
theorem SV {w w1:World}{A:Option Addr}{c:Nat}{s0 s1 s2 s3 s4:SlT}{S:ST}{day:Int}{x y:AB} (e:Ext w w1) (h1:RdK w1 33 (.slice A 2 c) (rQ [x,y])) (h2:AuL 3 w1 [x,y]) (h3:StS w1 s0 s1 s2 s3 s4 S) (h4:WSb S) (h5:S.roots.length=1) (h6:40000≤day∧day<40080) :
 ∃ wc,wc=(w1.alloc (.cells #[.slice none 0 0,.slice none 0 0,.slice none 0 0,.slice none 0 0,.slice none 0 0,.slice none 0 0,.int .i64 0] 77)).setRow w1.heap.size (fL (.slice A 2 c) s0 s1 s2 s3 s4 day)∧WoZ w wc w1.heap.size A c s0 s1 s2 s3 s4 S day x y:=by
 have ec:Ext w1 ((w1.alloc (.cells #[.slice none 0 0,.slice none 0 0,.slice none 0 0,.slice none 0 0,.slice none 0 0,.slice none 0 0,.int .i64 0] 77)).setRow w1.heap.size (fL (.slice A 2 c) s0 s1 s2 s3 s4 day)):=aQ ((Below.refl _ _).alloc (UX _) _) (UX _) _
 exact ⟨_,rfl,e.tr ec,aZ (aC w1 (.cells #[.slice none 0 0,.slice none 0 0,.slice none 0 0,.slice none 0 0,.slice none 0 0,.slice none 0 0,.int .i64 0] 77)),RdK.ext h1 ec,h2.kp (Kp.ext ec),h3.kp (Kp.ext ec),h4,h5,h6⟩
theorem AuS.first {n:Int}{w:World}{x:AB}{a:AU}{ds:List Int} (h:AuS n w x a ds):∃ c t,a.roots=c::t:=by
 have hl:a.roots.length=ds.length:=h.ai.rlen
 cases hh:a.roots with
 | nil=>have:=h.ne.1;rw [hh,VA] at hl;omega
 | cons r t=>exact ⟨r,t,rfl⟩
theorem UJ {n:Int}{w:World}{x y:AB} (h:AuL n w [x,y]) (who:Int):∃ (i:Nat) (xi xj:AB) (ai aj:AU) (di dj:List Int) (cj:NC) (tj:List NC),eF who 2=(i:Int)∧[x,y][i]?=some xi∧[x,y][1 - i]?=some xj∧AuS n w xi ai di∧AuS n w xj aj dj∧aj.roots=cj::tj:=by
 have hb:=iP (x:=who) (m:=2) (by omega)
 obtain ⟨i,hi⟩:∃ i:Nat,eF who 2=(i:Int):=⟨(eF who 2).toNat,by omega⟩
 have h2:i<2:=by omega
 obtain ⟨xi,hxi⟩:∃ z,[x,y][i]?=some z:=⟨_,V8 (by show i<2;exact h2)⟩
 obtain ⟨xj,hxj⟩:∃ z,[x,y][1 - i]?=some z:=⟨_,V8 (by show 1 - i<2;omega)⟩
 obtain ⟨ai,di,Si⟩:=h xi (VD hxi)
 obtain ⟨aj,dj,Sj⟩:=h xj (VD hxj)
 obtain ⟨cj,tj,e⟩:=Sj.first
 exact ⟨i,xi,xj,ai,aj,di,dj,cj,tj,hi,hxi,hxj,Si,Sj,e⟩
theorem L3 {S:ST}{m:MA}{day:Int} (h:(dP S m day).2≠0):(dP S m day).1=S:=by
 unfold dP at h ⊢
 split
 · rfl
 · rename_i h1
   rw [if_neg h1] at h
   split
   · rename_i i hf
     simp only [hf] at h
     split
     · rfl
     · rename_i h2
       rw [if_neg h2] at h
       exact absurd rfl h
   · rename_i hf
     simp only [hf] at h
     split
     · rfl
     · rename_i h2
       rw [if_neg h2] at h
       exact absurd rfl h
def sW (st:List UInt8) (l:List MA):Int:=l.foldl (fun a t=>if t.st=st then t.num else a) 0
theorem GA {st:List UInt8}{l:List MA}{t:MA}{k:Nat} (h:l[k]?=some t):sW st (l.take (k+1))=if t.st=st then t.num else sW st (l.take k):=by
 have e:l.take (k+1)=l.take k++[t]:=by
  rw [List.take_add_one,h]
  rfl
 unfold sW
 rw [e,List.foldl_append]
 rfl
theorem DX {st:List UInt8}{n:Int}:∀ (l:List MA) (a:Int),(∀ t ∈ l,t.st=st→t.num=n)→((∃ t ∈ l,t.st=st) ∨ a=n)→l.foldl (fun a t=>if t.st=st then t.num else a) a=n
 | [],a,_,h=>by
   rcases h with ⟨t,ht,_⟩ | h
   · cases ht
   · exact h
 | x::l,a,hn,h=>by
   rw [List.foldl_cons]
   refine DX l _ (fun t ht=>hn t (VQ _ ht)) ?_
   by_cases hx:x.st=st
   · rw [if_pos hx]
     exact .inr (hn x VM hx)
   · rw [if_neg hx]
     rcases h with ⟨t,ht,hs⟩ | h
     · rcases List.mem_cons.1 ht with rfl | ht
       · exact absurd hs hx
       · exact .inl ⟨t,ht,hs⟩
     · exact .inr h
theorem Kp.setRowM {w:World}{g:Nat}{m m2:MA}{v v2:Value} (h:aX w g m v):∀ (b:Nat) (cs:Array Value) (fr:Nat × Nat),w.heap[b]?=some (.cells cs 56 fr)→(w.setRow g (aB m2 v2).toArray).heap[b]?=some (.cells cs 56 fr):=fun b cs fr hb=>by
 by_cases q:b=g
 · subst q
   have h2:=h.row
   rw [hb] at h2
   injection h2 with h2
   injection h2 with _ h2 _
   exact absurd h2 (by decide)
 · exact (dX q).trans hb
theorem cE.kpN {w w':World}{v:Value}{xs:List Value} (h:cE w 0 56 11 v xs) (r:∀ (b:Nat) (cs:Array Value) (fr:Nat × Nat),w.heap[b]?=some (.cells cs 56 fr)→w'.heap[b]?=some (.cells cs 56 fr)):cE w' 0 56 11 v xs:=by
 have key:∀ A n c,v=.slice A n c→0<n→∃ b o,A=some ⟨b,o,none⟩∧w'.heap[b]?=w.heap[b]?∧∃ cs fr,w'.heap[b]?=some (.cells cs 56 fr):=fun A n c hv hn=>by
  obtain ⟨b,o,h1,h2⟩:=h.2 A n c hv hn
  rcases h2 with h2 | ⟨cs,fr,h2⟩
  · omega
  · exact ⟨b,o,h1,(r b cs fr h2).trans h2.symm,cs,fr,r b cs fr h2⟩
 refine ⟨?_,fun A n c hv hn=>?_⟩
 · obtain ⟨A,n,c,rfl,hn,hnc,hcm,hc⟩:=h.1
   refine ⟨A,n,c,rfl,hn,hnc,hcm,fun h0=>?_⟩
   obtain ⟨b,o,rfl,hcell⟩:=hc h0
   obtain ⟨b',o',e1,e2,_⟩:=key _ n c rfl h0
   injection e1 with e1
   injection e1 with e1 e3
   subst e1 e3
   refine ⟨b,o,rfl,fun j u hu=>?_⟩
   have h1:=hcell j u hu
   unfold World.cell? at h1 ⊢
   simp only at h1 ⊢
   rw [e2]
   exact h1
 · obtain ⟨b,o,h1,_,h2⟩:=key A n c hv hn
   exact ⟨b,o,h1,.inr h2⟩
def GIt (B:Nat) (m:MA) (k:Int):aE:=fun v w=>∃ A n c,v=.tuple #[maV m (.slice A n c),.int .i64 k]∧cE w 0 56 11 (.slice A n c) (aA m.roots)
def GIw (m:MA):aE:=fun v w=>∃ A n c,v=maV m (.slice A n c)∧cE w 0 56 11 (.slice A n c) (aA m.roots)
theorem ON (W:World) (ats:Array TypeId) (ty:TypeId) (x y:Int):(Builtin.max_ ats ty #[.int .i64 x,.int .i64 y]).run Tryz.prog W=.ok (.int .i64 (max x y)) W:=by
 have h:(if y > x then y else x)=max x y:=by rw [Int.max_def];split <;> split <;> omega
 unfold Builtin.max_
 simp [Builtin.max2,h]
namespace Gd
section
variable {P:Program}{ops:Array Oper}{Q:Exit→Act→World→Prop}{w0:World}{R:Act→World→Prop}
theorem QP {o:Oper}{rest:List Oper}{a:Act}{hs:List (Nat × aE)}{d:Nat} (hg:cN ops o a hs) (v:Value) {t u:TypeId}{p q:Operand} (hd:o.dst=some d) (hz:Nat.blt d a.tmps.size=true)
 (ho:o.op=.call { callee:=.builtin .max,args:=#[p,q],argTypes:=#[t,u] }) (hn:dQ o hs=true) (h:∀ m:Lt w0,(Builtin.max_ #[t,u] o.type #[a.eval p,a.eval q]).run P m.1=.ok v m.1)
 (hr:wpX P ops Q w0 R rest (a.put (some d) v) hs):wpX P ops Q w0 R (o::rest) a hs :=
 fO hg v hd hz (by unfold aP;rw [ho]) hn (fun m K hK=>by
  unfold Oper.wp execOp
  simp only [ho,resolve,invoke,builtin,Sem.run_bind,Sem.run_pure,Result.andThen_ok,List.map_toArray,List.map_cons,List.map_nil,h m]
  exact hK _ _ (by rw [hd];rfl) ⟨Below.refl _ _,by rw [hd,aM (bH hz)]⟩) hr
end
end Gd
namespace Gd
section
variable {P:Program}{ops:Array Oper}{Q:Exit→Act→World→Prop}{w0:World}{R:Act→World→Prop}
theorem OO {o:Oper}{rest:List Oper}{a:Act}{hs:List (Nat × aE)}{d:Nat} (hg:cN ops o a hs) (v:Value) {t:TypeId}{s:Operand} (sv:(Nat→Value)→Value)
 (hd:o.dst=some d) (hz:Nat.blt d a.tmps.size=true) (ho:o.op=.call { callee:=.builtin .len,args:=#[s],argTypes:=#[t] }) (hin:(aR o).all (fun t=>Nat.blt t a.tmps.size)=true) (hqs:jY a s=true)
 (hs':∀ f,evF a hs f s=sv f)
 (h:∀ (m:Lt w0) (f:Nat→Value),(∀ t p,hs.lookup t=some p→(aR o).contains t=true→p (f t) m.1)→(Builtin.len_ #[t] o.type #[sv f]).run P m.1=.ok v m.1)
 (hr:wpX P ops Q w0 R rest (a.put (some d) v) hs):wpX P ops Q w0 R (o::rest) a hs :=
 OM hg v hd hz (by unfold aP;rw [ho]) hin (fun m f hf K hK=>by
  have h1:=h m f hf
  have e1:(aV a hs f).eval s=sv f:=(dE hqs).trans (hs' f)
  unfold Oper.wp execOp
  simp only [ho,resolve,invoke,builtin,Sem.run_bind,Sem.run_pure,Result.andThen_ok,List.map_toArray,List.map_cons,List.map_nil,e1,h1]
  exact hK _ _ (by rw [hd];show ((aV a hs f).put (some d) v).defers=_;simp [Act.put,bO]) ⟨Below.refl _ _,by rw [hd,aM (eD f d hz)]⟩) hr
end
end Gd
def I14 (go:Nat) (mo iz:MA) (w:World):Prop:=∃ m A n c,(m=mo ∨ m=iz)∧aX w go m (.slice A n c)∧cE w 0 56 11 (.slice A n c) (aA m.roots)
def KN (w w':World):Prop:=∀ (b:Nat) (cs:Array Value) (fr:Nat × Nat),w.heap[b]?=some (.cells cs 56 fr)→w'.heap[b]?=some (.cells cs 56 fr)
theorem KN.ext {w w':World} (e:Ext w w'):KN w w':=fun b _ _ h=>(e.block b (a9 h)).trans h
def r14 (go:Nat) (mo iz:MA):Gt.Rl where
 rel w w':=Gb go w w'∧(I14 go mo iz w→I14 go mo iz w')∧KN w w'
 st T w w':=T=80∧Gb go w w'∧(I14 go mo iz w→I14 go mo iz w')∧KN w w'
 refl w:=⟨Gb.refl _ _,id,fun _ _ _ h=>h⟩
 tr h k:=⟨h.1.tr k.1,fun q=>k.2.1 (h.2.1 q),fun b cs fr q=>k.2.2 b cs fr (h.2.2 b cs fr q)⟩
 ext e:=⟨Gb.of _ e,fun ⟨m,A,n,c,h1,h2,h3⟩=>⟨m,A,n,c,h1,h2.ext e,h3.ext e⟩,KN.ext e⟩
 sub h:=h.2
def G75 (mo iz:MA):aE:=fun v w=>∃ m A n c,v=maV m (.slice A n c)∧(m=mo ∨ m=iz)∧cE w 0 56 11 (.slice A n c) (aA m.roots)
theorem GC (go:Nat) (mo iz:MA):(r14 go mo iz).stable (G75 mo iz):=fun v w w' r ⟨m,A,n,c,h1,h2,h3⟩=>⟨m,A,n,c,h1,h2,h3.kpN r.2.2⟩
theorem qN (go:Nat) (mo iz:MA) (B:Nat) (m:MA) (k:Int):(r14 go mo iz).stable (GIt B m k):=fun v w w' r ⟨A,n,c,h1,h2⟩=>⟨A,n,c,h1,h2.kpN r.2.2⟩
theorem AM (go:Nat) (mo iz:MA) (m:MA):(r14 go mo iz).stable (GIw m):=fun v w w' r ⟨A,n,c,h1,h2⟩=>⟨A,n,c,h1,h2.kpN r.2.2⟩
def G12 (go:Nat) (iz:MA):aE:=fun v w=>v=.pointer (some ⟨go,0,none⟩)∧∃ A n c,aX w go iz (.slice A n c)∧cE w 0 56 11 (.slice A n c) (aA iz.roots)
theorem GD {k:Int}{m:MA} (h:iO k m=0):d9 k (d9 k m)=d9 k m∧iO k (d9 k m)=0:=by
 have hc:ckM m=0:=by
  unfold iO at h
  split at h
  · assumption
  · exact h
 have hs:sK k=0:=by
  unfold iO at h
  rw [if_pos hc] at h
  exact h
 have e1:d9 k m=kB m (sE k (dS m)) (sS k (dS m)):=if_pos ⟨hc,hs⟩
 rw [e1]
 constructor
 · exact if_pos ⟨hc,hs⟩
 · unfold iO
   rw [tS,if_pos hc,hs]
theorem yP (W:World) (a b:Value):(Instr.extract (.tuple #[a,b]) 0).run Tryz.prog W=.ok a W∧(Instr.extract (.tuple #[a,b]) 1).run Tryz.prog W=.ok b W:=by
 refine ⟨?_,?_⟩ <;> go_simp
set_option maxHeartbeats 16000000 in
theorem DY {v1:Value}{l:List Int} (who bye:Int) (w:World) (h:RdI w .i64 v1 l) (hw:∀ x ∈ l,mA x) (h1:mA who) (h3:mA bye) (E:Env w) :
 Calls Tryz.prog 12 #[v1,.int .i64 who,.int .i64 bye] w (eP w (.bool true)):=by
 have HA:=VR (fun W (e:Ext w W)=>DP W (E.ext e))
 have HL1:=VR (F6 w h)
 have HWO:=VR (fun (q:l.length≤80)=>AK w h hw (by omega) E.r)
 have HM4:=VR (fun W=>gN bye 4 W h3.1 h3.2 (by omega))
 have HM2:=VR (fun W=>gN who 2 W h1.1 h1.2 (by omega))
 have b4:=iP (x:=bye) (m:=4) (by omega)
 have HE:=VR E
 have HWF:=VR h1
 clear E h hw h1 h3
 go_enter Tryz.func12,Tryz.ntmps12
 go_wp2_with fail
 refine (HL1.out).mono ?_
 rintro e w' ⟨rfl,rfl⟩
 by_cases a1:l.length≤80
 case neg =>
  rw [decide_eq_false a1]
  go_wp2_with fail
  refine (HA.out _ (Below.refl _ _)).mono ?_
  rintro e w3 ⟨rfl,b3⟩
  go_wp2_with fail
  go_ret
  exact ⟨rfl,b3⟩
 rw [decide_eq_true a1]
 have HWO:=VR (HWO.out a1)
 clear a1 HL1
 go_wp2_with fail
 refine (HWO.out).mono ?_
 rintro e w1 ⟨A,c,s0,s1,s2,s3,s4,S,day,x,y,rfl,b1,hdy,rA,uA,sA,wsb,one⟩
 obtain ⟨wc,hwc,Z0⟩:=SV b1 rA uA sA wsb one hdy
 have H1:=VR (yN (v:=.slice A 2 c) s0 s1 s2 s3 s4 day rfl)
 have HALL:=VR (aC w1 (.cells #[.slice none 0 0,.slice none 0 0,.slice none 0 0,.slice none 0 0,.slice none 0 0,.slice none 0 0,.int .i64 0] 77))
 clear HWO b1 rA uA sA wsb one
 go_upto_region 4 with (refine aK rfl 77 _ _ rfl rfl w1.heap.size (fL (.slice A 2 c) s0 s1 s2 s3 s4 day) rfl rfl 77 #[.slice none 0 0,.slice none 0 0,.slice none 0 0,.slice none 0 0,.slice none 0 0,.slice none 0 0,.int .i64 0] HALL.out qK rfl H1.out ?_)
 rw [← hwc]
 clear hwc HALL H1
 generalize w1.heap.size=P at *
 clear w1
 have Z:=VR Z0
 clear Z0
 obtain ⟨i,xi,xj,ai,aj,di,dj,cj,tj,hi,hxi,hxj,Si,Sj,erj⟩:=UJ Z.out.au who
 rw [hi] at HM2
 have hi2:i<2:=by have:=iP (x:=who) (m:=2) (by omega);omega
 have HLI:=VR (G9 s0 s1 s2 s3 s4 day who 11 0 i xi xj ai aj di dj cj tj wc Z.out.rd hi hxi hxj Si Sj erj (by have:=Z.out.dy;omega) (by have:=Z.out.dy;omega) HWF.out ⟨by omega,by omega⟩ (by omega) (by omega) (HE.out.ext Z.out.ext).r)
 rw [show eF 11 12=11 by decide] at HLI
 have hli:=Si.li
 have HOK:=VR (show ((d9 xi.lsec ⟨xi.st,xi.li,day,[cj],xi.ls,0,0⟩)).num=xi.li∧((d9 xi.lsec ⟨xi.st,xi.li,day,[cj],xi.ls,0,0⟩)).sg=xi.ls∧inB 1 1073741789 xi.lsec=true∧((d9 xi.lsec ⟨xi.st,xi.li,day,[cj],xi.ls,0,0⟩)).sg.key=pw 4 xi.lsec from by
  obtain ⟨k1,k2⟩:=OH Si.ai (fun q=>by have:=Si.ne.1;rw [q] at this;exact absurd this (by decide)) Sj.ai (c:=cj) (i:=0) (by rw [erj];rfl) (li:=xi.li) (day:=day) (e:=0) (s:=0) (by omega) (by omega) (by have:=Z.out.dy;omega) (by have:=Z.out.dy;omega)
  obtain ⟨_,_,_,_,_,_,_,_,L⟩:=Si.ai.ls (fun q=>by have:=Si.ne.1;rw [q] at this;exact absurd this (by decide))
  have k3:=L.key
  rw [← Si.ls,← Si.lsec] at k3
  rw [← Si.lsec] at k1
  rw [← Si.st,← Si.ls] at k2
  refine ⟨?_,?_,k1,?_⟩ <;> rw [qJ k1 k2]
  · rfl
  · rfl
  · exact k3)
 obtain ⟨gA,oA,rfl,hglr,-,h2c,hcm,Ri⟩:=SU Z.out.rd hxi
 unfold maxLen at hcm
 have HRi:=VR Ri
 clear hi hxi hxj Si Sj erj HWF Ri
 generalize (d9 xi.lsec ⟨xi.st,xi.li,day,[cj],xi.ls,0,0⟩)=m0 at *
 obtain ⟨kk,hkk⟩:∃ kk,xi.lsec=kk:=⟨_,rfl⟩
 rw [hkk] at HOK
 have hlk:(abL xi)[27]?=some (.int .i64 kk):=by rw [← hkk];rfl
 have HLK:=VR hlk
 clear hlk hkk
 have HW:=VR Z.out.wo
 go_wp2_with (refine wpList_load_row rfl 77 _ rfl P rfl 77 (fL (.slice (some ⟨gA,oA,none⟩) 2 c) s0 s1 s2 s3 s4 day) (0,0) _ HW.out Tryz.underlying77 rfl qK ?_)
 refine HLI.out.mono ?_
 rintro e w2 ⟨m,Am,nm,cm,rfl,b2,sfm,hm,hms,hmg,hmt,hml⟩
 obtain rfl:=hm (by omega)
 clear hm HLI HW
 obtain ⟨wa,hwa,ea,TA⟩:=iB w2 m (.slice Am nm cm)
 have Z2:=VR (Z.out.tr (b2.tr ea))
 have T2:=VR TA
 have L2:=VR (sfm.ext ea)
 have HMS:=VR (And.intro hms (And.intro hmg (And.intro hmt hml)))
 have HRi2:=VR (cW HRi.out hglr (b2.tr ea))
 have hglr2:=VG hglr (b2.tr ea).size
 clear Z b2 ea TA sfm hms hmg hmt hml HRi hglr
 unfold maV aB
 go_upto_region 5 with fail
 rw [← hwa]
 clear hwa
 obtain ⟨gm,hgm⟩:∃ g,w2.heap.size=g:=⟨_,rfl⟩
 rw [hgm] at T2
 try rw [hgm]
 clear hgm w2
 have HC:=VR Z2.out.mid
 have p6:=Z2.out.c6
 have pl:=a9 Z2.out.wo
 have HR:=VR T2.out.row
 have HAC:=VR (j6 s0 s1 s2 s3 s4 S m (.slice Am nm cm) day wa Z2.out.st.rd Z2.out.sb.b L2.out.rd HMS.out.2.2.1 HMS.out.1 HMS.out.2.1 (by have:=HMS.out.2.2.2;omega) (HE.out.ext Z2.out.ext).d)
 go_wp2_with (first | (refine wpList_load_mid rfl 75 _ rfl P 1 rfl [slV s0,slV s1,slV s2,slV s3,slV s4] _ HC.out Tryz.underlying75 rfl aY ?_) | (refine wpList_load_row rfl 80 _ rfl gm rfl 80 (aB m (.slice Am nm cm)).toArray (0,0) _ HR.out Tryz.underlying80 rfl aN ?_))
 refine HAC.out.mono ?_
 rintro e w4 ⟨t0,t1,t2,t3,t4,rfl,SR,b4'⟩
 obtain ⟨wf,hwf⟩:∃ wf,wf=w4.alloc (.cells #[.slice t0.1 t0.2.1 t0.2.2,.slice t1.1 t1.2.1 t1.2.2,.slice t2.1 t2.2.1 t2.2.2,.slice t3.1 t3.2.1 t3.2.2,.slice t4.1 t4.2.1 t4.2.2] 75):=⟨_,rfl⟩
 have ef:Ext w4 wf:=by rw [hwf];exact (Below.refl _ _).alloc (UX _) _
 have hf:wf.heap[w4.heap.size]?=some (.cells (bD t0 t1 t2 t3 t4) 75 (0,0)):=by rw [hwf];exact aC w4 _
 have BB:=b4'.tr ef
 have Z5:=VR (Z2.out.tr BB)
 have T5:=VR (T2.out.ext BB)
 have L5:=VR (L2.out.ext BB)
 have HRi5:=VR (cW HRi2.out hglr2 BB)
 have hglr5:=VG hglr2 BB.size
 have SA:=VR (SR.ext ef)
 have HSA:=VR hf
 clear BB ef SR b4' hf HAC HC HR pl p6 Z2 T2 L2 HRi2 hglr2
 unfold cH
 go_upto_region 6 with fail
 rw [← hwf]
 clear hwf
 generalize w4.heap.size=gs at *
 clear w4 wa
 have HWS:=VR (Z5.out.sb.acc (m:=m) (day:=day) HMS.out.1 (by have:=HMS.out.2.2.2;omega))
 have HC:=VR Z5.out.mid
 have pl:=a9 Z5.out.wo
 have HZB:=VR (aC wf (.cells #[.slice none 0 0,.slice none 0 0,.slice none 0 0,.slice none 0 0,.slice none 0 0] 75))
 obtain ⟨wb,hwb⟩:∃ wb,wb=(wf.alloc (.cells #[.slice none 0 0,.slice none 0 0,.slice none 0 0,.slice none 0 0,.slice none 0 0] 75)).setRow wf.heap.size (bD s0 s1 s2 s3 s4):=⟨_,rfl⟩
 have eb:Ext wf wb:=by rw [hwb];exact aQ ((Below.refl _ _).alloc (UX _) _) (UX _) _
 have hb:wb.heap[wf.heap.size]?=some (.cells (bD s0 s1 s2 s3 s4) 75 (0,0)):=by rw [hwb];exact aZ HZB.out
 have H1:=VR (eG s0 s1 s2 s3 s4)
 go_upto_region 7 with (first | (refine wpList_load_mid rfl 75 _ rfl P 1 rfl [slV s0,slV s1,slV s2,slV s3,slV s4] _ HC.out Tryz.underlying75 rfl aY ?_) | (refine aK rfl 75 _ _ rfl rfl wf.heap.size (bD s0 s1 s2 s3 s4) rfl rfl 75 #[.slice none 0 0,.slice none 0 0,.slice none 0 0,.slice none 0 0,.slice none 0 0] HZB.out aY rfl H1.out ?_))
 rw [← hwb]
 clear hwb HC pl HZB H1
 have y2:wb.cell? ⟨wf.heap.size,2,none⟩=some (.slice s2.1 s2.2.1 s2.2.2):=by rw [cell_of_row _ _ 2 _ _ _ hb];rfl
 have yl:=a9 hb
 have yf:wb.frozen? ⟨wf.heap.size,2,none⟩=false:=by simp [World.frozen?,hb]
 obtain ⟨wd,hwd⟩:∃ wd,wd=wb.setCell ⟨wf.heap.size,2,none⟩ (.slice none 0 0):=⟨_,rfl⟩
 have ed:Ext wf wd:=by rw [hwd];exact aH eb (UX _)
 have hd:wd.heap[wf.heap.size]?=some (.cells (bD s0 s1 zS s3 s4) 75 (0,0)):=by rw [hwd];exact aG hb 2 (.slice none 0 0)
 have hwd2:=hwd.symm
 clear hwd
 go_upto_region 8 with fail
 (try rw [hwd2])
 clear hwd2 y2 yl yf eb hb
 have Z6:=VR (Z5.out.tr ed)
 have T6:=VR (T5.out.ext ed)
 have L6:=VR (L5.out.ext ed)
 have HRi6:=VR (cW HRi5.out hglr5 ed)
 have hglr6:=VG hglr5 ed.size
 have SA6:=VR (SA.out.ext ed)
 have HSA6:=VR ((ed.block _ (a9 HSA.out)).trans HSA.out)
 have HBR:=VR hd
 clear ed hd Z5 T5 L5 HRi5 hglr5 SA HSA wb
 generalize wf.heap.size=gb at *
 clear wf
 have HVV:=VR (fun (r2:SlT) W (e:Ext wd W)=>sR s0 s1 r2 s3 s4 S.roots S.pool m (.slice Am nm cm) day W (Z6.out.tr e).st.r.rd (Z6.out.tr e).st.p.rd Z6.out.sb.b.r Z6.out.sb.b.p (by have:=Z6.out.sb.b.lr;have:=Z6.out.sb.b.lp;omega) (L6.out.ext e).rd HMS.out.1 HMS.out.2.1 HMS.out.2.2.1 (HE.out.ext (Z6.out.ext.tr e)).d)
 generalize hVK:lX S.roots S.pool m day=VK at *
 clear hVK
 have hvk:(VK != VK)=false:=by simp
 refine Gd.aO 12 (by kernel_rfl) (by kernel_rfl) ?_
 simp only [VH,VE,VI,VJ]
 intro wq hw1
 have LL:∀ m1:Lt wq,Ext wd m1.1:=fun m1=>hw1.tr m1.2
 have KC:=fun m1:Lt wq=>(Z6.out.tr (LL m1)).mid
 have KM:=fun m1:Lt wq=>(T6.out.ext (LL m1)).range
 have KB:=fun m1:Lt wq=>wH (((LL m1).block _ (a9 HBR.out)).trans HBR.out)
 have p6:=fun m1:Lt wq=>(Z6.out.tr (LL m1)).c6
 have pl:=fun m1:Lt wq=>a9 (Z6.out.tr (LL m1)).wo
 repeat (refine Gd.aD (by first | exact trivial | exact ⟨_,rfl,rfl,rfl⟩) rfl rfl rfl rfl rfl (fun K hK=>?_);go_big_quiet_op;refine hK _ ?_;clear hK K)
 refine Gd.wpX_midK (by first | exact trivial | exact ⟨_,rfl,rfl,rfl⟩) (P) (1) ([slV s0,slV s1,slV s2,slV s3,slV s4]) rfl rfl rfl rfl rfl KC Tryz.underlying75 rfl aY ?_
 simp only [Act.put,UY,UZ,V0]
 repeat (refine Gd.aD (by first | exact trivial | exact ⟨_,rfl,rfl,rfl⟩) rfl rfl rfl rfl rfl (fun K hK=>?_);go_big_quiet_op;refine hK _ ?_;clear hK K)
 refine Gd.wpX_midK (by first | exact trivial | exact ⟨_,rfl,rfl,rfl⟩) (gm) (0) (aB m (.slice Am nm cm)) rfl rfl rfl rfl rfl KM Tryz.underlying80 rfl aN ?_
 simp only [Act.put,UY,UZ,V0]
 repeat (refine Gd.aD (by first | exact trivial | exact ⟨_,rfl,rfl,rfl⟩) rfl rfl rfl rfl rfl (fun K hK=>?_);go_big_quiet_op;refine hK _ ?_;clear hK K)
 refine Gd.bZ (by first | exact trivial | exact ⟨_,rfl,rfl,rfl⟩) (.int .i64 VK) (args:=[cH s0 s1 s2 s3 s4,maV m (.slice Am nm cm),.int .i64 day]) rfl rfl rfl rfl (by kernel_rfl) rfl rfl (fun m1=>(HVV.out s2 m1.1 (LL m1)).mono fun _ _ ⟨h1,h2⟩=>⟨h1,h2⟩) ?_
 simp only [Act.put,UY,UZ,V0]
 try simp only [beq_self_eq_true]
 repeat (refine Gd.aD (by first | exact trivial | exact ⟨_,rfl,rfl,rfl⟩) rfl rfl rfl rfl rfl (fun K hK=>?_);go_big_quiet_op;refine hK _ ?_;clear hK K)
 try simp only [beq_self_eq_true]
 refine Gd.wpX_midK (by first | exact trivial | exact ⟨_,rfl,rfl,rfl⟩) (gb) (0) ([slV s0,slV s1,slV zS,slV s3,slV s4]) rfl rfl rfl rfl rfl KB Tryz.underlying75 rfl aY ?_
 simp only [Act.put,UY,UZ,V0]
 repeat (refine Gd.aD (by first | exact trivial | exact ⟨_,rfl,rfl,rfl⟩) rfl rfl rfl rfl rfl (fun K hK=>?_);go_big_quiet_op;refine hK _ ?_;clear hK K)
 refine Gd.wpX_midK (by first | exact trivial | exact ⟨_,rfl,rfl,rfl⟩) (gm) (0) (aB m (.slice Am nm cm)) rfl rfl rfl rfl rfl KM Tryz.underlying80 rfl aN ?_
 simp only [Act.put,UY,UZ,V0]
 repeat (refine Gd.aD (by first | exact trivial | exact ⟨_,rfl,rfl,rfl⟩) rfl rfl rfl rfl rfl (fun K hK=>?_);go_big_quiet_op;refine hK _ ?_;clear hK K)
 refine Gd.bZ (by first | exact trivial | exact ⟨_,rfl,rfl,rfl⟩) (.int .i64 VK) (args:=[cH s0 s1 zS s3 s4,maV m (.slice Am nm cm),.int .i64 day]) rfl rfl rfl rfl (by kernel_rfl) rfl rfl (fun m1=>(HVV.out zS m1.1 (LL m1)).mono fun _ _ ⟨h1,h2⟩=>⟨h1,h2⟩) ?_
 simp only [Act.put,UY,UZ,V0]
 try simp only [beq_self_eq_true]
 repeat (refine Gd.aD (by first | exact trivial | exact ⟨_,rfl,rfl,rfl⟩) rfl rfl rfl rfl rfl (fun K hK=>?_);go_big_quiet_op;refine hK _ ?_;clear hK K)
 try simp only [beq_self_eq_true]
 refine Gd.dT (fun m1=>?_)
 have Z7:=VR (Z6.out.tr (LL m1))
 have T7:=VR (T6.out.ext (LL m1))
 have L7:=VR (L6.out.ext (LL m1))
 have HRi7:=VR (cW HRi6.out hglr6 (LL m1))
 have hglr7:=VG hglr6 (LL m1).size
 have SA7:=VR (SA6.out.ext (LL m1))
 have HSA7:=VR (((LL m1).block _ (a9 HSA6.out)).trans HSA6.out)
 clear hw1 LL KC KM KB p6 pl HVV HBR Z6 T6 L6 HRi6 hglr6 SA6 HSA6
 generalize m1.1=w7 at *
 clear m1 wd
 show wpList _ _ _ _ _ _
 go_upto_region 10 with fail
 by_cases d1:(dP S m day).2=0
 case neg =>
  have HF:=VR (L3 d1)
  have hb:((dP S m day).2 != 0)=true:=by simpa using d1
  generalize (dP S m day).2=ke at *
  clear d1
  have HSS:=VR (oO t0 t1 t2 t3 t4 s0 s1 s2 s3 s4 S w7 (by have h:=SA7.out;rw [HF.out] at h;exact h) Z7.out.st.rd Z7.out.sb.ds)
  have HC:=VR Z7.out.mid
  have pl:=a9 Z7.out.wo
  have HS:=VR HSA7.out
  go_wp2_with (first | (refine wpList_load_mid rfl 75 _ rfl P 1 rfl [slV s0,slV s1,slV s2,slV s3,slV s4] _ HC.out Tryz.underlying75 rfl aY ?_) | (refine wpList_load_row rfl 75 _ rfl gs rfl 75 (bD t0 t1 t2 t3 t4) (0,0) _ HS.out Tryz.underlying75 rfl aY ?_))
  refine HSS.out.mono ?_
  rintro e w8 ⟨rfl,b8⟩
  go_wp2_with fail
  refine (HA.out w8 (Z7.out.ext.tr b8)).mono ?_
  rintro e w9 ⟨rfl,b9⟩
  have X9:=VR (Z7.out.ext.tr (b8.tr b9))
  clear b8 b9
  go_wp2_with fail
  go_ret
  exact ⟨rfl,X9.out⟩
 case pos =>
 have HZR:=VR d1
 rw [d1]
 clear d1
 have hn:=HOK.out.1
 have hnb:1≤m.num∧m.num≤4:=by omega
 clear hn
 generalize hm4:eF bye 4=m4 at *
 clear hm4
 obtain ⟨nn,hnn⟩:∃ nn,max 1 (m.num - m4)=nn:=⟨_,rfl⟩
 have HNN:=VR (show 1≤nn∧nn≤m.num by omega)
 have HOLD:=VR (OI (S:=S) (m:=m) (k:=kk) (n:=nn) (day:=day) HOK.out.2.2.1 (by rw [← HOK.out.2.2.2]) HNN.out.1 HNN.out.2 (by omega) HZR.out)
 have HLST:=VR (show sW m.st (dP S m day).1.ms=m.num from DX _ 0 (yO HZR.out Z7.out.sb.nd).2 (.inl (yO HZR.out Z7.out.sb.nd).1))
 have HROT:=VR (G7 (S:=(dP S m day).1) (by rw [(nX S m day).1];exact Z7.out.one))
 have wm4:IntKind.i64.wrap (m.num - m4)=m.num - m4:=IntWalk.i64_in _ (by omega)
 obtain ⟨S',hS'⟩:∃ S',(dP S m day).1=S':=⟨_,rfl⟩
 rw [hS'] at HOLD HLST HROT SA7 HWS
 clear hS'
 have hsz7:=Z7.out.ext.size
 have HR:=VR T7.out.row
 have HZB:=VR (aC w7 (.cells #[.string ⟨#[]⟩,.int .i64 0,.int .i64 0,.slice none 0 0,.string ⟨#[]⟩,.int .i64 0,.int .i64 0,.int .i64 0,.int .i64 0,.int .i64 0,.int .i64 0,.int .i64 0,.int .i64 0,.int .i64 0,.int .i64 0,.int .i64 0,.int .i64 0] 80))
 obtain ⟨wo,hwo⟩:∃ wo,wo=(w7.alloc (.cells #[.string ⟨#[]⟩,.int .i64 0,.int .i64 0,.slice none 0 0,.string ⟨#[]⟩,.int .i64 0,.int .i64 0,.int .i64 0,.int .i64 0,.int .i64 0,.int .i64 0,.int .i64 0,.int .i64 0,.int .i64 0,.int .i64 0,.int .i64 0,.int .i64 0] 80)).setRow w7.heap.size (aB m (.slice Am nm cm)).toArray:=⟨_,rfl⟩
 have eo:Ext w7 wo:=by rw [hwo];exact aQ ((Below.refl _ _).alloc (UX _) _) (UX _) _
 have TO:aX wo w7.heap.size m (.slice Am nm cm):=by rw [hwo];exact aZ HZB.out
 go_upto_region 13 with (first | (refine wpList_load_row rfl 80 _ rfl gm rfl 80 (aB m (.slice Am nm cm)).toArray (0,0) _ HR.out Tryz.underlying80 rfl aN ?_) | (refine aK rfl 80 _ _ rfl rfl w7.heap.size (aB m (.slice Am nm cm)).toArray rfl rfl 80 #[.string ⟨#[]⟩,.int .i64 0,.int .i64 0,.slice none 0 0,.string ⟨#[]⟩,.int .i64 0,.int .i64 0,.int .i64 0,.int .i64 0,.int .i64 0,.int .i64 0,.int .i64 0,.int .i64 0,.int .i64 0,.int .i64 0,.int .i64 0,.int .i64 0] HZB.out aN rfl (dZ m (.slice Am nm cm) rfl) ?_))
 rw [← hwo]
 clear hwo HR HZB
 have EO:=VR eo
 have TO8:=VR TO
 have hne:w7.heap.size≠gm:=fun q=>by have:=T7.out.lt;omega
 clear eo TO
 obtain ⟨go,hgo⟩:∃ g,w7.heap.size=g:=⟨_,rfl⟩
 rw [hgo] at TO8 hne hsz7
 try rw [hgo]
 have HGO:=VR (show w7.heap.size≤go by omega)
 clear hgo
 refine Gd.aO 7 (by kernel_rfl) (by kernel_rfl) ?_
 simp only [VH,VE,VI,VJ]
 intro wq hw1
 have LL:∀ m1:Lt wq,Ext wo m1.1:=fun m1=>hw1.tr m1.2
 have c1:=fun m1:Lt wq=>(T7.out.ext (EO.out.tr (LL m1))).c1
 have ml:=fun m1:Lt wq=>(T7.out.ext (EO.out.tr (LL m1))).lt
 repeat (refine Gd.aD (by first | exact trivial | exact ⟨_,rfl,rfl,rfl⟩) rfl rfl rfl rfl rfl (fun K hK=>?_);go_big_quiet_op;refine hK _ ?_;clear hK K)
 refine Gd.bZ (by first | exact trivial | exact ⟨_,rfl,rfl,rfl⟩) (.int .i64 m4) (args:=[.int .i64 bye,.int .i64 4]) rfl rfl rfl rfl (by kernel_rfl) rfl rfl (fun m1=>(HM4.out m1.1).mono fun _ _ ⟨h1,h2⟩=>⟨h1,h2 ▸ Below.refl _ _⟩) ?_
 simp only [Act.put,UY,UZ,V0]
 repeat (refine Gd.aD (by first | exact trivial | exact ⟨_,rfl,rfl,rfl⟩) rfl rfl rfl rfl rfl (fun K hK=>?_);go_big_quiet_op;refine hK _ ?_;clear hK K)
 refine Gd.QP (by first | exact trivial | exact ⟨_,rfl,rfl,rfl⟩) (.int .i64 nn) rfl rfl rfl rfl (fun m1=>(ON m1.1 _ _ 1 (m.num - m4)).trans (by rw [hnn])) ?_
 simp only [Act.put,UY,UZ,V0]
 repeat (refine Gd.aD (by first | exact trivial | exact ⟨_,rfl,rfl,rfl⟩) rfl rfl rfl rfl rfl (fun K hK=>?_);go_big_quiet_op;refine hK _ ?_;clear hK K)
 refine Gd.dT (fun m1=>?_)
 have E9:=VR (EO.out.tr (LL m1))
 have TO9:=VR (TO8.out.ext (LL m1))
 clear hw1 LL c1 ml EO TO8
 generalize m1.1=w9 at *
 clear m1 wm4 wo
 show wpList _ _ _ _ _ _
 have c1:=TO9.out.c1
 have cl:=TO9.out.lt
 have cf:=TO9.out.frozen 1
 obtain ⟨wx,hwx⟩:∃ wx,wx=w9.setCell ⟨go,1,none⟩ (.int .i64 nn):=⟨_,rfl⟩
 have EX:=VR (show Ext w7 wx by rw [hwx];exact aH E9.out HGO.out)
 have TX:=VR (show aX wx go ⟨m.st,nn,m.day,m.roots,m.sg,m.e,m.s⟩ (.slice Am nm cm) by rw [hwx];exact aX.put_num (m:=m) TO9.out nn)
 have hws:=hwx.symm
 clear hwx
 go_upto_region 14 with fail
 clear c1 cl cf E9 TO9 hws w9
 obtain ⟨mo,hmo⟩:∃ mo:MA,⟨m.st,nn,m.day,m.roots,m.sg,m.e,m.s⟩=mo:=⟨_,rfl⟩
 rw [hmo] at HOLD TX
 have HSMO:=VR (show smL mo.roots∧smN mo.sg∧mo.st.length≤maxLen∧mo.roots.length≤10 by rw [← hmo];exact HMS.out)
 have HRMO:=VR (show mo.roots=m.roots by rw [← hmo])
 clear hmo
 have HIS:=VR (IC (k:=kk) (m:=mo) HSMO.out.1 HSMO.out.2.1 HSMO.out.2.2.1)
 have HTW:=VR (GD HOLD.out.1)
 have HRL:=VR (show (d9 kk mo).roots.length≤10 from V9 HIS.out.2.2.2 HSMO.out.2.2.2)
 have HK0:=VR HOLD.out.1
 have HACO:=VR HOLD.out.2
 clear HOLD
 obtain ⟨iz,hiz⟩:∃ iz,d9 kk mo=iz:=⟨_,rfl⟩
 rw [hiz] at HIS HACO HRL HTW
 have HIZ:=VR hiz
 clear hiz
 have HMI:=VR (fun (mm:MA) (A:Option Addr) (n c:Nat) (hm:mm=mo ∨ mm=iz) W (e:World.grownBy wx W (some go)) (hv:cE W 0 56 11 (.slice A n c) (aA mm.roots))=>(by
  have hw:Ext w W:=Gb.below (Z7.out.ext.tr EX.out) e (V9 Z7.out.ext.size HGO.out)
  have hE:=(HE.out.ext hw).d
  rcases hm with rfl | rfl
  · have h:=vZ kk mm (.slice A n c) W hv.rd HSMO.out.1 HSMO.out.2.1 HSMO.out.2.2.1 (by have:=HSMO.out.2.2.2;omega) hE
    rw [HIZ.out,HK0.out] at h
    exact h
  · have h:=vZ kk mm (.slice A n c) W hv.rd HIS.out.1 HIS.out.2.1 HIS.out.2.2.1 (by have:=HRL.out;omega) hE
    rw [HTW.out.1,HTW.out.2] at h
    exact h:Calls Tryz.prog 62 #[.int .i64 kk,maV mm (.slice A n c)] W (R3 W iz 0)))
 have HI0:=VR (show I14 go mo iz wx from ⟨mo,Am,nm,cm,.inl rfl,TX.out,by rw [HRMO.out];exact L7.out.ext EX.out⟩)
 have wi1:IntKind.i64.wrap ((i:Int))=(i:Int):=IntWalk.i64_in _ (by omega)
 have zi1:(0:Int)≤(i:Int):=by omega
 have li1:(i:Int)<2:=by omega
 have ti1:((i:Int)).toNat=i:=by omega
 have hgz:P≠go:=fun q=>by have:=a9 Z7.out.wo;have:=HGO.out;omega
 have hgA:gA≠go:=fun q=>by have:=HGO.out;omega
 have HB0:=VR (Z7.out.tr EX.out)
 have hpx:=a9 HB0.out.wo
 have hax:=VG hglr7 EX.out.size
 have HKC:=VR (show wx.cell? ⟨gA,oA+i*33+27,none⟩=some (.int .i64 kk) from cW HRi7.out hglr7 EX.out 27 _ HLK.out)
 refine Gt.aO (r:=r14 go mo iz) 13 (by kernel_rfl) (by kernel_rfl) ?_
 simp only [VH,VE,VI,VJ]
 intro wq hw1
 have LR:∀ m1:(r14 go mo iz).Lt wq,(r14 go mo iz).rel wx m1.1:=fun m1=>(r14 go mo iz).tr hw1 m1.2
 have cellK:Hid (∀ (m1:(r14 go mo iz).Lt wq) (b j:Nat),b≠go→b<wx.heap.size→m1.1.cell? ⟨b,j,none⟩=wx.cell? ⟨b,j,none⟩):=VR (fun m1 b j hb hl=>by
  unfold World.cell?
  simp only
  rw [(LR m1).1.block b hl (fun q=>hb (by injection q))])
 have p0:=fun m1:(r14 go mo iz).Lt wq=>(cellK.out m1 P 0 hgz hpx).trans HB0.out.c0
 have pl:=fun m1:(r14 go mo iz).Lt wq=>VG hpx (LR m1).1.size
 have kc:=fun m1:(r14 go mo iz).Lt wq=>(cellK.out m1 gA (oA+i*33+27) hgA hax).trans HKC.out
 have kl:=fun m1:(r14 go mo iz).Lt wq=>VG hax (LR m1).1.size
 repeat (refine Gt.aD (by first | exact trivial | exact ⟨_,rfl,rfl,rfl⟩) rfl rfl rfl rfl rfl (fun K hK=>?_);go_big_quiet_op;refine hK _ ?_;clear hK K)
 refine Gt.bZ (by first | exact trivial | exact ⟨_,rfl,rfl,rfl⟩) (.int .i64 (i:Int)) (args:=[.int .i64 who,.int .i64 2]) rfl rfl rfl rfl (by kernel_rfl) rfl rfl (fun m1=>(HM2.out m1.1).mono fun _ _ ⟨h1,h2⟩=>⟨h1,h2 ▸ Below.refl _ _⟩) ?_
 simp only [Act.put,UY,UZ,V0]
 repeat (refine Gt.aD (by first | exact trivial | exact ⟨_,rfl,rfl,rfl⟩) rfl rfl rfl rfl rfl (fun K hK=>?_);go_big_quiet_op;refine hK _ ?_;clear hK K)
 refine Gt.dV (by first | exact trivial | exact ⟨_,rfl,rfl,rfl⟩) (G75 mo iz) (GC _ _ _) (fun _=>Instr.loadAt 80 (.pointer (some ⟨go,0,none⟩))) rfl rfl rfl rfl (fun _=>rfl) (fun m1 f hf=>?_) ?_
 · obtain ⟨mm,A5,n5,c5,h1,h2,h3⟩:=(LR m1).2.1 HI0.out
   exact ⟨_,_,by simp only [Instr.loadAt,Instr.sureAddr,Sem.run_bind,Sem.run_pure,Result.andThen_ok,run_loadVar_row m1.1 go 80 80 (aB mm (.slice A5 n5 c5)).toArray (0,0) _ h2.row Tryz.underlying80 rfl aN];rfl,Below.refl _ _,mm,A5,n5,c5,rfl,h1,h3⟩
 simp only [Act.put,UY,UZ,V0]
 repeat (refine Gt.aD (by first | exact trivial | exact ⟨_,rfl,rfl,rfl⟩) rfl rfl rfl rfl rfl (fun K hK=>?_);go_big_quiet_op;refine hK _ ?_;clear hK K)
 refine Gt.aU (by first | exact trivial | exact ⟨_,rfl,rfl,rfl⟩) (GIt 0 iz 0) (qN _ _ _ _ _ _) (fun f=>[.int .i64 kk,f 75]) rfl rfl rfl rfl rfl (by kernel_rfl) rfl (fun _=>rfl) (fun m1 f hf=>?_) ?_
 · obtain ⟨mm,A5,n5,c5,h1,h2,h3⟩:=hf 75 _ rfl rfl
   rw [h1]
   exact (HMI.out mm A5 n5 c5 h2 m1.1 (LR m1).1 h3).mono fun e w' ⟨A6,n6,c6,q1,q2,q3⟩=>⟨_,q1,q3,A6,n6,c6,rfl,q2.safe 0⟩
 simp only [Act.put,UY,UZ,V0]
 refine Gt.wpX_movU (by first | exact trivial | exact ⟨_,rfl,rfl,rfl⟩) (GIt 0 iz 0) (qN _ _ _ _ _ _) (fun f=>f 76) rfl rfl rfl rfl rfl (fun _=>rfl) (fun m1 f hf=>hf 76 _ rfl rfl) ?_
 simp only [Act.put,UY,UZ,V0]
 refine Gt.j0 (by first | exact trivial | exact ⟨_,rfl,rfl,rfl⟩) (GIw iz) (AM _ _ _ _) (fun f=>f 67) rfl rfl rfl rfl rfl (fun _=>rfl) (fun m1 f hf=>by obtain ⟨A5,n5,c5,h5,o5⟩:=hf 67 _ rfl rfl;rw [h5];exact ⟨_,_,(yP _ _ _).1,Below.refl _ _,A5,n5,c5,rfl,o5⟩) ?_
 simp only [Act.put,UY,UZ,V0]
 refine Gt.j0 (by first | exact trivial | exact ⟨_,rfl,rfl,rfl⟩) (fun v _=>v=.int .i64 0) (Gt.Rl.stable_eq _ _) (fun f=>f 67) rfl rfl rfl rfl rfl (fun _=>rfl) (fun m1 f hf=>by obtain ⟨A5,n5,c5,h5,o5⟩:=hf 67 _ rfl rfl;rw [h5];exact ⟨_,_,(yP _ _ _).2,Below.refl _ _,rfl⟩) ?_
 simp only [Act.put,UY,UZ,V0]
 refine Gt.fS (by first | exact trivial | exact ⟨_,rfl,rfl,rfl⟩) (G12 go iz) (fun _=>.pointer (some ⟨go,0,none⟩)) (fun f=>f 77) rfl rfl rfl rfl rfl (fun _=>rfl) (fun _=>rfl) (fun v w w' e ⟨h1,A,n,c,h2,h3⟩=>⟨h1,A,n,c,h2.ext e,h3.ext e⟩) (fun T hT v w w' e _=>absurd e.1 hT) (fun m1 f hf=>?_) ?_
 · obtain ⟨mm,A5,n5,c5,h1,h2,h3⟩:=(LR m1).2.1 HI0.out
   obtain ⟨A6,n6,c6,e77,s77⟩:=hf 77 _ rfl rfl
   rw [e77]
   have kn:KN m1.1 (m1.1.setRow go (aB iz (.slice A6 n6 c6)).toArray):=Kp.setRowM h2
   have hI:aX (m1.1.setRow go (aB iz (.slice A6 n6 c6)).toArray) go iz (.slice A6 n6 c6):=aZ h2.row
   exact ⟨_,fR (cells:=(aB iz (.slice A6 n6 c6)).toArray) h2.row aN rfl (dZ iz (.slice A6 n6 c6) rfl),⟨rfl,Gb.setRow _ _ _,fun _=>⟨iz,A6,n6,c6,.inr rfl,hI,s77.kpN kn⟩,kn⟩,rfl,A6,n6,c6,hI,s77.kpN kn⟩
 refine Gt.wpX_endG rfl (fun m1 f hf hqs=>?_)
 have hq2:G12 go iz _ m1.1:=hqs _ VM
 obtain ⟨-,Ai,ni,ci,hty,sy⟩:=hq2
 simp only [aV]
 simp only [Act.put,UY,UZ,V0]
 have ey:Ext w7 m1.1:=Gb.below EX.out (LR m1).1 HGO.out
 clear hw1 LR cellK p0 pl kc kl hf hqs HMI HI0 HKC HB0 hpx hax hgA hgz TX EX
 generalize m1.1=wy at *
 generalize f 75=f75 at *
 generalize f 76=f76 at *
 generalize f 67=f67 at *
 generalize f 77=f77 at *
 generalize f 78=f78 at *
 clear m1 f wx
 show wpList _ _ _ _ _ _
 go_upto_region 15 with fail
 have HTY:=VR hty
 have EY:=VR (show Ext w7 wy from ey)
 have SY:=VR sy
 clear ey hty sy
 have SAY:=VR (SA7.out.ext EY.out)
 have HSAY:=VR ((EY.out.block _ (a9 HSA7.out)).trans HSA7.out)
 have HS:=HSAY
 have HR:=HTY
 have p6:=(Z7.out.tr EY.out).c6
 have pl:=a9 (Z7.out.tr EY.out).wo
 have HAC:=VR (j6 t0 t1 t2 t3 t4 S' iz (.slice Ai ni ci) day wy SAY.out HWS.out.b SY.out.rd HIS.out.2.2.1 HIS.out.1 HIS.out.2.1 (by have:=HRL.out;omega) (HE.out.ext (Z7.out.ext.tr EY.out)).d)
 rw [HACO.out] at HAC
 go_wp2_with (first | (refine wpList_load_row rfl 75 _ rfl gs rfl 75 (bD t0 t1 t2 t3 t4) (0,0) _ HS.out Tryz.underlying75 rfl aY ?_) | (refine wpList_load_row rfl 80 _ rfl go rfl 80 (aB iz (.slice Ai ni ci)).toArray (0,0) _ HR.out Tryz.underlying80 rfl aN ?_))
 refine HAC.out.mono ?_
 rintro e w11 ⟨u0,u1,u2,u3,u4,rfl,SR,b11⟩
 obtain ⟨wf,hwf⟩:∃ wf,wf=w11.alloc (.cells #[.slice u0.1 u0.2.1 u0.2.2,.slice u1.1 u1.2.1 u1.2.2,.slice u2.1 u2.2.1 u2.2.2,.slice u3.1 u3.2.1 u3.2.2,.slice u4.1 u4.2.1 u4.2.2] 75):=⟨_,rfl⟩
 have ef:Ext w11 wf:=by rw [hwf];exact (Below.refl _ _).alloc (UX _) _
 have hf:wf.heap[w11.heap.size]?=some (.cells (bD u0 u1 u2 u3 u4) 75 (0,0)):=by rw [hwf];exact aC w11 _
 have BB:=b11.tr ef
 have EF:=VR (EY.out.tr BB)
 have SAF:=VR (SAY.out.ext BB)
 have HSAF:=VR ((BB.block _ (a9 HSAY.out)).trans HSAY.out)
 have SUF:=VR (SR.ext ef)
 have HSU:=VR hf
 clear BB ef SR b11 hf HAC HS HR pl p6 SAY HSAY EY HTY SY HACO HIS HRL
 unfold cH
 go_upto_region 16 with fail
 rw [← hwf]
 clear hwf
 generalize w11.heap.size=gu at *
 clear w11 wy
 have HZF:=VR (Z7.out.tr EF.out)
 have HTF:=VR (T7.out.ext EF.out)
 clear Z7 T7 L7 HRi7 hglr7 SA7 HSA7 EF HGO hne hsz7
 clear w7
 obtain ⟨A3,n3,c3,e3,hn3,hnc3,hcm3,hel3⟩:=SAF.out.r2.at_
 obtain ⟨tA3,tn3,tc3⟩:=t2
 unfold slV at e3
 injection e3 with e31 e32 e33
 simp only at e31 e32 e33
 subst e31 e32 e33 hn3
 unfold maxLen at hcm3
 have HEL:=VR hel3
 have HQ:=fun (s:List UInt8)=>fX s m.st
 clear hel3
 go_upto_region 18 with fail
 go_loopw [15,16] (fun s15 s16 wr=>∃ k:Nat,k≤S'.ms.length∧s15=.int .i64 (sW m.st (S'.ms.take k))∧s16=.int .i64 (k:Int)∧Hid (Ext wf wr)) (fun _ s16 _=>S'.ms.length - (intOf s16).toNat)
 case atStart=>exact ⟨0,V7 _,rfl,rfl,VR (Below.refl _ _)⟩
 case round =>
  obtain ⟨k,hk,rfl,rfl,X⟩:=hrel
  have k2:wr.cell? ⟨gs,2,none⟩=some (.slice tA3 S'.ms.length tc3):=by rw [cell_of_row _ _ 2 _ _ _ ((X.out.block _ (a9 HSAF.out)).trans HSAF.out)];rfl
  have kl:=VG (a9 HSAF.out) X.out.size
  by_cases hlt:k<S'.ms.length
  case pos =>
   obtain ⟨t,hq⟩:∃ t,S'.ms[k]?=some t:=⟨_,V8 hlt⟩
   obtain ⟨b,o,rfl,hbl,u,hcell,hu⟩:=HEL.out k t hq
   have q0:=(X.out.cell (p:=⟨b,o+(k*17+0),none⟩) hbl).trans (hcell 0 _ rfl)
   rw [show o+(k*17+0)=o+k*17 by omega] at q0
   have HQ1:=VR (show wf.cell? ⟨b,o+k*17+1,none⟩=some (.int .i64 t.num) from by
    have:=hcell 1 _ rfl
    rwa [← V4] at this)
   have c0:=(HTF.out.ext X.out).c0
   have cl:=(HTF.out.ext X.out).lt
   have ql:b<wr.heap.size:=VG hbl X.out.size
   have HSTP:=VR (GA (st:=m.st) hq)
   have HBL:=VR hbl
   clear hcell hu hq hbl
   have wi2:IntKind.i64.wrap ((k:Int))=(k:Int):=IntWalk.i64_in _ (by omega)
   have zi2:(0:Int)≤(k:Int):=by omega
   have li2:(k:Int)<(S'.ms.length:Int):=by omega
   have ti2:((k:Int)).toNat=k:=by omega
   have wk:IntKind.i64.wrap ((k:Int)+1)=(k:Int)+1:=IntWalk.i64_in _ (by omega)
   by_cases hst:t.st=m.st
   · have HD:=HQ t.st
     rw [decide_eq_true hst] at HD
     have HF:=VR (show sW m.st (S'.ms.take (k+1))=t.num by rw [HSTP.out,if_pos hst])
     clear hst HQ
     go_upto_region 21 with (go_quiet (fail))
     have XQ:=VR (X.out.tr (Ext.drewN_ wr nq))
     clear q0 k2 kl c0 cl ql HD X
     generalize wr.drewN nq=wx at *
     have k2:wx.cell? ⟨gs,2,none⟩=some (.slice (some ⟨b,o,none⟩) S'.ms.length tc3):=by rw [cell_of_row _ _ 2 _ _ _ ((XQ.out.block _ (a9 HSAF.out)).trans HSAF.out)];rfl
     have kl:=VG (a9 HSAF.out) XQ.out.size
     have q1:=(XQ.out.cell (p:=⟨b,o+k*17+1,none⟩) HBL.out).trans HQ1.out
     have ql:b<wx.heap.size:=VG HBL.out XQ.out.size
     go_wp2_with fail
     go_roundw
     case rel=>exact ⟨k+1,by omega,by rw [HF.out],by go_num,XQ⟩
     case measure=>simp [intOf];omega
   · have HD:=HQ t.st
     rw [decide_eq_false hst] at HD
     have HF:=VR (show sW m.st (S'.ms.take (k+1))=sW m.st (S'.ms.take k) by rw [HSTP.out,if_neg hst])
     clear hst HQ
     go_wp2_with (go_quiet (fail))
     have XQ:=VR (X.out.tr (Ext.drewN_ wr nq))
     clear q0 k2 kl c0 cl ql HD X
     generalize wr.drewN nq=wx at *
     go_wp2_with fail
     go_roundw
     case rel=>exact ⟨k+1,by omega,by rw [HF.out],by go_num,XQ⟩
     case measure=>simp [intOf];omega
  case neg =>
  obtain rfl:k=S'.ms.length:=by omega
  rw [List.take_length,HLST.out]
  have ht0:t0.2.1=S'.roots.length:=by obtain ⟨_,_,_,q,q2,-⟩:=RdN.at_ SAF.out.r0;injection q with _ q _;rw [q,q2]
  have hge:(t0.2.1:Int)≤((iN S').length:Int):=by have:=HROT.out;omega
  have HSS:=VR (fun W (e:Ext wf W)=>oO t0 t1 (tA3,S'.ms.length,tc3) t3 t4 u0 u1 u2 u3 u4 S' W (SAF.out.ext e) (SUF.out.ext e) HWS.out.ds)
  have HRO:=VR (fun W (e:Ext wf W)=>yL t0 t1 (tA3,S'.ms.length,tc3) t3 t4 S' W (SAF.out.ext e).r0 (SAF.out.ext e).r2 HWS.out.b)
  clear HEL HQ ht0 HLST HROT
  go_upto_region 22 with fail
  clear k2 kl hlt
  refine Gd.aO 25 (by kernel_rfl) (by kernel_rfl) ?_
  simp only [VH,VE,VI,VJ]
  intro wq hw1
  have LL:∀ m1:Lt wq,Ext wr m1.1:=fun m1=>hw1.tr m1.2
  have LX:=fun m1:Lt wq=>X.out.tr (LL m1)
  have KA:=fun m1:Lt wq=>wH (((LX m1).block _ (a9 HSAF.out)).trans HSAF.out)
  have KU:=fun m1:Lt wq=>wH (((LX m1).block _ (a9 HSU.out)).trans HSU.out)
  have c1:=fun m1:Lt wq=>(HTF.out.ext (LX m1)).c1
  have cl:=fun m1:Lt wq=>(HTF.out.ext (LX m1)).lt
  have a0:∀ m1:Lt wq,m1.1.cell? ⟨gs,0,none⟩=some (.slice t0.1 t0.2.1 t0.2.2):=fun m1=>by rw [cell_of_row _ _ 0 _ _ _ (((LX m1).block _ (a9 HSAF.out)).trans HSAF.out)];rfl
  have al:=fun m1:Lt wq=>VG (a9 HSAF.out) (LX m1).size
  repeat (refine Gd.aD (by first | exact trivial | exact ⟨_,rfl,rfl,rfl⟩) rfl rfl rfl rfl rfl (fun K hK=>?_);go_big_quiet_op;refine hK _ ?_;clear hK K)
  refine Gd.bZ (by first | exact trivial | exact ⟨_,rfl,rfl,rfl⟩) (.bool true) (args:=[]) rfl rfl rfl rfl (by kernel_rfl) rfl rfl (fun m1=>(HA.out m1.1 (HZF.out.ext.tr (LX m1))).mono fun _ _ ⟨h1,h2⟩=>⟨h1,h2⟩) ?_
  simp only [Act.put,UY,UZ,V0]
  try simp only [beq_self_eq_true]
  repeat (refine Gd.aD (by first | exact trivial | exact ⟨_,rfl,rfl,rfl⟩) rfl rfl rfl rfl rfl (fun K hK=>?_);go_big_quiet_op;refine hK _ ?_;clear hK K)
  try simp only [beq_self_eq_true]
  refine Gd.wpX_midK (by first | exact trivial | exact ⟨_,rfl,rfl,rfl⟩) (gs) (0) ([slV t0,slV t1,slV (tA3,S'.ms.length,tc3),slV t3,slV t4]) rfl rfl rfl rfl rfl KA Tryz.underlying75 rfl aY ?_
  simp only [Act.put,UY,UZ,V0]
  repeat (refine Gd.aD (by first | exact trivial | exact ⟨_,rfl,rfl,rfl⟩) rfl rfl rfl rfl rfl (fun K hK=>?_);go_big_quiet_op;refine hK _ ?_;clear hK K)
  refine Gd.wpX_midK (by first | exact trivial | exact ⟨_,rfl,rfl,rfl⟩) (gu) (0) ([slV u0,slV u1,slV u2,slV u3,slV u4]) rfl rfl rfl rfl rfl KU Tryz.underlying75 rfl aY ?_
  simp only [Act.put,UY,UZ,V0]
  repeat (refine Gd.aD (by first | exact trivial | exact ⟨_,rfl,rfl,rfl⟩) rfl rfl rfl rfl rfl (fun K hK=>?_);go_big_quiet_op;refine hK _ ?_;clear hK K)
  refine Gd.bZ (by first | exact trivial | exact ⟨_,rfl,rfl,rfl⟩) (.bool true) (args:=[cH t0 t1 (tA3,S'.ms.length,tc3) t3 t4,cH u0 u1 u2 u3 u4]) rfl rfl rfl rfl (by kernel_rfl) rfl rfl (fun m1=>(HSS.out m1.1 (LX m1)).mono fun _ _ ⟨h1,h2⟩=>⟨h1,h2⟩) ?_
  simp only [Act.put,UY,UZ,V0]
  try simp only [beq_self_eq_true]
  repeat (refine Gd.aD (by first | exact trivial | exact ⟨_,rfl,rfl,rfl⟩) rfl rfl rfl rfl rfl (fun K hK=>?_);go_big_quiet_op;refine hK _ ?_;clear hK K)
  try simp only [beq_self_eq_true]
  refine Gd.wpX_midK (by first | exact trivial | exact ⟨_,rfl,rfl,rfl⟩) (gs) (0) ([slV t0,slV t1,slV (tA3,S'.ms.length,tc3),slV t3,slV t4]) rfl rfl rfl rfl rfl KA Tryz.underlying75 rfl aY ?_
  simp only [Act.put,UY,UZ,V0]
  repeat (refine Gd.aD (by first | exact trivial | exact ⟨_,rfl,rfl,rfl⟩) rfl rfl rfl rfl rfl (fun K hK=>?_);go_big_quiet_op;refine hK _ ?_;clear hK K)
  refine Gd.aU (by first | exact trivial | exact ⟨_,rfl,rfl,rfl⟩) (GSl (iN S')) (FG _) (fun _=>[cH t0 t1 (tA3,S'.ms.length,tc3) t3 t4]) rfl rfl rfl rfl rfl (by kernel_rfl) rfl (fun _=>rfl) (fun m1 f hf=>(HRO.out m1.1 (LX m1)).mono fun e w'' q=>PY.gsl q) ?_
  simp only [Act.put,UY,UZ,V0]
  refine Gd.OO (by first | exact trivial | exact ⟨_,rfl,rfl,rfl⟩) (.int .i64 ((iN S').length:Int)) (fun f=>f 127) rfl rfl rfl rfl rfl (fun _=>rfl) (fun m1 f hf=>by obtain ⟨A5,n5,c5,h1,h2,h3⟩:=hf 127 _ rfl rfl;rw [h1,h2];exact ND _ _ _ _ _) ?_
  simp only [Act.put,UY,UZ,V0]
  repeat (refine Gd.aD (by first | exact trivial | exact ⟨_,rfl,rfl,rfl⟩) rfl rfl rfl rfl rfl (fun K hK=>?_);go_big_quiet_op;refine hK _ ?_;clear hK K)
  try simp only [beq_self_eq_true]
  repeat (refine Gd.aD (by first | exact trivial | exact ⟨_,rfl,rfl,rfl⟩) rfl rfl rfl rfl rfl (fun K hK=>?_);go_big_quiet_op;refine hK _ ?_;clear hK K)
  refine Gd.cO (fun m1 f hf=>?_)
  simp only [aV]
  simp only [Act.put,UY,UZ,V0]
  have LM:=VR (HZF.out.ext.tr (LX m1))
  clear hw1 LL LX KA KU c1 cl a0 al hf
  generalize m1.1=wm at *
  generalize f 127=f127 at *
  clear f
  show wpList _ _ _ _ _ _
  go_wp2_with fail
  go_ret
  exact ⟨by simp,LM.out⟩
end Go.Proofs.YtkjplpmogfmhkaaGreatDoor
