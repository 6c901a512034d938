/- Parts Pkd of the proof. -/
import Derived.Test.YtkjplpmogfmhkaaGreatDoorLaf
import Derived.Test.YtkjplpmogfmhkaaGreatDoorLaa
import Derived.Test.YtkjplpmogfmhkaaGreatDoorLah
import Derived.Maps.AppendAt
namespace Go.Proofs.YtkjplpmogfmhkaaGreatDoor
open Go.RowKit
set_option linter.unusedVariables false
set_option maxRecDepth 100000
theorem mK (a b:Nat) (ha:a<9223372036854775808) (hb:b<9223372036854775808):bits .and .i64 (a:Int) (b:Int)=((a &&& b:Nat):Int):=by
 have hx:a &&& b<2 ^ 63:=Nat.and_lt_two_pow a (by omega)
 have e:∀ c:Nat,c<9223372036854775808→(BitVec.ofInt 64 (c:Int)).toNat=c:=fun c hc=>by
  rw [BitVec.ofInt_natCast,BitVec.toNat_ofNat];exact Nat.mod_eq_of_lt (by omega)
 show IntKind.i64.wrap ((BitVec.ofInt 64 (a:Int) &&& BitVec.ofInt 64 (b:Int)).toNat:Int)=_
 rw [BitVec.toNat_and,e a ha,e b hb,IntKind.wrap_i64]
 omega
theorem RE {x:Int} (h0:0≤x) (h1:x<65536):bits .and .i64 x 31=x % 32:=by
 obtain ⟨n,rfl⟩:=Int.eq_ofNat_of_zero_le h0
 have h:=mK n 31 (by omega) (by omega)
 rw [show (n &&& 31:Nat)=n % 32 from Nat.and_two_pow_sub_one_eq_mod n 5] at h
 exact h
theorem P3 {x:Int} (h0:0≤x) (h1:x<65536):bits .and .i64 x 255=x % 256:=by
 obtain ⟨n,rfl⟩:=Int.eq_ofNat_of_zero_le h0
 have h:=mK n 255 (by omega) (by omega)
 rw [show (n &&& 255:Nat)=n % 256 from Nat.and_two_pow_sub_one_eq_mod n 8] at h
 exact h
theorem LH {x:Int} (h0:0≤x) (h1:x<65536):(bits .and .i64 x 32 != 0)=(x / 32 % 2 == 1):=by
 obtain ⟨n,rfl⟩:=Int.eq_ofNat_of_zero_le h0
 have h:=mK n 32 (by omega) (by omega)
 have e:(n &&& 32:Nat)=n / 32 % 2*32:=by
  have e1:n &&& 32=(n % 64) &&& 32:=by rw [← Nat.and_two_pow_sub_one_eq_mod n 6,Nat.and_assoc];rfl
  have key:∀ r,r<64→r &&& 32=r / 32 % 2*32:=by decide
  rw [e1,key _ (Nat.mod_lt _ (by omega))]
  omega
 rw [e] at h
 rw [show bits .and .i64 (n:Int) 32=((n / 32 % 2*32:Nat):Int) from h]
 rcases Nat.mod_two_eq_zero_or_one (n / 32) with q | q
 · rw [q]
   have:(n:Int) / 32 % 2=0:=by omega
   rw [this];rfl
 · rw [q]
   have:(n:Int) / 32 % 2=1:=by omega
   rw [this];rfl
def pL (x:Int):Bool:=x % 32 == 31
def fV (x:Int):Bool:=if x<256 then decide (0<x) && !pL x else pL (x / 256) && (decide (1≤x % 256) && decide (x % 256≤127))
def dU (x:Int):Bool:=fV x && ((if 255<x then x / 256 else x) / 32 % 2 == 1)
theorem BC (x:Int) (w:World) (x0:0≤x) (x1:x<65536):Calls Tryz.prog 274 #[.int .i64 x] w fun e w'=>e=.returned (.bool (pL x))∧w=w':=by
 have h:=RE x0 x1
 go_enter Tryz.func274,Tryz.ntmps274
 go_wp2
 go_ret
 exact ⟨rfl,rfl⟩
set_option maxHeartbeats 1000000 in
theorem nI (x:Int) (w:World) (x0:0≤x) (x1:x<65536):Calls Tryz.prog 254 #[.int .i64 x] w fun e w'=>e=.returned (.bool (fV x))∧w=w':=by
 by_cases h:x<256
 · by_cases h0:0<x
   · go_enter Tryz.func254,Tryz.ntmps254
     go_wp2_with fail
     refine (BC _ _ x0 x1).mono ?_
     rintro e w' ⟨rfl,rfl⟩
     go_wp2_with fail
     go_ret
     exact ⟨by simp [fV,h,h0],rfl⟩
   · have hV:fV x=false:=by simp [fV,h,h0]
     rw [hV]
     clear hV
     go_enter Tryz.func254,Tryz.ntmps254
     go_wp2
     go_ret
     exact ⟨rfl,rfl⟩
 · have h8:=P3 x0 x1
   have d0:0≤x / 256:=by omega
   have d1:x / 256<256:=by omega
   have hL:=fun w=>BC (x / 256) w d0 (by omega)
   have hV:fV x=(pL (x / 256) && (decide (1≤x % 256) && decide (x % 256≤127))):=if_neg h
   rw [hV]
   cases hl:pL (x / 256) with
   | false =>
     go_enter Tryz.func254,Tryz.ntmps254
     go_wp2_with fail
     refine (hL _).mono ?_
     rintro e w' ⟨rfl,rfl⟩
     rw [hl]
     go_wp2_with fail
     go_ret
     exact ⟨rfl,rfl⟩
   | true =>
     by_cases h1:1≤x % 256
     · go_enter Tryz.func254,Tryz.ntmps254
       go_wp2_with fail
       refine (hL _).mono ?_
       rintro e w' ⟨rfl,rfl⟩
       rw [hl]
       go_wp2_with fail
       go_ret
       exact ⟨by simp [h1],rfl⟩
     · have HF:=VR (show (decide (1≤x % 256) && decide (x % 256≤127))=false by simp [h1])
       go_enter Tryz.func254,Tryz.ntmps254
       go_wp2_with fail
       refine (hL _).mono ?_
       rintro e w' ⟨rfl,rfl⟩
       rw [hl]
       go_wp2_with fail
       go_ret
       exact ⟨by rw [HF.out];rfl,rfl⟩
theorem BE (x:Int) (w:World) (x0:0≤x) (x1:x<65536):Calls Tryz.prog 253 #[.int .i64 x] w fun e w'=>e=.returned (.bool (dU x))∧w=w':=by
 cases hv:fV x with
 | false =>
   go_enter Tryz.func253,Tryz.ntmps253
   go_wp2_with fail
   refine (nI _ _ x0 x1).mono ?_
   rintro e w' ⟨rfl,rfl⟩
   rw [hv]
   go_wp2_with fail
   go_ret
   exact ⟨by simp [dU,hv],rfl⟩
 | true =>
   by_cases h:255<x
   · have HC:=VR (show dU x=(x / 256 / 32 % 2 == 1) by simp [dU,hv,h])
     have h3:=LH (x:=x / 256) (by omega) (by omega)
     go_enter Tryz.func253,Tryz.ntmps253
     go_wp2_with fail
     refine (nI _ _ x0 x1).mono ?_
     rintro e w' ⟨rfl,rfl⟩
     rw [hv]
     go_wp2_with fail
     go_ret
     exact ⟨by rw [HC.out];rfl,rfl⟩
   · have HC:=VR (show dU x=(x / 32 % 2 == 1) by simp [dU,hv,h])
     have h3:=LH x0 x1
     go_enter Tryz.func253,Tryz.ntmps253
     go_wp2_with fail
     refine (nI _ _ x0 x1).mono ?_
     rintro e w' ⟨rfl,rfl⟩
     rw [hv]
     go_wp2_with fail
     go_ret
     exact ⟨by rw [HC.out];rfl,rfl⟩
set_option maxHeartbeats 1000000 in
theorem jG (x:Int) (w:World) (x0:0≤x) (x1:x<65536):Calls Tryz.prog 257 #[.int .i64 x] w fun e w'=>e=.returned (.bool (fV x))∧w=w':=by
 by_cases h:x<256
 · by_cases h0:1≤x
   · have hd:decide (0<x)=true:=decide_eq_true (by omega)
     have HV:=VR (show fV x=(x % 32 != 31) from (if_pos h).trans (by rw [hd];rfl))
     clear hd
     go_enter Tryz.func257,Tryz.ntmps257
     go_wp2
     go_ret
     exact ⟨by rw [HV.out];rfl,rfl⟩
   · obtain rfl:x=0:=by omega
     go_enter Tryz.func257,Tryz.ntmps257
     go_wp2
     go_ret
     exact ⟨rfl,rfl⟩
 · have hV:fV x=(pL (x / 256) && (decide (1≤x % 256) && decide (x % 256≤127))):=if_neg h
   rw [hV]
   cases hl:(x / 256 % 32 == 31) with
   | false =>
     go_enter Tryz.func257,Tryz.ntmps257
     go_wp2
     go_ret
     exact ⟨by simp [pL,hl],rfl⟩
   | true =>
     by_cases h1:1≤x % 256
     · go_enter Tryz.func257,Tryz.ntmps257
       go_wp2
       go_ret
       exact ⟨by simp [pL,hl],rfl⟩
     · have HF:=VR (show (pL (x / 256) && (decide (1≤x % 256) && decide (x % 256≤127)))=false by simp [h1])
       go_enter Tryz.func257,Tryz.ntmps257
       go_wp2
       go_ret
       exact ⟨by rw [HF.out];rfl,rfl⟩
theorem rU (x:Int) (w:World) (x0:0≤x) (x1:x<65536):Calls Tryz.prog 258 #[.int .i64 x] w fun e w'=>e=.returned (.bool (dU x))∧w=w':=by
 cases hv:fV x with
 | false =>
   go_enter Tryz.func258,Tryz.ntmps258
   go_wp2_with fail
   refine (jG _ _ x0 x1).mono ?_
   rintro e w' ⟨rfl,rfl⟩
   rw [hv]
   go_wp2_with fail
   go_ret
   exact ⟨by simp [dU,hv],rfl⟩
 | true =>
   by_cases h:255<x
   · have HC:=VR (show dU x=(x / 256 / 32 % 2 == 1) by simp [dU,hv,h])
     go_enter Tryz.func258,Tryz.ntmps258
     go_wp2_with fail
     refine (jG _ _ x0 x1).mono ?_
     rintro e w' ⟨rfl,rfl⟩
     rw [hv]
     go_wp2_with fail
     go_ret
     exact ⟨by rw [HC.out];rfl,rfl⟩
   · have HC:=VR (show dU x=(x / 32 % 2 == 1) by simp [dU,hv,h])
     go_enter Tryz.func258,Tryz.ntmps258
     go_wp2_with fail
     refine (jG _ _ x0 x1).mono ?_
     rintro e w' ⟨rfl,rfl⟩
     rw [hv]
     go_wp2_with fail
     go_ret
     exact ⟨by rw [HC.out];rfl,rfl⟩
inductive Nd where
 | mk (tag:Int) (val:List UInt8) (kids:List Nd)
def Nd.tag:Nd→Int
 | .mk t _ _=>t
def Nd.val:Nd→List UInt8
 | .mk _ v _=>v
def Nd.kids:Nd→List Nd
 | .mk _ _ k=>k
def fP:Nat→World→Value→List Nd→Prop
 | 0,w,v,ts=>ts=[]∧∃ A c,v=.slice A 0 c∧c≤maxLen
 | d+1,w,v,ts=>∃ A n c,v=.slice A n c∧n=ts.length∧n≤c∧c≤maxLen ∧
    (0<n→∃ b o,A=some ⟨b,o,none⟩∧∀ i t,ts[i]?=some t→∃ A1 n1 c1 A2 n2 c2,
      w.cell? ⟨b,o+i*3,none⟩=some (.int .i64 t.tag)∧w.cell? ⟨b,o+i*3+1,none⟩=some (.slice A1 n1 c1)∧w.cell? ⟨b,o+i*3+2,none⟩=some (.slice A2 n2 c2) ∧
      Rd w (.slice A1 n1 c1) (bvs t.val)∧fP d w (.slice A2 n2 c2) t.kids)
theorem fP.keep {w w':World} (hk:∀ p:Addr,p.block<w.heap.size→w'.cell? p=w.cell? p):∀ {d:Nat}{v:Value}{ts:List Nd},fP d w v ts→fP d w' v ts
 | 0,_,_,h=>h
 | d+1,v,ts,⟨A,n,c,h1,h2,h3,h4,h5⟩=>by
   refine ⟨A,n,c,h1,h2,h3,h4,fun h0=>?_⟩
   obtain ⟨b,o,hA,h6⟩:=h5 h0
   refine ⟨b,o,hA,fun i t ht=>?_⟩
   obtain ⟨A1,n1,c1,A2,n2,c2,e0,e1,e2,r1,r2⟩:=h6 i t ht
   exact ⟨A1,n1,c1,A2,n2,c2,(hk _ (World.block_lt_of_cell? w _ e0)).trans e0,(hk _ (World.block_lt_of_cell? w _ e1)).trans e1,(hk _ (World.block_lt_of_cell? w _ e2)).trans e2,r1.keep hk,fP.keep hk r2⟩
theorem fP.ext {w w':World}{d:Nat}{v:Value}{ts:List Nd} (h:fP d w v ts) (b:Ext w w'):fP d w' v ts:=fP.keep (fun _ hp=>b.cell hp) h
theorem fP.below {w0 w:World}{d:Nat}{v:Value}{ts:List Nd} (h:fP d w0 v ts) (b:Below w0.heap.size w0 w):fP d w v ts:=fP.keep (fun _ hp=>b.cell hp) h
theorem fP.open_ {w:World}{d:Nat}{v:Value}{ts:List Nd} (h:fP d w v ts):∃ A n c,v=.slice A n c∧n=ts.length∧n≤c∧c≤maxLen ∧
 ∀ i t,ts[i]?=some t→∃ d',d=d'+1∧∃ b o,A=some ⟨b,o,none⟩∧b<w.heap.size∧∃ A1 n1 c1 A2 n2 c2,
  w.cell? ⟨b,o+i*3,none⟩=some (.int .i64 t.tag)∧w.cell? ⟨b,o+i*3+1,none⟩=some (.slice A1 n1 c1)∧w.cell? ⟨b,o+i*3+2,none⟩=some (.slice A2 n2 c2) ∧
  Rd w (.slice A1 n1 c1) (bvs t.val)∧fP d' w (.slice A2 n2 c2) t.kids:=by
 cases d with
 | zero =>
   obtain ⟨rfl,A,c,rfl,hc⟩:=h
   exact ⟨A,0,c,rfl,rfl,V7 _,hc,fun i t ht=>by simp at ht⟩
 | succ d =>
   obtain ⟨A,n,c,rfl,h2,h3,h4,h5⟩:=h
   refine ⟨A,n,c,rfl,h2,h3,h4,fun i t ht=>⟨d,rfl,?_⟩⟩
   have hi:=(List.getElem?_eq_some_iff.1 ht).1
   obtain ⟨b,o,hA,h6⟩:=h5 (by omega)
   have h7:=h6 i t ht
   refine ⟨b,o,hA,?_,h7⟩
   obtain ⟨A1,n1,c1,A2,n2,c2,e0,_⟩:=h7
   exact World.block_lt_of_cell? w _ e0
def lA (x:Int):List UInt8:=if 255<x then [u8 (x / 256),u8 x] else [u8 x]
def gH (n:Nat):List UInt8:=if n<128 then [u8 (n:Int)] else if n<256 then [129,u8 (n:Int)] else [130,u8 ((n:Int) / 256),u8 (n:Int)]
def cA:Nat→List Nd→List UInt8
 | 0,_=>[]
 | d+1,ts=>ts.flatMap fun t=>lA t.tag++gH (if dU t.tag then cA d t.kids else t.val).length++(if dU t.tag then cA d t.kids else t.val)
def bW:Nat→List Nd→Nat
 | 0,_=>0
 | d+1,ts=>(ts.map fun t=>1+bW d t.kids).sum
def lU:Nat→List Nd→Prop
 | 0,ts=>ts=[]
 | d+1,ts=>∀ t ∈ ts,(0≤t.tag∧t.tag<65536)∧fV t.tag=true∧(dU t.tag=true→t.val=[])∧(dU t.tag=false→t.kids=[])∧lU d t.kids
def iE:Nat→List Nd→Nat
 | 0,_=>0
 | d+1,ts=>(ts.map fun t=>t.val.length+iE d t.kids).sum
def bR (d:Nat) (t:Nd):List UInt8:=if dU t.tag then cA d t.kids else t.val
def nZ (d:Nat) (t:Nd):List UInt8:=lA t.tag++gH (bR d t).length++bR d t
theorem iI (d:Nat) (ts:List Nd):cA (d+1) ts=ts.flatMap (nZ d):=rfl
theorem uD {d:Nat}{ts:List Nd}{k:Nat}{t:Nd} (h:ts[k]?=some t):cA (d+1) (ts.take (k+1))=cA (d+1) (ts.take k)++nZ d t:=by
 have hlt:=(List.getElem?_eq_some_iff.1 h).1
 have e:ts.take (k+1)=ts.take k++[t]:=by
  rw [List.take_succ_eq_append_getElem hlt]
  rw [V8 hlt] at h
  rw [Option.some.inj h]
 rw [e,iI,iI,List.flatMap_append]
 simp
theorem uE {d:Nat}{ts:List Nd}{k:Nat}{t:Nd} (h:ts[k]?=some t):bW (d+1) (ts.take (k+1))=bW (d+1) (ts.take k)+(1+bW d t.kids):=by
 have hlt:=(List.getElem?_eq_some_iff.1 h).1
 have e:ts.take (k+1)=ts.take k++[t]:=by
  rw [List.take_succ_eq_append_getElem hlt]
  rw [V8 hlt] at h
  rw [Option.some.inj h]
 rw [e]
 simp [bW,List.sum_append]
theorem eW (n:Nat):(gH n).length≤3:=by
 unfold gH
 split
 · simp
 · split <;> simp
theorem P4 (x:Int):(lA x).length≤2:=by unfold lA;split <;> simp
theorem nJ:∀ (d:Nat) (ts:List Nd),(cA d ts).length≤5*bW d ts+iE d ts
 | 0,ts=>by simp [cA]
 | d+1,[]=>by simp [cA]
 | d+1,t::ts=>by
   have h1:=nJ d t.kids
   have h2:=nJ (d+1) ts
   have e1:cA (d+1) (t::ts)=nZ d t++cA (d+1) ts:=by rw [iI,iI,List.flatMap_cons]
   have e2:bW (d+1) (t::ts)=(1+bW d t.kids)+bW (d+1) ts:=by simp [bW]
   have e3:iE (d+1) (t::ts)=(t.val.length+iE d t.kids)+iE (d+1) ts:=by simp [iE]
   have h3:=P4 t.tag
   have h4:=eW (bR d t).length
   have h5:(bR d t).length≤5*bW d t.kids+iE d t.kids+t.val.length:=by
    unfold bR
    split
    · omega
    · omega
   rw [e1,e2,e3,V5]
   unfold nZ
   simp only [V5]
   omega
theorem Own.row {w:World}{B:Nat}{e:TypeId}{A:Option Addr}{n c:Nat}{xs:List Value} (h:Own w B e (.slice A n c) xs) (h0:0<n) :
 ∃ g cur,A=some ⟨g,0,none⟩∧B≤g∧w.heap[g]?=some (.cells cur e (0,0))∧n≤c∧c≤maxLen∧cur.size=c∧cur.toList.take n=xs:=by
 obtain ⟨A',n',c',e1,hn,h | h⟩:=h
 · injection e1 with e1 e2 e3
   omega
 · injection e1 with e1 e2 e3
   subst e1 e2 e3
   exact h
theorem Own.setB {w:World}{B g n c j:Nat}{l:List UInt8}{z:Int} (h:Own w B 5 (.slice (some ⟨g,0,none⟩) n c) (bvs l)) (hj:j<n) (z0:0≤z) (z1:z<256) :
 Own (w.setCell ⟨g,j,none⟩ (.int .u8 z)) B 5 (.slice (some ⟨g,0,none⟩) n c) (bvs (l.set j (u8 z))):=by
 have hn:n=l.length:=by
  obtain ⟨A,n',c',e,hn,_⟩:=h
  injection e with _ e _
  rw [bG] at hn
  exact e.trans hn
 obtain ⟨g',cur,e,hB,hg,hnc,hcm,hcs,ht⟩:=h.row (by omega)
 injection e with e
 injection e with e
 subst e
 refine ⟨_,n,c,rfl,by rw [bG,List.length_set];exact hn,.inr ⟨g,cur.setIfInBounds j (.int .u8 z),rfl,hB,?_,hnc,hcm,by simpa using hcs,?_⟩⟩
 · simp only [World.setCell,Array.getElem?_modify,if_true,hg,Option.map_some]
   rfl
 · have e1:(cur.setIfInBounds j (.int .u8 z)).toList.take n=(cur.toList.take n).set j (.int .u8 z):=by
    rw [Array.toList_setIfInBounds,List.take_set]
   rw [e1,ht]
   have e2:bv (u8 z)=.int .u8 z:=by rw [tT,Int.emod_eq_of_lt z0 z1]
   simp [bvs,e2]
theorem Own.at {w:World}{B g n c:Nat}{l:List UInt8} (h:Own w B 5 (.slice (some ⟨g,0,none⟩) n c) (bvs l)) (hn:n=l.length) {j:Nat} (hj:j<n):w.cell? ⟨g,j,none⟩=some (.int .u8 (cB l j))∧w.frozen? ⟨g,j,none⟩=false:=by
 obtain ⟨g',cur,e,hB,hg,hnc,hcm,hcs,ht⟩:=h.row (by omega)
 injection e with e
 injection e with e
 subst e
 refine ⟨?_,by simp [World.frozen?,hg]⟩
 rw [cell_of_row w g j cur _ _ hg]
 have:(cur.toList.take n)[j]?=(bvs l)[j]?:=by rw [ht]
 rw [List.getElem?_take,if_pos hj] at this
 have h2:(bvs l)[j]?=some (.int .u8 (cB l j)):=by rw [jJ (by omega)];simp [bvs,bv,show j<l.length by omega]
 rw [h2] at this
 simpa using this
def LI (w:World) (B:Nat) (v:Value) (l:List UInt8) (e:Ending) (w':World):Prop:=e=.returned (.tuple #[])∧Own w' B 5 v (bvs l)∧Below B w w'
set_option maxHeartbeats 2000000 in
theorem IN {w:World}{B:Nat}{A:Option Addr}{c:Nat}{x y:UInt8} (h:Own w B 5 (.slice A 2 c) (bvs [x,y])):Calls Tryz.prog 275 #[.slice A 2 c] w (LI w B (.slice A 2 c) [y,x]):=by
 obtain ⟨g,cur,rfl,hB,hg,hnc,hcm,_⟩:=h.row (by omega)
 have hgl:=a9 hg
 obtain ⟨c0,f0⟩:=h.at rfl (j:=0) (by omega)
 obtain ⟨c1,f1⟩:=h.at rfl (j:=1) (by omega)
 have b0:=dG [x,y] 0
 have b0':=dH [x,y] 0
 have b1:=dG [x,y] 1
 have b1':=dH [x,y] 1
 have E1:([x,y].set 0 (u8 (cB [x,y] 1))).set 1 (u8 (cB [x,y] 0))=[y,x]:=by
  have e0:u8 (cB [x,y] 0)=x:=UInt8.toNat_inj.1 (by have:=eY (cB [x,y] 0);rw [Int.emod_eq_of_lt b0 b0'] at this;exact Int.ofNat.inj this)
  have e1:u8 (cB [x,y] 1)=y:=UInt8.toNat_inj.1 (by have:=eY (cB [x,y] 1);rw [Int.emod_eq_of_lt b1 b1'] at this;exact Int.ofNat.inj this)
  rw [e0,e1];rfl
 have hD:∀ w:World,Ext w w.drew:=fun w=>⟨rfl,rfl,rfl,UX _,fun _ _=>rfl⟩
 have H:=VR (((h.setB (j:=0) (by omega) b1 b1').setB (j:=1) (by omega) b0 b0').ext (hD _))
 have HL:=VR ((((Below.refl B w).setCell (p:=⟨g,0,none⟩) hB (.int .u8 (cB [x,y] 1))).setCell (p:=⟨g,1,none⟩) hB (.int .u8 (cB [x,y] 0))).trans ((hD _).mono (by simp;omega)))
 rw [E1] at H
 clear h hg E1 hD
 generalize cB [x,y] 0=p at *
 generalize cB [x,y] 1=q at *
 unfold maxLen at hcm
 go_enter Tryz.func275,Tryz.ntmps275
 go_wp2
 go_loopw [2,3] (fun i j wr=>(i=.int .i64 0∧j=.int .i64 1∧wr=w) ∨ (i=.int .i64 1∧j=.int .i64 0∧Own wr B 5 (.slice (some ⟨g,0,none⟩) 2 c) (bvs [y,x])∧Below B w wr)) (fun i _ _=>2 - (intOf i).toNat)
 case atStart=>exact .inl ⟨rfl,rfl,rfl⟩
 case round =>
  rcases hrel with ⟨rfl,rfl,rfl⟩ | ⟨rfl,rfl,ho,hb⟩
  · go_wp2_with fail
    go_region
    go_wp2
    go_roundw
    case rel=>exact .inr ⟨rfl,rfl,H.out,HL.out⟩
    case measure=>simp [intOf]
  · go_wp2
    go_end0
    exact ⟨rfl,ho,hb⟩
set_option maxHeartbeats 2000000 in
theorem iOq {w:World}{B:Nat}{A:Option Addr}{c:Nat}{x z y:UInt8} (h:Own w B 5 (.slice A 3 c) (bvs [x,z,y])):Calls Tryz.prog 275 #[.slice A 3 c] w (LI w B (.slice A 3 c) [y,z,x]):=by
 obtain ⟨g,cur,rfl,hB,hg,hnc,hcm,_⟩:=h.row (by omega)
 have hgl:=a9 hg
 obtain ⟨c0,f0⟩:=h.at rfl (j:=0) (by omega)
 obtain ⟨c1,f1⟩:=h.at rfl (j:=2) (by omega)
 have b0:=dG [x,z,y] 0
 have b0':=dH [x,z,y] 0
 have b1:=dG [x,z,y] 2
 have b1':=dH [x,z,y] 2
 have E1:([x,z,y].set 0 (u8 (cB [x,z,y] 2))).set 2 (u8 (cB [x,z,y] 0))=[y,z,x]:=by
  have e0:u8 (cB [x,z,y] 0)=x:=UInt8.toNat_inj.1 (by have:=eY (cB [x,z,y] 0);rw [Int.emod_eq_of_lt b0 b0'] at this;exact Int.ofNat.inj this)
  have e1:u8 (cB [x,z,y] 2)=y:=UInt8.toNat_inj.1 (by have:=eY (cB [x,z,y] 2);rw [Int.emod_eq_of_lt b1 b1'] at this;exact Int.ofNat.inj this)
  rw [e0,e1];rfl
 have hD:∀ w:World,Ext w w.drew:=fun w=>⟨rfl,rfl,rfl,UX _,fun _ _=>rfl⟩
 have H:=VR (((h.setB (j:=0) (by omega) b1 b1').setB (j:=2) (by omega) b0 b0').ext (hD _))
 have HL:=VR ((((Below.refl B w).setCell (p:=⟨g,0,none⟩) hB (.int .u8 (cB [x,z,y] 2))).setCell (p:=⟨g,2,none⟩) hB (.int .u8 (cB [x,z,y] 0))).trans ((hD _).mono (by simp;omega)))
 rw [E1] at H
 clear h hg E1 hD
 generalize cB [x,z,y] 0=p at *
 generalize cB [x,z,y] 2=q at *
 unfold maxLen at hcm
 go_enter Tryz.func275,Tryz.ntmps275
 go_wp2
 go_loopw [2,3] (fun i j wr=>(i=.int .i64 0∧j=.int .i64 2∧wr=w) ∨ (i=.int .i64 1∧j=.int .i64 1∧Own wr B 5 (.slice (some ⟨g,0,none⟩) 3 c) (bvs [y,z,x])∧Below B w wr)) (fun i _ _=>2 - (intOf i).toNat)
 case atStart=>exact .inl ⟨rfl,rfl,rfl⟩
 case round =>
  rcases hrel with ⟨rfl,rfl,rfl⟩ | ⟨rfl,rfl,ho,hb⟩
  · go_wp2_with fail
    go_region
    go_wp2
    go_roundw
    case rel=>exact .inr ⟨rfl,rfl,H.out,HL.out⟩
    case measure=>simp [intOf]
  · go_wp2
    go_end0
    exact ⟨rfl,ho,hb⟩
def UL (w:World) (n:Nat) (i b:Value) (wr:World):Prop:=∃ A m c,b=.slice A m c∧Ext w wr ∧
 ((i=.int .i64 (n:Int)∧Own wr w.heap.size 5 (.slice A m c) (bvs [])) ∨
  (i=.int .i64 ((n:Int) / 256)∧Hid (m=1)∧Own wr w.heap.size 5 (.slice A m c) (bvs [u8 (n:Int)])) ∨
  (i=.int .i64 0∧Hid (m=2)∧256≤n∧Own wr w.heap.size 5 (.slice A m c) (bvs [u8 (n:Int),u8 ((n:Int) / 256)])))
set_option maxHeartbeats 2000000 in
theorem uF (n:Nat) (w:World) (h:n<65536):Calls Tryz.prog 255 #[.int .i64 (n:Int)] w (gP w (gH n)):=by
 by_cases h0:n<128
 · rw [gH,if_pos h0]
   have q:(n:Int)<128:=by omega
   go_enter Tryz.func255,Tryz.ntmps255
   go_wp2
   go_ret
   exact ⟨_,_,_,rfl,(show _=_ from rfl),Own.oneC w (u8 (n:Int)) (n:Int) (by rw [eY];omega),(Below.refl _ _).alloc (UX _) _⟩
 · have h1:=VR (fun h2:n<256=>(show gH n=[129,u8 (n:Int)] by rw [gH,if_neg h0,if_pos h2]))
   have h3:=VR (fun h2:¬ n<256=>(show gH n=[130,u8 ((n:Int) / 256),u8 (n:Int)] by rw [gH,if_neg h0,if_neg h2]))
   have q:(128:Int)≤(n:Int):=by omega
   have k129:bits .or .u8 128 1=129:=by decide
   have k130:bits .or .u8 128 2=130:=by decide
   go_enter Tryz.func255,Tryz.ntmps255
   go_wp2
   go_loopw [0,3] (fun i b wr=>UL w n i b wr) (fun i _ _=>(intOf i).toNat)
   case atStart=>exact ⟨none,0,0,rfl,Below.refl _ _,.inl ⟨rfl,yU _ _⟩⟩
   case round =>
    obtain ⟨A,m,c,rfl,bb,hrel⟩:=hrel
    rcases hrel with ⟨rfl,o⟩ | ⟨rfl,hm,o⟩ | ⟨rfl,hm,h256,o⟩
    · have a1:Ext wr (wr.alloc (.cells #[.int .u8 ((n:Int) % 256)] 5)):=(Below.refl _ _).alloc (UX _) _
      have sz:=bb.size
      go_wp2_with (refine jF (o.ext a1) (Rd.oneZ wr (n:Int)) (bb.tr a1) (by simp) (bb.tr a1).size rfl rfl rfl rfl ?_;intro A8 n8 c8 w8 hn8 o8 (b8:Ext _ _) g8)
      go_roundw
      case rel=>exact ⟨A8,n8,c8,rfl,b8,.inr (.inl ⟨rfl,(show _=_ from hn8.out),by simpa using o8⟩)⟩
      case measure=>simp [intOf];omega
    · obtain rfl:m=1:=hm.out
      clear hm
      by_cases h2:n<256
      · have z0:(n:Int) / 256=0:=by omega
        rw [z0]
        clear z0
        have HL:=VR (h1.out h2)
        have a1:Ext wr (wr.alloc (.cells #[.int .u8 129] 5)):=(Below.refl _ _).alloc (UX _) _
        have sz:=bb.size
        go_wp2_with (refine jF (o.ext a1) (Own.oneC wr 129 129 rfl).rd (bb.tr a1) (by simp) (bb.tr a1).size rfl rfl rfl rfl ?_;intro A8 n8 c8 w8 hn8 o8 (b8:Ext _ _) g8;obtain rfl:n8=2:=hn8.out)
        refine (IN o8).mono ?_
        rintro e w9 ⟨rfl,o9,b9⟩
        go_wp2
        go_ret
        exact ⟨_,_,_,rfl,(show _=_ by rw [HL.out];rfl),by rw [HL.out];exact o9,b8.trans b9⟩
      · have z0:0<(n:Int) / 256:=by omega
        have z1:(n:Int) / 256<256:=by omega
        have z2:(n:Int) / 256 / 256=0:=by omega
        have z3:=Int.emod_eq_of_lt (Int.le_of_lt z0) z1
        have a1:Ext wr (wr.alloc (.cells #[.int .u8 ((n:Int) / 256)] 5)):=(Below.refl _ _).alloc (UX _) _
        have sz:=bb.size
        have h256:256≤n:=by omega
        go_wp2_with (refine jF (o.ext a1) (Own.oneC wr (u8 ((n:Int) / 256)) ((n:Int) / 256) (by rw [eY];omega)).rd (bb.tr a1) (by simp) (bb.tr a1).size rfl rfl rfl rfl ?_;intro A8 n8 c8 w8 hn8 o8 (b8:Ext _ _) g8)
        go_roundw
        case rel=>exact ⟨A8,n8,c8,rfl,b8,.inr (.inr ⟨by first | rfl | (rw [z2]),(show _=_ from hn8.out),h256,by simpa using o8⟩)⟩
        case measure=>simp [intOf];omega
    · obtain rfl:m=2:=hm.out
      clear hm
      have HL:=VR (h3.out (by omega))
      have a1:Ext wr (wr.alloc (.cells #[.int .u8 130] 5)):=(Below.refl _ _).alloc (UX _) _
      have sz:=bb.size
      go_wp2_with (refine jF (o.ext a1) (Own.oneC wr 130 130 rfl).rd (bb.tr a1) (by simp) (bb.tr a1).size rfl rfl rfl rfl ?_;intro A8 n8 c8 w8 hn8 o8 (b8:Ext _ _) g8;obtain rfl:n8=3:=hn8.out)
      refine (iOq o8).mono ?_
      rintro e w9 ⟨rfl,o9,b9⟩
      go_wp2
      go_ret
      exact ⟨_,_,_,rfl,(show _=_ by rw [HL.out];rfl),by rw [HL.out];exact o9,b8.trans b9⟩
set_option maxHeartbeats 1000000 in
theorem oD (n:Nat) (w:World) (h:n<65536):Calls Tryz.prog 259 #[.int .i64 (n:Int)] w (gP w (gH n)):=by
 by_cases h0:n<128
 · have HL:=VR (show gH n=[u8 (n:Int)] from if_pos h0)
   have q:(n:Int)≤127:=by omega
   have q2:(n:Int) % 256=(n:Int):=by omega
   go_enter Tryz.func259,Tryz.ntmps259
   go_wp2
   go_ret
   exact ⟨_,_,_,rfl,(show _=_ by rw [HL.out];rfl),by rw [HL.out];exact Own.oneC w (u8 (n:Int)) (n:Int) (by rw [eY];omega),(Below.refl _ _).alloc (UX _) _⟩
 · by_cases h2:n<256
   · have HL:=VR (show gH n=[129,u8 (n:Int)] by rw [gH,if_neg h0,if_pos h2])
     have q:¬ (n:Int)≤127:=by omega
     have q2:(n:Int)≤255:=by omega
     have q3:(n:Int) % 256=(n:Int):=by omega
     have hb:bvs [129,u8 (n:Int)]=(#[.int .u8 129,.int .u8 (n:Int)]:Array Value).toList:=by
      show [bv 129,bv (u8 (n:Int))]=_
      rw [tT,q3]
      rfl
     have HO:=VR (Own.lit w #[.int .u8 129,.int .u8 (n:Int)] 5 2 rfl (by unfold maxLen;omega))
     rw [← hb] at HO
     clear hb
     go_enter Tryz.func259,Tryz.ntmps259
     go_wp2
     go_ret
     exact ⟨_,_,_,rfl,(show _=_ by rw [HL.out];rfl),by rw [HL.out];exact HO.out,(Below.refl _ _).alloc (UX _) _⟩
   · have HL:=VR (show gH n=[130,u8 ((n:Int) / 256),u8 (n:Int)] by rw [gH,if_neg h0,if_neg h2])
     have q:¬ (n:Int)≤127:=by omega
     have q2:¬ (n:Int)≤255:=by omega
     have q3:(n:Int) / 256 % 256=(n:Int) / 256:=by omega
     have hb:bvs [130,u8 ((n:Int) / 256),u8 (n:Int)]=(#[.int .u8 130,.int .u8 ((n:Int) / 256),.int .u8 ((n:Int) % 256)]:Array Value).toList:=by
      show [bv 130,bv (u8 ((n:Int) / 256)),bv (u8 (n:Int))]=_
      rw [tT,tT,q3]
      rfl
     have HO:=VR (Own.lit w #[.int .u8 130,.int .u8 ((n:Int) / 256),.int .u8 ((n:Int) % 256)] 5 3 rfl (by unfold maxLen;omega))
     rw [← hb] at HO
     clear hb
     go_enter Tryz.func259,Tryz.ntmps259
     go_wp2
     go_ret
     exact ⟨_,_,_,rfl,(show _=_ by rw [HL.out];rfl),by rw [HL.out];exact HO.out,(Below.refl _ _).alloc (UX _) _⟩
end Go.Proofs.YtkjplpmogfmhkaaGreatDoor
namespace Go.Proofs.YtkjplpmogfmhkaaGreatDoor
set_option linter.unusedVariables false
set_option maxRecDepth 100000
end Go.Proofs.YtkjplpmogfmhkaaGreatDoor
namespace Go.Proofs.YtkjplpmogfmhkaaGreatDoor
open Go.RowKit
set_option linter.unusedVariables false
set_option maxRecDepth 100000
def RdS (S:Nat→Prop) (w:World) (v:Value) (xs:List Value):Prop :=
 ∃ A n c,v=.slice A n c∧n=xs.length∧n≤c∧c≤maxLen ∧
  (0<n→∃ b o,A=some ⟨b,o,none⟩∧S b∧∀ j u,xs[j]?=some u→w.cell? ⟨b,o+j,none⟩=some u)
theorem RdS.rd {S:Nat→Prop}{w:World}{v:Value}{xs:List Value} (h:RdS S w v xs):Rd w v xs:=by
 obtain ⟨A,n,c,h1,h2,h3,h4,h5⟩:=h
 exact ⟨A,n,c,h1,h2,h3,h4,fun h0=>by obtain ⟨b,o,q1,_,q2⟩:=h5 h0;exact ⟨b,o,q1,q2⟩⟩
theorem RdS.map {S S':Nat→Prop}{w w':World} (hm:∀ b,S b→b<w.heap.size→S' b∧w'.heap[b]?=w.heap[b]?) {v:Value}{xs:List Value} (h:RdS S w v xs):RdS S' w' v xs:=by
 obtain ⟨A,n,c,h1,h2,h3,h4,h5⟩:=h
 refine ⟨A,n,c,h1,h2,h3,h4,fun h0=>?_⟩
 obtain ⟨b,o,q1,q2,q3⟩:=h5 h0
 have hl:b<w.heap.size:=by
  obtain ⟨u,hu⟩:∃ u,xs[0]?=some u:=⟨_,V8 (by omega)⟩
  exact World.block_lt_of_cell? w _ (q3 0 u hu)
 obtain ⟨r1,r2⟩:=hm b q2 hl
 exact ⟨b,o,q1,r1,fun j u hu=>(World.cell?_of_block r2).trans (q3 j u hu)⟩
theorem RdS.of {S:Nat→Prop}{w:World}{B:Nat}{e:TypeId}{v:Value}{xs:List Value} (h:Own w B e v xs) (hS:∀ b,B≤b→S b):RdS S w v xs:=by
 obtain ⟨A,n,c,rfl,hn,h | ⟨g,cur,rfl,hB,hg,hnc,hcm,hcs,ht⟩⟩:=h
 · obtain ⟨rfl,rfl⟩:=h
   exact ⟨A,0,0,rfl,hn,UX _,by unfold maxLen;omega,fun h=>absurd h (by omega)⟩
 · refine ⟨_,n,c,rfl,hn,hnc,hcm,fun _=>⟨g,0,rfl,hS g hB,fun j u hu=>?_⟩⟩
   rw [VB,cell_of_row w g j cur e (0,0) hg]
   rw [← ht,List.getElem?_take] at hu
   split at hu
   · simpa using hu
   · cases hu
theorem RdS.nil {S:Nat→Prop} (w:World):RdS S w (.slice none 0 0) []:=⟨none,0,0,rfl,rfl,UX _,by unfold maxLen;omega,fun h=>absurd h (by omega)⟩
def gY (S:Nat→Prop):Nat→World→Value→List Nd→Prop
 | 0,w,v,ts=>ts=[]∧∃ A c,v=.slice A 0 c∧c≤maxLen
 | d+1,w,v,ts=>∃ A n c,v=.slice A n c∧n=ts.length∧n≤c∧c≤maxLen ∧
    (0<n→∃ b o,A=some ⟨b,o,none⟩∧S b∧∀ i t,ts[i]?=some t→∃ A1 n1 c1 A2 n2 c2,
      w.cell? ⟨b,o+i*3,none⟩=some (.int .i64 t.tag)∧w.cell? ⟨b,o+i*3+1,none⟩=some (.slice A1 n1 c1)∧w.cell? ⟨b,o+i*3+2,none⟩=some (.slice A2 n2 c2) ∧
      RdS S w (.slice A1 n1 c1) (bvs t.val)∧gY S d w (.slice A2 n2 c2) t.kids)
theorem gY.rd {S:Nat→Prop}{w:World}:∀ {d:Nat}{v:Value}{ts:List Nd},gY S d w v ts→fP d w v ts
 | 0,_,_,h=>h
 | d+1,v,ts,⟨A,n,c,h1,h2,h3,h4,h5⟩=>by
   refine ⟨A,n,c,h1,h2,h3,h4,fun h0=>?_⟩
   obtain ⟨b,o,hA,_,h6⟩:=h5 h0
   refine ⟨b,o,hA,fun i t ht=>?_⟩
   obtain ⟨A1,n1,c1,A2,n2,c2,e0,e1,e2,r1,r2⟩:=h6 i t ht
   exact ⟨A1,n1,c1,A2,n2,c2,e0,e1,e2,r1.rd,gY.rd r2⟩
theorem gY.map {S S':Nat→Prop}{w w':World} (hm:∀ b,S b→b<w.heap.size→S' b∧w'.heap[b]?=w.heap[b]?):∀ {d:Nat}{v:Value}{ts:List Nd},gY S d w v ts→gY S' d w' v ts
 | 0,_,_,h=>h
 | d+1,v,ts,⟨A,n,c,h1,h2,h3,h4,h5⟩=>by
   refine ⟨A,n,c,h1,h2,h3,h4,fun h0=>?_⟩
   obtain ⟨b,o,hA,hS,h6⟩:=h5 h0
   have hl:b<w.heap.size:=by
    obtain ⟨t,ht⟩:∃ t,ts[0]?=some t:=⟨_,V8 (by omega)⟩
    obtain ⟨A1,n1,c1,A2,n2,c2,e0,_⟩:=h6 0 t ht
    exact World.block_lt_of_cell? w _ e0
   obtain ⟨q1,q2⟩:=hm b hS hl
   refine ⟨b,o,hA,q1,fun i t ht=>?_⟩
   obtain ⟨A1,n1,c1,A2,n2,c2,e0,e1,e2,r1,r2⟩:=h6 i t ht
   exact ⟨A1,n1,c1,A2,n2,c2,(World.cell?_of_block q2).trans e0,(World.cell?_of_block q2).trans e1,(World.cell?_of_block q2).trans e2,r1.map hm,gY.map hm r2⟩
theorem gY.nil {S:Nat→Prop} (w:World) (d:Nat):gY S d w (.slice none 0 0) []:=by
 cases d with
 | zero=>exact ⟨rfl,_,_,rfl,by unfold maxLen;omega⟩
 | succ d=>exact ⟨_,_,_,rfl,rfl,UX _,by unfold maxLen;omega,fun h=>absurd h (by omega)⟩
def cG (S:Nat→Prop) (d:Nat) (w:World) (xs:List Value) (ts:List Nd):Prop :=
 xs.length=ts.length*3∧∀ i t,ts[i]?=some t→∃ A1 n1 c1 A2 n2 c2,xs[i*3]?=some (.int .i64 t.tag)∧xs[i*3+1]?=some (.slice A1 n1 c1)∧xs[i*3+2]?=some (.slice A2 n2 c2) ∧
  RdS S w (.slice A1 n1 c1) (bvs t.val)∧gY S d w (.slice A2 n2 c2) t.kids
theorem cG.nil (S:Nat→Prop) (d:Nat) (w:World):cG S d w [] []:=⟨rfl,fun i t h=>by simp at h⟩
theorem cG.map {S S':Nat→Prop}{w w':World} (hm:∀ b,S b→b<w.heap.size→S' b∧w'.heap[b]?=w.heap[b]?) {d:Nat}{xs:List Value}{ts:List Nd} (h:cG S d w xs ts):cG S' d w' xs ts :=
 ⟨h.1,fun i t ht=>by
   obtain ⟨A1,n1,c1,A2,n2,c2,e0,e1,e2,r1,r2⟩:=h.2 i t ht
   exact ⟨A1,n1,c1,A2,n2,c2,e0,e1,e2,r1.map hm,r2.map hm⟩⟩
theorem cG.snoc {S:Nat→Prop}{w:World}{d:Nat}{xs:List Value}{ts:List Nd} (h:cG S d w xs ts) {t:Nd}{A1 A2:Option Addr}{n1 c1 n2 c2:Nat} (r1:RdS S w (.slice A1 n1 c1) (bvs t.val)) (r2:gY S d w (.slice A2 n2 c2) t.kids) :
 cG S d w (xs++[.int .i64 t.tag,.slice A1 n1 c1,.slice A2 n2 c2]) (ts++[t]):=by
 refine ⟨by rw [V5,V5,h.1];simp;omega,fun i u hu=>?_⟩
 by_cases hi:i<ts.length
 · rw [List.getElem?_append_left hi] at hu
   obtain ⟨B1,m1,d1,B2,m2,d2,e0,e1,e2,q1,q2⟩:=h.2 i u hu
   have hl:=h.1
   exact ⟨B1,m1,d1,B2,m2,d2,by rw [List.getElem?_append_left (by omega)];exact e0,by rw [List.getElem?_append_left (by omega)];exact e1,by rw [List.getElem?_append_left (by omega)];exact e2,q1,q2⟩
 · have hlt:=(List.getElem?_eq_some_iff.1 hu).1
   rw [V5] at hlt
   simp only [List.length_singleton] at hlt
   obtain rfl:i=ts.length:=by omega
   rw [List.getElem?_append_right (UX _),Nat.sub_self] at hu
   obtain rfl:t=u:=by simpa using hu
   have hl:=h.1
   exact ⟨A1,n1,c1,A2,n2,c2,by rw [List.getElem?_append_right (by omega),hl,Nat.sub_self];rfl,by rw [List.getElem?_append_right (by omega),hl,show ts.length*3+1 - ts.length*3=1 by omega];rfl,by rw [List.getElem?_append_right (by omega),hl,show ts.length*3+2 - ts.length*3=2 by omega];rfl,r1,r2⟩
theorem gY.mk {S S':Nat→Prop}{w:World}{B:Nat}{e:TypeId}{v:Value}{d:Nat}{xs:List Value}{ts:List Nd} (ho:aJ w B e 3 v xs) (hc:cG S d w xs ts) (hS:∀ b,S b→S' b) (hB:∀ b,B≤b→S' b):gY S' (d+1) w v ts:=by
 obtain ⟨hl,hc⟩:=hc
 have hmm:∀ b,S b→b<w.heap.size→S' b∧w.heap[b]?=w.heap[b]?:=fun b h _=>⟨hS b h,rfl⟩
 obtain ⟨A,n,c,rfl,hn,⟨rfl,rfl⟩ | ⟨g,cur,rfl,hg0,hg,hnc,hcm,hcs,ht⟩⟩:=ho
 · obtain rfl:ts=[]:=VO (by omega)
   exact ⟨A,0,0,rfl,rfl,UX _,by unfold maxLen;omega,fun h=>absurd h (by omega)⟩
 · refine ⟨_,n,c,rfl,by omega,hnc,hcm,fun _=>⟨g,0,rfl,hB g hg0,fun i t hti=>?_⟩⟩
   obtain ⟨A1,n1,c1,A2,n2,c2,e0,e1,e2,r1,r2⟩:=hc i t hti
   have cell:∀ j u,xs[j]?=some u→w.cell? ⟨g,j,none⟩=some u:=fun j u hu=>by
    rw [cell_of_row w g j cur e (0,0) hg]
    rw [← ht,List.getElem?_take] at hu
    split at hu
    · simpa using hu
    · cases hu
   simp only [VB]
   exact ⟨A1,n1,c1,A2,n2,c2,cell _ _ e0,cell _ _ e1,cell _ _ e2,r1.map hmm,r2.map hmm⟩
theorem EI:kE Tryz.prog 178 180 3 56:=by
 have h:(Tryz.prog.info? 180).map (fun i=>(i.zero,i.size,i.bytes))=some (some (.agg #[.int .i64 0,.slice none 0 0,.slice none 0 0]),3,56):=by kernel_rfl
 obtain ⟨i,h1,h2,h3,h4⟩:=info_parts h
 exact ⟨i,_,Tryz.underlying178,h1,h2,h3,h4,rfl⟩
section
variable {ops:Array Oper}{rest:List Oper}{o:Oper}{a:Act}{Q:Exit→Act→World→Prop}{w w0:World}
end
theorem uG (d:Nat) (ts:List Nd) (k:Nat):bW d (ts.take k)≤bW d ts:=by
 cases d with
 | zero=>exact UX _
 | succ d =>
   show ((ts.take k).map _).sum≤(ts.map _).sum
   conv=>rhs;rw [← List.take_append_drop k ts]
   rw [List.map_append,List.sum_append]
   omega
def iF (W:World) (gp:Nat) (k:Int):Prop:=W.heap[gp]?=some (.cells #[.int .i64 k] 3 (0,0))
theorem iF.cell {W:World}{gp:Nat}{k:Int} (h:iF W gp k):W.cell? ⟨gp,0,none⟩=some (.int .i64 k):=by rw [cell_of_row W gp 0 _ _ _ h];rfl
theorem iF.frozen {W:World}{gp:Nat}{k:Int} (h:iF W gp k):W.frozen? ⟨gp,0,none⟩=false:=by unfold iF at h;simp [World.frozen?,h]
theorem iF.set {W:World}{gp:Nat}{k:Int} (h:iF W gp k) (k':Int):iF (W.setCell ⟨gp,0,none⟩ (.int .i64 k')) gp k':=by
 unfold iF at h ⊢
 simp only [World.setCell,Array.getElem?_modify,if_true,h,Option.map_some]
 rfl
theorem iF.ext {W W':World}{gp:Nat}{k:Int} (h:iF W gp k) (b:Ext W W'):iF W' gp k:=(b.block gp (a9 h)).trans h
set_option maxHeartbeats 4000000 in
theorem LJ:∀ (d:Nat) (ts:List Nd) (w0 W:World) (v:Value) (k dep:Int),lU d ts→fP d w0 v ts→Below w0.heap.size w0 W→iF W w0.heap.size k→0≤k→k+(bW d ts:Int)≤1000000→0≤dep→dep+(d:Int)≤9 →
 Calls Tryz.prog 208 #[v,.int .i64 dep,.pointer (some ⟨w0.heap.size,0,none⟩)] W fun e W'=>e=.returned (.int .i64 0)∧Below w0.heap.size w0 W'∧iF W' w0.heap.size (k+(bW d ts:Int)):=by
 intro d
 induction d with
 | zero =>
   intro ts w0 W v k dep hok hr hb hc k0 k1 d0 d1
   obtain ⟨rfl,A,c,rfl,hcm⟩:=hr
   go_enter Tryz.func208,Tryz.ntmps208
   go_wp2
   go_loopw [13] (fun i wr=>i=.int .i64 0∧wr=W) (fun i _=>0)
   case atStart=>exact ⟨rfl,rfl⟩
   case round =>
    obtain ⟨rfl,rfl⟩:=hrel
    go_wp2
    go_ret
    exact ⟨rfl,hb,by simpa [bW] using hc⟩
 | succ d IH =>
   intro ts w0 W v k dep hok hr hb hc k0 k1 d0 d1
   have IH':=VR IH
   obtain ⟨A,n,c,rfl,hn,hnc,hcm,hel⟩:=hr.open_
   subst hn
   unfold maxLen at hcm
   clear hr IH
   have HE:=VR hel
   have HO:=VR hok
   have HK:=VR k1
   clear hel hok k1
   go_enter Tryz.func208,Tryz.ntmps208
   go_wp2
   go_loopw [8,9,10,13,25,30,46] (fun _ _ _ i _ _ _ wr=>∃ j:Nat,j≤ts.length∧i=.int .i64 (j:Int)∧Below w0.heap.size w0 wr∧iF wr w0.heap.size (k+(bW (d+1) (ts.take j):Int))) (fun _ _ _ i _ _ _ _=>ts.length - (intOf i).toNat)
   case atStart=>exact ⟨0,V7 _,rfl,hb,by simpa [bW] using hc⟩
   case round =>
    obtain ⟨j,hj,rfl,bb,hcc⟩:=hrel
    by_cases hlt:j<ts.length
    · obtain ⟨t,ht⟩:∃ t,ts[j]?=some t:=⟨_,V8 hlt⟩
      obtain ⟨d',hd',b,o,rfl,hbl,A1,n1,c1,A2,n2,c2,e0,e1,e2,r1,r2⟩:=HE.out j t ht
      obtain rfl:d=d':=by omega
      obtain ⟨⟨t0,t1⟩,hv,hcv,hck,hko⟩:=HO.out t (VD ht)
      have l0:=(bb.cell (p:=⟨b,o+j*3,none⟩) hbl).trans e0
      have l1:=(bb.cell (p:=⟨b,o+j*3+1,none⟩) hbl).trans e1
      have l2:=(bb.cell (p:=⟨b,o+j*3+2,none⟩) hbl).trans e2
      have cc:=hcc.cell
      have cf:=hcc.frozen
      have hgp:w0.heap.size<wr.heap.size:=a9 hcc
      have hct:=uE (d:=d) ht
      have HKK:=VR (show (bW (d+1) (ts.take (j+1)):Int)=(bW (d+1) (ts.take j):Int)+(1+(bW d t.kids:Int)) by rw [hct];push_cast;rfl)
      have hle:=uG (d+1) ts (j+1)
      have hK0:(0:Int)≤(bW d t.kids:Int):=Int.natCast_nonneg _
      have hsum:k+(bW (d+1) (ts.take j):Int)+1+(bW d t.kids:Int)≤1000000:=by have:=HK.out;omega
      have hm0:(0:Int)≤(bW (d+1) (ts.take j):Int):=Int.natCast_nonneg _
      clear hct hle
      generalize (bW (d+1) (ts.take j):Int)=m at *
      have hs0:0≤k+m:=by omega
      have hs1:k+m+1≤1000000:=by omega
      have HS:=VR hsum
      clear hsum
      have wi1:IntKind.i64.wrap ((j:Int))=(j:Int):=IntWalk.i64_in _ (by omega)
      have zi1:(0:Int)≤(j:Int):=by omega
      have li1:(j:Int)<(ts.length:Int):=by omega
      have ti1:((j:Int)).toNat=j:=by omega
      go_wp2_with fail
      obtain ⟨wx,hwx⟩:∃ wx,wx=(wr.setCell ⟨w0.heap.size,0,none⟩ (.int .i64 (k+m+1))).alloc (.cells #[.int .i64 t.tag,.slice A1 n1 c1,.slice A2 n2 c2] 180):=⟨_,rfl⟩
      rw [← hwx]
      have bx:Below w0.heap.size w0 wx:=by rw [hwx];exact (bb.setCell (p:=⟨w0.heap.size,0,none⟩) (UX _) _).alloc (by simp;omega) _
      have cx:iF wx w0.heap.size (k+m+1):=by rw [hwx];exact (hcc.set (k+m+1)).ext ((Below.refl _ _).alloc (UX _) _)
      have x0:wx.cell? ⟨wr.heap.size,0,none⟩=some (.int .i64 t.tag):=by rw [hwx];go_simp
      have x1:wx.cell? ⟨wr.heap.size,1,none⟩=some (.slice A1 n1 c1):=by rw [hwx];go_simp
      have x2:wx.cell? ⟨wr.heap.size,2,none⟩=some (.slice A2 n2 c2):=by rw [hwx];go_simp
      clear hwx l0 l1 l2 cc cf
      have hz1:dU t.tag=true→n1=0:=fun h=>by
       obtain ⟨A',n',c',e,hn,_⟩:=r1
       injection e with _ e _
       rw [hcv h] at hn
       exact e.trans hn
      have hz2:dU t.tag=false→n2=0:=fun h=>by
       obtain ⟨A',n',c',e,hn,_⟩:=r2.open_
       injection e with _ e _
       rw [hck h] at hn
       exact e.trans hn
      refine (BE _ _ t0 t1).mono ?_
      rintro e w' ⟨rfl,rfl⟩
      obtain ⟨q,hq⟩:∃ q,dU t.tag=q:=⟨_,rfl⟩
      rw [hq] at hz1 hz2 ⊢
      have hv':=VR hv
      clear hv hcv hck hq
      have HV:=fun w=>nI t.tag w t0 t1
      rw [hv'.out] at HV
      have HVV:=VR HV
      clear HV
      cases q
      · obtain rfl:n2=0:=hz2 rfl
        clear hz1 hz2
        go_wp2_with fail
        refine (HVV.out _).mono ?_
        rintro e w' ⟨rfl,rfl⟩
        have hd9:dep≤8:=by omega
        go_wp2_with fail
        refine (IH'.out t.kids w0 wx _ (k+m+1) (dep+1) hko r2 bx cx (by omega) HS.out (by omega) (by omega)).mono ?_
        rintro e wy ⟨rfl,by_,cy⟩
        go_wp2_with fail
        go_roundw
        case rel=>exact ⟨j+1,by omega,by go_num,by_,by rw [HKK.out,show k+(m+(1+(bW d t.kids:Int)))=k+m+1+(bW d t.kids:Int) by omega];exact cy⟩
        case measure=>simp [intOf];omega
      · obtain rfl:n1=0:=hz1 rfl
        clear hz1 hz2
        go_wp2_with fail
        refine (HVV.out _).mono ?_
        rintro e w' ⟨rfl,rfl⟩
        have hd9:dep≤8:=by omega
        go_wp2_with fail
        refine (IH'.out t.kids w0 wx _ (k+m+1) (dep+1) hko r2 bx cx (by omega) HS.out (by omega) (by omega)).mono ?_
        rintro e wy ⟨rfl,by_,cy⟩
        go_wp2_with fail
        go_roundw
        case rel=>exact ⟨j+1,by omega,by go_num,by_,by rw [HKK.out,show k+(m+(1+(bW d t.kids:Int)))=k+m+1+(bW d t.kids:Int) by omega];exact cy⟩
        case measure=>simp [intOf];omega
    · obtain rfl:j=ts.length:=by omega
      rw [List.take_length] at hcc
      go_wp2
      go_ret
      exact ⟨rfl,bb,hcc⟩
end Go.Proofs.YtkjplpmogfmhkaaGreatDoor
namespace Go.Proofs.YtkjplpmogfmhkaaGreatDoor
open Go.RowKit
set_option linter.unusedVariables false
theorem LN {P:Program}{w:World}{t ty e:TypeId}{bytes B:Nat} (he:IE P t e bytes) {v src:Value}{xs news:List Value} (hown:Own w B e v xs) (hr:Rd w src news) (h1:∀ u ∈ news,u.oneCell'=true)
 (hb:(xs.length+news.length)*bytes≤140737488355328) (h63:xs.length+news.length≤maxLen) (hB:B≤w.heap.size) :
 ∃ A c w',(Builtin.append_ #[t,t] ty #[v,src]).run P w=.ok (.slice A (xs.length+news.length) c) w'∧Own w' B e (.slice A (xs.length+news.length) c) (xs++news)∧w.grownBy w' (aL v)∧(∀ k,aL (.slice A (xs.length+news.length) c)=some k→aL v=some k ∨ w.heap.size≤k):=by
 obtain ⟨i,z,ht,hi,hz,hsz,hby,hzs⟩:=he.ex
 obtain ⟨A,n,c,rfl,hn,hcase⟩:=hown
 obtain ⟨A2,m,c2,rfl,hm,hmc,hcm2,hcells⟩:=hr
 by_cases hm0:m=0
 · subst hm0
   have hnil:news=[]:=VO (by omega)
   subst hnil
   have hnc:n≤c:=by
    rcases hcase with h | ⟨g,cur,_,_,_,h,_⟩
    · omega
    · exact h
   refine ⟨A,c,w,?_,?_,⟨rfl,rfl,rfl,UX _,fun _ _ _=>rfl⟩,fun k hk=>.inl (by cases A <;> cases c <;> first | exact hk | (simp [aL] at hk))⟩
   · rw [mD ht hi A A2 n c c2 hnc];simp [hn]
   · simp only [VA,Nat.add_zero,List.append_nil,← hn]
     exact ⟨A,n,c,rfl,hn,hcase⟩
 · obtain ⟨b2,o2,rfl,hc2⟩:=hcells (by omega)
   have hnews:∀ j u,news[j]?=some u→w.cell? ((⟨b2,o2,none⟩:Addr).add j)=some u:=by
    intro j u hu
    rw [Addr.add_lit]
    exact hc2 j u hu
   rcases hcase with ⟨rfl,rfl⟩ | ⟨g,cur,rfl,hbg,hg,hnc,hcm,hcs,htk⟩
   · have hx:xs=[]:=VO (by omega)
     subst hx
     have key:∃ v' w',(Builtin.append_ #[t,t] ty #[.slice A 0 0,.slice (some ⟨b2,o2,none⟩) m c2]).run P w=.ok v' w'∧w'.ownsRow w.heap.size e 1 v' m news∧w.grownBy w' none:=by
      cases A with
      | none =>
        obtain ⟨v',w',h1',h2',h3',_⟩:=run_append_own (P:=P) w w.heap.size t ty e i z 1 bytes ht hi hz hsz hby hzs (by decide) (.slice none 0 0) 0 [] (World.ownsRow_nil _ _ _ _) ⟨b2,o2,none⟩ m c2 news (by omega) hnews h1 (by simp only [VA] at h63;omega) (by simp only [VA,VB,← hm] at hb ⊢;exact hb) (UX _)
        simp only [VB,VN] at h2'
        exact ⟨v',w',h1',h2',h3'⟩
      | some ad =>
        obtain ⟨v',w',h1',h2',h3'⟩:=run_append_arg_grows (P:=P) w t ty e i z 1 bytes ht hi hz hsz hby hzs (by decide) ad 0 0 [] rfl (by simp) ⟨b2,o2,none⟩ m c2 news (by omega) hnews (by omega) (by simp only [VA] at h63;omega) (by simp only [VA,VB,← hm] at hb ⊢;exact hb)
        simp only [VB,VN] at h2'
        exact ⟨v',w',h1',h2',h3'⟩
     obtain ⟨v',w',k1,k2,k3⟩:=key
     obtain ⟨g',cap',rfl,_,_⟩:=k2.form (by omega)
     have ho:=(eS k2).mono hB
     refine ⟨some ⟨g',0,none⟩,cap',w',?_,?_,⟨k3.os,k3.tape,k3.output,k3.size,fun k hk _=>k3.block k hk (by simp)⟩,fun k hk=>.inr (mE (eS k2) k (by cases cap' <;> first | exact hk | (simp [aL] at hk)))⟩
     · rw [k1];simp [hm]
     · simp only [VA,VB,VN,← hm];exact ho
   · have hown':w.ownsRow B e 1 (.slice (some ⟨g,0,none⟩) n c) n xs:=⟨by omega,.inr ⟨g,c,cur,rfl,hbg,hg,hnc,hcm,by omega,by simpa using htk⟩⟩
     by_cases hc0:c=0
     · subst hc0
       obtain rfl:n=0:=by omega
       have hx:xs=[]:=VO (by omega)
       subst hx
       obtain ⟨v',w',k1,k2,k3⟩:=run_append_arg_grows (P:=P) w t ty e i z 1 bytes ht hi hz hsz hby hzs (by decide) ⟨g,0,none⟩ 0 0 [] rfl (by simp) ⟨b2,o2,none⟩ m c2 news (by omega) hnews (by omega) (by simp only [VA] at h63;omega) (by simp only [VA,VB,← hm] at hb ⊢;exact hb)
       simp only [VB,VN] at k2
       obtain ⟨g',cap',rfl,_,_⟩:=k2.form (by omega)
       have ho:=(eS k2).mono hB
       refine ⟨some ⟨g',0,none⟩,cap',w',?_,?_,⟨k3.os,k3.tape,k3.output,k3.size,fun k hk _=>k3.block k hk (by simp)⟩,fun k hk=>.inr (mE (eS k2) k (by cases cap' <;> first | exact hk | (simp [aL] at hk)))⟩
       · rw [k1];simp [hm]
       · simp only [VA,VB,VN,← hm];exact ho
     · obtain ⟨v',w',k1,k2,k3,_,k5⟩:=run_append_own_at (P:=P) w B t ty e i z 1 bytes ht hi hz hsz hby hzs (by decide) _ n xs hown' ⟨b2,o2,none⟩ m c2 news (by omega) hnews h1 (by omega) (by rw [hn,hm];exact hb) hB
       obtain ⟨g',cap',rfl,_,_⟩:=k2.form (by omega)
       obtain ⟨c',rfl⟩:∃ c',c=c'+1:=⟨c - 1,by omega⟩
       refine ⟨some ⟨g',0,none⟩,cap',w',?_,?_,?_,fun k hk=>?_⟩
       · rw [k1];simp [hm,hn]
       · rw [← hm,← hn];exact eS k2
       · exact k3
       · cases cap' with
         | zero=>simp [aL] at hk
         | succ q =>
           have hk':g'=k:=by simpa [aL] using hk
           subst hk'
           rcases k5 with h | h
           · exact .inl (h.symm.trans rfl)
           · exact .inr (Nat.le_of_eq (Option.some.inj h).symm)
section
variable {P:Program}{ops:Array Oper}{rest:List Oper}{o:Oper}{a:Act}{Q:Exit→Act→World→Prop}{w w0:World}
theorem BI {t e:TypeId}{bytes B:Nat} (he:IE P t e bytes) {v src:Value}{xs news:List Value} (hown:Own w B e v xs) (hr:Rd w src news) (h1:∀ u ∈ news,u.oneCell'=true)
 (hbel:Below B w0 w) (hb:(xs.length+news.length)*bytes≤140737488355328) (h63:xs.length+news.length≤maxLen) (hB:B≤w.heap.size)
 {s x:Operand} (hgd:o.guard=none) (ho:o.op=.call { callee:=.builtin .append,args:=#[s,x],argTypes:=#[t,t] }) (hs:a.eval s=v) (hx:a.eval x=src)
 (h:∀ A c w',Own w' B e (.slice A (xs.length+news.length) c) (xs++news)→Below B w0 w'→w.grownBy w' (aL v)→(∀ k,aL (.slice A (xs.length+news.length) c)=some k→aL v=some k ∨ w.heap.size≤k)→wpList P ops Q rest (a.put o.dst (.slice A (xs.length+news.length) c)) w'):wpList P ops Q (o::rest) a w :=
 wpList_plain hgd fun _ hK=>by
  obtain ⟨A,c,w',hrun,h2,h3,h4⟩:=LN (P:=P) (ty:=o.type) he hown hr h1 hb h63 hB
  unfold Oper.wp execOp
  simp only [ho,resolve,invoke,builtin,Sem.run_bind,Sem.run_pure,Result.andThen_ok,List.map_toArray,List.map_cons,List.map_nil,hs,hx,hrun]
  exact hK _ _ (h A c w' h2 (hbel.grown h3 hB (mE hown)) h3 h4)
end
section
variable {ops:Array Oper}{rest:List Oper}{o:Oper}{a:Act}{Q:Exit→Act→World→Prop}{w w0:World}
theorem appR {B:Nat}{v src:Value}{xs ys:List UInt8} (hown:Own w B 5 v (bvs xs)) (hr:Rd w src (bvs ys)) (hbel:Below B w0 w) (hb:xs.length+ys.length≤140737488355328) (hB:B≤w.heap.size)
 {s x:Operand} (hgd:o.guard=none) (ho:o.op=.call { callee:=.builtin .append,args:=#[s,x],argTypes:=#[89,89] }) (hs:a.eval s=v) (hx:a.eval x=src)
 (h:∀ A n c w',Hid (n=xs.length+ys.length)→Own w' B 5 (.slice A n c) (bvs (xs++ys))→Below B w0 w'→w.grownBy w' (aL v)→(∀ k,aL (.slice A n c)=some k→aL v=some k ∨ w.heap.size≤k)→wpList Tryz.prog ops Q rest (a.put o.dst (.slice A n c)) w'):wpList Tryz.prog ops Q (o::rest) a w :=
 BI LG hown hr (GH _) hbel (by simpa [bG] using hb) (xN (by simpa [bG] using hb)) hB hgd ho hs hx (by
  intro A c w' h1 h2 h3 h4
  simp only [bG,oR] at h1 h4 ⊢
  exact h A _ c w' (show _=_ from rfl) h1 h2 h3 h4)
end
end Go.Proofs.YtkjplpmogfmhkaaGreatDoor
namespace Go.Proofs.YtkjplpmogfmhkaaGreatDoor
open Go.RowKit
set_option linter.unusedVariables false
set_option maxRecDepth 100000
def iC (B lo hi:Nat) (W W':World):Prop:=∀ b,(b<B ∨ (lo≤b∧b<hi))→W'.heap[b]?=W.heap[b]?
theorem iC.refl (B lo hi:Nat) (W:World):iC B lo hi W W:=fun _ _=>rfl
theorem iC.ext {B lo hi:Nat}{W W' W'':World} (h:iC B lo hi W W') (e:Ext W' W'') (hB:B≤W'.heap.size) (hh:hi≤W'.heap.size):iC B lo hi W W'':=fun b hb=>(e.block b (by omega)).trans (h b hb)
theorem iC.grown {B lo hi:Nat}{W W' W'':World}{row:Option Nat} (h:iC B lo hi W W') (g:W'.grownBy W'' row) (hB:B≤W'.heap.size) (hh:hi≤W'.heap.size) (hr:∀ k,row=some k→B≤k∧(k<lo ∨ hi≤k)):iC B lo hi W W'':=fun b hb =>
 (g.block b (by omega) (fun he=>by obtain ⟨h1,h2⟩:=hr b he.symm;omega)).trans (h b hb)
theorem iC.cell {B lo hi:Nat}{W W':World} (h:iC B lo hi W W') {b o:Nat}{v:Value} (hb:b<B ∨ (lo≤b∧b<hi)) (hc:W.cell? ⟨b,o,none⟩=some v):W'.cell? ⟨b,o,none⟩=some v:=by
 rw [← hc]
 exact World.cell?_of_block (h b hb)
theorem iC.rdB {w W W':World}{lo hi:Nat}{v:Value}{xs:List Value} (h:iC w.heap.size lo hi W W') (r:Rd w v xs) (e:Ext w W):Rd W' v xs :=
 r.keep fun p hp=>(World.cell?_of_block (h _ (.inl hp))).trans (e.cell hp)
theorem iC.rdO {B lo lo':Nat}{W W':World}{e:TypeId}{v:Value}{xs:List Value} (h:iC B lo W.heap.size W W') (r:Own W lo' e v xs) (hlo:lo≤lo'):Rd W' v xs:=by
 obtain ⟨A,n,c,rfl,hn,q | ⟨g,cur,rfl,h1,hg,hr⟩⟩:=r
 · exact (show Own W' lo' e (.slice A n c) xs from ⟨A,n,c,rfl,hn,.inl q⟩).rd
 · exact (show Own W' lo' e _ xs from ⟨_,n,c,rfl,hn,.inr ⟨g,cur,rfl,h1,(h g (.inr ⟨V9 hlo h1,a9 hg⟩)).trans hg,hr⟩⟩).rd
theorem iV {w:World}{B:Nat}{e:TypeId}{v:Value}{xs:List Value} (h:Own w B e v xs):∀ k,aL v=some k→k<w.heap.size:=by
 obtain ⟨A,n,c,rfl,hn,⟨rfl,rfl⟩ | ⟨g,cur,rfl,hb,hg,_⟩⟩:=h
 · intro k hk;cases A <;> simp [aL] at hk
 · intro k hk
   cases c with
   | zero=>simp [aL] at hk
   | succ c =>
     have:=a9 hg
     simp [aL] at hk
     omega
section
variable {ops:Array Oper}{rest:List Oper}{o:Oper}{a:Act}{Q:Exit→Act→World→Prop}{w w0 W:World}
theorem iD {lo hi:Nat}{A0:Option Addr}{n0 c0:Nat}{src:Value}{xs ys:List UInt8} (hown:Own w w0.heap.size 5 (.slice A0 n0 c0) (bvs xs)) (hr:Rd w src (bvs ys)) (hbel:Ext w0 w) (hK:iC w0.heap.size lo hi W w)
 (hR:∀ k,aL (.slice A0 n0 c0)=some k→k<lo ∨ hi≤k) (hhi:hi≤w.heap.size) (hb:xs.length+ys.length≤140737488355328)
 {s x:Operand} (hgd:o.guard=none) (ho:o.op=.call { callee:=.builtin .append,args:=#[s,x],argTypes:=#[89,89] }) (hs:a.eval s=.slice A0 n0 c0) (hx:a.eval x=src)
 (h:∀ A n c w',Hid (n=xs.length+ys.length)→Own w' w0.heap.size 5 (.slice A n c) (bvs (xs++ys))→Ext w0 w'→iC w0.heap.size lo hi W w'→(∀ k,aL (.slice A n c)=some k→k<lo ∨ hi≤k)→hi≤w'.heap.size→wpList Tryz.prog ops Q rest (a.put o.dst (.slice A n c)) w'):wpList Tryz.prog ops Q (o::rest) a w :=
 appR hown hr hbel hb hbel.size hgd ho hs hx (by
  intro A n c w' h1 h2 h3 h4 h5
  refine h A n c w' h1 h2 h3 (hK.grown h4 hbel.size hhi fun k hk=>⟨mE hown k hk,hR k hk⟩) (fun k hk=>?_) (V9 hhi h4.size)
  rcases h5 k hk with q | q
  · exact hR k q
  · exact .inr (by omega))
end
theorem jR (d:Nat) (ts:List Nd) (k:Nat):(cA d (ts.take k)).length≤(cA d ts).length:=by
 cases d with
 | zero=>exact UX _
 | succ d =>
   rw [iI,iI]
   conv=>rhs;rw [← List.take_append_drop k ts]
   rw [List.flatMap_append,V5]
   omega
set_option maxHeartbeats 4000000 in
theorem LP:∀ (d:Nat) (ts:List Nd) (w:World) (v:Value),lU d ts→fP d w v ts→(cA d ts).length≤65000→Calls Tryz.prog 209 #[v] w (gP w (cA d ts)):=by
 intro d
 induction d with
 | zero =>
   intro ts w v hok hr hlen
   obtain ⟨rfl,A,c,rfl,hcm⟩:=hr
   go_enter Tryz.func209,Tryz.ntmps209
   go_wp2
   go_loopw [3,9] (fun out i wr=>out=.slice none 0 0∧i=.int .i64 0∧wr=w) (fun _ i _=>0)
   case atStart=>exact ⟨rfl,rfl,rfl⟩
   case round =>
    obtain ⟨rfl,rfl,rfl⟩:=hrel
    go_wp2
    go_ret
    exact ⟨_,_,_,rfl,(show _=_ from rfl),yU _ _,Below.refl _ _⟩
 | succ d IH =>
   intro ts w v hok hr hlen
   have IH':=VR IH
   obtain ⟨A,n,c,rfl,hn,hnc,hcm,hel⟩:=hr.open_
   subst hn
   unfold maxLen at hcm
   clear hr IH
   have HE:=VR hel
   have HO:=VR hok
   have HK:=VR hlen
   clear hel hok hlen
   go_enter Tryz.func209,Tryz.ntmps209
   go_wp2
   go_loopw [3,5,6,9] (fun out _ _ i wr=>∃ (j:Nat) (A':Option Addr) (n' c':Nat),j≤ts.length∧i=.int .i64 (j:Int)∧out=.slice A' n' c'∧Hid (n'=(cA (d+1) (ts.take j)).length)∧Own wr w.heap.size 5 (.slice A' n' c') (bvs (cA (d+1) (ts.take j)))∧Ext w wr) (fun _ _ _ i _=>ts.length - (intOf i).toNat)
   case atStart=>exact ⟨0,none,0,0,V7 _,rfl,rfl,rfl,yU _ _,Below.refl _ _⟩
   case round =>
    obtain ⟨j,A',n',c',hj,rfl,rfl,hn',o,bb⟩:=hrel
    by_cases hlt:j<ts.length
    · obtain ⟨t,ht⟩:∃ t,ts[j]?=some t:=⟨_,V8 hlt⟩
      obtain ⟨d',hd',b,of,rfl,hbl,A1,n1,c1,A2,n2,c2,e0,e1,e2,r1,r2⟩:=HE.out j t ht
      obtain rfl:d=d':=by omega
      obtain ⟨⟨t0,t1⟩,hv,hcv,hck,hko⟩:=HO.out t (VD ht)
      have l0:=(bb.cell (p:=⟨b,of+j*3,none⟩) hbl).trans e0
      have l1:=(bb.cell (p:=⟨b,of+j*3+1,none⟩) hbl).trans e1
      have l2:=(bb.cell (p:=⟨b,of+j*3+2,none⟩) hbl).trans e2
      have ET:=VR (uD (d:=d) ht)
      have EL:=jR (d+1) ts (j+1)
      rw [ET.out,V5] at EL
      have EL2:=VR (V9 EL HK.out)
      clear EL
      have hsh':(bR d t).length≤65000:=by
       have:=EL2.out
       have h5:(bR d t).length≤(nZ d t).length:=by unfold nZ;simp only [V5];omega
       omega
      have hgp:=bb.size
      have EN:(cA (d+1) (ts.take j)).length≤65000:=V9 (Nat.le_add_right _ _) EL2.out
      have wi1:IntKind.i64.wrap ((j:Int))=(j:Int):=IntWalk.i64_in _ (by omega)
      have zi1:(0:Int)≤(j:Int):=by omega
      have li1:(j:Int)<(ts.length:Int):=by omega
      have ti1:((j:Int)).toNat=j:=by omega
      go_wp2_with fail
      obtain ⟨wx,hwx⟩:∃ wx,wx=wr.alloc (.cells #[.int .i64 t.tag,.slice A1 n1 c1,.slice A2 n2 c2] 180):=⟨_,rfl⟩
      rw [← hwx]
      have bx:Ext wr wx:=by rw [hwx];exact (Below.refl _ _).alloc (UX _) _
      have hxs:wr.heap.size<wx.heap.size:=by rw [hwx];simp
      have x0:wx.cell? ⟨wr.heap.size,0,none⟩=some (.int .i64 t.tag):=by rw [hwx];go_simp
      have x1:wx.cell? ⟨wr.heap.size,1,none⟩=some (.slice A1 n1 c1):=by rw [hwx];go_simp
      have x2:wx.cell? ⟨wr.heap.size,2,none⟩=some (.slice A2 n2 c2):=by rw [hwx];go_simp
      clear hwx l0 l1 l2
      refine (BE _ _ t0 t1).mono ?_
      rintro e w' ⟨rfl,rfl⟩
      obtain ⟨q,hq⟩:∃ q,dU t.tag=q:=⟨_,rfl⟩
      rw [hq]
      cases q
      · have hct:bR d t=t.val:=by unfold bR;rw [hq];rfl
        have hn1:n1=(bR d t).length:=by
         obtain ⟨A'',n'',c'',e,hn,_⟩:=r1
         injection e with _ e _
         rw [hct,e,hn,bG]
        have RC:∀ W',iC w.heap.size wr.heap.size wx.heap.size wx W'→Rd W' (.slice A1 n1 c1) (bvs (bR d t)):=fun W' h=>by rw [hct];exact h.rdB r1 (bb.tr bx)
        have b6:Ext wr wx:=bx
        clear hct hcv hck hq e0 e1 e2
        obtain ⟨wy,hwy⟩:∃ wy,wy=wx:=⟨_,rfl⟩
        subst hwy
        have hxy:=hxs
        have HL:=fun W=>uF n1 W (by omega)
        rw [show gH n1=gH (bR d t).length by rw [hn1]] at HL
        have HLL:=VR HL
        have HN1:=VR hn1
        clear HL hn1
        have sz:=b6.size
        by_cases hl:255<t.tag
        · have h81:t.tag / 256 % 256=t.tag / 256:=by omega
          have ht8:lA t.tag=[u8 (t.tag / 256)]++[u8 t.tag]:=by rw [lA,if_pos hl];rfl
          have a1:Ext wy (wy.alloc (.cells #[.int .u8 (t.tag / 256)] 5)):=(Below.refl _ _).alloc (UX _) _
          go_wp2_with (first
           | (refine iD (lo:=wr.heap.size) (hi:=wy.heap.size) (W:=wy) ((o.ext b6).ext a1) (Own.oneC wy (u8 (t.tag / 256)) (t.tag / 256) (by rw [eY];omega)).rd ((bb.tr b6).tr a1) ((iC.refl _ _ _ _).ext a1 (by omega) (UX _)) (fun k hk=>.inl (iV o k hk)) a1.size (by simp only [VC,VA];omega) rfl rfl rfl rfl ?_;intro A7 n7 c7 w7 hn7 o7 (b7:Ext _ _) K7 R7 s7;have y7:=K7.cell (b:=wr.heap.size) (o:=0) (.inr ⟨UX _,hxy⟩) x0;have a7:Ext w7 (w7.alloc (.cells #[.int .u8 (t.tag % 256)] 5)):=(Below.refl _ _).alloc (UX _) _)
           | (refine iD (lo:=wr.heap.size) (hi:=wy.heap.size) (W:=wy) (o7.ext a7) (Own.oneC w7 (u8 t.tag) (t.tag % 256) (by rw [eY])).rd (b7.tr a7) (K7.ext a7 b7.size s7) R7 (V9 s7 a7.size) (by simp only [V5,VC,VA];omega) rfl rfl rfl rfl ?_;intro A8 n8 c8 w8 hn8 o8 (b8:Ext _ _) K8 R8 s8)
           | (go_at_call 255;refine (HLL.out _).mono ?_;rintro e w9 ⟨A9,n9,c9,rfl,hn9,o9,b9⟩;have K9:=K8.ext b9 b8.size s8)
           | (refine iD (lo:=wr.heap.size) (hi:=wy.heap.size) (W:=wy) (o8.ext b9) o9.rd (b8.tr b9) K9 R8 (V9 s8 b9.size) (by have:=eW (bR d t).length;simp only [V5,VC,VA];omega) rfl rfl rfl rfl ?_;intro Aa na ca wa hna oa (ba:Ext _ _) Ka Ra sa)
           | (refine iD (lo:=wr.heap.size) (hi:=wy.heap.size) (W:=wy) oa (RC _ Ka) ba Ka Ra sa (by have:=eW (bR d t).length;simp only [V5,VC,VA];omega) rfl rfl rfl rfl ?_;intro Ab nb cb wb hnb ob (bB:Ext _ _) Kb Rb sb))
          have EE:cA (d+1) (ts.take (j+1))=cA (d+1) (ts.take j)++[u8 (t.tag / 256)]++[u8 t.tag]++gH (bR d t).length++bR d t:=by rw [ET.out,nZ,ht8];simp only [VF]
          go_roundw
          case rel=>exact ⟨j+1,Ab,nb,cb,by omega,by go_num,rfl,(show _=_ by rw [EE,hnb.out];simp only [V5]),by rw [EE];exact ob,bB⟩
          case measure=>simp [intOf];omega
        · have ht8:lA t.tag=[u8 t.tag]:=by rw [lA,if_neg hl]
          have a7:Ext wy (wy.alloc (.cells #[.int .u8 t.tag] 5)):=(Below.refl _ _).alloc (UX _) _
          go_wp2_with (first
           | (refine iD (lo:=wr.heap.size) (hi:=wy.heap.size) (W:=wy) ((o.ext b6).ext a7) (Own.oneC wy (u8 t.tag) t.tag (by rw [eY];omega)).rd ((bb.tr b6).tr a7) ((iC.refl _ _ _ _).ext a7 (by omega) (UX _)) (fun k hk=>.inl (iV o k hk)) a7.size (by simp only [VC,VA];omega) rfl rfl rfl rfl ?_;intro A8 n8 c8 w8 hn8 o8 (b8:Ext _ _) K8 R8 s8)
           | (go_at_call 255;refine (HLL.out _).mono ?_;rintro e w9 ⟨A9,n9,c9,rfl,hn9,o9,b9⟩;have K9:=K8.ext b9 b8.size s8)
           | (refine iD (lo:=wr.heap.size) (hi:=wy.heap.size) (W:=wy) (o8.ext b9) o9.rd (b8.tr b9) K9 R8 (V9 s8 b9.size) (by have:=eW (bR d t).length;simp only [V5,VC,VA];omega) rfl rfl rfl rfl ?_;intro Aa na ca wa hna oa (ba:Ext _ _) Ka Ra sa)
           | (refine iD (lo:=wr.heap.size) (hi:=wy.heap.size) (W:=wy) oa (RC _ Ka) ba Ka Ra sa (by have:=eW (bR d t).length;simp only [V5,VC,VA];omega) rfl rfl rfl rfl ?_;intro Ab nb cb wb hnb ob (bB:Ext _ _) Kb Rb sb))
          have EE:cA (d+1) (ts.take (j+1))=cA (d+1) (ts.take j)++[u8 t.tag]++gH (bR d t).length++bR d t:=by rw [ET.out,nZ,ht8];simp only [VF]
          go_roundw
          case rel=>exact ⟨j+1,Ab,nb,cb,by omega,by go_num,rfl,(show _=_ by rw [EE,hnb.out];simp only [V5]),by rw [EE];exact ob,bB⟩
          case measure=>simp [intOf];omega
      · have hct:bR d t=cA d t.kids:=by unfold bR;rw [hq];rfl
        have hkl:(cA d t.kids).length≤65000:=by rw [hct] at hsh';omega
        go_wp2_with fail
        refine (IH'.out t.kids wx _ hko (r2.ext (bb.tr bx)) hkl).mono ?_
        rintro e wy ⟨A1,n1,c1,rfl,hn1,oc,bxy⟩
        rw [← hct] at hn1 oc
        have x0:=(bxy.cell (p:=⟨wr.heap.size,0,none⟩) hxs).trans x0
        have hn1:n1=(bR d t).length:=hn1
        have RC:∀ W',iC w.heap.size wr.heap.size wy.heap.size wy W'→Rd W' (.slice A1 n1 c1) (bvs (bR d t)):=fun W' h=>h.rdO oc (Nat.le_of_lt hxs)
        have b6:Ext wr wy:=bx.tr bxy
        have hxy:=VG hxs bxy.size
        clear hct hcv hck hq e0 e1 e2 hkl x1 x2
        have HL:=fun W=>uF n1 W (by omega)
        rw [show gH n1=gH (bR d t).length by rw [hn1]] at HL
        have HLL:=VR HL
        have HN1:=VR hn1
        clear HL hn1
        have sz:=b6.size
        by_cases hl:255<t.tag
        · have h81:t.tag / 256 % 256=t.tag / 256:=by omega
          have ht8:lA t.tag=[u8 (t.tag / 256)]++[u8 t.tag]:=by rw [lA,if_pos hl];rfl
          have a1:Ext wy (wy.alloc (.cells #[.int .u8 (t.tag / 256)] 5)):=(Below.refl _ _).alloc (UX _) _
          go_wp2_with (first
           | (refine iD (lo:=wr.heap.size) (hi:=wy.heap.size) (W:=wy) ((o.ext b6).ext a1) (Own.oneC wy (u8 (t.tag / 256)) (t.tag / 256) (by rw [eY];omega)).rd ((bb.tr b6).tr a1) ((iC.refl _ _ _ _).ext a1 (by omega) (UX _)) (fun k hk=>.inl (iV o k hk)) a1.size (by simp only [VC,VA];omega) rfl rfl rfl rfl ?_;intro A7 n7 c7 w7 hn7 o7 (b7:Ext _ _) K7 R7 s7;have y7:=K7.cell (b:=wr.heap.size) (o:=0) (.inr ⟨UX _,hxy⟩) x0;have a7:Ext w7 (w7.alloc (.cells #[.int .u8 (t.tag % 256)] 5)):=(Below.refl _ _).alloc (UX _) _)
           | (refine iD (lo:=wr.heap.size) (hi:=wy.heap.size) (W:=wy) (o7.ext a7) (Own.oneC w7 (u8 t.tag) (t.tag % 256) (by rw [eY])).rd (b7.tr a7) (K7.ext a7 b7.size s7) R7 (V9 s7 a7.size) (by simp only [V5,VC,VA];omega) rfl rfl rfl rfl ?_;intro A8 n8 c8 w8 hn8 o8 (b8:Ext _ _) K8 R8 s8)
           | (go_at_call 255;refine (HLL.out _).mono ?_;rintro e w9 ⟨A9,n9,c9,rfl,hn9,o9,b9⟩;have K9:=K8.ext b9 b8.size s8)
           | (refine iD (lo:=wr.heap.size) (hi:=wy.heap.size) (W:=wy) (o8.ext b9) o9.rd (b8.tr b9) K9 R8 (V9 s8 b9.size) (by have:=eW (bR d t).length;simp only [V5,VC,VA];omega) rfl rfl rfl rfl ?_;intro Aa na ca wa hna oa (ba:Ext _ _) Ka Ra sa)
           | (refine iD (lo:=wr.heap.size) (hi:=wy.heap.size) (W:=wy) oa (RC _ Ka) ba Ka Ra sa (by have:=eW (bR d t).length;simp only [V5,VC,VA];omega) rfl rfl rfl rfl ?_;intro Ab nb cb wb hnb ob (bB:Ext _ _) Kb Rb sb))
          have EE:cA (d+1) (ts.take (j+1))=cA (d+1) (ts.take j)++[u8 (t.tag / 256)]++[u8 t.tag]++gH (bR d t).length++bR d t:=by rw [ET.out,nZ,ht8];simp only [VF]
          go_roundw
          case rel=>exact ⟨j+1,Ab,nb,cb,by omega,by go_num,rfl,(show _=_ by rw [EE,hnb.out];simp only [V5]),by rw [EE];exact ob,bB⟩
          case measure=>simp [intOf];omega
        · have ht8:lA t.tag=[u8 t.tag]:=by rw [lA,if_neg hl]
          have a7:Ext wy (wy.alloc (.cells #[.int .u8 t.tag] 5)):=(Below.refl _ _).alloc (UX _) _
          go_wp2_with (first
           | (refine iD (lo:=wr.heap.size) (hi:=wy.heap.size) (W:=wy) ((o.ext b6).ext a7) (Own.oneC wy (u8 t.tag) t.tag (by rw [eY];omega)).rd ((bb.tr b6).tr a7) ((iC.refl _ _ _ _).ext a7 (by omega) (UX _)) (fun k hk=>.inl (iV o k hk)) a7.size (by simp only [VC,VA];omega) rfl rfl rfl rfl ?_;intro A8 n8 c8 w8 hn8 o8 (b8:Ext _ _) K8 R8 s8)
           | (go_at_call 255;refine (HLL.out _).mono ?_;rintro e w9 ⟨A9,n9,c9,rfl,hn9,o9,b9⟩;have K9:=K8.ext b9 b8.size s8)
           | (refine iD (lo:=wr.heap.size) (hi:=wy.heap.size) (W:=wy) (o8.ext b9) o9.rd (b8.tr b9) K9 R8 (V9 s8 b9.size) (by have:=eW (bR d t).length;simp only [V5,VC,VA];omega) rfl rfl rfl rfl ?_;intro Aa na ca wa hna oa (ba:Ext _ _) Ka Ra sa)
           | (refine iD (lo:=wr.heap.size) (hi:=wy.heap.size) (W:=wy) oa (RC _ Ka) ba Ka Ra sa (by have:=eW (bR d t).length;simp only [V5,VC,VA];omega) rfl rfl rfl rfl ?_;intro Ab nb cb wb hnb ob (bB:Ext _ _) Kb Rb sb))
          have EE:cA (d+1) (ts.take (j+1))=cA (d+1) (ts.take j)++[u8 t.tag]++gH (bR d t).length++bR d t:=by rw [ET.out,nZ,ht8];simp only [VF]
          go_roundw
          case rel=>exact ⟨j+1,Ab,nb,cb,by omega,by go_num,rfl,(show _=_ by rw [EE,hnb.out];simp only [V5]),by rw [EE];exact ob,bB⟩
          case measure=>simp [intOf];omega
    · obtain rfl:j=ts.length:=by omega
      rw [List.take_length] at o hn'
      go_wp2
      go_ret
      exact ⟨_,_,_,rfl,hn',o,bb⟩
set_option maxHeartbeats 1000000 in
theorem xQ {d:Nat}{ts:List Nd}{v:Value} (w:World) (hok:lU d ts) (hr:fP d w v ts) (hd:d≤8) (hc:bW d ts≤256) (hl:(cA d ts).length≤4096) :
 Calls Tryz.prog 150 #[v] w (xP w (cA d ts) 0):=by
 obtain ⟨A,n,c,hv,hn,hnc,hcm,_⟩:=hr.open_
 have hr':=VR hr
 have hok':=VR hok
 subst hv hn
 clear hr hok
 go_enter Tryz.func150,Tryz.ntmps150
 go_wp2_with fail
 have c0:iF (w.alloc (.cells #[.int .i64 0] 3)) w.heap.size 0:=by unfold iF;exact aC w _
 refine (LJ d ts w _ _ 0 1 hok'.out hr'.out ((Below.refl _ _).alloc (UX _) _) c0 (by omega) (by omega) (by omega) (by omega)).mono ?_
 rintro e w1 ⟨rfl,b1,c1⟩
 rw [Int.zero_add] at c1
 have q1:=c1.cell
 have hc':(bW d ts:Int)≤256:=by omega
 go_wp2_with fail
 refine (LP d ts w1 _ hok'.out (hr'.out.below b1) (by omega)).mono ?_
 rintro e w2 ⟨A2,n2,c2,rfl,hn2,o2,b2⟩
 have hn2':(n2:Int)≤4096:=by rw [hn2.out];omega
 go_wp2
 go_ret2
 exact ⟨_,_,_,rfl,hn2,o2.mono b1.size,b1.trans (b2.mono b1.size)⟩
set_option maxHeartbeats 4000000 in
theorem BJ:∀ (d:Nat) (ts:List Nd) (w:World) (v:Value) (dep:Int),lU d ts→fP d w v ts→0≤dep→dep+(d:Int)≤9 →
 Calls Tryz.prog 212 #[v,.int .i64 dep] w (eP w (.int .i64 0)):=by
 intro d
 induction d with
 | zero =>
   intro ts w v dep hok hr d0 d1
   obtain ⟨rfl,A,c,rfl,hcm⟩:=hr
   go_enter Tryz.func212,Tryz.ntmps212
   go_wp2
   go_loopw [5] (fun i wr=>i=.int .i64 0∧wr=w) (fun i _=>0)
   case atStart=>exact ⟨rfl,rfl⟩
   case round =>
    obtain ⟨rfl,rfl⟩:=hrel
    go_wp2
    go_ret
    exact ⟨rfl,Below.refl _ _⟩
 | succ d IH =>
   intro ts w v dep hok hr d0 d1
   have IH':=VR IH
   obtain ⟨A,n,c,rfl,hn,hnc,hcm,hel⟩:=hr.open_
   subst hn
   unfold maxLen at hcm
   clear hr IH
   have HE:=VR hel
   have HO:=VR hok
   clear hel hok
   go_enter Tryz.func212,Tryz.ntmps212
   go_wp2
   go_loopw [5,6,7,18,23,45] (fun i _ _ _ _ _ wr=>∃ j:Nat,j≤ts.length∧i=.int .i64 (j:Int)∧Ext w wr) (fun i _ _ _ _ _ _=>ts.length - (intOf i).toNat)
   case atStart=>exact ⟨0,V7 _,rfl,Below.refl _ _⟩
   case round =>
    obtain ⟨j,hj,rfl,bb⟩:=hrel
    by_cases hlt:j<ts.length
    · obtain ⟨t,ht⟩:∃ t,ts[j]?=some t:=⟨_,V8 hlt⟩
      obtain ⟨d',hd',b,o,rfl,hbl,A1,n1,c1,A2,n2,c2,e0,e1,e2,r1,r2⟩:=HE.out j t ht
      obtain rfl:d=d':=by omega
      obtain ⟨⟨t0,t1⟩,hv,hcv,hck,hko⟩:=HO.out t (VD ht)
      have l0:=(bb.cell (p:=⟨b,o+j*3,none⟩) hbl).trans e0
      have l1:=(bb.cell (p:=⟨b,o+j*3+1,none⟩) hbl).trans e1
      have l2:=(bb.cell (p:=⟨b,o+j*3+2,none⟩) hbl).trans e2
      have wi1:IntKind.i64.wrap ((j:Int))=(j:Int):=IntWalk.i64_in _ (by omega)
      have zi1:(0:Int)≤(j:Int):=by omega
      have li1:(j:Int)<(ts.length:Int):=by omega
      have ti1:((j:Int)).toNat=j:=by omega
      go_wp2_with fail
      obtain ⟨wx,hwx⟩:∃ wx,wx=wr.alloc (.cells #[.int .i64 t.tag,.slice A1 n1 c1,.slice A2 n2 c2] 180):=⟨_,rfl⟩
      rw [← hwx]
      have bx:Ext wr wx:=by rw [hwx];exact (Below.refl _ _).alloc (UX _) _
      have x0:wx.cell? ⟨wr.heap.size,0,none⟩=some (.int .i64 t.tag):=by rw [hwx];go_simp
      have x1:wx.cell? ⟨wr.heap.size,1,none⟩=some (.slice A1 n1 c1):=by rw [hwx];go_simp
      have x2:wx.cell? ⟨wr.heap.size,2,none⟩=some (.slice A2 n2 c2):=by rw [hwx];go_simp
      clear hwx l0 l1 l2
      have hz1:dU t.tag=true→n1=0:=fun h=>by
       obtain ⟨A',n',c',e,hn,_⟩:=r1
       injection e with _ e _
       rw [hcv h] at hn
       exact e.trans hn
      have hz2:dU t.tag=false→n2=0:=fun h=>by
       obtain ⟨A',n',c',e,hn,_⟩:=r2.open_
       injection e with _ e _
       rw [hck h] at hn
       exact e.trans hn
      have HC:=fun w=>rU t.tag w t0 t1
      obtain ⟨q,hq⟩:∃ q,dU t.tag=q:=⟨_,rfl⟩
      rw [hq] at hz1 hz2 HC
      have HV:=fun w=>jG t.tag w t0 t1
      rw [hv] at HV
      have HVV:=VR HV
      have HCC:=VR HC
      clear hv hcv hck hq HV HC
      have hd9:dep≤8:=by omega
      refine (HVV.out _).mono ?_
      rintro e w' ⟨rfl,rfl⟩
      cases q
      · obtain rfl:n2=0:=hz2 rfl
        clear hz1 hz2
        go_wp2_with (go_at_call 258;refine (HCC.out _).mono ?_;rintro e w' ⟨rfl,rfl⟩)
        refine (IH'.out t.kids wx _ (dep+1) hko (r2.ext (bb.tr bx)) (by omega) (by omega)).mono ?_
        rintro e wy ⟨rfl,by_⟩
        go_wp2_with fail
        go_roundw
        case rel=>exact ⟨j+1,by omega,by go_num,(bb.tr bx).tr by_⟩
        case measure=>simp [intOf];omega
      · obtain rfl:n1=0:=hz1 rfl
        clear hz1 hz2
        go_wp2_with (go_at_call 258;refine (HCC.out _).mono ?_;rintro e w' ⟨rfl,rfl⟩)
        refine (IH'.out t.kids wx _ (dep+1) hko (r2.ext (bb.tr bx)) (by omega) (by omega)).mono ?_
        rintro e wy ⟨rfl,by_⟩
        go_wp2_with fail
        go_roundw
        case rel=>exact ⟨j+1,by omega,by go_num,(bb.tr bx).tr by_⟩
        case measure=>simp [intOf];omega
    · obtain rfl:j=ts.length:=by omega
      go_wp2
      go_ret
      exact ⟨rfl,bb⟩
set_option maxHeartbeats 2000000 in
theorem BK:∀ (d:Nat) (ts:List Nd) (w:World) (v:Value),lU d ts→fP d w v ts→bW d ts≤256 →
 Calls Tryz.prog 213 #[v,.int .i64 256] w fun e w'=>e=.returned (.int .i64 (bW d ts:Int))∧w=w':=by
 intro d
 induction d with
 | zero =>
   intro ts w v hok hr hc
   obtain ⟨rfl,A,c,rfl,hcm⟩:=hr
   go_enter Tryz.func213,Tryz.ntmps213
   go_wp2
   go_loopw [5,6] (fun n i wr=>n=.int .i64 0∧i=.int .i64 0∧wr=w) (fun _ i _=>0)
   case atStart=>exact ⟨rfl,rfl,rfl⟩
   case round =>
    obtain ⟨rfl,rfl,rfl⟩:=hrel
    go_wp2
    go_ret
    exact ⟨rfl,rfl⟩
 | succ d IH =>
   intro ts w v hok hr hc
   have IH':=VR IH
   obtain ⟨A,n,c,rfl,hn,hnc,hcm,hel⟩:=hr.open_
   subst hn
   unfold maxLen at hcm
   clear hr IH
   have HE:=VR hel
   have HO:=VR hok
   have HC:=VR hc
   clear hel hok hc
   go_enter Tryz.func213,Tryz.ntmps213
   go_wp2
   go_loopw [5,6] (fun m i wr=>∃ j:Nat,j≤ts.length∧i=.int .i64 (j:Int)∧m=.int .i64 (bW (d+1) (ts.take j):Int)∧w=wr) (fun _ i _=>ts.length - (intOf i).toNat)
   case atStart=>exact ⟨0,V7 _,rfl,by simp [bW],rfl⟩
   case round =>
    obtain ⟨j,hj,rfl,rfl,rfl⟩:=hrel
    have hle:=uG (d+1) ts j
    have hle':(bW (d+1) (ts.take j):Int)≤256:=by have:=HC.out;omega
    have hm0:(0:Int)≤(bW (d+1) (ts.take j):Int):=Int.natCast_nonneg _
    by_cases hlt:j<ts.length
    · obtain ⟨t,ht⟩:∃ t,ts[j]?=some t:=⟨_,V8 hlt⟩
      obtain ⟨d',hd',b,o,rfl,hbl,A1,n1,c1,A2,n2,c2,e0,e1,e2,r1,r2⟩:=HE.out j t ht
      obtain rfl:d=d':=by omega
      obtain ⟨⟨t0,t1⟩,hv,hcv,hck,hko⟩:=HO.out t (VD ht)
      have hct:=uE (d:=d) ht
      have hle2:=uG (d+1) ts (j+1)
      have hk:bW d t.kids≤256:=by have:=HC.out;omega
      have hk':(bW d t.kids:Int)≤256:=by omega
      have hk0:(0:Int)≤(bW d t.kids:Int):=Int.natCast_nonneg _
      have HKK:=VR (show (bW (d+1) (ts.take (j+1)):Int)=(bW (d+1) (ts.take j):Int)+(1+(bW d t.kids:Int)) by rw [hct];push_cast;rfl)
      clear hct hle2 hle hv hcv hck e0 e1
      have wi2:IntKind.i64.wrap ((j:Int))=(j:Int):=IntWalk.i64_in _ (by omega)
      have zi2:(0:Int)≤(j:Int):=by omega
      have li2:(j:Int)<(ts.length:Int):=by omega
      have ti2:((j:Int)).toNat=j:=by omega
      go_wp2_with fail
      refine (IH'.out t.kids _ _ hko r2 hk).mono ?_
      rintro e wy ⟨rfl,rfl⟩
      go_wp2_with fail
      go_roundw
      case rel=>exact ⟨j+1,by omega,by go_num,by rw [HKK.out],by first | trivial | rfl⟩
      case measure=>simp [intOf];omega
    · obtain rfl:j=ts.length:=by omega
      rw [List.take_length] at hle' hm0 ⊢
      clear hle
      go_wp2
      go_ret
      exact ⟨rfl,rfl⟩
set_option maxHeartbeats 4000000 in
theorem RF:∀ (d:Nat) (ts:List Nd) (w:World) (v:Value),lU d ts→fP d w v ts→(cA d ts).length≤4096→Calls Tryz.prog 214 #[v] w (gP w (cA d ts)):=by
 intro d
 induction d with
 | zero =>
   intro ts w v hok hr hlen
   obtain ⟨rfl,A,c,rfl,hcm⟩:=hr
   go_enter Tryz.func214,Tryz.ntmps214
   go_wp2
   go_loopw [3,4] (fun out i wr=>out=.slice none 0 0∧i=.int .i64 0∧wr=w) (fun _ i _=>0)
   case atStart=>exact ⟨rfl,rfl,rfl⟩
   case round =>
    obtain ⟨rfl,rfl,rfl⟩:=hrel
    go_wp2
    go_ret
    exact ⟨_,_,_,rfl,(show _=_ from rfl),yU _ _,Below.refl _ _⟩
 | succ d IH =>
   intro ts w v hok hr hlen
   have IH':=VR IH
   obtain ⟨A,n,c,rfl,hn,hnc,hcm,hel⟩:=hr.open_
   subst hn
   unfold maxLen at hcm
   clear hr IH
   have HE:=VR hel
   have HO:=VR hok
   have HK:=VR hlen
   clear hel hok hlen
   go_enter Tryz.func214,Tryz.ntmps214
   go_wp2
   go_loopw [3,4,5] (fun out i _ wr=>∃ (j:Nat) (A':Option Addr) (n' c':Nat),j≤ts.length∧i=.int .i64 (j:Int)∧out=.slice A' n' c'∧Hid (n'=(cA (d+1) (ts.take j)).length)∧Own wr w.heap.size 5 (.slice A' n' c') (bvs (cA (d+1) (ts.take j)))∧Ext w wr) (fun _ i _ _=>ts.length - (intOf i).toNat)
   case atStart=>exact ⟨0,none,0,0,V7 _,rfl,rfl,rfl,yU _ _,Below.refl _ _⟩
   case round =>
    obtain ⟨j,A',n',c',hj,rfl,rfl,hn',o,bb⟩:=hrel
    have ho4:(n':Int)≤4096:=by
     have h1:=jR (d+1) ts j
     have h2:=HK.out
     have h3:=hn'.out
     omega
    by_cases hlt:j<ts.length
    · obtain ⟨t,ht⟩:∃ t,ts[j]?=some t:=⟨_,V8 hlt⟩
      obtain ⟨d',hd',b,of,rfl,hbl,A1,n1,c1,A2,n2,c2,e0,e1,e2,r1,r2⟩:=HE.out j t ht
      obtain rfl:d=d':=by omega
      obtain ⟨⟨t0,t1⟩,hv,hcv,hck,hko⟩:=HO.out t (VD ht)
      have l0:=(bb.cell (p:=⟨b,of+j*3,none⟩) hbl).trans e0
      have l1:=(bb.cell (p:=⟨b,of+j*3+1,none⟩) hbl).trans e1
      have l2:=(bb.cell (p:=⟨b,of+j*3+2,none⟩) hbl).trans e2
      have ET:=VR (uD (d:=d) ht)
      have EL:=jR (d+1) ts (j+1)
      rw [ET.out,V5] at EL
      have EL2:=VR (V9 EL HK.out)
      clear EL
      have hsh':(bR d t).length≤4096:=by
       have:=EL2.out
       have h5:(bR d t).length≤(nZ d t).length:=by unfold nZ;simp only [V5];omega
       omega
      have hgp:=bb.size
      have EN:(cA (d+1) (ts.take j)).length≤4096:=V9 (Nat.le_add_right _ _) EL2.out
      have wi1:IntKind.i64.wrap ((j:Int))=(j:Int):=IntWalk.i64_in _ (by omega)
      have zi1:(0:Int)≤(j:Int):=by omega
      have li1:(j:Int)<(ts.length:Int):=by omega
      have ti1:((j:Int)).toNat=j:=by omega
      go_wp2_with fail
      refine (rU _ _ t0 t1).mono ?_
      rintro e w' ⟨rfl,rfl⟩
      obtain ⟨q,hq⟩:∃ q,dU t.tag=q:=⟨_,rfl⟩
      rw [hq]
      cases q
      · have hct:bR d t=t.val:=by unfold bR;rw [hq];rfl
        have hn1:n1=(bR d t).length:=by
         obtain ⟨A'',n'',c'',e,hn,_⟩:=r1
         injection e with _ e _
         rw [hct,e,hn,bG]
        have RC:∀ W',iC w.heap.size wr.heap.size wr.heap.size wr W'→Rd W' (.slice A1 n1 c1) (bvs (bR d t)):=fun W' h=>by rw [hct];exact h.rdB r1 bb
        have b6:Ext wr wr:=Below.refl _ _
        clear hct hcv hck hq e1 e2 l0 l1 l2
        have HL:=fun W=>oD n1 W (by omega)
        rw [show gH n1=gH (bR d t).length by rw [hn1]] at HL
        have HLL:=VR HL
        have hn1b:(n1:Int)≤4096:=by omega
        have HN1:=VR hn1
        clear HL hn1
        have sz:=b6.size
        have l0:=((bb.tr b6).cell (p:=⟨b,of+j*3,none⟩) hbl).trans e0
        by_cases hl:255<t.tag
        · have h81:t.tag / 256 % 256=t.tag / 256:=by omega
          have ht8:lA t.tag=[Go.Proofs.YtkjplpmogfmhkaaGreatDoor.u8 (t.tag / 256)]++[Go.Proofs.YtkjplpmogfmhkaaGreatDoor.u8 t.tag]:=by rw [lA,if_pos hl];rfl
          have a1:Ext wr (wr.alloc (.cells #[.int .u8 (t.tag / 256)] 5)):=(Below.refl _ _).alloc (UX _) _
          go_wp2_with (first
           | (refine iD (lo:=wr.heap.size) (hi:=wr.heap.size) (W:=wr) ((o.ext b6).ext a1) (Own.oneC wr (Go.Proofs.YtkjplpmogfmhkaaGreatDoor.u8 (t.tag / 256)) (t.tag / 256) (by rw [eY];omega)).rd ((bb.tr b6).tr a1) ((iC.refl _ _ _ _).ext a1 (by omega) (UX _)) (fun k hk=>.inl (iV o k hk)) a1.size (by simp only [VC,VA];omega) rfl rfl rfl rfl ?_;intro A7 n7 c7 w7 hn7 o7 (b7:Ext _ _) K7 R7 s7;have y7:=(b7.cell (p:=⟨b,of+j*3,none⟩) hbl).trans e0;have a7:Ext w7 (w7.alloc (.cells #[.int .u8 (t.tag % 256)] 5)):=(Below.refl _ _).alloc (UX _) _)
           | (refine iD (lo:=wr.heap.size) (hi:=wr.heap.size) (W:=wr) (o7.ext a7) (Own.oneC w7 (Go.Proofs.YtkjplpmogfmhkaaGreatDoor.u8 t.tag) (t.tag % 256) (by rw [eY])).rd (b7.tr a7) (K7.ext a7 b7.size s7) R7 (V9 s7 a7.size) (by simp only [V5,VC,VA];omega) rfl rfl rfl rfl ?_;intro A8 n8 c8 w8 hn8 o8 (b8:Ext _ _) K8 R8 s8)
           | (go_at_call 259;refine (HLL.out _).mono ?_;rintro e w9 ⟨A9,n9,c9,rfl,hn9,o9,b9⟩;have K9:=K8.ext b9 b8.size s8)
           | (refine iD (lo:=wr.heap.size) (hi:=wr.heap.size) (W:=wr) (o8.ext b9) o9.rd (b8.tr b9) K9 R8 (V9 s8 b9.size) (by have:=eW (bR d t).length;simp only [V5,VC,VA];omega) rfl rfl rfl rfl ?_;intro Aa na ca wa hna oa (ba:Ext _ _) Ka Ra sa)
           | (refine iD (lo:=wr.heap.size) (hi:=wr.heap.size) (W:=wr) oa (RC _ Ka) ba Ka Ra sa (by have:=eW (bR d t).length;simp only [V5,VC,VA];omega) rfl rfl rfl rfl ?_;intro Ab nb cb wb hnb ob (bB:Ext _ _) Kb Rb sb))
          have EE:cA (d+1) (ts.take (j+1))=cA (d+1) (ts.take j)++[Go.Proofs.YtkjplpmogfmhkaaGreatDoor.u8 (t.tag / 256)]++[Go.Proofs.YtkjplpmogfmhkaaGreatDoor.u8 t.tag]++gH (bR d t).length++bR d t:=by rw [ET.out,nZ,ht8];simp only [VF]
          go_roundw
          case rel=>exact ⟨j+1,Ab,nb,cb,by omega,by go_num,rfl,(show _=_ by rw [EE,hnb.out];simp only [V5]),by rw [EE];exact ob,bB⟩
          case measure=>simp [intOf];omega
        · have ht8:lA t.tag=[Go.Proofs.YtkjplpmogfmhkaaGreatDoor.u8 t.tag]:=by rw [lA,if_neg hl]
          have a7:Ext wr (wr.alloc (.cells #[.int .u8 t.tag] 5)):=(Below.refl _ _).alloc (UX _) _
          go_wp2_with (first
           | (refine iD (lo:=wr.heap.size) (hi:=wr.heap.size) (W:=wr) ((o.ext b6).ext a7) (Own.oneC wr (Go.Proofs.YtkjplpmogfmhkaaGreatDoor.u8 t.tag) t.tag (by rw [eY];omega)).rd ((bb.tr b6).tr a7) ((iC.refl _ _ _ _).ext a7 (by omega) (UX _)) (fun k hk=>.inl (iV o k hk)) a7.size (by simp only [VC,VA];omega) rfl rfl rfl rfl ?_;intro A8 n8 c8 w8 hn8 o8 (b8:Ext _ _) K8 R8 s8)
           | (go_at_call 259;refine (HLL.out _).mono ?_;rintro e w9 ⟨A9,n9,c9,rfl,hn9,o9,b9⟩;have K9:=K8.ext b9 b8.size s8)
           | (refine iD (lo:=wr.heap.size) (hi:=wr.heap.size) (W:=wr) (o8.ext b9) o9.rd (b8.tr b9) K9 R8 (V9 s8 b9.size) (by have:=eW (bR d t).length;simp only [V5,VC,VA];omega) rfl rfl rfl rfl ?_;intro Aa na ca wa hna oa (ba:Ext _ _) Ka Ra sa)
           | (refine iD (lo:=wr.heap.size) (hi:=wr.heap.size) (W:=wr) oa (RC _ Ka) ba Ka Ra sa (by have:=eW (bR d t).length;simp only [V5,VC,VA];omega) rfl rfl rfl rfl ?_;intro Ab nb cb wb hnb ob (bB:Ext _ _) Kb Rb sb))
          have EE:cA (d+1) (ts.take (j+1))=cA (d+1) (ts.take j)++[Go.Proofs.YtkjplpmogfmhkaaGreatDoor.u8 t.tag]++gH (bR d t).length++bR d t:=by rw [ET.out,nZ,ht8];simp only [VF]
          go_roundw
          case rel=>exact ⟨j+1,Ab,nb,cb,by omega,by go_num,rfl,(show _=_ by rw [EE,hnb.out];simp only [V5]),by rw [EE];exact ob,bB⟩
          case measure=>simp [intOf];omega
      · have hct:bR d t=cA d t.kids:=by unfold bR;rw [hq];rfl
        have hkl:(cA d t.kids).length≤4096:=by rw [hct] at hsh';omega
        go_wp2_with fail
        refine (IH'.out t.kids wr _ hko (r2.ext bb) hkl).mono ?_
        rintro e wy ⟨A1,n1,c1,rfl,hn1,oc,bxy⟩
        rw [← hct] at hn1 oc
        have hn1:n1=(bR d t).length:=hn1
        have RC:∀ W',iC w.heap.size wr.heap.size wy.heap.size wy W'→Rd W' (.slice A1 n1 c1) (bvs (bR d t)):=fun W' h=>h.rdO oc (UX _)
        have b6:Ext wr wy:=bxy
        clear hct hcv hck hq e1 e2 hkl l0 l1 l2
        have HL:=fun W=>oD n1 W (by omega)
        rw [show gH n1=gH (bR d t).length by rw [hn1]] at HL
        have HLL:=VR HL
        have hn1b:(n1:Int)≤4096:=by omega
        have HN1:=VR hn1
        clear HL hn1
        have sz:=b6.size
        have l0:=((bb.tr b6).cell (p:=⟨b,of+j*3,none⟩) hbl).trans e0
        by_cases hl:255<t.tag
        · have h81:t.tag / 256 % 256=t.tag / 256:=by omega
          have ht8:lA t.tag=[Go.Proofs.YtkjplpmogfmhkaaGreatDoor.u8 (t.tag / 256)]++[Go.Proofs.YtkjplpmogfmhkaaGreatDoor.u8 t.tag]:=by rw [lA,if_pos hl];rfl
          have a1:Ext wy (wy.alloc (.cells #[.int .u8 (t.tag / 256)] 5)):=(Below.refl _ _).alloc (UX _) _
          go_wp2_with (first
           | (refine iD (lo:=wr.heap.size) (hi:=wy.heap.size) (W:=wy) ((o.ext b6).ext a1) (Own.oneC wy (Go.Proofs.YtkjplpmogfmhkaaGreatDoor.u8 (t.tag / 256)) (t.tag / 256) (by rw [eY];omega)).rd ((bb.tr b6).tr a1) ((iC.refl _ _ _ _).ext a1 (by omega) (UX _)) (fun k hk=>.inl (iV o k hk)) a1.size (by simp only [VC,VA];omega) rfl rfl rfl rfl ?_;intro A7 n7 c7 w7 hn7 o7 (b7:Ext _ _) K7 R7 s7;have y7:=(b7.cell (p:=⟨b,of+j*3,none⟩) hbl).trans e0;have a7:Ext w7 (w7.alloc (.cells #[.int .u8 (t.tag % 256)] 5)):=(Below.refl _ _).alloc (UX _) _)
           | (refine iD (lo:=wr.heap.size) (hi:=wy.heap.size) (W:=wy) (o7.ext a7) (Own.oneC w7 (Go.Proofs.YtkjplpmogfmhkaaGreatDoor.u8 t.tag) (t.tag % 256) (by rw [eY])).rd (b7.tr a7) (K7.ext a7 b7.size s7) R7 (V9 s7 a7.size) (by simp only [V5,VC,VA];omega) rfl rfl rfl rfl ?_;intro A8 n8 c8 w8 hn8 o8 (b8:Ext _ _) K8 R8 s8)
           | (go_at_call 259;refine (HLL.out _).mono ?_;rintro e w9 ⟨A9,n9,c9,rfl,hn9,o9,b9⟩;have K9:=K8.ext b9 b8.size s8)
           | (refine iD (lo:=wr.heap.size) (hi:=wy.heap.size) (W:=wy) (o8.ext b9) o9.rd (b8.tr b9) K9 R8 (V9 s8 b9.size) (by have:=eW (bR d t).length;simp only [V5,VC,VA];omega) rfl rfl rfl rfl ?_;intro Aa na ca wa hna oa (ba:Ext _ _) Ka Ra sa)
           | (refine iD (lo:=wr.heap.size) (hi:=wy.heap.size) (W:=wy) oa (RC _ Ka) ba Ka Ra sa (by have:=eW (bR d t).length;simp only [V5,VC,VA];omega) rfl rfl rfl rfl ?_;intro Ab nb cb wb hnb ob (bB:Ext _ _) Kb Rb sb))
          have EE:cA (d+1) (ts.take (j+1))=cA (d+1) (ts.take j)++[Go.Proofs.YtkjplpmogfmhkaaGreatDoor.u8 (t.tag / 256)]++[Go.Proofs.YtkjplpmogfmhkaaGreatDoor.u8 t.tag]++gH (bR d t).length++bR d t:=by rw [ET.out,nZ,ht8];simp only [VF]
          go_roundw
          case rel=>exact ⟨j+1,Ab,nb,cb,by omega,by go_num,rfl,(show _=_ by rw [EE,hnb.out];simp only [V5]),by rw [EE];exact ob,bB⟩
          case measure=>simp [intOf];omega
        · have ht8:lA t.tag=[Go.Proofs.YtkjplpmogfmhkaaGreatDoor.u8 t.tag]:=by rw [lA,if_neg hl]
          have a7:Ext wy (wy.alloc (.cells #[.int .u8 t.tag] 5)):=(Below.refl _ _).alloc (UX _) _
          go_wp2_with (first
           | (refine iD (lo:=wr.heap.size) (hi:=wy.heap.size) (W:=wy) ((o.ext b6).ext a7) (Own.oneC wy (Go.Proofs.YtkjplpmogfmhkaaGreatDoor.u8 t.tag) t.tag (by rw [eY];omega)).rd ((bb.tr b6).tr a7) ((iC.refl _ _ _ _).ext a7 (by omega) (UX _)) (fun k hk=>.inl (iV o k hk)) a7.size (by simp only [VC,VA];omega) rfl rfl rfl rfl ?_;intro A8 n8 c8 w8 hn8 o8 (b8:Ext _ _) K8 R8 s8)
           | (go_at_call 259;refine (HLL.out _).mono ?_;rintro e w9 ⟨A9,n9,c9,rfl,hn9,o9,b9⟩;have K9:=K8.ext b9 b8.size s8)
           | (refine iD (lo:=wr.heap.size) (hi:=wy.heap.size) (W:=wy) (o8.ext b9) o9.rd (b8.tr b9) K9 R8 (V9 s8 b9.size) (by have:=eW (bR d t).length;simp only [V5,VC,VA];omega) rfl rfl rfl rfl ?_;intro Aa na ca wa hna oa (ba:Ext _ _) Ka Ra sa)
           | (refine iD (lo:=wr.heap.size) (hi:=wy.heap.size) (W:=wy) oa (RC _ Ka) ba Ka Ra sa (by have:=eW (bR d t).length;simp only [V5,VC,VA];omega) rfl rfl rfl rfl ?_;intro Ab nb cb wb hnb ob (bB:Ext _ _) Kb Rb sb))
          have EE:cA (d+1) (ts.take (j+1))=cA (d+1) (ts.take j)++[Go.Proofs.YtkjplpmogfmhkaaGreatDoor.u8 t.tag]++gH (bR d t).length++bR d t:=by rw [ET.out,nZ,ht8];simp only [VF]
          go_roundw
          case rel=>exact ⟨j+1,Ab,nb,cb,by omega,by go_num,rfl,(show _=_ by rw [EE,hnb.out];simp only [V5]),by rw [EE];exact ob,bB⟩
          case measure=>simp [intOf];omega
    · obtain rfl:j=ts.length:=by omega
      rw [List.take_length] at o hn'
      go_wp2
      go_ret
      exact ⟨_,_,_,rfl,hn',o,bb⟩
set_option maxHeartbeats 1000000 in
theorem pM {d:Nat}{ts:List Nd}{v:Value} (w:World) (hok:lU d ts) (hr:fP d w v ts) (hd:d≤8) (hc:bW d ts≤256) (hl:(cA d ts).length≤4096) :
 Calls Tryz.prog 155 #[v] w (xP w (cA d ts) 0):=by
 obtain ⟨A,n,c,hv,hn,hnc,hcm,_⟩:=hr.open_
 have hr':=VR hr
 have hok':=VR hok
 subst hv hn
 clear hr hok
 go_enter Tryz.func155,Tryz.ntmps155
 go_wp2_with fail
 refine (BJ d ts w _ 1 hok'.out hr'.out (by omega) (by omega)).mono ?_
 rintro e w1 ⟨rfl,b1⟩
 have hc':(bW d ts:Int)≤256:=by omega
 go_wp2_with fail
 refine (BK d ts w1 _ hok'.out (hr'.out.ext b1) hc).mono ?_
 rintro e w1' ⟨rfl,rfl⟩
 go_wp2_with fail
 refine (RF d ts w1 _ hok'.out (hr'.out.ext b1) hl).mono ?_
 rintro e w2 ⟨A2,n2,c2,rfl,hn2,o2,b2⟩
 have hn2':(n2:Int)≤4096:=by rw [hn2.out];omega
 go_wp2
 go_ret2
 exact ⟨_,_,_,rfl,hn2,o2.mono b1.size,b1.tr b2⟩
end Go.Proofs.YtkjplpmogfmhkaaGreatDoor
