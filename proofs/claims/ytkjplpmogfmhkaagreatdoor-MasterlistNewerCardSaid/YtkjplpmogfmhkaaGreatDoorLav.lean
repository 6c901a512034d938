/- Parts Pko Zc Ja Jb Jc Je of the proof. -/
import Derived.Test.YtkjplpmogfmhkaaGreatDoorLar
import Derived.Laws.IdiomStrings
import Derived.Test.YtkjplpmogfmhkaaGreatDoorLaj
import Derived.Test.YtkjplpmogfmhkaaGreatDoorLak
import Derived.Deep.Cut
import Derived.Test.YtkjplpmogfmhkaaGreatDoorLaa
import Derived.Deep.CutRange
import Derived.Deep.CutBlock
import Derived.Test.YtkjplpmogfmhkaaGreatDoorLat
import Derived.Test.YtkjplpmogfmhkaaGreatDoorLas
import Derived.BigQuiet
namespace Go.Proofs.YtkjplpmogfmhkaaGreatDoor
open Go.RowKit
set_option linter.unusedVariables false
set_option maxRecDepth 100000
def ltT (c:TC):Prop:=c.au.length≤100∧c.ho.length≤100
instance (c:TC):Decidable (ltT c):=inferInstanceAs (Decidable (_∧_))
def mA (x:Int):Prop:=-9223372036854775808≤x∧x<9223372036854775808
def dR (w:World) (D b:Nat) (L:List Int):Prop :=
 ∃ (A:Option Addr) (n c k:Nat) (full:List Int),w.heap[D]?=some (.cells #[.slice A n c,.int .i64 (k:Int)] 217 (0,0))∧n=full.length∧k≤n∧L=full.drop k∧n≤c∧c≤maxLen∧b<w.heap.size∧(∀ x ∈ full,mA x) ∧
  (0<n→∃ o,A=some ⟨b,o,none⟩∧b≠D∧∀ j,j<n→w.cell? ⟨b,o+j,none⟩=some (.int .i64 (full.getD j 0)))
theorem dR.lt {w:World}{D b:Nat}{L:List Int} (h:dR w D b L):D<w.heap.size:=by
 obtain ⟨A,n,c,k,full,h1,_⟩:=h
 exact a9 h1
theorem dR.ltb {w:World}{D b:Nat}{L:List Int} (h:dR w D b L):b<w.heap.size:=by
 obtain ⟨A,n,c,k,full,h1,h2,h3,h4,h5,h6,h7,_⟩:=h
 exact h7
theorem dR.keep {w w':World}{D b:Nat}{L:List Int} (h:dR w D b L) (h1:w'.heap[D]?=w.heap[D]?) (h2:w'.heap[b]?=w.heap[b]?):dR w' D b L:=by
 obtain ⟨A,n,c,k,full,e1,e2,e3,e4,e5,e6,e7,e8,e9⟩:=h
 refine ⟨A,n,c,k,full,h1.trans e1,e2,e3,e4,e5,e6,?_,e8,fun h0=>?_⟩
 · have:w'.heap[b]?.isSome=true:=by rw [h2];simp [e7]
   simpa using this
 · obtain ⟨o,q1,q2,q3⟩:=e9 h0
   exact ⟨o,q1,q2,fun j hj=>(World.cell?_of_block h2).trans (q3 j hj)⟩
theorem dR.ext {w w':World}{D b:Nat}{L:List Int} (h:dR w D b L) (e:Ext w w'):dR w' D b L:=h.keep (e.block D h.lt) (e.block b h.ltb)
theorem dR.gb {w w':World}{D b g:Nat}{L:List Int} (h:dR w D b L) (e:Gb g w w') (h1:D≠g) (h2:b≠g):dR w' D b L :=
 h.keep (e.block D h.lt (fun q=>h1 (by injection q))) (e.block b h.ltb (fun q=>h2 (by injection q)))
def dv (L:List Int) (n:Int):Int:=match L with
 | []=>0
 | x::_=>eF x n
theorem pZ (L:List Int) {n:Int} (h:1≤n):0≤dv L n∧dv L n<n:=by
 cases L with
 | nil=>exact ⟨Int.le_refl _,by show (0:Int)<n;omega⟩
 | cons x L=>exact iP h
def RR (w:World) (D b:Nat) (L:List Int) (n:Int) (e:Ending) (w':World):Prop:=e=.returned (.int .i64 (dv L n))∧Gb D w w'∧dR w' D b L.tail∧w'.heap.size=w.heap.size
theorem QU:IE Tryz.prog 41 3 8:=by
 have h:(Tryz.prog.info? 3).map (fun i=>(i.zero,i.size,i.bytes))=some (some (.int .i64 0),1,8):=by kernel_rfl
 obtain ⟨i,h1,h2,h3,h4⟩:=info_parts h
 exact ⟨i,_,Tryz.underlying41,h1,h2,h3,h4,rfl⟩
theorem F6 {v:Value}{l:List Int} (w:World) (h:RdI w .i64 v l):Calls Tryz.prog 26 #[v] w fun e w'=>e=.returned (.bool (decide (l.length≤80)))∧w=w':=by
 obtain ⟨A,n,c,rfl,hn,hnc,hcm,hA⟩:=h.ints
 subst hn
 clear hA h
 have H:=VR (show decide (l.length≤80)=decide ((l.length:Int)≤80) from decide_eq_decide.2 (by omega))
 go_enter Tryz.func26,Tryz.ntmps26
 go_wp2
 go_ret
 exact ⟨by rw [H.out];rfl,rfl⟩
theorem PU {w:World}{B:Nat}{A:Option Addr}{n c:Nat}{l:List Int} (h:Own w B 3 (.slice A n c) (l.map (Value.int .i64))) (hB:B≤w.heap.size) (hw:∀ x ∈ l,mA x) :
 ∃ b,B≤b∧dR (w.alloc (.cells #[.slice A n c,.int .i64 0] 217)) w.heap.size b l:=by
 have e:Ext w (w.alloc (.cells #[.slice A n c,.int .i64 0] 217)):=(Below.refl _ _).alloc (UX _) _
 obtain ⟨A',n',c',hv,hn,hcase⟩:=h
 injection hv with h1 h2 h3
 subst h1 h2 h3
 rw [List.length_map] at hn
 rcases hcase with ⟨h0,hc0⟩ | ⟨g,cur,hA,hg,hcur,hnc,hcm,hcs,ht⟩
 · exact ⟨w.heap.size,hB,A,n,c,0,l,aC w _,hn,by omega,rfl,by omega,by unfold maxLen;omega,by simp,hw,fun h=>absurd h (by omega)⟩
 · have hgl:=a9 hcur
   refine ⟨g,hg,A,n,c,0,l,aC w _,hn,by omega,rfl,hnc,hcm,by simp;omega,hw,fun h=>⟨0,hA,by omega,fun j hj=>?_⟩⟩
   refine (e.cell (p:=⟨g,0+j,none⟩) hgl).trans ?_
   rw [VB,cell_of_row w g j cur _ _ hcur]
   have hj':(l.map (Value.int .i64))[j]?=some (.int .i64 (l.getD j 0)):=by
    rw [List.getElem?_map,V8 (by omega)]
    simp [List.getD_eq_getElem?_getD,hn ▸ hj]
   rw [← ht,List.getElem?_take,if_pos hj] at hj'
   simpa using hj'
theorem CL {v:Value}{l:List Int} (w:World) (h:RdI w .i64 v l) (hw:∀ x ∈ l,mA x) (hl:l.length≤1000) :
 Calls Tryz.prog 110 #[v] w fun e w'=>∃ D b,e=.returned (.pointer (some ⟨D,0,none⟩))∧w.heap.size≤D∧w.heap.size≤b∧dR w' D b l∧Ext w w':=by
 have h1:∀ u ∈ l.map (Value.int .i64),u.oneCell'=true:=by
  intro u hu
  obtain ⟨x,_,rfl⟩:=List.mem_map.1 hu
  rfl
 have hm:l.length≤maxLen:=by unfold maxLen;omega
 go_enter Tryz.func110,Tryz.ntmps110
 go_wp2_with (refine oQ (B:=w.heap.size) (w0:=w) QU (Own.empty _ _ _ _) (by first | exact h | exact Rd.ext h ((Below.refl _ _).alloc (UX _) _)) h1 (by first | exact Below.refl _ _ | exact (Below.refl _ _).alloc (UX _) _) (by simp;omega) (by simpa using hm) (by first | exact UX _ | simp) rfl rfl rfl rfl ?_;intro A c w1 o1 b1 g1)
 simp only [VN,VA,List.length_map,VB] at o1
 obtain ⟨b,hb,hd⟩:=PU o1 b1.size hw
 go_ret
 exact ⟨_,b,rfl,b1.size,hb,hd,b1.alloc b1.size _⟩
theorem JR {full:List Int}{k:Nat}{x:Int}{L:List Int} (h:x::L=full.drop k):full.getD k 0=x∧L=full.drop (k+1)∧k<full.length:=by
 have hk:k<full.length:=by
  rcases Nat.lt_or_ge k full.length with q | q
  · exact q
  · rw [List.drop_of_length_le q] at h;cases h
 rw [List.drop_eq_getElem_cons hk] at h
 injection h with h1 h2
 exact ⟨by simp [List.getD_eq_getElem?_getD,hk,h1],h2,hk⟩
set_option maxHeartbeats 1000000 in
theorem lJ {D b:Nat}{L:List Int} (n:Int) (w:World) (h:dR w D b L) (n2:n≤4611686018427387904) :
 Calls Tryz.prog 111 #[.pointer (some ⟨D,0,none⟩),.int .i64 n] w (RR w D b L n):=by
 have hD:=h.lt
 have HH:=VR h
 obtain ⟨A,m,c,k,full,e1,e2,e3,e4,e5,e6,e7,e8,e9⟩:=h
 subst e2
 have c0:w.cell? ⟨D,0,none⟩=some (.slice A full.length c):=by rw [cell_of_row w D 0 _ _ _ e1];rfl
 have c1:w.cell? ⟨D,1,none⟩=some (.int .i64 (k:Int)):=by rw [cell_of_row w D 1 _ _ _ e1];rfl
 have f1:w.frozen? ⟨D,1,none⟩=false:=by simp [World.frozen?,e1]
 unfold maxLen at e6
 cases L with
 | nil =>
   have hk:k=full.length:=by
    have:=congrArg List.length e4
    simp at this
    omega
   subst hk
   clear e4 e8 e9 e1
   go_enter Tryz.func111,Tryz.ntmps111
   go_wp2_with (go_quiet (fail))
   go_ret
   exact ⟨rfl,Gb.of _ (Ext.drewN_ _ _),HH.out.ext (Ext.drewN_ _ _),rfl⟩
 | cons x L =>
   obtain ⟨hx,hL,hlt⟩:=JR e4
   obtain ⟨o,rfl,hbD,hcell⟩:=e9 (by omega)
   have hck:=hcell k hlt
   rw [hx] at hck
   have hwx:mA x:=e8 x (by rw [← hx];simp [List.getD_eq_getElem?_getD,hlt])
   have hbD':D≠b:=fun q=>hbD q.symm
   obtain ⟨x0,x1⟩:=hwx
   have HM:=VR (fun W=>gN x n W x0 x1 n2)
   have HL:=VR hL
   have wi1:IntKind.i64.wrap ((k:Int))=(k:Int):=IntWalk.i64_in _ (by omega)
   have zi1:(0:Int)≤(k:Int):=by omega
   have li1:(k:Int)<(full.length:Int):=by omega
   have ti1:((k:Int)).toNat=k:=by omega
   have wj:IntKind.i64.wrap ((k:Int)+1)=(k:Int)+1:=IntWalk.i64_in _ (by omega)
   have HW:=VR e8
   clear e4 e8 hcell hx hL x0 x1
   go_enter Tryz.func111,Tryz.ntmps111
   go_wp2_with (go_quiet (fail))
   have xq:=Ext.drewN_ w nq
   have hbk:=HH.out.ltb
   obtain ⟨w2,hw2,G2,D2,S2⟩:∃ w2,w2=(w.drewN nq).setCell ⟨D,1,none⟩ (.int .i64 ((k:Int)+1))∧Gb D w w2∧dR w2 D b L∧w2.heap.size=w.heap.size:=by
    refine ⟨_,rfl,(Gb.of _ xq).tr (Gb.set D 1 _ _),?_,by simp⟩
    have hb2:((w.drewN nq).setCell ⟨D,1,none⟩ (.int .i64 ((k:Int)+1))).heap[D]?=some (.cells #[.slice (some ⟨b,o,none⟩) full.length c,.int .i64 ((k:Int)+1)] 217 (0,0)):=by
     have:=aG ((xq.block D hD).trans e1) 1 (.int .i64 ((k:Int)+1))
     simpa using this
    refine ⟨some ⟨b,o,none⟩,full.length,c,k+1,full,hb2.trans (by simp),rfl,hlt,HL.out,e5,by unfold maxLen;exact e6,by simpa using e7,HW.out,fun h0=>?_⟩
    obtain ⟨o',q1,q2,q3⟩:=e9 h0
    exact ⟨o',q1,q2,fun j hj=>(World.cell?_of_block ((aW hbD).trans (xq.block b e7))).trans (q3 j hj)⟩
   have HG:=VR (And.intro G2 (And.intro D2 S2))
   have HB1:=VR e1
   clear e9 e1 G2 D2 S2
   rw [← hw2]
   have d1:w2.cell? ⟨D,1,none⟩=some (.int .i64 ((k:Int)+1)):=by
    have hb2:=aG ((xq.block D hD).trans HB1.out) 1 (.int .i64 ((k:Int)+1))
    rw [← hw2] at hb2
    rw [cell_of_row w2 D 1 _ _ _ hb2]
    simp
   have d0:w2.cell? ⟨D,0,none⟩=some (.slice (some ⟨b,o,none⟩) full.length c):=by
    have hb2:=aG ((xq.block D hD).trans HB1.out) 1 (.int .i64 ((k:Int)+1))
    rw [← hw2] at hb2
    rw [cell_of_row w2 D 0 _ _ _ hb2]
    simp
   have dk:w2.cell? ⟨b,o+k,none⟩=some (.int .i64 x):=by
    rw [hw2]
    exact (World.cell?_of_block ((aW hbD).trans (xq.block b e7))).trans hck
   have hlD:D<w2.heap.size:=by rw [HG.out.2.2];exact hD
   have hlb:b<w2.heap.size:=by rw [HG.out.2.2];exact e7
   clear hw2 xq c0 c1 f1 hck
   go_wp2_with (go_quiet (first | (go_at_call 30;exact (HM.out _).mono fun _ _ ⟨h1,h2⟩=>⟨h1,_,h2.symm⟩)))
   go_ret
   exact ⟨rfl,HG.out.1.tr (Gb.of _ (Ext.drewN_ _ _)),HG.out.2.1.ext (Ext.drewN_ _ _),HG.out.2.2⟩
end Go.Proofs.YtkjplpmogfmhkaaGreatDoor
namespace Go.Proofs.YtkjplpmogfmhkaaGreatDoor
open Go.RowKit
set_option linter.unusedVariables false
theorem j3 {α:Type} (f:α→List Value) (k:Nat) (hf:∀ x,(f x).length=k):∀ l:List α,(l.flatMap f).length=l.length*k
 | []=>by simp
 | x::l=>by rw [List.flatMap_cons,V5,hf,j3 f k hf l,VC,Nat.succ_mul];omega
theorem mS {α:Type} (f:α→List Value) (k:Nat) (hf:∀ x,(f x).length=k):∀ (l:List α) (i:Nat) (hi:i<l.length) (j:Nat),j<k→(l.flatMap f)[i*k+j]?=(f l[i])[j]?
 | x::l,0,_,j,hj=>by
   rw [List.flatMap_cons,List.getElem?_append_left (by rw [hf];omega)]
   simp
 | x::l,i+1,hi,j,hj=>by
   rw [List.flatMap_cons,List.getElem?_append_right (by rw [hf,Nat.succ_mul];omega),hf,show (i+1)*k+j - k=i*k+j by rw [Nat.succ_mul];omega]
   rw [mS f k hf l i (by simpa using hi) j hj]
   rfl
theorem RdK.flat {w:World}{α:Type}{f:α→List Value}{k:Nat} (h0:0<k) (hf:∀ x,(f x).length=k) {v:Value}{l:List α} (h:RdK w k v (l.flatMap f)) :
 ∃ A n c,v=.slice A n c∧n=l.length∧n≤c∧c≤maxLen∧(0<n→∃ b o,A=some ⟨b,o,none⟩∧b<w.heap.size∧∀ (i:Nat) (hi:i<l.length) (j:Nat) (u:Value),(f l[i])[j]?=some u→w.cell? ⟨b,o+i*k+j,none⟩=some u):=by
 obtain ⟨A,n,c,rfl,hn,hnc,hcm,hc⟩:=h
 have hl:n=l.length:=by
  rw [j3 f k hf] at hn
  exact VP h0 hn
 refine ⟨A,n,c,rfl,hl,hnc,hcm,fun hp=>?_⟩
 obtain ⟨b,o,rfl,hcell⟩:=hc hp
 have all:∀ (i:Nat) (hi:i<l.length) (j:Nat) (u:Value),(f l[i])[j]?=some u→w.cell? ⟨b,o+i*k+j,none⟩=some u:=fun i hi j u hu=>by
  have hj:j<k:=by rw [← hf l[i]];exact (List.getElem?_eq_some_iff.1 hu).1
  rw [V4]
  exact hcell _ u (by rw [mS f k hf l i hi j hj];exact hu)
 refine ⟨b,o,rfl,?_,all⟩
 have h1:0<l.length:=by omega
 have h2:0<(f l[0]).length:=by rw [hf];exact h0
 exact World.block_lt_of_cell? w _ (all 0 h1 0 (f l[0])[0] (V8 h2))
end Go.Proofs.YtkjplpmogfmhkaaGreatDoor
namespace Go.Proofs.YtkjplpmogfmhkaaGreatDoor
open Go.RowKit
set_option linter.unusedVariables false
set_option maxRecDepth 100000
def aF (c:NC):List Value:=[.string (aI c.st),.int .i64 c.kind,.int .i64 c.num,.int .i64 c.iss,.int .i64 c.own,.int .i64 c.key,.int .i64 c.fr,.int .i64 c.un,.int .i64 c.to,.int .i64 c.e,.int .i64 c.s]
def aA (l:List NC):List Value:=l.flatMap aF
theorem sJ (c:NC):(aF c).length=11:=rfl
theorem bF (l:List NC):(aA l).length=l.length*11:=j3 _ 11 sJ l
theorem eE (l:List NC) (c:NC):aA l++aF c=aA (l++[c]):=by simp [aA]
theorem jI (l m:List NC):aA l++aA m=aA (l++m):=by simp [aA]
theorem dO (c:NC):∀ u ∈ aF c,u.oneCell'=true:=by
 intro u hu
 simp only [aF,List.mem_cons,List.not_mem_nil,or_false] at hu
 rcases hu with rfl | rfl | rfl | rfl | rfl | rfl | rfl | rfl | rfl | rfl | rfl <;> rfl
theorem hO (l:List NC):∀ u ∈ aA l,u.oneCell'=true:=by
 intro u hu
 obtain ⟨c,_,hu⟩:=List.mem_flatMap.1 hu
 exact dO c u hu
theorem gU:kE Tryz.prog 51 56 11 96:=by
 have h:(Tryz.prog.info? 56).map (fun i=>(i.zero,i.size,i.bytes))=some (some (.agg #[.string ⟨#[]⟩,.int .i64 0,.int .i64 0,.int .i64 0,.int .i64 0,.int .i64 0,.int .i64 0,.int .i64 0,.int .i64 0,.int .i64 0,.int .i64 0]),11,96):=by kernel_rfl
 obtain ⟨i,h1,h2,h3,h4⟩:=info_parts h
 exact ⟨i,_,Tryz.underlying51,h1,h2,h3,h4,rfl⟩
abbrev RdN (w:World) (v:Value) (l:List NC):Prop:=RdK w 11 v (aA l)
theorem RdN.nil_ (w:World) (A:Option Addr):RdN w (.slice A 0 0) []:=RdK.nil_ w 11 A
theorem RdN.at_ {w:World}{v:Value}{l:List NC} (h:RdN w v l):∃ A n c,v=.slice A n c∧n=l.length∧n≤c∧c≤maxLen∧(0<n→∃ b o,A=some ⟨b,o,none⟩∧b<w.heap.size∧∀ (i:Nat) (p:NC),l[i]?=some p →
 w.cell? ⟨b,o+i*11,none⟩=some (.string (aI p.st))∧w.cell? ⟨b,o+i*11+1,none⟩=some (.int .i64 p.kind)∧w.cell? ⟨b,o+i*11+2,none⟩=some (.int .i64 p.num)∧w.cell? ⟨b,o+i*11+3,none⟩=some (.int .i64 p.iss)∧w.cell? ⟨b,o+i*11+4,none⟩=some (.int .i64 p.own)∧w.cell? ⟨b,o+i*11+5,none⟩=some (.int .i64 p.key) ∧
 w.cell? ⟨b,o+i*11+6,none⟩=some (.int .i64 p.fr)∧w.cell? ⟨b,o+i*11+7,none⟩=some (.int .i64 p.un)∧w.cell? ⟨b,o+i*11+8,none⟩=some (.int .i64 p.to)∧w.cell? ⟨b,o+i*11+9,none⟩=some (.int .i64 p.e)∧w.cell? ⟨b,o+i*11+10,none⟩=some (.int .i64 p.s)):=by
 obtain ⟨A,n,c,rfl,hn,hnc,hcm,hc⟩:=RdK.flat (f:=aF) (k:=11) (by omega) sJ h
 refine ⟨A,n,c,rfl,hn,hnc,hcm,fun h0=>?_⟩
 obtain ⟨b,o,rfl,hb,hcell⟩:=hc h0
 refine ⟨b,o,rfl,hb,fun i p hp=>?_⟩
 obtain ⟨hi,rfl⟩:=List.getElem?_eq_some_iff.1 hp
 exact ⟨hcell i hi 0 _ rfl,hcell i hi 1 _ rfl,hcell i hi 2 _ rfl,hcell i hi 3 _ rfl,hcell i hi 4 _ rfl,hcell i hi 5 _ rfl,hcell i hi 6 _ rfl,hcell i hi 7 _ rfl,hcell i hi 8 _ rfl,hcell i hi 9 _ rfl,hcell i hi 10 _ rfl⟩
def smL (l:List NC):Prop:=∀ c ∈ l,smN c
theorem smL.app {l m:List NC} (h:smL l) (k:smL m):smL (l++m):=fun c hc=>(List.mem_append.1 hc).elim (h c) (k c)
structure FoZ (w wr:World) (a b:NC):Prop where
 a:bE wr w.heap.size a
 b:bE wr (w.heap.size+1) b
 ext:Ext w wr
theorem FoZ.tr {w wr wx:World}{a b:NC} (h:FoZ w wr a b) (e:Ext wr wx):FoZ w wx a b:=⟨h.a.ext e,h.b.ext e,h.ext.tr e⟩
theorem CM (w:World) (a b:NC):∃ wz,wz=(w.alloc (.cells #[.string (aI a.st),.int .i64 a.kind,.int .i64 a.num,.int .i64 a.iss,.int .i64 a.own,.int .i64 a.key,.int .i64 a.fr,.int .i64 a.un,.int .i64 a.to,.int .i64 a.e,.int .i64 a.s] 56)).alloc (.cells #[.string (aI b.st),.int .i64 b.kind,.int .i64 b.num,.int .i64 b.iss,.int .i64 b.own,.int .i64 b.key,.int .i64 b.fr,.int .i64 b.un,.int .i64 b.to,.int .i64 b.e,.int .i64 b.s] 56)∧FoZ w wz a b:=by
 obtain ⟨w1,hw1,e1,T1⟩:=cC w a
 have s1:w1.heap.size=w.heap.size+1:=by rw [hw1];simp
 rw [← hw1]
 clear hw1
 obtain ⟨w2,hw2,e2,T2⟩:=cC w1 b
 rw [s1] at T2
 exact ⟨w2,hw2,T1.ext e2,T2,e1.tr e2⟩
theorem fX (s t:List UInt8):((aI s).toList == (aI t).toList)=decide (s=t):=by
 unfold aI
 rw [Bool.eq_iff_iff]
 simp
theorem eQ {day:Int}{a b:NC}{r:Bool} (hr:eM day a b=r) (h:¬ PJ day a b):r=false:=by rw [← hr];exact decide_eq_false h
theorem tM {day:Int}{a b:NC}{r:Bool} (hr:eM day a b=r) (h:PJ day a b):r=true:=by rw [← hr];exact decide_eq_true h
set_option maxHeartbeats 2000000 in
theorem mB (a b:NC) (day:Int) (w:World) (ha:smN a) (hb:smN b) (E:dI w 1) :
 Calls Tryz.prog 123 #[ncV a,ncV b,.int .i64 day] w (eP w (.bool (eM day a b))):=by
 have HA:=VR (fun W=>gO a day W ha)
 have HB:=VR (fun W=>gO b day W hb)
 have HF:=VR (fun W (e:Ext w W)=>sG a.key b W hb (E.below e))
 obtain ⟨r,hr⟩:∃ r,eM day a b=r:=⟨_,rfl⟩
 rw [hr]
 have HR:=VR hr
 have HQ:=VR (fX a.st b.st)
 clear hr ha hb
 obtain ⟨wz,hwz,zz⟩:=CM w a b
 unfold ncV
 go_enter Tryz.func123,Tryz.ntmps123
 go_upto_region 1 with fail
 rw [← hwz]
 clear hwz
 obtain ⟨p0,p1,p2,p3,p4,p5,p6,p7,p8,p9,p10⟩:=(zz.a).cells
 have pf0:=(zz.a).frozen 0
 have pf1:=(zz.a).frozen 1
 have pf2:=(zz.a).frozen 2
 have pf3:=(zz.a).frozen 3
 have pf4:=(zz.a).frozen 4
 have pf5:=(zz.a).frozen 5
 have pf6:=(zz.a).frozen 6
 have pf7:=(zz.a).frozen 7
 have pf8:=(zz.a).frozen 8
 have pf9:=(zz.a).frozen 9
 have pf10:=(zz.a).frozen 10
 have pl:=(zz.a).lt
 obtain ⟨q0,q1,q2,q3,q4,q5,q6,q7,q8,q9,q10⟩:=(zz.b).cells
 have qf0:=(zz.b).frozen 0
 have qf1:=(zz.b).frozen 1
 have qf2:=(zz.b).frozen 2
 have qf3:=(zz.b).frozen 3
 have qf4:=(zz.b).frozen 4
 have qf5:=(zz.b).frozen 5
 have qf6:=(zz.b).frozen 6
 have qf7:=(zz.b).frozen 7
 have qf8:=(zz.b).frozen 8
 have qf9:=(zz.b).frozen 9
 have qf10:=(zz.b).frozen 10
 have ql:=(zz.b).lt
 by_cases h1:a.st=b.st
 case neg =>
  have hs:((aI a.st).toList == (aI b.st).toList)=false:=by rw [HQ.out];exact decide_eq_false h1
  have HN:=VR (eQ HR.out fun q=>h1 q.1)
  clear h1
  go_wp2_with fail
  go_ret
  exact ⟨by rw [HN.out];rfl,zz.ext⟩
 have hs:((aI a.st).toList == (aI b.st).toList)=true:=by rw [HQ.out];exact decide_eq_true h1
 have H1:=VR h1
 clear h1
 by_cases h2:b.iss=a.own
 case neg =>
  have hb2:(b.iss == a.own)=false:=by simpa using h2
  have HN:=VR (eQ HR.out fun q=>h2 q.2.1)
  clear h2
  go_wp2_with fail
  go_ret
  exact ⟨by rw [HN.out];rfl,zz.ext⟩
 have hb2:(b.iss == a.own)=true:=by simpa using h2
 have H2:=VR h2
 clear h2
 by_cases h3:a.kind=1
 · have hb3:(a.kind == 1)=true:=by simpa using h3
   have H3:=VR (show a.kind=1 ∨ a.kind=2 from .inl h3)
   clear h3
   by_cases h4:b.kind≠1
   case neg =>
    have hb5:(b.kind != 1)=false:=by simpa using h4
    have HN:=VR (eQ HR.out fun q=>h4 q.2.2.2.1)
    clear h4
    go_wp2_with fail
    go_ret
    exact ⟨by rw [HN.out];rfl,zz.ext⟩
   have hb5:(b.kind != 1)=true:=by simpa using h4
   have H4:=VR h4
   clear h4
   go_wp2_with fail
   refine (HA.out _).mono ?_
   rintro e w2 ⟨rfl,b2⟩
   have Z2:=zz.tr b2
   clear p0 pf0 p1 pf1 p2 pf2 p3 pf3 p4 pf4 p5 pf5 p6 pf6 p7 pf7 p8 pf8 p9 pf9 p10 pf10 pl
   clear q0 qf0 q1 qf1 q2 qf2 q3 qf3 q4 qf4 q5 qf5 q6 qf6 q7 qf7 q8 qf8 q9 qf9 q10 qf10 ql
   clear zz b2
   by_cases h5:onN a day=0
   case neg =>
    have hb6:(onN a day == 0)=false:=by simpa using h5
    have HN:=VR (eQ HR.out fun q=>h5 q.2.2.2.2.1)
    clear h5
    go_wp2_with fail
    go_ret
    exact ⟨by rw [HN.out];rfl,Z2.ext⟩
   have hb6:(onN a day == 0)=true:=by simpa using h5
   have H5:=VR h5
   clear h5
   obtain ⟨p0,p1,p2,p3,p4,p5,p6,p7,p8,p9,p10⟩:=(Z2.a).cells
   have pf0:=(Z2.a).frozen 0
   have pf1:=(Z2.a).frozen 1
   have pf2:=(Z2.a).frozen 2
   have pf3:=(Z2.a).frozen 3
   have pf4:=(Z2.a).frozen 4
   have pf5:=(Z2.a).frozen 5
   have pf6:=(Z2.a).frozen 6
   have pf7:=(Z2.a).frozen 7
   have pf8:=(Z2.a).frozen 8
   have pf9:=(Z2.a).frozen 9
   have pf10:=(Z2.a).frozen 10
   have pl:=(Z2.a).lt
   obtain ⟨q0,q1,q2,q3,q4,q5,q6,q7,q8,q9,q10⟩:=(Z2.b).cells
   have qf0:=(Z2.b).frozen 0
   have qf1:=(Z2.b).frozen 1
   have qf2:=(Z2.b).frozen 2
   have qf3:=(Z2.b).frozen 3
   have qf4:=(Z2.b).frozen 4
   have qf5:=(Z2.b).frozen 5
   have qf6:=(Z2.b).frozen 6
   have qf7:=(Z2.b).frozen 7
   have qf8:=(Z2.b).frozen 8
   have qf9:=(Z2.b).frozen 9
   have qf10:=(Z2.b).frozen 10
   have ql:=(Z2.b).lt
   go_wp2_with fail
   refine (HB.out _).mono ?_
   rintro e w3 ⟨rfl,b3⟩
   have Z3:=Z2.tr b3
   clear p0 pf0 p1 pf1 p2 pf2 p3 pf3 p4 pf4 p5 pf5 p6 pf6 p7 pf7 p8 pf8 p9 pf9 p10 pf10 pl
   clear q0 qf0 q1 qf1 q2 qf2 q3 qf3 q4 qf4 q5 qf5 q6 qf6 q7 qf7 q8 qf8 q9 qf9 q10 qf10 ql
   clear Z2 b3
   by_cases h6:onN b day=0
   case neg =>
    have hb7:(onN b day == 0)=false:=by simpa using h6
    have HN:=VR (eQ HR.out fun q=>h6 q.2.2.2.2.2.1)
    clear h6
    go_wp2_with fail
    go_ret
    exact ⟨by rw [HN.out];rfl,Z3.ext⟩
   have hb7:(onN b day == 0)=true:=by simpa using h6
   have H6:=VR h6
   clear h6
   obtain ⟨p0,p1,p2,p3,p4,p5,p6,p7,p8,p9,p10⟩:=(Z3.a).cells
   have pf0:=(Z3.a).frozen 0
   have pf1:=(Z3.a).frozen 1
   have pf2:=(Z3.a).frozen 2
   have pf3:=(Z3.a).frozen 3
   have pf4:=(Z3.a).frozen 4
   have pf5:=(Z3.a).frozen 5
   have pf6:=(Z3.a).frozen 6
   have pf7:=(Z3.a).frozen 7
   have pf8:=(Z3.a).frozen 8
   have pf9:=(Z3.a).frozen 9
   have pf10:=(Z3.a).frozen 10
   have pl:=(Z3.a).lt
   obtain ⟨q0,q1,q2,q3,q4,q5,q6,q7,q8,q9,q10⟩:=(Z3.b).cells
   have qf0:=(Z3.b).frozen 0
   have qf1:=(Z3.b).frozen 1
   have qf2:=(Z3.b).frozen 2
   have qf3:=(Z3.b).frozen 3
   have qf4:=(Z3.b).frozen 4
   have qf5:=(Z3.b).frozen 5
   have qf6:=(Z3.b).frozen 6
   have qf7:=(Z3.b).frozen 7
   have qf8:=(Z3.b).frozen 8
   have qf9:=(Z3.b).frozen 9
   have qf10:=(Z3.b).frozen 10
   have ql:=(Z3.b).lt
   go_wp2_with fail
   refine (HF.out _ Z3.ext).mono ?_
   rintro e w4 ⟨rfl,b4⟩
   have Z4:=Z3.tr b4
   clear p0 pf0 p1 pf1 p2 pf2 p3 pf3 p4 pf4 p5 pf5 p6 pf6 p7 pf7 p8 pf8 p9 pf9 p10 pf10 pl
   clear q0 qf0 q1 qf1 q2 qf2 q3 qf3 q4 qf4 q5 qf5 q6 qf6 q7 qf7 q8 qf8 q9 qf9 q10 qf10 ql
   clear Z3 b4
   have HN:=VR (show r=vfN a.key b from by
    cases hv:vfN a.key b with
    | true=>exact tM HR.out ⟨H1.out,H2.out,H3.out,H4.out,H5.out,H6.out,hv⟩
    | false=>exact eQ HR.out fun q=>by have:=q.2.2.2.2.2.2;rw [hv] at this;cases this)
   go_wp2_with fail
   go_ret
   exact ⟨by rw [HN.out];rfl,Z4.ext⟩
 have hb3:(a.kind == 1)=false:=by simpa using h3
 by_cases h8:a.kind=2
 case neg =>
  have hb4:(a.kind == 2)=false:=by simpa using h8
  have HN:=VR (eQ HR.out fun q=>q.2.2.1.elim h3 h8)
  clear h3 h8
  go_wp2_with fail
  go_ret
  exact ⟨by rw [HN.out];rfl,zz.ext⟩
 have hb4:(a.kind == 2)=true:=by simpa using h8
 have H3:=VR (show a.kind=1 ∨ a.kind=2 from .inr h8)
 clear h3 h8
 by_cases h4:b.kind≠1
 case neg =>
  have hb5:(b.kind != 1)=false:=by simpa using h4
  have HN:=VR (eQ HR.out fun q=>h4 q.2.2.2.1)
  clear h4
  go_wp2_with fail
  go_ret
  exact ⟨by rw [HN.out];rfl,zz.ext⟩
 have hb5:(b.kind != 1)=true:=by simpa using h4
 have H4:=VR h4
 clear h4
 go_wp2_with fail
 refine (HA.out _).mono ?_
 rintro e w2 ⟨rfl,b2⟩
 have Z2:=zz.tr b2
 clear p0 pf0 p1 pf1 p2 pf2 p3 pf3 p4 pf4 p5 pf5 p6 pf6 p7 pf7 p8 pf8 p9 pf9 p10 pf10 pl
 clear q0 qf0 q1 qf1 q2 qf2 q3 qf3 q4 qf4 q5 qf5 q6 qf6 q7 qf7 q8 qf8 q9 qf9 q10 qf10 ql
 clear zz b2
 by_cases h5:onN a day=0
 case neg =>
  have hb6:(onN a day == 0)=false:=by simpa using h5
  have HN:=VR (eQ HR.out fun q=>h5 q.2.2.2.2.1)
  clear h5
  go_wp2_with fail
  go_ret
  exact ⟨by rw [HN.out];rfl,Z2.ext⟩
 have hb6:(onN a day == 0)=true:=by simpa using h5
 have H5:=VR h5
 clear h5
 obtain ⟨p0,p1,p2,p3,p4,p5,p6,p7,p8,p9,p10⟩:=(Z2.a).cells
 have pf0:=(Z2.a).frozen 0
 have pf1:=(Z2.a).frozen 1
 have pf2:=(Z2.a).frozen 2
 have pf3:=(Z2.a).frozen 3
 have pf4:=(Z2.a).frozen 4
 have pf5:=(Z2.a).frozen 5
 have pf6:=(Z2.a).frozen 6
 have pf7:=(Z2.a).frozen 7
 have pf8:=(Z2.a).frozen 8
 have pf9:=(Z2.a).frozen 9
 have pf10:=(Z2.a).frozen 10
 have pl:=(Z2.a).lt
 obtain ⟨q0,q1,q2,q3,q4,q5,q6,q7,q8,q9,q10⟩:=(Z2.b).cells
 have qf0:=(Z2.b).frozen 0
 have qf1:=(Z2.b).frozen 1
 have qf2:=(Z2.b).frozen 2
 have qf3:=(Z2.b).frozen 3
 have qf4:=(Z2.b).frozen 4
 have qf5:=(Z2.b).frozen 5
 have qf6:=(Z2.b).frozen 6
 have qf7:=(Z2.b).frozen 7
 have qf8:=(Z2.b).frozen 8
 have qf9:=(Z2.b).frozen 9
 have qf10:=(Z2.b).frozen 10
 have ql:=(Z2.b).lt
 go_wp2_with fail
 refine (HB.out _).mono ?_
 rintro e w3 ⟨rfl,b3⟩
 have Z3:=Z2.tr b3
 clear p0 pf0 p1 pf1 p2 pf2 p3 pf3 p4 pf4 p5 pf5 p6 pf6 p7 pf7 p8 pf8 p9 pf9 p10 pf10 pl
 clear q0 qf0 q1 qf1 q2 qf2 q3 qf3 q4 qf4 q5 qf5 q6 qf6 q7 qf7 q8 qf8 q9 qf9 q10 qf10 ql
 clear Z2 b3
 by_cases h6:onN b day=0
 case neg =>
  have hb7:(onN b day == 0)=false:=by simpa using h6
  have HN:=VR (eQ HR.out fun q=>h6 q.2.2.2.2.2.1)
  clear h6
  go_wp2_with fail
  go_ret
  exact ⟨by rw [HN.out];rfl,Z3.ext⟩
 have hb7:(onN b day == 0)=true:=by simpa using h6
 have H6:=VR h6
 clear h6
 obtain ⟨p0,p1,p2,p3,p4,p5,p6,p7,p8,p9,p10⟩:=(Z3.a).cells
 have pf0:=(Z3.a).frozen 0
 have pf1:=(Z3.a).frozen 1
 have pf2:=(Z3.a).frozen 2
 have pf3:=(Z3.a).frozen 3
 have pf4:=(Z3.a).frozen 4
 have pf5:=(Z3.a).frozen 5
 have pf6:=(Z3.a).frozen 6
 have pf7:=(Z3.a).frozen 7
 have pf8:=(Z3.a).frozen 8
 have pf9:=(Z3.a).frozen 9
 have pf10:=(Z3.a).frozen 10
 have pl:=(Z3.a).lt
 obtain ⟨q0,q1,q2,q3,q4,q5,q6,q7,q8,q9,q10⟩:=(Z3.b).cells
 have qf0:=(Z3.b).frozen 0
 have qf1:=(Z3.b).frozen 1
 have qf2:=(Z3.b).frozen 2
 have qf3:=(Z3.b).frozen 3
 have qf4:=(Z3.b).frozen 4
 have qf5:=(Z3.b).frozen 5
 have qf6:=(Z3.b).frozen 6
 have qf7:=(Z3.b).frozen 7
 have qf8:=(Z3.b).frozen 8
 have qf9:=(Z3.b).frozen 9
 have qf10:=(Z3.b).frozen 10
 have ql:=(Z3.b).lt
 go_wp2_with fail
 refine (HF.out _ Z3.ext).mono ?_
 rintro e w4 ⟨rfl,b4⟩
 have Z4:=Z3.tr b4
 clear p0 pf0 p1 pf1 p2 pf2 p3 pf3 p4 pf4 p5 pf5 p6 pf6 p7 pf7 p8 pf8 p9 pf9 p10 pf10 pl
 clear q0 qf0 q1 qf1 q2 qf2 q3 qf3 q4 qf4 q5 qf5 q6 qf6 q7 qf7 q8 qf8 q9 qf9 q10 qf10 ql
 clear Z3 b4
 have HN:=VR (show r=vfN a.key b from by
  cases hv:vfN a.key b with
  | true=>exact tM HR.out ⟨H1.out,H2.out,H3.out,H4.out,H5.out,H6.out,hv⟩
  | false=>exact eQ HR.out fun q=>by have:=q.2.2.2.2.2.2;rw [hv] at this;cases this)
 go_wp2_with fail
 go_ret
 exact ⟨by rw [HN.out];rfl,Z4.ext⟩
set_option maxHeartbeats 2000000 in
theorem hU (a b:NC) (day:Int) (w:World) (ha:smN a) (hb:smN b) (E:dI w 0) :
 Calls Tryz.prog 125 #[ncV a,ncV b,.int .i64 day] w (eP w (.bool (eM day a b))):=by
 have HA:=VR (fun W=>fT a day W ha)
 have HB:=VR (fun W=>fT b day W hb)
 have HF:=VR (fun W (e:Ext w W)=>mP a.key b W hb (E.below e))
 obtain ⟨r,hr⟩:∃ r,eM day a b=r:=⟨_,rfl⟩
 rw [hr]
 have HR:=VR hr
 have HQ:=VR (fX a.st b.st)
 clear hr ha hb
 obtain ⟨wz,hwz,zz⟩:=CM w a b
 unfold ncV
 go_enter Tryz.func125,Tryz.ntmps125
 go_upto_region 1 with fail
 rw [← hwz]
 clear hwz
 obtain ⟨p0,p1,p2,p3,p4,p5,p6,p7,p8,p9,p10⟩:=(zz.a).cells
 have pf0:=(zz.a).frozen 0
 have pf1:=(zz.a).frozen 1
 have pf2:=(zz.a).frozen 2
 have pf3:=(zz.a).frozen 3
 have pf4:=(zz.a).frozen 4
 have pf5:=(zz.a).frozen 5
 have pf6:=(zz.a).frozen 6
 have pf7:=(zz.a).frozen 7
 have pf8:=(zz.a).frozen 8
 have pf9:=(zz.a).frozen 9
 have pf10:=(zz.a).frozen 10
 have pl:=(zz.a).lt
 obtain ⟨q0,q1,q2,q3,q4,q5,q6,q7,q8,q9,q10⟩:=(zz.b).cells
 have qf0:=(zz.b).frozen 0
 have qf1:=(zz.b).frozen 1
 have qf2:=(zz.b).frozen 2
 have qf3:=(zz.b).frozen 3
 have qf4:=(zz.b).frozen 4
 have qf5:=(zz.b).frozen 5
 have qf6:=(zz.b).frozen 6
 have qf7:=(zz.b).frozen 7
 have qf8:=(zz.b).frozen 8
 have qf9:=(zz.b).frozen 9
 have qf10:=(zz.b).frozen 10
 have ql:=(zz.b).lt
 by_cases h1:a.st=b.st
 case neg =>
  have hs:((aI a.st).toList == (aI b.st).toList)=false:=by rw [HQ.out];exact decide_eq_false h1
  have HN:=VR (eQ HR.out fun q=>h1 q.1)
  clear h1
  go_wp2_with fail
  go_ret
  exact ⟨by rw [HN.out];rfl,zz.ext⟩
 have hs:((aI a.st).toList == (aI b.st).toList)=true:=by rw [HQ.out];exact decide_eq_true h1
 have H1:=VR h1
 clear h1
 by_cases h2:b.iss=a.own
 case neg =>
  have hb2:(b.iss == a.own)=false:=by simpa using h2
  have HN:=VR (eQ HR.out fun q=>h2 q.2.1)
  clear h2
  go_wp2_with fail
  go_ret
  exact ⟨by rw [HN.out];rfl,zz.ext⟩
 have hb2:(b.iss == a.own)=true:=by simpa using h2
 have H2:=VR h2
 clear h2
 by_cases h3:a.kind=1
 · have hb3:(a.kind == 1)=true:=by simpa using h3
   have H3:=VR (show a.kind=1 ∨ a.kind=2 from .inl h3)
   clear h3
   by_cases h4:b.kind≠1
   case neg =>
    have hb5:(b.kind != 1)=false:=by simpa using h4
    have HN:=VR (eQ HR.out fun q=>h4 q.2.2.2.1)
    clear h4
    go_wp2_with fail
    go_ret
    exact ⟨by rw [HN.out];rfl,zz.ext⟩
   have hb5:(b.kind != 1)=true:=by simpa using h4
   have H4:=VR h4
   clear h4
   go_wp2_with fail
   refine (HA.out _).mono ?_
   rintro e w2 ⟨rfl,b2⟩
   have Z2:=zz.tr b2
   clear p0 pf0 p1 pf1 p2 pf2 p3 pf3 p4 pf4 p5 pf5 p6 pf6 p7 pf7 p8 pf8 p9 pf9 p10 pf10 pl
   clear q0 qf0 q1 qf1 q2 qf2 q3 qf3 q4 qf4 q5 qf5 q6 qf6 q7 qf7 q8 qf8 q9 qf9 q10 qf10 ql
   clear zz b2
   by_cases h5:onN a day=0
   case neg =>
    have hb6:(onN a day == 0)=false:=by simpa using h5
    have HN:=VR (eQ HR.out fun q=>h5 q.2.2.2.2.1)
    clear h5
    go_wp2_with fail
    go_ret
    exact ⟨by rw [HN.out];rfl,Z2.ext⟩
   have hb6:(onN a day == 0)=true:=by simpa using h5
   have H5:=VR h5
   clear h5
   obtain ⟨p0,p1,p2,p3,p4,p5,p6,p7,p8,p9,p10⟩:=(Z2.a).cells
   have pf0:=(Z2.a).frozen 0
   have pf1:=(Z2.a).frozen 1
   have pf2:=(Z2.a).frozen 2
   have pf3:=(Z2.a).frozen 3
   have pf4:=(Z2.a).frozen 4
   have pf5:=(Z2.a).frozen 5
   have pf6:=(Z2.a).frozen 6
   have pf7:=(Z2.a).frozen 7
   have pf8:=(Z2.a).frozen 8
   have pf9:=(Z2.a).frozen 9
   have pf10:=(Z2.a).frozen 10
   have pl:=(Z2.a).lt
   obtain ⟨q0,q1,q2,q3,q4,q5,q6,q7,q8,q9,q10⟩:=(Z2.b).cells
   have qf0:=(Z2.b).frozen 0
   have qf1:=(Z2.b).frozen 1
   have qf2:=(Z2.b).frozen 2
   have qf3:=(Z2.b).frozen 3
   have qf4:=(Z2.b).frozen 4
   have qf5:=(Z2.b).frozen 5
   have qf6:=(Z2.b).frozen 6
   have qf7:=(Z2.b).frozen 7
   have qf8:=(Z2.b).frozen 8
   have qf9:=(Z2.b).frozen 9
   have qf10:=(Z2.b).frozen 10
   have ql:=(Z2.b).lt
   go_wp2_with fail
   refine (HB.out _).mono ?_
   rintro e w3 ⟨rfl,b3⟩
   have Z3:=Z2.tr b3
   clear p0 pf0 p1 pf1 p2 pf2 p3 pf3 p4 pf4 p5 pf5 p6 pf6 p7 pf7 p8 pf8 p9 pf9 p10 pf10 pl
   clear q0 qf0 q1 qf1 q2 qf2 q3 qf3 q4 qf4 q5 qf5 q6 qf6 q7 qf7 q8 qf8 q9 qf9 q10 qf10 ql
   clear Z2 b3
   by_cases h6:onN b day=0
   case neg =>
    have hb7:(onN b day == 0)=false:=by simpa using h6
    have HN:=VR (eQ HR.out fun q=>h6 q.2.2.2.2.2.1)
    clear h6
    go_wp2_with fail
    go_ret
    exact ⟨by rw [HN.out];rfl,Z3.ext⟩
   have hb7:(onN b day == 0)=true:=by simpa using h6
   have H6:=VR h6
   clear h6
   obtain ⟨p0,p1,p2,p3,p4,p5,p6,p7,p8,p9,p10⟩:=(Z3.a).cells
   have pf0:=(Z3.a).frozen 0
   have pf1:=(Z3.a).frozen 1
   have pf2:=(Z3.a).frozen 2
   have pf3:=(Z3.a).frozen 3
   have pf4:=(Z3.a).frozen 4
   have pf5:=(Z3.a).frozen 5
   have pf6:=(Z3.a).frozen 6
   have pf7:=(Z3.a).frozen 7
   have pf8:=(Z3.a).frozen 8
   have pf9:=(Z3.a).frozen 9
   have pf10:=(Z3.a).frozen 10
   have pl:=(Z3.a).lt
   obtain ⟨q0,q1,q2,q3,q4,q5,q6,q7,q8,q9,q10⟩:=(Z3.b).cells
   have qf0:=(Z3.b).frozen 0
   have qf1:=(Z3.b).frozen 1
   have qf2:=(Z3.b).frozen 2
   have qf3:=(Z3.b).frozen 3
   have qf4:=(Z3.b).frozen 4
   have qf5:=(Z3.b).frozen 5
   have qf6:=(Z3.b).frozen 6
   have qf7:=(Z3.b).frozen 7
   have qf8:=(Z3.b).frozen 8
   have qf9:=(Z3.b).frozen 9
   have qf10:=(Z3.b).frozen 10
   have ql:=(Z3.b).lt
   go_wp2_with fail
   refine (HF.out _ Z3.ext).mono ?_
   rintro e w4 ⟨rfl,b4⟩
   have Z4:=Z3.tr b4
   clear p0 pf0 p1 pf1 p2 pf2 p3 pf3 p4 pf4 p5 pf5 p6 pf6 p7 pf7 p8 pf8 p9 pf9 p10 pf10 pl
   clear q0 qf0 q1 qf1 q2 qf2 q3 qf3 q4 qf4 q5 qf5 q6 qf6 q7 qf7 q8 qf8 q9 qf9 q10 qf10 ql
   clear Z3 b4
   have HN:=VR (show r=vfN a.key b from by
    cases hv:vfN a.key b with
    | true=>exact tM HR.out ⟨H1.out,H2.out,H3.out,H4.out,H5.out,H6.out,hv⟩
    | false=>exact eQ HR.out fun q=>by have:=q.2.2.2.2.2.2;rw [hv] at this;cases this)
   go_wp2_with fail
   go_ret
   exact ⟨by rw [HN.out];rfl,Z4.ext⟩
 have hb3:(a.kind == 1)=false:=by simpa using h3
 by_cases h8:a.kind=2
 case neg =>
  have hb4:(a.kind == 2)=false:=by simpa using h8
  have HN:=VR (eQ HR.out fun q=>q.2.2.1.elim h3 h8)
  clear h3 h8
  go_wp2_with fail
  go_ret
  exact ⟨by rw [HN.out];rfl,zz.ext⟩
 have hb4:(a.kind == 2)=true:=by simpa using h8
 have H3:=VR (show a.kind=1 ∨ a.kind=2 from .inr h8)
 clear h3 h8
 by_cases h4:b.kind≠1
 case neg =>
  have hb5:(b.kind != 1)=false:=by simpa using h4
  have HN:=VR (eQ HR.out fun q=>h4 q.2.2.2.1)
  clear h4
  go_wp2_with fail
  go_ret
  exact ⟨by rw [HN.out];rfl,zz.ext⟩
 have hb5:(b.kind != 1)=true:=by simpa using h4
 have H4:=VR h4
 clear h4
 go_wp2_with fail
 refine (HA.out _).mono ?_
 rintro e w2 ⟨rfl,b2⟩
 have Z2:=zz.tr b2
 clear p0 pf0 p1 pf1 p2 pf2 p3 pf3 p4 pf4 p5 pf5 p6 pf6 p7 pf7 p8 pf8 p9 pf9 p10 pf10 pl
 clear q0 qf0 q1 qf1 q2 qf2 q3 qf3 q4 qf4 q5 qf5 q6 qf6 q7 qf7 q8 qf8 q9 qf9 q10 qf10 ql
 clear zz b2
 by_cases h5:onN a day=0
 case neg =>
  have hb6:(onN a day == 0)=false:=by simpa using h5
  have HN:=VR (eQ HR.out fun q=>h5 q.2.2.2.2.1)
  clear h5
  go_wp2_with fail
  go_ret
  exact ⟨by rw [HN.out];rfl,Z2.ext⟩
 have hb6:(onN a day == 0)=true:=by simpa using h5
 have H5:=VR h5
 clear h5
 obtain ⟨p0,p1,p2,p3,p4,p5,p6,p7,p8,p9,p10⟩:=(Z2.a).cells
 have pf0:=(Z2.a).frozen 0
 have pf1:=(Z2.a).frozen 1
 have pf2:=(Z2.a).frozen 2
 have pf3:=(Z2.a).frozen 3
 have pf4:=(Z2.a).frozen 4
 have pf5:=(Z2.a).frozen 5
 have pf6:=(Z2.a).frozen 6
 have pf7:=(Z2.a).frozen 7
 have pf8:=(Z2.a).frozen 8
 have pf9:=(Z2.a).frozen 9
 have pf10:=(Z2.a).frozen 10
 have pl:=(Z2.a).lt
 obtain ⟨q0,q1,q2,q3,q4,q5,q6,q7,q8,q9,q10⟩:=(Z2.b).cells
 have qf0:=(Z2.b).frozen 0
 have qf1:=(Z2.b).frozen 1
 have qf2:=(Z2.b).frozen 2
 have qf3:=(Z2.b).frozen 3
 have qf4:=(Z2.b).frozen 4
 have qf5:=(Z2.b).frozen 5
 have qf6:=(Z2.b).frozen 6
 have qf7:=(Z2.b).frozen 7
 have qf8:=(Z2.b).frozen 8
 have qf9:=(Z2.b).frozen 9
 have qf10:=(Z2.b).frozen 10
 have ql:=(Z2.b).lt
 go_wp2_with fail
 refine (HB.out _).mono ?_
 rintro e w3 ⟨rfl,b3⟩
 have Z3:=Z2.tr b3
 clear p0 pf0 p1 pf1 p2 pf2 p3 pf3 p4 pf4 p5 pf5 p6 pf6 p7 pf7 p8 pf8 p9 pf9 p10 pf10 pl
 clear q0 qf0 q1 qf1 q2 qf2 q3 qf3 q4 qf4 q5 qf5 q6 qf6 q7 qf7 q8 qf8 q9 qf9 q10 qf10 ql
 clear Z2 b3
 by_cases h6:onN b day=0
 case neg =>
  have hb7:(onN b day == 0)=false:=by simpa using h6
  have HN:=VR (eQ HR.out fun q=>h6 q.2.2.2.2.2.1)
  clear h6
  go_wp2_with fail
  go_ret
  exact ⟨by rw [HN.out];rfl,Z3.ext⟩
 have hb7:(onN b day == 0)=true:=by simpa using h6
 have H6:=VR h6
 clear h6
 obtain ⟨p0,p1,p2,p3,p4,p5,p6,p7,p8,p9,p10⟩:=(Z3.a).cells
 have pf0:=(Z3.a).frozen 0
 have pf1:=(Z3.a).frozen 1
 have pf2:=(Z3.a).frozen 2
 have pf3:=(Z3.a).frozen 3
 have pf4:=(Z3.a).frozen 4
 have pf5:=(Z3.a).frozen 5
 have pf6:=(Z3.a).frozen 6
 have pf7:=(Z3.a).frozen 7
 have pf8:=(Z3.a).frozen 8
 have pf9:=(Z3.a).frozen 9
 have pf10:=(Z3.a).frozen 10
 have pl:=(Z3.a).lt
 obtain ⟨q0,q1,q2,q3,q4,q5,q6,q7,q8,q9,q10⟩:=(Z3.b).cells
 have qf0:=(Z3.b).frozen 0
 have qf1:=(Z3.b).frozen 1
 have qf2:=(Z3.b).frozen 2
 have qf3:=(Z3.b).frozen 3
 have qf4:=(Z3.b).frozen 4
 have qf5:=(Z3.b).frozen 5
 have qf6:=(Z3.b).frozen 6
 have qf7:=(Z3.b).frozen 7
 have qf8:=(Z3.b).frozen 8
 have qf9:=(Z3.b).frozen 9
 have qf10:=(Z3.b).frozen 10
 have ql:=(Z3.b).lt
 go_wp2_with fail
 refine (HF.out _ Z3.ext).mono ?_
 rintro e w4 ⟨rfl,b4⟩
 have Z4:=Z3.tr b4
 clear p0 pf0 p1 pf1 p2 pf2 p3 pf3 p4 pf4 p5 pf5 p6 pf6 p7 pf7 p8 pf8 p9 pf9 p10 pf10 pl
 clear q0 qf0 q1 qf1 q2 qf2 q3 qf3 q4 qf4 q5 qf5 q6 qf6 q7 qf7 q8 qf8 q9 qf9 q10 qf10 ql
 clear Z3 b4
 have HN:=VR (show r=vfN a.key b from by
  cases hv:vfN a.key b with
  | true=>exact tM HR.out ⟨H1.out,H2.out,H3.out,H4.out,H5.out,H6.out,hv⟩
  | false=>exact eQ HR.out fun q=>by have:=q.2.2.2.2.2.2;rw [hv] at this;cases this)
 go_wp2_with fail
 go_ret
 exact ⟨by rw [HN.out];rfl,Z4.ext⟩
theorem RS (w:World) (p:Prop) [Decidable p] (q:Bool):(if p then (Result.ok (Value.bool q) w) else Result.ok (Value.bool false) w)=Result.ok (Value.bool (decide p && q)) w:=by
 by_cases h:p
 · simp [h]
 · simp [h]
theorem CN (s t:List UInt8):((aI s).toList=(aI t).toList)=(s=t):=by
 unfold aI
 simp
theorem MN (x y:NC):(decide (x.st=y.st) && (decide (x.kind=y.kind) && (decide (x.num=y.num) && (decide (x.iss=y.iss) && (decide (x.own=y.own) && (decide (x.key=y.key) && (decide (x.fr=y.fr) && (decide (x.un=y.un) && (decide (x.to=y.to) && (decide (x.e=y.e) && decide (x.s=y.s)))))))))))=decide (x=y):=by
 have h:(x=y) ↔ (x.st=y.st∧x.kind=y.kind∧x.num=y.num∧x.iss=y.iss∧x.own=y.own∧x.key=y.key∧x.fr=y.fr∧x.un=y.un∧x.to=y.to∧x.e=y.e∧x.s=y.s):=by
  constructor
  · rintro rfl;simp
  · intro h;exact NC.tup_inj ⟨h.1,by simp only [NC.nums,h.2.1,h.2.2.1,h.2.2.2.1,h.2.2.2.2.1,h.2.2.2.2.2.1,h.2.2.2.2.2.2.1,h.2.2.2.2.2.2.2.1,h.2.2.2.2.2.2.2.2.1,h.2.2.2.2.2.2.2.2.2.1,h.2.2.2.2.2.2.2.2.2.2]⟩
 rw [Bool.eq_iff_iff]
 simp only [Bool.and_eq_true,decide_eq_true_eq]
 exact h.symm
theorem rJ (w:World) (x y:NC):(binOp .eql 56 (ncV x) (ncV y)).run Tryz.prog w=.ok (.bool (decide (x=y))) w:=by
 rw [← MN]
 unfold ncV
 go_simp
 simp only [CN,RS,Bool.and_true]
theorem RU (w:World) (p:Prop) [Decidable p] (q:Bool):(if p then (Result.ok (Value.bool q) w) else Result.ok (Value.bool true) w)=Result.ok (Value.bool (!decide p || q)) w:=by
 by_cases h:p
 · simp [h]
 · simp [h]
theorem yC (w:World) (x y:NC):(binOp .neq 56 (ncV x) (ncV y)).run Tryz.prog w=.ok (.bool (!decide (x=y))) w:=by
 rw [← MN]
 unfold ncV
 go_simp
 simp only [CN,RU,Bool.or_false]
def JT (l:List NC) (c:NC):Int:=if c ∈ l then (l.idxOf c:Int) else -1
theorem H8:∀ {l:List NC}{c:NC}{k:Nat},l[k]?=some c→(∀ j,j<k→l[j]?≠some c)→l.idxOf c=k
 | [],c,k,h,_=>by simp at h
 | x::l,c,0,h,_=>by
   have:x=c:=by simpa using h
   rw [this,List.idxOf_cons_self]
 | x::l,c,k+1,h,hn=>by
   have hx:x≠c:=fun e=>hn 0 (Nat.zero_lt_succ _) (by simp [e])
   rw [List.idxOf_cons,beq_false_of_ne hx,cond_false,H8 (l:=l) (k:=k) (by simpa using h) (fun j hj e=>hn (j+1) (Nat.succ_lt_succ hj) (by simpa using e))]
theorem RW {l:List NC}{c:NC}{k:Nat} (h:l[k]?=some c) (hn:∀ j,j<k→l[j]?≠some c):JT l c=(k:Int):=by
 unfold JT
 rw [if_pos (VD h),H8 h hn]
theorem F7 {l:List NC}{c:NC} (hn:∀ j,j<l.length→l[j]?≠some c):c ∉ l:=fun hm=>by
 obtain ⟨j,hj,e⟩:=List.getElem_of_mem hm
 exact hn j hj (by rw [V8 hj,e])
theorem vL {l:List NC}{c y:NC}{k:Nat} (hn:∀ j,j<k→l[j]?≠some c) (hy:l[k]?=some y) (hne:y≠c):∀ j,j<k+1→l[j]?≠some c:=fun j hj e=>by
 rcases Nat.lt_succ_iff_lt_or_eq.1 hj with h | rfl
 · exact hn j h e
 · rw [hy] at e
   injection e with e
   exact hne e
def dK (l:List NC) (st:List UInt8):Nat:=(l.filter fun c=>decide (c.st=st)).length
theorem iM {l:List NC}{y:NC}{k:Nat} (h:l[k]?=some y):l.take (k+1)=l.take k++[y]:=by
 rw [List.take_add_one,h]
 rfl
theorem H9 {l:List NC}{st:List UInt8}{y:NC}{k:Nat} (h:l[k]?=some y) (e:y.st=st):dK (l.take (k+1)) st=dK (l.take k) st+1:=by
 unfold dK
 rw [iM h,List.filter_append,List.filter_cons_of_pos (by simpa using e)]
 simp
theorem MO {l:List NC}{st:List UInt8}{y:NC}{k:Nat} (h:l[k]?=some y) (e:y.st≠st):dK (l.take (k+1)) st=dK (l.take k) st:=by
 unfold dK
 rw [iM h,List.filter_append,List.filter_cons_of_neg (by simpa using e)]
 simp
theorem RX (l:List NC) (st:List UInt8):dK l st≤l.length:=List.length_filter_le _ _
set_option maxHeartbeats 2000000 in
theorem F8 {v:Value}{l:List NC} (c:NC) (w:World) (hv:RdN w v l) :
 Calls Tryz.prog 197 #[v,ncV c] w (eP w (.int .i64 (JT l c))):=by
 obtain ⟨A,n,cp,rfl,hn,hnc,hcm,hel⟩:=hv.at_
 subst hn
 have HEL:=VR hel
 unfold maxLen at hcm
 clear hel
 obtain ⟨wz,hwz,ez,TZ⟩:=cC w c
 have HEQ:=VR (fun W y=>rJ W c y)
 have HZ:=VR TZ
 clear TZ
 unfold ncV
 go_enter Tryz.func197,Tryz.ntmps197
 go_wp2_with fail
 rw [← hwz]
 clear hwz
 go_loopw [8] (fun i wr=>∃ k:Nat,k≤l.length∧i=.int .i64 (k:Int)∧Hid (∀ j,j<k→l[j]?≠some c)∧Ext wz wr) (fun i _=>l.length - (intOf i).toNat)
 case atStart=>exact ⟨0,V7 _,rfl,fun j hj=>absurd hj (Nat.not_lt_zero _),Below.refl _ _⟩
 case round =>
  obtain ⟨k,hk,rfl,HN,X⟩:=hrel
  by_cases hlt:k<l.length
  case neg =>
   obtain rfl:k=l.length:=by omega
   have HR:=VR (F7 HN.out)
   have XX:=VR (ez.tr X)
   clear X
   go_wp2_with fail
   go_ret
   exact ⟨by unfold JT;rw [if_neg HR.out];rfl,XX.out⟩
  case pos =>
  obtain ⟨y,hy⟩:∃ y,l[k]?=some y:=⟨_,V8 hlt⟩
  obtain ⟨b,o,rfl,hbl,hc⟩:=HEL.out (by omega)
  have hcy:=hc k y hy
  have HY:=VR hy
  have eqq:=fun W=>HEQ.out W y
  unfold ncV at eqq
  clear hy hc
  have wi1:IntKind.i64.wrap ((k:Int))=(k:Int):=IntWalk.i64_in _ (by omega)
  have zi1:(0:Int)≤(k:Int):=by omega
  have li1:(k:Int)<(l.length:Int):=by omega
  have ti1:((k:Int)).toNat=k:=by omega
  have q0:=((ez.tr X).cell (p:=⟨b,o+k*11,none⟩) hbl).trans hcy.1
  have q1:=((ez.tr X).cell (p:=⟨b,o+k*11+1,none⟩) hbl).trans hcy.2.1
  have q2:=((ez.tr X).cell (p:=⟨b,o+k*11+2,none⟩) hbl).trans hcy.2.2.1
  have q3:=((ez.tr X).cell (p:=⟨b,o+k*11+3,none⟩) hbl).trans hcy.2.2.2.1
  have q4:=((ez.tr X).cell (p:=⟨b,o+k*11+4,none⟩) hbl).trans hcy.2.2.2.2.1
  have q5:=((ez.tr X).cell (p:=⟨b,o+k*11+5,none⟩) hbl).trans hcy.2.2.2.2.2.1
  have q6:=((ez.tr X).cell (p:=⟨b,o+k*11+6,none⟩) hbl).trans hcy.2.2.2.2.2.2.1
  have q7:=((ez.tr X).cell (p:=⟨b,o+k*11+7,none⟩) hbl).trans hcy.2.2.2.2.2.2.2.1
  have q8:=((ez.tr X).cell (p:=⟨b,o+k*11+8,none⟩) hbl).trans hcy.2.2.2.2.2.2.2.2.1
  have q9:=((ez.tr X).cell (p:=⟨b,o+k*11+9,none⟩) hbl).trans hcy.2.2.2.2.2.2.2.2.2.1
  have q10:=((ez.tr X).cell (p:=⟨b,o+k*11+10,none⟩) hbl).trans hcy.2.2.2.2.2.2.2.2.2.2
  clear hcy
  obtain ⟨p0,p1,p2,p3,p4,p5,p6,p7,p8,p9,p10⟩:=(HZ.out.ext X).cells
  have pl:=(HZ.out.ext X).lt
  obtain ⟨d,hd⟩:∃ d,decide (c=y)=d:=⟨_,rfl⟩
  rw [hd] at eqq
  have HD:=VR hd
  clear hd
  go_upto_region 4 with fail
  (go_quiet (fail);have x9:=Ext.drewN_ wr nq;generalize wr.drewN nq=wb at *)
  have X9:=X.tr x9
  clear x9 X q0 q1 q2 q3 q4 q5 q6 q7 q8 q9 q10 p0 p1 p2 p3 p4 p5 p6 p7 p8 p9 p10 pl eqq
  cases d
  · have HNN:=VR (vL HN.out HY.out (by have:=HD.out;intro e;rw [e] at this;simp at this))
    go_wp2_with fail
    go_roundw
    case rel=>exact ⟨k+1,by omega,by go_num,HNN,X9⟩
    case measure=>simp [intOf];omega
  · have HC:Hid (l[k]?=some c):=VR (by have:=HD.out;have e:=of_decide_eq_true this;rw [HY.out,e])
    have XX:=VR (ez.tr X9)
    clear X9
    go_wp2_with fail
    go_ret
    exact ⟨by rw [RW HC.out HN.out];rfl,XX.out⟩
set_option maxHeartbeats 2000000 in
theorem CO {v:Value}{l:List NC} (c:NC) (w:World) (hv:RdN w v l) :
 Calls Tryz.prog 45 #[v,ncV c] w (eP w (.bool (decide (c ∈ l)))):=by
 obtain ⟨A,n,cp,rfl,hn,hnc,hcm,hel⟩:=hv.at_
 subst hn
 have HEL:=VR hel
 unfold maxLen at hcm
 clear hel
 obtain ⟨wz,hwz,ez,TZ⟩:=cC w c
 have HEQ:=VR (fun W y=>rJ W y c)
 have HZ:=VR TZ
 clear TZ
 unfold ncV
 go_enter Tryz.func45,Tryz.ntmps45
 go_wp2_with fail
 rw [← hwz]
 clear hwz
 go_loopw [5] (fun i wr=>∃ k:Nat,k≤l.length∧i=.int .i64 (k:Int)∧Hid (∀ j,j<k→l[j]?≠some c)∧Ext wz wr) (fun i _=>l.length - (intOf i).toNat)
 case atStart=>exact ⟨0,V7 _,rfl,fun j hj=>absurd hj (Nat.not_lt_zero _),Below.refl _ _⟩
 case round =>
  obtain ⟨k,hk,rfl,HN,X⟩:=hrel
  by_cases hlt:k<l.length
  case neg =>
   obtain rfl:k=l.length:=by omega
   have HR:=VR (F7 HN.out)
   have XX:=VR (ez.tr X)
   clear X
   go_wp2_with fail
   go_ret
   exact ⟨by rw [decide_eq_false HR.out];rfl,XX.out⟩
  case pos =>
  obtain ⟨y,hy⟩:∃ y,l[k]?=some y:=⟨_,V8 hlt⟩
  obtain ⟨b,o,rfl,hbl,hc⟩:=HEL.out (by omega)
  have hcy:=hc k y hy
  have HY:=VR hy
  have eqq:=fun W=>HEQ.out W y
  unfold ncV at eqq
  clear hy hc
  have wi2:IntKind.i64.wrap ((k:Int))=(k:Int):=IntWalk.i64_in _ (by omega)
  have zi2:(0:Int)≤(k:Int):=by omega
  have li2:(k:Int)<(l.length:Int):=by omega
  have ti2:((k:Int)).toNat=k:=by omega
  have q0:=((ez.tr X).cell (p:=⟨b,o+k*11,none⟩) hbl).trans hcy.1
  have q1:=((ez.tr X).cell (p:=⟨b,o+k*11+1,none⟩) hbl).trans hcy.2.1
  have q2:=((ez.tr X).cell (p:=⟨b,o+k*11+2,none⟩) hbl).trans hcy.2.2.1
  have q3:=((ez.tr X).cell (p:=⟨b,o+k*11+3,none⟩) hbl).trans hcy.2.2.2.1
  have q4:=((ez.tr X).cell (p:=⟨b,o+k*11+4,none⟩) hbl).trans hcy.2.2.2.2.1
  have q5:=((ez.tr X).cell (p:=⟨b,o+k*11+5,none⟩) hbl).trans hcy.2.2.2.2.2.1
  have q6:=((ez.tr X).cell (p:=⟨b,o+k*11+6,none⟩) hbl).trans hcy.2.2.2.2.2.2.1
  have q7:=((ez.tr X).cell (p:=⟨b,o+k*11+7,none⟩) hbl).trans hcy.2.2.2.2.2.2.2.1
  have q8:=((ez.tr X).cell (p:=⟨b,o+k*11+8,none⟩) hbl).trans hcy.2.2.2.2.2.2.2.2.1
  have q9:=((ez.tr X).cell (p:=⟨b,o+k*11+9,none⟩) hbl).trans hcy.2.2.2.2.2.2.2.2.2.1
  have q10:=((ez.tr X).cell (p:=⟨b,o+k*11+10,none⟩) hbl).trans hcy.2.2.2.2.2.2.2.2.2.2
  clear hcy
  obtain ⟨p0,p1,p2,p3,p4,p5,p6,p7,p8,p9,p10⟩:=(HZ.out.ext X).cells
  have pl:=(HZ.out.ext X).lt
  obtain ⟨d,hd⟩:∃ d,decide (y=c)=d:=⟨_,rfl⟩
  rw [hd] at eqq
  have HD:=VR hd
  clear hd
  go_upto_region 4 with fail
  (go_quiet (fail);have x9:=Ext.drewN_ wr nq;generalize wr.drewN nq=wb at *)
  have X9:=X.tr x9
  clear x9 X q0 q1 q2 q3 q4 q5 q6 q7 q8 q9 q10 p0 p1 p2 p3 p4 p5 p6 p7 p8 p9 p10 pl eqq
  cases d
  · have HNN:=VR (vL HN.out HY.out (by have:=HD.out;simpa using this))
    go_wp2_with fail
    go_roundw
    case rel=>exact ⟨k+1,by omega,by go_num,HNN,X9⟩
    case measure=>simp [intOf];omega
  · have HC:Hid (l[k]?=some c):=VR (by have:=HD.out;have e:=of_decide_eq_true this;rw [HY.out,e])
    have XX:=VR (ez.tr X9)
    clear X9
    go_wp2_with fail
    go_ret
    exact ⟨by rw [decide_eq_true (VD HC.out)];rfl,XX.out⟩
set_option maxHeartbeats 1000000 in
theorem wX {v:Value}{l:List NC} (c:NC) (w:World) (hv:RdN w v l) :
 Calls Tryz.prog 121 #[v,ncV c] w (eP w (.bool (decide (c ∈ l)))):=by
 obtain ⟨wz,hwz,ez,TZ⟩:=cC w c
 have HX:=VR (F8 c wz (hv.ext ez))
 clear hv
 unfold ncV
 go_enter Tryz.func121,Tryz.ntmps121
 go_upto_region 1 with fail
 rw [← hwz]
 clear hwz
 obtain ⟨p0,p1,p2,p3,p4,p5,p6,p7,p8,p9,p10⟩:=(TZ).cells
 have pf0:=(TZ).frozen 0
 have pf1:=(TZ).frozen 1
 have pf2:=(TZ).frozen 2
 have pf3:=(TZ).frozen 3
 have pf4:=(TZ).frozen 4
 have pf5:=(TZ).frozen 5
 have pf6:=(TZ).frozen 6
 have pf7:=(TZ).frozen 7
 have pf8:=(TZ).frozen 8
 have pf9:=(TZ).frozen 9
 have pf10:=(TZ).frozen 10
 have pl:=(TZ).lt
 go_wp2_with fail
 refine HX.out.mono ?_
 rintro e w2 ⟨rfl,b2⟩
 have XX:=VR (ez.tr b2)
 clear p0 pf0 p1 pf1 p2 pf2 p3 pf3 p4 pf4 p5 pf5 p6 pf6 p7 pf7 p8 pf8 p9 pf9 p10 pf10 pl
 clear TZ ez b2 HX
 by_cases h:c ∈ l
 · have e1:JT l c=(l.idxOf c:Int):=if_pos h
   rw [e1]
   have HD:=VR (decide_eq_true h)
   have hg:(0:Int)≤(l.idxOf c:Int):=Int.natCast_nonneg _
   clear e1 h
   generalize (l.idxOf c:Int)=z at *
   go_wp2_with fail
   go_ret
   exact ⟨by rw [HD.out];rfl,XX.out⟩
 · have e1:JT l c=-1:=if_neg h
   rw [e1]
   have HD:=VR (decide_eq_false h)
   clear e1 h
   go_wp2_with fail
   go_ret
   exact ⟨by rw [HD.out];rfl,XX.out⟩
set_option maxHeartbeats 2000000 in
theorem sL {v:Value}{l:List NC} (st:List UInt8) (w:World) (hv:RdN w v l) :
 Calls Tryz.prog 117 #[v,.string (aI st)] w (eP w (.int .i64 (dK l st:Int))):=by
 obtain ⟨A,n,cp,rfl,hn,hnc,hcm,hel⟩:=hv.at_
 subst hn
 have HEL:=VR hel
 unfold maxLen at hcm
 clear hel
 have HQ:=VR (fun s=>fX s st)
 go_enter Tryz.func117,Tryz.ntmps117
 go_wp2_with fail
 go_loopw [5,10] (fun s i wr=>∃ k q:Nat,k≤l.length∧i=.int .i64 (k:Int)∧s=.int .i64 (q:Int)∧q≤k∧Hid (q=dK (l.take k) st)∧Ext w wr) (fun _ i _=>l.length - (intOf i).toNat)
 case atStart=>exact ⟨0,0,V7 _,rfl,rfl,UX _,rfl,Below.refl _ _⟩
 case round =>
  obtain ⟨k,q,hk,rfl,rfl,hqk,HN,X⟩:=hrel
  by_cases hlt:k<l.length
  case neg =>
   obtain rfl:k=l.length:=by omega
   have HR:=VR (show q=dK l st by have:=HN.out;rwa [List.take_length] at this)
   have XX:=VR X
   clear X
   go_wp2_with fail
   go_ret
   exact ⟨by rw [HR.out];rfl,XX.out⟩
  case pos =>
  obtain ⟨y,hy⟩:∃ y,l[k]?=some y:=⟨_,V8 hlt⟩
  obtain ⟨b,o,rfl,hbl,hc⟩:=HEL.out (by omega)
  have hcy:=hc k y hy
  have HY:=VR hy
  clear hy hc
  have wi3:IntKind.i64.wrap ((k:Int))=(k:Int):=IntWalk.i64_in _ (by omega)
  have zi3:(0:Int)≤(k:Int):=by omega
  have li3:(k:Int)<(l.length:Int):=by omega
  have ti3:((k:Int)).toNat=k:=by omega
  have wj:IntKind.i64.wrap ((q:Int)+1)=(q:Int)+1:=IntWalk.i64_in _ (by omega)
  have wk:IntKind.i64.wrap ((k:Int)+1)=(k:Int)+1:=IntWalk.i64_in _ (by omega)
  have q0:=(X.cell (p:=⟨b,o+k*11,none⟩) hbl).trans hcy.1
  have q1:=(X.cell (p:=⟨b,o+k*11+1,none⟩) hbl).trans hcy.2.1
  have q2:=(X.cell (p:=⟨b,o+k*11+2,none⟩) hbl).trans hcy.2.2.1
  have q3:=(X.cell (p:=⟨b,o+k*11+3,none⟩) hbl).trans hcy.2.2.2.1
  have q4:=(X.cell (p:=⟨b,o+k*11+4,none⟩) hbl).trans hcy.2.2.2.2.1
  have q5:=(X.cell (p:=⟨b,o+k*11+5,none⟩) hbl).trans hcy.2.2.2.2.2.1
  have q6:=(X.cell (p:=⟨b,o+k*11+6,none⟩) hbl).trans hcy.2.2.2.2.2.2.1
  have q7:=(X.cell (p:=⟨b,o+k*11+7,none⟩) hbl).trans hcy.2.2.2.2.2.2.2.1
  have q8:=(X.cell (p:=⟨b,o+k*11+8,none⟩) hbl).trans hcy.2.2.2.2.2.2.2.2.1
  have q9:=(X.cell (p:=⟨b,o+k*11+9,none⟩) hbl).trans hcy.2.2.2.2.2.2.2.2.2.1
  have q10:=(X.cell (p:=⟨b,o+k*11+10,none⟩) hbl).trans hcy.2.2.2.2.2.2.2.2.2.2
  clear hcy
  obtain ⟨wn,hwn,en,TN⟩:=cC wr y
  obtain ⟨p0,p1,p2,p3,p4,p5,p6,p7,p8,p9,p10⟩:=(TN).cells
  have pf0:=(TN).frozen 0
  have pf1:=(TN).frozen 1
  have pf2:=(TN).frozen 2
  have pf3:=(TN).frozen 3
  have pf4:=(TN).frozen 4
  have pf5:=(TN).frozen 5
  have pf6:=(TN).frozen 6
  have pf7:=(TN).frozen 7
  have pf8:=(TN).frozen 8
  have pf9:=(TN).frozen 9
  have pf10:=(TN).frozen 10
  have pl:=(TN).lt
  go_upto_region 5 with fail
  rw [← hwn]
  clear hwn q0 q1 q2 q3 q4 q5 q6 q7 q8 q9 q10
  have X9:=X.tr en
  clear X en
  by_cases hs:y.st=st
  · have hb:((aI y.st).toList == (aI st).toList)=true:=by rw [HQ.out];exact decide_eq_true hs
    have HNN:=VR (show q+1=dK (l.take (k+1)) st by rw [H9 HY.out hs,← HN.out])
    clear hs
    go_wp2_with fail
    go_roundw
    case rel=>exact ⟨k+1,q+1,by omega,by go_num,by go_num,by omega,HNN,X9⟩
    case measure=>simp [intOf];omega
  · have hb:((aI y.st).toList == (aI st).toList)=false:=by rw [HQ.out];exact decide_eq_false hs
    have HNN:=VR (show q=dK (l.take (k+1)) st by rw [MO HY.out hs,← HN.out])
    clear hs
    go_wp2_with fail
    go_roundw
    case rel=>exact ⟨k+1,q,by omega,by go_num,rfl,by omega,HNN,X9⟩
    case measure=>simp [intOf];omega
set_option maxHeartbeats 2000000 in
theorem vM {v:Value}{l:List NC} (st:List UInt8) (w:World) (hv:RdN w v l) :
 Calls Tryz.prog 124 #[v,.string (aI st)] w (eP w (.int .i64 (dK l st:Int))):=by
 obtain ⟨A,n,cp,rfl,hn,hnc,hcm,hel⟩:=hv.at_
 subst hn
 have HEL:=VR hel
 unfold maxLen at hcm
 clear hel
 have HQ:=VR (fun s=>fX s st)
 go_enter Tryz.func124,Tryz.ntmps124
 go_wp2_with fail
 go_loopw [5,6] (fun s i wr=>∃ k q:Nat,k≤l.length∧i=.int .i64 (k:Int)∧s=.int .i64 (q:Int)∧q≤k∧Hid (q=dK (l.take k) st)∧Ext w wr) (fun _ i _=>l.length - (intOf i).toNat)
 case atStart=>exact ⟨0,0,V7 _,rfl,rfl,UX _,rfl,Below.refl _ _⟩
 case round =>
  obtain ⟨k,q,hk,rfl,rfl,hqk,HN,X⟩:=hrel
  by_cases hlt:k<l.length
  case neg =>
   obtain rfl:k=l.length:=by omega
   have HR:=VR (show q=dK l st by have:=HN.out;rwa [List.take_length] at this)
   have XX:=VR X
   clear X
   go_wp2_with fail
   go_ret
   exact ⟨by rw [HR.out];rfl,XX.out⟩
  case pos =>
  obtain ⟨y,hy⟩:∃ y,l[k]?=some y:=⟨_,V8 hlt⟩
  obtain ⟨b,o,rfl,hbl,hc⟩:=HEL.out (by omega)
  have hcy:=hc k y hy
  have HY:=VR hy
  clear hy hc
  have wi4:IntKind.i64.wrap ((k:Int))=(k:Int):=IntWalk.i64_in _ (by omega)
  have zi4:(0:Int)≤(k:Int):=by omega
  have li4:(k:Int)<(l.length:Int):=by omega
  have ti4:((k:Int)).toNat=k:=by omega
  have wj:IntKind.i64.wrap ((q:Int)+1)=(q:Int)+1:=IntWalk.i64_in _ (by omega)
  have wk:IntKind.i64.wrap ((k:Int)+1)=(k:Int)+1:=IntWalk.i64_in _ (by omega)
  have q0:=(X.cell (p:=⟨b,o+k*11,none⟩) hbl).trans hcy.1
  have q1:=(X.cell (p:=⟨b,o+k*11+1,none⟩) hbl).trans hcy.2.1
  have q2:=(X.cell (p:=⟨b,o+k*11+2,none⟩) hbl).trans hcy.2.2.1
  have q3:=(X.cell (p:=⟨b,o+k*11+3,none⟩) hbl).trans hcy.2.2.2.1
  have q4:=(X.cell (p:=⟨b,o+k*11+4,none⟩) hbl).trans hcy.2.2.2.2.1
  have q5:=(X.cell (p:=⟨b,o+k*11+5,none⟩) hbl).trans hcy.2.2.2.2.2.1
  have q6:=(X.cell (p:=⟨b,o+k*11+6,none⟩) hbl).trans hcy.2.2.2.2.2.2.1
  have q7:=(X.cell (p:=⟨b,o+k*11+7,none⟩) hbl).trans hcy.2.2.2.2.2.2.2.1
  have q8:=(X.cell (p:=⟨b,o+k*11+8,none⟩) hbl).trans hcy.2.2.2.2.2.2.2.2.1
  have q9:=(X.cell (p:=⟨b,o+k*11+9,none⟩) hbl).trans hcy.2.2.2.2.2.2.2.2.2.1
  have q10:=(X.cell (p:=⟨b,o+k*11+10,none⟩) hbl).trans hcy.2.2.2.2.2.2.2.2.2.2
  clear hcy
  have X9:=X
  clear X
  by_cases hs:y.st=st
  · have hb:((aI y.st).toList == (aI st).toList)=true:=by rw [HQ.out];exact decide_eq_true hs
    have HNN:=VR (show q+1=dK (l.take (k+1)) st by rw [H9 HY.out hs,← HN.out])
    clear hs
    go_wp2_with fail
    go_roundw
    case rel=>exact ⟨k+1,q+1,by omega,by go_num,by go_num,by omega,HNN,X9⟩
    case measure=>simp [intOf];omega
  · have hb:((aI y.st).toList == (aI st).toList)=false:=by rw [HQ.out];exact decide_eq_false hs
    have HNN:=VR (show q=dK (l.take (k+1)) st by rw [MO HY.out hs,← HN.out])
    clear hs
    go_wp2_with fail
    go_roundw
    case rel=>exact ⟨k+1,q,by omega,by go_num,rfl,by omega,HNN,X9⟩
    case measure=>simp [intOf];omega
def bC (R:List Int):List Value:=R.map (Value.int .i64)
theorem lK (R:List Int):(bC R).length=R.length:=List.length_map _
theorem sM:56≠3:=by decide
theorem QV:56≠155:=by decide
theorem QW:3≠155:=by decide
structure gV (w:World) (B S:Nat) (day:Int) (v1 v2:Value) (L:List NC) (R:List Int):Prop where
 row:w.heap[S]?=some (.cells #[.int .i64 day,v1,v2] 155 (0,0))
 own1:aJ w B 56 11 v1 (aA L)
 own2:aJ w B 3 1 v2 (bC R)
 len:R.length=L.length
theorem gV.lt {w:World}{B S:Nat}{day:Int}{v1 v2:Value}{L:List NC}{R:List Int} (h:gV w B S day v1 v2 L R):S<w.heap.size:=a9 h.row
theorem gV.ext {w w':World}{B S:Nat}{day:Int}{v1 v2:Value}{L:List NC}{R:List Int} (h:gV w B S day v1 v2 L R) (e:Ext w w'):gV w' B S day v1 v2 L R:=⟨(e.block S h.lt).trans h.row,h.own1.ext e,h.own2.ext e,h.len⟩
theorem gV.cells {w:World}{B S:Nat}{day:Int}{v1 v2:Value}{L:List NC}{R:List Int} (h:gV w B S day v1 v2 L R):w.cell? ⟨S,0,none⟩=some (.int .i64 day)∧w.cell? ⟨S,1,none⟩=some v1∧w.cell? ⟨S,2,none⟩=some v2 :=
 ⟨cell_of_row w S 0 _ _ _ h.row,cell_of_row w S 1 _ _ _ h.row,cell_of_row w S 2 _ _ _ h.row⟩
theorem gV.frozen {w:World}{B S:Nat}{day:Int}{v1 v2:Value}{L:List NC}{R:List Int} (h:gV w B S day v1 v2 L R) (i:Nat):w.frozen? ⟨S,i,none⟩=false:=by
 have:=h.row
 simp [World.frozen?,this]
theorem gV.forms {w:World}{B S:Nat}{day:Int}{v1 v2:Value}{L:List NC}{R:List Int} (h:gV w B S day v1 v2 L R):∃ A1 c1 A2 c2,v1=.slice A1 L.length c1∧v2=.slice A2 L.length c2∧L.length≤c1∧L.length≤c2∧c1≤maxLen∧c2≤maxLen:=by
 obtain ⟨A1,n1,c1,rfl,hn1,h1⟩:=h.own1
 obtain ⟨A2,n2,c2,rfl,hn2,h2⟩:=h.own2
 rw [bF] at hn1
 rw [lK,h.len] at hn2
 have e1:n1=L.length:=by omega
 have e2:n2=L.length:=by omega
 subst e1
 refine ⟨A1,c1,A2,c2,rfl,by rw [e2],?_,?_,?_,?_⟩
 · rcases h1 with h | ⟨_,_,_,_,_,h,_⟩ <;> omega
 · rcases h2 with h | ⟨_,_,_,_,_,h,_⟩ <;> omega
 · rcases h1 with h | ⟨_,_,_,_,_,_,h,_⟩
   · unfold maxLen;omega
   · exact h
 · rcases h2 with h | ⟨_,_,_,_,_,_,h,_⟩
   · unfold maxLen;omega
   · exact h
theorem gV.put {w:World}{B S:Nat}{day:Int}{v1 v2 u1 u2:Value}{L L':List NC}{R R':List Int} (h:gV w B S day v1 v2 L R) (h1:aJ w B 56 11 u1 (aA L')) (h2:aJ w B 3 1 u2 (bC R')) (hl:R'.length=L'.length) :
 gV ((w.setCell ⟨S,1,none⟩ u1).setCell ⟨S,2,none⟩ u2) B S day u1 u2 L' R':=by
 have r1:=aG h.row 1 u1
 have r2:=aG r1 2 u2
 simp only [UY,UZ,V0] at r1 r2
 have k1:=h1.row_blk h.row QV
 have k2:=h2.row_blk h.row QW
 exact ⟨r2,(h1.grown (Gb.set S 1 w u1) (.inr k1)).grown (Gb.set S 2 _ u2) (.inr k1),(h2.grown (Gb.set S 1 w u1) (.inr k2)).grown (Gb.set S 2 _ u2) (.inr k2),hl⟩
structure k8 (B:Nat) (v1 v2:Value) (n:Nat) (x1 y1 x2 y2:List Value) (w w':World):Prop where
 os:w'.os=w.os
 tape:w'.tape=w.tape
 output:w'.output=w.output
 size:w.heap.size≤w'.heap.size
 keep:∀ k,k<w.heap.size→aL v1≠some k→aL v2≠some k→w'.heap[k]?=w.heap[k]?
 p1:aJ w B 56 11 v1 x1→aJ w' B 56 11 v1 x1
 p2:aJ w B 3 1 v2 x2→aJ w' B 3 1 v2 x2
 p3:∀ A c,aJ w B 56 11 (.slice A (n+1) c) y1→aJ w' B 56 11 (.slice A (n+1) c) y1
 p4:∀ A c,aJ w B 3 1 (.slice A (n+1) c) y2→aJ w' B 3 1 (.slice A (n+1) c) y2
def seR (B:Nat) (v1 v2:Value) (n:Nat) (x1 y1 x2 y2:List Value):Gr.Rl where
 rel:=k8 B v1 v2 n x1 y1 x2 y2
 refl:=fun w=>⟨rfl,rfl,rfl,UX _,fun _ _ _ _=>rfl,id,id,fun _ _ h=>h,fun _ _ h=>h⟩
 tr:=fun h k=>⟨k.os.trans h.os,k.tape.trans h.tape,k.output.trans h.output,V9 h.size k.size,fun i hi a b=>(k.keep i (VG hi h.size) a b).trans (h.keep i hi a b),fun q=>k.p1 (h.p1 q),fun q=>k.p2 (h.p2 q),fun A c q=>k.p3 A c (h.p3 A c q),fun A c q=>k.p4 A c (h.p4 A c q)⟩
 ext:=fun e=>⟨e.os,e.tape,e.output,e.size,fun k hk _ _=>e.block k hk,fun h=>h.ext e,fun h=>h.ext e,fun _ _ h=>h.ext e,fun _ _ h=>h.ext e⟩
section
variable {B:Nat}{v1 v2:Value}{n:Nat}{x1 y1 x2 y2:List Value}{w w':World}
theorem k8.below (h:k8 B v1 v2 n x1 y1 x2 y2 w w') (hB:B≤w.heap.size) (k1:∀ r,aL v1=some r→B≤r) (k2:∀ r,aL v2=some r→B≤r):Below B w w' :=
 ⟨h.os,h.tape,h.output,h.size,fun k hk=>h.keep k (VG hk hB) (fun q=>by have:=k1 k q;omega) (fun q=>by have:=k2 k q;omega)⟩
theorem k8.blk (h:k8 B v1 v2 n x1 y1 x2 y2 w w') (o1:aJ w B 56 11 v1 x1) (o2:aJ w B 3 1 v2 x2) {g T:Nat}{cs:Array Value}{fr:Nat × Nat} (hg:w.heap[g]?=some (.cells cs T fr)) (h1:56≠T) (h2:3≠T):w'.heap[g]?=some (.cells cs T fr) :=
 (h.keep g (a9 hg) (o1.row_blk hg h1) (o2.row_blk hg h2)).trans hg
theorem k8.app1 (o1:aJ w B 56 11 v1 x1) (o2:aJ w B 3 1 v2 x2) (g:w.grownBy w' (aL v1)) (q1:aJ w' B 56 11 v1 x1) (q3:∀ A c,aJ w B 56 11 (.slice A (n+1) c) y1→aJ w' B 56 11 (.slice A (n+1) c) y1):k8 B v1 v2 n x1 y1 x2 y2 w w' :=
 ⟨g.os,g.tape,g.output,g.size,fun k hk a _=>g.block k hk (fun q=>a q.symm),fun _=>q1,fun h=>h.grown g (o1.row_ne h sM),q3,fun A c h=>h.grown g (o1.row_ne h sM)⟩
theorem k8.app2 (o1:aJ w B 56 11 v1 x1) (o2:aJ w B 3 1 v2 x2) (g:w.grownBy w' (aL v2)) (q2:aJ w' B 3 1 v2 x2) (q4:∀ A c,aJ w B 3 1 (.slice A (n+1) c) y2→aJ w' B 3 1 (.slice A (n+1) c) y2):k8 B v1 v2 n x1 y1 x2 y2 w w' :=
 ⟨g.os,g.tape,g.output,g.size,fun k hk _ a=>g.block k hk (fun q=>a q.symm),fun h=>h.grown g (o2.row_ne h (Ne.symm sM)),fun _=>q2,fun A c h=>h.grown g (o2.row_ne h (Ne.symm sM)),q4⟩
end
def F9 (b0:Nat) (cs:Array Value) (T:Nat):aE:=fun v w=>∃ g,v=.slice (some ⟨g,0,none⟩) 1 1∧b0≤g∧w.heap[g]?=some (.cells cs T (0,0))
theorem sN {B:Nat}{v1 v2:Value}{n:Nat}{x1 y1 x2 y2:List Value}{b0:Nat} (k1:∀ r,aL v1=some r→r<b0) (k2:∀ r,aL v2=some r→r<b0) (cs:Array Value) (T:Nat):(seR B v1 v2 n x1 y1 x2 y2).stable (F9 b0 cs T):=fun v w w' r ⟨g,h1,h2,h3⟩ =>
 ⟨g,h1,h2,(k8.keep r g (a9 h3) (fun q=>by have:=k1 g q;omega) (fun q=>by have:=k2 g q;omega)).trans h3⟩
theorem F9.rd {b0 k:Nat}{cs:Array Value}{T:Nat}{v:Value}{w:World} (h:F9 b0 cs T v w) (hk:1*k=cs.size):RdK w k v cs.toList:=by
 obtain ⟨g,rfl,_,hg⟩:=h
 refine ⟨_,1,1,rfl,by simpa using hk,UX _,by unfold maxLen;omega,fun _=>⟨g,0,rfl,fun j u hu=>?_⟩⟩
 rw [VB,cell_of_row w g j cs T (0,0) hg]
 simpa using hu
def GO1 (B n:Nat) (y1:List Value):aE:=fun v w=>∃ A c,v=.slice A (n+1) c∧aJ w B 56 11 (.slice A (n+1) c) y1
def GO2 (B n:Nat) (y2:List Value):aE:=fun v w=>∃ A c,v=.slice A (n+1) c∧aJ w B 3 1 (.slice A (n+1) c) y2
theorem FA (B:Nat) (v1 v2:Value) (n:Nat) (x1 y1 x2 y2:List Value):(seR B v1 v2 n x1 y1 x2 y2).stable (GO1 B n y1):=fun v w w' r ⟨A,c,h1,h2⟩=>⟨A,c,h1,k8.p3 r A c h2⟩
theorem FB (B:Nat) (v1 v2:Value) (n:Nat) (x1 y1 x2 y2:List Value):(seR B v1 v2 n x1 y1 x2 y2).stable (GO2 B n y2):=fun v w w' r ⟨A,c,h1,h2⟩=>⟨A,c,h1,k8.p4 r A c h2⟩
theorem MP (W:World) (c:NC):(Instr.buildSlice 51 1 #[(0,ncV c)]).run Tryz.prog W=.ok (.slice (some ⟨W.heap.size,0,none⟩) 1 1) (W.alloc (.cells (aF c).toArray 56)):=by
 unfold ncV aF
 go_simp
theorem MQ (W:World) (x:Int):(Instr.buildSlice 41 1 #[(0,.int .i64 x)]).run Tryz.prog W=.ok (.slice (some ⟨W.heap.size,0,none⟩) 1 1) (W.alloc (.cells #[.int .i64 x] 3)):=by
 go_simp
namespace Gd
section
variable {P:Program}{ops:Array Oper}{Q:Exit→Act→World→Prop}{w0:World}{R:Act→World→Prop}
theorem fE {o:Oper}{rest:List Oper}{a:Act}{hs:List (Nat × aE)}{d:Nat} (hg:cN ops o a hs) (ad:Addr) {x:Operand} (hd:o.dst=some d) (hz:Nat.blt d a.tmps.size=true) (ho:o.op=.nilCheck x) (hx:a.eval x=.pointer (some ad)) (hn:dQ o hs=true)
 (hr:wpX P ops Q w0 R rest (a.put (some d) (.pointer (some ad))) hs):wpX P ops Q w0 R (o::rest) a hs :=
 fO hg (.pointer (some ad)) hd hz (by unfold aP;rw [ho]) hn (fun m K hK=>by
  unfold Oper.wp execOp
  simp only [ho,hx,Sem.run_pure,Oper.upon]
  exact hK _ _ (by rw [hd];rfl) ⟨Below.refl _ _,by rw [hd,aM (bH hz)]⟩) hr
end
end Gd
def mC (day:Int) (L:List NC) (c:NC):Int:=if (L.any fun a=>eM day a c)=true then ((L.findIdx fun a=>eM day a c:Nat):Int) else -1
inductive oB (day:Int) (L:List NC) (c:NC) (k:Nat):Int→Prop
 | no:(∀ j a,j<k→L[j]?=some a→eM day a c=false)→oB day L c k (-1)
 | at_ (b:Nat) (a:NC):b<k→L[b]?=some a→eM day a c=true→(∀ j a,j<b→L[j]?=some a→eM day a c=false)→oB day L c k (b:Int)
theorem oB.res {day:Int}{L:List NC}{c:NC}{n:Nat}{z:Int} (h:oB day L c n z) (hn:n≤L.length):z=mC day (L.take n) c:=by
 cases h with
 | no h =>
   unfold mC
   rw [if_neg]
   intro q
   obtain ⟨a,ha,hf⟩:=List.any_eq_true.1 q
   obtain ⟨j,hj,rfl⟩:=List.getElem_of_mem ha
   rw [VL] at hj
   have:=h j _ (by omega) (V8 (by omega))
   rw [List.getElem_take] at hf
   rw [this] at hf
   cases hf
 | at_ b a h1 h2 h3 h4 =>
   obtain ⟨hb,rfl⟩:=List.getElem?_eq_some_iff.1 h2
   have hm:b<(L.take n).length:=by rw [VL];omega
   have hany:((L.take n).any fun a=>eM day a c)=true:=List.any_eq_true.2 ⟨(L.take n)[b],List.getElem_mem hm,by rw [List.getElem_take];exact h3⟩
   unfold mC
   rw [if_pos hany]
   congr 1
   symm
   rw [List.findIdx_eq hm]
   refine ⟨by rw [List.getElem_take];exact h3,fun j hj=>?_⟩
   rw [List.getElem_take]
   exact Bool.not_eq_true _ ▸ (by rw [h4 j _ hj (V8 (by omega))];simp)
theorem oB.next {day:Int}{L:List NC}{c y:NC}{k:Nat} (h:oB day L c k (-1)) (hy:L[k]?=some y) (hf:eM day y c=false):oB day L c (k+1) (-1):=by
 generalize hz:(-1:Int)=z at h
 cases h with
 | no h =>
   refine .no fun j a hj ha=>?_
   rcases Nat.lt_succ_iff_lt_or_eq.1 hj with q | rfl
   · exact h j a q ha
   · rw [hy] at ha;injection ha with ha;rw [← ha];exact hf
 | at_ b=>omega
theorem oB.hit {day:Int}{L:List NC}{c y:NC}{k:Nat} (h:oB day L c k (-1)) (hy:L[k]?=some y) (hf:eM day y c=true):oB day L c (k+1) (k:Int):=by
 generalize hz:(-1:Int)=z at h
 cases h with
 | no h=>exact .at_ k y (Nat.lt_succ_self _) hy hf h
 | at_ b=>omega
theorem oB.skip {day:Int}{L:List NC}{c:NC}{k b:Nat} (h:oB day L c k (b:Int)):oB day L c (k+1) (b:Int)∧b<k:=by
 generalize hz:(b:Int)=z at h
 cases h with
 | no h=>omega
 | at_ b' a h1 h2 h3 h4 =>
   obtain rfl:b=b':=by omega
   exact ⟨.at_ b a (by omega) h2 h3 h4,h1⟩
theorem oB.cases' {day:Int}{L:List NC}{c:NC}{k:Nat}{z:Int} (h:oB day L c k z):z=-1 ∨ ∃ b:Nat,z=(b:Int):=by
 cases h with
 | no h=>exact .inl rfl
 | at_ b=>exact .inr ⟨b,rfl⟩
def Srt (R:List Int):Prop:=∀ (i j:Nat) (x y:Int),i≤j→R[i]?=some x→R[j]?=some y→x≤y
theorem tN {w:World}{B:Nat}{A:Option Addr}{n c:Nat}{R:List Int} (h:aJ w B 3 1 (.slice A n c) (bC R)) (h0:0<n):∃ b o,A=some ⟨b,o,none⟩∧b<w.heap.size∧∀ (i:Nat) (x:Int),R[i]?=some x→w.cell? ⟨b,o+i,none⟩=some (.int .i64 x):=by
 obtain ⟨A',n',c',e,hn,_,_,hc⟩:=h.rd
 injection e with e1 e2 e3
 subst e1 e2 e3
 obtain ⟨b,o,rfl,hq⟩:=hc h0
 have hx:0<R.length:=by rw [lK] at hn;omega
 have g0:(bC R)[0]?=some (.int .i64 R[0]):=by unfold bC;rw [List.getElem?_map,V8 hx];rfl
 refine ⟨b,o,rfl,World.block_lt_of_cell? w _ (hq 0 _ g0),fun i x hi=>hq i _ ?_⟩
 unfold bC
 rw [List.getElem?_map,hi]
 rfl
set_option maxHeartbeats 4000000 in
theorem vN {B S:Nat}{day:Int}{v1 v2:Value}{L:List NC}{R:List Int} (c:NC) (n:Nat) (w:World) (hS:gV w B S day v1 v2 L R) (hn:n≤L.length) (hl:L.length≤1000000) (hR:Srt R) (hs:smL L) (hc:smN c) (E:dI w 1) :
 Calls Tryz.prog 119 #[.pointer (some ⟨S,0,none⟩),ncV c,.int .i64 (n:Int)] w (eP w (.int .i64 (mC day (L.take n) c))):=by
 obtain ⟨A1,c1,A2,c2,rfl,rfl,hc1,hc2,hm1,hm2⟩:=hS.forms
 have hv:RdN w (.slice A1 L.length c1) L:=hS.own1.rd
 obtain ⟨A',n',c',e9,hn',hnc,hcm,hel⟩:=hv.at_
 injection e9 with e1 e2 e3
 subst e1 e2 e3
 clear hn'
 have HEL:=VR hel
 have HIN:=VR (fun h0=>tN hS.own2 h0)
 have HF:=VR (fun (a:NC) (ha:smN a) W (e:Ext w W)=>mB a c day W ha hc (E.below e))
 unfold maxLen at hcm hm1 hm2
 clear hel hv hnc hcm
 obtain ⟨wz,hwz,ez,TZ⟩:=cC w c
 have HS:=VR hS
 have HZ:=VR TZ
 have HSM:=VR hs
 have HRS:=VR hR
 have HRL:=VR hS.len
 unfold ncV
 clear TZ hS hs hR hc E
 go_enter Tryz.func119,Tryz.ntmps119
 go_upto_region 1 with fail
 rw [← hwz]
 clear hwz
 go_wp2_with fail
 go_loopw [7,10] (fun bst i wr=>∃ (k:Nat) (z:Int),k≤n∧i=.int .i64 (k:Int)∧bst=.int .i64 z∧Hid (oB day L c k z)∧Ext wz wr) (fun _ i _=>n - (intOf i).toNat)
 case atStart=>exact ⟨0,-1,V7 _,rfl,rfl,.no (fun j a hj _=>absurd hj (Nat.not_lt_zero _)),Below.refl _ _⟩
 case round =>
  obtain ⟨k,z,hk,rfl,rfl,HB,X⟩:=hrel
  by_cases hlt:k<n
  case neg =>
   obtain rfl:k=n:=by omega
   have HR:=VR (HB.out.res hn)
   have XX:=VR (ez.tr X)
   clear X
   go_wp2_with fail
   go_ret
   exact ⟨by rw [HR.out];rfl,XX.out⟩
  case pos =>
  obtain ⟨y,hy⟩:∃ y,L[k]?=some y:=⟨_,V8 (by omega)⟩
  obtain ⟨b,o,rfl,hbl,hcc⟩:=HEL.out (by omega)
  obtain ⟨b2,o2,rfl,hbl2,hcc2⟩:=HIN.out (by omega)
  have hcy:=hcc k y hy
  have HY:=VR hy
  have HSY:=VR (HSM.out y (VD hy))
  clear hy hcc
  have hkL:k<L.length:=by omega
  have wi1:IntKind.i64.wrap ((k:Int))=(k:Int):=IntWalk.i64_in _ (by omega)
  have zi1:(0:Int)≤(k:Int):=by omega
  have li1:(k:Int)<(L.length:Int):=by omega
  have ti1:((k:Int)).toNat=k:=by omega
  have hkn:(k:Int)<(n:Int):=by omega
  go_upto_region 5 with fail
  refine Gd.aO 34 (by kernel_rfl) (by kernel_rfl) ?_
  simp only [VH,VE,VI,VJ]
  intro wq hw1
  have LL:∀ m:Lt wq,Ext wr m.1:=fun m=>hw1.tr m.2
  have LZ:∀ m:Lt wq,Ext wz m.1:=fun m=>X.tr (LL m)
  have LW:∀ m:Lt wq,Ext w m.1:=fun m=>ez.tr (LZ m)
  have s0:=fun m:Lt wq=>(HS.out.ext (LW m)).cells.1
  have s1:=fun m:Lt wq=>(HS.out.ext (LW m)).cells.2.1
  have s2:=fun m:Lt wq=>(HS.out.ext (LW m)).cells.2.2
  have p0:=fun m:Lt wq=>(HZ.out.ext (LZ m)).cells.1
  have p1:=fun m:Lt wq=>(HZ.out.ext (LZ m)).cells.2.1
  have p2:=fun m:Lt wq=>(HZ.out.ext (LZ m)).cells.2.2.1
  have p3:=fun m:Lt wq=>(HZ.out.ext (LZ m)).cells.2.2.2.1
  have p4:=fun m:Lt wq=>(HZ.out.ext (LZ m)).cells.2.2.2.2.1
  have p5:=fun m:Lt wq=>(HZ.out.ext (LZ m)).cells.2.2.2.2.2.1
  have p6:=fun m:Lt wq=>(HZ.out.ext (LZ m)).cells.2.2.2.2.2.2.1
  have p7:=fun m:Lt wq=>(HZ.out.ext (LZ m)).cells.2.2.2.2.2.2.2.1
  have p8:=fun m:Lt wq=>(HZ.out.ext (LZ m)).cells.2.2.2.2.2.2.2.2.1
  have p9:=fun m:Lt wq=>(HZ.out.ext (LZ m)).cells.2.2.2.2.2.2.2.2.2.1
  have p10:=fun m:Lt wq=>(HZ.out.ext (LZ m)).cells.2.2.2.2.2.2.2.2.2.2
  have q0:=fun m:Lt wq=>((LW m).cell (p:=⟨b,o+k*11,none⟩) hbl).trans hcy.1
  have q1:=fun m:Lt wq=>((LW m).cell (p:=⟨b,o+k*11+1,none⟩) hbl).trans hcy.2.1
  have q2:=fun m:Lt wq=>((LW m).cell (p:=⟨b,o+k*11+2,none⟩) hbl).trans hcy.2.2.1
  have q3:=fun m:Lt wq=>((LW m).cell (p:=⟨b,o+k*11+3,none⟩) hbl).trans hcy.2.2.2.1
  have q4:=fun m:Lt wq=>((LW m).cell (p:=⟨b,o+k*11+4,none⟩) hbl).trans hcy.2.2.2.2.1
  have q5:=fun m:Lt wq=>((LW m).cell (p:=⟨b,o+k*11+5,none⟩) hbl).trans hcy.2.2.2.2.2.1
  have q6:=fun m:Lt wq=>((LW m).cell (p:=⟨b,o+k*11+6,none⟩) hbl).trans hcy.2.2.2.2.2.2.1
  have q7:=fun m:Lt wq=>((LW m).cell (p:=⟨b,o+k*11+7,none⟩) hbl).trans hcy.2.2.2.2.2.2.2.1
  have q8:=fun m:Lt wq=>((LW m).cell (p:=⟨b,o+k*11+8,none⟩) hbl).trans hcy.2.2.2.2.2.2.2.2.1
  have q9:=fun m:Lt wq=>((LW m).cell (p:=⟨b,o+k*11+9,none⟩) hbl).trans hcy.2.2.2.2.2.2.2.2.2.1
  have q10:=fun m:Lt wq=>((LW m).cell (p:=⟨b,o+k*11+10,none⟩) hbl).trans hcy.2.2.2.2.2.2.2.2.2.2
  rcases HB.out.cases' with rfl | ⟨bb,rfl⟩
  · repeat (first | (refine Gd.fE (by first | exact trivial | exact ⟨_,rfl,rfl,rfl⟩) _ rfl rfl rfl rfl rfl ?_;simp only [Act.put,UY,UZ,V0]) | (refine Gd.gF (by exact ⟨_,rfl,rfl,rfl⟩) rfl rfl ?_;simp only [Act.put,UY,UZ,V0]) | (refine Gd.aD (by first | exact trivial | exact ⟨_,rfl,rfl,rfl⟩) rfl rfl rfl rfl rfl (fun K hK=>?_);go_big_quiet_op;refine hK _ ?_;clear hK K))
    refine Gd.bZ (by first | exact trivial | exact ⟨_,rfl,rfl,rfl⟩) (.bool (eM day y c)) (args:=[ncV y,ncV c,.int .i64 day]) rfl rfl rfl rfl (by kernel_rfl) rfl rfl (fun m=>(HF.out y HSY.out m.1 (LW m)).mono fun _ _ ⟨h1,h2⟩=>⟨h1,h2⟩) ?_
    simp only [Act.put,UY,UZ,V0]
    repeat (first | (refine Gd.fE (by first | exact trivial | exact ⟨_,rfl,rfl,rfl⟩) _ rfl rfl rfl rfl rfl ?_;simp only [Act.put,UY,UZ,V0]) | (refine Gd.gF (by exact ⟨_,rfl,rfl,rfl⟩) rfl rfl ?_;simp only [Act.put,UY,UZ,V0]) | (refine Gd.aD (by first | exact trivial | exact ⟨_,rfl,rfl,rfl⟩) rfl rfl rfl rfl rfl (fun K hK=>?_);go_big_quiet_op;refine hK _ ?_;clear hK K))
    refine Gd.dT (fun m=>?_)
    have Lm:=LZ m
    obtain ⟨wm,hwm⟩:=m
    have Lm:Ext wz wm:=Lm
    clear LL LZ LW s0 s1 s2 p0 p1 p2 p3 p4 p5 p6 p7 p8 p9 p10 q0 q1 q2 q3 q4 q5 q6 q7 q8 q9 q10 hw1
    show wpList _ _ _ _ _ _
    obtain ⟨f,hf⟩:∃ f,eM day y c=f:=⟨_,rfl⟩
    rw [hf]
    cases f
    · have HN:=VR (HB.out.next HY.out hf)
      clear hf
      go_wp2_with fail
      go_roundw
      case rel=>repeat (first | exact ⟨k+1,-1,by omega,by go_num,rfl,HN,Lm⟩ | exact ⟨⟨k+1,-1,by omega,by go_num,rfl,HN,Lm⟩,rfl⟩ | refine ⟨_,?_⟩)
      case measure=>simp [intOf];omega
    · have HN:=VR (HB.out.hit HY.out hf)
      clear hf
      go_wp2_with fail
      go_roundw
      case rel=>repeat (first | exact ⟨k+1,(k:Int),by omega,by go_num,rfl,HN,Lm⟩ | exact ⟨⟨k+1,(k:Int),by omega,by go_num,rfl,HN,Lm⟩,rfl⟩ | refine ⟨_,?_⟩)
      case measure=>simp [intOf];omega
  · obtain ⟨HN,hbk⟩:=HB.out.skip
    have HN:=VR HN
    obtain ⟨x1,hx1⟩:∃ x,R[k]?=some x:=⟨_,V8 (by rw [HRL.out];omega)⟩
    obtain ⟨x2,hx2⟩:∃ x,R[bb]?=some x:=⟨_,V8 (by rw [HRL.out];omega)⟩
    have hle:=HRS.out bb k x2 x1 (by omega) hx2 hx1
    have hlt2:¬ x1<x2:=by omega
    have r1:=fun m:Lt wq=>((LW m).cell (p:=⟨b2,o2+k,none⟩) hbl2).trans (hcc2 k x1 hx1)
    have r2:=fun m:Lt wq=>((LW m).cell (p:=⟨b2,o2+bb,none⟩) hbl2).trans (hcc2 bb x2 hx2)
    have hbn:¬ ((bb:Int)<0):=by omega
    have hbL:bb<L.length:=by omega
    have wi2:IntKind.i64.wrap ((bb:Int))=(bb:Int):=IntWalk.i64_in _ (by omega)
    have zi2:(0:Int)≤(bb:Int):=by omega
    have li2:(bb:Int)<(L.length:Int):=by omega
    have ti2:((bb:Int)).toNat=bb:=by omega
    clear hx1 hx2 hle hcc2
    repeat (first | (refine Gd.fE (by first | exact trivial | exact ⟨_,rfl,rfl,rfl⟩) _ rfl rfl rfl rfl rfl ?_;simp only [Act.put,UY,UZ,V0]) | (refine Gd.gF (by exact ⟨_,rfl,rfl,rfl⟩) rfl rfl ?_;simp only [Act.put,UY,UZ,V0]) | (refine Gd.aD (by first | exact trivial | exact ⟨_,rfl,rfl,rfl⟩) rfl rfl rfl rfl rfl (fun K hK=>?_);go_big_quiet_op;refine hK _ ?_;clear hK K))
    refine Gd.dT (fun m=>?_)
    have Lm:=LZ m
    obtain ⟨wm,hwm⟩:=m
    have Lm:Ext wz wm:=Lm
    clear LL LZ LW s0 s1 s2 r1 r2 p0 p1 p2 p3 p4 p5 p6 p7 p8 p9 p10 q0 q1 q2 q3 q4 q5 q6 q7 q8 q9 q10 hw1
    show wpList _ _ _ _ _ _
    go_wp2_with fail
    go_roundw
    case rel=>repeat (first | exact ⟨k+1,(bb:Int),by omega,by go_num,rfl,HN,Lm⟩ | exact ⟨⟨k+1,(bb:Int),by omega,by go_num,rfl,HN,Lm⟩,rfl⟩ | refine ⟨_,?_⟩)
    case measure=>simp [intOf];omega
end Go.Proofs.YtkjplpmogfmhkaaGreatDoor
