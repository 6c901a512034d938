/- Parts Pko of the proof. -/
import Derived.Test.YtkjplpmogfmhkaaGreatDoorHas
import Derived.Deep.CutBlock
namespace Go.Proofs.YtkjplpmogfmhkaaGreatDoor
open Go.RowKit
set_option linter.unusedVariables false
set_option maxRecDepth 100000
def ltT (c:TC):Prop:=c.au.length<=100/\c.ho.length<=100
instance (c:TC):Decidable (ltT c):=inferInstanceAs (Decidable (_/\_))
def k8 (x:Int):Prop:=-9223372036854775808<=x/\x<9223372036854775808
def cI (w:World) (D b:Nat) (L:List Int):Prop :=
 ∃ (A:Option Addr) (n c k:Nat) (full:List Int),w.heap[D]?=some (.cells #[.slice A n c,.int .i64 (k:Int)] 217 (0,0))/\n=full.length/\k<=n/\L=full.drop k/\n<=c/\c<=maxLen/\b<w.heap.size/\(∀ x ∈ full,k8 x) /\
  (0<n->∃ o,A=some ⟨b,o,none⟩/\b≠D/\∀ j,j<n->w.cell? ⟨b,o+j,none⟩=some (.int .i64 (full.getD j 0)))
theorem cI.lt {w:World}{D b:Nat}{L:List Int} (h:cI w D b L):D<w.heap.size:=by
 obtain ⟨A,n,c,k,full,h1,_⟩:=h
 exact aA h1
theorem cI.ltb {w:World}{D b:Nat}{L:List Int} (h:cI w D b L):b<w.heap.size:=by
 obtain ⟨A,n,c,k,full,h1,h2,h3,h4,h5,h6,h7,_⟩:=h
 exact h7
theorem cI.keep {w w':World}{D b:Nat}{L:List Int} (h:cI w D b L) (h1:w'.heap[D]?=w.heap[D]?) (h2:w'.heap[b]?=w.heap[b]?):cI w' D b L:=by
 obtain ⟨A,n,c,k,full,e1,e2,e3,e4,e5,e6,e7,e8,e9⟩:=h
 refine ⟨A,n,c,k,full,h1.trans e1,e2,e3,e4,e5,e6,?_,e8,fun h0=>?_⟩
 · have:w'.heap[b]?.isSome=true:=by rw [h2];simp [e7]
   simpa using this
 · obtain ⟨o,q1,q2,q3⟩:=e9 h0
   exact ⟨o,q1,q2,fun j hj=>(World.cell?_of_block h2).trans (q3 j hj)⟩
theorem cI.ext {w w':World}{D b:Nat}{L:List Int} (h:cI w D b L) (e:Ext w w'):cI w' D b L:=h.keep (e.block D h.lt) (e.block b h.ltb)
theorem cI.gb {w w':World}{D b g:Nat}{L:List Int} (h:cI w D b L) (e:Gb g w w') (h1:D≠g) (h2:b≠g):cI w' D b L :=
 h.keep (e.block D h.lt (fun q=>h1 (by injection q))) (e.block b h.ltb (fun q=>h2 (by injection q)))
def dv (L:List Int) (n:Int):Int:=match L with
 | []=>0
 | x::_=>fL x n
theorem qQ (L:List Int) {n:Int} (h:1<=n):0<=dv L n/\dv L n<n:=by
 cases L with
 | nil=>exact ⟨Int.le_refl _,by show (0:Int)<n;omega⟩
 | cons x L=>exact iO h
def VA (w:World) (D b:Nat) (L:List Int) (n:Int) (e:Ending) (w':World):Prop:=e=.returned (.int .i64 (dv L n))/\Gb D w w'/\cI w' D b L.tail/\w'.heap.size=w.heap.size
theorem wG:LC Tryz.prog 41 3 8:=by
 have h:(Tryz.prog.info? 3).map (fun i=>(i.zero,i.size,i.bytes))=some (some (.int .i64 0),1,8):=by kernel_rfl
 obtain ⟨i,h1,h2,h3,h4⟩:=info_parts h
 exact ⟨i,_,Tryz.underlying41,h1,h2,h3,h4,rfl⟩
theorem wH {v:Value}{l:List Int} (w:World) (h:RdI w .i64 v l):Calls Tryz.prog 26 #[v] w fun e w'=>e=.returned (.bool (decide (l.length<=80)))/\w=w':=by
 obtain ⟨A,n,c,rfl,hn,hnc,hcm,hA⟩:=h.ints
 subst hn
 clear hA h
 have H:=ZH (show decide (l.length<=80)=decide ((l.length:Int)<=80) from decide_eq_decide.2 (by omega))
 go_enter Tryz.func26,Tryz.ntmps26
 go_wp2
 go_ret
 exact ⟨by rw [H.out];rfl,rfl⟩
theorem SH {w:World}{B:Nat}{A:Option Addr}{n c:Nat}{l:List Int} (h:Own w B 3 (.slice A n c) (l.map (Value.int .i64))) (hB:B<=w.heap.size) (hw:∀ x ∈ l,k8 x) :
 ∃ b,B<=b/\cI (w.alloc (.cells #[.slice A n c,.int .i64 0] 217)) w.heap.size b l:=by
 have e:Ext w (w.alloc (.cells #[.slice A n c,.int .i64 0] 217)):=(Below.refl _ _).alloc (YF _) _
 obtain ⟨A',n',c',hv,hn,hcase⟩:=h
 injection hv with h1 h2 h3
 subst h1 h2 h3
 rw [List.length_map] at hn
 rcases hcase with ⟨h0,hc0⟩ | ⟨g,cur,hA,hg,hcur,hnc,hcm,hcs,ht⟩
 · exact ⟨w.heap.size,hB,A,n,c,0,l,aB w _,hn,by omega,rfl,by omega,by unfold maxLen;omega,by simp,hw,fun h=>absurd h (by omega)⟩
 · have hgl:=aA hcur
   refine ⟨g,hg,A,n,c,0,l,aB w _,hn,by omega,rfl,hnc,hcm,by simp;omega,hw,fun h=>⟨0,hA,by omega,fun j hj=>?_⟩⟩
   refine (e.cell (p:=⟨g,0+j,none⟩) hgl).trans ?_
   rw [YR,cell_of_row w g j cur _ _ hcur]
   have hj':(l.map (Value.int .i64))[j]?=some (.int .i64 (l.getD j 0)):=by
    rw [List.getElem?_map,YL (by omega)]
    simp [List.getD_eq_getElem?_getD,hn ▸ hj]
   rw [<- ht,List.getElem?_take,if_pos hj] at hj'
   simpa using hj'
theorem DU {v:Value}{l:List Int} (w:World) (h:RdI w .i64 v l) (hw:∀ x ∈ l,k8 x) (hl:l.length<=1000) :
 Calls Tryz.prog 110 #[v] w fun e w'=>∃ D b,e=.returned (.pointer (some ⟨D,0,none⟩))/\w.heap.size<=D/\w.heap.size<=b/\cI w' D b l/\Ext w w':=by
 have h1:∀ u ∈ l.map (Value.int .i64),u.oneCell'=true:=by
  intro u hu
  obtain ⟨x,_,rfl⟩:=List.mem_map.1 hu
  rfl
 have hm:l.length<=maxLen:=by unfold maxLen;omega
 go_enter Tryz.func110,Tryz.ntmps110
 go_wp2_with (refine gM (B:=w.heap.size) (w0:=w) wG (Own.empty _ _ _ _) (by first | exact h | exact Rd.ext h ((Below.refl _ _).alloc (YF _) _)) h1 (by first | exact Below.refl _ _ | exact (Below.refl _ _).alloc (YF _) _) (by simp;omega) (by simpa using hm) (by first | exact YF _ | simp) rfl rfl rfl rfl ?_;intro A c w1 o1 b1 g1)
 simp only [ZA,YN,List.length_map,YR] at o1
 obtain ⟨b,hb,hd⟩:=SH o1 b1.size hw
 go_ret
 exact ⟨_,b,rfl,b1.size,hb,hd,b1.alloc b1.size _⟩
theorem MG {full:List Int}{k:Nat}{x:Int}{L:List Int} (h:x::L=full.drop k):full.getD k 0=x/\L=full.drop (k+1)/\k<full.length:=by
 have hk:k<full.length:=by
  rcases Nat.lt_or_ge k full.length with q | q
  · exact q
  · rw [List.drop_of_length_le q] at h;cases h
 rw [List.drop_eq_getElem_cons hk] at h
 injection h with h1 h2
 exact ⟨by simp [List.getD_eq_getElem?_getD,hk,h1],h2,hk⟩
set_option maxHeartbeats 1000000 in
theorem lF {D b:Nat}{L:List Int} (n:Int) (w:World) (h:cI w D b L) (n2:n<=4611686018427387904) :
 Calls Tryz.prog 111 #[.pointer (some ⟨D,0,none⟩),.int .i64 n] w (VA w D b L n):=by
 have hD:=h.lt
 have HH:=ZH h
 obtain ⟨A,m,c,k,full,e1,e2,e3,e4,e5,e6,e7,e8,e9⟩:=h
 subst e2
 have c0:w.cell? ⟨D,0,none⟩=some (.slice A full.length c):=by rw [cell_of_row w D 0 _ _ _ e1];rfl
 have c1:w.cell? ⟨D,1,none⟩=some (.int .i64 (k:Int)):=by rw [cell_of_row w D 1 _ _ _ e1];rfl
 have f1:w.frozen? ⟨D,1,none⟩=false:=by simp [World.frozen?,e1]
 unfold maxLen at e6
 cases L with
 | nil =>
   have hk:k=full.length:=by
    have:=congrArg List.length e4
    simp at this
    omega
   subst hk
   clear e4 e8 e9 e1
   go_enter Tryz.func111,Tryz.ntmps111
   go_wp2_with (go_quiet (fail))
   go_ret
   exact ⟨rfl,Gb.of _ (Ext.drewN_ _ _),HH.out.ext (Ext.drewN_ _ _),rfl⟩
 | cons x L =>
   obtain ⟨hx,hL,hlt⟩:=MG e4
   obtain ⟨o,rfl,hbD,hcell⟩:=e9 (by omega)
   have hck:=hcell k hlt
   rw [hx] at hck
   have hwx:k8 x:=e8 x (by rw [<- hx];simp [List.getD_eq_getElem?_getD,hlt])
   have hbD':D≠b:=fun q=>hbD q.symm
   obtain ⟨x0,x1⟩:=hwx
   have HM:=ZH (fun W=>iP x n W x0 x1 n2)
   have HL:=ZH hL
   have wi1:IntKind.i64.wrap ((k:Int))=(k:Int):=IntWalk.i64_in _ (by omega)
   have zi1:(0:Int)<=(k:Int):=by omega
   have li1:(k:Int)<(full.length:Int):=by omega
   have ti1:((k:Int)).toNat=k:=by omega
   have wj:IntKind.i64.wrap ((k:Int)+1)=(k:Int)+1:=IntWalk.i64_in _ (by omega)
   have HW:=ZH e8
   clear e4 e8 hcell hx hL x0 x1
   go_enter Tryz.func111,Tryz.ntmps111
   go_wp2_with (go_quiet (fail))
   have xq:=Ext.drewN_ w nq
   have hbk:=HH.out.ltb
   obtain ⟨w2,hw2,G2,D2,S2⟩:∃ w2,w2=(w.drewN nq).setCell ⟨D,1,none⟩ (.int .i64 ((k:Int)+1))/\Gb D w w2/\cI w2 D b L/\w2.heap.size=w.heap.size:=by
    refine ⟨_,rfl,(Gb.of _ xq).tr (Gb.set D 1 _ _),?_,by simp⟩
    have hb2:((w.drewN nq).setCell ⟨D,1,none⟩ (.int .i64 ((k:Int)+1))).heap[D]?=some (.cells #[.slice (some ⟨b,o,none⟩) full.length c,.int .i64 ((k:Int)+1)] 217 (0,0)):=by
     have:=aF ((xq.block D hD).trans e1) 1 (.int .i64 ((k:Int)+1))
     simpa using this
    refine ⟨some ⟨b,o,none⟩,full.length,c,k+1,full,hb2.trans (by simp),rfl,hlt,HL.out,e5,by unfold maxLen;exact e6,by simpa using e7,HW.out,fun h0=>?_⟩
    obtain ⟨o',q1,q2,q3⟩:=e9 h0
    exact ⟨o',q1,q2,fun j hj=>(World.cell?_of_block ((aT hbD).trans (xq.block b e7))).trans (q3 j hj)⟩
   have HG:=ZH (And.intro G2 (And.intro D2 S2))
   have HB1:=ZH e1
   clear e9 e1 G2 D2 S2
   rw [<- hw2]
   have d1:w2.cell? ⟨D,1,none⟩=some (.int .i64 ((k:Int)+1)):=by
    have hb2:=aF ((xq.block D hD).trans HB1.out) 1 (.int .i64 ((k:Int)+1))
    rw [<- hw2] at hb2
    rw [cell_of_row w2 D 1 _ _ _ hb2]
    simp
   have d0:w2.cell? ⟨D,0,none⟩=some (.slice (some ⟨b,o,none⟩) full.length c):=by
    have hb2:=aF ((xq.block D hD).trans HB1.out) 1 (.int .i64 ((k:Int)+1))
    rw [<- hw2] at hb2
    rw [cell_of_row w2 D 0 _ _ _ hb2]
    simp
   have dk:w2.cell? ⟨b,o+k,none⟩=some (.int .i64 x):=by
    rw [hw2]
    exact (World.cell?_of_block ((aT hbD).trans (xq.block b e7))).trans hck
   have hlD:D<w2.heap.size:=by rw [HG.out.2.2];exact hD
   have hlb:b<w2.heap.size:=by rw [HG.out.2.2];exact e7
   clear hw2 xq c0 c1 f1 hck
   go_wp2_with (go_quiet (first | (go_at_call 30;exact (HM.out _).mono fun _ _ ⟨h1,h2⟩=>⟨h1,_,h2.symm⟩)))
   go_ret
   exact ⟨rfl,HG.out.1.tr (Gb.of _ (Ext.drewN_ _ _)),HG.out.2.1.ext (Ext.drewN_ _ _),HG.out.2.2⟩
theorem iZ {α:Type} (f:α->List Value) (k:Nat) (hf:∀ x,(f x).length=k):∀ l:List α,(l.flatMap f).length=l.length*k
 | []=>by simp
 | x::l=>by rw [List.flatMap_cons,YJ,hf,iZ f k hf l,YP,Nat.succ_mul];omega
theorem mY {α:Type} (f:α->List Value) (k:Nat) (hf:∀ x,(f x).length=k):∀ (l:List α) (i:Nat) (hi:i<l.length) (j:Nat),j<k->(l.flatMap f)[i*k+j]?=(f l[i])[j]?
 | x::l,0,_,j,hj=>by
   rw [List.flatMap_cons,List.getElem?_append_left (by rw [hf];omega)]
   simp
 | x::l,i+1,hi,j,hj=>by
   rw [List.flatMap_cons,List.getElem?_append_right (by rw [hf,Nat.succ_mul];omega),hf,show (i+1)*k+j - k=i*k+j by rw [Nat.succ_mul];omega]
   rw [mY f k hf l i (by simpa using hi) j hj]
   rfl
theorem RdK.flat {w:World}{α:Type}{f:α->List Value}{k:Nat} (h0:0<k) (hf:∀ x,(f x).length=k) {v:Value}{l:List α} (h:RdK w k v (l.flatMap f)) :
 ∃ A n c,v=.slice A n c/\n=l.length/\n<=c/\c<=maxLen/\(0<n->∃ b o,A=some ⟨b,o,none⟩/\b<w.heap.size/\∀ (i:Nat) (hi:i<l.length) (j:Nat) (u:Value),(f l[i])[j]?=some u->w.cell? ⟨b,o+i*k+j,none⟩=some u):=by
 obtain ⟨A,n,c,rfl,hn,hnc,hcm,hc⟩:=h
 have hl:n=l.length:=by
  rw [iZ f k hf] at hn
  exact ZD h0 hn
 refine ⟨A,n,c,rfl,hl,hnc,hcm,fun hp=>?_⟩
 obtain ⟨b,o,rfl,hcell⟩:=hc hp
 have all:∀ (i:Nat) (hi:i<l.length) (j:Nat) (u:Value),(f l[i])[j]?=some u->w.cell? ⟨b,o+i*k+j,none⟩=some u:=fun i hi j u hu=>by
  have hj:j<k:=by rw [<- hf l[i]];exact (List.getElem?_eq_some_iff.1 hu).1
  rw [YM]
  exact hcell _ u (by rw [mY f k hf l i hi j hj];exact hu)
 refine ⟨b,o,rfl,?_,all⟩
 have h1:0<l.length:=by omega
 have h2:0<(f l[0]).length:=by rw [hf];exact h0
 exact World.block_lt_of_cell? w _ (all 0 h1 0 (f l[0])[0] (YL h2))
end Go.Proofs.YtkjplpmogfmhkaaGreatDoor
