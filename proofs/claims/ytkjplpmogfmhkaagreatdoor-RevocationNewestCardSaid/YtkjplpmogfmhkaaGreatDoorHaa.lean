/- Parts Kit S Sha Nm Kk of the proof. -/
import Derived.Handy
import Derived.Lib.Hide
import Derived.Deep.AppendLies
import Derived.Deep.Draws
namespace Go.Proofs.YtkjplpmogfmhkaaGreatDoor
theorem ZH {p:Prop} (h:p):Go.RowKit.Hid p:=h
theorem YF : ∀ (n : Nat), n ≤ n:=@Nat.le_refl
theorem YG.{u} : ∀ {α : Type u} (l : List α) (i : Nat) (a : α), Array.setIfInBounds (List.toArray l) i a = List.toArray (List.set l i a):=@List.setIfInBounds_toArray
theorem YH.{u} : ∀ {α : Type u} {x : α} {xs : List α} {i : Nat} {a : α}, List.set (x :: xs) (i + 1) a = x :: List.set xs i a:=@List.set_cons_succ
theorem YI.{u} : ∀ {α : Type u} {x : α} {xs : List α} {a : α}, List.set (x :: xs) 0 a = a :: xs:=@List.set_cons_zero
theorem YJ.{u} : ∀ {α : Type u} {p bs : List α}, List.length (p ++ bs) = List.length p + List.length bs:=@List.length_append
theorem YK : ∀ (n : Nat), 0 ≤ n:=@Nat.zero_le
theorem YL.{u} : ∀ {α : Type u} {l : List α} {i : Nat} (h : i < List.length l), l[i]? = some l[i]:=@List.getElem?_eq_getElem
theorem YM : ∀ (n m k : Nat), n + m + k = n + (m + k):=@Nat.add_assoc
theorem YN.{u} : ∀ {α : Type u}, List.length ([] : List α) = 0:=@List.length_nil
theorem YO : ∀ {n m k : Nat}, n ≤ m → m ≤ k → n ≤ k:=@Nat.le_trans
theorem YP.{u} : ∀ {α : Type u} {a : α} {p : List α}, List.length (a :: p) = List.length p + 1:=@List.length_cons
theorem YQ.{u} : ∀ {α : Type u} {l : List α}, List.take 0 l = []:=@List.take_zero
theorem YR : ∀ (n : Nat), 0 + n = n:=@Nat.zero_add
theorem YS.{u} : ∀ {α : Type u} {l : List α} {i : Nat} {a : α}, l[i]? = some a → a ∈ l:=@List.mem_of_getElem?
theorem YT.{u} : ∀ {α : Type u} {a : α} {p : List α} {i : Nat}, List.take (i + 1) (a :: p) = a :: List.take i p:=@List.take_succ_cons
theorem YU.{u} : ∀ {α : Type u} {a : α} {l : List α} {i : Nat}, List.drop (i + 1) (a :: l) = List.drop i l:=@List.drop_succ_cons
theorem YV.{u} : ∀ {α : Type u} {l : List α}, List.drop 0 l = l:=@List.drop_zero
theorem YW.{u} : ∀ {α : Type u} (p bs cs : List α), p ++ bs ++ cs = p ++ (bs ++ cs):=@List.append_assoc
theorem YX : ∀ {n m k : Nat}, n < m → m ≤ k → n < k:=@Nat.lt_of_lt_of_le
theorem YY.{u} : ∀ {α : Type u} {i : Nat} {l : List α}, List.length (List.take i l) = min i (List.length l):=@List.length_take
theorem YZ.{u} : ∀ {α : Type u} {a : α} {l : List α}, a ∈ a :: l:=@List.mem_cons_self
theorem ZA.{u} : ∀ {α : Type u} (p : List α), [] ++ p = p:=@List.nil_append
theorem ZB.{u} : ∀ {α : Type u} {l : List α}, List.length l = 0 → l = []:=@List.eq_nil_of_length_eq_zero
theorem ZD : ∀ {n m k : Nat}, 0 < m → n * m = k * m → n = k:=@Nat.eq_of_mul_eq_mul_right
theorem ZG.{u} : ∀ {α : Type u} (y : α) {a : α} {l : List α}, a ∈ l → a ∈ y :: l:=@List.mem_cons_of_mem
open Go.RowKit
abbrev Ext (w w':World):Prop:=Below w.heap.size w w'
theorem Ext.tr {a b c:World} (h:Ext a b) (k:Ext b c):Ext a c:=h.trans (k.mono h.size)
def Rd (w:World) (v:Value) (xs:List Value):Prop :=
 ∃ A n c,v=.slice A n c/\n=xs.length/\n<=c/\c<=maxLen /\
  (0<n->∃ b o,A=some ⟨b,o,none⟩/\∀ j u,xs[j]?=some u->w.cell? ⟨b,o+j,none⟩=some u)
def Own (w:World) (B:Nat) (e:TypeId) (v:Value) (xs:List Value):Prop :=
 ∃ A n c,v=.slice A n c/\n=xs.length /\
  ((n=0/\c=0) \/ ∃ g cur,A=some ⟨g,0,none⟩/\B<=g/\w.heap[g]?=some (.cells cur e (0,0))/\n<=c/\c<=maxLen/\cur.size=c/\cur.toList.take n=xs)
def RI:Value->Nat | .slice _ n _=>n | _=>0
def aO:Value->Option Nat
 | .slice (some a) _ (_+1)=>some a.block
 | _=>none
theorem Rd.nil_ (w:World):Rd w (.slice none 0 0) []:=⟨none,0,0,rfl,rfl,YF _,by unfold maxLen;omega,fun h=>absurd h (by omega)⟩
theorem Own.nil_ (w:World) (B:Nat) (e:TypeId):Own w B e (.slice none 0 0) []:=⟨none,0,0,rfl,rfl,.inl ⟨rfl,rfl⟩⟩
theorem Own.empty (w:World) (B:Nat) (e:TypeId) (A:Option Addr):Own w B e (.slice A 0 0) []:=⟨A,0,0,rfl,rfl,.inl ⟨rfl,rfl⟩⟩
theorem aA {w:World}{g:Nat}{o:Obj} (h:w.heap[g]?=some o):g<w.heap.size:=(Array.getElem?_eq_some_iff.1 h).1
theorem Own.rd {w:World}{B:Nat}{e:TypeId}{v:Value}{xs:List Value} (h:Own w B e v xs):Rd w v xs:=by
 obtain ⟨A,n,c,rfl,hn,h | ⟨g,cur,rfl,hB,hg,hnc,hcm,hcs,ht⟩⟩:=h
 · obtain ⟨rfl,rfl⟩:=h
   exact ⟨A,0,0,rfl,hn,YF _,by unfold maxLen;omega,fun h=>absurd h (by omega)⟩
 · refine ⟨_,n,c,rfl,hn,hnc,hcm,fun _=>⟨g,0,rfl,fun j u hu=>?_⟩⟩
   rw [YR,cell_of_row w g j cur e (0,0) hg]
   rw [<- ht,List.getElem?_take] at hu
   split at hu
   · simpa using hu
   · cases hu
theorem Rd.keep {w w':World}{v:Value}{xs:List Value} (h:Rd w v xs) (hk:∀ p:Addr,p.block<w.heap.size->w'.cell? p=w.cell? p):Rd w' v xs:=by
 obtain ⟨A,n,c,rfl,hn,hnc,hcm,hc0⟩:=h
 refine ⟨A,n,c,rfl,hn,hnc,hcm,fun h0=>?_⟩
 obtain ⟨b,o,rfl,hc⟩:=hc0 h0
 exact ⟨b,o,rfl,fun j u hu=>(hk _ (World.block_lt_of_cell? w _ (hc j u hu))).trans (hc j u hu)⟩
theorem Rd.ext {w w':World}{v:Value}{xs:List Value} (h:Rd w v xs) (hb:Ext w w'):Rd w' v xs:=h.keep fun _ hp=>hb.cell hp
theorem Rd.below {w0 w:World}{v:Value}{xs:List Value} (h:Rd w0 v xs) (hb:Below w0.heap.size w0 w):Rd w v xs:=h.keep fun _ hp=>hb.cell hp
theorem Own.mono {w:World}{B B':Nat}{e:TypeId}{v:Value}{xs:List Value} (h:Own w B e v xs) (hB:B'<=B):Own w B' e v xs:=by
 obtain ⟨A,n,c,rfl,hn,h | ⟨g,cur,rfl,h1,hr⟩⟩:=h
 · exact ⟨A,n,c,rfl,hn,.inl h⟩
 · exact ⟨_,n,c,rfl,hn,.inr ⟨g,cur,rfl,YO hB h1,hr⟩⟩
theorem Own.ext {w w':World}{B:Nat}{e:TypeId}{v:Value}{xs:List Value} (h:Own w B e v xs) (hb:Ext w w'):Own w' B e v xs:=by
 obtain ⟨A,n,c,rfl,hn,h | ⟨g,cur,rfl,h1,hg,hr⟩⟩:=h
 · exact ⟨A,n,c,rfl,hn,.inl h⟩
 · exact ⟨_,n,c,rfl,hn,.inr ⟨g,cur,rfl,h1,(hb.block g (aA hg)).trans hg,hr⟩⟩
theorem Own.grown {w w':World}{B:Nat}{e:TypeId}{v:Value}{xs:List Value}{row:Option Nat} (h:Own w B e v xs) (hg:w.grownBy w' row) (hne:aO v=none \/ aO v≠row):Own w' B e v xs:=by
 obtain ⟨A,n,c,rfl,hn,h | ⟨g,cur,rfl,h1,hgg,hnc,hr⟩⟩:=h
 · exact ⟨A,n,c,rfl,hn,.inl h⟩
 · by_cases hc0:c=0
   · subst hc0
     exact ⟨_,n,0,rfl,hn,.inl ⟨by omega,rfl⟩⟩
   · refine ⟨_,n,c,rfl,hn,.inr ⟨g,cur,rfl,h1,(hg.block g (aA hgg) ?_).trans hgg,hnc,hr⟩⟩
     obtain ⟨c',rfl⟩:∃ c',c=c'+1:=⟨c - 1,by omega⟩
     rcases hne with h | h
     · simp [aO] at h
     · simpa [aO] using h
structure LC (P:Program) (t e:TypeId) (bytes:Nat):Prop where
 ex:∃ i z,P.underlying t=some (.slice e)/\P.info? e=some i/\i.zero=some z/\i.size=1/\i.bytes=bytes/\z.cells.size=1
theorem mF {P:Program}{w:World}{t ty e:TypeId}{i:TypeInfo} (ht:P.underlying t=some (.slice e)) (hi:P.info? e=some i) (A A2:Option Addr) (n c c2:Nat) (hnc:n<=c) :
 (Builtin.append_ #[t,t] ty #[.slice A n c,.slice A2 0 c2]).run P w=.ok (.slice A n c) w:=by
 cases A <;> cases A2 <;> simp [Builtin.append_,run_underlying ht,sizeOf,typeInfo,hi,Builtin.lenOf,Builtin.firstCells,loadCells,loadCellsFrom,hnc,storeCells]
theorem eK {w:World}{base:Nat}{e:TypeId}{v:Value}{n:Nat}{xs:List Value} (h:w.ownsRow base e 1 v n xs):Own w base e v xs:=by
 have hl:=h.1
 rcases h.2 with ⟨rfl,rfl⟩ | ⟨g,cap,cur,rfl,hb,hg,hnc,hcm,hcs,ht⟩
 · have:xs=[]:=ZB (by simpa using hl)
   subst this
   exact Own.nil_ _ _ _
 · exact ⟨_,n,cap,rfl,by omega,.inr ⟨g,cur,rfl,hb,hg,hnc,hcm,by omega,by simpa using ht⟩⟩
theorem JM {P:Program}{w:World}{t ty e:TypeId}{bytes B:Nat} (he:LC P t e bytes) {v src:Value}{xs news:List Value} (hown:Own w B e v xs) (hr:Rd w src news) (h1:∀ u ∈ news,u.oneCell'=true)
 (hb:(xs.length+news.length)*bytes<=140737488355328) (h63:xs.length+news.length<=maxLen) (hB:B<=w.heap.size) :
 ∃ A c w',(Builtin.append_ #[t,t] ty #[v,src]).run P w=.ok (.slice A (xs.length+news.length) c) w'/\Own w' B e (.slice A (xs.length+news.length) c) (xs++news)/\w.grownBy w' (aO v):=by
 obtain ⟨i,z,ht,hi,hz,hsz,hby,hzs⟩:=he.ex
 obtain ⟨A,n,c,rfl,hn,hcase⟩:=hown
 obtain ⟨A2,m,c2,rfl,hm,hmc,hcm2,hcells⟩:=hr
 by_cases hm0:m=0
 · subst hm0
   have hnil:news=[]:=ZB (by omega)
   subst hnil
   have hnc:n<=c:=by
    rcases hcase with h | ⟨g,cur,_,_,_,h,_⟩
    · omega
    · exact h
   refine ⟨A,c,w,?_,?_,⟨rfl,rfl,rfl,YF _,fun _ _ _=>rfl⟩⟩
   · rw [mF ht hi A A2 n c c2 hnc];simp [hn]
   · simp only [YN,Nat.add_zero,List.append_nil,<- hn]
     exact ⟨A,n,c,rfl,hn,hcase⟩
 · obtain ⟨b2,o2,rfl,hc2⟩:=hcells (by omega)
   have hnews:∀ j u,news[j]?=some u->w.cell? ((⟨b2,o2,none⟩:Addr).add j)=some u:=by
    intro j u hu
    rw [Addr.add_lit]
    exact hc2 j u hu
   rcases hcase with ⟨rfl,rfl⟩ | ⟨g,cur,rfl,hbg,hg,hnc,hcm,hcs,htk⟩
   · have hx:xs=[]:=ZB (by omega)
     subst hx
     have key:∃ v' w',(Builtin.append_ #[t,t] ty #[.slice A 0 0,.slice (some ⟨b2,o2,none⟩) m c2]).run P w=.ok v' w'/\w'.ownsRow w.heap.size e 1 v' m news/\w.grownBy w' none:=by
      cases A with
      | none =>
        obtain ⟨v',w',h1',h2',h3',_⟩:=run_append_own (P:=P) w w.heap.size t ty e i z 1 bytes ht hi hz hsz hby hzs (by decide) (.slice none 0 0) 0 [] (World.ownsRow_nil _ _ _ _) ⟨b2,o2,none⟩ m c2 news (by omega) hnews h1 (by simp only [YN] at h63;omega) (by simp only [YN,YR,<- hm] at hb ⊢;exact hb) (YF _)
        simp only [YR,ZA] at h2'
        exact ⟨v',w',h1',h2',h3'⟩
      | some ad =>
        obtain ⟨v',w',h1',h2',h3'⟩:=run_append_arg_grows (P:=P) w t ty e i z 1 bytes ht hi hz hsz hby hzs (by decide) ad 0 0 [] rfl (by simp) ⟨b2,o2,none⟩ m c2 news (by omega) hnews (by omega) (by simp only [YN] at h63;omega) (by simp only [YN,YR,<- hm] at hb ⊢;exact hb)
        simp only [YR,ZA] at h2'
        exact ⟨v',w',h1',h2',h3'⟩
     obtain ⟨v',w',k1,k2,k3⟩:=key
     obtain ⟨g',cap',rfl,_,_⟩:=k2.form (by omega)
     have ho:=(eK k2).mono hB
     refine ⟨some ⟨g',0,none⟩,cap',w',?_,?_,⟨k3.os,k3.tape,k3.output,k3.size,fun k hk _=>k3.block k hk (by simp)⟩⟩
     · rw [k1];simp [hm]
     · simp only [YN,YR,ZA,<- hm];exact ho
   · have hown':w.ownsRow B e 1 (.slice (some ⟨g,0,none⟩) n c) n xs:=⟨by omega,.inr ⟨g,c,cur,rfl,hbg,hg,hnc,hcm,by omega,by simpa using htk⟩⟩
     by_cases hc0:c=0
     · subst hc0
       obtain rfl:n=0:=by omega
       have hx:xs=[]:=ZB (by omega)
       subst hx
       obtain ⟨v',w',k1,k2,k3⟩:=run_append_arg_grows (P:=P) w t ty e i z 1 bytes ht hi hz hsz hby hzs (by decide) ⟨g,0,none⟩ 0 0 [] rfl (by simp) ⟨b2,o2,none⟩ m c2 news (by omega) hnews (by omega) (by simp only [YN] at h63;omega) (by simp only [YN,YR,<- hm] at hb ⊢;exact hb)
       simp only [YR,ZA] at k2
       obtain ⟨g',cap',rfl,_,_⟩:=k2.form (by omega)
       have ho:=(eK k2).mono hB
       refine ⟨some ⟨g',0,none⟩,cap',w',?_,?_,⟨k3.os,k3.tape,k3.output,k3.size,fun k hk _=>k3.block k hk (by simp)⟩⟩
       · rw [k1];simp [hm]
       · simp only [YN,YR,ZA,<- hm];exact ho
     · obtain ⟨v',w',k1,k2,k3,_,k5⟩:=run_append_own_at (P:=P) w B t ty e i z 1 bytes ht hi hz hsz hby hzs (by decide) _ n xs hown' ⟨b2,o2,none⟩ m c2 news (by omega) hnews h1 (by omega) (by rw [hn,hm];exact hb) hB
       obtain ⟨g',cap',rfl,_,_⟩:=k2.form (by omega)
       obtain ⟨c',rfl⟩:∃ c',c=c'+1:=⟨c - 1,by omega⟩
       refine ⟨some ⟨g',0,none⟩,cap',w',?_,?_,?_⟩
       · rw [k1];simp [hm,hn]
       · rw [<- hm,<- hn];exact eK k2
       · exact k3
theorem mG {w:World}{B:Nat}{e:TypeId}{v:Value}{xs:List Value} (h:Own w B e v xs):∀ k,aO v=some k->B<=k:=by
 obtain ⟨A,n,c,rfl,hn,⟨rfl,rfl⟩ | ⟨g,cur,rfl,hb,_⟩⟩:=h
 · intro k hk;cases A <;> simp [aO] at hk
 · intro k hk
   cases c with
   | zero=>simp [aO] at hk
   | succ c=>simp [aO] at hk;omega
section
variable {P:Program}{ops:Array Oper}{rest:List Oper}{o:Oper}{a:Act}{Q:Exit->Act->World->Prop}{w w0:World}
theorem gM {t e:TypeId}{bytes B:Nat} (he:LC P t e bytes) {v src:Value}{xs news:List Value} (hown:Own w B e v xs) (hr:Rd w src news) (h1:∀ u ∈ news,u.oneCell'=true)
 (hbel:Below B w0 w) (hb:(xs.length+news.length)*bytes<=140737488355328) (h63:xs.length+news.length<=maxLen) (hB:B<=w.heap.size)
 {s x:Operand} (hgd:o.guard=none) (ho:o.op=.call { callee:=.builtin .append,args:=#[s,x],argTypes:=#[t,t] }) (hs:a.eval s=v) (hx:a.eval x=src)
 (h:∀ A c w',Own w' B e (.slice A (xs.length+news.length) c) (xs++news)->Below B w0 w'->w.grownBy w' (aO v)->wpList P ops Q rest (a.put o.dst (.slice A (xs.length+news.length) c)) w'):wpList P ops Q (o::rest) a w :=
 wpList_plain hgd fun _ hK=>by
  obtain ⟨A,c,w',hrun,h2,h3⟩:=JM (P:=P) (ty:=o.type) he hown hr h1 hb h63 hB
  unfold Oper.wp execOp
  simp only [ho,resolve,invoke,builtin,Sem.run_bind,Sem.run_pure,Result.andThen_ok,List.map_toArray,List.map_cons,List.map_nil,hs,hx,hrun]
  exact hK _ _ (h A c w' h2 (hbel.grown h3 hB (mG hown)) h3)
theorem Rd.lit (w:World) (cs:Array Value) (e:TypeId) (n:Nat) (hn:n=cs.size) (hm:n<=maxLen):Rd (w.alloc (.cells cs e)) (.slice (some ⟨w.heap.size,0,none⟩) n n) cs.toList:=by
 refine ⟨_,n,n,rfl,by simpa using hn,YF _,hm,fun _=>⟨_,0,rfl,fun j u hu=>?_⟩⟩
 rw [YR,cell_of_row _ _ j cs e (0,0) (heap_alloc_new w _)]
 simpa using hu
theorem Own.lit (w:World) (cs:Array Value) (e:TypeId) (n:Nat) (hn:n=cs.size) (hm:n<=maxLen):Own (w.alloc (.cells cs e)) w.heap.size e (.slice (some ⟨w.heap.size,0,none⟩) n n) cs.toList :=
 ⟨_,n,n,rfl,by simpa using hn,.inr ⟨_,cs,rfl,YF _,heap_alloc_new w _,YF _,hm,hn.symm,by rw [hn,<- Array.length_toList];exact List.take_length⟩⟩
theorem Rd.cut {xs:List Value} (i j:Nat) {A:Option Addr}{n c:Nat} (h:Rd w (.slice A n c) xs) (hij:i<=j) (hj:j<=xs.length) :
 Rd w (.slice (if c=i then A else A.map (·.add i)) (j - i) (c - i)) ((xs.drop i).take (j - i)):=by
 obtain ⟨A',n',c',hv,hn,hnc,hcm,hcells⟩:=h
 injection hv with hA hn' hc'
 subst hA hn' hc'
 refine ⟨_,_,_,rfl,by simp;omega,by omega,by omega,fun h0=>?_⟩
 obtain ⟨b,o,rfl,hc⟩:=hcells (by omega)
 by_cases hci:c=i
 · omega
 · refine ⟨b,o+i,by simp [hci,Addr.add_lit],fun k u hu=>?_⟩
   rw [List.getElem?_take] at hu
   split at hu
   · rw [List.getElem?_drop] at hu
     have:=hc (i+k) u hu
     rwa [<- YM] at this
   · cases hu
end
theorem Below.drewN_ {B:Nat}{a w:World} (h:Below B a w) (n:Nat):Below B a (w.drewN n):=⟨h.os,h.tape,h.output,h.size,h.block⟩
theorem Ext.drewN_ (w:World) (n:Nat):Ext w (w.drewN n):=Below.drewN_ (Below.refl _ _) n
def bv (b:UInt8):Value:=.int .u8 (b.toNat:Int)
def bvs (l:List UInt8):List Value:=l.map bv
theorem bK (l:List UInt8):(bvs l).length=l.length:=by simp [bvs]
theorem pC (l m:List UInt8):bvs l++bvs m=bvs (l++m):=by simp [bvs]
theorem JN {l:List UInt8}{j:Nat}{u:Value} (h:(bvs l)[j]?=some u):∃ hj:j<l.length,u=.int .u8 (l[j].toNat:Int):=by
 simp only [bvs,List.getElem?_map,Option.map_eq_some_iff] at h
 obtain ⟨x,hx,rfl⟩:=h
 obtain ⟨hj,rfl⟩:=List.getElem?_eq_some_iff.1 hx
 exact ⟨hj,rfl⟩
theorem NK {l:List UInt8}{j:Nat} (h:j<l.length):(bvs l)[j]?=some (.int .u8 (l[j].toNat:Int)):=by simp [bvs,bv,h]
theorem JP (l:List UInt8):∀ u ∈ bvs l,u.oneCell'=true:=by
 intro u hu
 obtain ⟨x,_,rfl⟩:=List.mem_map.1 hu
 rfl
def u8 (z:Int):UInt8:=UInt8.ofNat (z % 256).toNat
theorem eV (z:Int):((u8 z).toNat:Int)=z % 256:=by
 unfold u8
 have h:(z % 256).toNat<256:=by omega
 rw [UInt8.toNat_ofNat']
 simp only [Nat.reducePow]
 omega
theorem uQ (z:Int):bv (u8 z)=.int .u8 (z % 256):=by unfold bv;rw [eV]
def be4 (x:Int):List UInt8:=[u8 (x / 16777216),u8 (x / 65536),u8 (x / 256),u8 x]
theorem uE (x:Int):bvs (be4 x)=[.int .u8 (x / 16777216 % 256),.int .u8 (x / 65536 % 256),.int .u8 (x / 256 % 256),.int .u8 (x % 256)]:=by
 simp [bvs,be4,uQ]
def cB (l:List UInt8) (i:Nat):Int:=((l.getD i 0).toNat:Int)
theorem dH (l:List UInt8) (i:Nat):0<=cB l i:=by unfold cB;omega
theorem dI (l:List UInt8) (i:Nat):cB l i<256:=by unfold cB;have:=UInt8.toNat_lt (l.getD i 0);omega
theorem jH {l:List UInt8}{i:Nat} (h:i<l.length):cB l i=(l[i].toNat:Int):=by unfold cB;simp [List.getD_eq_getElem?_getD,h]
theorem Rd.bytes {w:World}{v:Value}{l:List UInt8} (h:Rd w v (bvs l)):∃ A n c,v=.slice A n c/\n=l.length/\n<=c/\c<=maxLen /\
 (0<n->∃ b o,A=some ⟨b,o,none⟩/\b<w.heap.size/\∀ j,j<n->w.cell? ⟨b,o+j,none⟩=some (.int .u8 (cB l j))):=by
 obtain ⟨A,n,c,rfl,hn,hnc,hcm,hc⟩:=h
 rw [bK] at hn
 refine ⟨A,n,c,rfl,hn,hnc,hcm,fun h0=>?_⟩
 obtain ⟨b,o,rfl,hcell⟩:=hc h0
 have hall:∀ j,j<n->w.cell? ⟨b,o+j,none⟩=some (.int .u8 (cB l j)):=fun j hj=>by
  rw [jH (hn ▸ hj)]
  exact hcell j _ (NK (hn ▸ hj))
 exact ⟨b,o,rfl,World.block_lt_of_cell? w _ (hall 0 h0),hall⟩
theorem Rd.mkB {w:World}{b o n c:Nat}{l:List UInt8} (hn:n=l.length) (hnc:n<=c) (hcm:c<=maxLen) (hc:∀ j,j<n->w.cell? ⟨b,o+j,none⟩=some (.int .u8 (cB l j))) :
 Rd w (.slice (some ⟨b,o,none⟩) n c) (bvs l) :=
 ⟨_,n,c,rfl,by rw [bK];exact hn,hnc,hcm,fun _=>⟨b,o,rfl,fun j u hu=>by
   obtain ⟨hj,rfl⟩:=JN hu
   rw [hc j (hn ▸ hj),jH hj]⟩⟩
theorem uR (l:List UInt8) (i j:Nat):cB (l.drop i) j=cB l (i+j):=by unfold cB;simp [List.getD_eq_getElem?_getD]
def RdI (w:World) (k:IntKind) (v:Value) (l:List Int):Prop:=Rd w v (l.map (Value.int k))
theorem RdI.ints {w:World}{k:IntKind}{v:Value}{l:List Int} (h:RdI w k v l):∃ A n c,v=.slice A n c/\n=l.length/\n<=c/\c<=maxLen /\
 (0<n->∃ b o,A=some ⟨b,o,none⟩/\b<w.heap.size/\∀ j,j<n->w.cell? ⟨b,o+j,none⟩=some (.int k (l.getD j 0))):=by
 obtain ⟨A,n,c,rfl,hn,hnc,hcm,hc⟩:=h
 rw [List.length_map] at hn
 refine ⟨A,n,c,rfl,hn,hnc,hcm,fun h0=>?_⟩
 obtain ⟨b,o,rfl,hcell⟩:=hc h0
 have hall:∀ j,j<n->w.cell? ⟨b,o+j,none⟩=some (.int k (l.getD j 0)):=fun j hj=>hcell j _ (by
  rw [List.getElem?_map,YL (hn ▸ hj)]
  simp [List.getD_eq_getElem?_getD,hn ▸ hj])
 exact ⟨b,o,rfl,World.block_lt_of_cell? w _ (hall 0 h0),hall⟩
def gC (w:World) (l:List UInt8) (e:Ending) (w':World):Prop :=
 ∃ A n c,e=.returned (.slice A n c)/\Hid (n=l.length)/\Own w' w.heap.size 5 (.slice A n c) (bvs l)/\Ext w w'
def dR (w:World) (v:Value) (e:Ending) (w':World):Prop:=e=.returned v/\Ext w w'
set_option linter.unusedVariables false
def kH (n:Nat):Nat:=(119 - n % 64) % 64
theorem pR (n:Nat):kH n<64:=by unfold kH;omega
theorem nW {n k:Nat} (h:k<=kH n):(n+1+k) % 64=56 ↔ k=kH n:=by unfold kH at *;omega
def be8 (n:Int):List UInt8:=(List.range 8).map fun k=>u8 (n / 2 ^ (8*(7 - k)))
theorem lR (n:Int):(be8 n).length=8:=by simp [be8]
theorem NL (n:Int) {k:Nat} (h:k<8):(be8 n).take (k+1)=(be8 n).take k++[u8 (n / 2 ^ (8*(7 - k)))]:=by
 rw [List.take_succ_eq_append_getElem (by rw [lR];exact h)]
 simp [be8]
def pad (l:List UInt8):List UInt8:=l++[128]++List.replicate (kH l.length) 0++be8 (8*(l.length:Int))
theorem jM (l:List UInt8):(pad l).length=l.length+1+kH l.length+8:=by simp [pad,lR];omega
theorem RJ (l:List UInt8):(pad l).length % 64=0:=by rw [jM];unfold kH;omega
theorem CJ (l:List UInt8) (k:Nat):l++List.replicate k 0++[0]=l++List.replicate (k+1) (0:UInt8):=by
 rw [YW,<- List.replicate_succ']
theorem RK (n:Int):be4 (n / 4294967296)++be4 (n % 4294967296)=be8 n:=by
 have hk:∀ a b:Int,a % 256=b % 256->u8 a=u8 b:=fun a b h=>by unfold u8;rw [h]
 simp only [be4,be8,List.range,List.range.loop,List.map_cons,List.map_nil,List.cons_append,ZA,List.cons.injEq,and_true]
 refine ⟨?_,?_,?_,?_,?_,?_,?_,?_⟩ <;> (apply hk;simp only [Nat.reduceSub,Nat.reduceMul,Int.reducePow];try omega)
open Go
def UJ (a b c d:Int):Int:=bits .or .u32 (bits .or .u32 (bits .or .u32 (a*16777216) (b*65536)) (c*256)) d
def rJ (l:List UInt8) (i:Nat):Int:=UJ (cB l i) (cB l (i+1)) (cB l (i+2)) (cB l (i+3))
theorem CK (l:List UInt8) (i:Nat):rJ (l.drop i) 0=rJ l i:=by simp only [rJ,uR,Nat.add_zero,YR]
def mD (x n:Int):Int:=bits .or .u32 (x / 2 ^ n.toNat) (x*2 ^ (32 - n).toNat % 4294967296)
def sm0 (x:Int):Int:=bits .xor .u32 (bits .xor .u32 (mD x 7) (mD x 18)) (x / 8)
def sm1 (x:Int):Int:=bits .xor .u32 (bits .xor .u32 (mD x 17) (mD x 19)) (x / 1024)
def bg0 (x:Int):Int:=bits .xor .u32 (bits .xor .u32 (mD x 2) (mD x 13)) (mD x 22)
def bg1 (x:Int):Int:=bits .xor .u32 (bits .xor .u32 (mD x 6) (mD x 11)) (mD x 25)
def uS (y w7 x w16:Int):Int:=(sm1 y+w7+sm0 x+w16) % 4294967296
def gQ (l:List UInt8):Nat->List Int
 | 0=>[]
 | t+1=>gQ l t++[if t<16 then rJ l (4*t) else uS ((gQ l t).getD (t - 2) 0) ((gQ l t).getD (t - 7) 0) ((gQ l t).getD (t - 15) 0) ((gQ l t).getD (t - 16) 0)]
theorem fX (l:List UInt8):∀ t,(gQ l t).length=t
 | 0=>rfl
 | t+1=>by simp [gQ,fX l t]
def dF (l:List UInt8) (t:Nat):Int:=(gQ l 64).getD t 0
theorem pS (l:List UInt8) (t:Nat):∀ k,(gQ l (t+k)).take t=gQ l t
 | 0=>by rw [Nat.add_zero,List.take_of_length_le (by rw [fX];exact YF _)]
 | k+1=>by
   rw [<- YM,gQ,List.take_append_of_le_length (by rw [fX];omega),pS l t k]
theorem jI (l:List UInt8) {n t:Nat} (hn:n<=64) (ht:t<n):(gQ l n).getD t 0=dF l t:=by
 unfold dF
 have h:=pS l n (64 - n)
 rw [show n+(64 - n)=64 by omega] at h
 rw [<- h]
 simp [List.getD_eq_getElem?_getD,ht]
theorem rK (l:List UInt8) {t:Nat} (ht:t<16):dF l t=rJ l (4*t):=by
 rw [<- jI l (n:=t+1) (by omega) (by omega)]
 simp [gQ,List.getD_eq_getElem?_getD,fX,ht]
theorem rL (l:List UInt8) {t:Nat} (h16:16<=t) (ht:t<64):dF l t=uS (dF l (t - 2)) (dF l (t - 7)) (dF l (t - 15)) (dF l (t - 16)):=by
 rw [<- jI l (n:=t+1) (by omega) (by omega)]
 have e:(gQ l (t+1)).getD t 0=uS ((gQ l t).getD (t - 2) 0) ((gQ l t).getD (t - 7) 0) ((gQ l t).getD (t - 15) 0) ((gQ l t).getD (t - 16) 0):=by
  simp only [gQ,List.getD_eq_getElem?_getD]
  rw [List.getElem?_append_right (by rw [fX];exact YF _),fX]
  simp [show ¬ t<16 by omega]
 rw [e,jI l (by omega) (by omega),jI l (by omega) (by omega),jI l (by omega) (by omega),jI l (by omega) (by omega)]
def WO:List Int:=[1116352408,1899447441,3049323471,3921009573,961987163,1508970993,2453635748,2870763221,3624381080,310598401,607225278,1426881987,1925078388,2162078206,2614888103,3248222580,3835390401,4022224774,264347078,604807628,770255983,1249150122,1555081692,1996064986,2554220882,2821834349,2952996808,3210313671,3336571891,3584528711,113926993,338241895,666307205,773529912,1294757372,1396182291,1695183700,1986661051,2177026350,2456956037,2730485921,2820302411,3259730800,3345764771,3516065817,3600352804,4094571909,275423344,430227734,506948616,659060556,883997877,958139571,1322822218,1537002063,1747873779,1955562222,2024104815,2227730452,2361852424,2428436474,2756734187,3204031479,3329325298]
def kAt (t:Nat):Int:=WO.getD t 0
structure S8 where
 a:Int
 b:Int
 c:Int
 d:Int
 e:Int
 f:Int
 g:Int
 h:Int
def chF (e f g:Int):Int:=bits .xor .u32 (bits .and .u32 e f) (bits .and .u32 (bits .xor .u32 IntKind.u32.max e) g)
theorem UK:(if IntKind.u32.signed=true then (-1:Int) else IntKind.u32.max)=IntKind.u32.max:=rfl
def mjF (a b c:Int):Int:=bits .xor .u32 (bits .xor .u32 (bits .and .u32 a b) (bits .and .u32 a c)) (bits .and .u32 b c)
def t1F (s:S8) (k w:Int):Int:=s.h+bg1 s.e+chF s.e s.f s.g+k+w
def t2F (s:S8):Int:=bg0 s.a+mjF s.a s.b s.c
def lS (s:S8) (k w:Int):S8:=⟨(t1F s k w+t2F s) % 4294967296,s.a,s.b,s.c,(s.d+t1F s k w) % 4294967296,s.e,s.f,s.g⟩
def lT (l:List UInt8) (s:S8):Nat->S8
 | 0=>s
 | t+1=>lS (lT l s t) (kAt t) (dF l t)
def CL (s:List Int):S8:=⟨s.getD 0 0,s.getD 1 0,s.getD 2 0,s.getD 3 0,s.getD 4 0,s.getD 5 0,s.getD 6 0,s.getD 7 0⟩
def CM (s:List Int) (l:List UInt8):List Int :=
 let r:=lT l (CL s) 64
 [(s.getD 0 0+r.a) % 4294967296,(s.getD 1 0+r.b) % 4294967296,(s.getD 2 0+r.c) % 4294967296,(s.getD 3 0+r.d) % 4294967296,(s.getD 4 0+r.e) % 4294967296,(s.getD 5 0+r.f) % 4294967296,(s.getD 6 0+r.g) % 4294967296,(s.getD 7 0+r.h) % 4294967296]
def rM:List Int:=[1779033703,3144134277,1013904242,2773480762,1359893119,2600822924,528734635,1541459225]
def j6 (p:List UInt8):Nat->List Int
 | 0=>rM
 | k+1=>CM (j6 p k) ((p.drop (64*k)).take 64)
theorem eC (p:List UInt8):∀ k,(j6 p k).length=8
 | 0=>rfl
 | k+1=>rfl
def jN (s:List Int):List UInt8:=(s.map be4).flatten
def sha (l:List UInt8):List UInt8:=jN (j6 (pad l) ((pad l).length / 64))
def num (l:List UInt8):Int:=l.foldl (fun n c=>256*n+(c.toNat:Int)) 0
theorem CN (l:List UInt8) (c:UInt8):num (l++[c])=256*num l+(c.toNat:Int):=by simp [num]
theorem CO {l:List UInt8}{k:Nat} (h:k<l.length):num (l.take (k+1))=256*num (l.take k)+cB l k:=by
 rw [List.take_succ_eq_append_getElem h,CN,jH h]
theorem FP:∀ (k:Nat) (l:List UInt8),l.length=k->0<=num l/\num l<256 ^ k
 | 0,l,h=>by
   obtain rfl:=ZB h
   decide
 | k+1,l,h=>by
   have hl:l=l.take k++[l[k]]:=by
    rw [<- List.take_succ_eq_append_getElem (by omega),List.take_of_length_le (by omega)]
   have h2:=FP k (l.take k) (by rw [YY];omega)
   have h3:((l[k].toNat:Nat):Int)<256:=by have:=UInt8.toNat_lt l[k];omega
   rw [hl,CN,Int.pow_succ]
   generalize num (l.take k)=x at *
   generalize (256:Int) ^ k=y at *
   omega
theorem uF {l:List UInt8} (h:l.length<=7):0<=num l/\num l<72057594037927936:=by
 obtain ⟨h1,h2⟩:=FP _ l rfl
 refine ⟨h1,Int.lt_of_lt_of_le h2 ?_⟩
 have:∀ k,k<=7->(256:Int) ^ k<=72057594037927936:=by decide
 exact this _ h
theorem AC (l:List UInt8) (k:Nat) (hk:k<=6) (h:l.length<=7):0<=num (l.take k)/\num (l.take k)<281474976710656:=by
 obtain ⟨h1,h2⟩:=FP _ (l.take k) rfl
 refine ⟨h1,Int.lt_of_lt_of_le h2 ?_⟩
 have:∀ k,k<=6->(256:Int) ^ k<=281474976710656:=by decide
 exact this _ (by rw [YY];omega)
theorem FQ (a b:Nat) (ha:a<9223372036854775808) (hb:b<9223372036854775808):bits .or .i64 (a:Int) (b:Int)=((a ||| b:Nat):Int):=by
 have hx:a ||| b<2 ^ 63:=Nat.or_lt_two_pow (by omega) (by omega)
 have e:∀ c:Nat,c<9223372036854775808->(BitVec.ofInt 64 (c:Int)).toNat=c:=fun c hc=>by
  rw [BitVec.ofInt_natCast,BitVec.toNat_ofNat];exact Nat.mod_eq_of_lt (by omega)
 show IntKind.i64.wrap ((BitVec.ofInt 64 (a:Int) ||| BitVec.ofInt 64 (b:Int)).toNat:Int)=_
 rw [BitVec.toNat_or,e a ha,e b hb,IntKind.wrap_i64]
 omega
theorem UY {x y:Int} (hx:0<=x) (hx2:x<281474976710656) (hy:0<=y) (hy2:y<256):bits .or .i64 (x*256) y=256*x+y:=by
 obtain ⟨a,rfl⟩:=Int.eq_ofNat_of_zero_le hx
 obtain ⟨b,rfl⟩:=Int.eq_ofNat_of_zero_le hy
 have h:=FQ (a*256) b (by omega) (by omega)
 rw [show ((a*256:Nat):Int)=(a:Int)*256 by simp] at h
 rw [h,Nat.mul_comm a 256,<- Nat.two_pow_add_eq_or_of_lt (i:=8) (by omega)]
 simp
def RdK (w:World) (k:Nat) (v:Value) (xs:List Value):Prop :=
 ∃ A n c,v=.slice A n c/\n*k=xs.length/\n<=c/\c<=maxLen /\
  (0<n->∃ b o,A=some ⟨b,o,none⟩/\∀ j u,xs[j]?=some u->w.cell? ⟨b,o+j,none⟩=some u)
def aJ (w:World) (B:Nat) (e:TypeId) (k:Nat) (v:Value) (xs:List Value):Prop :=
 ∃ A n c,v=.slice A n c/\n*k=xs.length /\
  ((n=0/\c=0) \/ ∃ g cur,A=some ⟨g,0,none⟩/\B<=g/\w.heap[g]?=some (.cells cur e (0,0))/\n<=c/\c<=maxLen/\cur.size=c*k/\cur.toList.take (n*k)=xs)
theorem RdK.nil_ (w:World) (k:Nat) (A:Option Addr):RdK w k (.slice A 0 0) []:=⟨A,0,0,rfl,by simp,YF _,by unfold maxLen;omega,fun h=>absurd h (by omega)⟩
theorem aJ.empty (w:World) (B:Nat) (e:TypeId) (k:Nat) (A:Option Addr):aJ w B e k (.slice A 0 0) []:=⟨A,0,0,rfl,by simp,.inl ⟨rfl,rfl⟩⟩
theorem aJ.rd {w:World}{B:Nat}{e:TypeId}{k:Nat}{v:Value}{xs:List Value} (h:aJ w B e k v xs):RdK w k v xs:=by
 obtain ⟨A,n,c,rfl,hn,h | ⟨g,cur,rfl,hB,hg,hnc,hcm,hcs,ht⟩⟩:=h
 · obtain ⟨rfl,rfl⟩:=h
   exact ⟨A,0,0,rfl,hn,YF _,by unfold maxLen;omega,fun h=>absurd h (by omega)⟩
 · refine ⟨_,n,c,rfl,hn,hnc,hcm,fun _=>⟨g,0,rfl,fun j u hu=>?_⟩⟩
   rw [YR,cell_of_row w g j cur e (0,0) hg]
   rw [<- ht,List.getElem?_take] at hu
   split at hu
   · simpa using hu
   · cases hu
theorem RdK.keep {w w':World}{k:Nat}{v:Value}{xs:List Value} (h:RdK w k v xs) (hk:∀ p:Addr,p.block<w.heap.size->w'.cell? p=w.cell? p):RdK w' k v xs:=by
 obtain ⟨A,n,c,rfl,hn,hnc,hcm,hc0⟩:=h
 refine ⟨A,n,c,rfl,hn,hnc,hcm,fun h0=>?_⟩
 obtain ⟨b,o,rfl,hc⟩:=hc0 h0
 exact ⟨b,o,rfl,fun j u hu=>(hk _ (World.block_lt_of_cell? w _ (hc j u hu))).trans (hc j u hu)⟩
theorem RdK.ext {w w':World}{k:Nat}{v:Value}{xs:List Value} (h:RdK w k v xs) (hb:Ext w w'):RdK w' k v xs:=h.keep fun _ hp=>hb.cell hp
theorem aJ.mono {w:World}{B B':Nat}{e:TypeId}{k:Nat}{v:Value}{xs:List Value} (h:aJ w B e k v xs) (hB:B'<=B):aJ w B' e k v xs:=by
 obtain ⟨A,n,c,rfl,hn,h | ⟨g,cur,rfl,h1,hr⟩⟩:=h
 · exact ⟨A,n,c,rfl,hn,.inl h⟩
 · exact ⟨_,n,c,rfl,hn,.inr ⟨g,cur,rfl,YO hB h1,hr⟩⟩
theorem aJ.ext {w w':World}{B:Nat}{e:TypeId}{k:Nat}{v:Value}{xs:List Value} (h:aJ w B e k v xs) (hb:Ext w w'):aJ w' B e k v xs:=by
 obtain ⟨A,n,c,rfl,hn,h | ⟨g,cur,rfl,h1,hg,hr⟩⟩:=h
 · exact ⟨A,n,c,rfl,hn,.inl h⟩
 · exact ⟨_,n,c,rfl,hn,.inr ⟨g,cur,rfl,h1,(hb.block g (aA hg)).trans hg,hr⟩⟩
theorem aJ.grown {w w':World}{B:Nat}{e:TypeId}{k:Nat}{v:Value}{xs:List Value}{row:Option Nat} (h:aJ w B e k v xs) (hg:w.grownBy w' row) (hne:aO v=none \/ aO v≠row):aJ w' B e k v xs:=by
 obtain ⟨A,n,c,rfl,hn,h | ⟨g,cur,rfl,h1,hgg,hnc,hr⟩⟩:=h
 · exact ⟨A,n,c,rfl,hn,.inl h⟩
 · by_cases hc0:c=0
   · subst hc0
     exact ⟨_,n,0,rfl,hn,.inl ⟨by omega,rfl⟩⟩
   · refine ⟨_,n,c,rfl,hn,.inr ⟨g,cur,rfl,h1,(hg.block g (aA hgg) ?_).trans hgg,hnc,hr⟩⟩
     obtain ⟨c',rfl⟩:∃ c',c=c'+1:=⟨c - 1,by omega⟩
     rcases hne with h | h
     · simp [aO] at h
     · simpa [aO] using h
structure kI (P:Program) (t e:TypeId) (k bytes:Nat):Prop where
 ex:∃ i z,P.underlying t=some (.slice e)/\P.info? e=some i/\i.zero=some z/\i.size=k/\i.bytes=bytes/\z.cells.size=k
theorem gT {w:World}{base:Nat}{e:TypeId}{k:Nat}{v:Value}{n:Nat}{xs:List Value} (hk:0<k) (h:w.ownsRow base e k v n xs):aJ w base e k v xs:=by
 have hl:=h.1
 rcases h.2 with ⟨rfl,rfl⟩ | ⟨g,cap,cur,rfl,hb,hg,hnc,hcm,hcs,ht⟩
 · have:xs=[]:=ZB (by simpa using hl)
   subst this
   exact aJ.empty _ _ _ _ _
 · exact ⟨_,n,cap,rfl,hl.symm,.inr ⟨g,cur,rfl,hb,hg,hnc,hcm,hcs,ht⟩⟩
theorem aZ {w:World}{B:Nat}{e:TypeId}{k:Nat}{v:Value}{xs:List Value} (h:aJ w B e k v xs):∀ r,aO v=some r->B<=r:=by
 obtain ⟨A,n,c,rfl,hn,⟨rfl,rfl⟩ | ⟨g,cur,rfl,hb,_⟩⟩:=h
 · intro k hk;cases A <;> simp [aO] at hk
 · intro k hk
   cases c with
   | zero=>simp [aO] at hk
   | succ c=>simp [aO] at hk;omega
theorem nX {P:Program}{w:World}{t ty e:TypeId}{k bytes B:Nat} (hk:0<k) (he:kI P t e k bytes) {v src:Value}{n m:Nat}{xs news:List Value} (hown:aJ w B e k v xs) (hnx:n*k=xs.length) (hr:RdK w k src news) (hmx:m*k=news.length) (h1:∀ u ∈ news,u.oneCell'=true)
 (hb:(n+m)*bytes<=140737488355328) (h63:n+m<=maxLen) (hB:B<=w.heap.size) :
 ∃ A c w',(Builtin.append_ #[t,t] ty #[v,src]).run P w=.ok (.slice A (n+m) c) w'/\aJ w' B e k (.slice A (n+m) c) (xs++news)/\w.grownBy w' (aO v)/\(∀ r,aO (.slice A (n+m) c)=some r->aO v=some r \/ w.heap.size<=r):=by
 obtain ⟨i,z,ht,hi,hz,hsz,hby,hzs⟩:=he.ex
 obtain ⟨A,n',c,rfl,hn,hcase⟩:=hown
 obtain ⟨A2,m',c2,rfl,hm,hmc,hcm2,hcells⟩:=hr
 obtain rfl:n'=n:=ZD hk (hn.trans hnx.symm)
 obtain rfl:m'=m:=ZD hk (hm.trans hmx.symm)
 clear hnx hmx
 by_cases hm0:m'=0
 · subst hm0
   have hnil:news=[]:=ZB (by rw [<- hm];simp)
   subst hnil
   have hnc:n'<=c:=by
    rcases hcase with h | ⟨g,cur,_,_,_,h,_⟩
    · omega
    · exact h
   refine ⟨A,c,w,?_,?_,⟨rfl,rfl,rfl,YF _,fun _ _ _=>rfl⟩,fun r hr=>.inl (by cases A <;> cases c <;> first | exact hr | (simp [aO] at hr))⟩
   · rw [mF ht hi A A2 n' c c2 hnc];simp
   · simp only [Nat.add_zero,List.append_nil]
     exact ⟨A,n',c,rfl,hn,hcase⟩
 · obtain ⟨b2,o2,rfl,hc2⟩:=hcells (by omega)
   have hnews:∀ j u,news[j]?=some u->w.cell? ((⟨b2,o2,none⟩:Addr).add j)=some u:=by
    intro j u hu
    rw [Addr.add_lit]
    exact hc2 j u hu
   have fresh:∀ (A:Option Addr) (hn0:xs=[]),∃ v' w',(Builtin.append_ #[t,t] ty #[.slice A 0 0,.slice (some ⟨b2,o2,none⟩) m' c2]).run P w=.ok v' w'/\w'.ownsRow w.heap.size e k v' m' news/\w.grownBy w' none:=by
    intro A hn0
    subst hn0
    have hn0':n'=0:=by
     have:n'*k=0:=by simpa using hn
     rcases Nat.mul_eq_zero.1 this with h | h
     · exact h
     · omega
    subst hn0'
    cases A with
    | none =>
      obtain ⟨v',w',h1',h2',h3',_⟩:=run_append_own (P:=P) w w.heap.size t ty e i z k bytes ht hi hz hsz hby hzs hk (.slice none 0 0) 0 [] (World.ownsRow_nil _ _ _ _) ⟨b2,o2,none⟩ m' c2 news hm.symm hnews h1 h63 hb (YF _)
      simp only [YR,ZA] at h2'
      exact ⟨v',w',h1',h2',h3'⟩
    | some ad =>
      obtain ⟨v',w',h1',h2',h3'⟩:=run_append_arg_grows (P:=P) w t ty e i z k bytes ht hi hz hsz hby hzs hk ad 0 0 [] (by simp) (by simp) ⟨b2,o2,none⟩ m' c2 news hm.symm hnews (by omega) h63 hb
      simp only [YR,ZA] at h2'
      exact ⟨v',w',h1',h2',h3'⟩
   have fin:∀ v' w',w'.ownsRow w.heap.size e k v' m' news->w.grownBy w' none->n'=0->xs=[]->∃ A2 c2',v'=.slice A2 m' c2'/\aJ w' B e k (.slice A2 m' c2') news/\∀ r,aO (.slice A2 m' c2')=some r->w.heap.size<=r:=by
    intro v' w' k2 k3 _ _
    obtain ⟨g',cap',rfl,_,_⟩:=k2.form (by omega)
    exact ⟨_,_,rfl,(gT hk k2).mono hB,aZ (gT hk k2)⟩
   rcases hcase with ⟨h0,hc0⟩ | ⟨g,cur,rfl,hbg,hg,hnc,hcm,hcs,htk⟩
   · subst h0 hc0
     have hx:xs=[]:=ZB (by rw [<- hn];simp)
     obtain ⟨v',w',q1,q2,q3⟩:=fresh A hx
     obtain ⟨A3,c3,rfl,ho,hr3⟩:=fin v' w' q2 q3 rfl hx
     subst hx
     refine ⟨A3,c3,w',?_,?_,⟨q3.os,q3.tape,q3.output,q3.size,fun k hk _=>q3.block k hk (by simp)⟩,fun r hr=>.inr (hr3 r (by simpa using hr))⟩
     · rw [q1];simp
     · simp only [YR,ZA];exact ho
   · have hown':w.ownsRow B e k (.slice (some ⟨g,0,none⟩) n' c) n' xs:=⟨hn.symm,.inr ⟨g,c,cur,rfl,hbg,hg,hnc,hcm,hcs,htk⟩⟩
     by_cases hc0:c=0
     · subst hc0
       obtain rfl:n'=0:=by omega
       have hx:xs=[]:=ZB (by rw [<- hn];simp)
       obtain ⟨v',w',q1,q2,q3⟩:=fresh (some ⟨g,0,none⟩) hx
       obtain ⟨A3,c3,rfl,ho,hr3⟩:=fin v' w' q2 q3 rfl hx
       subst hx
       refine ⟨A3,c3,w',?_,?_,⟨q3.os,q3.tape,q3.output,q3.size,fun k hk _=>q3.block k hk (by simp)⟩,fun r hr=>.inr (hr3 r (by simpa using hr))⟩
       · rw [q1];simp
       · simp only [YR,ZA];exact ho
     · obtain ⟨v',w',k1,k2,k3,_,k5⟩:=run_append_own_at (P:=P) w B t ty e i z k bytes ht hi hz hsz hby hzs hk _ n' xs hown' ⟨b2,o2,none⟩ m' c2 news hm.symm hnews h1 h63 hb hB
       obtain ⟨g',cap',rfl,_,_⟩:=k2.form (by omega)
       obtain ⟨c',rfl⟩:∃ c',c=c'+1:=⟨c - 1,by omega⟩
       refine ⟨some ⟨g',0,none⟩,cap',w',k1,gT hk k2,k3,fun r hr=>?_⟩
       cases cap' with
       | zero=>simp [aO] at hr
       | succ q =>
         have hr':g'=r:=by simpa [aO] using hr
         subst hr'
         rcases k5 with h | h
         · exact .inl (h.symm.trans rfl)
         · exact .inr (Nat.le_of_eq (Option.some.inj h).symm)
theorem CP {P:Program}{w:World}{t ty e:TypeId}{k bytes B:Nat} (hk:0<k) (he:kI P t e k bytes) {v src:Value}{n m:Nat}{xs news:List Value} (hown:aJ w B e k v xs) (hnx:n*k=xs.length) (hr:RdK w k src news) (hmx:m*k=news.length) (h1:∀ u ∈ news,u.oneCell'=true)
 (hb:(n+m)*bytes<=140737488355328) (h63:n+m<=maxLen) (hB:B<=w.heap.size) :
 ∃ A c w',(Builtin.append_ #[t,t] ty #[v,src]).run P w=.ok (.slice A (n+m) c) w'/\aJ w' B e k (.slice A (n+m) c) (xs++news)/\w.grownBy w' (aO v):=by
 obtain ⟨A,c,w',h1,h2,h3,_⟩:=nX (ty:=ty) hk he hown hnx hr hmx h1 hb h63 hB
 exact ⟨A,c,w',h1,h2,h3⟩
section
variable {P:Program}{ops:Array Oper}{rest:List Oper}{o:Oper}{a:Act}{Q:Exit->Act->World->Prop}{w w0:World}
theorem bL {t e:TypeId}{k bytes B:Nat} (hk:0<k) (he:kI P t e k bytes) {v src:Value}{n m:Nat}{xs news:List Value} (hown:aJ w B e k v xs) (hnx:n*k=xs.length) (hr:RdK w k src news) (hmx:m*k=news.length) (h1:∀ u ∈ news,u.oneCell'=true)
 (hbel:Below B w0 w) (hb:(n+m)*bytes<=140737488355328) (h63:n+m<=maxLen) (hB:B<=w.heap.size)
 {s x:Operand} (hgd:o.guard=none) (ho:o.op=.call { callee:=.builtin .append,args:=#[s,x],argTypes:=#[t,t] }) (hs:a.eval s=v) (hx:a.eval x=src)
 (h:∀ A n' c w',Hid (n'=n+m)->aJ w' B e k (.slice A n' c) (xs++news)->Below B w0 w'->w.grownBy w' (aO v)->wpList P ops Q rest (a.put o.dst (.slice A n' c)) w'):wpList P ops Q (o::rest) a w :=
 wpList_plain hgd fun _ hK=>by
  obtain ⟨A,c,w',hrun,h2,h3⟩:=CP (P:=P) (ty:=o.type) hk he hown hnx hr hmx h1 hb h63 hB
  unfold Oper.wp execOp
  simp only [ho,resolve,invoke,builtin,Sem.run_bind,Sem.run_pure,Result.andThen_ok,List.map_toArray,List.map_cons,List.map_nil,hs,hx,hrun]
  exact hK _ _ (h A _ c w' (show _=_ from rfl) h2 (hbel.grown h3 hB (aZ hown)) h3)
theorem lU {t e:TypeId}{k bytes B:Nat} (hk:0<k) (he:kI P t e k bytes) {v src:Value}{n m:Nat}{xs news:List Value} (hown:aJ w B e k v xs) (hnx:n*k=xs.length) (hr:RdK w k src news) (hmx:m*k=news.length) (h1:∀ u ∈ news,u.oneCell'=true)
 (hbel:Below B w0 w) (hb:(n+m)*bytes<=140737488355328) (h63:n+m<=maxLen) (hB:B<=w.heap.size)
 {s x:Operand} (hgd:o.guard=none) (ho:o.op=.call { callee:=.builtin .append,args:=#[s,x],argTypes:=#[t,t] }) (hs:a.eval s=v) (hx:a.eval x=src)
 (h:∀ A n' c w',Hid (n'=n+m)->aJ w' B e k (.slice A n' c) (xs++news)->Below B w0 w'->w.grownBy w' (aO v)->(∀ r,aO (.slice A n' c)=some r->aO v=some r \/ w.heap.size<=r)->wpList P ops Q rest (a.put o.dst (.slice A n' c)) w'):wpList P ops Q (o::rest) a w :=
 wpList_plain hgd fun _ hK=>by
  obtain ⟨A,c,w',hrun,h2,h3,h4⟩:=nX (P:=P) (ty:=o.type) hk he hown hnx hr hmx h1 hb h63 hB
  unfold Oper.wp execOp
  simp only [ho,resolve,invoke,builtin,Sem.run_bind,Sem.run_pure,Result.andThen_ok,List.map_toArray,List.map_cons,List.map_nil,hs,hx,hrun]
  exact hK _ _ (h A _ c w' (show _=_ from rfl) h2 (hbel.grown h3 hB (aZ hown)) h3 h4)
end
theorem RdK.lit (w:World) (k:Nat) (cs:Array Value) (e:TypeId) (n:Nat) (hn:n*k=cs.size) (hm:n<=maxLen):RdK (w.alloc (.cells cs e)) k (.slice (some ⟨w.heap.size,0,none⟩) n n) cs.toList:=by
 refine ⟨_,n,n,rfl,by simpa using hn,YF _,hm,fun _=>⟨_,0,rfl,fun j u hu=>?_⟩⟩
 rw [YR,cell_of_row _ _ j cs e (0,0) (heap_alloc_new w _)]
 simpa using hu
theorem aJ.lit (w:World) (k:Nat) (cs:Array Value) (e:TypeId) (n:Nat) (hn:n*k=cs.size) (hm:n<=maxLen):aJ (w.alloc (.cells cs e)) w.heap.size e k (.slice (some ⟨w.heap.size,0,none⟩) n n) cs.toList :=
 ⟨_,n,n,rfl,by simpa using hn,.inr ⟨_,cs,rfl,YF _,heap_alloc_new w _,YF _,hm,hn.symm,by rw [hn,<- Array.length_toList];exact List.take_length⟩⟩
end Go.Proofs.YtkjplpmogfmhkaaGreatDoor
