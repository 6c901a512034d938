/- Parts Pkn of the proof. -/
import Derived.Test.YtkjplpmogfmhkaaGreatDoorIar
import Derived.Test.YtkjplpmogfmhkaaGreatDoorIai
namespace Go.Proofs.YtkjplpmogfmhkaaGreatDoor
open Go.RowKit
set_option linter.unusedVariables false
set_option maxRecDepth 100000
section
variable {α:Type}{V:α→Prop}{B:α→List UInt8}{O:α→List Nd}{x:List Nd→Option α}
end
def cK (l:List UInt8):Prop:=(1≤l.length∧l.length≤3)∧∀ i,i<l.length→upI (cA l i)
instance (l:List UInt8):Decidable (cK l):=inferInstanceAs (Decidable (_∧_))
def lA (x:Int):Prop:=1≤x∧x≤1073741824
instance (x:Int):Decidable (lA x):=inferInstanceAs (Decidable (_∧_))
structure NC where
 st:List UInt8
 kind:Int
 num:Int
 iss:Int
 own:Int
 key:Int
 fr:Int
 un:Int
 to:Int
 e:Int
 s:Int
def oH (num iss own kind:Int):Prop:=lA num∧lA iss∧lA own∧(iss=own ↔ kind=1)
instance (num iss own kind:Int):Decidable (oH num iss own kind):=inferInstanceAs (Decidable (_∧_∧_∧_))
def xI (fr un to:Int):Prop:=0≤fr∧fr≤un∧un≤to∧to≤73048
instance (fr un to:Int):Decidable (xI fr un to):=inferInstanceAs (Decidable (_∧_∧_∧_))
def ckN (c:NC):Int :=
 if ¬ cK c.st then 60 else if c.kind<1 ∨ 4<c.kind then 61 else if ¬ oH c.num c.iss c.own c.kind then 3 else
 if cH c.key=false then 10 else if ¬ xI c.fr c.un c.to then 8 else 0
theorem kL {c:NC} (h:ckN c=0):cK c.st∧1≤c.kind∧c.kind≤4∧oH c.num c.iss c.own c.kind∧cH c.key=true∧xI c.fr c.un c.to:=by
 unfold ckN at h
 split at h
 · cases h
 · rename_i h1
   split at h
   · cases h
   · rename_i h2
     split at h
     · cases h
     · rename_i h3
       split at h
       · cases h
       · rename_i h4
         split at h
         · cases h
         · rename_i h5
           simp only [Decidable.not_not] at h1 h3 h5
           exact ⟨h1,by omega,by omega,h3,by simpa using h4,h5⟩
theorem LJ {c:NC} (h:¬ cK c.st):ckN c=60:=if_pos h
theorem pP {c:NC} (h1:cK c.st) (h2:c.kind<1 ∨ 4<c.kind):ckN c=61:=by unfold ckN;rw [if_neg (not_not_intro h1),if_pos h2]
theorem iS {c:NC} (h1:cK c.st) (h2:¬ (c.kind<1 ∨ 4<c.kind)) (h3:¬ oH c.num c.iss c.own c.kind):ckN c=3:=by unfold ckN;rw [if_neg (not_not_intro h1),if_neg h2,if_pos h3]
theorem G6 {c:NC} (h1:cK c.st) (h2:¬ (c.kind<1 ∨ 4<c.kind)) (h3:oH c.num c.iss c.own c.kind) (h4:cH c.key=false):ckN c=10:=by unfold ckN;rw [if_neg (not_not_intro h1),if_neg h2,if_neg (not_not_intro h3),if_pos h4]
theorem iT {c:NC} (h1:cK c.st) (h2:¬ (c.kind<1 ∨ 4<c.kind)) (h3:oH c.num c.iss c.own c.kind) (h4:cH c.key=true) (h5:¬ xI c.fr c.un c.to):ckN c=8:=by unfold ckN;rw [if_neg (not_not_intro h1),if_neg h2,if_neg (not_not_intro h3),if_neg (by rw [h4];simp),if_pos h5]
theorem yT {c:NC} (h1:cK c.st) (h2:¬ (c.kind<1 ∨ 4<c.kind)) (h3:oH c.num c.iss c.own c.kind) (h4:cH c.key=true) (h5:xI c.fr c.un c.to):ckN c=0:=by unfold ckN;rw [if_neg (not_not_intro h1),if_neg h2,if_neg (not_not_intro h3),if_neg (by rw [h4];simp),if_neg (not_not_intro h5)]
def onN (c:NC) (day:Int):Int:=if ckN c=0 then (if day<c.fr then 64 else if c.to<day then 63 else 0) else ckN c
def ncV (c:NC):Value:=.agg #[.string (aH c.st),.int .i64 c.kind,.int .i64 c.num,.int .i64 c.iss,.int .i64 c.own,.int .i64 c.key,.int .i64 c.fr,.int .i64 c.un,.int .i64 c.to,.int .i64 c.e,.int .i64 c.s]
def cP:NC:=⟨[],0,0,0,0,0,0,0,0,0,0⟩
def oI (c:NC):List UInt8:=be3 c.fr++be3 c.un++be3 c.to
def dZ (c:NC):Nd:=.mk 48 [] [aY 19 c.st,aY 129 [u8 c.kind],aY 130 (be4 c.num),aY 131 (be4 c.iss),aY 132 (be4 c.own),aY 133 (be4 c.key),aY 134 (oI c)]
def eC (c:NC):Nd:=.mk 48 [] [dZ c,aY 3 (be4 c.e++be4 c.s)]
def dL (c:NC):List UInt8:=bZ 2 [dZ c]
def QI (c:NC):Prop:=ckN c=0∧RS c.e c.s=0
theorem uR (c:NC):lT 2 [dZ c]:=by
 refine dI (E5 (by decide) (by decide) (by decide) (by decide) ?_) (mG _)
 refine dI (jU (by decide) (by decide) (by decide) (by decide)) ?_
 refine dI (jU (by decide) (by decide) (by decide) (by decide)) ?_
 refine dI (jU (by decide) (by decide) (by decide) (by decide)) ?_
 refine dI (jU (by decide) (by decide) (by decide) (by decide)) ?_
 refine dI (jU (by decide) (by decide) (by decide) (by decide)) ?_
 refine dI (jU (by decide) (by decide) (by decide) (by decide)) ?_
 exact dI (jU (by decide) (by decide) (by decide) (by decide)) (mG _)
theorem LN (c:NC):lT 3 [eC c]:=by
 refine dI (E5 (by decide) (by decide) (by decide) (by decide) ?_) (mG _)
 refine dI (uR c _ (List.mem_singleton.2 rfl)) ?_
 exact dI (jU (by decide) (by decide) (by decide) (by decide)) (mG _)
theorem uS {c:NC} (h1:c.st.length≤3):(dL c).length≤200:=by
 have h:=nH 2 [dZ c]
 have e1:bW 2 [dZ c]=8:=rfl
 have e2:iC 2 [dZ c]=c.st.length+26:=by
  simp only [iC,dZ,aY,oI,Nd.val,Nd.kids,List.map_cons,List.map_nil,List.sum_cons,List.sum_nil,U0,U7,UB,be4,be3]
  omega
 unfold dL
 omega
def wI (c:NC) (e s:Int):NC:=⟨c.st,c.kind,c.num,c.iss,c.own,c.key,c.fr,c.un,c.to,e,s⟩
def byN (c:NC):List UInt8:=if ckN c=0 then dL c else []
def pQ (k:Int) (c:NC):NC:=if ckN c=0∧sK k=0 then wI c (sE k (dL c)) (sS k (dL c)) else cP
def IK (k:Int) (c:NC):Int:=if ckN c=0 then sK k else ckN c
def vfN (p:Int) (c:NC):Bool:=if ckN c=0 then jT p (dL c) c.e c.s else false
def rtN (c:NC):Bool:=if c.kind=1 then vfN c.key c else false
theorem OJ (c:NC) (e s:Int):ckN (wI c e s)=ckN c:=rfl
theorem E7 (c:NC) (e s:Int):dL (wI c e s)=dL c:=rfl
theorem yU {k:Int}{c:NC} (hk:inB 1 1073741789 k=true) (hc:ckN c=0):pQ k c=wI c (nW k (dL c)) (qX k (dL c)):=by
 unfold pQ sE sS
 have hs:sK k=0:=if_pos hk
 rw [if_pos ⟨hc,hs⟩,if_pos hk,if_pos hk]
theorem IL {k:Int}{c:NC} (hk:inB 1 1073741789 k=true) (hc:ckN c=0):vfN (pw 4 k) (pQ k c)=true:=by
 obtain ⟨h0,h1⟩:=dH hk
 rw [yU hk hc]
 unfold vfN
 rw [OJ,if_pos hc,E7]
 exact pM h0 h1 _
theorem LP {e s:Int} (he:0≤e∧e<1073741789) (hs:0≤s∧s<1073741789):RS e s=0:=if_pos ⟨fO he.1 he.2,fO hs.1 hs.2⟩
theorem yV {k:Int}{c:NC} (hk:inB 1 1073741789 k=true) (hc:ckN c=0):QI (pQ k c):=by
 rw [yU hk hc]
 exact ⟨hc,LP (yO _ _) (FZ _ _)⟩
theorem yW (c:NC):(byN c).length≤200:=by
 unfold byN
 split
 · rename_i h
   exact uS (kL h).1.1.2
 · simp
def smN (c:NC):Prop:=c.st.length≤maxLen
theorem uT {c:NC} (h:ckN c=0):smN c:=by have:=(kL h).1.1.2;unfold smN maxLen;omega
theorem lX {l:List UInt8} (h:l.length<1):decide (cK l)=false:=decide_eq_false fun q=>by have:=q.1.1;omega
theorem mI {l:List UInt8} (h:3<l.length):decide (cK l)=false:=decide_eq_false fun q=>by have:=q.1.2;omega
theorem pR {l:List UInt8} (i:Nat) (hi:i<l.length) (h:¬ upI (cA l i)):decide (cK l)=false:=decide_eq_false fun q=>h (q.2 i hi)
theorem uU {l:List UInt8} (h1:1≤l.length) (h2:l.length≤3) (h4:∀ i,i<l.length→upI (cA l i)):decide (cK l)=true:=decide_eq_true ⟨⟨h1,h2⟩,h4⟩
set_option maxHeartbeats 1000000 in
theorem xJ (s:ByteArray) (w:World) (hs:s.size≤maxLen):Calls Tryz.prog 136 #[.string s] w fun e w'=>e=.returned (.bool (decide (cK s.data.toList)))∧w=w':=by
 unfold maxLen at hs
 have hsz:s.data.toList.length=s.size:=by simp
 by_cases h1:s.size<1
 · have HN:=UP (lX (l:=s.data.toList) (by omega))
   clear hsz
   go_enter Tryz.func136,Tryz.ntmps136
   go_wp2
   go_ret
   exact ⟨by rw [HN.out];rfl,rfl⟩
 by_cases h16:3<s.size
 · have HN:=UP (mI (l:=s.data.toList) (by omega))
   clear hsz
   go_enter Tryz.func136,Tryz.ntmps136
   go_wp2
   go_ret
   exact ⟨by rw [HN.out];rfl,rfl⟩
 have HZ:=UP hsz
 clear hsz
 go_enter Tryz.func136,Tryz.ntmps136
 go_wp2
 go_loop [3,14] (fun _ i=>∃ k:Nat,k≤s.size∧i=.int .i64 (k:Int)∧∀ j,j<k→upI (cA s.data.toList j)) (fun _ i=>s.size - (intOf i).toNat)
 case atStart=>exact ⟨0,U4 _,rfl,fun j hj=>absurd hj (by omega)⟩
 case round =>
  obtain ⟨k,hk,rfl,hall⟩:=hrel
  have HA:=UP hall
  clear hall
  by_cases hlt:k<s.size
  · have HQ:=UP (PW hlt)
    have uk:(s[k].toNat:Int)<256:=by have:=UInt8.toNat_lt s[k];omega
    have next:upI (s[k].toNat:Int)→∀ j,j<k+1→upI (cA s.data.toList j):=fun h j hj=>by
     by_cases hjk:j<k
     · exact HA.out j hjk
     · obtain rfl:j=k:=by omega
       rw [HQ.out];exact h
    have NX:=UP next
    have bad:¬ upI (s[k].toNat:Int)→decide (cK s.data.toList)=false:=fun h=>pR k (by rw [HZ.out];exact hlt) (by rw [HQ.out];exact h)
    have BD:=UP bad
    clear next bad
    by_cases c1:(s[k].toNat:Int)<65
    · have HN:=UP (BD.out (by unfold upI;omega))
      go_wp2
      go_ret
      exact ⟨by rw [HN.out];rfl,rfl⟩
    · by_cases c2:90<(s[k].toNat:Int)
      · have HN:=UP (BD.out (by unfold upI;omega))
        go_wp2
        go_ret
        exact ⟨by rw [HN.out];rfl,rfl⟩
      · have HN:=UP (NX.out (by unfold upI;omega))
        go_wp2
        go_round
        case rel=>exact ⟨k+1,by omega,by go_num,HN.out⟩
        case measure=>simp [intOf];omega
  · obtain rfl:k=s.size:=by omega
    have HN:=UP (uU (l:=s.data.toList) (by rw [HZ.out];omega) (by rw [HZ.out];omega) (fun i hi=>HA.out i (by rw [← HZ.out];exact hi)))
    go_wp2
    go_ret
    exact ⟨by rw [HN.out];rfl,rfl⟩
set_option maxHeartbeats 1000000 in
theorem pS (s:ByteArray) (w:World) (hs:s.size≤maxLen):Calls Tryz.prog 140 #[.string s] w fun e w'=>e=.returned (.bool (decide (cK s.data.toList)))∧w=w':=by
 unfold maxLen at hs
 have hsz:s.data.toList.length=s.size:=by simp
 have HZ:=UP hsz
 clear hsz
 go_enter Tryz.func140,Tryz.ntmps140
 go_wp2
 go_loop [3] (fun i=>∃ k:Nat,k≤s.size∧i=.int .i64 (k:Int)∧∀ j,j<k→upI (cA s.data.toList j)) (fun i=>s.size - (intOf i).toNat)
 case atStart=>exact ⟨0,U4 _,rfl,fun j hj=>absurd hj (by omega)⟩
 case round =>
  obtain ⟨k,hk,rfl,hall⟩:=hrel
  have HA:=UP hall
  clear hall
  by_cases hlt:k<s.size
  · have HQ:=UP (PW hlt)
    have uk:(s[k].toNat:Int)<256:=by have:=UInt8.toNat_lt s[k];omega
    have NX:=UP (fun (h:upI (s[k].toNat:Int))=>(fun j hj=>by
     by_cases hjk:j<k
     · exact HA.out j hjk
     · obtain rfl:j=k:=by omega
       rw [HQ.out];exact h:∀ j,j<k+1→upI (cA s.data.toList j)))
    have BD:=UP (fun (h:¬ upI (s[k].toNat:Int))=>pR (l:=s.data.toList) k (by rw [HZ.out];exact hlt) (by rw [HQ.out];exact h))
    by_cases c1:(s[k].toNat:Int)<65
    · have HN:=UP (BD.out (by unfold upI;omega))
      go_wp2
      go_ret
      exact ⟨by rw [HN.out];rfl,rfl⟩
    · by_cases c2:90<(s[k].toNat:Int)
      · have HN:=UP (BD.out (by unfold upI;omega))
        go_wp2
        go_ret
        exact ⟨by rw [HN.out];rfl,rfl⟩
      · have HN:=UP (NX.out (by unfold upI;omega))
        go_wp2
        go_round
        case rel=>exact ⟨k+1,by omega,by go_num,HN.out⟩
        case measure=>simp [intOf];omega
  · obtain rfl:k=s.size:=by omega
    by_cases h1:1≤s.size
    · by_cases h2:s.size≤3
      · have HN:=UP ((uU (l:=s.data.toList) (by rw [HZ.out];omega) (by rw [HZ.out];omega) (fun i hi=>HA.out i (by rw [← HZ.out];exact hi))).trans (decide_eq_true (show (s.size:Int)≤3 by omega)).symm)
        go_wp2
        go_ret
        exact ⟨by rw [HN.out];rfl,rfl⟩
      · have HN:=UP ((mI (l:=s.data.toList) (by rw [HZ.out];omega)).trans (decide_eq_false (show ¬ (s.size:Int)≤3 by omega)).symm)
        go_wp2
        go_ret
        exact ⟨by rw [HN.out];rfl,rfl⟩
    · have HN:=UP (lX (l:=s.data.toList) (by rw [HZ.out];omega))
      go_wp2
      go_ret
      exact ⟨by rw [HN.out];rfl,rfl⟩
theorem sZ (l:List UInt8) (w:World) (hl:l.length≤maxLen):Calls Tryz.prog 136 #[.string (aH l)] w fun e w'=>e=.returned (.bool (decide (cK l)))∧w=w' :=
 xJ (aH l) w (by show l.toArray.size≤_;simpa using hl)
theorem pT (l:List UInt8) (w:World) (hl:l.length≤maxLen):Calls Tryz.prog 140 #[.string (aH l)] w fun e w'=>e=.returned (.bool (decide (cK l)))∧w=w' :=
 pS (aH l) w (by show l.toArray.size≤_;simpa using hl)
theorem tA (x:Int) (w:World):Calls Tryz.prog 240 #[.int .i64 x] w fun e w'=>e=.returned (.bool (cH x))∧w=w':=fT x w
theorem pU (x:Int) (w:World):Calls Tryz.prog 184 #[.int .i64 x] w fun e w'=>e=.returned (.bool (cH x))∧w=w':=dX x w
theorem fC (x:Int) (w:World):Calls Tryz.prog 137 #[.int .i64 x] w fun e w'=>e=.returned (.bool (decide (lA x)))∧w=w':=by
 by_cases h1:1≤x
 · have HN:=UP (show decide (lA x)=decide (x≤1073741824) from decide_eq_decide.2 ⟨fun h=>h.2,fun h=>⟨h1,h⟩⟩)
   go_enter Tryz.func137,Tryz.ntmps137
   go_wp2
   go_ret
   exact ⟨by rw [HN.out];rfl,rfl⟩
 · have HN:=UP (show decide (lA x)=false from decide_eq_false fun h=>h1 h.1)
   go_enter Tryz.func137,Tryz.ntmps137
   go_wp2
   go_ret
   exact ⟨by rw [HN.out];rfl,rfl⟩
theorem eF (x:Int) (w:World):Calls Tryz.prog 141 #[.int .i64 x] w fun e w'=>e=.returned (.bool (decide (lA x)))∧w=w':=by
 by_cases h1:1≤x
 · have HN:=UP (show decide (lA x)=decide (x≤1073741824) from decide_eq_decide.2 ⟨fun h=>h.2,fun h=>⟨h1,h⟩⟩)
   go_enter Tryz.func141,Tryz.ntmps141
   go_wp2
   go_ret
   exact ⟨by rw [HN.out];rfl,rfl⟩
 · have HN:=UP (show decide (lA x)=false from decide_eq_false fun h=>h1 h.1)
   go_enter Tryz.func141,Tryz.ntmps141
   go_wp2
   go_ret
   exact ⟨by rw [HN.out];rfl,rfl⟩
set_option maxHeartbeats 2000000 in
theorem eD (c:NC) (w:World) (hs:smN c):Calls Tryz.prog 195 #[ncV c] w (eL w (.int .i64 (ckN c))):=by
 unfold smN at hs
 have x0:Ext w (w.alloc (.cells #[.string (aH c.st),.int .i64 c.kind,.int .i64 c.num,.int .i64 c.iss,.int .i64 c.own,.int .i64 c.key,.int .i64 c.fr,.int .i64 c.un,.int .i64 c.to,.int .i64 c.e,.int .i64 c.s] 56)):=(Below.refl _ _).alloc (TM _) _
 unfold ncV
 go_enter Tryz.func195,Tryz.ntmps195
 go_wp2_with fail
 refine (sZ _ _ hs).mono ?_
 rintro e w' ⟨rfl,rfl⟩
 by_cases nA:cK c.st
 · rw [decide_eq_true nA]
   by_cases r1:c.kind<1
   · have HN:=UP (pP nA (.inl r1))
     clear nA
     go_wp2_with fail
     go_ret
     exact ⟨by rw [HN.out];rfl,x0⟩
   by_cases r2:4<c.kind
   · have HN:=UP (pP nA (.inr r2))
     clear nA
     go_wp2_with fail
     go_ret
     exact ⟨by rw [HN.out];rfl,x0⟩
   have HR:=UP (show ¬ (c.kind<1 ∨ 4<c.kind) by omega)
   go_wp2_with fail
   refine (fC _ _).mono ?_
   rintro e w' ⟨rfl,rfl⟩
   by_cases s1:lA c.num
   · rw [decide_eq_true s1]
     go_wp2_with fail
     refine (fC _ _).mono ?_
     rintro e w' ⟨rfl,rfl⟩
     by_cases s2:lA c.iss
     · rw [decide_eq_true s2]
       go_wp2_with fail
       refine (fC _ _).mono ?_
       rintro e w' ⟨rfl,rfl⟩
       by_cases s3:lA c.own
       · rw [decide_eq_true s3]
         have HS:=UP (And.intro s1 (And.intro s2 s3))
         have HA:=UP nA
         clear s1 s2 s3 nA
         by_cases q:(c.iss=c.own ↔ c.kind=1)
         · have HQ:=UP (show oH c.num c.iss c.own c.kind from ⟨HS.out.1,HS.out.2.1,HS.out.2.2,q⟩)
           have hq:((c.iss == c.own) == (c.kind == 1))=true:=by
            by_cases u:c.iss=c.own
            · have:=q.1 u
              simp [u,this]
            · have:¬ c.kind=1:=fun k=>u (q.2 k)
              have e1:(c.iss == c.own)=false:=by simpa using u
              have e2:(c.kind == 1)=false:=by simpa using this
              rw [e1,e2];rfl
           clear q
           go_wp2_with fail
           refine (tA _ _).mono ?_
           rintro e w' ⟨rfl,rfl⟩
           cases hE:cH c.key with
           | false =>
             have HN:=UP (G6 HA.out HR.out HQ.out hE)
             go_wp2_with fail
             go_ret
             exact ⟨by rw [HN.out];rfl,x0⟩
           | true =>
             by_cases d1:c.fr<0
             · have HN:=UP (iT HA.out HR.out HQ.out hE (fun q=>by have:=q.1;omega))
               go_wp2_with fail
               go_ret
               exact ⟨by rw [HN.out];rfl,x0⟩
             by_cases d2:c.un<c.fr
             · have HN:=UP (iT HA.out HR.out HQ.out hE (fun q=>by have:=q.2.1;omega))
               go_wp2_with fail
               go_ret
               exact ⟨by rw [HN.out];rfl,x0⟩
             by_cases d3:c.to<c.un
             · have HN:=UP (iT HA.out HR.out HQ.out hE (fun q=>by have:=q.2.2.1;omega))
               go_wp2_with fail
               go_ret
               exact ⟨by rw [HN.out];rfl,x0⟩
             by_cases d4:73048<c.to
             · have HN:=UP (iT HA.out HR.out HQ.out hE (fun q=>by have:=q.2.2.2;omega))
               go_wp2_with fail
               go_ret
               exact ⟨by rw [HN.out];rfl,x0⟩
             have HN:=UP (yT HA.out HR.out HQ.out hE ⟨by omega,by omega,by omega,by omega⟩)
             go_wp2_with fail
             go_ret
             exact ⟨by rw [HN.out];rfl,x0⟩
         · have HN:=UP (iS HA.out HR.out (fun k=>q k.2.2.2))
           have hq:((c.iss == c.own) == (c.kind == 1))=false:=by
            by_cases u:c.iss=c.own
            · have:¬ c.kind=1:=fun k=>q ⟨fun _=>k,fun _=>u⟩
              have e2:(c.kind == 1)=false:=by simpa using this
              simp [u,e2]
            · have:c.kind=1:=Decidable.byContradiction fun k=>q ⟨fun h=>absurd h u,fun h=>absurd h k⟩
              have e1:(c.iss == c.own)=false:=by simpa using u
              rw [e1,this];rfl
           clear q
           go_wp2_with fail
           go_ret
           exact ⟨by rw [HN.out];rfl,x0⟩
       · rw [decide_eq_false s3]
         have HN:=UP (iS nA HR.out (fun k=>s3 k.2.2.1))
         clear s1 s2 s3 nA
         go_wp2_with fail
         go_ret
         exact ⟨by rw [HN.out];rfl,x0⟩
     · rw [decide_eq_false s2]
       have HN:=UP (iS nA HR.out (fun k=>s2 k.2.1))
       clear s1 s2 nA
       go_wp2_with fail
       go_ret
       exact ⟨by rw [HN.out];rfl,x0⟩
   · rw [decide_eq_false s1]
     have HN:=UP (iS nA HR.out (fun k=>s1 k.1))
     clear s1 nA
     go_wp2_with fail
     go_ret
     exact ⟨by rw [HN.out];rfl,x0⟩
 · rw [decide_eq_false nA]
   have HN:=UP (LJ nA)
   clear nA
   go_wp2_with fail
   go_ret
   exact ⟨by rw [HN.out];rfl,x0⟩
set_option maxHeartbeats 1000000 in
theorem gN (c:NC) (day:Int) (w:World) (hs:smN c):Calls Tryz.prog 116 #[ncV c,.int .i64 day] w (eL w (.int .i64 (onN c day))):=by
 obtain ⟨wz,hwz,z0,zr⟩:∃ wz,wz=w.alloc (.cells #[.string (aH c.st),.int .i64 c.kind,.int .i64 c.num,.int .i64 c.iss,.int .i64 c.own,.int .i64 c.key,.int .i64 c.fr,.int .i64 c.un,.int .i64 c.to,.int .i64 c.e,.int .i64 c.s] 56)∧Ext w wz∧wz.heap[w.heap.size]?=some (.cells #[.string (aH c.st),.int .i64 c.kind,.int .i64 c.num,.int .i64 c.iss,.int .i64 c.own,.int .i64 c.key,.int .i64 c.fr,.int .i64 c.un,.int .i64 c.to,.int .i64 c.e,.int .i64 c.s] 56 (0,0)):=⟨_,rfl,(Below.refl _ _).alloc (TM _) _,aB w _⟩
 unfold ncV
 go_enter Tryz.func116,Tryz.ntmps116
 go_wp2_with fail
 rw [← hwz]
 clear hwz
 refine (eD c _ hs).mono ?_
 rintro e w1 ⟨rfl,b1⟩
 have x1:=z0.tr b1
 have row:=(b1.block _ (a9 zr)).trans zr
 have q6:=cell_of_row w1 w.heap.size 6 _ _ _ row
 have q8:=cell_of_row w1 w.heap.size 8 _ _ _ row
 have hl:=a9 row
 by_cases hc:ckN c=0
 · by_cases h1:day<c.fr
   · have HN:=UP (show onN c day=64 by unfold onN;rw [if_pos hc,if_pos h1])
     rw [hc]
     clear hc row zr
     go_wp2_with fail
     go_ret
     exact ⟨by rw [HN.out];rfl,x1⟩
   by_cases h2:c.to<day
   · have HN:=UP (show onN c day=63 by unfold onN;rw [if_pos hc,if_neg h1,if_pos h2])
     rw [hc]
     clear hc row zr
     go_wp2_with fail
     go_ret
     exact ⟨by rw [HN.out];rfl,x1⟩
   have HN:=UP (show onN c day=0 by unfold onN;rw [if_pos hc,if_neg h1,if_neg h2])
   rw [hc]
   clear hc row zr
   go_wp2_with fail
   go_ret
   exact ⟨by rw [HN.out];rfl,x1⟩
 · have HN:=UP (show onN c day=ckN c from if_neg hc)
   have hb:(ckN c != 0)=true:=by simpa using hc
   clear hc row zr
   go_wp2_with fail
   go_ret
   exact ⟨by rw [HN.out];rfl,x1⟩
set_option maxHeartbeats 2000000 in
theorem dM (c:NC) (w:World) (hs:smN c):Calls Tryz.prog 130 #[ncV c] w (eL w (.int .i64 (ckN c))):=by
 unfold smN at hs
 have x0:Ext w (w.alloc (.cells #[.string (aH c.st),.int .i64 c.kind,.int .i64 c.num,.int .i64 c.iss,.int .i64 c.own,.int .i64 c.key,.int .i64 c.fr,.int .i64 c.un,.int .i64 c.to,.int .i64 c.e,.int .i64 c.s] 56)):=(Below.refl _ _).alloc (TM _) _
 unfold ncV
 go_enter Tryz.func130,Tryz.ntmps130
 go_wp2_with fail
 refine (pT _ _ hs).mono ?_
 rintro e w' ⟨rfl,rfl⟩
 by_cases nA:cK c.st
 · rw [decide_eq_true nA]
   by_cases r1:c.kind<1
   · have HN:=UP (pP nA (.inl r1))
     clear nA
     go_wp2_with fail
     go_ret
     exact ⟨by rw [HN.out];rfl,x0⟩
   by_cases r2:4<c.kind
   · have HN:=UP (pP nA (.inr r2))
     clear nA
     go_wp2_with fail
     go_ret
     exact ⟨by rw [HN.out];rfl,x0⟩
   have HR:=UP (show ¬ (c.kind<1 ∨ 4<c.kind) by omega)
   go_wp2_with fail
   refine (eF _ _).mono ?_
   rintro e w' ⟨rfl,rfl⟩
   by_cases s1:lA c.num
   · rw [decide_eq_true s1]
     go_wp2_with fail
     refine (eF _ _).mono ?_
     rintro e w' ⟨rfl,rfl⟩
     by_cases s2:lA c.iss
     · rw [decide_eq_true s2]
       go_wp2_with fail
       refine (eF _ _).mono ?_
       rintro e w' ⟨rfl,rfl⟩
       by_cases s3:lA c.own
       · rw [decide_eq_true s3]
         have HS:=UP (And.intro s1 (And.intro s2 s3))
         have HA:=UP nA
         clear s1 s2 s3 nA
         by_cases q:(c.iss=c.own ↔ c.kind=1)
         · have HQ:=UP (show oH c.num c.iss c.own c.kind from ⟨HS.out.1,HS.out.2.1,HS.out.2.2,q⟩)
           have hq:((c.iss == c.own) == (c.kind == 1))=true:=by
            by_cases u:c.iss=c.own
            · have:=q.1 u
              simp [u,this]
            · have:¬ c.kind=1:=fun k=>u (q.2 k)
              have e1:(c.iss == c.own)=false:=by simpa using u
              have e2:(c.kind == 1)=false:=by simpa using this
              rw [e1,e2];rfl
           clear q
           go_wp2_with fail
           refine (pU _ _).mono ?_
           rintro e w' ⟨rfl,rfl⟩
           cases hE:cH c.key with
           | false =>
             have HN:=UP (G6 HA.out HR.out HQ.out hE)
             go_wp2_with fail
             go_ret
             exact ⟨by rw [HN.out];rfl,x0⟩
           | true =>
             by_cases d1:c.fr<0
             · have HN:=UP (iT HA.out HR.out HQ.out hE (fun q=>by have:=q.1;omega))
               go_wp2_with fail
               go_ret
               exact ⟨by rw [HN.out];rfl,x0⟩
             by_cases d2:c.un<c.fr
             · have HN:=UP (iT HA.out HR.out HQ.out hE (fun q=>by have:=q.2.1;omega))
               go_wp2_with fail
               go_ret
               exact ⟨by rw [HN.out];rfl,x0⟩
             by_cases d3:c.to<c.un
             · have HN:=UP (iT HA.out HR.out HQ.out hE (fun q=>by have:=q.2.2.1;omega))
               go_wp2_with fail
               go_ret
               exact ⟨by rw [HN.out];rfl,x0⟩
             by_cases d4:73048<c.to
             · have HN:=UP (iT HA.out HR.out HQ.out hE (fun q=>by have:=q.2.2.2;omega))
               go_wp2_with fail
               go_ret
               exact ⟨by rw [HN.out];rfl,x0⟩
             have HN:=UP (yT HA.out HR.out HQ.out hE ⟨by omega,by omega,by omega,by omega⟩)
             go_wp2_with fail
             go_ret
             exact ⟨by rw [HN.out];rfl,x0⟩
         · have HN:=UP (iS HA.out HR.out (fun k=>q k.2.2.2))
           have hq:((c.iss == c.own) == (c.kind == 1))=false:=by
            by_cases u:c.iss=c.own
            · have:¬ c.kind=1:=fun k=>q ⟨fun _=>k,fun _=>u⟩
              have e2:(c.kind == 1)=false:=by simpa using this
              simp [u,e2]
            · have:c.kind=1:=Decidable.byContradiction fun k=>q ⟨fun h=>absurd h u,fun h=>absurd h k⟩
              have e1:(c.iss == c.own)=false:=by simpa using u
              rw [e1,this];rfl
           clear q
           go_wp2_with fail
           go_ret
           exact ⟨by rw [HN.out];rfl,x0⟩
       · rw [decide_eq_false s3]
         have HN:=UP (iS nA HR.out (fun k=>s3 k.2.2.1))
         clear s1 s2 s3 nA
         go_wp2_with fail
         go_ret
         exact ⟨by rw [HN.out];rfl,x0⟩
     · rw [decide_eq_false s2]
       have HN:=UP (iS nA HR.out (fun k=>s2 k.2.1))
       clear s1 s2 nA
       go_wp2_with fail
       go_ret
       exact ⟨by rw [HN.out];rfl,x0⟩
   · rw [decide_eq_false s1]
     have HN:=UP (iS nA HR.out (fun k=>s1 k.1))
     clear s1 nA
     go_wp2_with fail
     go_ret
     exact ⟨by rw [HN.out];rfl,x0⟩
 · rw [decide_eq_false nA]
   have HN:=UP (LJ nA)
   clear nA
   go_wp2_with fail
   go_ret
   exact ⟨by rw [HN.out];rfl,x0⟩
set_option maxHeartbeats 1000000 in
theorem fP (c:NC) (day:Int) (w:World) (hs:smN c):Calls Tryz.prog 46 #[ncV c,.int .i64 day] w (eL w (.int .i64 (onN c day))):=by
 obtain ⟨wz,hwz,z0,zr⟩:∃ wz,wz=w.alloc (.cells #[.string (aH c.st),.int .i64 c.kind,.int .i64 c.num,.int .i64 c.iss,.int .i64 c.own,.int .i64 c.key,.int .i64 c.fr,.int .i64 c.un,.int .i64 c.to,.int .i64 c.e,.int .i64 c.s] 56)∧Ext w wz∧wz.heap[w.heap.size]?=some (.cells #[.string (aH c.st),.int .i64 c.kind,.int .i64 c.num,.int .i64 c.iss,.int .i64 c.own,.int .i64 c.key,.int .i64 c.fr,.int .i64 c.un,.int .i64 c.to,.int .i64 c.e,.int .i64 c.s] 56 (0,0)):=⟨_,rfl,(Below.refl _ _).alloc (TM _) _,aB w _⟩
 unfold ncV
 go_enter Tryz.func46,Tryz.ntmps46
 go_wp2_with fail
 rw [← hwz]
 clear hwz
 refine (dM c _ hs).mono ?_
 rintro e w1 ⟨rfl,b1⟩
 have x1:=z0.tr b1
 have row:=(b1.block _ (a9 zr)).trans zr
 have q6:=cell_of_row w1 w.heap.size 6 _ _ _ row
 have q8:=cell_of_row w1 w.heap.size 8 _ _ _ row
 have hl:=a9 row
 by_cases hc:ckN c=0
 · by_cases h1:day<c.fr
   · have HN:=UP (show onN c day=64 by unfold onN;rw [if_pos hc,if_pos h1])
     rw [hc]
     clear hc row zr
     go_wp2_with fail
     go_ret
     exact ⟨by rw [HN.out];rfl,x1⟩
   by_cases h2:c.to<day
   · have HN:=UP (show onN c day=63 by unfold onN;rw [if_pos hc,if_neg h1,if_pos h2])
     rw [hc]
     clear hc row zr
     go_wp2_with fail
     go_ret
     exact ⟨by rw [HN.out];rfl,x1⟩
   have HN:=UP (show onN c day=0 by unfold onN;rw [if_pos hc,if_neg h1,if_neg h2])
   rw [hc]
   clear hc row zr
   go_wp2_with fail
   go_ret
   exact ⟨by rw [HN.out];rfl,x1⟩
 · have HN:=UP (show onN c day=ckN c from if_neg hc)
   have hb:(ckN c != 0)=true:=by simpa using hc
   clear hc row zr
   go_wp2_with fail
   go_ret
   exact ⟨by rw [HN.out];rfl,x1⟩
def bD (w:World) (g:Nat) (c:NC):Prop:=w.heap[g]?=some (.cells #[.string (aH c.st),.int .i64 c.kind,.int .i64 c.num,.int .i64 c.iss,.int .i64 c.own,.int .i64 c.key,.int .i64 c.fr,.int .i64 c.un,.int .i64 c.to,.int .i64 c.e,.int .i64 c.s] 56 (0,0))
theorem bD.lt {w:World}{g:Nat}{c:NC} (h:bD w g c):g<w.heap.size:=a9 h
theorem bD.ext {w w':World}{g:Nat}{c:NC} (h:bD w g c) (e:Ext w w'):bD w' g c:=(e.block g h.lt).trans h
theorem bD.cells {w:World}{g:Nat}{c:NC} (h:bD w g c):w.cell? ⟨g,0,none⟩=some (.string (aH c.st))∧w.cell? ⟨g,1,none⟩=some (.int .i64 c.kind)∧w.cell? ⟨g,2,none⟩=some (.int .i64 c.num)∧w.cell? ⟨g,3,none⟩=some (.int .i64 c.iss)∧w.cell? ⟨g,4,none⟩=some (.int .i64 c.own)∧w.cell? ⟨g,5,none⟩=some (.int .i64 c.key)∧w.cell? ⟨g,6,none⟩=some (.int .i64 c.fr)∧w.cell? ⟨g,7,none⟩=some (.int .i64 c.un)∧w.cell? ⟨g,8,none⟩=some (.int .i64 c.to)∧w.cell? ⟨g,9,none⟩=some (.int .i64 c.e)∧w.cell? ⟨g,10,none⟩=some (.int .i64 c.s) :=
 ⟨cell_of_row w g 0 _ _ _ h,cell_of_row w g 1 _ _ _ h,cell_of_row w g 2 _ _ _ h,cell_of_row w g 3 _ _ _ h,cell_of_row w g 4 _ _ _ h,cell_of_row w g 5 _ _ _ h,cell_of_row w g 6 _ _ _ h,cell_of_row w g 7 _ _ _ h,cell_of_row w g 8 _ _ _ h,cell_of_row w g 9 _ _ _ h,cell_of_row w g 10 _ _ _ h⟩
theorem bD.new (w:World) (c:NC):bD (w.alloc (.cells #[.string (aH c.st),.int .i64 c.kind,.int .i64 c.num,.int .i64 c.iss,.int .i64 c.own,.int .i64 c.key,.int .i64 c.fr,.int .i64 c.un,.int .i64 c.to,.int .i64 c.e,.int .i64 c.s] 56)) w.heap.size c:=aB w _
theorem bD.frozen {w:World}{g:Nat}{c:NC} (h:bD w g c) (i:Nat):w.frozen? ⟨g,i,none⟩=false:=by
 unfold bD at h
 simp [World.frozen?,h]
abbrev G7 (w:World) (g:Nat) (v0 v1 v2 v3 v4 v5 v6 v7 v8 v9 v10:Value):World:=(((((((((((w.setCell ⟨g,0,none⟩ v0).setCell ⟨g,1,none⟩ v1).setCell ⟨g,2,none⟩ v2).setCell ⟨g,3,none⟩ v3).setCell ⟨g,4,none⟩ v4).setCell ⟨g,5,none⟩ v5).setCell ⟨g,6,none⟩ v6).setCell ⟨g,7,none⟩ v7).setCell ⟨g,8,none⟩ v8).setCell ⟨g,9,none⟩ v9).setCell ⟨g,10,none⟩ v10)
abbrev setN (w:World) (g:Nat) (c:NC):World:=G7 w g (.string (aH c.st)) (.int .i64 c.kind) (.int .i64 c.num) (.int .i64 c.iss) (.int .i64 c.own) (.int .i64 c.key) (.int .i64 c.fr) (.int .i64 c.un) (.int .i64 c.to) (.int .i64 c.e) (.int .i64 c.s)
theorem bD.setN {w:World}{g:Nat}{c:NC} (h:bD w g c) (d:NC):bD (setN w g d) g d:=by
 have h9:=(aG (aG (aG (aG (aG (aG (aG (aG (aG (aG (aG h 0 (.string (aH d.st))) 1 (.int .i64 d.kind)) 2 (.int .i64 d.num)) 3 (.int .i64 d.iss)) 4 (.int .i64 d.own)) 5 (.int .i64 d.key)) 6 (.int .i64 d.fr)) 7 (.int .i64 d.un)) 8 (.int .i64 d.to)) 9 (.int .i64 d.e)) 10 (.int .i64 d.s))
 simp only [TO,TQ,TU] at h9
 exact h9
theorem bD.setSig {w:World}{g:Nat}{c:NC} (h:bD w g c) (e s:Int):bD ((w.setCell ⟨g,9,none⟩ (.int .i64 e)).setCell ⟨g,10,none⟩ (.int .i64 s)) g (wI c e s):=by
 have h9:=aG (aG h 9 (.int .i64 e)) 10 (.int .i64 s)
 simp only [TO,TQ,TU] at h9
 exact h9
theorem bD.other {w:World}{g b i:Nat}{c:NC}{v:Value} (h:bD w g c) (hne:g≠b):bD (w.setCell ⟨b,i,none⟩ v) g c:=(aV hne).trans h
theorem uV {w w':World}{g:Nat} (h:Ext w w') (hg:w.heap.size≤g) (c:NC):Ext w (setN w' g c) :=
 aI (aI (aI (aI (aI (aI (aI (aI (aI (aI (aI h hg) hg) hg) hg) hg) hg) hg) hg) hg) hg) hg
theorem BT (w:World):∃ wz,wz=w.alloc (.cells #[.string ⟨#[]⟩,.int .i64 0,.int .i64 0,.int .i64 0,.int .i64 0,.int .i64 0,.int .i64 0,.int .i64 0,.int .i64 0,.int .i64 0,.int .i64 0] 56)∧Ext w wz∧bD wz w.heap.size cP :=
 ⟨_,rfl,(Below.refl _ _).alloc (TM _) _,bD.new w cP⟩
theorem cB (w:World) (c:NC):∃ wz,wz=w.alloc (.cells #[.string (aH c.st),.int .i64 c.kind,.int .i64 c.num,.int .i64 c.iss,.int .i64 c.own,.int .i64 c.key,.int .i64 c.fr,.int .i64 c.un,.int .i64 c.to,.int .i64 c.e,.int .i64 c.s] 56)∧Ext w wz∧bD wz w.heap.size c :=
 ⟨_,rfl,(Below.refl _ _).alloc (TM _) _,bD.new w c⟩
structure OK (w wz:World) (c:NC):Prop where
 ext:Ext w wz
 c:bD wz w.heap.size c
 r:bD wz (w.heap.size+1) cP
theorem E8 (w:World) (c:NC):∃ wz,wz=(w.alloc (.cells #[.string (aH c.st),.int .i64 c.kind,.int .i64 c.num,.int .i64 c.iss,.int .i64 c.own,.int .i64 c.key,.int .i64 c.fr,.int .i64 c.un,.int .i64 c.to,.int .i64 c.e,.int .i64 c.s] 56)).alloc (.cells #[.string ⟨#[]⟩,.int .i64 0,.int .i64 0,.int .i64 0,.int .i64 0,.int .i64 0,.int .i64 0,.int .i64 0,.int .i64 0,.int .i64 0,.int .i64 0] 56)∧OK w wz c:=by
 have e1:Ext w (w.alloc (.cells #[.string (aH c.st),.int .i64 c.kind,.int .i64 c.num,.int .i64 c.iss,.int .i64 c.own,.int .i64 c.key,.int .i64 c.fr,.int .i64 c.un,.int .i64 c.to,.int .i64 c.e,.int .i64 c.s] 56)):=(Below.refl _ _).alloc (TM _) _
 refine ⟨_,rfl,e1.alloc (by simp) _,(bD.new w c).ext ((Below.refl _ _).alloc (TM _) _),?_⟩
 have:=bD.new (w.alloc (.cells #[.string (aH c.st),.int .i64 c.kind,.int .i64 c.num,.int .i64 c.iss,.int .i64 c.own,.int .i64 c.key,.int .i64 c.fr,.int .i64 c.un,.int .i64 c.to,.int .i64 c.e,.int .i64 c.s] 56)) cP
 rw [show (w.alloc (.cells #[.string (aH c.st),.int .i64 c.kind,.int .i64 c.num,.int .i64 c.iss,.int .i64 c.own,.int .i64 c.key,.int .i64 c.fr,.int .i64 c.un,.int .i64 c.to,.int .i64 c.e,.int .i64 c.s] 56)).heap.size=w.heap.size+1 by simp] at this
 exact this
theorem OK.tr {w wz wy:World}{c:NC} (h:OK w wz c) (e:Ext wz wy):OK w wy c:=⟨h.ext.tr e,h.c.ext e,h.r.ext e⟩
def iU (size:Nat) (l:List Int):List UInt8:=l.flatMap (beN size)
theorem xK (size:Nat):∀ l:List Int,(iU size l).length=l.length*size
 | []=>by simp [iU]
 | x::l=>by
   have:=xK size l
   unfold iU at *
   rw [List.flatMap_cons,U0,iN,this,UB,Nat.succ_mul,Nat.add_comm]
theorem E9 (size:Nat) (l:List Int) (x:Int):iU size (l++[x])=iU size l++beN size x:=by simp [iU]
theorem BU:∀ (size:Nat) (x:Int) (j:Nat),j<size→(beN size x)[j]?=some (u8 (x / 256 ^ (size - 1 - j)))
 | k+1,x,j,hj=>by
   rw [beN]
   by_cases h:j<k
   · rw [List.getElem?_append_left (by rw [iN];exact h),BU k (x / 256) j h,Int.ediv_ediv_of_nonneg (by omega)]
     have e:k+1 - 1 - j=(k - 1 - j)+1:=by omega
     rw [e,Int.pow_succ,Int.mul_comm]
   · obtain rfl:j=k:=by omega
     rw [List.getElem?_append_right (by rw [iN];exact TM _),iN]
     simp
theorem pV (size:Nat) (x:Int) (j:Nat) (hj:j<size):(beN size x).take (size - (j+1))++[u8 (x / 256 ^ j)]=(beN size x).take (size - j):=by
 have h:=BU size x (size - (j+1)) (by omega)
 rw [show size - 1 - (size - (j+1))=j by omega] at h
 rw [show size - j=(size - (j+1))+1 by omega]
 rw [List.take_add_one,h]
 rfl
def WdO (w:World) (size:Nat) (l:List Int) (o i:Value) (wr:World):Prop :=
 ∃ (k:Nat) (A:Option Addr) (n c:Nat),k≤l.length∧i=.int .i64 ((k:Nat):Int)∧o=.slice A n c∧Hid (n=(iU size (l.take k)).length)∧Own wr w.heap.size 5 (.slice A n c) (bvs (iU size (l.take k)))∧Ext w wr
def WdI (w:World) (size:Nat) (T:List UInt8) (x:Int) (o i:Value) (wr:World):Prop :=
 ∃ (j:Nat) (A:Option Addr) (n c:Nat),j≤size∧i=.int .i64 (((j:Nat):Int) - 1)∧o=.slice A n c∧Hid (n=(T++(beN size x).take (size - j)).length)∧Own wr w.heap.size 5 (.slice A n c) (bvs (T++(beN size x).take (size - j)))∧Ext w wr
theorem EA {l:List Int}{k:Nat} (h:k<l.length):l.take (k+1)=l.take k++[l.getD k 0]:=by
 rw [List.take_succ_eq_append_getElem h];simp [List.getD_eq_getElem?_getD,h]
set_option maxHeartbeats 2000000 in
theorem lB (size:Nat) {v:Value}{l:List Int} (w:World) (h:RdI w .i64 v l) (hs:size≤4) (hl:l.length≤1000) :
 Calls Tryz.prog 148 #[.int .i64 (size:Int),v] w (gP w (iU size l)):=by
 obtain ⟨A,n,c,rfl,hn,hnc,hcm,hA⟩:=h.ints
 subst hn
 clear h
 have HW:=UP (fun k=>xK size (l.take k))
 have HLT:=UP (fun k=>List.length_take_le k l)
 go_enter Tryz.func148,Tryz.ntmps148
 go_wp2_with fail
 go_loopw [5,7,8,11] (fun o _ _ i wr=>WdO w size l o i wr) (fun _ _ _ i _=>l.length - (intOf i).toNat)
 case atStart=>exact ⟨0,none,0,0,U4 _,rfl,rfl,rfl,yF _ _,Below.refl _ _⟩
 case round =>
  obtain ⟨k,A5,n5,c5,hk,rfl,rfl,hn5,o5,b5⟩:=hrel
  by_cases hlt:k<l.length
  · obtain ⟨b,off,rfl,hbl,hc0⟩:=hA (by omega)
    have hc:=hc0 k hlt
    have hck:=(b5.cell (p:=⟨b,off+k,none⟩) hbl).trans hc
    have hbl2:b<wr.heap.size:=UI hbl b5.size
    obtain ⟨x,hx⟩:∃ x,l.getD k 0=x:=⟨_,rfl⟩
    rw [hx] at hck
    have HS:=UP (show iU size (l.take (k+1))=iU size (l.take k)++beN size x by rw [EA hlt,E9,hx])
    have hT:(iU size (l.take k)).length≤4000:=by
     have h1:=HW.out k
     have h2:=HLT.out k
     have h3:=Nat.mul_le_mul (show (l.take k).length≤1000 by omega) hs
     omega
    obtain ⟨T,hTe⟩:∃ T,iU size (l.take k)=T:=⟨_,rfl⟩
    rw [hTe] at HS hT hn5 o5
    clear hc hc0 hx hTe
    go_wp2_with fail
    go_loopw [5,8] (fun o i wx=>WdI w size T x o i wx) (fun _ i _=>(intOf i+1).toNat)
    case atStart=>exact ⟨size,_,_,_,TM _,rfl,rfl,(show _=_ by rw [Nat.sub_self,UD,List.append_nil];exact hn5.out),by rw [Nat.sub_self,UD,List.append_nil];exact o5,b5⟩
    case round =>
     obtain ⟨j,A6,n6,c6,hj,rfl,rfl,hn6,o6,b6⟩:=hrel
     clear hn5 o5 b5
     cases j with
     | zero =>
       rw [Nat.sub_zero,List.take_of_length_le (by rw [iN];exact TM _)] at o6 hn6
       rw [← HS.out] at o6 hn6
       rw [show ((0:Nat):Int) - 1=-1 from rfl]
       go_wp2_with fail
       go_roundw
       case rel=>exact ⟨k+1,_,_,_,hlt,by go_num,rfl,hn6,o6,b6⟩
       case measure=>simp [intOf];omega
     | succ j =>
       rw [show ((j+1:Nat):Int) - 1=(j:Int) by omega]
       have hl6:(T++(beN size x).take (size - (j+1))).length+1≤5000:=by
        rw [U0]
        have:=List.length_take_le (size - (j+1)) (beN size x)
        omega
       have hj4:j=0 ∨ j=1 ∨ j=2 ∨ j=3:=by omega
       have hbx:w.heap.size≤wr.heap.size:=b6.size
       have e1:=fun cs=>(show Ext wr (wr.alloc (.cells cs 5)) from (Below.refl _ _).alloc (TM _) _)
       rcases hj4 with rfl | rfl | rfl | rfl
       · have HB:=UP (show (beN size x).take (size - (0+1))++[Go.Proofs.YtkjplpmogfmhkaaGreatDoor.u8 (x)]=(beN size x).take (size - 0) by
          have h:=pV size x 0 (by omega)
          rw [show (256:Int) ^ 0=1 from rfl] at h
          rw [Int.ediv_one] at h;exact h)
         simp only [Int.cast_ofNat_Int]
         go_wp2_with (refine jC (ys:=[Go.Proofs.YtkjplpmogfmhkaaGreatDoor.u8 (x)]) (w0:=w) (o6.ext (e1 _)) (Rd.oneZ wr (x)) (b6.tr (e1 _)) (by rw [List.length_singleton];omega) (by simp;omega) rfl rfl rfl rfl ?_;intro A7 n7 c7 w7 hn7 o7 b7 g7)
         rw [UE,HB.out] at o7
         have hn8:=UP (show n7=(T++(beN size x).take (size - 0)).length by rw [← HB.out,← UE,U0];exact hn7.out)
         go_roundw
         case rel=>exact ⟨0,_,_,_,by omega,by first | rfl | go_num,rfl,hn8,o7,b7⟩
         case measure=>simp [intOf]
       · have HB:=UP (show (beN size x).take (size - (1+1))++[Go.Proofs.YtkjplpmogfmhkaaGreatDoor.u8 (x / 256)]=(beN size x).take (size - 1) by
          have h:=pV size x 1 (by omega)
          rw [show (256:Int) ^ 1=256 from rfl] at h
          exact h)
         simp only [Int.cast_ofNat_Int]
         go_wp2_with (refine jC (ys:=[Go.Proofs.YtkjplpmogfmhkaaGreatDoor.u8 (x / 256)]) (w0:=w) (o6.ext (e1 _)) (Rd.oneZ wr (x / 256)) (b6.tr (e1 _)) (by rw [List.length_singleton];omega) (by simp;omega) rfl rfl rfl rfl ?_;intro A7 n7 c7 w7 hn7 o7 b7 g7)
         rw [UE,HB.out] at o7
         have hn8:=UP (show n7=(T++(beN size x).take (size - 1)).length by rw [← HB.out,← UE,U0];exact hn7.out)
         go_roundw
         case rel=>exact ⟨1,_,_,_,by omega,by first | rfl | go_num,rfl,hn8,o7,b7⟩
         case measure=>simp [intOf]
       · have HB:=UP (show (beN size x).take (size - (2+1))++[Go.Proofs.YtkjplpmogfmhkaaGreatDoor.u8 (x / 65536)]=(beN size x).take (size - 2) by
          have h:=pV size x 2 (by omega)
          rw [show (256:Int) ^ 2=65536 from rfl] at h
          exact h)
         simp only [Int.cast_ofNat_Int]
         go_wp2_with (refine jC (ys:=[Go.Proofs.YtkjplpmogfmhkaaGreatDoor.u8 (x / 65536)]) (w0:=w) (o6.ext (e1 _)) (Rd.oneZ wr (x / 65536)) (b6.tr (e1 _)) (by rw [List.length_singleton];omega) (by simp;omega) rfl rfl rfl rfl ?_;intro A7 n7 c7 w7 hn7 o7 b7 g7)
         rw [UE,HB.out] at o7
         have hn8:=UP (show n7=(T++(beN size x).take (size - 2)).length by rw [← HB.out,← UE,U0];exact hn7.out)
         go_roundw
         case rel=>exact ⟨2,_,_,_,by omega,by first | rfl | go_num,rfl,hn8,o7,b7⟩
         case measure=>simp [intOf]
       · have HB:=UP (show (beN size x).take (size - (3+1))++[Go.Proofs.YtkjplpmogfmhkaaGreatDoor.u8 (x / 16777216)]=(beN size x).take (size - 3) by
          have h:=pV size x 3 (by omega)
          rw [show (256:Int) ^ 3=16777216 from rfl] at h
          exact h)
         simp only [Int.cast_ofNat_Int]
         go_wp2_with (refine jC (ys:=[Go.Proofs.YtkjplpmogfmhkaaGreatDoor.u8 (x / 16777216)]) (w0:=w) (o6.ext (e1 _)) (Rd.oneZ wr (x / 16777216)) (b6.tr (e1 _)) (by rw [List.length_singleton];omega) (by simp;omega) rfl rfl rfl rfl ?_;intro A7 n7 c7 w7 hn7 o7 b7 g7)
         rw [UE,HB.out] at o7
         have hn8:=UP (show n7=(T++(beN size x).take (size - 3)).length by rw [← HB.out,← UE,U0];exact hn7.out)
         go_roundw
         case rel=>exact ⟨3,_,_,_,by omega,by first | rfl | go_num,rfl,hn8,o7,b7⟩
         case measure=>simp [intOf]
  · obtain rfl:k=l.length:=by omega
    rw [List.take_length] at o5 hn5
    clear hA
    go_wp2_with fail
    go_ret
    exact ⟨_,_,_,rfl,hn5,o5,b5⟩
def GI (l:List Int):aF:=fun v w=>RdI w .i64 v l
theorem jJ (l:List Int):bL (GI l):=fun v w w' e h=>Rd.ext h e
theorem rC (W:World) (cs:Array Value) (l:List Int) (n:Nat) (hn:n=l.length) (hm:n≤100) (hc:cs.toList=l.map (Value.int .i64)):GI l (.slice (some ⟨W.heap.size,0,none⟩) n n) (W.alloc (.cells cs 3)):=by
 have:=Rd.lit W cs 3 n (by rw [← Array.length_toList,hc,List.length_map];exact hn) (by unfold maxLen;omega)
 rw [hc] at this
 exact this
theorem tH (x:Int):iU 4 [x]=be4 x:=by show beN 4 x++[]=_;rw [List.append_nil,BO]
theorem OL (x y z:Int):iU 3 [x,y,z]=be3 x++be3 y++be3 z:=by
 show beN 3 x++(beN 3 y++(beN 3 z++[]))=_
 rw [List.append_nil,sC,sC,sC,UE]
theorem IM (c:NC):iU 3 [c.fr,c.un,c.to]=oI c:=OL _ _ _
theorem IN (x:Int):bvs [u8 x]=[.int .u8 (x % 256)]:=by simp [bvs,tN]
set_option maxHeartbeats 1000000 in
theorem BV (c:NC) (w:World) (h:ckN c=0):Calls Tryz.prog 207 #[ncV c] w (G5 w 1 (dZ c) fun v=>.tuple #[v,.int .i64 0]):=by
 have sa:c.st.length≤4096:=by have:=(kL h).1.1.2;omega
 have HC:=UP (kL h)
 have he:=(kL h).2.2.2.2.1
 clear h
 obtain ⟨wz,hwz⟩:∃ wz,wz=((w.alloc (.cells #[.string (aH c.st),.int .i64 c.kind,.int .i64 c.num,.int .i64 c.iss,.int .i64 c.own,.int .i64 c.key,.int .i64 c.fr,.int .i64 c.un,.int .i64 c.to,.int .i64 c.e,.int .i64 c.s] 56))).alloc (.cells #[.int .i64 0,.slice none 0 0,.slice none 0 0] 180):=⟨_,rfl⟩
 have e1:Ext w (w.alloc (.cells #[.string (aH c.st),.int .i64 c.kind,.int .i64 c.num,.int .i64 c.iss,.int .i64 c.own,.int .i64 c.key,.int .i64 c.fr,.int .i64 c.un,.int .i64 c.to,.int .i64 c.e,.int .i64 c.s] 56)):=(Below.refl _ _).alloc (TM _) _
 have x0:Ext w wz:=by rw [hwz];exact e1.alloc (by simp) _
 have hc:bD wz w.heap.size c:=by rw [hwz];exact (bD.new w c).ext ((Below.refl _ _).alloc (TM _) _)
 have hb:C3 wz (w.heap.size+1) (.int .i64 0) (.slice none 0 0) (.slice none 0 0):=by
  have:=C3.new (w.alloc (.cells #[.string (aH c.st),.int .i64 c.kind,.int .i64 c.num,.int .i64 c.iss,.int .i64 c.own,.int .i64 c.key,.int .i64 c.fr,.int .i64 c.un,.int .i64 c.to,.int .i64 c.e,.int .i64 c.s] 56)) (.int .i64 0) (.slice none 0 0) (.slice none 0 0)
  rw [show (w.alloc (.cells #[.string (aH c.st),.int .i64 c.kind,.int .i64 c.num,.int .i64 c.iss,.int .i64 c.own,.int .i64 c.key,.int .i64 c.fr,.int .i64 c.un,.int .i64 c.to,.int .i64 c.e,.int .i64 c.s] 56)).heap.size=w.heap.size+1 by simp] at this
  rw [hwz];exact this
 have hsz:w.heap.size+1<wz.heap.size:=hb.lt
 unfold ncV
 go_enter Tryz.func207,Tryz.ntmps207
 go_wp2_with fail
 rw [← hwz]
 clear hwz e1
 obtain ⟨t0,t1,t2,t3,t4,t5,t6,t7,t8,t9,t10⟩:=hc.cells
 have hl:=hc.lt
 go_wp2_with fail
 refine (BN _ _).mono ?_
 rintro e wk ⟨A,n,c',rfl,hn,o,bk⟩
 rw [show elB c.key=be4 c.key from if_pos he] at hn o
 rw [show elK c.key=0 from if_pos he]
 have ob:GS wz.heap.size (be4 c.key) (.slice A n c') wk:=RdS.of o fun b hb=>hb
 have hck:=hc.ext bk
 have hbk:=hb.ex bk
 have xk:=x0.tr bk
 clear hn o hc hb t0 t1 t2 t3 t4 t5 t6 t7 t8 t9 t10 hl
 go_wp2_with fail
 refine Gd.aN 37 (by kernel_rfl) (by kernel_rfl) ?_
 simp only [UF,UD,UG,UH]
 intro w1 hw1
 have LL:∀ m:Lt w1,Ext wk m.1:=fun m=>hw1.tr m.2
 have v0:∀ m:Lt w1,m.1.cell? ⟨w.heap.size,0,none⟩=some (.string (aH c.st)):=fun m=>(hck.ext (LL m)).cells.1
 have v1:∀ m:Lt w1,m.1.cell? ⟨w.heap.size,1,none⟩=some (.int .i64 c.kind):=fun m=>(hck.ext (LL m)).cells.2.1
 have v2:∀ m:Lt w1,m.1.cell? ⟨w.heap.size,2,none⟩=some (.int .i64 c.num):=fun m=>(hck.ext (LL m)).cells.2.2.1
 have v3:∀ m:Lt w1,m.1.cell? ⟨w.heap.size,3,none⟩=some (.int .i64 c.iss):=fun m=>(hck.ext (LL m)).cells.2.2.2.1
 have v4:∀ m:Lt w1,m.1.cell? ⟨w.heap.size,4,none⟩=some (.int .i64 c.own):=fun m=>(hck.ext (LL m)).cells.2.2.2.2.1
 have v6:∀ m:Lt w1,m.1.cell? ⟨w.heap.size,6,none⟩=some (.int .i64 c.fr):=fun m=>(hck.ext (LL m)).cells.2.2.2.2.2.2.1
 have v7:∀ m:Lt w1,m.1.cell? ⟨w.heap.size,7,none⟩=some (.int .i64 c.un):=fun m=>(hck.ext (LL m)).cells.2.2.2.2.2.2.2.1
 have v8:∀ m:Lt w1,m.1.cell? ⟨w.heap.size,8,none⟩=some (.int .i64 c.to):=fun m=>(hck.ext (LL m)).cells.2.2.2.2.2.2.2.2.1
 have OB:∀ m:Lt w1,GS wz.heap.size (be4 c.key) (.slice A n c') m.1:=fun m=>bY _ _ _ _ _ (LL m) ob
 have BB:∀ m:Lt w1,wz.heap.size≤m.1.heap.size:=fun m=>U9 bk.size (LL m).size
 repeat (refine Gd.aD (by first | exact trivial | exact ⟨_,rfl,rfl,rfl⟩) rfl rfl rfl rfl rfl (fun K hK=>?_);go_big_quiet_op;refine hK _ ?_;clear hK K)
 refine Gd.qY (by first | exact trivial | exact ⟨_,rfl,rfl,rfl⟩) (GS wz.heap.size c.st) (bY _ _) (fun _=>.string (aH c.st)) rfl rfl rfl rfl rfl (fun _=>rfl) (fun m f hf=>yS m.1 (BB m) c.st sa) ?_
 simp only [Act.put,TO,TQ,TU]
 refine Gd.d9 (by first | exact trivial | exact ⟨_,rfl,rfl,rfl⟩) (NdG wz.heap.size 0 (aY 19 c.st)) (bI _ _ _) (fun f=>[(0,.int .i64 19),(1,f 18)]) rfl rfl rfl rfl rfl (fun f=>rfl) (fun m f hf=>gG m.1 19 (hf 18 _ rfl rfl)) ?_
 simp only [Act.put,TO,TQ,TU]
 repeat (refine Gd.aD (by first | exact trivial | exact ⟨_,rfl,rfl,rfl⟩) rfl rfl rfl rfl rfl (fun K hK=>?_);go_big_quiet_op;refine hK _ ?_;clear hK K)
 refine Gd.bK (by first | exact trivial | exact ⟨_,rfl,rfl,rfl⟩) (GS wz.heap.size [u8 c.kind]) (bY _ _) (fun _=>[(0,.int .u8 (c.kind % 256))]) rfl rfl rfl rfl rfl (fun _=>rfl) (fun m f hf=>⟨_,_,(by go_simp:(Instr.buildSlice 89 1 [(0,.int .u8 (c.kind % 256))].toArray).run Tryz.prog m.1=.ok (.slice (some ⟨m.1.heap.size,0,none⟩) 1 1) (m.1.alloc (.cells #[.int .u8 (c.kind % 256)] 5))),(Below.refl _ _).alloc (TM _) _,QF m.1 (BB m) _ [u8 c.kind] 1 rfl (by omega) (IN c.kind).symm⟩) ?_
 simp only [Act.put,TO,TQ,TU]
 refine Gd.d9 (by first | exact trivial | exact ⟨_,rfl,rfl,rfl⟩) (NdG wz.heap.size 0 (aY 129 [u8 c.kind])) (bI _ _ _) (fun f=>[(0,.int .i64 129),(1,f 23)]) rfl rfl rfl rfl rfl (fun f=>rfl) (fun m f hf=>gG m.1 129 (hf 23 _ rfl rfl)) ?_
 simp only [Act.put,TO,TQ,TU]
 repeat (refine Gd.aD (by first | exact trivial | exact ⟨_,rfl,rfl,rfl⟩) rfl rfl rfl rfl rfl (fun K hK=>?_);go_big_quiet_op;refine hK _ ?_;clear hK K)
 refine Gd.bK (by first | exact trivial | exact ⟨_,rfl,rfl,rfl⟩) (GI [c.num]) (jJ _) (fun _=>[(0,.int .i64 c.num)]) rfl rfl rfl rfl rfl (fun _=>rfl) (fun m f hf=>⟨_,_,(by go_simp:(Instr.buildSlice 41 1 [(0,.int .i64 c.num)].toArray).run Tryz.prog m.1=.ok (.slice (some ⟨m.1.heap.size,0,none⟩) 1 1) (m.1.alloc (.cells #[.int .i64 c.num] 3))),(Below.refl _ _).alloc (TM _) _,rC m.1 #[.int .i64 c.num] [c.num] 1 rfl (by omega) rfl⟩) ?_
 simp only [Act.put,TO,TQ,TU]
 refine Gd.aU (by first | exact trivial | exact ⟨_,rfl,rfl,rfl⟩) (GS wz.heap.size (be4 c.num)) (bY _ _) (fun f=>[.int .i64 4,f 27]) rfl rfl rfl rfl rfl (by kernel_rfl) rfl (fun f=>rfl) (fun m f hf=>(lB 4 m.1 (hf 27 _ rfl rfl) (by omega) (by simp)).mono fun _ _ h=>(tH c.num ▸ h:gP _ _ _ _).gs (BB m)) ?_
 simp only [Act.put,TO,TQ,TU]
 refine Gd.d9 (by first | exact trivial | exact ⟨_,rfl,rfl,rfl⟩) (NdG wz.heap.size 0 (aY 130 (be4 c.num))) (bI _ _ _) (fun f=>[(0,.int .i64 130),(1,f 28)]) rfl rfl rfl rfl rfl (fun f=>rfl) (fun m f hf=>gG m.1 130 (hf 28 _ rfl rfl)) ?_
 simp only [Act.put,TO,TQ,TU]
 repeat (refine Gd.aD (by first | exact trivial | exact ⟨_,rfl,rfl,rfl⟩) rfl rfl rfl rfl rfl (fun K hK=>?_);go_big_quiet_op;refine hK _ ?_;clear hK K)
 refine Gd.bK (by first | exact trivial | exact ⟨_,rfl,rfl,rfl⟩) (GI [c.iss]) (jJ _) (fun _=>[(0,.int .i64 c.iss)]) rfl rfl rfl rfl rfl (fun _=>rfl) (fun m f hf=>⟨_,_,(by go_simp:(Instr.buildSlice 41 1 [(0,.int .i64 c.iss)].toArray).run Tryz.prog m.1=.ok (.slice (some ⟨m.1.heap.size,0,none⟩) 1 1) (m.1.alloc (.cells #[.int .i64 c.iss] 3))),(Below.refl _ _).alloc (TM _) _,rC m.1 #[.int .i64 c.iss] [c.iss] 1 rfl (by omega) rfl⟩) ?_
 simp only [Act.put,TO,TQ,TU]
 refine Gd.aU (by first | exact trivial | exact ⟨_,rfl,rfl,rfl⟩) (GS wz.heap.size (be4 c.iss)) (bY _ _) (fun f=>[.int .i64 4,f 32]) rfl rfl rfl rfl rfl (by kernel_rfl) rfl (fun f=>rfl) (fun m f hf=>(lB 4 m.1 (hf 32 _ rfl rfl) (by omega) (by simp)).mono fun _ _ h=>(tH c.iss ▸ h:gP _ _ _ _).gs (BB m)) ?_
 simp only [Act.put,TO,TQ,TU]
 refine Gd.d9 (by first | exact trivial | exact ⟨_,rfl,rfl,rfl⟩) (NdG wz.heap.size 0 (aY 131 (be4 c.iss))) (bI _ _ _) (fun f=>[(0,.int .i64 131),(1,f 33)]) rfl rfl rfl rfl rfl (fun f=>rfl) (fun m f hf=>gG m.1 131 (hf 33 _ rfl rfl)) ?_
 simp only [Act.put,TO,TQ,TU]
 repeat (refine Gd.aD (by first | exact trivial | exact ⟨_,rfl,rfl,rfl⟩) rfl rfl rfl rfl rfl (fun K hK=>?_);go_big_quiet_op;refine hK _ ?_;clear hK K)
 refine Gd.bK (by first | exact trivial | exact ⟨_,rfl,rfl,rfl⟩) (GI [c.own]) (jJ _) (fun _=>[(0,.int .i64 c.own)]) rfl rfl rfl rfl rfl (fun _=>rfl) (fun m f hf=>⟨_,_,(by go_simp:(Instr.buildSlice 41 1 [(0,.int .i64 c.own)].toArray).run Tryz.prog m.1=.ok (.slice (some ⟨m.1.heap.size,0,none⟩) 1 1) (m.1.alloc (.cells #[.int .i64 c.own] 3))),(Below.refl _ _).alloc (TM _) _,rC m.1 #[.int .i64 c.own] [c.own] 1 rfl (by omega) rfl⟩) ?_
 simp only [Act.put,TO,TQ,TU]
 refine Gd.aU (by first | exact trivial | exact ⟨_,rfl,rfl,rfl⟩) (GS wz.heap.size (be4 c.own)) (bY _ _) (fun f=>[.int .i64 4,f 37]) rfl rfl rfl rfl rfl (by kernel_rfl) rfl (fun f=>rfl) (fun m f hf=>(lB 4 m.1 (hf 37 _ rfl rfl) (by omega) (by simp)).mono fun _ _ h=>(tH c.own ▸ h:gP _ _ _ _).gs (BB m)) ?_
 simp only [Act.put,TO,TQ,TU]
 refine Gd.d9 (by first | exact trivial | exact ⟨_,rfl,rfl,rfl⟩) (NdG wz.heap.size 0 (aY 132 (be4 c.own))) (bI _ _ _) (fun f=>[(0,.int .i64 132),(1,f 38)]) rfl rfl rfl rfl rfl (fun f=>rfl) (fun m f hf=>gG m.1 132 (hf 38 _ rfl rfl)) ?_
 simp only [Act.put,TO,TQ,TU]
 repeat (refine Gd.aD (by first | exact trivial | exact ⟨_,rfl,rfl,rfl⟩) rfl rfl rfl rfl rfl (fun K hK=>?_);go_big_quiet_op;refine hK _ ?_;clear hK K)
 refine Gd.d9 (by first | exact trivial | exact ⟨_,rfl,rfl,rfl⟩) (NdG wz.heap.size 0 (aY 133 (be4 c.key))) (bI _ _ _) (fun f=>[(0,.int .i64 133),(1,.slice A n c')]) rfl rfl rfl rfl rfl (fun f=>rfl) (fun m f hf=>gG m.1 133 (OB m)) ?_
 simp only [Act.put,TO,TQ,TU]
 repeat (refine Gd.aD (by first | exact trivial | exact ⟨_,rfl,rfl,rfl⟩) rfl rfl rfl rfl rfl (fun K hK=>?_);go_big_quiet_op;refine hK _ ?_;clear hK K)
 refine Gd.bK (by first | exact trivial | exact ⟨_,rfl,rfl,rfl⟩) (GI [c.fr,c.un,c.to]) (jJ _) (fun _=>[(0,.int .i64 c.fr),(1,.int .i64 c.un),(2,.int .i64 c.to)]) rfl rfl rfl rfl rfl (fun _=>rfl) (fun m f hf=>⟨_,_,(by go_simp:(Instr.buildSlice 41 3 [(0,.int .i64 c.fr),(1,.int .i64 c.un),(2,.int .i64 c.to)].toArray).run Tryz.prog m.1=.ok (.slice (some ⟨m.1.heap.size,0,none⟩) 3 3) (m.1.alloc (.cells #[.int .i64 c.fr,.int .i64 c.un,.int .i64 c.to] 3))),(Below.refl _ _).alloc (TM _) _,rC m.1 #[.int .i64 c.fr,.int .i64 c.un,.int .i64 c.to] [c.fr,c.un,c.to] 3 rfl (by omega) rfl⟩) ?_
 simp only [Act.put,TO,TQ,TU]
 refine Gd.aU (by first | exact trivial | exact ⟨_,rfl,rfl,rfl⟩) (GS wz.heap.size (oI c)) (bY _ _) (fun f=>[.int .i64 3,f 48]) rfl rfl rfl rfl rfl (by kernel_rfl) rfl (fun f=>rfl) (fun m f hf=>(lB 3 m.1 (hf 48 _ rfl rfl) (by omega) (by simp)).mono fun _ _ h=>(IM c ▸ h:gP _ _ _ _).gs (BB m)) ?_
 simp only [Act.put,TO,TQ,TU]
 refine Gd.d9 (by first | exact trivial | exact ⟨_,rfl,rfl,rfl⟩) (NdG wz.heap.size 0 (aY 134 (oI c))) (bI _ _ _) (fun f=>[(0,.int .i64 134),(1,f 49)]) rfl rfl rfl rfl rfl (fun f=>rfl) (fun m f hf=>gG m.1 134 (hf 49 _ rfl rfl)) ?_
 simp only [Act.put,TO,TQ,TU]
 refine Gd.bK (by first | exact trivial | exact ⟨_,rfl,rfl,rfl⟩) (LI wz.heap.size 1 (dZ c).kids) (sD _ _ _) (fun f=>[(0,f 19),(1,f 24),(2,f 29),(3,f 34),(4,f 39),(5,f 41),(6,f 50)]) rfl rfl rfl rfl rfl (fun f=>rfl) (fun m f hf=>uO m.1 (BB m) (hf 19 _ rfl rfl) (hf 24 _ rfl rfl) (hf 29 _ rfl rfl) (hf 34 _ rfl rfl) (hf 39 _ rfl rfl) (hf 41 _ rfl rfl) (hf 50 _ rfl rfl)) ?_
 simp only [Act.put,TO,TQ,TU]
 refine Gd.d9 (by first | exact trivial | exact ⟨_,rfl,rfl,rfl⟩) (NdG wz.heap.size 1 (dZ c)) (bI _ _ _) (fun f=>[(0,.int .i64 48),(2,f 51)]) rfl rfl rfl rfl rfl (fun f=>rfl) (fun m f hf=>BR m.1 48 (hf 51 _ rfl rfl)) ?_
 simp only [Act.put,TO,TQ,TU]
 refine Gd.cM (fun m f hf=>?_)
 obtain ⟨A1,n1,c1,A2,n2,c2,e49,r49,k49⟩:=hf 52 _ rfl
 rw [show (dZ c).tag=48 from rfl] at e49
 simp only [aW]
 simp only [Act.put,TO,TQ,TU]
 rw [e49]
 have Lm:=LL m
 have xm:=xk.tr Lm
 obtain ⟨wy,hwy⟩:=m
 clear LL BB OB v0 v1 v2 v3 v4 v6 v7 v8 hf e49
 have hby:=hbk.ex Lm
 have NB:=UP (xG (w:=w) (t:=dZ c) x0.size hsz r49 k49 (.int .i64 48) (.slice A1 n1 c1) (.slice A2 n2 c2))
 clear r49 k49 hck
 obtain ⟨y0,y1,y2,yf0,yf1,yf2⟩:=hby.cells
 obtain ⟨w0',w1',w2',_,_,_⟩:=(hby.set3 (.int .i64 48) (.slice A1 n1 c1) (.slice A2 n2 c2)).cells
 have hl:=hby.lt
 show wpList _ _ _ _ _ _
 go_wp2_with fail
 refine bodyPost_ret (v:=.tuple #[.agg #[.int .i64 48,.slice A1 n1 c1,.slice A2 n2 c2],.int .i64 0]) ?_ rfl ⟨mH xm (by omega) _ _ _,_,NB.out,rfl⟩
 simp [results,Tryz.results207,go_sem,w0',w1',w2']
theorem Own.slice {w:World}{B:Nat}{e:TypeId}{v:Value}{xs:List Value} (h:Own w B e v xs):∃ A n c,v=.slice A n c:=by
 obtain ⟨A,n,c,e,_⟩:=h
 exact ⟨A,n,c,e⟩
theorem EB {B:Nat}{W:World}{ty:TypeId}{v src:Value}{xs ys:List UInt8} (hB:B≤W.heap.size) (hx:GF B xs v W) (hy:GS B ys src W) (h1:0<xs.length) (h2:0<ys.length) (hs:xs.length+ys.length≤100000) :
 ∃ v' w'',(Builtin.append_ #[89,89] ty #[v,src]).run Tryz.prog W=.ok v' w''∧Ext W w''∧Own w'' B 5 v' (bvs (xs++ys)):=by
 obtain ⟨i,z,ht,hi,hz,hsz,hby,hzs⟩:=KP.ex
 obtain ⟨A,rfl,A',n',c',e,hn,_,_,hcell⟩:=hx
 injection e with e1 e2 e3
 subst e1 e2 e3
 obtain ⟨A2,m,c2,rfl,hm,_,_,hcell2⟩:=hy
 rw [bG] at hm
 subst hm
 obtain ⟨b,o,rfl,_,hc⟩:=hcell h1
 obtain ⟨b2,o2,rfl,_,hc2⟩:=hcell2 h2
 obtain ⟨v',w',k1,k2,k3⟩:=run_append_arg_grows (P:=Tryz.prog) W 89 ty 5 i z 1 1 ht hi hz hsz hby hzs (by decide) ⟨b,o,none⟩ xs.length xs.length (bvs xs) (by rw [bG];omega) (fun j u hu=>by rw [Addr.add_lit];exact hc j u hu) ⟨b2,o2,none⟩ ys.length c2 (bvs ys) (by rw [bG];omega) (fun j u hu=>by rw [Addr.add_lit];exact hc2 j u hu) (by omega) (by unfold maxLen;omega) (by omega)
 rw [oO] at k2
 exact ⟨v',w',k1,⟨k3.os,k3.tape,k3.output,k3.size,fun k hk=>k3.block k hk (by simp)⟩,(eK k2).mono hB⟩
set_option maxHeartbeats 1000000 in
theorem sF (c:NC) (w:World) (h:ckN c=0):Calls Tryz.prog 211 #[ncV c] w (G5 w 1 (dZ c) id):=by
 have sa:c.st.length≤4096:=by have:=(kL h).1.1.2;omega
 have HC:=UP (kL h)
 have he:=(kL h).2.2.2.2.1
 clear h
 obtain ⟨wz,hwz⟩:∃ wz,wz=((w.alloc (.cells #[.string (aH c.st),.int .i64 c.kind,.int .i64 c.num,.int .i64 c.iss,.int .i64 c.own,.int .i64 c.key,.int .i64 c.fr,.int .i64 c.un,.int .i64 c.to,.int .i64 c.e,.int .i64 c.s] 56))).alloc (.cells #[.int .i64 0,.slice none 0 0,.slice none 0 0] 180):=⟨_,rfl⟩
 have e1:Ext w (w.alloc (.cells #[.string (aH c.st),.int .i64 c.kind,.int .i64 c.num,.int .i64 c.iss,.int .i64 c.own,.int .i64 c.key,.int .i64 c.fr,.int .i64 c.un,.int .i64 c.to,.int .i64 c.e,.int .i64 c.s] 56)):=(Below.refl _ _).alloc (TM _) _
 have x0:Ext w wz:=by rw [hwz];exact e1.alloc (by simp) _
 have hc:bD wz w.heap.size c:=by rw [hwz];exact (bD.new w c).ext ((Below.refl _ _).alloc (TM _) _)
 have hb:C3 wz (w.heap.size+1) (.int .i64 0) (.slice none 0 0) (.slice none 0 0):=by
  have:=C3.new (w.alloc (.cells #[.string (aH c.st),.int .i64 c.kind,.int .i64 c.num,.int .i64 c.iss,.int .i64 c.own,.int .i64 c.key,.int .i64 c.fr,.int .i64 c.un,.int .i64 c.to,.int .i64 c.e,.int .i64 c.s] 56)) (.int .i64 0) (.slice none 0 0) (.slice none 0 0)
  rw [show (w.alloc (.cells #[.string (aH c.st),.int .i64 c.kind,.int .i64 c.num,.int .i64 c.iss,.int .i64 c.own,.int .i64 c.key,.int .i64 c.fr,.int .i64 c.un,.int .i64 c.to,.int .i64 c.e,.int .i64 c.s] 56)).heap.size=w.heap.size+1 by simp] at this
  rw [hwz];exact this
 have hsz:w.heap.size+1<wz.heap.size:=hb.lt
 unfold ncV
 go_enter Tryz.func211,Tryz.ntmps211
 go_wp2_with fail
 rw [← hwz]
 clear hwz e1
 obtain ⟨t0,t1,t2,t3,t4,t5,t6,t7,t8,t9,t10⟩:=hc.cells
 have hl:=hc.lt
 go_wp2_with fail
 refine (uM _ _).mono ?_
 rintro e wk ⟨A,n,c',rfl,hn,o,bk⟩
 rw [show elB c.key=be4 c.key from if_pos he] at hn o
 rw [show elK c.key=0 from if_pos he]
 have ob:GS wz.heap.size (be4 c.key) (.slice A n c') wk:=RdS.of o fun b hb=>hb
 have hck:=hc.ext bk
 have hbk:=hb.ex bk
 have xk:=x0.tr bk
 clear hn o hc hb t0 t1 t2 t3 t4 t5 t6 t7 t8 t9 t10 hl
 obtain ⟨h1,h2,h3,⟨⟨n1,n2⟩,⟨n3,n4⟩,⟨n5,n6⟩,_⟩,h5,d1,d2,d3,d4⟩:=HC.out
 have kind0:0≤c.kind:=by omega
 have kind1:c.kind<9223372036854775808:=by omega
 have num0:0≤c.num:=by omega
 have num1:c.num<9223372036854775808:=by omega
 have iss0:0≤c.iss:=by omega
 have iss1:c.iss<9223372036854775808:=by omega
 have own0:0≤c.own:=by omega
 have own1:c.own<9223372036854775808:=by omega
 have fr0:0≤c.fr:=by omega
 have fr1:c.fr<9223372036854775808:=by omega
 have un0:0≤c.un:=by omega
 have un1:c.un<9223372036854775808:=by omega
 have to0:0≤c.to:=by omega
 have to1:c.to<9223372036854775808:=by omega
 clear h1 h2 h3 n1 n2 n3 n4 n5 n6 h5 d1 d2 d3 d4
 go_wp2_with fail
 refine Gd.aN 10 (by kernel_rfl) (by kernel_rfl) ?_
 simp only [UF,UD,UG,UH]
 intro w1 hw1
 have LL:∀ m:Lt w1,Ext wk m.1:=fun m=>hw1.tr m.2
 have v6:∀ m:Lt w1,m.1.cell? ⟨w.heap.size,6,none⟩=some (.int .i64 c.fr):=fun m=>(hck.ext (LL m)).cells.2.2.2.2.2.2.1
 have v7:∀ m:Lt w1,m.1.cell? ⟨w.heap.size,7,none⟩=some (.int .i64 c.un):=fun m=>(hck.ext (LL m)).cells.2.2.2.2.2.2.2.1
 have v8:∀ m:Lt w1,m.1.cell? ⟨w.heap.size,8,none⟩=some (.int .i64 c.to):=fun m=>(hck.ext (LL m)).cells.2.2.2.2.2.2.2.2.1
 have BB:∀ m:Lt w1,wk.heap.size≤m.1.heap.size:=fun m=>(LL m).size
 repeat (refine Gd.aD (by first | exact trivial | exact ⟨_,rfl,rfl,rfl⟩) rfl rfl rfl rfl rfl (fun K hK=>?_);go_big_quiet_op;refine hK _ ?_;clear hK K)
 refine Gd.aU (by first | exact trivial | exact ⟨_,rfl,rfl,rfl⟩) (GF wk.heap.size (be3 c.fr)) (qZ _ _) (fun _=>[.int .i64 c.fr,.int .i64 3]) rfl rfl rfl rfl rfl (by kernel_rfl) rfl (fun _=>rfl) (fun m f hf=>sC c.fr ▸ uP 3 c.fr 3 m.1 (BB m) fr0 fr1 rfl (by omega)) ?_
 simp only [Act.put,TO,TQ,TU]
 repeat (refine Gd.aD (by first | exact trivial | exact ⟨_,rfl,rfl,rfl⟩) rfl rfl rfl rfl rfl (fun K hK=>?_);go_big_quiet_op;refine hK _ ?_;clear hK K)
 refine Gd.aU (by first | exact trivial | exact ⟨_,rfl,rfl,rfl⟩) (GF wk.heap.size (be3 c.un)) (qZ _ _) (fun _=>[.int .i64 c.un,.int .i64 3]) rfl rfl rfl rfl rfl (by kernel_rfl) rfl (fun _=>rfl) (fun m f hf=>sC c.un ▸ uP 3 c.un 3 m.1 (BB m) un0 un1 rfl (by omega)) ?_
 simp only [Act.put,TO,TQ,TU]
 refine Gd.wpX_appF (by first | exact trivial | exact ⟨_,rfl,rfl,rfl⟩) (fun v w=>Own w wk.heap.size 5 v (bvs (be3 c.fr++be3 c.un))) (tQ _ _ _) (fun f=>f 14) (fun f=>f 17) rfl rfl rfl rfl rfl rfl (fun _=>rfl) (fun _=>rfl) (fun m f hf=>EB (BB m) (hf 14 _ rfl rfl) (hf 17 _ rfl rfl).gs (by simp [be3]) (by simp [be3]) (by simp [be3])) ?_
 simp only [Act.put,TO,TQ,TU]
 repeat (refine Gd.aD (by first | exact trivial | exact ⟨_,rfl,rfl,rfl⟩) rfl rfl rfl rfl rfl (fun K hK=>?_);go_big_quiet_op;refine hK _ ?_;clear hK K)
 refine Gd.aU (by first | exact trivial | exact ⟨_,rfl,rfl,rfl⟩) (GF wk.heap.size (be3 c.to)) (qZ _ _) (fun _=>[.int .i64 c.to,.int .i64 3]) rfl rfl rfl rfl rfl (by kernel_rfl) rfl (fun _=>rfl) (fun m f hf=>sC c.to ▸ uP 3 c.to 3 m.1 (BB m) to0 to1 rfl (by omega)) ?_
 simp only [Act.put,TO,TQ,TU]
 refine Gd.cM (fun m f hf=>?_)
 have h18:=hf 18 _ rfl
 have h21:=(hf 21 _ rfl).gs
 simp only [aW]
 simp only [Act.put,TO,TQ,TU]
 obtain ⟨A18,n18,c18,e18⟩:=Own.slice h18
 obtain ⟨A21,n21,c21,e21⟩:=h21.slice
 rw [e18] at h18 ⊢
 rw [e21] at h21 ⊢
 have Lm:=LL m
 obtain ⟨wm,hwm⟩:=m
 clear LL BB v6 v7 v8 hf e18 e21
 show wpList _ _ _ _ _ _
 go_wp2_with (refine jC (B:=wk.heap.size) (w0:=wk) (xs:=be3 c.fr++be3 c.un) (ys:=be3 c.to) h18 h21.rd Lm (by simp [be3]) Lm.size rfl rfl rfl rfl ?_;intro Aq nq cq wq hnq oq0 bq gq)
 have oq:GS wz.heap.size (oI c) (.slice Aq nq cq) wq:=RdS.of (xs:=bvs (oI c)) oq0 fun b hb=>U9 bk.size hb
 have ob2:GS wz.heap.size (be4 c.key) (.slice A n c') wq:=bY _ _ _ _ _ bq ob
 have bk2:=bk.tr bq
 have hck2:=hck.ext bq
 have hbk2:=hbk.ex bq
 have xk2:=xk.tr bq
 clear ob hck hbk xk bk h18 h21 Lm hwm hnq oq0 gq
 refine Gd.aN 26 (by kernel_rfl) (by kernel_rfl) ?_
 simp only [UF,UD,UG,UH]
 intro w1 hw1
 have LL:∀ m:Lt w1,Ext wq m.1:=fun m=>hw1.tr m.2
 have v0:∀ m:Lt w1,m.1.cell? ⟨w.heap.size,0,none⟩=some (.string (aH c.st)):=fun m=>(hck2.ext (LL m)).cells.1
 have v1:∀ m:Lt w1,m.1.cell? ⟨w.heap.size,1,none⟩=some (.int .i64 c.kind):=fun m=>(hck2.ext (LL m)).cells.2.1
 have v2:∀ m:Lt w1,m.1.cell? ⟨w.heap.size,2,none⟩=some (.int .i64 c.num):=fun m=>(hck2.ext (LL m)).cells.2.2.1
 have v3:∀ m:Lt w1,m.1.cell? ⟨w.heap.size,3,none⟩=some (.int .i64 c.iss):=fun m=>(hck2.ext (LL m)).cells.2.2.2.1
 have v4:∀ m:Lt w1,m.1.cell? ⟨w.heap.size,4,none⟩=some (.int .i64 c.own):=fun m=>(hck2.ext (LL m)).cells.2.2.2.2.1
 have OB:∀ m:Lt w1,GS wz.heap.size (be4 c.key) (.slice A n c') m.1:=fun m=>bY _ _ _ _ _ (LL m) ob2
 have OR:∀ m:Lt w1,GS wz.heap.size (oI c) (.slice Aq nq cq) m.1:=fun m=>bY _ _ _ _ _ (LL m) oq
 have BB:∀ m:Lt w1,wz.heap.size≤m.1.heap.size:=fun m=>U9 bk2.size (LL m).size
 repeat (refine Gd.aD (by first | exact trivial | exact ⟨_,rfl,rfl,rfl⟩) rfl rfl rfl rfl rfl (fun K hK=>?_);go_big_quiet_op;refine hK _ ?_;clear hK K)
 refine Gd.qY (by first | exact trivial | exact ⟨_,rfl,rfl,rfl⟩) (GS wz.heap.size c.st) (bY _ _) (fun _=>.string (aH c.st)) rfl rfl rfl rfl rfl (fun _=>rfl) (fun m f hf=>yS m.1 (BB m) c.st sa) ?_
 simp only [Act.put,TO,TQ,TU]
 refine Gd.aU (by first | exact trivial | exact ⟨_,rfl,rfl,rfl⟩) (NdG wz.heap.size 0 (aY 19 c.st)) (bI _ _ _) (fun f=>[.int .i64 19,f 25]) rfl rfl rfl rfl rfl (by kernel_rfl) rfl (fun f=>rfl) (fun m f hf=>oG m.1 19 (hf 25 _ rfl rfl)) ?_
 simp only [Act.put,TO,TQ,TU]
 repeat (refine Gd.aD (by first | exact trivial | exact ⟨_,rfl,rfl,rfl⟩) rfl rfl rfl rfl rfl (fun K hK=>?_);go_big_quiet_op;refine hK _ ?_;clear hK K)
 refine Gd.aU (by first | exact trivial | exact ⟨_,rfl,rfl,rfl⟩) (GS wz.heap.size [u8 c.kind]) (bY _ _) (fun _=>[.int .i64 c.kind,.int .i64 1]) rfl rfl rfl rfl rfl (by kernel_rfl) rfl (fun _=>rfl) (fun m f hf=>(fY 1 c.kind 1 m.1 kind0 kind1 rfl (by omega)).mono fun _ _ h=>(RX c.kind ▸ h:gP _ _ _ _).gs (BB m)) ?_
 simp only [Act.put,TO,TQ,TU]
 refine Gd.aU (by first | exact trivial | exact ⟨_,rfl,rfl,rfl⟩) (NdG wz.heap.size 0 (aY 129 [u8 c.kind])) (bI _ _ _) (fun f=>[.int .i64 129,f 29]) rfl rfl rfl rfl rfl (by kernel_rfl) rfl (fun f=>rfl) (fun m f hf=>oG m.1 129 (hf 29 _ rfl rfl)) ?_
 simp only [Act.put,TO,TQ,TU]
 repeat (refine Gd.aD (by first | exact trivial | exact ⟨_,rfl,rfl,rfl⟩) rfl rfl rfl rfl rfl (fun K hK=>?_);go_big_quiet_op;refine hK _ ?_;clear hK K)
 refine Gd.aU (by first | exact trivial | exact ⟨_,rfl,rfl,rfl⟩) (GS wz.heap.size (be4 c.num)) (bY _ _) (fun _=>[.int .i64 c.num,.int .i64 4]) rfl rfl rfl rfl rfl (by kernel_rfl) rfl (fun _=>rfl) (fun m f hf=>(fY 4 c.num 4 m.1 num0 num1 rfl (by omega)).mono fun _ _ h=>(BO c.num ▸ h:gP _ _ _ _).gs (BB m)) ?_
 simp only [Act.put,TO,TQ,TU]
 refine Gd.aU (by first | exact trivial | exact ⟨_,rfl,rfl,rfl⟩) (NdG wz.heap.size 0 (aY 130 (be4 c.num))) (bI _ _ _) (fun f=>[.int .i64 130,f 33]) rfl rfl rfl rfl rfl (by kernel_rfl) rfl (fun f=>rfl) (fun m f hf=>oG m.1 130 (hf 33 _ rfl rfl)) ?_
 simp only [Act.put,TO,TQ,TU]
 repeat (refine Gd.aD (by first | exact trivial | exact ⟨_,rfl,rfl,rfl⟩) rfl rfl rfl rfl rfl (fun K hK=>?_);go_big_quiet_op;refine hK _ ?_;clear hK K)
 refine Gd.aU (by first | exact trivial | exact ⟨_,rfl,rfl,rfl⟩) (GS wz.heap.size (be4 c.iss)) (bY _ _) (fun _=>[.int .i64 c.iss,.int .i64 4]) rfl rfl rfl rfl rfl (by kernel_rfl) rfl (fun _=>rfl) (fun m f hf=>(fY 4 c.iss 4 m.1 iss0 iss1 rfl (by omega)).mono fun _ _ h=>(BO c.iss ▸ h:gP _ _ _ _).gs (BB m)) ?_
 simp only [Act.put,TO,TQ,TU]
 refine Gd.aU (by first | exact trivial | exact ⟨_,rfl,rfl,rfl⟩) (NdG wz.heap.size 0 (aY 131 (be4 c.iss))) (bI _ _ _) (fun f=>[.int .i64 131,f 37]) rfl rfl rfl rfl rfl (by kernel_rfl) rfl (fun f=>rfl) (fun m f hf=>oG m.1 131 (hf 37 _ rfl rfl)) ?_
 simp only [Act.put,TO,TQ,TU]
 repeat (refine Gd.aD (by first | exact trivial | exact ⟨_,rfl,rfl,rfl⟩) rfl rfl rfl rfl rfl (fun K hK=>?_);go_big_quiet_op;refine hK _ ?_;clear hK K)
 refine Gd.aU (by first | exact trivial | exact ⟨_,rfl,rfl,rfl⟩) (GS wz.heap.size (be4 c.own)) (bY _ _) (fun _=>[.int .i64 c.own,.int .i64 4]) rfl rfl rfl rfl rfl (by kernel_rfl) rfl (fun _=>rfl) (fun m f hf=>(fY 4 c.own 4 m.1 own0 own1 rfl (by omega)).mono fun _ _ h=>(BO c.own ▸ h:gP _ _ _ _).gs (BB m)) ?_
 simp only [Act.put,TO,TQ,TU]
 refine Gd.aU (by first | exact trivial | exact ⟨_,rfl,rfl,rfl⟩) (NdG wz.heap.size 0 (aY 132 (be4 c.own))) (bI _ _ _) (fun f=>[.int .i64 132,f 41]) rfl rfl rfl rfl rfl (by kernel_rfl) rfl (fun f=>rfl) (fun m f hf=>oG m.1 132 (hf 41 _ rfl rfl)) ?_
 simp only [Act.put,TO,TQ,TU]
 repeat (refine Gd.aD (by first | exact trivial | exact ⟨_,rfl,rfl,rfl⟩) rfl rfl rfl rfl rfl (fun K hK=>?_);go_big_quiet_op;refine hK _ ?_;clear hK K)
 refine Gd.aU (by first | exact trivial | exact ⟨_,rfl,rfl,rfl⟩) (NdG wz.heap.size 0 (aY 133 (be4 c.key))) (bI _ _ _) (fun f=>[.int .i64 133,.slice A n c']) rfl rfl rfl rfl rfl (by kernel_rfl) rfl (fun f=>rfl) (fun m f hf=>oG m.1 133 (OB m)) ?_
 simp only [Act.put,TO,TQ,TU]
 repeat (refine Gd.aD (by first | exact trivial | exact ⟨_,rfl,rfl,rfl⟩) rfl rfl rfl rfl rfl (fun K hK=>?_);go_big_quiet_op;refine hK _ ?_;clear hK K)
 refine Gd.aU (by first | exact trivial | exact ⟨_,rfl,rfl,rfl⟩) (NdG wz.heap.size 0 (aY 134 (oI c))) (bI _ _ _) (fun f=>[.int .i64 134,.slice Aq nq cq]) rfl rfl rfl rfl rfl (by kernel_rfl) rfl (fun f=>rfl) (fun m f hf=>oG m.1 134 (OR m)) ?_
 simp only [Act.put,TO,TQ,TU]
 refine Gd.bK (by first | exact trivial | exact ⟨_,rfl,rfl,rfl⟩) (LI wz.heap.size 1 (dZ c).kids) (sD _ _ _) (fun f=>[(0,f 26),(1,f 30),(2,f 34),(3,f 38),(4,f 42),(5,f 44),(6,f 46)]) rfl rfl rfl rfl rfl (fun f=>rfl) (fun m f hf=>uO m.1 (BB m) (hf 26 _ rfl rfl) (hf 30 _ rfl rfl) (hf 34 _ rfl rfl) (hf 38 _ rfl rfl) (hf 42 _ rfl rfl) (hf 44 _ rfl rfl) (hf 46 _ rfl rfl)) ?_
 simp only [Act.put,TO,TQ,TU]
 refine Gd.d9 (by first | exact trivial | exact ⟨_,rfl,rfl,rfl⟩) (NdG wz.heap.size 1 (dZ c)) (bI _ _ _) (fun f=>[(0,.int .i64 48),(2,f 47)]) rfl rfl rfl rfl rfl (fun f=>rfl) (fun m f hf=>BR m.1 48 (hf 47 _ rfl rfl)) ?_
 simp only [Act.put,TO,TQ,TU]
 refine Gd.cM (fun m f hf=>?_)
 obtain ⟨A1,n1,c1,A2,n2,c2,e49,r49,k49⟩:=hf 48 _ rfl
 rw [show (dZ c).tag=48 from rfl] at e49
 simp only [aW]
 simp only [Act.put,TO,TQ,TU]
 rw [e49]
 have Lm:=LL m
 have xm:=xk2.tr Lm
 obtain ⟨wy,hwy⟩:=m
 clear LL BB OB OR v0 v1 v2 v3 v4 hf e49
 have hby:=hbk2.ex Lm
 have NB:=UP (xG (w:=w) (t:=dZ c) x0.size hsz r49 k49 (.int .i64 48) (.slice A1 n1 c1) (.slice A2 n2 c2))
 clear r49 k49 hck2
 obtain ⟨y0,y1,y2,yf0,yf1,yf2⟩:=hby.cells
 obtain ⟨w0',w1',w2',_,_,_⟩:=(hby.set3 (.int .i64 48) (.slice A1 n1 c1) (.slice A2 n2 c2)).cells
 have hl:=hby.lt
 show wpList _ _ _ _ _ _
 go_wp2_with fail
 refine bodyPost_ret (v:=.agg #[.int .i64 48,.slice A1 n1 c1,.slice A2 n2 c2]) ?_ rfl ⟨mH xm (by omega) _ _ _,_,NB.out,rfl⟩
 simp [results,Tryz.results211,go_sem,w0',w1',w2']
theorem xL (c:NC):bW 2 [dZ c]≤256:=show 8≤256 by omega
theorem uW {c:NC} (h:ckN c=0):(bZ 2 [dZ c]).length≤4096:=by
 have:=uS (kL h).1.1.2
 unfold dL at this
 omega
set_option maxHeartbeats 1000000 in
theorem iOq (c:NC) (w:World) (hs:smN c):Calls Tryz.prog 247 #[ncV c] w (FU w (byN c) (ckN c)):=by
 have x0:Ext w (w.alloc (.cells #[.string (aH c.st),.int .i64 c.kind,.int .i64 c.num,.int .i64 c.iss,.int .i64 c.own,.int .i64 c.key,.int .i64 c.fr,.int .i64 c.un,.int .i64 c.to,.int .i64 c.e,.int .i64 c.s] 56)):=(Below.refl _ _).alloc (TM _) _
 unfold ncV
 go_enter Tryz.func247,Tryz.ntmps247
 go_wp2_with fail
 refine (eD c _ hs).mono ?_
 rintro e w1 ⟨rfl,b1⟩
 have x1:=x0.tr b1
 have hT:=(bD.new w c).ext b1
 by_cases hc:ckN c=0
 · have HK:=UP hc
   have HB:=UP (show byN c=dL c from if_pos hc)
   rw [hc]
   clear hc
   obtain ⟨t0,t1,t2,t3,t4,t5,t6,t7,t8,t9,t10⟩:=hT.cells
   have hl:=hT.lt
   go_wp2_with fail
   refine (BV c _ HK.out).mono ?_
   rintro e w2 ⟨b2,v,hv,rfl⟩
   obtain ⟨A1,n1,c1,A2,n2,c2,rfl⟩:=jI hv
   have x2:=x1.tr b2
   have hv0:=bI _ _ _ _ _ _ ((Below.refl _ _).alloc (TM _) (.cells #[.int .i64 48,.slice A1 n1 c1,.slice A2 n2 c2] 180)) hv.zero
   have x3:Ext w ((w2.alloc (.cells #[.int .i64 48,.slice A1 n1 c1,.slice A2 n2 c2] 180)).alloc (.cells #[.int .i64 48,.slice A1 n1 c1,.slice A2 n2 c2] 180)):=(x2.alloc x2.size _).alloc (by simp;have:=x2.size;omega) _
   have HV:=UP hv0
   clear hv hv0 t0 t1 t2 t3 t4 t5 t6 t7 t8 t9 t10 hT hl
   rw [show (dZ c).tag=48 from rfl]
   go_wp2_with fail
   refine (xD (d:=2) (ts:=[dZ c]) _ (uR c) (tG (t:=dZ c) (by simp) HV.out) (by omega) (xL c) (uW HK.out)).mono ?_
   rintro e w4 ⟨A,n,cc,rfl,hn,o,b4⟩
   go_wp2_with fail
   go_ret2
   rw [HB.out,HK.out]
   exact ⟨_,_,_,rfl,hn,o.rd,x3.tr b4⟩
 · have hb:(ckN c != 0)=true:=by simpa using hc
   have HB:=UP (show byN c=[] from if_neg hc)
   clear hc
   go_wp2_with fail
   go_ret2
   rw [HB.out]
   exact ⟨_,_,_,rfl,(show _=_ from rfl),Rd.nil_ _,x1⟩
set_option maxHeartbeats 1000000 in
theorem pW (c:NC) (w:World) (hs:smN c):Calls Tryz.prog 248 #[ncV c] w (FU w (byN c) (ckN c)):=by
 have x0:Ext w (w.alloc (.cells #[.string (aH c.st),.int .i64 c.kind,.int .i64 c.num,.int .i64 c.iss,.int .i64 c.own,.int .i64 c.key,.int .i64 c.fr,.int .i64 c.un,.int .i64 c.to,.int .i64 c.e,.int .i64 c.s] 56)):=(Below.refl _ _).alloc (TM _) _
 unfold ncV
 go_enter Tryz.func248,Tryz.ntmps248
 go_wp2_with fail
 refine (dM c _ hs).mono ?_
 rintro e w1 ⟨rfl,b1⟩
 have x1:=x0.tr b1
 have hT:=(bD.new w c).ext b1
 by_cases hc:ckN c=0
 · have HK:=UP hc
   have HB:=UP (show byN c=dL c from if_pos hc)
   rw [hc]
   clear hc
   obtain ⟨t0,t1,t2,t3,t4,t5,t6,t7,t8,t9,t10⟩:=hT.cells
   have hl:=hT.lt
   go_wp2_with fail
   refine (sF c _ HK.out).mono ?_
   rintro e w2 ⟨b2,v,hv,rfl⟩
   obtain ⟨A1,n1,c1,A2,n2,c2,rfl⟩:=jI hv
   have x2:=x1.tr b2
   have x3:Ext w (w2.alloc (.cells #[.int .i64 48,.slice A1 n1 c1,.slice A2 n2 c2] 180)):=x2.alloc x2.size _
   have HV:=UP hv.zero
   clear hv t0 t1 t2 t3 t4 t5 t6 t7 t8 t9 t10 hT hl
   rw [show (dZ c).tag=48 from rfl]
   simp only [id]
   go_wp2_with fail
   refine (pL (d:=2) (ts:=[dZ c]) _ (uR c) (tG (t:=dZ c) rfl HV.out) (by omega) (xL c) (uW HK.out)).mono ?_
   rintro e w4 ⟨A,n,cc,rfl,hn,o,b4⟩
   go_wp2_with fail
   go_ret2
   rw [HB.out,HK.out]
   exact ⟨_,_,_,rfl,hn,o.rd,x3.tr b4⟩
 · have hb:(ckN c != 0)=true:=by simpa using hc
   have HB:=UP (show byN c=[] from if_neg hc)
   clear hc
   go_wp2_with fail
   go_ret2
   rw [HB.out]
   exact ⟨_,_,_,rfl,(show _=_ from rfl),Rd.nil_ _,x1⟩
theorem NdG.mono {B B' d:Nat}{t:Nd}{v:Value}{w:World} (hB:B'≤B) (h:NdG B d t v w):NdG B' d t v w:=by
 obtain ⟨A1,n1,c1,A2,n2,c2,h1,h2,h3⟩:=h
 exact ⟨A1,n1,c1,A2,n2,c2,h1,h2.map fun b hb _=>⟨U9 hB hb,rfl⟩,h3.map fun b hb _=>⟨U9 hB hb,rfl⟩⟩
set_option maxHeartbeats 1000000 in
theorem iO (k:Int) (c:NC) (w:World) (hs:smN c) (E:dN w 0):Calls Tryz.prog 246 #[.int .i64 k,ncV c] w (eL w (.tuple #[ncV (pQ k c),.int .i64 (IK k c)])):=by
 obtain ⟨wz,hwz,T⟩:=E8 w c
 unfold ncV
 go_enter Tryz.func246,Tryz.ntmps246
 go_wp2_with fail
 rw [← hwz]
 clear hwz
 refine (pW c _ hs).mono ?_
 rintro e w1 ⟨A,n,cc,rfl,hn,r,b1⟩
 have T1:=T.tr b1
 clear T
 have x1:=T1.ext
 by_cases hc:ckN c=0
 · have HK:=UP hc
   rw [hc]
   have hlen:=yW c
   clear hc
   go_wp2_with fail
   refine (rZ k _ r (by omega) (E.below x1)).mono ?_
   rintro e w2 ⟨rfl,b2⟩
   have T2:=T1.tr b2
   have x2:=T2.ext
   clear T1 x1 hn r hlen
   unfold sgV
   rw [show byN c=dL c from if_pos HK.out]
   obtain ⟨t0,t1,t2,t3,t4,t5,t6,t7,t8,t9,t10⟩:=T2.c.cells
   have hl:=T2.c.lt
   have hlr:=T2.r.lt
   have f7:=T2.c.frozen 9
   have f8:=T2.c.frozen 10
   obtain ⟨r0,r1,r2,r3,r4,r5,r6,r7,r8,r9,r10⟩:=T2.r.cells
   have g0:=T2.r.frozen 0
   have g1:=T2.r.frozen 1
   have g2:=T2.r.frozen 2
   have g3:=T2.r.frozen 3
   have g4:=T2.r.frozen 4
   have g5:=T2.r.frozen 5
   have g6:=T2.r.frozen 6
   have g7:=T2.r.frozen 7
   have g8:=T2.r.frozen 8
   have g9:=T2.r.frozen 9
   have g10:=T2.r.frozen 10
   by_cases hk:sK k=0
   · have HI:=UP (show pQ k c=wI c (sE k (dL c)) (sS k (dL c)) from if_pos ⟨HK.out,hk⟩)
     have HJ:=UP (show IK k c=0 by unfold IK;rw [if_pos HK.out,hk])
     rw [hk]
     clear hk
     generalize sE k (dL c)=es at *
     generalize sS k (dL c)=ss at *
     obtain ⟨wa,hwa,sa⟩:=uJ w2 es ss
     have hwb:=hwa.symm
     clear hwa
     have T3:=T2.tr sa.ext
     have s0:=sa.c0
     have s1:=sa.c1
     have sl:=sa.lt
     clear sa
     clear t0 t1 t2 t3 t4 t5 t6 t7 t8 t9 t10 hl hlr f7 f8 r0 r1 r2 r3 r4 r5 r6 r7 r8 r9 r10 g0 g1 g2 g3 g4 g5 g6 g7 g8 g9 g10
     obtain ⟨t0,t1,t2,t3,t4,t5,t6,t7,t8,t9,t10⟩:=T3.c.cells
     have hl:=T3.c.lt
     have hlr:=T3.r.lt
     have f7:=T3.c.frozen 9
     have f8:=T3.c.frozen 10
     obtain ⟨r0,r1,r2,r3,r4,r5,r6,r7,r8,r9,r10⟩:=T3.r.cells
     have g0:=T3.r.frozen 0
     have g1:=T3.r.frozen 1
     have g2:=T3.r.frozen 2
     have g3:=T3.r.frozen 3
     have g4:=T3.r.frozen 4
     have g5:=T3.r.frozen 5
     have g6:=T3.r.frozen 6
     have g7:=T3.r.frozen 7
     have g8:=T3.r.frozen 8
     have g9:=T3.r.frozen 9
     have g10:=T3.r.frozen 10
     go_wp2_with fail
     have TR:=(T3.r.other (b:=w.heap.size) (i:=9) (v:=.int .i64 es) (by omega)).other (b:=w.heap.size) (i:=10) (v:=.int .i64 ss) (by omega)
     have TZ:bD (G7 ((wa.setCell ⟨w.heap.size,9,none⟩ (.int .i64 es)).setCell ⟨w.heap.size,10,none⟩ (.int .i64 ss)) (w.heap.size+1) (.string (aH c.st)) (.int .i64 c.kind) (.int .i64 c.num) (.int .i64 c.iss) (.int .i64 c.own) (.int .i64 c.key) (.int .i64 c.fr) (.int .i64 c.un) (.int .i64 c.to) (.int .i64 es) (.int .i64 ss)) (w.heap.size+1) (wI c es ss):=TR.setN (wI c es ss)
     refine bodyPost_ret (v:=.tuple #[ncV (wI c es ss),.int .i64 0]) ?_ rfl ⟨by rw [HI.out,HJ.out];rfl,uV (aI (aI T3.ext (TM _)) (TM _)) (by omega) (wI c es ss)⟩
     obtain ⟨q0,q1,q2,q3,q4,q5,q6,q7,q8,q9,q10⟩:=TZ.cells
     clear r0 r1 r2 r3 r4 r5 r6 r7 r8 r9 r10 t0 t1 t2 t3 t4 t5 t6 t7 t8 t9 t10
     simp [results,Tryz.results246,go_sem,ncV,q0,q1,q2,q3,q4,q5,q6,q7,q8,q9,q10]
   · have HI:=UP (show pQ k c=cP from if_neg (fun q=>hk q.2))
     have HJ:=UP (show IK k c=sK k from if_pos HK.out)
     have hb:(sK k != 0)=true:=by simpa using hk
     clear hk
     generalize sE k (dL c)=es at *
     generalize sS k (dL c)=ss at *
     obtain ⟨wa,hwa,sa⟩:=uJ w2 es ss
     have hwb:=hwa.symm
     clear hwa
     have T3:=T2.tr sa.ext
     have s0:=sa.c0
     have s1:=sa.c1
     have sl:=sa.lt
     clear sa
     clear t0 t1 t2 t3 t4 t5 t6 t7 t8 t9 t10 hl hlr f7 f8 r0 r1 r2 r3 r4 r5 r6 r7 r8 r9 r10 g0 g1 g2 g3 g4 g5 g6 g7 g8 g9 g10
     obtain ⟨t0,t1,t2,t3,t4,t5,t6,t7,t8,t9,t10⟩:=T3.c.cells
     have hl:=T3.c.lt
     have hlr:=T3.r.lt
     have f7:=T3.c.frozen 9
     have f8:=T3.c.frozen 10
     obtain ⟨r0,r1,r2,r3,r4,r5,r6,r7,r8,r9,r10⟩:=T3.r.cells
     have g0:=T3.r.frozen 0
     have g1:=T3.r.frozen 1
     have g2:=T3.r.frozen 2
     have g3:=T3.r.frozen 3
     have g4:=T3.r.frozen 4
     have g5:=T3.r.frozen 5
     have g6:=T3.r.frozen 6
     have g7:=T3.r.frozen 7
     have g8:=T3.r.frozen 8
     have g9:=T3.r.frozen 9
     have g10:=T3.r.frozen 10
     go_wp2_with fail
     have TZ:bD (G7 wa (w.heap.size+1) (.string ⟨#[]⟩) (.int .i64 0) (.int .i64 0) (.int .i64 0) (.int .i64 0) (.int .i64 0) (.int .i64 0) (.int .i64 0) (.int .i64 0) (.int .i64 0) (.int .i64 0)) (w.heap.size+1) cP:=T3.r.setN cP
     refine bodyPost_ret (v:=.tuple #[ncV cP,.int .i64 (sK k)]) ?_ rfl ⟨by rw [HI.out,HJ.out];rfl,uV T3.ext (by omega) cP⟩
     obtain ⟨q0,q1,q2,q3,q4,q5,q6,q7,q8,q9,q10⟩:=TZ.cells
     clear r0 r1 r2 r3 r4 r5 r6 r7 r8 r9 r10 t0 t1 t2 t3 t4 t5 t6 t7 t8 t9 t10
     simp [results,Tryz.results246,go_sem,ncV,q0,q1,q2,q3,q4,q5,q6,q7,q8,q9,q10]
 · have HI:=UP (show pQ k c=cP from if_neg (fun q=>hc q.1))
   have HJ:=UP (show IK k c=ckN c from if_neg hc)
   have hb:(ckN c != 0)=true:=by simpa using hc
   clear hc r hn
   obtain ⟨r0,r1,r2,r3,r4,r5,r6,r7,r8,r9,r10⟩:=T1.r.cells
   have hlr:=T1.r.lt
   have g0:=T1.r.frozen 0
   have g1:=T1.r.frozen 1
   have g2:=T1.r.frozen 2
   have g3:=T1.r.frozen 3
   have g4:=T1.r.frozen 4
   have g5:=T1.r.frozen 5
   have g6:=T1.r.frozen 6
   have g7:=T1.r.frozen 7
   have g8:=T1.r.frozen 8
   have g9:=T1.r.frozen 9
   have g10:=T1.r.frozen 10
   go_wp2_with fail
   refine bodyPost_ret (v:=.tuple #[ncV cP,.int .i64 (ckN c)]) ?_ rfl ⟨by rw [HI.out,HJ.out];rfl,uV x1 (by omega) cP⟩
   have TZ:bD (G7 w1 (w.heap.size+1) (.string ⟨#[]⟩) (.int .i64 0) (.int .i64 0) (.int .i64 0) (.int .i64 0) (.int .i64 0) (.int .i64 0) (.int .i64 0) (.int .i64 0) (.int .i64 0) (.int .i64 0)) (w.heap.size+1) cP:=T1.r.setN cP
   obtain ⟨q0,q1,q2,q3,q4,q5,q6,q7,q8,q9,q10⟩:=TZ.cells
   clear r0 r1 r2 r3 r4 r5 r6 r7 r8 r9 r10
   simp [results,Tryz.results246,go_sem,ncV,q0,q1,q2,q3,q4,q5,q6,q7,q8,q9,q10]
set_option maxHeartbeats 1000000 in
theorem sG (p:Int) (c:NC) (w:World) (hs:smN c) (E:dN w 1):Calls Tryz.prog 198 #[.int .i64 p,ncV c] w (eL w (.bool (vfN p c))):=by
 have x0:Ext w (w.alloc (.cells #[.string (aH c.st),.int .i64 c.kind,.int .i64 c.num,.int .i64 c.iss,.int .i64 c.own,.int .i64 c.key,.int .i64 c.fr,.int .i64 c.un,.int .i64 c.to,.int .i64 c.e,.int .i64 c.s] 56)):=(Below.refl _ _).alloc (TM _) _
 unfold ncV
 go_enter Tryz.func198,Tryz.ntmps198
 go_wp2_with fail
 refine (iOq c _ hs).mono ?_
 rintro e w1 ⟨A,n,cc,rfl,hn,r,b1⟩
 have x1:=x0.tr b1
 have hT:=(bD.new w c).ext b1
 by_cases hc:ckN c=0
 · have HV:=UP (show vfN p c=jT p (dL c) c.e c.s from if_pos hc)
   rw [show byN c=dL c from if_pos hc] at r
   have hlen:=yW c
   rw [show byN c=dL c from if_pos hc] at hlen
   rw [hc]
   clear hc
   obtain ⟨_,_,_,_,_,_,_,_,_,t9,t10⟩:=hT.cells
   have hl:=hT.lt
   go_wp2_with fail
   refine (uI p c.e c.s _ r (by omega) (E.below x1)).mono ?_
   rintro e w2 ⟨rfl,b2⟩
   go_wp2_with fail
   go_ret
   exact ⟨by rw [HV.out];rfl,x1.tr b2⟩
 · have hb:(ckN c == 0)=false:=by simpa using hc
   have HV:=UP (show vfN p c=false from if_neg hc)
   clear hc
   go_wp2_with fail
   go_ret
   exact ⟨by rw [HV.out];rfl,x1⟩
set_option maxHeartbeats 1000000 in
theorem mJ (p:Int) (c:NC) (w:World) (hs:smN c) (E:dN w 0):Calls Tryz.prog 199 #[.int .i64 p,ncV c] w (eL w (.bool (vfN p c))):=by
 have x0:Ext w (w.alloc (.cells #[.string (aH c.st),.int .i64 c.kind,.int .i64 c.num,.int .i64 c.iss,.int .i64 c.own,.int .i64 c.key,.int .i64 c.fr,.int .i64 c.un,.int .i64 c.to,.int .i64 c.e,.int .i64 c.s] 56)):=(Below.refl _ _).alloc (TM _) _
 unfold ncV
 go_enter Tryz.func199,Tryz.ntmps199
 go_wp2_with fail
 refine (pW c _ hs).mono ?_
 rintro e w1 ⟨A,n,cc,rfl,hn,r,b1⟩
 have x1:=x0.tr b1
 have hT:=(bD.new w c).ext b1
 by_cases hc:ckN c=0
 · have HV:=UP (show vfN p c=jT p (dL c) c.e c.s from if_pos hc)
   rw [show byN c=dL c from if_pos hc] at r
   have hlen:=yW c
   rw [show byN c=dL c from if_pos hc] at hlen
   rw [hc]
   clear hc
   obtain ⟨_,_,_,_,_,_,_,_,_,t9,t10⟩:=hT.cells
   have hl:=hT.lt
   go_wp2_with fail
   refine (oE p c.e c.s _ r (by omega) (E.below x1)).mono ?_
   rintro e w2 ⟨rfl,b2⟩
   go_wp2_with fail
   go_ret
   exact ⟨by rw [HV.out];rfl,x1.tr b2⟩
 · have hb:(ckN c == 0)=false:=by simpa using hc
   have HV:=UP (show vfN p c=false from if_neg hc)
   clear hc
   go_wp2_with fail
   go_ret
   exact ⟨by rw [HV.out];rfl,x1⟩
set_option maxHeartbeats 1000000 in
theorem kH (c:NC) (w:World) (hs:smN c) (E:dN w 1):Calls Tryz.prog 122 #[ncV c] w (eL w (.bool (rtN c))):=by
 obtain ⟨wz,hwz,z0,zr⟩:=cB w c
 unfold ncV
 go_enter Tryz.func122,Tryz.ntmps122
 by_cases hk:c.kind=1
 · have HV:=UP (show rtN c=vfN c.key c from if_pos hk)
   have hb:(c.kind == 1)=true:=by simp [hk]
   clear hk
   go_wp2_with fail
   rw [← hwz]
   clear hwz
   obtain ⟨t0,t1,t2,t3,t4,t5,t6,t7,t8,t9,t10⟩:=zr.cells
   have hl:=zr.lt
   go_wp2_with fail
   refine (sG c.key c _ hs (E.below z0)).mono ?_
   rintro e w2 ⟨rfl,b2⟩
   go_wp2_with fail
   go_ret
   exact ⟨by rw [HV.out];rfl,z0.tr b2⟩
 · have hb:(c.kind == 1)=false:=by simpa using hk
   have HV:=UP (show rtN c=false from if_neg hk)
   clear hk
   go_wp2_with fail
   go_ret
   exact ⟨by rw [HV.out];rfl,(Below.refl _ _).alloc (TM _) _⟩
set_option maxHeartbeats 1000000 in
theorem j6 (c:NC) (w:World) (hs:smN c) (E:dN w 0):Calls Tryz.prog 129 #[ncV c] w (eL w (.bool (rtN c))):=by
 obtain ⟨wz,hwz,z0,zr⟩:=cB w c
 unfold ncV
 go_enter Tryz.func129,Tryz.ntmps129
 by_cases hk:c.kind=1
 · have HV:=UP (show rtN c=vfN c.key c from if_pos hk)
   have hb:(c.kind == 1)=true:=by simp [hk]
   clear hk
   go_wp2_with fail
   rw [← hwz]
   clear hwz
   obtain ⟨t0,t1,t2,t3,t4,t5,t6,t7,t8,t9,t10⟩:=zr.cells
   have hl:=zr.lt
   go_wp2_with fail
   refine (mJ c.key c _ hs (E.below z0)).mono ?_
   rintro e w2 ⟨rfl,b2⟩
   go_wp2_with fail
   go_ret
   exact ⟨by rw [HV.out];rfl,z0.tr b2⟩
 · have hb:(c.kind == 1)=false:=by simpa using hk
   have HV:=UP (show rtN c=false from if_neg hk)
   clear hk
   go_wp2_with fail
   go_ret
   exact ⟨by rw [HV.out];rfl,(Below.refl _ _).alloc (TM _) _⟩
end Go.Proofs.YtkjplpmogfmhkaaGreatDoor
