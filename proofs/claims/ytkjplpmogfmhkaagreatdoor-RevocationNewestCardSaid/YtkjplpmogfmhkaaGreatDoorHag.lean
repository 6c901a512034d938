/- Parts B Wd1 Wd2 of the proof. -/
import Derived.Test.YtkjplpmogfmhkaaGreatDoorProg
import Derived.Test.YtkjplpmogfmhkaaGreatDoorHaa
import Derived.BigQuiet
import Derived.WalkSpells
namespace Go.Proofs.YtkjplpmogfmhkaaGreatDoor
open Go.RowKit
set_option linter.unusedVariables false
theorem NW:LC Tryz.prog 89 5 1:=by
 have h:(Tryz.prog.info? 5).map (fun i=>(i.zero,i.size,i.bytes))=some (some (.int .u8 0),1,1):=by kernel_rfl
 obtain ⟨i,h1,h2,h3,h4⟩:=info_parts h
 exact ⟨i,_,Tryz.underlying89,h1,h2,h3,h4,rfl⟩
theorem yS {n:Nat} (h:n<=140737488355328):n<=maxLen:=by unfold maxLen;omega
section
variable {ops:Array Oper}{rest:List Oper}{o:Oper}{a:Act}{Q:Exit->Act->World->Prop}{w w0:World}
theorem jR {B:Nat}{v src:Value}{xs ys:List UInt8} (hown:Own w B 5 v (bvs xs)) (hr:Rd w src (bvs ys)) (hbel:Below B w0 w) (hb:xs.length+ys.length<=140737488355328) (hB:B<=w.heap.size)
 {s x:Operand} (hgd:o.guard=none) (ho:o.op=.call { callee:=.builtin .append,args:=#[s,x],argTypes:=#[89,89] }) (hs:a.eval s=v) (hx:a.eval x=src)
 (h:∀ A n c w',Hid (n=xs.length+ys.length)->Own w' B 5 (.slice A n c) (bvs (xs++ys))->Below B w0 w'->w.grownBy w' (aO v)->wpList Tryz.prog ops Q rest (a.put o.dst (.slice A n c)) w'):wpList Tryz.prog ops Q (o::rest) a w :=
 gM NW hown hr (JP _) hbel (by simpa [bK] using hb) (yS (by simpa [bK] using hb)) hB hgd ho hs hx (by
  intro A c w' h1 h2 h3
  simp only [bK,pC] at h1 ⊢
  exact h A _ c w' (show _=_ from rfl) h1 h2 h3)
theorem UZ {B:Nat}{A0:Option Addr}{src:Value}{ys:List UInt8} (hr:Rd w src (bvs ys)) (hbel:Below B w0 w) (hb:ys.length<=140737488355328) (hB:B<=w.heap.size)
 {s x:Operand} (hgd:o.guard=none) (ho:o.op=.call { callee:=.builtin .append,args:=#[s,x],argTypes:=#[89,89] }) (hs:a.eval s=.slice A0 0 0) (hx:a.eval x=src)
 (h:∀ A n c w',Hid (n=ys.length)->Own w' B 5 (.slice A n c) (bvs ys)->Below B w0 w'->w.grownBy w' none->wpList Tryz.prog ops Q rest (a.put o.dst (.slice A n c)) w'):wpList Tryz.prog ops Q (o::rest) a w :=
 jR (xs:=[]) (Own.empty w B _ A0) hr hbel (by simpa using hb) hB hgd ho hs hx (by
  intro A n c w' hn h1 h2 h3
  simp only [ZA] at h1
  refine h A n c w' (show _=_ by have:=hn.out;simpa using this) h1 h2 ?_
  cases A0 <;> exact h3)
end
theorem AG (w:World) (B:Nat):Own w B 5 (.slice none 0 0) (bvs []):=Own.nil_ _ _ _
theorem Rd.one (w:World) (x:UInt8):Rd (w.alloc (.cells #[.int .u8 (x.toNat:Int)] 5)) (.slice (some ⟨w.heap.size,0,none⟩) 1 1) (bvs [x]):=Rd.lit w _ _ 1 rfl (by unfold maxLen;omega)
theorem Rd.oneZ (w:World) (z:Int):Rd (w.alloc (.cells #[.int .u8 (z % 256)] 5)) (.slice (some ⟨w.heap.size,0,none⟩) 1 1) (bvs [u8 z]):=by rw [<- eV];exact Rd.one w _
theorem mO (x:Int) (w:World) :
 Calls Tryz.prog 281 #[.int .u32 x] w (gC w (be4 x)):=by
 go_enter Tryz.func281,Tryz.ntmps281
 go_wp2
 go_ret
 refine ⟨_,_,_,rfl,(show _=_ from rfl),?_,(Below.refl _ _).alloc (YF _) _⟩
 rw [uE]
 exact Own.lit w _ _ 4 rfl (by unfold maxLen;omega)
theorem mP (x:Int) (w:World) :
 Calls Tryz.prog 222 #[.int .i64 x] w (gC w (be4 x)):=by
 go_enter Tryz.func222,Tryz.ntmps222
 go_wp2
 go_ret
 refine ⟨_,_,_,rfl,(show _=_ from rfl),?_,(Below.refl _ _).alloc (YF _) _⟩
 rw [uE]
 exact Own.lit w _ _ 4 rfl (by unfold maxLen;omega)
theorem LI {b:Value}{xs:List UInt8} (w:World) (hb:Rd w b (bvs xs)) (h47:xs.length<=140737488355328) :
 Calls Tryz.prog 288 #[b] w (gC w xs):=by
 have hb0:=hb
 obtain ⟨A,n,c,rfl,hn,hnc,hcm,hA⟩:=hb.bytes
 subst hn
 have q:=fun (w:World) (A:Option Addr) (n c:Nat)=>Lib.run_eql_slice_nil (P:=Tryz.prog) w 89 5 A n c 0 0 Tryz.underlying89
 cases A with
 | none =>
   have:xs=[]:=by
    cases xs with
    | nil=>rfl
    | cons x xs=>obtain ⟨b,o,h,_,_⟩:=hA (by simp);cases h
   subst this
   clear hA hb0 hb
   go_enter Tryz.func288,Tryz.ntmps288
   go_wp2
   go_ret
   exact ⟨none,0,0,rfl,(show _=_ from rfl),Own.nil_ _ _ _,Below.refl _ _⟩
 | some ad =>
   clear hA
   go_enter Tryz.func288,Tryz.ntmps288
   go_wp2_with (refine UZ (B:=w.heap.size) (hb0.ext ((Below.refl _ _).alloc (YF _) _)) ((Below.refl _ w).alloc (YF _) _) h47 (by simp) rfl rfl rfl rfl ?_;intro A1 n1 c1 w1 hn1 o1 b1 g1)
   go_ret
   exact ⟨_,_,_,rfl,hn1,o1,b1⟩
theorem uZ {a b:Value}{xs ys:List UInt8} (w:World) (ha:Rd w a (bvs xs)) (hb:Rd w b (bvs ys)) (h47:xs.length+ys.length<=140737488355328) :
 Calls Tryz.prog 221 #[a,b] w (gC w (xs++ys)):=by
 have ha0:=ha
 have hb0:=hb
 obtain ⟨A,n,c,rfl,hn,hnc,hcm,hA⟩:=ha.bytes
 obtain ⟨A2,n2,c2,rfl,hn2,hnc2,hcm2,hB⟩:=hb.bytes
 subst hn hn2
 clear hA hB
 go_enter Tryz.func221,Tryz.ntmps221
 go_wp2_with (first
  | (refine UZ ha0 (Below.refl _ w) (by omega) (YF _) rfl rfl rfl rfl ?_;intro A1 n1 c1 w1 hn1 o1 b1 g1)
  | (refine jR o1 (hb0.below b1) b1 h47 b1.size rfl rfl rfl rfl ?_;intro A2 n2 c2 w2 hn2 o2 b2 g2))
 go_ret
 exact ⟨_,_,_,rfl,(show _=_ by rw [YJ];exact hn2.out),o2,b2⟩
theorem FX {b:Value}{l:List UInt8} (w:World) (hb:Rd w b (bvs l)) (h47:l.length<=140737488353000) :
 Calls Tryz.prog 267 #[b] w (gC w (pad l)):=by
 have hb0:=hb
 obtain ⟨A,n,c,rfl,hn,hnc,hcm,hA⟩:=hb.bytes
 subst hn
 clear hA
 go_enter Tryz.func267,Tryz.ntmps267
 go_wp2_with (first
  | (refine UZ hb0 (Below.refl _ w) (by omega) (YF _) rfl rfl rfl rfl ?_;intro A1 n1 c1 w1 hn1 o1 b1 g1)
  | (refine jR (o1.ext (Below.alloc (Below.refl _ _) (YF _) _)) (Rd.one w1 128) (b1.alloc b1.size _) (by simp;omega) (by have:=b1.size;simp;omega) rfl rfl rfl rfl ?_;intro A2 n2 c2 w2 hn2 o2 b2 g2))
 clear g1 g2 o1 b1 hn1
 have hm8:8*(l.length:Int)<=1125899906842624:=by omega
 go_loopw [3] (fun v wr=>∃ k A n c,k<=kH l.length/\n=l.length+1+k/\v=.slice A n c/\Own wr w.heap.size 5 (.slice A n c) (bvs (l++[128]++List.replicate k 0))/\Below w.heap.size w wr)
  (fun v _=>l.length+64 - RI v)
 case atStart=>exact ⟨0,A2,_,c2,YK _,by have:=hn2.out;simpa using this,rfl,by simpa using o2,b2⟩
 case round =>
  obtain ⟨k,A3,n3,c3,hk,hn3,rfl,o3,b3⟩:=hrel
  have hz:=pR l.length
  have hn3b:n3<=l.length+64:=by omega
  by_cases hlt:k=kH l.length
  · have hm:((n3:Int) % 64 != 56)=false:=by
     have:=(nW hk).2 hlt
     simp;omega
    subst hlt
    have HN:=ZH hn3
    clear hn3 hn2 o2 b2
    go_wp2
    obtain ⟨p,hp⟩:∃ p,p=l++[128]++List.replicate (kH l.length) 0:=⟨_,rfl⟩
    rw [<- hp] at o3
    have HP:=ZH hp
    clear hp
    have hpl:p.length<=l.length+64:=by rw [HP.out];simp;omega
    go_loopw [3,5] (fun v i wr=>∃ k A n c,k<=8/\n=p.length+k/\v=.slice A n c/\i=.int .i64 (7 - (k:Int))/\Own wr w.heap.size 5 (.slice A n c) (bvs (p++(be8 (8*(l.length:Int))).take k))/\Below w.heap.size w wr)
     (fun _ i _=>(intOf i+1).toNat)
    case atStart=>exact ⟨0,A3,_,c3,YK _,by rw [HP.out];have:=HN.out;simp;omega,rfl,by simp,by simpa using o3,b3⟩
    case round =>
     obtain ⟨k,A4,n4,c4,hk8,hn4,rfl,rfl,o4,b4⟩:=hrel
     by_cases h8:k<8
     · have HN4:=ZH hn4
       clear hn4
       go_wp2_with (refine jR (o4.ext (Below.alloc (Below.refl _ _) (YF _) _)) (Rd.oneZ _ _) (b4.alloc b4.size _) (by have:=HN4.out;simp;omega) (by have:=b4.size;simp;omega) rfl rfl rfl rfl ?_;intro A5 n5 c5 w5 hn5 o5 b5 g5)
       go_roundw
       case rel=>exact ⟨k+1,A5,_,c5,by omega,by have h1:=hn5.out;have h2:=HN4.out;simp [lR] at h1;omega,rfl,by go_num,by rw [NL _ h8,<- YW];exact o5,b5⟩
       case measure=>simp [intOf];omega
     · obtain rfl:k=8:=by omega
       go_wp2
       go_ret
       refine ⟨_,_,_,rfl,(show _=_ by rw [jM,hn4,HP.out];simp;omega),?_,b4⟩
       have e:pad l=p++(be8 (8*(l.length:Int))).take 8:=by rw [HP.out,List.take_of_length_le (by rw [lR];omega)];rfl
       rw [e];exact o4
  · have hm:((n3:Int) % 64 != 56)=true:=by
     have:=nW hk
     simp;omega
    have HN:=ZH hn3
    clear hn3
    go_wp2_with (refine jR (o3.ext (Below.alloc (Below.refl _ _) (YF _) _)) (Rd.one _ 0) (b3.alloc b3.size _) (by simp;omega) (by have:=b3.size;simp;omega) rfl rfl rfl rfl ?_;intro A4 n4 c4 w4 hn4 o4 b4 g4)
    go_roundw
    case rel=>exact ⟨k+1,A4,_,c4,by omega,by have:=hn4.out;simp at this;omega,rfl,by rw [<- CJ];exact o4,b4⟩
    case measure=>have:=hn4.out;have:=HN.out;simp at *;simp [RI];omega
theorem FY {b:Value}{l:List UInt8} (w:World) (hb:Rd w b (bvs l)) (h47:l.length<=140737488353000) :
 Calls Tryz.prog 279 #[b] w (gC w (pad l)):=by
 have hb0:=hb
 obtain ⟨A,n,c,rfl,hn,hnc,hcm,hA⟩:=hb.bytes
 subst hn
 clear hA
 go_enter Tryz.func279,Tryz.ntmps279
 go_wp2_with (first
  | (go_at_call 288;refine (LI _ hb0 (by omega)).mono ?_;rintro e w1 ⟨A1,n1,c1,rfl,hn1,o1,b1⟩)
  | (refine jR (o1.ext (Below.alloc (Below.refl _ _) (YF _) _)) (Rd.one w1 128) (b1.alloc b1.size _) (by simp;omega) (by have:=b1.size;simp;omega) rfl rfl rfl rfl ?_;intro A2 n2 c2 w2 hn2 o2 b2 g2))
 clear g2 o1 b1 hn1
 have hm8:8*(l.length:Int)<=1125899906842624:=by omega
 go_loopw [3] (fun v wr=>∃ k A n c,k<=kH l.length/\n=l.length+1+k/\v=.slice A n c/\Own wr w.heap.size 5 (.slice A n c) (bvs (l++[128]++List.replicate k 0))/\Below w.heap.size w wr)
  (fun v _=>l.length+64 - RI v)
 case atStart=>exact ⟨0,A2,_,c2,YK _,by have:=hn2.out;simpa using this,rfl,by simpa using o2,b2⟩
 case round =>
  obtain ⟨k,A3,n3,c3,hk,hn3,rfl,o3,b3⟩:=hrel
  have hz:=pR l.length
  have hn3b:n3<=l.length+64:=by omega
  by_cases hlt:k=kH l.length
  · have hm:((n3:Int) % 64 != 56)=false:=by
     have:=(nW hk).2 hlt
     simp;omega
    subst hlt
    have HN:=ZH hn3
    clear hn3 hn2 o2 b2
    obtain ⟨p,hp⟩:∃ p,p=l++[128]++List.replicate (kH l.length) 0:=⟨_,rfl⟩
    rw [<- hp] at o3
    have HP:=ZH hp
    clear hp
    have hpl:p.length<=l.length+64:=by rw [HP.out];simp;omega
    go_wp2_with (first
     | (go_at_call 281;(with_reducible refine (mO (8*(l.length:Int) / 4294967296) _).mono ?_);rintro e w4 ⟨A4,n4,c4,rfl,hn4,o4,b4⟩)
     | (go_at_call 281;(with_reducible refine (mO (8*(l.length:Int) % 4294967296) _).mono ?_);rintro e w6 ⟨A6,n6,c6,rfl,hn6,o6,b6⟩)
     | (refine jR (o3.ext b4) o4.rd (b3.trans (b4.mono b3.size)) (by simp [be4];omega) (by have:=b3.size;have:=b4.size;omega) rfl rfl rfl rfl ?_;intro A5 n5 c5 w5 hn5 o5 b5 g5)
     | (refine jR (o5.ext b6) o6.rd (b5.trans (b6.mono b5.size)) (by simp [be4];omega) (by have:=b5.size;have:=b6.size;omega) rfl rfl rfl rfl ?_;intro A7 n7 c7 w7 hn7 o7 b7 g7))
    go_ret
    have e:pad l=p++be4 (8*(l.length:Int) / 4294967296)++be4 (8*(l.length:Int) % 4294967296):=by
     rw [YW,RK,HP.out];rfl
    refine ⟨_,_,_,rfl,(show _=_ by rw [hn7.out,e];exact List.length_append.symm),?_,b7⟩
    rw [e];exact o7
  · have hm:((n3:Int) % 64 != 56)=true:=by
     have:=nW hk
     simp;omega
    have HN:=ZH hn3
    clear hn3
    go_wp2_with (refine jR (o3.ext (Below.alloc (Below.refl _ _) (YF _) _)) (Rd.one _ 0) (b3.alloc b3.size _) (by simp;omega) (by have:=b3.size;simp;omega) rfl rfl rfl rfl ?_;intro A4 n4 c4 w4 hn4 o4 b4 g4)
    go_roundw
    case rel=>exact ⟨k+1,A4,_,c4,by omega,by have:=hn4.out;simp at this;omega,rfl,by rw [<- CJ];exact o4,b4⟩
    case measure=>have:=hn4.out;have:=HN.out;simp at *;simp [RI];omega
end Go.Proofs.YtkjplpmogfmhkaaGreatDoor
