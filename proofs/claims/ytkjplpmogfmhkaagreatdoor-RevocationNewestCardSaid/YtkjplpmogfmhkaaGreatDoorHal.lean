/- Parts Wd3 Wd5 Ev of the proof. -/
import Derived.Test.YtkjplpmogfmhkaaGreatDoorHag
import Derived.Test.YtkjplpmogfmhkaaGreatDoorHad
namespace Go.Proofs.YtkjplpmogfmhkaaGreatDoor
open Go.RowKit
set_option linter.unusedVariables false
theorem jW (x n:Int) (h0:0<=n) (h1:n<=32) (w:World) :
 Calls Tryz.prog 283 #[.int .u32 x,.int .u64 n] w fun e w'=>e=.returned (.int .u32 (mD x n))/\w'=w:=by
 go_enter Tryz.func283,Tryz.ntmps283
 go_wp2
 go_ret
 exact ⟨rfl,rfl⟩
def WQ (w:World) (l:List Int) (e:Ending) (w':World):Prop :=
 ∃ A n c,e=.returned (.slice A n c)/\n=l.length/\RdI w' .u32 (.slice A n c) l/\Ext w w'
theorem AJ (w:World):Calls Tryz.prog 268 #[] w (WQ w rM):=by
 go_enter Tryz.func268,Tryz.ntmps268
 go_wp2
 go_ret
 exact ⟨_,_,_,rfl,rfl,Rd.lit _ _ _ 8 rfl (by unfold maxLen;omega),(Below.refl _ _).alloc (YF _) _⟩
theorem AK (w:World):Calls Tryz.prog 277 #[] w (WQ w rM):=by
 go_enter Tryz.func277,Tryz.ntmps277
 go_wp2
 go_ret
 exact ⟨_,_,_,rfl,rfl,Rd.lit _ _ _ 8 rfl (by unfold maxLen;omega),(Below.refl _ _).alloc (YF _) _⟩
theorem OC {b:Value}{l:List UInt8} (w:World) (hb:Rd w b (bvs l)) (h4:4<=l.length) :
 Calls Tryz.prog 291 #[b] w fun e w'=>e=.returned (.int .u32 (rJ l 0))/\∃ n,w'=w.drewN n:=by
 obtain ⟨A,n,c,rfl,hn,hnc,hcm,hA⟩:=hb.bytes
 obtain ⟨b,o,rfl,_,hc⟩:=hA (by omega)
 have c0:=hc 0 (by omega)
 have c1:=hc 1 (by omega)
 have c2:=hc 2 (by omega)
 have c3:=hc 3 (by omega)
 have b0:=dH l 0
 have b1:=dH l 1
 have b2:=dH l 2
 have b3:=dH l 3
 have d0:=dI l 0
 have d1:=dI l 1
 have d2:=dI l 2
 have d3:=dI l 3
 have k0:0<n:=by omega
 rw [Nat.add_zero] at c0
 have k1:(1:Int)<n:=by omega
 have k2:(2:Int)<n:=by omega
 have k3:(3:Int)<n:=by omega
 clear hc hA hn hb
 go_enter Tryz.func291,Tryz.ntmps291
 go_wp2
 go_quiet (fail)
 go_wp2
 go_ret
 exact ⟨rfl,nq,rfl⟩
def dS (w:World) (g:Nat):Prop:=∀ t,t<64->w.cell? ⟨g,t,none⟩=some (.int .u32 (kAt t))
theorem dS.lt {w:World}{g:Nat} (h:dS w g):g<w.heap.size:=World.block_lt_of_cell? w _ (h 0 (by omega))
theorem dS.below {w w':World}{g:Nat} (h:dS w g) (hb:Below w.heap.size w w'):dS w' g:=fun t ht=>(hb.cell (p:=⟨g,t,none⟩) h.lt).trans (h t ht)
def WR (w:World) (l:List Int) (e:Ending) (w':World):Prop :=
 ∃ A c,e=.returned (.tuple #[.slice A 8 c,.int .i64 0])/\RdI w' .u32 (.slice A 8 c) l/\Ext w w'
theorem kK (a:Nat) (ha:a<4294967296):(BitVec.ofInt 32 (a:Int)).toNat=a:=by
 rw [BitVec.ofInt_natCast,BitVec.toNat_ofNat];exact Nat.mod_eq_of_lt (by omega)
theorem pI (a b:Nat) (ha:a<4294967296) (hb:b<4294967296):bits .or .u32 (a:Int) (b:Int)=((a ||| b:Nat):Int):=by
 have hx:a ||| b<2 ^ 32:=Nat.or_lt_two_pow (by omega) (by omega)
 show IntKind.u32.wrap ((BitVec.ofInt 32 (a:Int) ||| BitVec.ofInt 32 (b:Int)).toNat:Int)=_
 rw [BitVec.toNat_or,kK a ha,kK b hb,IntKind.wrap_u32]
 omega
theorem D9 (a b:Nat) (ha:a<4294967296) (hb:b<4294967296):bits .xor .u32 (a:Int) (b:Int)=((a ^^^ b:Nat):Int):=by
 have hx:a ^^^ b<2 ^ 32:=Nat.xor_lt_two_pow (by omega) (by omega)
 show IntKind.u32.wrap ((BitVec.ofInt 32 (a:Int) ^^^ BitVec.ofInt 32 (b:Int)).toNat:Int)=_
 rw [BitVec.toNat_xor,kK a ha,kK b hb,IntKind.wrap_u32]
 omega
def U32 (x:Int):Prop:=0<=x/\x<4294967296
theorem U32.nat {x:Int} (h:U32 x):∃ n:Nat,x=n/\n<4294967296:=⟨x.toNat,by have:=h.1;omega,by have:=h.1;have:=h.2;omega⟩
theorem AM {a b:Int} (ha:U32 a) (hb:U32 b):U32 (bits .or .u32 a b):=by
 obtain ⟨m,rfl,hm⟩:=ha.nat
 obtain ⟨n,rfl,hn⟩:=hb.nat
 rw [pI m n hm hn]
 have:m ||| n<2 ^ 32:=Nat.or_lt_two_pow (by omega) (by omega)
 exact ⟨by omega,by omega⟩
theorem LT {a b:Int} (ha:U32 a) (hb:U32 b):bits .or .u32 a b=bits .or .u32 b a:=by
 obtain ⟨m,rfl,hm⟩:=ha.nat
 obtain ⟨n,rfl,hn⟩:=hb.nat
 rw [pI m n hm hn,pI n m hn hm,Nat.or_comm]
theorem vI {a:Int} (ha:U32 a):bits .xor .u32 0 a=a:=by
 obtain ⟨m,rfl,hm⟩:=ha.nat
 have:=D9 0 m (by omega) hm
 simpa using this
theorem JV {x:Int} (h:U32 x) (n:Nat):U32 (x / 2 ^ n):=by
 obtain ⟨m,rfl,hm⟩:=h.nat
 have e:((m:Int) / 2 ^ n)=((m / 2 ^ n:Nat):Int):=by simp
 have:=Nat.div_le_self m (2 ^ n)
 rw [e]
 generalize m / 2 ^ n=q at *
 exact ⟨by omega,by omega⟩
theorem DA {x n:Int} (h:U32 x):U32 (mD x n):=AM (JV h _) ⟨by omega,by omega⟩
theorem lA {x n:Int} (h:U32 x):bits .or .u32 (x*2 ^ (32 - n).toNat % 4294967296) (x / 2 ^ n.toNat)=mD x n:=LT ⟨by omega,by omega⟩ (JV h _)
def rW (x:Int) (ns:List Int):Int:=ns.foldl (fun acc n=>bits .xor .u32 acc (bits .or .u32 (x*2 ^ (32 - n).toNat % 4294967296) (x / 2 ^ n.toNat))) 0
theorem DB {x:Int} (h:U32 x) (m n:Int):rW x [m,n]=bits .xor .u32 (mD x m) (mD x n):=by
 simp only [rW,List.foldl_cons,List.foldl_nil]
 rw [lA h,lA h,vI (DA (n:=m) h)]
theorem vJ {x:Int} (h:U32 x) (m n k:Int):rW x [m,n,k]=bits .xor .u32 (bits .xor .u32 (mD x m) (mD x n)) (mD x k):=by
 simp only [rW,List.foldl_cons,List.foldl_nil]
 rw [lA h,lA h,lA h,vI (DA (n:=m) h)]
theorem WS (n:Int) (h0:1<=n) (h1:n<=31):bits .and .u64 (IntKind.u64.wrap (-n)) 31=32 - n:=by
 have key:∀ k:Fin 31,bits .and .u64 (IntKind.u64.wrap (-((k.val:Int)+1))) 31=32 - ((k.val:Int)+1):=by decide
 have:=key ⟨(n - 1).toNat,by omega⟩
 have e:(((n - 1).toNat:Nat):Int)+1=n:=by omega
 simp only [e] at this
 exact this
theorem OD (x n:Int) (h0:1<=n) (h1:n<=31) (w:World) :
 Calls Tryz.prog 290 #[.int .u32 x,.int .i64 (-n)] w fun e w'=>e=.returned (.int .u32 (bits .or .u32 (x*2 ^ (32 - n).toNat % 4294967296) (x / 2 ^ n.toNat)))/\w'=w:=by
 have ha:=WS n h0 h1
 have hb:(32:Int) - (32 - n)=n:=by omega
 go_enter Tryz.func290,Tryz.ntmps290
 go_wp2
 go_ret
 exact ⟨rfl,rfl⟩
theorem uI {v:Value}{ns:List Int} (x:Int) (w:World) (hv:RdI w .i64 v ns) (hn:∀ n ∈ ns,1<=n/\n<=31) :
 Calls Tryz.prog 289 #[.int .u32 x,v] w fun e w'=>e=.returned (.int .u32 (rW x ns))/\w'=w:=by
 obtain ⟨A,n,c,rfl,hl,hnc,hcm,hA⟩:=hv.ints
 unfold maxLen at hcm
 have HL:=ZH hl
 clear hl hv
 go_enter Tryz.func289,Tryz.ntmps289
 go_wp2
 go_loop [5,10] (fun v i=>∃ k:Nat,k<=n/\i=.int .i64 k/\v=.int .u32 (rW x (ns.take k))) (fun _ i=>n - (intOf i).toNat)
 case atStart=>exact ⟨0,by omega,rfl,rfl⟩
 case round =>
  obtain ⟨k,hk,rfl,rfl⟩:=hrel
  by_cases hlt:k<n
  · obtain ⟨b,o,rfl,_,hc⟩:=hA (by omega)
    have c0:=hc k hlt
    have hkn:k<ns.length:=by rw [<- HL.out];exact hlt
    have hb:=hn (ns.getD k 0) (by simp [List.getD_eq_getElem?_getD,hkn])
    obtain ⟨m,hm⟩:∃ m,m=ns.getD k 0:=⟨_,rfl⟩
    rw [<- hm] at c0 hb
    have hstep:rW x (ns.take (k+1))=bits .xor .u32 (rW x (ns.take k)) (bits .or .u32 (x*2 ^ (32 - m).toNat % 4294967296) (x / 2 ^ m.toNat)):=by
     have hm':m=ns[k]:=by rw [hm];simp [List.getD_eq_getElem?_getD,hkn]
     unfold rW
     rw [List.take_succ_eq_append_getElem hkn,List.foldl_append,<- hm']
     rfl
    have HS:=ZH hstep
    clear hstep hm hkn hc hA hn
    obtain ⟨hb0,hb1⟩:=hb
    have wi1:IntKind.i64.wrap ((k:Int))=(k:Int):=IntWalk.i64_in _ (by omega)
    have zi1:(0:Int)<=(k:Int):=by omega
    have li1:(k:Int)<n:=by omega
    have ti1:((k:Int)).toNat=k:=by omega
    go_wp2_with (go_at_call 290;refine (OD _ _ hb0 hb1 _).mono ?_;rintro e w' ⟨rfl,rfl⟩)
    go_round
    case rel=>exact ⟨k+1,by omega,by go_num,by rw [HS.out]⟩
    case measure=>simp [intOf];omega
  · obtain rfl:k=n:=by omega
    go_wp2
    go_ret
    have hfin:ns.take k=ns:=List.take_of_length_le (by rw [HL.out];exact YF _)
    exact ⟨by rw [hfin];rfl,rfl⟩
structure Env (w:World):Prop where
 d:dS w 1
 r:dS w 0
theorem Env.ext {w w':World} (h:Env w) (b:Ext w w'):Env w':=⟨h.d.below b,h.r.below b⟩
end Go.Proofs.YtkjplpmogfmhkaaGreatDoor
