/- Parts FRevocationMade of the proof. -/
import Derived.Test.YtkjplpmogfmhkaaGreatDoorHbo
import Derived.Test.YtkjplpmogfmhkaaGreatDoorHbq
namespace Go.Proofs.YtkjplpmogfmhkaaGreatDoor
open Go.ChangeShapes Go.WideShapes Go.ChangeAt Go.RowKit
set_option linter.unusedVariables false
set_option maxRecDepth 100000 in
set_option maxHeartbeats 2000000 in
theorem revocationMade_lifted (os:Os) (started:os.Started) (H:Type) (enc:TypeId × Value->H) :
 ReturnsInHanded {} Tryz.checked os 13 .any (fun w args=>(Rows.revocationMadeSpec.pre enc Tryz.prog Tryz.f13 [] false w args/\laidMetH Tryz.prog Rows.revocationMadeRow.laid w)/\sizedMet enc Tryz.prog Tryz.f13 (OpenSpec.ofChange Rows.revocationMadeSpec) false w args)
  (Rows.revocationMadeSpec.post enc Tryz.prog Tryz.f13 false true false false):=by
 refine returnsInHanded_of_change_and (C:=Tryz.checked) (X:=fun w _=>laidMetH Tryz.prog Rows.revocationMadeRow.laid w) (fun _ _ _ hh h=>h.of_heap hh) own started (by kernel_rfl) Tryz.func13
  (ChangeSpec.witness_shaped (enc:=enc) (C:=Tryz.checked) (os:=os) (X:=fun w _=>laidMetH Tryz.prog Rows.revocationMadeRow.laid w) false (World.laidAll Tryz.prog os Rows.revocationMadeRow.laid) #[.slice none 0 0,.int .i64 0,.int .i64 0,.int .i64 0,.int .i64 0,.int .i64 0] 8 (World.laidAll_os _ _ _)
    (World.shaped_of_ZipB (by kernel_rfl) (by kernel_rfl)) (by kernel_rfl) (by kernel_rfl) (by kernel_rfl)
    (by rw [MakeChecks.laidMetH_plain _ _ _ (by kernel_rfl)];exact laidMet_laidAll _ (by kernel_rfl) (by kernel_rfl))) ?_
 intro W base args ds gs before hval0 hW _ hsz hL _
 have hval:∀ (j:Nat) t v,Tryz.f13.params[j]?=some t->args[j]?=some v->Value.okWide Tryz.prog W .any base t v:=hval0
 have hW':=hW
 obtain ⟨p,q,hA0,hV,rfl,hfz,hnd⟩:=hW
 have hA:DataW.TrodAll enc Tryz.prog W 0 (fun _=>true) true Tryz.f13.params.toList args.toList ds p:=hA0
 rw [Tryz.params13] at hA hval
 obtain ⟨v0,vs0,d0,ds0,p0,q0,hargs,rfl,rfl,h0,r0⟩:=trodAll_cons hA
 obtain ⟨v1,vs1,d1,ds1,p1,q1,rfl,rfl,rfl,h1,r1⟩:=trodAll_cons r0
 obtain ⟨v2,vs2,d2,ds2,p2,q2,rfl,rfl,rfl,h2,r2⟩:=trodAll_cons r1
 obtain ⟨v3,vs3,d3,ds3,p3,q3,rfl,rfl,rfl,h3,r3⟩:=trodAll_cons r2
 obtain ⟨v4,vs4,d4,ds4,p4,q4,rfl,rfl,rfl,h4,r4⟩:=trodAll_cons r3
 obtain ⟨v5,vs5,d5,ds5,p5,q5,rfl,rfl,rfl,h5,r5⟩:=trodAll_cons r4
 obtain ⟨rfl,rfl,rfl⟩:=trodAll_nil r5
 obtain rfl:args=#[v0,v1,v2,v3,v4,v5]:=by cases args;simp_all
 obtain ⟨rfl,rfl⟩:=trodVars_none hV
 have k0:=h0
 have lt0:∀ x ∈ p0,x.block<W.heap.size:=by obtain ⟨m,hm⟩:=k0;exact DataW.trod_lt m _ _ _ hm
 obtain ⟨l0,hr0,wf0,hn0⟩:=pK Tryz.underlying41 Tryz.underlying3 (by kernel_rfl) (hval 0 41 v0 rfl rfl) h0
 obtain ⟨a1,rfl,rfl,rfl,w1⟩:=open_int Tryz.underlying3 (hval 1 3 v1 rfl rfl) h1
 obtain ⟨a2,rfl,rfl,rfl,w2⟩:=open_int Tryz.underlying3 (hval 2 3 v2 rfl rfl) h2
 obtain ⟨a3,rfl,rfl,rfl,w3⟩:=open_int Tryz.underlying3 (hval 3 3 v3 rfl rfl) h3
 obtain ⟨a4,rfl,rfl,rfl,w4⟩:=open_int Tryz.underlying3 (hval 4 3 v4 rfl rfl) h4
 obtain ⟨a5,rfl,rfl,rfl,w5⟩:=open_int Tryz.underlying3 (hval 5 3 v5 rfl rfl) h5
 clear hA0 hval0
 refine (JG a1 a2 a3 a4 a5 W hr0 (fun x hx=>nT (wf0 x hx)) (nT w1) (nT w2) (nT w3) (nT w4) (nT w5) ⟨(qD hL).1,(qD hL).2⟩).mono fun e W' ⟨he,bel⟩=>?_
 subst he
 exact ⟨_,rfl,_,_,_,[],_,[],hW',trodAll_mk1 (shut_bool Tryz.underlying4 _),(trodAll_cons_mk (Below.trod qC (by kernel_rfl) (of_decide_eq_true (by kernel_rfl)) k0 bel lt0) (trodAll_cons_mk (shut_int Tryz.underlying3 w1) (trodAll_cons_mk (shut_int Tryz.underlying3 w2) (trodAll_cons_mk (shut_int Tryz.underlying3 w3) (trodAll_cons_mk (shut_int Tryz.underlying3 w4) (trodAll_cons_mk (shut_int Tryz.underlying3 w5) trodAll_mk0)))))),rfl,bel.frame _,fun h=>by cases h⟩
theorem revocationMade_joined:joinedFacts Tryz.prog 13 Tryz.f13 Rows.revocationMadeSpec Rows.revocationMadeRow=true:=by
 unfold joinedFacts
 rw [DM,DL,K5,qC]
 kernel_rfl
theorem revocationMade_holds:Rows.RevocationMadeSaid :=
 OpenClaim.holds_of_wide 13 Tryz.f13 rfl rfl rfl rfl rfl rfl rfl ⟨rfl,rfl,rfl,rfl,rfl⟩ rfl rfl rfl rfl rfl (by kernel_rfl) Tryz.func13 revocationMade_joined
  (of_decide_eq_true (by kernel_rfl)) (by unfold Func.isWrapper;first | (rw [if_pos (by decide +kernel)];kernel_rfl) | (rw [if_neg (by decide +kernel)];exact ⟨rfl,rfl⟩))
  (fun os started H enc _=>revocationMade_lifted os started H enc)
theorem revocationMade_text:Rows.revocationMadeRow.wfByText (OpenSpec.ofChange Rows.revocationMadeSpec)=true:=by kernel_rfl
theorem revocationMade_goes:false=Rows.revocationMadeRow.goesBy Tryz.prog:=by kernel_rfl
theorem revocationMade_named:Tryz.prog.funcNamed Rows.revocationMadeRow.func=some 13:=by kernel_rfl
theorem revocationMade_card:Rows.RevocationMadeCardSaid :=
 Claim7.holds_tied_plain_at .later [] [.data,.data] true (true,"07a759e40ac142b4789776145dc868c2d160bcdc4b39349f72cd2f283967feb4") false
  revocationMade_holds (fun _ h=>by cases h) revocationMade_text (fun _ h=>by cases h) revocationMade_row_tie rfl ⟨rfl,rfl⟩ K4 rfl
  (fun f fn hf hfn=>by
    obtain rfl:f=13:=Option.some.inj (revocationMade_named.symm.trans hf) |>.symm
    obtain rfl:fn=Tryz.f13:=(Option.some.inj (Tryz.func13.symm.trans hfn)).symm
    exact ⟨DN,fun j t ht=>by
     rw [Tryz.params13] at ht
     have hm:t ∈ [41,3,3,3,3,3]:=by simpa using Array.mem_of_getElem? ht
     have hall:([41,3,3,3,3,3].all fun u=>!Tryz.prog.wantsStandIn u)=true:=by kernel_rfl
     exact (show Tryz.prog.wantsStandIn t=false by simpa using List.all_eq_true.1 hall t hm)⟩)
  revocationMade_goes
end Go.Proofs.YtkjplpmogfmhkaaGreatDoor
