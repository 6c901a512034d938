/- Parts FRevocationNewest of the proof. -/
import Derived.Test.YtkjplpmogfmhkaaGreatDoorHbp
import Derived.Test.YtkjplpmogfmhkaaGreatDoorHbq
namespace Go.Proofs.YtkjplpmogfmhkaaGreatDoor
open Go.ChangeShapes Go.WideShapes Go.ChangeAt Go.RowKit
set_option linter.unusedVariables false
set_option maxRecDepth 100000 in
set_option maxHeartbeats 2000000 in
theorem revocationNewest_lifted (os:Os) (started:os.Started) (H:Type) (enc:TypeId × Value->H) :
 ReturnsInHanded {} Tryz.checked os 14 .any (fun w args=>(Rows.revocationNewestSpec.pre enc Tryz.prog Tryz.f14 [] false w args/\laidMetH Tryz.prog Rows.revocationNewestRow.laid w)/\sizedMet enc Tryz.prog Tryz.f14 (OpenSpec.ofChange Rows.revocationNewestSpec) false w args)
  (Rows.revocationNewestSpec.post enc Tryz.prog Tryz.f14 false true false false):=by
 refine returnsInHanded_of_change_and (C:=Tryz.checked) (X:=fun w _=>laidMetH Tryz.prog Rows.revocationNewestRow.laid w) (fun _ _ _ hh h=>h.of_heap hh) own started (by kernel_rfl) Tryz.func14
  (ChangeSpec.witness_shaped (enc:=enc) (C:=Tryz.checked) (os:=os) (X:=fun w _=>laidMetH Tryz.prog Rows.revocationNewestRow.laid w) false (World.laidAll Tryz.prog os Rows.revocationNewestRow.laid) #[.slice none 0 0,.slice none 0 0] 8 (World.laidAll_os _ _ _)
    (World.shaped_of_ZipB (by kernel_rfl) (by kernel_rfl)) (by kernel_rfl) (by kernel_rfl) (by kernel_rfl)
    (by rw [MakeChecks.laidMetH_plain _ _ _ (by kernel_rfl)];exact laidMet_laidAll _ (by kernel_rfl) (by kernel_rfl))) ?_
 intro W base args ds gs before hval0 hW _ hsz hL _
 have hval:∀ (j:Nat) t v,Tryz.f14.params[j]?=some t->args[j]?=some v->Value.okWide Tryz.prog W .any base t v:=hval0
 have hW':=hW
 obtain ⟨p,q,hA0,hV,rfl,hfz,hnd⟩:=hW
 have hA:DataW.TrodAll enc Tryz.prog W 0 (fun _=>true) true Tryz.f14.params.toList args.toList ds p:=hA0
 rw [Tryz.params14] at hA hval
 obtain ⟨v0,vs0,d0,ds0,p0,q0,hargs,rfl,rfl,h0,r0⟩:=trodAll_cons hA
 obtain ⟨v1,vs1,d1,ds1,p1,q1,rfl,rfl,rfl,h1,r1⟩:=trodAll_cons r0
 obtain ⟨rfl,rfl,rfl⟩:=trodAll_nil r1
 obtain rfl:args=#[v0,v1]:=by cases args;simp_all
 obtain ⟨rfl,rfl⟩:=trodVars_none hV
 have k0:=h0
 have lt0:∀ x ∈ p0,x.block<W.heap.size:=by obtain ⟨m,hm⟩:=k0;exact DataW.trod_lt m _ _ _ hm
 obtain ⟨l0,hr0,wf0,hn0⟩:=pK Tryz.underlying41 Tryz.underlying3 (by kernel_rfl) (hval 0 41 v0 rfl rfl) h0
 have k1:=h1
 have lt1:∀ x ∈ p1,x.block<W.heap.size:=by obtain ⟨m,hm⟩:=k1;exact DataW.trod_lt m _ _ _ hm
 obtain ⟨l1,hr1,wf1,hn1⟩:=pK Tryz.underlying41 Tryz.underlying3 (by kernel_rfl) (hval 1 41 v1 rfl rfl) h1
 clear hA0 hval0
 refine (CI W hr0 (fun x hx=>nT (wf0 x hx)) hr1 (fun x hx=>nT (wf1 x hx)) ⟨(qD hL).1,(qD hL).2⟩).mono fun e W' ⟨he,bel⟩=>?_
 subst he
 exact ⟨_,rfl,_,_,_,[],_,[],hW',trodAll_mk1 (shut_bool Tryz.underlying4 _),(trodAll_cons_mk (Below.trod qC (by kernel_rfl) (of_decide_eq_true (by kernel_rfl)) k0 bel lt0) (trodAll_cons_mk (Below.trod qC (by kernel_rfl) (of_decide_eq_true (by kernel_rfl)) k1 bel lt1) trodAll_mk0)),rfl,bel.frame _,fun h=>by cases h⟩
theorem revocationNewest_joined:joinedFacts Tryz.prog 14 Tryz.f14 Rows.revocationNewestSpec Rows.revocationNewestRow=true:=by
 unfold joinedFacts
 rw [DM,DL,K5,qC]
 kernel_rfl
theorem revocationNewest_holds:Rows.RevocationNewestSaid :=
 OpenClaim.holds_of_wide 14 Tryz.f14 rfl rfl rfl rfl rfl rfl rfl ⟨rfl,rfl,rfl,rfl,rfl⟩ rfl rfl rfl rfl rfl (by kernel_rfl) Tryz.func14 revocationNewest_joined
  (of_decide_eq_true (by kernel_rfl)) (by unfold Func.isWrapper;first | (rw [if_pos (by decide +kernel)];kernel_rfl) | (rw [if_neg (by decide +kernel)];exact ⟨rfl,rfl⟩))
  (fun os started H enc _=>revocationNewest_lifted os started H enc)
theorem revocationNewest_text:Rows.revocationNewestRow.wfByText (OpenSpec.ofChange Rows.revocationNewestSpec)=true:=by kernel_rfl
theorem revocationNewest_goes:false=Rows.revocationNewestRow.goesBy Tryz.prog:=by kernel_rfl
theorem revocationNewest_named:Tryz.prog.funcNamed Rows.revocationNewestRow.func=some 14:=by kernel_rfl
theorem revocationNewest_card:Rows.RevocationNewestCardSaid :=
 Claim7.holds_tied_plain_at .later [] [.data,.data] true (true,"07a759e40ac142b4789776145dc868c2d160bcdc4b39349f72cd2f283967feb4") false
  revocationNewest_holds (fun _ h=>by cases h) revocationNewest_text (fun _ h=>by cases h) revocationNewest_row_tie rfl ⟨rfl,rfl⟩ K4 rfl
  (fun f fn hf hfn=>by
    obtain rfl:f=14:=Option.some.inj (revocationNewest_named.symm.trans hf) |>.symm
    obtain rfl:fn=Tryz.f14:=(Option.some.inj (Tryz.func14.symm.trans hfn)).symm
    exact ⟨DN,fun j t ht=>by
     rw [Tryz.params14] at ht
     have hm:t ∈ [41,41]:=by simpa using Array.mem_of_getElem? ht
     have hall:([41,41].all fun u=>!Tryz.prog.wantsStandIn u)=true:=by kernel_rfl
     exact (show Tryz.prog.wantsStandIn t=false by simpa using List.all_eq_true.1 hall t hm)⟩)
  revocationNewest_goes
end Go.Proofs.YtkjplpmogfmhkaaGreatDoor
