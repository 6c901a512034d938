/- Parts FMasterlistMade of the proof. -/
import Derived.Test.YtkjplpmogfmhkaaGreatDoorIap
import Derived.Test.YtkjplpmogfmhkaaGreatDoorIbj
import Derived.Test.YtkjplpmogfmhkaaGreatDoorIbk
namespace Go.Proofs.YtkjplpmogfmhkaaGreatDoor
open Go.ChangeShapes Go.WideShapes Go.ChangeAt Go.RowKit
set_option linter.unusedVariables false
set_option maxRecDepth 100000 in
set_option maxHeartbeats 2000000 in
theorem masterlistMade_lifted (os:Os) (started:os.Started) (H:Type) (enc:TypeId × Value→H) :
 ReturnsInHanded {} Tryz.checked os 10 .any (fun w args=>(Rows.masterlistMadeSpec.pre enc Tryz.prog Tryz.f10 [] false w args∧laidMetH Tryz.prog Rows.masterlistMadeRow.laid w)∧sizedMet enc Tryz.prog Tryz.f10 (OpenSpec.ofChange Rows.masterlistMadeSpec) false w args)
  (Rows.masterlistMadeSpec.post enc Tryz.prog Tryz.f10 false true false false):=by
 refine returnsInHanded_of_change_and (C:=Tryz.checked) (X:=fun w _=>laidMetH Tryz.prog Rows.masterlistMadeRow.laid w) (fun _ _ _ hh h=>h.of_heap hh) own started (by kernel_rfl) Tryz.func10
  (ChangeSpec.witness_shaped (enc:=enc) (C:=Tryz.checked) (os:=os) (X:=fun w _=>laidMetH Tryz.prog Rows.masterlistMadeRow.laid w) false (World.laidAll Tryz.prog os Rows.masterlistMadeRow.laid) #[.slice none 0 0,.int .i64 0,.int .i64 0,.int .i64 0,.int .i64 0] 8 (World.laidAll_os _ _ _)
    (World.shaped_of_ZipB (by kernel_rfl) (by kernel_rfl)) (by kernel_rfl) (by kernel_rfl) (by kernel_rfl)
    (by rw [MakeChecks.laidMetH_plain _ _ _ (by kernel_rfl)];exact laidMet_laidAll _ (by kernel_rfl) (by kernel_rfl))) ?_
 intro W base args ds gs before hval0 hW _ hsz hL _
 have hval:∀ (j:Nat) t v,Tryz.f10.params[j]?=some t→args[j]?=some v→Value.okWide Tryz.prog W .any base t v:=hval0
 have hW':=hW
 obtain ⟨p,q,hA0,hV,rfl,hfz,hnd⟩:=hW
 have hA:DataW.TrodAll enc Tryz.prog W 0 (fun _=>true) true Tryz.f10.params.toList args.toList ds p:=hA0
 rw [Tryz.params10] at hA hval
 obtain ⟨v0,vs0,d0,ds0,p0,q0,hargs,rfl,rfl,h0,r0⟩:=trodAll_cons hA
 obtain ⟨v1,vs1,d1,ds1,p1,q1,rfl,rfl,rfl,h1,r1⟩:=trodAll_cons r0
 obtain ⟨v2,vs2,d2,ds2,p2,q2,rfl,rfl,rfl,h2,r2⟩:=trodAll_cons r1
 obtain ⟨v3,vs3,d3,ds3,p3,q3,rfl,rfl,rfl,h3,r3⟩:=trodAll_cons r2
 obtain ⟨v4,vs4,d4,ds4,p4,q4,rfl,rfl,rfl,h4,r4⟩:=trodAll_cons r3
 obtain ⟨rfl,rfl,rfl⟩:=trodAll_nil r4
 obtain rfl:args=#[v0,v1,v2,v3,v4]:=by cases args;simp_all
 obtain ⟨rfl,rfl⟩:=trodVars_none hV
 have k0:=h0
 have lt0:∀ x ∈ p0,x.block<W.heap.size:=by obtain ⟨m,hm⟩:=k0;exact DataW.trod_lt m _ _ _ hm
 obtain ⟨l0,hr0,wf0,hn0⟩:=E2 Tryz.underlying41 Tryz.underlying3 (by kernel_rfl) (hval 0 41 v0 rfl rfl) h0
 obtain ⟨a1,rfl,rfl,rfl,w1⟩:=open_int Tryz.underlying3 (hval 1 3 v1 rfl rfl) h1
 obtain ⟨a2,rfl,rfl,rfl,w2⟩:=open_int Tryz.underlying3 (hval 2 3 v2 rfl rfl) h2
 obtain ⟨a3,rfl,rfl,rfl,w3⟩:=open_int Tryz.underlying3 (hval 3 3 v3 rfl rfl) h3
 obtain ⟨a4,rfl,rfl,rfl,w4⟩:=open_int Tryz.underlying3 (hval 4 3 v4 rfl rfl) h4
 clear hA0 hval0
 refine (FQ a1 a2 a3 a4 W hr0 (fun x hx=>wE (wf0 x hx)) (wE w1) (wE w2) (wE w3) (wE w4) ⟨(BJ hL).1,(BJ hL).2⟩).mono fun e W' ⟨he,bel⟩=>?_
 subst he
 exact ⟨_,rfl,_,_,_,[],_,[],hW',trodAll_mk1 (shut_bool Tryz.underlying4 _),(trodAll_cons_mk (Below.trod G0 (by kernel_rfl) (of_decide_eq_true (by kernel_rfl)) k0 bel lt0) (trodAll_cons_mk (shut_int Tryz.underlying3 w1) (trodAll_cons_mk (shut_int Tryz.underlying3 w2) (trodAll_cons_mk (shut_int Tryz.underlying3 w3) (trodAll_cons_mk (shut_int Tryz.underlying3 w4) trodAll_mk0))))),rfl,bel.frame _,fun h=>by cases h⟩
theorem masterlistMade_joined:joinedFacts Tryz.prog 10 Tryz.f10 Rows.masterlistMadeSpec Rows.masterlistMadeRow=true:=by
 unfold joinedFacts
 rw [LF,LD,OF,G0]
 kernel_rfl
theorem masterlistMade_holds:Rows.MasterlistMadeSaid :=
 OpenClaim.holds_of_wide 10 Tryz.f10 rfl rfl rfl rfl rfl rfl rfl ⟨rfl,rfl,rfl,rfl,rfl⟩ rfl rfl rfl rfl rfl (by kernel_rfl) Tryz.func10 masterlistMade_joined
  (of_decide_eq_true (by kernel_rfl)) (by unfold Func.isWrapper;first | (rw [if_pos (by decide +kernel)];kernel_rfl) | (rw [if_neg (by decide +kernel)];exact ⟨rfl,rfl⟩))
  (fun os started H enc _=>masterlistMade_lifted os started H enc)
theorem masterlistMade_text:Rows.masterlistMadeRow.wfByText (OpenSpec.ofChange Rows.masterlistMadeSpec)=true:=by kernel_rfl
theorem masterlistMade_goes:false=Rows.masterlistMadeRow.goesBy Tryz.prog:=by kernel_rfl
theorem masterlistMade_named:Tryz.prog.funcNamed Rows.masterlistMadeRow.func=some 10:=by kernel_rfl
theorem masterlistMade_card:Rows.MasterlistMadeCardSaid :=
 Claim7.holds_tied_plain_at .later [] [.data,.data] true (true,"07a759e40ac142b4789776145dc868c2d160bcdc4b39349f72cd2f283967feb4") false
  masterlistMade_holds (fun _ h=>by cases h) masterlistMade_text (fun _ h=>by cases h) masterlistMade_row_tie rfl ⟨rfl,rfl⟩ OE rfl
  (fun f fn hf hfn=>by
    obtain rfl:f=10:=Option.some.inj (masterlistMade_named.symm.trans hf) |>.symm
    obtain rfl:fn=Tryz.f10:=(Option.some.inj (Tryz.func10.symm.trans hfn)).symm
    exact ⟨LG,fun j t ht=>by
     rw [Tryz.params10] at ht
     have hm:t ∈ [41,3,3,3,3]:=by simpa using Array.mem_of_getElem? ht
     have hall:([41,3,3,3,3].all fun u=>!Tryz.prog.wantsStandIn u)=true:=by kernel_rfl
     exact (show Tryz.prog.wantsStandIn t=false by simpa using List.all_eq_true.1 hall t hm)⟩)
  masterlistMade_goes
end Go.Proofs.YtkjplpmogfmhkaaGreatDoor
