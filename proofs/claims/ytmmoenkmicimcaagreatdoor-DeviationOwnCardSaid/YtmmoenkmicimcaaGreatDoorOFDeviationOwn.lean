/- Parts FDeviationOwn of the proof. -/
import Derived.Test.YtmmoenkmicimcaaGreatDoorObu
import Derived.Test.YtmmoenkmicimcaaGreatDoorOat
namespace Go.Proofs.YtmmoenkmicimcaaGreatDoor
open Go.ChangeShapes Go.WideShapes Go.ChangeAt Go.RowKit
set_option linter.unusedVariables false
set_option maxRecDepth 100000 in
set_option maxHeartbeats 2000000 in
theorem deviationOwn_lifted (os:Os) (a4:os.Started) (a5:Type) (enc:TypeId × Value->a5) :
 ReturnsInHanded {} Tryz.checked os 5 .any (fun w l=>(Rows.deviationOwnSpec.pre enc Tryz.prog Tryz.f5 [] false w l/\laidMetH Tryz.prog Rows.deviationOwnRow.laid w)/\sizedMet enc Tryz.prog Tryz.f5 (OpenSpec.ofChange Rows.deviationOwnSpec) false w l)
  (Rows.deviationOwnSpec.post enc Tryz.prog Tryz.f5 false true false false):=by
 refine returnsInHanded_of_change_and (C:=Tryz.checked) (X:=fun w _=>laidMetH Tryz.prog Rows.deviationOwnRow.laid w) (fun _ _ _ hh h=>h.of_heap hh) own a4 (by kernel_rfl) Tryz.func5
  (ChangeSpec.witness_shaped (enc:=enc) (C:=Tryz.checked) (os:=os) (X:=fun w _=>laidMetH Tryz.prog Rows.deviationOwnRow.laid w) false (World.laidAll Tryz.prog os Rows.deviationOwnRow.laid) #[.slice none 0 0,.int .i64 0,.int .i64 0,.int .i64 0] 8 (World.laidAll_os _ _ _)
    (World.shaped_of_ZipB (by kernel_rfl) (by kernel_rfl)) (by kernel_rfl) (by kernel_rfl) (by kernel_rfl)
    (by rw [MakeChecks.laidMetH_plain _ _ _ (by kernel_rfl)];exact laidMet_laidAll _ (by kernel_rfl) (by kernel_rfl))) ?_
 intro W a6 l ds gs before F G _ b4 H _
 have q:∀ (j:Nat) t v,Tryz.f5.params[j]?=some t->l[j]?=some v->Value.okWide Tryz.prog W .any a6 t v:=F
 have a7:=G
 obtain ⟨p,b5,hA0,hV,rfl,b6,b7⟩:=G
 have I:DataW.TrodAll enc Tryz.prog W 0 (fun _=>true) true Tryz.f5.params.toList l.toList ds p:=hA0
 rw [Tryz.params5] at I q
 obtain ⟨J,b8,d0,b9,p0,q0,bB,rfl,rfl,K,r0⟩:=trodAll_cons I
 obtain ⟨v1,bS,d1,cD,p1,q1,rfl,rfl,rfl,h1,r1⟩:=trodAll_cons r0
 obtain ⟨v2,cI,d2,cJ,p2,q2,rfl,rfl,rfl,h2,r2⟩:=trodAll_cons r1
 obtain ⟨N,cL,d3,cR,p3,q3,rfl,rfl,rfl,h3,r3⟩:=trodAll_cons r2
 obtain ⟨rfl,rfl,rfl⟩:=trodAll_nil r3
 obtain rfl:l=#[J,v1,v2,N]:=by cases l;simp_all
 obtain ⟨rfl,rfl⟩:=trodVars_none hV
 have O:=K
 have a8:∀ x ∈ p0,x.block<W.heap.size:=by obtain ⟨m,hm⟩:=O;exact DataW.trod_lt m _ _ _ hm
 obtain ⟨l0,b0,b3,cS⟩:=LA Tryz.underlying22 Tryz.underlying3 (by kernel_rfl) (q 0 22 J rfl rfl) K
 obtain ⟨a1,rfl,rfl,rfl,Q⟩:=open_int Tryz.underlying3 (q 1 3 v1 rfl rfl) h1
 obtain ⟨a2,rfl,rfl,rfl,U⟩:=open_int Tryz.underlying3 (q 2 3 v2 rfl rfl) h2
 obtain ⟨a3,rfl,rfl,rfl,Y⟩:=open_int Tryz.underlying3 (q 3 3 N rfl rfl) h3
 clear hA0 F
 refine (a1O a1 a2 a3 W b0 (fun x hx=>uY (b3 x hx)) (uY Q) (uY U) (uY Y) ⟨(GP H).1,(GP H).2⟩).mono fun e W' ⟨he,a0⟩=>?_
 subst he
 exact ⟨_,rfl,_,_,_,[],_,[],a7,trodAll_mk1 (shut_bool Tryz.underlying4 _),(trodAll_cons_mk (Below.trod NY (by kernel_rfl) (of_decide_eq_true (by kernel_rfl)) O a0 a8) (trodAll_cons_mk (shut_int Tryz.underlying3 Q) (trodAll_cons_mk (shut_int Tryz.underlying3 U) (trodAll_cons_mk (shut_int Tryz.underlying3 Y) trodAll_mk0)))),rfl,a0.frame _,fun h=>by cases h⟩
theorem deviationOwn_joined:joinedFacts Tryz.prog 5 Tryz.f5 Rows.deviationOwnSpec Rows.deviationOwnRow=true:=by unfold joinedFacts;rw [TI,TG,Y4,NY];kernel_rfl
theorem deviationOwn_holds:Rows.DeviationOwnSaid:=OpenClaim.holds_of_wide 5 Tryz.f5 rfl rfl rfl rfl rfl rfl rfl ⟨rfl,rfl,rfl,rfl,rfl⟩ rfl rfl rfl rfl rfl (by kernel_rfl) Tryz.func5 deviationOwn_joined (of_decide_eq_true (by kernel_rfl)) (by unfold Func.isWrapper;first | (rw [ax (by decide+kernel)];kernel_rfl) | (rw [ao (by decide+kernel)];exact⟨rfl,rfl⟩)) (fun os l H q _=>deviationOwn_lifted os l H q)
theorem deviationOwn_text:Rows.deviationOwnRow.wfByText (OpenSpec.ofChange Rows.deviationOwnSpec)=true:=by kernel_rfl
theorem deviationOwn_goes:false=Rows.deviationOwnRow.goesBy Tryz.prog:=by kernel_rfl
theorem deviationOwn_named:Tryz.prog.funcNamed Rows.deviationOwnRow.func=some 5:=by kernel_rfl
theorem deviationOwn_card:Rows.DeviationOwnCardSaid:=Claim7.holds_tied_plain_at .later [] [.data,.data] true (true,"88698f57705168c1e465f5fca98280aee4807dce97e940107392acabd503bd23") false deviationOwn_holds (fun _ h=>by cases h) deviationOwn_text (fun _ h=>by cases h) deviationOwn_row_tie rfl ⟨rfl,rfl⟩ XY rfl (fun f q C F=>by obtain rfl:f=5:=bc (deviationOwn_named.symm.trans C)|>.symm;obtain rfl:q=Tryz.f5:=(bc (Tryz.func5.symm.trans F)).symm;exact⟨TJ,fun j t l=>by rw [Tryz.params5]at l;have G:t∈ [22,3,3,3]:=(by simpa using Array.mem_of_getElem? l);have H:([22,3,3,3].all fun u=>!Tryz.prog.wantsStandIn u)=true:=(by kernel_rfl);exact(show Tryz.prog.wantsStandIn t=false by simpa using List.all_eq_true.1 H t G)⟩) deviationOwn_goes
end Go.Proofs.YtmmoenkmicimcaaGreatDoor
