/- Parts FDeviationMade of the proof. -/
import Derived.Test.YtmmoenkmicimcaaGreatDoorGbt
import Derived.Test.YtmmoenkmicimcaaGreatDoorGat
namespace Go.Proofs.YtmmoenkmicimcaaGreatDoor
open Go.ChangeShapes Go.WideShapes Go.ChangeAt Go.RowKit
set_option linter.unusedVariables false
set_option maxRecDepth 100000 in
set_option maxHeartbeats 2000000 in
theorem deviationMade_lifted (os:Os) (a6:os.Started) (a7:Type) (enc:TypeId × Value->a7) :
 ReturnsInHanded {} Tryz.checked os 3 .any (fun w l=>(Rows.deviationMadeSpec.pre enc Tryz.prog Tryz.f3 [] false w l/\laidMetH Tryz.prog Rows.deviationMadeRow.laid w)/\sizedMet enc Tryz.prog Tryz.f3 (OpenSpec.ofChange Rows.deviationMadeSpec) false w l)
  (Rows.deviationMadeSpec.post enc Tryz.prog Tryz.f3 false true false false):=by
 refine returnsInHanded_of_change_and (C:=Tryz.checked) (X:=fun w _=>laidMetH Tryz.prog Rows.deviationMadeRow.laid w) (fun _ _ _ hh h=>h.of_heap hh) own a6 (by kernel_rfl) Tryz.func3
  (ChangeSpec.witness_shaped (enc:=enc) (C:=Tryz.checked) (os:=os) (X:=fun w _=>laidMetH Tryz.prog Rows.deviationMadeRow.laid w) false (World.laidAll Tryz.prog os Rows.deviationMadeRow.laid) #[.slice none 0 0,.int .i64 0,.int .i64 0,.int .i64 0,.int .i64 0,.int .i64 0] 8 (World.laidAll_os _ _ _)
    (World.shaped_of_ZipB (by kernel_rfl) (by kernel_rfl)) (by kernel_rfl) (by kernel_rfl) (by kernel_rfl)
    (by rw [MakeChecks.laidMetH_plain _ _ _ (by kernel_rfl)];exact laidMet_laidAll _ (by kernel_rfl) (by kernel_rfl))) ?_
 intro W a8 l ds gs before F G _ b6 H _
 have q:∀ (j:Nat) t v,Tryz.f3.params[j]?=some t->l[j]?=some v->Value.okWide Tryz.prog W .any a8 t v:=F
 have b0:=G
 obtain ⟨p,b7,hA0,hV,rfl,b8,b9⟩:=G
 have I:DataW.TrodAll enc Tryz.prog W 0 (fun _=>true) true Tryz.f3.params.toList l.toList ds p:=hA0
 rw [Tryz.params3] at I q
 obtain ⟨J,bB,d0,bS,p0,q0,cD,rfl,rfl,K,r0⟩:=trodAll_cons I
 obtain ⟨v1,cI,d1,cJ,p1,q1,rfl,rfl,rfl,h1,r1⟩:=trodAll_cons r0
 obtain ⟨v2,cL,d2,cR,p2,q2,rfl,rfl,rfl,h2,r2⟩:=trodAll_cons r1
 obtain ⟨N,cS,d3,cU,p3,q3,rfl,rfl,rfl,h3,r3⟩:=trodAll_cons r2
 obtain ⟨O,cV,d4,cX,p4,q4,rfl,rfl,rfl,h4,r4⟩:=trodAll_cons r3
 obtain ⟨Q,d6,d5,d7,p5,q5,rfl,rfl,rfl,h5,r5⟩:=trodAll_cons r4
 obtain ⟨rfl,rfl,rfl⟩:=trodAll_nil r5
 obtain rfl:l=#[J,v1,v2,N,O,Q]:=by cases l;simp_all
 obtain ⟨rfl,rfl⟩:=trodVars_none hV
 have U:=K
 have b3:∀ x ∈ p0,x.block<W.heap.size:=by obtain ⟨m,hm⟩:=U;exact DataW.trod_lt m _ _ _ hm
 obtain ⟨l0,b4,b5,d8⟩:=LA Tryz.underlying22 Tryz.underlying3 (by kernel_rfl) (q 0 22 J rfl rfl) K
 obtain ⟨a1,rfl,rfl,rfl,Y⟩:=open_int Tryz.underlying3 (q 1 3 v1 rfl rfl) h1
 obtain ⟨a2,rfl,rfl,rfl,w2⟩:=open_int Tryz.underlying3 (q 2 3 v2 rfl rfl) h2
 obtain ⟨a3,rfl,rfl,rfl,w3⟩:=open_int Tryz.underlying3 (q 3 3 N rfl rfl) h3
 obtain ⟨a4,rfl,rfl,rfl,w4⟩:=open_int Tryz.underlying3 (q 4 3 O rfl rfl) h4
 obtain ⟨a5,rfl,rfl,rfl,w5⟩:=open_int Tryz.underlying3 (q 5 3 Q rfl rfl) h5
 clear hA0 F
 refine (NE a1 a2 a3 a4 a5 W b4 (fun x hx=>uY (b5 x hx)) (uY Y) (uY w2) (uY w3) (uY w4) (uY w5) ⟨(GP H).1,(GP H).2⟩).mono fun e W' ⟨he,a0⟩=>?_
 subst he
 exact ⟨_,rfl,_,_,_,[],_,[],b0,trodAll_mk1 (shut_bool Tryz.underlying4 _),(trodAll_cons_mk (Below.trod NY (by kernel_rfl) (of_decide_eq_true (by kernel_rfl)) U a0 b3) (trodAll_cons_mk (shut_int Tryz.underlying3 Y) (trodAll_cons_mk (shut_int Tryz.underlying3 w2) (trodAll_cons_mk (shut_int Tryz.underlying3 w3) (trodAll_cons_mk (shut_int Tryz.underlying3 w4) (trodAll_cons_mk (shut_int Tryz.underlying3 w5) trodAll_mk0)))))),rfl,a0.frame _,fun h=>by cases h⟩
theorem deviationMade_joined:joinedFacts Tryz.prog 3 Tryz.f3 Rows.deviationMadeSpec Rows.deviationMadeRow=true:=by unfold joinedFacts;rw [TI,TG,Y4,NY];kernel_rfl
theorem deviationMade_holds:Rows.DeviationMadeSaid:=OpenClaim.holds_of_wide 3 Tryz.f3 rfl rfl rfl rfl rfl rfl rfl ⟨rfl,rfl,rfl,rfl,rfl⟩ rfl rfl rfl rfl rfl (by kernel_rfl) Tryz.func3 deviationMade_joined (of_decide_eq_true (by kernel_rfl)) (by unfold Func.isWrapper;first | (rw [ay (by decide+kernel)];kernel_rfl) | (rw [ao (by decide+kernel)];exact⟨rfl,rfl⟩)) (fun os l H q _=>deviationMade_lifted os l H q)
theorem deviationMade_text:Rows.deviationMadeRow.wfByText (OpenSpec.ofChange Rows.deviationMadeSpec)=true:=by kernel_rfl
theorem deviationMade_goes:false=Rows.deviationMadeRow.goesBy Tryz.prog:=by kernel_rfl
theorem deviationMade_named:Tryz.prog.funcNamed Rows.deviationMadeRow.func=some 3:=by kernel_rfl
theorem deviationMade_card:Rows.DeviationMadeCardSaid:=Claim7.holds_tied_plain_at .later [] [.data,.data] true (true,"88698f57705168c1e465f5fca98280aee4807dce97e940107392acabd503bd23") false deviationMade_holds (fun _ h=>by cases h) deviationMade_text (fun _ h=>by cases h) deviationMade_row_tie rfl ⟨rfl,rfl⟩ XY rfl (fun f q C F=>by obtain rfl:f=3:=bc (deviationMade_named.symm.trans C)|>.symm;obtain rfl:q=Tryz.f3:=(bc (Tryz.func3.symm.trans F)).symm;exact⟨TJ,fun j t l=>by rw [Tryz.params3]at l;have G:t∈ [22,3,3,3,3,3]:=(by simpa using Array.mem_of_getElem? l);have H:([22,3,3,3,3,3].all fun u=>!Tryz.prog.wantsStandIn u)=true:=(by kernel_rfl);exact(show Tryz.prog.wantsStandIn t=false by simpa using List.all_eq_true.1 H t G)⟩) deviationMade_goes
end Go.Proofs.YtmmoenkmicimcaaGreatDoor
