/- Parts FMasterlistRaw of the proof. -/
import Derived.Test.YtkjplpmogfmhkaaGreatDoorWap
import Derived.Test.YtkjplpmogfmhkaaGreatDoorWbk
import Derived.Test.YtkjplpmogfmhkaaGreatDoorWbe
namespace Go.Proofs.YtkjplpmogfmhkaaGreatDoor
open Go.ChangeShapes Go.WideShapes Go.ChangeAt Go.RowKit
set_option linter.unusedVariables false
set_option maxRecDepth 100000 in
set_option maxHeartbeats 2000000 in
theorem masterlistRaw_lifted (os : Os) (started : os.Started) (H : Type) (enc : TypeId × Value → H) :
 ReturnsInHanded {} Tryz.checked os 11 .any (fun w args => (Rows.masterlistRawSpec.pre enc Tryz.prog Tryz.f11 [] false w args ∧ laidMetH Tryz.prog Rows.masterlistRawRow.laid w) ∧ sizedMet enc Tryz.prog Tryz.f11 (OpenSpec.ofChange Rows.masterlistRawSpec) false w args)
  (Rows.masterlistRawSpec.post enc Tryz.prog Tryz.f11 false true false false) := by
 refine returnsInHanded_of_change_and (C := Tryz.checked) (X := fun w _ => laidMetH Tryz.prog Rows.masterlistRawRow.laid w) (fun _ _ _ hh h => h.of_heap hh) own started (by kernel_rfl) Tryz.func11
  (ChangeSpec.witness_shaped (enc := enc) (C := Tryz.checked) (os := os) (X := fun w _ => laidMetH Tryz.prog Rows.masterlistRawRow.laid w) false (World.laidAll Tryz.prog os Rows.masterlistRawRow.laid) #[.agg #[.slice none 0 0, .slice none 0 0, .slice none 0 0, .slice none 0 0, .slice none 0 0], .agg #[.string .empty, .int .i64 0, .int .i64 0, .slice none 0 0, .string .empty, .int .i64 0, .int .i64 0, .int .i64 0, .int .i64 0, .int .i64 0, .int .i64 0, .int .i64 0, .int .i64 0, .int .i64 0, .int .i64 0, .int .i64 0, .int .i64 0], .int .i64 0, .int .i64 0] 8 (World.laidAll_os _ _ _)
    (World.shaped_of_ZipB (by kernel_rfl) (by kernel_rfl)) (by kernel_rfl) (by kernel_rfl) (by kernel_rfl)
    (by rw [MakeChecks.laidMetH_plain _ _ _ (by kernel_rfl)]; exact laidMet_laidAll _ (by kernel_rfl) (by kernel_rfl))) ?_
 intro W base args ds gs before hval0 hW _ hsz hL _
 have hval : ∀ (j : Nat) t v, Tryz.f11.params[j]? = some t → args[j]? = some v → Value.okWide Tryz.prog W .any base t v := hval0
 have hW' := hW
 obtain ⟨p, q, hA0, hV, rfl, hfz, hnd⟩ := hW
 have hA : DataW.TrodAll enc Tryz.prog W 0 (fun _ => true) true Tryz.f11.params.toList args.toList ds p := hA0
 rw [Tryz.params11] at hA hval
 obtain ⟨v0, vs0, d0, ds0, p0, q0, hargs, rfl, rfl, h0, r0⟩ := trodAll_cons hA
 obtain ⟨v1, vs1, d1, ds1, p1, q1, rfl, rfl, rfl, h1, r1⟩ := trodAll_cons r0
 obtain ⟨v2, vs2, d2, ds2, p2, q2, rfl, rfl, rfl, h2, r2⟩ := trodAll_cons r1
 obtain ⟨v3, vs3, d3, ds3, p3, q3, rfl, rfl, rfl, h3, r3⟩ := trodAll_cons r2
 obtain ⟨rfl, rfl, rfl⟩ := trodAll_nil r3
 obtain rfl : args = #[v0, v1, v2, v3] := by cases args; simp_all
 obtain ⟨rfl, rfl⟩ := trodVars_none hV
 have k0 := h0
 have lt0 : ∀ x ∈ p0, x.block < W.heap.size := by obtain ⟨m, hm⟩ := k0; exact DataW.trod_lt m _ _ _ hm
 obtain ⟨sA0, sB0, sC0, sD0, sE0, S0, rfl, hr0, hg0⟩ := open_st (hval 0 75 v0 rfl rfl) h0
 have k1 := h1
 have lt1 : ∀ x ∈ p1, x.block < W.heap.size := by obtain ⟨m, hm⟩ := k1; exact DataW.trod_lt m _ _ _ hm
 obtain ⟨x1, u1, rfl, hr1, hg1⟩ := open_ma (hval 1 80 v1 rfl rfl) h1
 obtain ⟨a2, rfl, rfl, rfl, w2⟩ := open_int Tryz.underlying3 (hval 2 3 v2 rfl rfl) h2
 obtain ⟨a3, rfl, rfl, rfl, w3⟩ := open_int Tryz.underlying3 (hval 3 3 v3 rfl rfl) h3
 clear hA0 hval0
 refine (mraw_any S0 x1 a2 a3 W hr0 hg0 (reach_store k0 (fun n hn => of_decide_eq_true (List.all_eq_true.1 hsz n (DataW.weights_mem_each (j := 0) (t := 75) rfl rfl n hn)))) hr1 hg1 ⟨(of_laid2 hL).1, (of_laid2 hL).2⟩).mono fun e W' ⟨he, bel⟩ => ?_
 subst he
 exact ⟨_, rfl, _, _, _, [], _, [], hW', trodAll_mk1 (shut_bool Tryz.underlying4 _), (trodAll_cons_mk (Below.trod laidOut (by kernel_rfl) (of_decide_eq_true (by kernel_rfl)) k0 bel lt0) (trodAll_cons_mk (Below.trod laidOut (by kernel_rfl) (of_decide_eq_true (by kernel_rfl)) k1 bel lt1) (trodAll_cons_mk (shut_int Tryz.underlying3 w2) (trodAll_cons_mk (shut_int Tryz.underlying3 w3) trodAll_mk0)))), rfl, bel.frame _, fun h => by cases h⟩
theorem masterlistRaw_joined : joinedFacts Tryz.prog 11 Tryz.f11 Rows.masterlistRawSpec Rows.masterlistRawRow = true := by
 unfold joinedFacts
 rw [pf_enter, pf_final, pf_make, laidOut]
 kernel_rfl
theorem masterlistRaw_holds : Rows.MasterlistRawSaid :=
 OpenClaim.holds_of_wide 11 Tryz.f11 rfl rfl rfl rfl rfl rfl rfl ⟨rfl, rfl, rfl, rfl, rfl⟩ rfl rfl rfl rfl rfl (by kernel_rfl) Tryz.func11 masterlistRaw_joined
  (of_decide_eq_true (by kernel_rfl)) (by unfold Func.isWrapper; first | (rw [if_pos (by decide +kernel)]; kernel_rfl) | (rw [if_neg (by decide +kernel)]; exact ⟨rfl, rfl⟩))
  (fun os started H enc _ => masterlistRaw_lifted os started H enc)
theorem masterlistRaw_text : Rows.masterlistRawRow.wfByText (OpenSpec.ofChange Rows.masterlistRawSpec) = true := by kernel_rfl
theorem masterlistRaw_goes : false = Rows.masterlistRawRow.goesBy Tryz.prog := by kernel_rfl
theorem masterlistRaw_named : Tryz.prog.funcNamed Rows.masterlistRawRow.func = some 11 := by kernel_rfl
theorem masterlistRaw_card : Rows.MasterlistRawCardSaid :=
 Claim7.holds_tied_plain_at .later [] [.data, .data] true (true, "07a759e40ac142b4789776145dc868c2d160bcdc4b39349f72cd2f283967feb4") false
  masterlistRaw_holds (fun _ h => by cases h) masterlistRaw_text (fun _ h => by cases h) masterlistRaw_row_tie rfl ⟨rfl, rfl⟩ pf_main rfl
  (fun f fn hf hfn => by
    obtain rfl : f = 11 := Option.some.inj (masterlistRaw_named.symm.trans hf) |>.symm
    obtain rfl : fn = Tryz.f11 := (Option.some.inj (Tryz.func11.symm.trans hfn)).symm
    exact ⟨pf_looks, fun j t ht => by
     rw [Tryz.params11] at ht
     have hm : t ∈ [75, 80, 3, 3] := by simpa using Array.mem_of_getElem? ht
     have hall : ([75, 80, 3, 3].all fun u => !Tryz.prog.wantsStandIn u) = true := by kernel_rfl
     exact (show Tryz.prog.wantsStandIn t = false by simpa using List.all_eq_true.1 hall t hm)⟩)
  masterlistRaw_goes
end Go.Proofs.YtkjplpmogfmhkaaGreatDoor
