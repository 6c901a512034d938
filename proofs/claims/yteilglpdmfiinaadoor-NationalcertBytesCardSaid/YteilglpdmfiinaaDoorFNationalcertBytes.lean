/- Law NationalcertBytes: the frame. -/
import Derived.Test.YteilglpdmfiinaaDoorHd
import Derived.Test.YteilglpdmfiinaaDoorNl
import Derived.Test.YteilglpdmfiinaaDoorP29
namespace Go.Proofs.YteilglpdmfiinaaDoor
open Go.ChangeShapes Go.WideShapes Go.ChangeAt Go.RowKit
set_option linter.unusedVariables false

set_option maxRecDepth 100000 in
set_option maxHeartbeats 2000000 in
theorem nationalcertBytes_lifted (os : Os) (started : os.Started) (H : Type) (enc : TypeId × Value → H) :
    ReturnsInHanded {} Tryd.checked os 7 .any (fun w args => (Rows.nationalcertBytesSpec.pre enc Tryd.prog Tryd.f7 [] false w args ∧ laidMetH Tryd.prog Rows.nationalcertBytesRow.laid w) ∧ sizedMet enc Tryd.prog Tryd.f7 (OpenSpec.ofChange Rows.nationalcertBytesSpec) false w args)
      (Rows.nationalcertBytesSpec.post enc Tryd.prog Tryd.f7 false true false false) := by
  refine returnsInHanded_of_change_and (C := Tryd.checked) (X := fun w _ => laidMetH Tryd.prog Rows.nationalcertBytesRow.laid w) (fun _ _ _ hh h => h.of_heap hh) own started (by kernel_rfl) Tryd.func7
    (ChangeSpec.witness_shaped (enc := enc) (C := Tryd.checked) (os := os) (X := fun w _ => laidMetH Tryd.prog Rows.nationalcertBytesRow.laid w) false (World.laidAll Tryd.prog os Rows.nationalcertBytesRow.laid) #[.agg #[.string .empty, .int .i64 0, .int .i64 0, .int .i64 0, .int .i64 0, .int .i64 0, .int .i64 0, .int .i64 0, .int .i64 0, .int .i64 0, .int .i64 0]] 8 (World.laidAll_os _ _ _)
      (World.shaped_of_ZipB (by kernel_rfl) (by kernel_rfl)) (by kernel_rfl) (by kernel_rfl) (by kernel_rfl)
      (by rw [MakeChecks.laidMetH_plain _ _ _ (by kernel_rfl)]; exact laidMet_laidAll _ (by kernel_rfl) (by kernel_rfl))) ?_
  intro W base args ds gs before hval0 hW _ hsz hL _
  have hval : ∀ (j : Nat) t v, Tryd.f7.params[j]? = some t → args[j]? = some v → Value.okWide Tryd.prog W .any base t v := hval0
  have hW' := hW
  obtain ⟨p, q, hA0, hV, rfl, hfz, hnd⟩ := hW
  have hA : DataW.TrodAll enc Tryd.prog W 0 (fun _ => true) true Tryd.f7.params.toList args.toList ds p := hA0
  rw [Tryd.params7] at hA hval
  obtain ⟨v0, vs0, d0, ds0, p0, q0, hargs, rfl, rfl, h0, r0⟩ := trodAll_cons hA
  obtain ⟨rfl, rfl, rfl⟩ := trodAll_nil r0
  obtain rfl : args = #[v0] := by cases args; simp_all
  obtain ⟨rfl, rfl⟩ := trodVars_none hV
  have k0 := h0
  have lt0 : ∀ x ∈ p0, x.block < W.heap.size := by obtain ⟨m, hm⟩ := k0; exact DataW.trod_lt m _ _ _ hm
  obtain ⟨c0, rfl⟩ := open_nc (hval 0 46 v0 rfl rfl) h0
  clear hA0 hval0
  refine (nbytes_any c0 W (of_laid1 hL)).mono fun e W' ⟨he, bel⟩ => ?_
  subst he
  exact ⟨_, rfl, _, _, _, [], _, [], hW', trodAll_mk1 (shut_bool Tryd.underlying4 _), (trodAll_cons_mk (Below.trod laidOut (by kernel_rfl) (of_decide_eq_true (by kernel_rfl)) k0 bel lt0) trodAll_mk0), rfl, bel.frame _, fun h => by cases h⟩
theorem nationalcertBytes_joined : joinedFacts Tryd.prog 7 Tryd.f7 Rows.nationalcertBytesSpec Rows.nationalcertBytesRow = true := by
  unfold joinedFacts
  rw [pf_enter, pf_final, pf_make, laidOut]
  kernel_rfl
theorem nationalcertBytes_holds : Rows.NationalcertBytesSaid :=
  OpenClaim.holds_of_wide 7 Tryd.f7 rfl rfl rfl rfl rfl rfl rfl ⟨rfl, rfl, rfl, rfl, rfl⟩ rfl rfl rfl rfl rfl (by kernel_rfl) Tryd.func7 nationalcertBytes_joined
    (of_decide_eq_true (by kernel_rfl)) (by unfold Func.isWrapper; first | (rw [if_pos (by decide +kernel)]; kernel_rfl) | (rw [if_neg (by decide +kernel)]; exact ⟨rfl, rfl⟩))
    (fun os started H enc _ => nationalcertBytes_lifted os started H enc)
theorem nationalcertBytes_text : Rows.nationalcertBytesRow.wfByText (OpenSpec.ofChange Rows.nationalcertBytesSpec) = true := by kernel_rfl
theorem nationalcertBytes_goes : false = Rows.nationalcertBytesRow.goesBy Tryd.prog := by kernel_rfl
theorem nationalcertBytes_named : Tryd.prog.funcNamed Rows.nationalcertBytesRow.func = some 7 := by kernel_rfl
/-- THE STATEMENT. -/
theorem nationalcertBytes_card : Rows.NationalcertBytesCardSaid :=
  Claim7.holds_tied_plain_at .later [] [.data] true (true, "b76d9a943c67da6732b84d6519f7dc840fc4c4b261c4f32d2055973e8ed4a759") false
    nationalcertBytes_holds (fun _ h => by cases h) nationalcertBytes_text (fun _ h => by cases h) nationalcertBytes_row_tie rfl ⟨rfl, rfl⟩ pf_main rfl
    (fun f fn hf hfn => by
      obtain rfl : f = 7 := Option.some.inj (nationalcertBytes_named.symm.trans hf) |>.symm
      obtain rfl : fn = Tryd.f7 := (Option.some.inj (Tryd.func7.symm.trans hfn)).symm
      exact ⟨pf_looks, fun j t ht => by
        rw [Tryd.params7] at ht
        have hm : t ∈ [46] := by simpa using Array.mem_of_getElem? ht
        have hall : ([46].all fun u => !Tryd.prog.wantsStandIn u) = true := by kernel_rfl
        exact (show Tryd.prog.wantsStandIn t = false by simpa using List.all_eq_true.1 hall t hm)⟩)
    nationalcertBytes_goes

end Go.Proofs.YteilglpdmfiinaaDoor
