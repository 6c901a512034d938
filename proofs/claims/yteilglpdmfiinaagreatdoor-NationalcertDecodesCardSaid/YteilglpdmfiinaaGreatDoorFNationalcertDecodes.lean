/- Law NationalcertDecodes: the frame. -/
import Derived.Test.YteilglpdmfiinaaGreatDoorHd
import Derived.Test.YteilglpdmfiinaaGreatDoorPkq
import Derived.Test.YteilglpdmfiinaaGreatDoorPkp
namespace Go.Proofs.YteilglpdmfiinaaGreatDoor
open Go.ChangeShapes Go.WideShapes Go.ChangeAt Go.RowKit
set_option linter.unusedVariables false

set_option maxRecDepth 100000 in
set_option maxHeartbeats 2000000 in
theorem nationalcertDecodes_lifted (os : Os) (started : os.Started) (H : Type) (enc : TypeId × Value → H) :
    ReturnsInHanded {} Tryz.checked os 10 .any (fun w args => (Rows.nationalcertDecodesSpec.pre enc Tryz.prog Tryz.f10 [] false w args ∧ laidMetH Tryz.prog Rows.nationalcertDecodesRow.laid w) ∧ sizedMet enc Tryz.prog Tryz.f10 (OpenSpec.ofChange Rows.nationalcertDecodesSpec) false w args)
      (Rows.nationalcertDecodesSpec.post enc Tryz.prog Tryz.f10 false true false false) := by
  refine returnsInHanded_of_change_and (C := Tryz.checked) (X := fun w _ => laidMetH Tryz.prog Rows.nationalcertDecodesRow.laid w) (fun _ _ _ hh h => h.of_heap hh) own started (by kernel_rfl) Tryz.func10
    (ChangeSpec.witness_shaped (enc := enc) (C := Tryz.checked) (os := os) (X := fun w _ => laidMetH Tryz.prog Rows.nationalcertDecodesRow.laid w) false (World.laidAll Tryz.prog os Rows.nationalcertDecodesRow.laid) #[.slice none 0 0] 8 (World.laidAll_os _ _ _)
      (World.shaped_of_ZipB (by kernel_rfl) (by kernel_rfl)) (by kernel_rfl) (by kernel_rfl) (by kernel_rfl)
      (by rw [MakeChecks.laidMetH_plain _ _ _ (by kernel_rfl)]; exact laidMet_laidAll _ (by kernel_rfl) (by kernel_rfl))) ?_
  intro W base args ds gs before hval0 hW _ hsz hL _
  have hval : ∀ (j : Nat) t v, Tryz.f10.params[j]? = some t → args[j]? = some v → Value.okWide Tryz.prog W .any base t v := hval0
  have hW' := hW
  obtain ⟨p, q, hA0, hV, rfl, hfz, hnd⟩ := hW
  have hA : DataW.TrodAll enc Tryz.prog W 0 (fun _ => true) true Tryz.f10.params.toList args.toList ds p := hA0
  rw [Tryz.params10] at hA hval
  obtain ⟨v0, vs0, d0, ds0, p0, q0, hargs, rfl, rfl, h0, r0⟩ := trodAll_cons hA
  obtain ⟨rfl, rfl, rfl⟩ := trodAll_nil r0
  obtain rfl : args = #[v0] := by cases args; simp_all
  obtain ⟨rfl, rfl⟩ := trodVars_none hV
  have k0 := h0
  have lt0 : ∀ x ∈ p0, x.block < W.heap.size := by obtain ⟨m, hm⟩ := k0; exact DataW.trod_lt m _ _ _ hm
  obtain ⟨l0, hr0, hn0⟩ := open_bytes (hval 0 22 v0 rfl rfl) h0
  have hl0 : l0.length ≤ 140737488351232 := by
    rcases hn0 with rfl | ⟨e, s, rfl, hle⟩
    · simp
    · have := sized_slice hsz (j := 0) (t := 22) (e := 5) rfl rfl Tryz.underlying22
      rw [show Tryz.checked.prog.bytesOf 5 = 1 by kernel_rfl] at this
      simp only [reachBytes] at this
      omega
  clear hA0 hval0
  refine (ndecodes_any W hr0 (of_laid1 hL)).mono fun e W' ⟨he, bel⟩ => ?_
  subst he
  exact ⟨_, rfl, _, _, _, [], _, [], hW', trodAll_mk1 (shut_bool Tryz.underlying4 _), (trodAll_cons_mk (Below.trod laidOut (by kernel_rfl) (of_decide_eq_true (by kernel_rfl)) k0 bel lt0) trodAll_mk0), rfl, bel.frame _, fun h => by cases h⟩
theorem nationalcertDecodes_joined : joinedFacts Tryz.prog 10 Tryz.f10 Rows.nationalcertDecodesSpec Rows.nationalcertDecodesRow = true := by
  unfold joinedFacts
  rw [pf_enter, pf_final, pf_make, laidOut]
  kernel_rfl
theorem nationalcertDecodes_holds : Rows.NationalcertDecodesSaid :=
  OpenClaim.holds_of_wide 10 Tryz.f10 rfl rfl rfl rfl rfl rfl rfl ⟨rfl, rfl, rfl, rfl, rfl⟩ rfl rfl rfl rfl rfl (by kernel_rfl) Tryz.func10 nationalcertDecodes_joined
    (of_decide_eq_true (by kernel_rfl)) (by unfold Func.isWrapper; first | (rw [if_pos (by decide +kernel)]; kernel_rfl) | (rw [if_neg (by decide +kernel)]; exact ⟨rfl, rfl⟩))
    (fun os started H enc _ => nationalcertDecodes_lifted os started H enc)
theorem nationalcertDecodes_text : Rows.nationalcertDecodesRow.wfByText (OpenSpec.ofChange Rows.nationalcertDecodesSpec) = true := by kernel_rfl
theorem nationalcertDecodes_goes : false = Rows.nationalcertDecodesRow.goesBy Tryz.prog := by kernel_rfl
theorem nationalcertDecodes_named : Tryz.prog.funcNamed Rows.nationalcertDecodesRow.func = some 10 := by kernel_rfl
/-- THE STATEMENT. -/
theorem nationalcertDecodes_card : Rows.NationalcertDecodesCardSaid :=
  Claim7.holds_tied_plain_at .later [] [.data] true (true, "679a98f096f9a496f11e4ffcd481768a7ace9278549415b8de45654a087b577a") false
    nationalcertDecodes_holds (fun _ h => by cases h) nationalcertDecodes_text (fun _ h => by cases h) nationalcertDecodes_row_tie rfl ⟨rfl, rfl⟩ pf_main rfl
    (fun f fn hf hfn => by
      obtain rfl : f = 10 := Option.some.inj (nationalcertDecodes_named.symm.trans hf) |>.symm
      obtain rfl : fn = Tryz.f10 := (Option.some.inj (Tryz.func10.symm.trans hfn)).symm
      exact ⟨pf_looks, fun j t ht => by
        rw [Tryz.params10] at ht
        have hm : t ∈ [22] := by simpa using Array.mem_of_getElem? ht
        have hall : ([22].all fun u => !Tryz.prog.wantsStandIn u) = true := by kernel_rfl
        exact (show Tryz.prog.wantsStandIn t = false by simpa using List.all_eq_true.1 hall t hm)⟩)
    nationalcertDecodes_goes

end Go.Proofs.YteilglpdmfiinaaGreatDoor
