/- Law SignRefuses: the frame. -/
import Derived.Test.YteihfboomegpkaaDoorHd
import Derived.Test.YteihfboomegpkaaDoorL9c
import Derived.Test.YteihfboomegpkaaDoorP9
namespace Go.Proofs.YteihfboomegpkaaDoor
open Go.ChangeShapes Go.WideShapes Go.ChangeAt Go.RowKit
set_option linter.unusedVariables false

set_option maxRecDepth 100000 in
set_option maxHeartbeats 2000000 in
theorem signRefuses_lifted (os : Os) (started : os.Started) (H : Type) (enc : TypeId × Value → H) :
    ReturnsInHanded {} Tryd.checked os 15 .any (fun w args => (Rows.signRefusesSpec.pre enc Tryd.prog Tryd.f15 [] false w args ∧ laidMetH Tryd.prog Rows.signRefusesRow.laid w) ∧ sizedMet enc Tryd.prog Tryd.f15 (OpenSpec.ofChange Rows.signRefusesSpec) false w args)
      (Rows.signRefusesSpec.post enc Tryd.prog Tryd.f15 false true false false) := by
  refine returnsInHanded_of_change_and (C := Tryd.checked) (X := fun w _ => laidMetH Tryd.prog Rows.signRefusesRow.laid w) (fun _ _ _ hh h => h.of_heap hh) own started (by kernel_rfl) Tryd.func15
    (ChangeSpec.witness_shaped (enc := enc) (C := Tryd.checked) (os := os) (X := fun w _ => laidMetH Tryd.prog Rows.signRefusesRow.laid w) false (World.laidAll Tryd.prog os Rows.signRefusesRow.laid) #[.int .i64 0, .slice none 0 0] 8 (World.laidAll_os _ _ _)
      (World.shaped_of_ZipB (by kernel_rfl) (by kernel_rfl)) (by kernel_rfl) (by kernel_rfl) (by kernel_rfl)
      (by rw [MakeChecks.laidMetH_plain _ _ _ (by kernel_rfl)]; exact laidMet_laidAll _ (by kernel_rfl) (by kernel_rfl))) ?_
  intro W base args ds gs before hval0 hW _ hsz hL _
  have hval : ∀ (j : Nat) t v, Tryd.f15.params[j]? = some t → args[j]? = some v → Value.okWide Tryd.prog W .any base t v := hval0
  have hW' := hW
  obtain ⟨p, q, hA0, hV, rfl, hfz, hnd⟩ := hW
  have hA : DataW.TrodAll enc Tryd.prog W 0 (fun _ => true) true Tryd.f15.params.toList args.toList ds p := hA0
  rw [Tryd.params15] at hA hval
  obtain ⟨v0, vs0, d0, ds0, p0, q0, hargs, rfl, rfl, h0, r0⟩ := trodAll_cons hA
  obtain ⟨v1, vs1, d1, ds1, p1, q1, rfl, rfl, rfl, h1, r1⟩ := trodAll_cons r0
  obtain ⟨rfl, rfl, rfl⟩ := trodAll_nil r1
  obtain rfl : args = #[v0, v1] := by cases args; simp_all
  obtain ⟨rfl, rfl⟩ := trodVars_none hV
  obtain ⟨a0, rfl, rfl, rfl, w0⟩ := open_int Tryd.underlying3 (hval 0 3 v0 rfl rfl) h0
  have k1 := h1
  have lt1 : ∀ x ∈ p1, x.block < W.heap.size := by obtain ⟨m, hm⟩ := k1; exact DataW.trod_lt m _ _ _ hm
  obtain ⟨l1, hr1, hn1⟩ := open_bytes (hval 1 22 v1 rfl rfl) h1
  have hl1 : l1.length ≤ 140737488351232 := by
    rcases hn1 with rfl | ⟨e, s, rfl, hle⟩
    · simp
    · have := sized_slice hsz (j := 1) (t := 22) (e := 5) rfl rfl Tryd.underlying22
      rw [show Tryd.checked.prog.bytesOf 5 = 1 by kernel_rfl] at this
      simp only [reachBytes] at this
      omega
  clear hA0 hval0
  refine (refuses_any a0 W (wf_i64 w0).1 (wf_i64 w0).2 hr1 hl1 (of_laid1 hL)).mono fun e W' ⟨he, bel⟩ => ?_
  subst he
  exact ⟨_, rfl, _, _, _, [], _, [], hW', trodAll_mk1 (shut_bool Tryd.underlying4 _), (trodAll_cons_mk (shut_int Tryd.underlying3 w0) (trodAll_cons_mk (Below.trod laidOut (by kernel_rfl) (of_decide_eq_true (by kernel_rfl)) k1 bel lt1) trodAll_mk0)), rfl, bel.frame _, fun h => by cases h⟩
theorem signRefuses_joined : joinedFacts Tryd.prog 15 Tryd.f15 Rows.signRefusesSpec Rows.signRefusesRow = true := by
  unfold joinedFacts
  rw [pf_enter, pf_final, pf_make, laidOut]
  kernel_rfl
theorem signRefuses_holds : Rows.SignRefusesSaid :=
  OpenClaim.holds_of_wide 15 Tryd.f15 rfl rfl rfl rfl rfl rfl rfl ⟨rfl, rfl, rfl, rfl, rfl⟩ rfl rfl rfl rfl rfl (by kernel_rfl) Tryd.func15 signRefuses_joined
    (of_decide_eq_true (by kernel_rfl)) (by unfold Func.isWrapper; first | (rw [if_pos (by decide +kernel)]; kernel_rfl) | (rw [if_neg (by decide +kernel)]; exact ⟨rfl, rfl⟩))
    (fun os started H enc _ => signRefuses_lifted os started H enc)
theorem signRefuses_text : Rows.signRefusesRow.wfByText (OpenSpec.ofChange Rows.signRefusesSpec) = true := by kernel_rfl
theorem signRefuses_goes : false = Rows.signRefusesRow.goesBy Tryd.prog := by kernel_rfl
theorem signRefuses_named : Tryd.prog.funcNamed Rows.signRefusesRow.func = some 15 := by kernel_rfl
/-- THE STATEMENT. -/
theorem signRefuses_card : Rows.SignRefusesCardSaid :=
  Claim7.holds_tied_plain_at .later [] [.data] true (true, "56b4b673ce5b81a10224e4cc67f188a948c3e1947eb90615302df7a7aaced5e9") false
    signRefuses_holds (fun _ h => by cases h) signRefuses_text (fun _ h => by cases h) signRefuses_row_tie rfl ⟨rfl, rfl⟩ pf_main rfl
    (fun f fn hf hfn => by
      obtain rfl : f = 15 := Option.some.inj (signRefuses_named.symm.trans hf) |>.symm
      obtain rfl : fn = Tryd.f15 := (Option.some.inj (Tryd.func15.symm.trans hfn)).symm
      exact ⟨pf_looks, fun j t ht => by
        rw [Tryd.params15] at ht
        have hm : t ∈ [3, 22] := by simpa using Array.mem_of_getElem? ht
        have hall : ([3, 22].all fun u => !Tryd.prog.wantsStandIn u) = true := by kernel_rfl
        exact (show Tryd.prog.wantsStandIn t = false by simpa using List.all_eq_true.1 hall t hm)⟩)
    signRefuses_goes

end Go.Proofs.YteihfboomegpkaaDoor
