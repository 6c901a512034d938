/- Law SignVerifies: the frame. -/
import Derived.Test.YteihfboomegpkaaDoorHd
import Derived.Test.YteihfboomegpkaaDoorL9b
import Derived.Test.YteihfboomegpkaaDoorP9
namespace Go.Proofs.YteihfboomegpkaaDoor
open Go.ChangeShapes Go.WideShapes Go.ChangeAt Go.RowKit
set_option linter.unusedVariables false

set_option maxRecDepth 100000 in
set_option maxHeartbeats 2000000 in
theorem signVerifies_lifted (os : Os) (started : os.Started) (H : Type) (enc : TypeId × Value → H) :
    ReturnsInHanded {} Tryd.checked os 13 .any (fun w args => (Rows.signVerifiesSpec.pre enc Tryd.prog Tryd.f13 [] false w args ∧ laidMetH Tryd.prog Rows.signVerifiesRow.laid w) ∧ sizedMet enc Tryd.prog Tryd.f13 (OpenSpec.ofChange Rows.signVerifiesSpec) false w args)
      (Rows.signVerifiesSpec.post enc Tryd.prog Tryd.f13 false true false false) := by
  refine returnsInHanded_of_change_and (C := Tryd.checked) (X := fun w _ => laidMetH Tryd.prog Rows.signVerifiesRow.laid w) (fun _ _ _ hh h => h.of_heap hh) own started (by kernel_rfl) Tryd.func13
    (ChangeSpec.witness_shaped (enc := enc) (C := Tryd.checked) (os := os) (X := fun w _ => laidMetH Tryd.prog Rows.signVerifiesRow.laid w) false (World.laidAll Tryd.prog os Rows.signVerifiesRow.laid) #[.int .i64 0, .slice none 0 0, .agg #[.int .i64 0, .int .i64 0]] 8 (World.laidAll_os _ _ _)
      (World.shaped_of_ZipB (by kernel_rfl) (by kernel_rfl)) (by kernel_rfl) (by kernel_rfl) (by kernel_rfl)
      (by rw [MakeChecks.laidMetH_plain _ _ _ (by kernel_rfl)]; exact laidMet_laidAll _ (by kernel_rfl) (by kernel_rfl))) ?_
  intro W base args ds gs before hval0 hW _ hsz hL _
  have hval : ∀ (j : Nat) t v, Tryd.f13.params[j]? = some t → args[j]? = some v → Value.okWide Tryd.prog W .any base t v := hval0
  have hW' := hW
  obtain ⟨p, q, hA0, hV, rfl, hfz, hnd⟩ := hW
  have hA : DataW.TrodAll enc Tryd.prog W 0 (fun _ => true) true Tryd.f13.params.toList args.toList ds p := hA0
  rw [Tryd.params13] at hA hval
  obtain ⟨v0, vs0, d0, ds0, p0, q0, hargs, rfl, rfl, h0, r0⟩ := trodAll_cons hA
  obtain ⟨v1, vs1, d1, ds1, p1, q1, rfl, rfl, rfl, h1, r1⟩ := trodAll_cons r0
  obtain ⟨v2, vs2, d2, ds2, p2, q2, rfl, rfl, rfl, h2, r2⟩ := trodAll_cons r1
  obtain ⟨rfl, rfl, rfl⟩ := trodAll_nil r2
  obtain rfl : args = #[v0, v1, v2] := by cases args; simp_all
  obtain ⟨rfl, rfl⟩ := trodVars_none hV
  obtain ⟨a0, rfl, rfl, rfl, w0⟩ := open_int Tryd.underlying3 (hval 0 3 v0 rfl rfl) h0
  have k1 := h1
  have lt1 : ∀ x ∈ p1, x.block < W.heap.size := by obtain ⟨m, hm⟩ := k1; exact DataW.trod_lt m _ _ _ hm
  obtain ⟨l1, hr1, hn1⟩ := open_bytes (hval 1 22 v1 rfl rfl) h1
  have hl1 : l1.length ≤ 140737488351232 := by
    rcases hn1 with rfl | ⟨e, s, rfl, hle⟩
    · simp
    · have := sized_slice hsz (j := 1) (t := 22) (e := 5) rfl rfl Tryd.underlying22
      rw [show Tryd.checked.prog.bytesOf 5 = 1 by kernel_rfl] at this
      simp only [reachBytes] at this
      omega
  have k2 := h2
  have lt2 : ∀ x ∈ p2, x.block < W.heap.size := by obtain ⟨m, hm⟩ := k2; exact DataW.trod_lt m _ _ _ hm
  obtain ⟨e2, s2, rfl, we2, ws2⟩ := open_sig (hval 2 47 v2 rfl rfl) h2
  clear hA0 hval0
  refine (verifies_any a0 e2 s2 W hr1 hl1 ⟨(of_laid2 hL).1, (of_laid2 hL).2⟩).mono fun e W' ⟨he, bel⟩ => ?_
  subst he
  exact ⟨_, rfl, _, _, _, [], _, [], hW', trodAll_mk1 (shut_bool Tryd.underlying4 _), (trodAll_cons_mk (shut_int Tryd.underlying3 w0) (trodAll_cons_mk (Below.trod laidOut (by kernel_rfl) (of_decide_eq_true (by kernel_rfl)) k1 bel lt1) (trodAll_cons_mk (Below.trod laidOut (by kernel_rfl) (of_decide_eq_true (by kernel_rfl)) k2 bel lt2) trodAll_mk0))), rfl, bel.frame _, fun h => by cases h⟩
theorem signVerifies_joined : joinedFacts Tryd.prog 13 Tryd.f13 Rows.signVerifiesSpec Rows.signVerifiesRow = true := by
  unfold joinedFacts
  rw [pf_enter, pf_final, pf_make, laidOut]
  kernel_rfl
theorem signVerifies_holds : Rows.SignVerifiesSaid :=
  OpenClaim.holds_of_wide 13 Tryd.f13 rfl rfl rfl rfl rfl rfl rfl ⟨rfl, rfl, rfl, rfl, rfl⟩ rfl rfl rfl rfl rfl (by kernel_rfl) Tryd.func13 signVerifies_joined
    (of_decide_eq_true (by kernel_rfl)) (by unfold Func.isWrapper; first | (rw [if_pos (by decide +kernel)]; kernel_rfl) | (rw [if_neg (by decide +kernel)]; exact ⟨rfl, rfl⟩))
    (fun os started H enc _ => signVerifies_lifted os started H enc)
theorem signVerifies_text : Rows.signVerifiesRow.wfByText (OpenSpec.ofChange Rows.signVerifiesSpec) = true := by kernel_rfl
theorem signVerifies_goes : false = Rows.signVerifiesRow.goesBy Tryd.prog := by kernel_rfl
theorem signVerifies_named : Tryd.prog.funcNamed Rows.signVerifiesRow.func = some 13 := by kernel_rfl
/-- THE STATEMENT. -/
theorem signVerifies_card : Rows.SignVerifiesCardSaid :=
  Claim7.holds_tied_plain_at .later [] [.data, .data] true (true, "56b4b673ce5b81a10224e4cc67f188a948c3e1947eb90615302df7a7aaced5e9") false
    signVerifies_holds (fun _ h => by cases h) signVerifies_text (fun _ h => by cases h) signVerifies_row_tie rfl ⟨rfl, rfl⟩ pf_main rfl
    (fun f fn hf hfn => by
      obtain rfl : f = 13 := Option.some.inj (signVerifies_named.symm.trans hf) |>.symm
      obtain rfl : fn = Tryd.f13 := (Option.some.inj (Tryd.func13.symm.trans hfn)).symm
      exact ⟨pf_looks, fun j t ht => by
        rw [Tryd.params13] at ht
        have hm : t ∈ [3, 22, 47] := by simpa using Array.mem_of_getElem? ht
        have hall : ([3, 22, 47].all fun u => !Tryd.prog.wantsStandIn u) = true := by kernel_rfl
        exact (show Tryd.prog.wantsStandIn t = false by simpa using List.all_eq_true.1 hall t hm)⟩)
    signVerifies_goes

end Go.Proofs.YteihfboomegpkaaDoor
