/- Parts Ke Kf Kg of the proof. -/
import Derived.Test.YtkjplpmogfmhkaaGreatDoorVbc
import Derived.Deep.CutRange
import Derived.Test.YtkjplpmogfmhkaaGreatDoorVax
namespace Go.Proofs.YtkjplpmogfmhkaaGreatDoor
open Go.RowKit
set_option linter.unusedVariables false
set_option maxRecDepth 100000
theorem RdK.one {w : World} {k : Nat} {v : Value} {xs : List Value} (h : RdK w k v xs) : v.oneCell' = true := by
  obtain ⟨A, n, c, rfl, _⟩ := h
  rfl
theorem poS_new {w w1 : World} {R L T : Value} {day : Int} {roots links targets : List NC} (b : Ext w w1) (h1 : RdN w1 R roots) (h2 : RdN w1 L links) (h3 : RdN w1 T targets) :
    ∃ wc, wc = (w1.alloc (.cells #[.slice none 0 0, .slice none 0 0, .slice none 0 0, .int .i64 0] 53)).setRow w1.heap.size (poRow R L T day) ∧ PoS w w1.heap.size R L T day roots links targets wc ∧ Ext w1 wc := by
  have e : Ext w1 ((w1.alloc (.cells #[.slice none 0 0, .slice none 0 0, .slice none 0 0, .int .i64 0] 53)).setRow w1.heap.size (poRow R L T day)) := ext_setRow ((Below.refl _ _).alloc (Nat.le_refl _) _) (Nat.le_refl _) _
  exact ⟨_, rfl, ⟨b.tr e, row_at (heap_alloc_new' w1 _), RdK.ext h1 e, RdK.ext h2 e, RdK.ext h3 e⟩, e⟩
theorem dir_false {roots links : List NC} {c : NC} {day : Int} (h : npK roots links c day = 0) (hn : (npL roots links c day).length ≠ 2) : dirB roots day c = false := by
  cases hd : dirB roots day c with
  | false => rfl
  | true =>
    obtain ⟨r, _, hr⟩ := List.any_eq_true.1 hd
    exact absurd (path_dir h hr) hn
theorem ov_false {roots links : List NC} {c : NC} {day : Int} (h : npK roots links c day = 0) (hn : (npL roots links c day).length = 4) : ovB roots links day c = false := by
  cases hd : ovB roots links day c with
  | false => rfl
  | true =>
    obtain ⟨r, _, hr⟩ := List.any_eq_true.1 hd
    obtain ⟨l, hl, hp⟩ := List.any_eq_true.1 hr
    exact absurd hn (path_ov h hl hp)
theorem on_sm {c : NC} {day : Int} (h : onN c day = 0) : smN c := by
  unfold onN at h
  split at h
  · rename_i q; exact sm_ofN q
  · rename_i q; exact absurd h q
theorem chain_on {day : Int} : ∀ (l : List NC) (a : NC), chainB day (a :: l) = true → onN a day = 0 → ∀ x ∈ a :: l, onN x day = 0
  | [], a, _, h, x, hx => by rw [List.mem_singleton.1 hx]; exact h
  | b :: l, a, hc, h, x, hx => by
    have hc : (folB day a b && chainB day (b :: l)) = true := hc
    rw [Bool.and_eq_true] at hc
    rcases List.mem_cons.1 hx with rfl | hx
    · exact h
    · exact chain_on l b hc.2 (fol_of hc.1).2.2.2.2.2.1 x hx
theorem proven_sm {roots l : List NC} {day : Int} (h : provenB roots l day = true) : smL l := by
  match l, h with
  | a :: b :: t, h =>
    obtain ⟨q1, q2, q3, q4, q5⟩ := proven_head h
    intro x hx
    rcases List.mem_cons.1 hx with rfl | hx
    · exact on_sm q3
    · exact on_sm (chain_on t b q5 (fol_of q4).2.2.2.2.2.1 x hx)
set_option maxHeartbeats 8000000 in
theorem proves_any {v : Value} {l : List Int} (tg : Int) (w : World) (h : RdI w .i64 v l) (hw : ∀ x ∈ l, wf64 x) (ht : wf64 tg) (E : Env w) :
    Calls Tryz.prog 7 #[v, .int .i64 tg] w (RetQ w (.bool true)) := by
  have HA := Lib.hid (fun W (e : Ext w W) => awake30_any W (E.ext e))
  have HL1 := Lib.hid (mlight_any w h)
  have HP := Lib.hid (fun (q : l.length ≤ 80) => pools_any w h hw (by omega) E.r)
  have HM := Lib.hid (fun (n : Int) W (hn : n ≤ 4611686018427387904) => mod_any tg n W ht.1 ht.2 hn)
  have HE := Lib.hid E
  clear E h hw ht
  go_enter Tryz.func7, Tryz.ntmps7
  go_wp2_with fail
  refine (HL1.out).mono ?_
  rintro e w' ⟨rfl, rfl⟩
  by_cases a1 : l.length ≤ 80
  case neg =>
    rw [decide_eq_false a1]
    go_wp2_with fail
    refine (HA.out _ (Below.refl _ _)).mono ?_
    rintro e w3 ⟨rfl, b3⟩
    go_wp2_with fail
    go_ret
    exact ⟨rfl, b3⟩
  rw [decide_eq_true a1]
  have HP := Lib.hid (HP.out a1)
  clear a1 HL1
  go_wp2_with fail
  refine (HP.out).mono ?_
  rintro e w1 ⟨b1, R, L, T, roots, links, targets, day, rfl, rR, rL, rT, sR, sL, sT, nR, nL, nT, nT2, d0, d1⟩
  obtain ⟨wc, hwc, Z0, ec⟩ := poS_new (day := day) b1 rR rL rT
  have H1 := Lib.hid (poRow_one (day := day) rR.one rL.one rT.one)
  have rR1 := Lib.hid rR.one
  have rL1 := Lib.hid rL.one
  have rT1 := Lib.hid rT.one
  have HALL := Lib.hid (heap_alloc_new' w1 (.cells #[.slice none 0 0, .slice none 0 0, .slice none 0 0, .int .i64 0] 53))
  clear HP b1 rR rL rT
  go_upto_region 4 with (refine wpRow_store rfl 53 _ _ rfl rfl w1.heap.size (poRow R L T day) rfl rfl 53 #[.slice none 0 0, .slice none 0 0, .slice none 0 0, .int .i64 0] HALL.out info_po rfl H1.out ?_)
  rw [← hwc]
  clear hwc HALL
  generalize w1.heap.size = P at *
  obtain ⟨AT, cT, eT, hcT, hmT, hTT⟩ := Z0.rT.cellsAt
  subst eT
  have hmi := modI_bd (x := tg) (m := (targets.length : Int)) (by omega)
  have HMT := Lib.hid (fun W => HM.out (targets.length : Int) W (by omega))
  obtain ⟨k, hk⟩ : ∃ k : Nat, modI tg (targets.length : Int) = (k : Int) := ⟨(modI tg (targets.length : Int)).toNat, by omega⟩
  rw [hk] at hmi HMT
  have hkl : k < targets.length := by omega
  obtain ⟨c, hc⟩ : ∃ c, targets[k]? = some c := ⟨_, List.getElem?_eq_getElem hkl⟩
  have HSC := Lib.hid (sT c (List.mem_of_getElem? hc))
  obtain ⟨bT, oT, rfl, hbT, hC⟩ := hTT k c hc
  have wi1 : IntKind.i64.wrap ((k : Int)) = (k : Int) := IntWalk.i64_in _ (by omega)
  have zi1 : (0 : Int) ≤ (k : Int) := by omega
  have li1 : (k : Int) < (targets.length : Int) := by omega
  have ti1 : ((k : Int)).toNat = k := by omega
  unfold maxLen at hmT
  have HSP := Lib.hid (And.intro sR (And.intro sL sT))
  have HZ := Lib.hid Z0
  have HDY := Lib.hid (And.intro d0 d1)
  clear hk hc hTT hbT sR sL sT d0 d1
  refine Gt.wp_region_X (r := RG ncT (fun k => wc.heap.size ≤ k)) 11 (by kernel_rfl) (by kernel_rfl) ?_
  simp only [List.take_succ_cons, List.take_zero, List.drop_succ_cons, List.drop_zero]
  intro wq hw1
  have LR : ∀ m : (RG ncT (fun k => wc.heap.size ≤ k)).Lt wq, RgS ncT (fun k => wc.heap.size ≤ k) wc m.1 := fun m => RgS.tr hw1 m.2
  have LB : ∀ m : (RG ncT (fun k => wc.heap.size ≤ k)).Lt wq, Ext wc m.1 := fun m => (LR m).below (fun _ h => h) (Nat.le_refl _)
  have p2 := fun m : (RG ncT (fun k => wc.heap.size ≤ k)).Lt wq => (HZ.out.po.ext (LB m)).c2
  have pl := fun m : (RG ncT (fun k => wc.heap.size ≤ k)).Lt wq => (HZ.out.po.ext (LB m)).lt
  have kc0 := fun m : (RG ncT (fun k => wc.heap.size ≤ k)).Lt wq => (hC m.1 (LB m)).1
  have kc1 := fun m : (RG ncT (fun k => wc.heap.size ≤ k)).Lt wq => (hC m.1 (LB m)).2.1
  have kc2 := fun m : (RG ncT (fun k => wc.heap.size ≤ k)).Lt wq => (hC m.1 (LB m)).2.2.1
  have kc3 := fun m : (RG ncT (fun k => wc.heap.size ≤ k)).Lt wq => (hC m.1 (LB m)).2.2.2.1
  have kc4 := fun m : (RG ncT (fun k => wc.heap.size ≤ k)).Lt wq => (hC m.1 (LB m)).2.2.2.2.1
  have kc5 := fun m : (RG ncT (fun k => wc.heap.size ≤ k)).Lt wq => (hC m.1 (LB m)).2.2.2.2.2.1
  have kc6 := fun m : (RG ncT (fun k => wc.heap.size ≤ k)).Lt wq => (hC m.1 (LB m)).2.2.2.2.2.2.1
  have kc7 := fun m : (RG ncT (fun k => wc.heap.size ≤ k)).Lt wq => (hC m.1 (LB m)).2.2.2.2.2.2.2.1
  have kc8 := fun m : (RG ncT (fun k => wc.heap.size ≤ k)).Lt wq => (hC m.1 (LB m)).2.2.2.2.2.2.2.2.1
  have kc9 := fun m : (RG ncT (fun k => wc.heap.size ≤ k)).Lt wq => (hC m.1 (LB m)).2.2.2.2.2.2.2.2.2.1
  have kc10 := fun m : (RG ncT (fun k => wc.heap.size ≤ k)).Lt wq => (hC m.1 (LB m)).2.2.2.2.2.2.2.2.2.2
  repeat (refine Gt.wpX_pure (by first | exact trivial | exact ⟨_, rfl, rfl, rfl⟩) rfl rfl rfl rfl rfl (fun K hK => ?_); go_big_quiet_op; refine hK _ ?_; clear hK K)
  refine Gt.wpX_callFn (by first | exact trivial | exact ⟨_, rfl, rfl, rfl⟩) (.int .i64 (k : Int)) (args := [.int .i64 tg, .int .i64 (targets.length : Int)]) rfl rfl rfl rfl (by kernel_rfl) rfl rfl (fun m => (HMT.out m.1).mono fun _ _ ⟨h1, h2⟩ => ⟨h1, h2 ▸ Below.refl _ _⟩) ?_
  simp only [Act.put, List.setIfInBounds_toArray, List.set_cons_zero, List.set_cons_succ]
  repeat (refine Gt.wpX_pure (by first | exact trivial | exact ⟨_, rfl, rfl, rfl⟩) rfl rfl rfl rfl rfl (fun K hK => ?_); go_big_quiet_op; refine hK _ ?_; clear hK K)
  refine Gt.wpX_allocN11 wc.heap.size (fun m => (LB m).size) (stable_GNcB _ _ _) (by first | exact trivial | exact ⟨_, rfl, rfl, rfl⟩) rfl rfl rfl rfl ?_
  simp only [Act.put, List.setIfInBounds_toArray, List.set_cons_zero, List.set_cons_succ]
  refine Gt.wpX_store (by first | exact trivial | exact ⟨_, rfl, rfl, rfl⟩) (GNcQ wc.heap.size c) (fun f => f 6) (fun _ => ncV c) rfl rfl rfl rfl rfl (fun _ => rfl) (fun _ => rfl) GNcQ.ext GNcQ.st (fun m f hf => ?_) ?_
  · obtain ⟨g, e9, hg, bg⟩ := hf 6 _ rfl rfl
    rw [e9]
    obtain ⟨w9, q1, q2, q3⟩ := nc_store bg c
    exact ⟨w9, q1, ⟨nc_ncT, q3 _ hg⟩, g, rfl, hg, q2⟩
  refine Gt.wpX_endG rfl (fun m f hf hqs => ?_)
  have hq : GNcQ wc.heap.size c (f 6) m.1 := hqs _ List.mem_cons_self
  obtain ⟨gc, e9, hgc, TCC⟩ := hq
  simp only [fillH]
  simp only [Act.put, List.setIfInBounds_toArray, List.set_cons_zero, List.set_cons_succ]
  rw [e9]
  have ZB := Lib.hid (HZ.out.tr (LB m))
  have TB := Lib.hid TCC
  clear hqs hf e9 p2 pl kc0 kc1 kc2 kc3 kc4 kc5 kc6 kc7 kc8 kc9 kc10 LR LB hw1 hC HZ Z0 hmi hkl hgc TCC HMT hcT hmT
  generalize m.1 = wm at *
  clear m wq f
  have HPA := Lib.hid (npath_any c day wm ZB.out.rR ZB.out.rL HSP.out.1 HSP.out.2.1 HSC.out (by omega) (HE.out.ext ZB.out.ext).d)
  have p0 := ZB.out.po.c0
  have p1 := ZB.out.po.c1
  have p3 := ZB.out.po.c3
  have pl := ZB.out.po.lt
  go_upto_region 5 with fail
  go_wp2_with (refine wpList_load_row rfl 56 _ rfl gc rfl 56 (ncRow c) (0, 0) _ TB.out.row Tryz.underlying56 rfl info_nc ?_)
  refine HPA.out.mono ?_
  rintro e w3 ⟨b3, Aa, ca, rfl, ra⟩
  have Z3 := Lib.hid (ZB.out.tr b3)
  have T3 := Lib.hid (TB.out.ext b3)
  have HPP := Lib.hid (fun (q : npK roots links c day = 0) => path_parts q)
  have HD1 := Lib.hid (show npK roots links c day = 0 → ((npL roots links c day).length = 2 ∨ dirB roots day c = false) from fun q => by
    by_cases h : (npL roots links c day).length = 2
    · exact .inl h
    · exact .inr (dir_false q h))
  have HD2 := Lib.hid (show npK roots links c day = 0 → ((npL roots links c day).length ≠ 4 ∨ ovB roots links day c = false) from fun q => by
    by_cases h : (npL roots links c day).length = 4
    · exact .inr (ov_false q h)
    · exact .inl h)
  clear ZB TB HPA p0 p1 p3 pl b3
  generalize npK roots links c day = kk at *
  generalize npL roots links c day = la at *
  by_cases hk0 : kk = 0
  case neg =>
    have hb : (kk != 0) = true := by simpa using hk0
    go_wp2_with fail
    refine (HA.out _ Z3.out.ext).mono ?_
    rintro e w5 ⟨rfl, b5⟩
    have X5 := Lib.hid (Z3.out.ext.tr b5)
    go_wp2_with fail
    go_ret
    exact ⟨rfl, X5.out⟩
  subst hk0
  obtain ⟨r, m, hla, hpr, hlk⟩ := HPP.out rfl
  have HE1 := Lib.hid (HD1.out rfl)
  have HE2 := Lib.hid (HD2.out rfl)
  clear HD1 HD2
  have hlen : la.length = m.length + 2 := by rw [hla]; simp
  have hlast : la[m.length + 1]? = some c := by rw [hla]; simp
  obtain ⟨Aa', ca', ea, hca, hma, hAA⟩ := RdN.cellsAt ra
  injection ea with e1 e2 e3
  subst e1 e3
  obtain ⟨bA, oA, rfl, hbA, hCA⟩ := hAA _ c hlast
  have rtk : RdN w3 (.slice (some ⟨bA, oA, none⟩) (m.length + 1) ca) (r :: m) := by
    have q := RdN.take ra (m.length + 1) (by omega)
    rw [hla, show (r :: m ++ [c]).take (m.length + 1) = r :: m from by rw [show m.length + 1 = (r :: m).length from rfl, List.take_left]] at q
    exact q
  have HRA := Lib.hid ra
  have HTK := Lib.hid rtk
  have HPR := Lib.hid hpr
  have HLK := Lib.hid (show (linksN (r :: m) : Int) = (la.length : Int) - 2 by rw [hlk, hlen]; omega)
  have hm1 : m.length + 1 = la.length - 1 := by omega
  rw [hm1] at hCA HTK
  have hN : 2 ≤ la.length := by omega
  have HSA := Lib.hid (proven_sm hpr)
  clear hla hpr hlk hlen hlast hAA HPP hm1 rtk ra e2
  generalize la.length = N at *
  unfold maxLen at hma
  have wi2 : IntKind.i64.wrap (((N : Int) - 1)) = ((N : Int) - 1) := IntWalk.i64_in _ (by omega)
  have zi2 : (0 : Int) ≤ ((N : Int) - 1) := by omega
  have li2 : ((N : Int) - 1) < (N : Int) := by omega
  have ti2 : (((N : Int) - 1)).toNat = N - 1 := by omega
  have hw2 : IntKind.i64.wrap ((N : Int) - 2) = (N : Int) - 2 := IntWalk.i64_in _ (by omega)
  have hN2 : decide ((N : Int) < 2) = false := decide_eq_false (by omega)
  have hs1 : (N : Int) - 1 ≤ (ca : Int) := by omega
  have hs2 : N - 1 ≤ ca := by omega
  have hne := fun W => run_neqNc W c c
  unfold ncV at hne
  have hcc : (!decide (c = c)) = false := by simp
  rw [hcc] at hne
  clear hcc
  have HPV := Lib.hid (fun W (e : Ext w3 W) => nationalchain_proven day W (RdK.ext Z3.out.rR e) (RdK.ext HRA.out e) HSA.out (HE.out.ext (Z3.out.ext.tr e)).d)
  rw [HPR.out] at HPV
  have HLV := Lib.hid (fun W (e : Ext w3 W) => linksN_any W (RdK.ext HTK.out e))
  rw [HLK.out] at HLV
  go_upto_region 8 with fail
  refine Gd.wp_region_X 34 (by kernel_rfl) (by kernel_rfl) ?_
  simp only [List.take_succ_cons, List.take_zero, List.drop_succ_cons, List.drop_zero]
  intro wq hw1
  have LL : ∀ m : Lt wq, Ext w3 m.1 := fun m => hw1.tr m.2
  have p0 := fun m : Lt wq => (Z3.out.po.ext (LL m)).c0
  have p3 := fun m : Lt wq => (Z3.out.po.ext (LL m)).c3
  have pl := fun m : Lt wq => (Z3.out.po.ext (LL m)).lt
  have nl := fun m : Lt wq => (T3.out.ext (LL m)).lt
  have ka0 := fun m : Lt wq => (hCA m.1 (LL m)).1
  have ka1 := fun m : Lt wq => (hCA m.1 (LL m)).2.1
  have ka2 := fun m : Lt wq => (hCA m.1 (LL m)).2.2.1
  have ka3 := fun m : Lt wq => (hCA m.1 (LL m)).2.2.2.1
  have ka4 := fun m : Lt wq => (hCA m.1 (LL m)).2.2.2.2.1
  have ka5 := fun m : Lt wq => (hCA m.1 (LL m)).2.2.2.2.2.1
  have ka6 := fun m : Lt wq => (hCA m.1 (LL m)).2.2.2.2.2.2.1
  have ka7 := fun m : Lt wq => (hCA m.1 (LL m)).2.2.2.2.2.2.2.1
  have ka8 := fun m : Lt wq => (hCA m.1 (LL m)).2.2.2.2.2.2.2.2.1
  have ka9 := fun m : Lt wq => (hCA m.1 (LL m)).2.2.2.2.2.2.2.2.2.1
  have ka10 := fun m : Lt wq => (hCA m.1 (LL m)).2.2.2.2.2.2.2.2.2.2
  have kd0 := fun m : Lt wq => (T3.out.ext (LL m)).cells.1
  have kd1 := fun m : Lt wq => (T3.out.ext (LL m)).cells.2.1
  have kd2 := fun m : Lt wq => (T3.out.ext (LL m)).cells.2.2.1
  have kd3 := fun m : Lt wq => (T3.out.ext (LL m)).cells.2.2.2.1
  have kd4 := fun m : Lt wq => (T3.out.ext (LL m)).cells.2.2.2.2.1
  have kd5 := fun m : Lt wq => (T3.out.ext (LL m)).cells.2.2.2.2.2.1
  have kd6 := fun m : Lt wq => (T3.out.ext (LL m)).cells.2.2.2.2.2.2.1
  have kd7 := fun m : Lt wq => (T3.out.ext (LL m)).cells.2.2.2.2.2.2.2.1
  have kd8 := fun m : Lt wq => (T3.out.ext (LL m)).cells.2.2.2.2.2.2.2.2.1
  have kd9 := fun m : Lt wq => (T3.out.ext (LL m)).cells.2.2.2.2.2.2.2.2.2.1
  have kd10 := fun m : Lt wq => (T3.out.ext (LL m)).cells.2.2.2.2.2.2.2.2.2.2
  repeat (refine Gd.wpX_pure (by first | exact trivial | exact ⟨_, rfl, rfl, rfl⟩) rfl rfl rfl rfl rfl (fun K hK => ?_); go_big_quiet_op; refine hK _ ?_; clear hK K)
  refine Gd.wpX_callFn (by first | exact trivial | exact ⟨_, rfl, rfl, rfl⟩) (.bool true) (args := [R, .slice (some ⟨bA, oA, none⟩) N ca, .int .i64 day]) rfl rfl rfl rfl (by kernel_rfl) rfl rfl (fun m => (HPV.out m.1 (LL m)).mono fun _ _ ⟨h1, h2⟩ => ⟨h1, h2⟩) ?_
  simp only [Act.put, List.setIfInBounds_toArray, List.set_cons_zero, List.set_cons_succ]
  repeat (refine Gd.wpX_pure (by first | exact trivial | exact ⟨_, rfl, rfl, rfl⟩) rfl rfl rfl rfl rfl (fun K hK => ?_); go_big_quiet_op; refine hK _ ?_; clear hK K)
  refine Gd.wpX_callFn (by first | exact trivial | exact ⟨_, rfl, rfl, rfl⟩) (.int .i64 ((N : Int) - 2)) (args := [.slice (some ⟨bA, oA, none⟩) (N - 1) ca]) rfl rfl rfl rfl (by kernel_rfl) rfl rfl (fun m => (HLV.out m.1 (LL m)).mono fun _ _ ⟨h1, h2⟩ => ⟨h1, h2⟩) ?_
  simp only [Act.put, List.setIfInBounds_toArray, List.set_cons_zero, List.set_cons_succ]
  repeat (refine Gd.wpX_pure (by first | exact trivial | exact ⟨_, rfl, rfl, rfl⟩) rfl rfl rfl rfl rfl (fun K hK => ?_); go_big_quiet_op; refine hK _ ?_; clear hK K)
  refine Gd.wpX_end0 (fun m => ?_)
  have Z4 := Lib.hid (Z3.out.tr (LL m))
  have T4 := Lib.hid (T3.out.ext (LL m))
  clear LL p0 p3 pl nl ka0 ka1 ka2 ka3 ka4 ka5 ka6 ka7 ka8 ka9 ka10 kd0 kd1 kd2 kd3 kd4 kd5 kd6 kd7 kd8 kd9 kd10 hw1 Z3 T3 HPV HLV hCA hbA hne HRA HTK
  generalize m.1 = w4 at *
  clear m
  show wpList _ _ _ _ _ _
  go_wp2_with fail
  refine (HA.out _ Z4.out.ext).mono ?_
  rintro e w5 ⟨rfl, b5⟩
  have Z5 := Lib.hid (Z4.out.tr b5)
  have T5 := Lib.hid (T4.out.ext b5)
  clear Z4 T4 b5
  by_cases h2 : N = 2
  · have hb2 : ((N : Int) == 2) = true := by simp; omega
    have hb4 : ((N : Int) != 4) = true := by simp; omega
    clear h2
    go_wp2_with fail
    go_ret
    exact ⟨rfl, Z5.out.ext⟩
  · have hb2 : ((N : Int) == 2) = false := by simp; omega
    have HDF := Lib.hid (HE1.out.resolve_left h2)
    have HPR2 := Lib.hid Z5.out.po.row
    have HDI := Lib.hid (direct_any (T := (.slice (some ⟨bT, oT, none⟩) targets.length cT)) c day w5 Z5.out.rR Z5.out.rL rR1.out rL1.out rT1.out HSP.out.1 HSP.out.2.1 HSC.out (HE.out.ext Z5.out.ext).d)
    rw [HDF.out] at HDI
    clear h2
    have p0 := Z5.out.po.c0
    have p1 := Z5.out.po.c1
    have p2 := Z5.out.po.c2
    have p3 := Z5.out.po.c3
    have pl := Z5.out.po.lt
    have nl := T5.out.lt
    have kd0 := T5.out.cells.1
    have kd1 := T5.out.cells.2.1
    have kd2 := T5.out.cells.2.2.1
    have kd3 := T5.out.cells.2.2.2.1
    have kd4 := T5.out.cells.2.2.2.2.1
    have kd5 := T5.out.cells.2.2.2.2.2.1
    have kd6 := T5.out.cells.2.2.2.2.2.2.1
    have kd7 := T5.out.cells.2.2.2.2.2.2.2.1
    have kd8 := T5.out.cells.2.2.2.2.2.2.2.2.1
    have kd9 := T5.out.cells.2.2.2.2.2.2.2.2.2.1
    have kd10 := T5.out.cells.2.2.2.2.2.2.2.2.2.2
    go_wp2_with fail
    refine HDI.out.mono ?_
    rintro e w6 ⟨rfl, b6⟩
    have Z6 := Lib.hid (Z5.out.tr b6)
    have T6 := Lib.hid (T5.out.ext b6)
    clear Z5 T5 b6 HDI HPR2 p0 p1 p2 p3 pl nl kd0 kd1 kd2 kd3 kd4 kd5 kd6 kd7 kd8 kd9 kd10
    by_cases h4 : N = 4
    · have hb4 : ((N : Int) != 4) = false := by simp; omega
      have HOF := Lib.hid (HE2.out.resolve_left (fun q => q h4))
      have HPR3 := Lib.hid Z6.out.po.row
      have HOV := Lib.hid (over_any (T := (.slice (some ⟨bT, oT, none⟩) targets.length cT)) c day w6 Z6.out.rR Z6.out.rL rR1.out rL1.out rT1.out HSP.out.1 HSP.out.2.1 HSC.out (HE.out.ext Z6.out.ext).d)
      rw [HOF.out] at HOV
      clear h4
      have p0 := Z6.out.po.c0
      have p1 := Z6.out.po.c1
      have p2 := Z6.out.po.c2
      have p3 := Z6.out.po.c3
      have pl := Z6.out.po.lt
      have nl := T6.out.lt
      have kd0 := T6.out.cells.1
      have kd1 := T6.out.cells.2.1
      have kd2 := T6.out.cells.2.2.1
      have kd3 := T6.out.cells.2.2.2.1
      have kd4 := T6.out.cells.2.2.2.2.1
      have kd5 := T6.out.cells.2.2.2.2.2.1
      have kd6 := T6.out.cells.2.2.2.2.2.2.1
      have kd7 := T6.out.cells.2.2.2.2.2.2.2.1
      have kd8 := T6.out.cells.2.2.2.2.2.2.2.2.1
      have kd9 := T6.out.cells.2.2.2.2.2.2.2.2.2.1
      have kd10 := T6.out.cells.2.2.2.2.2.2.2.2.2.2
      go_wp2_with fail
      refine HOV.out.mono ?_
      rintro e w7 ⟨rfl, b7⟩
      have X7 := Lib.hid (Z6.out.ext.tr b7)
      go_wp2_with fail
      go_ret
      exact ⟨rfl, X7.out⟩
    · have hb4 : ((N : Int) != 4) = true := by simp; omega
      clear h4
      go_wp2_with fail
      go_ret
      exact ⟨rfl, Z6.out.ext⟩
end Go.Proofs.YtkjplpmogfmhkaaGreatDoor
namespace Go.Proofs.YtkjplpmogfmhkaaGreatDoor
open Go.RowKit
set_option linter.unusedVariables false
set_option maxRecDepth 100000
theorem npL_sm (roots links : List NC) (c : NC) (day : Int) : smL (npL roots links c day) := by
  by_cases h : npK roots links c day = 0
  · obtain ⟨r, m, _, h2, _⟩ := path_parts h
    exact proven_sm h2
  · unfold npL
    rw [if_neg h]
    exact fun x hx => by cases hx
theorem fold_bd {day : Int} {out pool : List NC} {C : Nat} : ∀ (l next : List NC), (∀ x ∈ l, x ∈ pool) → next.length + restT pool next ≤ C → (l.foldl (linkStep day out) next).length + restT pool (l.foldl (linkStep day out) next) ≤ C
  | [], next, _, h => h
  | x :: l, next, hl, h => by
    rw [List.foldl_cons]
    refine fold_bd l _ (fun y hy => hl y (List.mem_cons_of_mem _ hy)) ?_
    unfold linkStep
    split
    · rename_i q
      exact app_bd (hl x List.mem_cons_self) q.2.1 h
    · exact h
theorem trT_bd {day : Int} {pool : List NC} {C : Nat} : ∀ (n : Nat) (out : List NC), out.length + restT pool out ≤ C → (trT pool day n out).length + restT pool (trT pool day n out) ≤ C
  | 0, out, h => h
  | n + 1, out, h => by
    have hr : (roundT pool day out).length + restT pool (roundT pool day out) ≤ C := fold_bd pool out (fun _ hx => hx) h
    unfold trT
    split
    · exact h
    · exact trT_bd n _ hr
theorem trust_len (roots pool : List NC) (st : List UInt8) (day : Int) : (trustT roots pool st day).length ≤ roots.length + pool.length := by
  have h1 := firstT_len st day roots
  have h2 : restT pool (firstT roots st day) ≤ pool.length := List.length_filter_le _ _
  have h3 := trT_bd (day := day) (pool := pool) (C := roots.length + pool.length) (pool.length + 1) (firstT roots st day) (by omega)
  unfold trustT
  omega
theorem bk_len {day : Int} {L : List NC} (hL : Lad day L) {x : NC} {b : List NC} (h : BkN day L x b) : ∀ y, fstF day L x = some y → b.length ≤ L.idxOf y + 1 := by
  induction h with
  | root h1 h2 => exact fun y _ => by simp
  | step h1 h2 h3 IH =>
    intro y' hy'
    rw [h1] at hy'
    obtain rfl := Option.some.inj hy'
    obtain ⟨z, hz, hlt⟩ := hL _ (fstF_mem h1).1 h2
    have := IH z hz
    rw [List.length_cons]
    omega
theorem npL_len (roots links : List NC) (c : NC) (day : Int) : (npL roots links c day).length ≤ roots.length + links.length + 1 := by
  by_cases h : npK roots links c day = 0
  · obtain ⟨p, h1, h2, _⟩ := npK_zero h
    obtain ⟨b, hb, rfl⟩ := pathT_some h1
    rw [h2, List.length_reverse, List.length_cons]
    have ht := trust_len roots links c.st day
    have hy : ∃ y, fstF day (trustT roots links c.st day) c = some y := by
      cases hb with
      | root k1 k2 => exact ⟨_, k1⟩
      | step k1 k2 k3 => exact ⟨_, k1⟩
    obtain ⟨y, hy⟩ := hy
    have h3 := bk_len (lad_trust roots links c.st day) hb y hy
    have h4 := idx_lt (fstF_mem hy).1
    omega
  · unfold npL
    rw [if_neg h]
    exact Nat.zero_le _
theorem stable_GCtE : StableP GCt := fun _ _ _ _ h => h
set_option maxHeartbeats 8000000 in
theorem made30_any {v1 : Value} {l : List Int} (tg pat what bye : Int) (w : World) (h : RdI w .i64 v1 l) (hw : ∀ x ∈ l, wf64 x) (ht : wf64 tg) (hp : wf64 pat) (hwh : wf64 what) (hby : wf64 bye) (E : Env w) :
    Calls Tryz.prog 8 #[v1, .int .i64 tg, .int .i64 pat, .int .i64 what, .int .i64 bye] w (RetQ w (.bool true)) := by
  have HA := Lib.hid (fun W (e : Ext w W) => awake30_any W (E.ext e))
  have HL1 := Lib.hid (mlight_any w h)
  have HP := Lib.hid (fun (q : l.length ≤ 80) => pools_any w h hw (by omega) E.r)
  have HM := Lib.hid (fun (n : Int) W (hn : n ≤ 4611686018427387904) => mod_any tg n W ht.1 ht.2 hn)
  have HMP := Lib.hid (fun (n : Int) W (hn : n ≤ 4611686018427387904) => mod_any pat n W hp.1 hp.2 hn)
  have HMB := Lib.hid (fun W => mod_any bye 50 W hby.1 hby.2 (by omega))
  have hb50 := modI_bd (x := bye) (m := 50) (by omega)
  generalize modI bye 50 = m50 at *
  have HSPO := Lib.hid (fun (y : NC) W (hy : smN y) => spoil_any y what m50 W hy hwh hb50.1 (by omega))
  have HE := Lib.hid E
  clear E h hw ht hp hwh hby hb50
  go_enter Tryz.func8, Tryz.ntmps8
  go_wp2_with fail
  refine (HL1.out).mono ?_
  rintro e w' ⟨rfl, rfl⟩
  by_cases a1 : l.length ≤ 80
  case neg =>
    rw [decide_eq_false a1]
    go_wp2_with fail
    refine (HA.out _ (Below.refl _ _)).mono ?_
    rintro e w3 ⟨rfl, b3⟩
    go_wp2_with fail
    go_ret
    exact ⟨rfl, b3⟩
  rw [decide_eq_true a1]
  have HP := Lib.hid (HP.out a1)
  clear a1 HL1
  go_wp2_with fail
  refine (HP.out).mono ?_
  rintro e w1 ⟨b1, R, L, T, roots, links, targets, day, rfl, rR, rL, rT, sR, sL, sT, nR, nL, nT, nT2, d0, d1⟩
  obtain ⟨wc, hwc, Z0, ec⟩ := poS_new (day := day) b1 rR rL rT
  have H1 := Lib.hid (poRow_one (day := day) rR.one rL.one rT.one)
  have HALL := Lib.hid (heap_alloc_new' w1 (.cells #[.slice none 0 0, .slice none 0 0, .slice none 0 0, .int .i64 0] 53))
  clear HP b1 rR rL rT
  go_upto_region 4 with (refine wpRow_store rfl 53 _ _ rfl rfl w1.heap.size (poRow R L T day) rfl rfl 53 #[.slice none 0 0, .slice none 0 0, .slice none 0 0, .int .i64 0] HALL.out info_po rfl H1.out ?_)
  rw [← hwc]
  clear hwc HALL
  generalize w1.heap.size = P at *
  obtain ⟨AT, cT, eT, hcT, hmT, hTT⟩ := Z0.rT.cellsAt
  subst eT
  have hmi := modI_bd (x := tg) (m := (targets.length : Int)) (by omega)
  have HMT := Lib.hid (fun W => HM.out (targets.length : Int) W (by omega))
  obtain ⟨k, hk⟩ : ∃ k : Nat, modI tg (targets.length : Int) = (k : Int) := ⟨(modI tg (targets.length : Int)).toNat, by omega⟩
  rw [hk] at hmi HMT
  have hkl : k < targets.length := by omega
  obtain ⟨c, hc⟩ : ∃ c, targets[k]? = some c := ⟨_, List.getElem?_eq_getElem hkl⟩
  have HSC := Lib.hid (sT c (List.mem_of_getElem? hc))
  obtain ⟨bT, oT, rfl, hbT, hC⟩ := hTT k c hc
  have wi1 : IntKind.i64.wrap ((k : Int)) = (k : Int) := IntWalk.i64_in _ (by omega)
  have zi1 : (0 : Int) ≤ (k : Int) := by omega
  have li1 : (k : Int) < (targets.length : Int) := by omega
  have ti1 : ((k : Int)).toNat = k := by omega
  unfold maxLen at hmT
  have HSP := Lib.hid (And.intro sR (And.intro sL sT))
  have HZ := Lib.hid Z0
  have HDY := Lib.hid (And.intro d0 d1)
  clear hk hc hTT hbT sR sL sT d0 d1
  refine Gt.wp_region_X (r := RG ncT (fun k => wc.heap.size ≤ k)) 11 (by kernel_rfl) (by kernel_rfl) ?_
  simp only [List.take_succ_cons, List.take_zero, List.drop_succ_cons, List.drop_zero]
  intro wq hw1
  have LR : ∀ m : (RG ncT (fun k => wc.heap.size ≤ k)).Lt wq, RgS ncT (fun k => wc.heap.size ≤ k) wc m.1 := fun m => RgS.tr hw1 m.2
  have LB : ∀ m : (RG ncT (fun k => wc.heap.size ≤ k)).Lt wq, Ext wc m.1 := fun m => (LR m).below (fun _ h => h) (Nat.le_refl _)
  have p2 := fun m : (RG ncT (fun k => wc.heap.size ≤ k)).Lt wq => (HZ.out.po.ext (LB m)).c2
  have pl := fun m : (RG ncT (fun k => wc.heap.size ≤ k)).Lt wq => (HZ.out.po.ext (LB m)).lt
  have kc0 := fun m : (RG ncT (fun k => wc.heap.size ≤ k)).Lt wq => (hC m.1 (LB m)).1
  have kc1 := fun m : (RG ncT (fun k => wc.heap.size ≤ k)).Lt wq => (hC m.1 (LB m)).2.1
  have kc2 := fun m : (RG ncT (fun k => wc.heap.size ≤ k)).Lt wq => (hC m.1 (LB m)).2.2.1
  have kc3 := fun m : (RG ncT (fun k => wc.heap.size ≤ k)).Lt wq => (hC m.1 (LB m)).2.2.2.1
  have kc4 := fun m : (RG ncT (fun k => wc.heap.size ≤ k)).Lt wq => (hC m.1 (LB m)).2.2.2.2.1
  have kc5 := fun m : (RG ncT (fun k => wc.heap.size ≤ k)).Lt wq => (hC m.1 (LB m)).2.2.2.2.2.1
  have kc6 := fun m : (RG ncT (fun k => wc.heap.size ≤ k)).Lt wq => (hC m.1 (LB m)).2.2.2.2.2.2.1
  have kc7 := fun m : (RG ncT (fun k => wc.heap.size ≤ k)).Lt wq => (hC m.1 (LB m)).2.2.2.2.2.2.2.1
  have kc8 := fun m : (RG ncT (fun k => wc.heap.size ≤ k)).Lt wq => (hC m.1 (LB m)).2.2.2.2.2.2.2.2.1
  have kc9 := fun m : (RG ncT (fun k => wc.heap.size ≤ k)).Lt wq => (hC m.1 (LB m)).2.2.2.2.2.2.2.2.2.1
  have kc10 := fun m : (RG ncT (fun k => wc.heap.size ≤ k)).Lt wq => (hC m.1 (LB m)).2.2.2.2.2.2.2.2.2.2
  repeat (refine Gt.wpX_pure (by first | exact trivial | exact ⟨_, rfl, rfl, rfl⟩) rfl rfl rfl rfl rfl (fun K hK => ?_); go_big_quiet_op; refine hK _ ?_; clear hK K)
  refine Gt.wpX_callFn (by first | exact trivial | exact ⟨_, rfl, rfl, rfl⟩) (.int .i64 (k : Int)) (args := [.int .i64 tg, .int .i64 (targets.length : Int)]) rfl rfl rfl rfl (by kernel_rfl) rfl rfl (fun m => (HMT.out m.1).mono fun _ _ ⟨h1, h2⟩ => ⟨h1, h2 ▸ Below.refl _ _⟩) ?_
  simp only [Act.put, List.setIfInBounds_toArray, List.set_cons_zero, List.set_cons_succ]
  repeat (refine Gt.wpX_pure (by first | exact trivial | exact ⟨_, rfl, rfl, rfl⟩) rfl rfl rfl rfl rfl (fun K hK => ?_); go_big_quiet_op; refine hK _ ?_; clear hK K)
  refine Gt.wpX_allocN11 wc.heap.size (fun m => (LB m).size) (stable_GNcB _ _ _) (by first | exact trivial | exact ⟨_, rfl, rfl, rfl⟩) rfl rfl rfl rfl ?_
  simp only [Act.put, List.setIfInBounds_toArray, List.set_cons_zero, List.set_cons_succ]
  refine Gt.wpX_store (by first | exact trivial | exact ⟨_, rfl, rfl, rfl⟩) (GNcQ wc.heap.size c) (fun f => f 12) (fun _ => ncV c) rfl rfl rfl rfl rfl (fun _ => rfl) (fun _ => rfl) GNcQ.ext GNcQ.st (fun m f hf => ?_) ?_
  · obtain ⟨g, e9, hg, bg⟩ := hf 12 _ rfl rfl
    rw [e9]
    obtain ⟨w9, q1, q2, q3⟩ := nc_store bg c
    exact ⟨w9, q1, ⟨nc_ncT, q3 _ hg⟩, g, rfl, hg, q2⟩
  refine Gt.wpX_endG rfl (fun m f hf hqs => ?_)
  have hq : GNcQ wc.heap.size c (f 12) m.1 := hqs _ List.mem_cons_self
  obtain ⟨gc, e9, hgc, TCC⟩ := hq
  simp only [fillH]
  simp only [Act.put, List.setIfInBounds_toArray, List.set_cons_zero, List.set_cons_succ]
  rw [e9]
  have ZB := Lib.hid (HZ.out.tr (LB m))
  have TB := Lib.hid TCC
  clear hqs hf e9 p2 pl kc0 kc1 kc2 kc3 kc4 kc5 kc6 kc7 kc8 kc9 kc10 LR LB hw1 hC HZ Z0 hmi hkl hgc TCC HMT hcT hmT
  generalize m.1 = wm at *
  clear m wq f
  have HPA := Lib.hid (npath_any c day wm ZB.out.rR ZB.out.rL HSP.out.1 HSP.out.2.1 HSC.out (by omega) (HE.out.ext ZB.out.ext).d)
  have p0 := ZB.out.po.c0
  have p1 := ZB.out.po.c1
  have p3 := ZB.out.po.c3
  have pl := ZB.out.po.lt
  go_upto_region 5 with fail
  go_wp2_with (refine wpList_load_row rfl 56 _ rfl gc rfl 56 (ncRow c) (0, 0) _ TB.out.row Tryz.underlying56 rfl info_nc ?_)
  refine HPA.out.mono ?_
  rintro e w6 ⟨b6, Aa, ca, rfl, ra⟩
  have Z6 := Lib.hid (ZB.out.tr b6)
  have T6 := Lib.hid (TB.out.ext b6)
  have HRA := Lib.hid ra
  clear ZB TB HPA p0 p1 p3 pl b6 ra
  have HPB := Lib.hid (refnpathO_any c day w6 Z6.out.rR Z6.out.rL HSP.out.1 HSP.out.2.1 HSC.out (by omega) (HE.out.ext Z6.out.ext).r)
  have p0 := Z6.out.po.c0
  have p1 := Z6.out.po.c1
  have p3 := Z6.out.po.c3
  have pl := Z6.out.po.lt
  go_wp2_with (refine wpList_load_row rfl 56 _ rfl gc rfl 56 (ncRow c) (0, 0) _ T6.out.row Tryz.underlying56 rfl info_nc ?_)
  refine HPB.out.mono ?_
  rintro e w7 ⟨b7, Ab, cb, rfl, ob⟩
  have Z7 := Lib.hid (Z6.out.tr b7)
  have T7 := Lib.hid (T6.out.ext b7)
  have HRA7 := Lib.hid (RdK.ext HRA.out b7)
  have HOB := Lib.hid ob
  have HB7 := Lib.hid b7
  have HSL := Lib.hid (npL_sm roots links c day)
  have hNl := npL_len roots links c day
  clear T6 HRA HPB p0 p1 p3 pl b7 ob
  generalize npK roots links c day = kk at *
  generalize npL roots links c day = la at *
  have hkk : (kk != kk) = false := by simp
  obtain ⟨N, hN⟩ : ∃ N, la.length = N := ⟨_, rfl⟩
  have HLN := Lib.hid hN
  rw [hN] at HRA7 HOB ⊢
  clear hN
  go_upto_region 7 with fail
  refine Gd.wp_region_X 29 (by kernel_rfl) (by kernel_rfl) ?_
  simp only [List.take_succ_cons, List.take_zero, List.drop_succ_cons, List.drop_zero]
  intro wq hw1
  have LL : ∀ m : Lt wq, Ext w7 m.1 := fun m => hw1.tr m.2
  have p0 := fun m : Lt wq => (Z7.out.po.ext (LL m)).c0
  have p1 := fun m : Lt wq => (Z7.out.po.ext (LL m)).c1
  have p3 := fun m : Lt wq => (Z7.out.po.ext (LL m)).c3
  have pl := fun m : Lt wq => (Z7.out.po.ext (LL m)).lt
  have k0 := fun m : Lt wq => (T7.out.ext (LL m)).cells.1
  have kl := fun m : Lt wq => (T7.out.ext (LL m)).lt
  have HSM := Lib.hid (show ∀ m : Lt wq, Calls Tryz.prog 40 #[.slice Aa N ca, .slice Ab N cb] m.1 (RetQ m.1 (.bool true)) from fun m => sameN_any m.1 (RdK.ext HRA7.out (LL m)) (RdK.ext HOB.out.rd (LL m)))
  have HTA := Lib.hid (show ∀ m : Lt wq, Calls Tryz.prog 41 #[R, L, .string (bstr c.st), .int .i64 day] m.1 fun e w'' => ∃ v, e = .returned v ∧ Ext m.1 w'' ∧ GSl (trustT roots links c.st day) v w'' from fun m => (trusted_any c.st day m.1 (RdK.ext Z7.out.rR (LL m)) (RdK.ext Z7.out.rL (LL m)) HSP.out.1 HSP.out.2.1 (by omega) (HE.out.ext (Z7.out.ext.tr (LL m))).d).mono fun _ _ h => h.gsl)
  have HTB := Lib.hid (show ∀ m : Lt wq, Calls Tryz.prog 42 #[R, L, .string (bstr c.st), .int .i64 day] m.1 fun e w'' => ∃ v, e = .returned v ∧ Ext m.1 w'' ∧ GSl (trustT roots links c.st day) v w'' from fun m => (reftrusted_any c.st day m.1 (RdK.ext Z7.out.rR (LL m)) (RdK.ext Z7.out.rL (LL m)) HSP.out.1 HSP.out.2.1 (by omega) (HE.out.ext (Z7.out.ext.tr (LL m))).r).mono fun _ _ h => by
    obtain ⟨v, h1, h2⟩ := h
    obtain ⟨A, n, hv⟩ := h2.form
    exact ⟨v, h1, h2.ext, A, _, n, hv, rfl, hv ▸ h2.rd⟩)
  repeat (refine Gd.wpX_pure (by first | exact trivial | exact ⟨_, rfl, rfl, rfl⟩) rfl rfl rfl rfl rfl (fun K hK => ?_); go_big_quiet_op; refine hK _ ?_; clear hK K)
  refine Gd.wpX_callFn (by first | exact trivial | exact ⟨_, rfl, rfl, rfl⟩) (.bool true) (args := [.slice Aa N ca, .slice Ab N cb]) rfl rfl rfl rfl (by kernel_rfl) rfl rfl (fun m => (HSM.out m).mono fun _ _ ⟨h1, h2⟩ => ⟨h1, h2⟩) ?_
  simp only [Act.put, List.setIfInBounds_toArray, List.set_cons_zero, List.set_cons_succ]
  repeat (refine Gd.wpX_pure (by first | exact trivial | exact ⟨_, rfl, rfl, rfl⟩) rfl rfl rfl rfl rfl (fun K hK => ?_); go_big_quiet_op; refine hK _ ?_; clear hK K)
  refine Gd.wpX_callF (by first | exact trivial | exact ⟨_, rfl, rfl, rfl⟩) (GSl (trustT roots links c.st day)) (stable_GSl _) (fun _ => [R, L, .string (bstr c.st), .int .i64 day]) rfl rfl rfl rfl rfl (by kernel_rfl) rfl (fun _ => rfl) (fun m f hf => HTA.out m) ?_
  simp only [Act.put, List.setIfInBounds_toArray, List.set_cons_zero, List.set_cons_succ]
  repeat (refine Gd.wpX_pure (by first | exact trivial | exact ⟨_, rfl, rfl, rfl⟩) rfl rfl rfl rfl rfl (fun K hK => ?_); go_big_quiet_op; refine hK _ ?_; clear hK K)
  refine Gd.wpX_callF (by first | exact trivial | exact ⟨_, rfl, rfl, rfl⟩) (GSl (trustT roots links c.st day)) (stable_GSl _) (fun _ => [R, L, .string (bstr c.st), .int .i64 day]) rfl rfl rfl rfl rfl (by kernel_rfl) rfl (fun _ => rfl) (fun m f hf => HTB.out m) ?_
  simp only [Act.put, List.setIfInBounds_toArray, List.set_cons_zero, List.set_cons_succ]
  refine Gd.wpX_callF (by first | exact trivial | exact ⟨_, rfl, rfl, rfl⟩) (fun v _ => v = .bool true) (stable_eq _) (fun f => [f 73, f 82]) rfl rfl rfl rfl rfl (by kernel_rfl) rfl (fun _ => rfl) (fun m f hf => ?_) ?_
  · obtain ⟨A1, n1, c1, e1, hn1, r1⟩ := hf 73 _ rfl rfl
    obtain ⟨A2, n2, c2, e2, hn2, r2⟩ := hf 82 _ rfl rfl
    rw [e1, e2]
    exact (sameN_any m.1 r1 r2).mono fun _ _ ⟨h1, h2⟩ => ⟨_, h1, h2, rfl⟩
  simp only [Act.put, List.setIfInBounds_toArray, List.set_cons_zero, List.set_cons_succ]
  refine Gd.wpX_endL (fun m f hf => ?_)
  have e83 := hf 83 _ rfl
  simp only [fillH]
  simp only [Act.put, List.setIfInBounds_toArray, List.set_cons_zero, List.set_cons_succ]
  rw [e83]
  have Z8 := Lib.hid (Z7.out.tr (LL m))
  have HOB8 := Lib.hid (HOB.out.ext (LL m))
  have HB8 := Lib.hid (HB7.out.tr (LL m))
  clear hf e83 LL p0 p1 p3 pl k0 kl HSM HTA HTB hw1 Z7 T7 HRA7 HOB HB7
  generalize m.1 = w8 at *
  generalize f 73 = f73 at *
  generalize f 82 = f82 at *
  clear m f
  show wpList _ _ _ _ _ _
  have HRB8 := Lib.hid HOB8.out.rd
  by_cases hN0 : 0 < N
  case neg =>
    have hb0 : ¬ ((0 : Int) < (N : Int)) := by omega
    have HPV := Lib.hid (fun W (e : Ext w8 W) => nationalchain_proven day W (RdK.ext Z8.out.rR e) (RdK.ext HRB8.out e) HSL.out (HE.out.ext (Z8.out.ext.tr e)).d)
    have HRV := Lib.hid (fun W (e : Ext w8 W) => traveldocref30_proven day W (RdK.ext Z8.out.rR e) (RdK.ext HRB8.out e) HSL.out (HE.out.ext (Z8.out.ext.tr e)).r)
    generalize provenB roots la day = d at HPV HRV
    go_upto_region 12 with fail
    refine Gd.wp_region_X 17 (by kernel_rfl) (by kernel_rfl) ?_
    simp only [List.take_succ_cons, List.take_zero, List.drop_succ_cons, List.drop_zero]
    intro wq hw1
    have LL : ∀ m : Lt wq, Ext w8 m.1 := fun m => hw1.tr m.2
    have p0 := fun m : Lt wq => (Z8.out.po.ext (LL m)).c0
    have p3 := fun m : Lt wq => (Z8.out.po.ext (LL m)).c3
    have pl := fun m : Lt wq => (Z8.out.po.ext (LL m)).lt
    refine Gd.wpX_callFn (by first | exact trivial | exact ⟨_, rfl, rfl, rfl⟩) (.bool true) (args := []) rfl rfl rfl rfl (by kernel_rfl) rfl rfl (fun m => (HA.out m.1 (Z8.out.ext.tr (LL m))).mono fun _ _ ⟨h1, h2⟩ => ⟨h1, h2⟩) ?_
    simp only [Act.put, List.setIfInBounds_toArray, List.set_cons_zero, List.set_cons_succ]
    repeat (refine Gd.wpX_pure (by first | exact trivial | exact ⟨_, rfl, rfl, rfl⟩) rfl rfl rfl rfl rfl (fun K hK => ?_); go_big_quiet_op; refine hK _ ?_; clear hK K)
    refine Gd.wpX_callFn (by first | exact trivial | exact ⟨_, rfl, rfl, rfl⟩) (.bool d) (args := [R, .slice Ab N cb, .int .i64 day]) rfl rfl rfl rfl (by kernel_rfl) rfl rfl (fun m => (HPV.out m.1 (LL m)).mono fun _ _ ⟨h1, h2⟩ => ⟨h1, h2⟩) ?_
    simp only [Act.put, List.setIfInBounds_toArray, List.set_cons_zero, List.set_cons_succ]
    repeat (refine Gd.wpX_pure (by first | exact trivial | exact ⟨_, rfl, rfl, rfl⟩) rfl rfl rfl rfl rfl (fun K hK => ?_); go_big_quiet_op; refine hK _ ?_; clear hK K)
    refine Gd.wpX_callFn (by first | exact trivial | exact ⟨_, rfl, rfl, rfl⟩) (.bool d) (args := [R, .slice Ab N cb, .int .i64 day]) rfl rfl rfl rfl (by kernel_rfl) rfl rfl (fun m => (HRV.out m.1 (LL m)).mono fun _ _ ⟨h1, h2⟩ => ⟨h1, h2⟩) ?_
    simp only [Act.put, List.setIfInBounds_toArray, List.set_cons_zero, List.set_cons_succ]
    repeat (refine Gd.wpX_pure (by first | exact trivial | exact ⟨_, rfl, rfl, rfl⟩) rfl rfl rfl rfl rfl (fun K hK => ?_); go_big_quiet_op; refine hK _ ?_; clear hK K)
    refine Gd.wpX_end0 (fun m => ?_)
    have XM := Lib.hid (Z8.out.ext.tr (LL m))
    clear LL p0 p3 pl hw1
    generalize m.1 = w20 at *
    clear m
    show wpList _ _ _ _ _ _
    go_wp2_with fail
    go_ret
    exact ⟨rfl, XM.out⟩
  case pos =>
  have hb0 : (0 : Int) < (N : Int) := by omega
  go_wp2_with fail
  have hN1 : N ≤ 15 := by have := HLN.out; omega
  refine (HMP.out (N : Int) w8 (by omega)).mono ?_
  rintro e w' ⟨rfl, rfl⟩
  have hmi := modI_bd (x := pat) (m := (N : Int)) (by omega)
  obtain ⟨q, hq⟩ : ∃ q : Nat, modI pat (N : Int) = (q : Int) := ⟨(modI pat (N : Int)).toNat, by omega⟩
  rw [hq] at hmi
  rw [hq]
  have hql : q < la.length := by have := HLN.out; omega
  obtain ⟨y, hy⟩ : ∃ y, la[q]? = some y := ⟨_, List.getElem?_eq_getElem hql⟩
  have HSY := Lib.hid (HSL.out y (List.mem_of_getElem? hy))
  obtain ⟨Ab', cb', eb, hcb, hmb, hEL⟩ := RdN.cellsAt HRB8.out
  injection eb with e1 e2 e3
  subst e1 e3
  clear e2
  obtain ⟨bY, oY, rfl, hbY, hC⟩ := hEL q y hy
  have wi2 : IntKind.i64.wrap ((q : Int)) = (q : Int) := IntWalk.i64_in _ (by omega)
  have zi2 : (0 : Int) ≤ (q : Int) := by omega
  have li2 : (q : Int) < (N : Int) := by omega
  have ti2 : ((q : Int)).toNat = q := by omega
  unfold maxLen at hmb
  clear hEL hq hy hmi
  go_upto_region 11 with fail
  refine Gd.wp_region_X 10 (by kernel_rfl) (by kernel_rfl) ?_
  simp only [List.take_succ_cons, List.take_zero, List.drop_succ_cons, List.drop_zero]
  intro wq hw1
  have LL : ∀ m : Lt wq, Ext w8 m.1 := fun m => hw1.tr m.2
  have kc0 := fun m : Lt wq => (hC m.1 (LL m)).1
  have kc1 := fun m : Lt wq => (hC m.1 (LL m)).2.1
  have kc2 := fun m : Lt wq => (hC m.1 (LL m)).2.2.1
  have kc3 := fun m : Lt wq => (hC m.1 (LL m)).2.2.2.1
  have kc4 := fun m : Lt wq => (hC m.1 (LL m)).2.2.2.2.1
  have kc5 := fun m : Lt wq => (hC m.1 (LL m)).2.2.2.2.2.1
  have kc6 := fun m : Lt wq => (hC m.1 (LL m)).2.2.2.2.2.2.1
  have kc7 := fun m : Lt wq => (hC m.1 (LL m)).2.2.2.2.2.2.2.1
  have kc8 := fun m : Lt wq => (hC m.1 (LL m)).2.2.2.2.2.2.2.2.1
  have kc9 := fun m : Lt wq => (hC m.1 (LL m)).2.2.2.2.2.2.2.2.2.1
  have kc10 := fun m : Lt wq => (hC m.1 (LL m)).2.2.2.2.2.2.2.2.2.2
  repeat (refine Gd.wpX_pure (by first | exact trivial | exact ⟨_, rfl, rfl, rfl⟩) rfl rfl rfl rfl rfl (fun K hK => ?_); go_big_quiet_op; refine hK _ ?_; clear hK K)
  refine Gd.wpX_callFn (by first | exact trivial | exact ⟨_, rfl, rfl, rfl⟩) (.int .i64 m50) (args := [.int .i64 bye, .int .i64 50]) rfl rfl rfl rfl (by kernel_rfl) rfl rfl (fun m => (HMB.out m.1).mono fun _ _ ⟨h1, h2⟩ => ⟨h1, h2 ▸ Below.refl _ _⟩) ?_
  simp only [Act.put, List.setIfInBounds_toArray, List.set_cons_zero, List.set_cons_succ]
  refine Gd.wpX_callF (by first | exact trivial | exact ⟨_, rfl, rfl, rfl⟩) GCt stable_GCtE (fun _ => [ncV y, .int .i64 what, .int .i64 m50]) rfl rfl rfl rfl rfl (by kernel_rfl) rfl (fun _ => rfl) (fun m f hf => (HSPO.out y m.1 HSY.out).mono fun e w' ⟨h1, c', h2, h3⟩ => ⟨_, h3, h1, c', rfl, h2⟩) ?_
  simp only [Act.put, List.setIfInBounds_toArray, List.set_cons_zero, List.set_cons_succ]
  refine Gd.wpX_endL (fun m f hf => ?_)
  obtain ⟨c', e102, hc'⟩ := hf 102 _ rfl
  simp only [fillH]
  simp only [Act.put, List.setIfInBounds_toArray, List.set_cons_zero, List.set_cons_succ]
  rw [e102]
  have Z9 := Lib.hid (Z8.out.tr (LL m))
  have HOB9 := Lib.hid (HOB8.out.ext (LL m))
  have HB9 := Lib.hid (HB8.out.tr (LL m))
  have HSC' := Lib.hid hc'
  clear hf e102 LL kc0 kc1 kc2 kc3 kc4 kc5 kc6 kc7 kc8 kc9 kc10 hw1 Z8 HOB8 HB8 HRB8 hC hbY hc'
  generalize m.1 = w9 at *
  clear m f
  show wpList _ _ _ _ _ _
  obtain ⟨gL, eg, hBg, hth, hlt, hc0, o9⟩ := HOB9.out.setAt hql c'
  have hoY : oY = 0 := by injection eg with eg; injection eg
  subst hoY
  obtain rfl : bY = gL := by injection eg with eg; injection eg
  have HTH := Lib.hid hth
  have EX := Lib.hid (show Ext w6 (w9.setCells bY (q * 11) (ncCells c')) from Gb.below HB9.out (Gb.setCells bY _ _ _) hBg)
  have HO9 := Lib.hid o9.rd
  have HSL9 := Lib.hid (show smL (la.set q c') from fun x hx => (List.mem_or_eq_of_mem_set hx).elim (HSL.out x) (fun e => e ▸ HSC'.out))
  clear eg hBg hth hlt hc0 o9 HOB9 HB9
  go_step
  go_step
  go_step
  refine wpMid_store rfl 56 _ _ rfl rfl bY (q * 11) (ncCells c') rfl rfl HTH.out info_nc (ncCells_arr c') ?_
  generalize w9.setCells bY (q * 11) (ncCells c') = w10 at *
  have Z10 := Lib.hid (Z6.out.tr EX.out)
  clear Z9 HTH
  have HPV := Lib.hid (fun W (e : Ext w10 W) => nationalchain_proven day W (RdK.ext Z10.out.rR e) (RdK.ext HO9.out e) HSL9.out (HE.out.ext (Z10.out.ext.tr e)).d)
  have HRV := Lib.hid (fun W (e : Ext w10 W) => traveldocref30_proven day W (RdK.ext Z10.out.rR e) (RdK.ext HO9.out e) HSL9.out (HE.out.ext (Z10.out.ext.tr e)).r)
  generalize provenB roots (la.set q c') day = d at HPV HRV
  go_upto_region 12 with fail
  refine Gd.wp_region_X 17 (by kernel_rfl) (by kernel_rfl) ?_
  simp only [List.take_succ_cons, List.take_zero, List.drop_succ_cons, List.drop_zero]
  intro wq hw1
  have LL : ∀ m : Lt wq, Ext w10 m.1 := fun m => hw1.tr m.2
  have p0 := fun m : Lt wq => (Z10.out.po.ext (LL m)).c0
  have p3 := fun m : Lt wq => (Z10.out.po.ext (LL m)).c3
  have pl := fun m : Lt wq => (Z10.out.po.ext (LL m)).lt
  refine Gd.wpX_callFn (by first | exact trivial | exact ⟨_, rfl, rfl, rfl⟩) (.bool true) (args := []) rfl rfl rfl rfl (by kernel_rfl) rfl rfl (fun m => (HA.out m.1 (Z10.out.ext.tr (LL m))).mono fun _ _ ⟨h1, h2⟩ => ⟨h1, h2⟩) ?_
  simp only [Act.put, List.setIfInBounds_toArray, List.set_cons_zero, List.set_cons_succ]
  repeat (refine Gd.wpX_pure (by first | exact trivial | exact ⟨_, rfl, rfl, rfl⟩) rfl rfl rfl rfl rfl (fun K hK => ?_); go_big_quiet_op; refine hK _ ?_; clear hK K)
  refine Gd.wpX_callFn (by first | exact trivial | exact ⟨_, rfl, rfl, rfl⟩) (.bool d) (args := [R, .slice (some ⟨bY, 0, none⟩) N cb, .int .i64 day]) rfl rfl rfl rfl (by kernel_rfl) rfl rfl (fun m => (HPV.out m.1 (LL m)).mono fun _ _ ⟨h1, h2⟩ => ⟨h1, h2⟩) ?_
  simp only [Act.put, List.setIfInBounds_toArray, List.set_cons_zero, List.set_cons_succ]
  repeat (refine Gd.wpX_pure (by first | exact trivial | exact ⟨_, rfl, rfl, rfl⟩) rfl rfl rfl rfl rfl (fun K hK => ?_); go_big_quiet_op; refine hK _ ?_; clear hK K)
  refine Gd.wpX_callFn (by first | exact trivial | exact ⟨_, rfl, rfl, rfl⟩) (.bool d) (args := [R, .slice (some ⟨bY, 0, none⟩) N cb, .int .i64 day]) rfl rfl rfl rfl (by kernel_rfl) rfl rfl (fun m => (HRV.out m.1 (LL m)).mono fun _ _ ⟨h1, h2⟩ => ⟨h1, h2⟩) ?_
  simp only [Act.put, List.setIfInBounds_toArray, List.set_cons_zero, List.set_cons_succ]
  repeat (refine Gd.wpX_pure (by first | exact trivial | exact ⟨_, rfl, rfl, rfl⟩) rfl rfl rfl rfl rfl (fun K hK => ?_); go_big_quiet_op; refine hK _ ?_; clear hK K)
  refine Gd.wpX_end0 (fun m => ?_)
  have XM := Lib.hid (Z10.out.ext.tr (LL m))
  clear LL p0 p3 pl hw1
  generalize m.1 = w20 at *
  clear m
  show wpList _ _ _ _ _ _
  go_wp2_with fail
  go_ret
  exact ⟨rfl, XM.out⟩
end Go.Proofs.YtkjplpmogfmhkaaGreatDoor
namespace Go.Proofs.YtkjplpmogfmhkaaGreatDoor
open Go.RowKit
set_option linter.unusedVariables false
set_option maxRecDepth 100000
/-- A new list of certificates, in a slot. -/
def GOw (B : Nat) (l : List NC) : VPred := fun v w => ∃ A n c, v = .slice A n c ∧ n = l.length ∧ OwnK w B 56 11 (.slice A n c) (ncsCells l)
theorem stable_GOw (B : Nat) (l : List NC) : StableP (GOw B l) := fun v w w' e ⟨A, n, c, h1, h2, h3⟩ => ⟨A, n, c, h1, h2, h3.ext e⟩
def GNil0 : VPred := fun v _ => ∃ A, v = .slice A 0 0
theorem stable_GNil0 : StableP GNil0 := fun _ _ _ _ h => h
theorem run_bs0N (W : World) : (Instr.buildSlice 51 0 [].toArray).run Tryz.prog W = .ok (.slice (some ⟨W.heap.size, 0, none⟩) 0 0) (W.alloc (.cells #[] 56)) := by go_simp
/-- An append onto an empty list: all that was is as it was. -/
theorem run_app0N {ty : TypeId} {W : World} {B : Nat} {v u : Value} {l : List NC} (h : GNil0 v W) (hr : RdN W u l) (hl : l.length ≤ 1000) (hB : B ≤ W.heap.size) : ∃ v' w'', (Builtin.append_ #[51, 51] ty #[v, u]).run Tryz.prog W = .ok v' w'' ∧ Ext W w'' ∧ GOw B l v' w'' := by
  obtain ⟨A, rfl⟩ := h
  obtain ⟨A2, c2, w'', q1, q2, q3, q4⟩ := run_appKR (P := Tryz.prog) (ty := ty) (k := 11) (n := 0) (m := l.length) (by decide) elemNc (OwnK.empty W W.heap.size 56 11 A) rfl hr (by rw [ncsCells_len]) (ncsCells_one l) (by omega) (by unfold maxLen; omega) (Nat.le_refl _)
  rw [Nat.zero_add] at q1 q2
  rw [List.nil_append] at q2
  exact ⟨_, w'', q1, (Below.refl W.heap.size W).grown q3 (Nat.le_refl _) (fun k hk => by cases A <;> simp [rowOf] at hk), A2, _, c2, rfl, rfl, q2.mono hB⟩
theorem poS_new2 {w w2 : World} {R L T R2 L2 T2 : Value} {day day2 : Int} {roots links targets roots2 links2 targets2 : List NC} (b : Ext w w2) (h1 : RdN w2 R roots) (h2 : RdN w2 L links) (h3 : RdN w2 T targets) (k1 : RdN w2 R2 roots2) (k2 : RdN w2 L2 links2) (k3 : RdN w2 T2 targets2) :
    ∃ wc, wc = ((((w2.alloc (.cells #[.slice none 0 0, .slice none 0 0, .slice none 0 0, .int .i64 0] 53)).alloc (.cells #[.slice none 0 0, .slice none 0 0, .slice none 0 0, .int .i64 0] 53)).setRow w2.heap.size (poRow R L T day)).setRow (w2.heap.size + 1) (poRow R2 L2 T2 day2)) ∧ PoS w w2.heap.size R L T day roots links targets wc ∧ PoS w (w2.heap.size + 1) R2 L2 T2 day2 roots2 links2 targets2 wc := by
  have e0 : Ext w2 ((w2.alloc (.cells #[.slice none 0 0, .slice none 0 0, .slice none 0 0, .int .i64 0] 53)).alloc (.cells #[.slice none 0 0, .slice none 0 0, .slice none 0 0, .int .i64 0] 53)) := ((Below.refl _ _).alloc (Nat.le_refl _) _).alloc (by simp) _
  have e : Ext w2 ((((w2.alloc (.cells #[.slice none 0 0, .slice none 0 0, .slice none 0 0, .int .i64 0] 53)).alloc (.cells #[.slice none 0 0, .slice none 0 0, .slice none 0 0, .int .i64 0] 53)).setRow w2.heap.size (poRow R L T day)).setRow (w2.heap.size + 1) (poRow R2 L2 T2 day2)) := ext_setRow (ext_setRow e0 (Nat.le_refl _) _) (Nat.le_succ _) _
  have g1 := heap_alloc2_old w2 (.cells #[.slice none 0 0, .slice none 0 0, .slice none 0 0, .int .i64 0] 53) (.cells #[.slice none 0 0, .slice none 0 0, .slice none 0 0, .int .i64 0] 53)
  have g2 := heap_alloc2_new w2 (.cells #[.slice none 0 0, .slice none 0 0, .slice none 0 0, .int .i64 0] 53) (.cells #[.slice none 0 0, .slice none 0 0, .slice none 0 0, .int .i64 0] 53)
  refine ⟨_, rfl, ⟨b.tr e, ?_, RdK.ext h1 e, RdK.ext h2 e, RdK.ext h3 e⟩, ⟨b.tr e, ?_, RdK.ext k1 e, RdK.ext k2 e, RdK.ext k3 e⟩⟩
  · exact (setRow_block (by omega)).trans (row_at g1)
  · exact row_at ((setRow_block (by omega)).trans g2)
set_option maxHeartbeats 8000000 in
theorem grows_any {v1 v2 : Value} {l m : List Int} (tg : Int) (w : World) (h : RdI w .i64 v1 l) (h2 : RdI w .i64 v2 m) (hw : ∀ x ∈ l, wf64 x) (hw2 : ∀ x ∈ m, wf64 x) (ht : wf64 tg) (E : Env w) :
    Calls Tryz.prog 9 #[v1, v2, .int .i64 tg] w (RetQ w (.bool true)) := by
  have HA := Lib.hid (fun W (e : Ext w W) => awake30_any W (E.ext e))
  have HL1 := Lib.hid (mlight_any w h)
  have HL2 := Lib.hid (mlight_any w h2)
  have HP := Lib.hid (fun (q : l.length ≤ 80) => pools_any w h hw (by omega) E.r)
  have HP2 := Lib.hid (fun (q : m.length ≤ 80) W (e : Ext w W) => pools_any W (h2.ext e) hw2 (by omega) (E.ext e).r)
  have HM := Lib.hid (fun (n : Int) W (hn : n ≤ 4611686018427387904) => mod_any tg n W ht.1 ht.2 hn)
  have HE := Lib.hid E
  clear E h h2 hw hw2 ht
  go_enter Tryz.func9, Tryz.ntmps9
  go_wp2_with fail
  refine (HL1.out).mono ?_
  rintro e w' ⟨rfl, rfl⟩
  by_cases a1 : l.length ≤ 80
  case neg =>
    rw [decide_eq_false a1]
    go_wp2_with fail
    refine (HA.out _ (Below.refl _ _)).mono ?_
    rintro e w3 ⟨rfl, b3⟩
    go_wp2_with fail
    go_ret
    exact ⟨rfl, b3⟩
  rw [decide_eq_true a1]
  have HP := Lib.hid (HP.out a1)
  clear a1 HL1
  go_wp2_with fail
  refine (HL2.out).mono ?_
  rintro e w' ⟨rfl, rfl⟩
  by_cases a2 : m.length ≤ 80
  case neg =>
    rw [decide_eq_false a2]
    go_wp2_with fail
    refine (HA.out _ (Below.refl _ _)).mono ?_
    rintro e w3 ⟨rfl, b3⟩
    go_wp2_with fail
    go_ret
    exact ⟨rfl, b3⟩
  rw [decide_eq_true a2]
  have HP2 := Lib.hid (fun W e => HP2.out a2 W e)
  clear a2 HL2
  go_wp2_with fail
  refine (HP.out).mono ?_
  rintro e w1 ⟨b1, R, L, T, roots, links, targets, day, rfl, rR, rL, rT, sR, sL, sT, nR, nL, nT, nT2, d0, d1⟩
  go_wp2_with fail
  refine (HP2.out w1 b1).mono ?_
  rintro e w2 ⟨b2, R2, L2, T2, roots2, links2, targets2, day2, rfl, rR2, rL2, rT2, sR2, sL2, sT2, nR2, nL2, nT3, nT4, d2, d3⟩
  obtain ⟨wc, hwc, Z0, Y0⟩ := poS_new2 (day := day) (day2 := day2) (b1.tr b2) (RdK.ext rR b2) (RdK.ext rL b2) (RdK.ext rT b2) rR2 rL2 rT2
  have H1 := Lib.hid (poRow_one (day := day) rR.one rL.one rT.one)
  have H2 := Lib.hid (poRow_one (day := day2) rR2.one rL2.one rT2.one)
  have HALL := Lib.hid (heap_alloc2_old w2 (.cells #[.slice none 0 0, .slice none 0 0, .slice none 0 0, .int .i64 0] 53) (.cells #[.slice none 0 0, .slice none 0 0, .slice none 0 0, .int .i64 0] 53))
  have HALM := Lib.hid (show (((w2.alloc (.cells #[.slice none 0 0, .slice none 0 0, .slice none 0 0, .int .i64 0] 53)).alloc (.cells #[.slice none 0 0, .slice none 0 0, .slice none 0 0, .int .i64 0] 53)).setRow w2.heap.size (poRow R L T day)).heap[w2.heap.size + 1]? = some (.cells #[.slice none 0 0, .slice none 0 0, .slice none 0 0, .int .i64 0] 53 (0, 0)) from (setRow_block (by omega)).trans (heap_alloc2_new w2 (.cells #[.slice none 0 0, .slice none 0 0, .slice none 0 0, .int .i64 0] 53) (.cells #[.slice none 0 0, .slice none 0 0, .slice none 0 0, .int .i64 0] 53)))
  clear HP HP2 b1 b2 rR rL rT rR2 rL2 rT2 sT2 d2 d3 nT3 nT4
  go_upto_region 4 with (first | (refine wpRow_store rfl 53 _ _ rfl rfl w2.heap.size (poRow R L T day) rfl rfl 53 #[.slice none 0 0, .slice none 0 0, .slice none 0 0, .int .i64 0] HALL.out info_po rfl H1.out ?_) | (refine wpRow_store rfl 53 _ _ rfl rfl (w2.heap.size + 1) (poRow R2 L2 T2 day2) rfl rfl 53 #[.slice none 0 0, .slice none 0 0, .slice none 0 0, .int .i64 0] HALM.out info_po rfl H2.out ?_))
  rw [← hwc]
  clear hwc HALL HALM
  generalize w2.heap.size + 1 = P2 at *
  generalize w2.heap.size = P at *
  have HSQ := Lib.hid (And.intro sR2 sL2)
  clear sR2 sL2
  obtain ⟨AT, cT, eT, hcT, hmT, hTT⟩ := Z0.rT.cellsAt
  subst eT
  have hmi := modI_bd (x := tg) (m := (targets.length : Int)) (by omega)
  have HMT := Lib.hid (fun W => HM.out (targets.length : Int) W (by omega))
  obtain ⟨k, hk⟩ : ∃ k : Nat, modI tg (targets.length : Int) = (k : Int) := ⟨(modI tg (targets.length : Int)).toNat, by omega⟩
  rw [hk] at hmi HMT
  have hkl : k < targets.length := by omega
  obtain ⟨c, hc⟩ : ∃ c, targets[k]? = some c := ⟨_, List.getElem?_eq_getElem hkl⟩
  have HSC := Lib.hid (sT c (List.mem_of_getElem? hc))
  obtain ⟨bT, oT, rfl, hbT, hC⟩ := hTT k c hc
  have wi1 : IntKind.i64.wrap ((k : Int)) = (k : Int) := IntWalk.i64_in _ (by omega)
  have zi1 : (0 : Int) ≤ (k : Int) := by omega
  have li1 : (k : Int) < (targets.length : Int) := by omega
  have ti1 : ((k : Int)).toNat = k := by omega
  unfold maxLen at hmT
  have HSP := Lib.hid (And.intro sR (And.intro sL sT))
  have HZ := Lib.hid Z0
  have HDY := Lib.hid (And.intro d0 d1)
  clear hk hc hTT hbT sR sL sT d0 d1
  refine Gt.wp_region_X (r := RG ncT (fun k => wc.heap.size ≤ k)) 11 (by kernel_rfl) (by kernel_rfl) ?_
  simp only [List.take_succ_cons, List.take_zero, List.drop_succ_cons, List.drop_zero]
  intro wq hw1
  have LR : ∀ m : (RG ncT (fun k => wc.heap.size ≤ k)).Lt wq, RgS ncT (fun k => wc.heap.size ≤ k) wc m.1 := fun m => RgS.tr hw1 m.2
  have LB : ∀ m : (RG ncT (fun k => wc.heap.size ≤ k)).Lt wq, Ext wc m.1 := fun m => (LR m).below (fun _ h => h) (Nat.le_refl _)
  have p2 := fun m : (RG ncT (fun k => wc.heap.size ≤ k)).Lt wq => (HZ.out.po.ext (LB m)).c2
  have pl := fun m : (RG ncT (fun k => wc.heap.size ≤ k)).Lt wq => (HZ.out.po.ext (LB m)).lt
  have kc0 := fun m : (RG ncT (fun k => wc.heap.size ≤ k)).Lt wq => (hC m.1 (LB m)).1
  have kc1 := fun m : (RG ncT (fun k => wc.heap.size ≤ k)).Lt wq => (hC m.1 (LB m)).2.1
  have kc2 := fun m : (RG ncT (fun k => wc.heap.size ≤ k)).Lt wq => (hC m.1 (LB m)).2.2.1
  have kc3 := fun m : (RG ncT (fun k => wc.heap.size ≤ k)).Lt wq => (hC m.1 (LB m)).2.2.2.1
  have kc4 := fun m : (RG ncT (fun k => wc.heap.size ≤ k)).Lt wq => (hC m.1 (LB m)).2.2.2.2.1
  have kc5 := fun m : (RG ncT (fun k => wc.heap.size ≤ k)).Lt wq => (hC m.1 (LB m)).2.2.2.2.2.1
  have kc6 := fun m : (RG ncT (fun k => wc.heap.size ≤ k)).Lt wq => (hC m.1 (LB m)).2.2.2.2.2.2.1
  have kc7 := fun m : (RG ncT (fun k => wc.heap.size ≤ k)).Lt wq => (hC m.1 (LB m)).2.2.2.2.2.2.2.1
  have kc8 := fun m : (RG ncT (fun k => wc.heap.size ≤ k)).Lt wq => (hC m.1 (LB m)).2.2.2.2.2.2.2.2.1
  have kc9 := fun m : (RG ncT (fun k => wc.heap.size ≤ k)).Lt wq => (hC m.1 (LB m)).2.2.2.2.2.2.2.2.2.1
  have kc10 := fun m : (RG ncT (fun k => wc.heap.size ≤ k)).Lt wq => (hC m.1 (LB m)).2.2.2.2.2.2.2.2.2.2
  repeat (refine Gt.wpX_pure (by first | exact trivial | exact ⟨_, rfl, rfl, rfl⟩) rfl rfl rfl rfl rfl (fun K hK => ?_); go_big_quiet_op; refine hK _ ?_; clear hK K)
  refine Gt.wpX_callFn (by first | exact trivial | exact ⟨_, rfl, rfl, rfl⟩) (.int .i64 (k : Int)) (args := [.int .i64 tg, .int .i64 (targets.length : Int)]) rfl rfl rfl rfl (by kernel_rfl) rfl rfl (fun m => (HMT.out m.1).mono fun _ _ ⟨h1, h2⟩ => ⟨h1, h2 ▸ Below.refl _ _⟩) ?_
  simp only [Act.put, List.setIfInBounds_toArray, List.set_cons_zero, List.set_cons_succ]
  repeat (refine Gt.wpX_pure (by first | exact trivial | exact ⟨_, rfl, rfl, rfl⟩) rfl rfl rfl rfl rfl (fun K hK => ?_); go_big_quiet_op; refine hK _ ?_; clear hK K)
  refine Gt.wpX_allocN11 wc.heap.size (fun m => (LB m).size) (stable_GNcB _ _ _) (by first | exact trivial | exact ⟨_, rfl, rfl, rfl⟩) rfl rfl rfl rfl ?_
  simp only [Act.put, List.setIfInBounds_toArray, List.set_cons_zero, List.set_cons_succ]
  refine Gt.wpX_store (by first | exact trivial | exact ⟨_, rfl, rfl, rfl⟩) (GNcQ wc.heap.size c) (fun f => f 9) (fun _ => ncV c) rfl rfl rfl rfl rfl (fun _ => rfl) (fun _ => rfl) GNcQ.ext GNcQ.st (fun m f hf => ?_) ?_
  · obtain ⟨g, e9, hg, bg⟩ := hf 9 _ rfl rfl
    rw [e9]
    obtain ⟨w9, q1, q2, q3⟩ := nc_store bg c
    exact ⟨w9, q1, ⟨nc_ncT, q3 _ hg⟩, g, rfl, hg, q2⟩
  refine Gt.wpX_endG rfl (fun m f hf hqs => ?_)
  have hq : GNcQ wc.heap.size c (f 9) m.1 := hqs _ List.mem_cons_self
  obtain ⟨gc, e9, hgc, TCC⟩ := hq
  simp only [fillH]
  simp only [Act.put, List.setIfInBounds_toArray, List.set_cons_zero, List.set_cons_succ]
  rw [e9]
  have ZB := Lib.hid (HZ.out.tr (LB m))
  have TB := Lib.hid TCC
  have YB := Lib.hid (Y0.tr (LB m))
  clear Y0
  clear hqs hf e9 p2 pl kc0 kc1 kc2 kc3 kc4 kc5 kc6 kc7 kc8 kc9 kc10 LR LB hw1 hC HZ Z0 hmi hkl hgc TCC HMT hcT hmT
  generalize m.1 = wm at *
  clear m wq f
  go_upto_region 5 with fail
  refine Gd.wp_region_X 6 (by kernel_rfl) (by kernel_rfl) ?_
  simp only [List.take_succ_cons, List.take_zero, List.drop_succ_cons, List.drop_zero]
  intro wq hw1
  have LL : ∀ m : Lt wq, Ext wm m.1 := fun m => hw1.tr m.2
  have p0 := fun m : Lt wq => (ZB.out.po.ext (LL m)).c0
  have pl := fun m : Lt wq => (ZB.out.po.ext (LL m)).lt
  have q0 := fun m : Lt wq => (YB.out.po.ext (LL m)).c0
  have ql := fun m : Lt wq => (YB.out.po.ext (LL m)).lt
  refine Gd.wpX_buildSL (by first | exact trivial | exact ⟨_, rfl, rfl, rfl⟩) GNil0 stable_GNil0 (fun _ => []) rfl rfl rfl rfl rfl (fun _ => rfl) (fun m f hf => ⟨_, _, run_bs0N m.1, (Below.refl _ _).alloc (Nat.le_refl _) _, _, rfl⟩) ?_
  simp only [Act.put, List.setIfInBounds_toArray, List.set_cons_zero, List.set_cons_succ]
  repeat (refine Gd.wpX_pure (by first | exact trivial | exact ⟨_, rfl, rfl, rfl⟩) rfl rfl rfl rfl rfl (fun K hK => ?_); go_big_quiet_op; refine hK _ ?_; clear hK K)
  refine Gd.wpX_appF (by first | exact trivial | exact ⟨_, rfl, rfl, rfl⟩) (GOw wm.heap.size roots2) (stable_GOw _ _) (fun f => f 41) (fun _ => R2) rfl rfl rfl rfl rfl rfl (fun _ => rfl) (fun _ => rfl) (fun m f hf => run_app0N (hf 41 _ rfl rfl) (RdK.ext YB.out.rR (LL m)) (by omega) (LL m).size) ?_
  simp only [Act.put, List.setIfInBounds_toArray, List.set_cons_zero, List.set_cons_succ]
  repeat (refine Gd.wpX_pure (by first | exact trivial | exact ⟨_, rfl, rfl, rfl⟩) rfl rfl rfl rfl rfl (fun K hK => ?_); go_big_quiet_op; refine hK _ ?_; clear hK K)
  refine Gd.wpX_endL (fun m f hf => ?_)
  obtain ⟨A1, n1, c1, e44, hn1, o1⟩ := hf 44 _ rfl
  simp only [fillH]
  simp only [Act.put, List.setIfInBounds_toArray, List.set_cons_zero, List.set_cons_succ]
  rw [e44]
  have HO := Lib.hid o1
  have LM := Lib.hid (LL m)
  clear hf e44 LL p0 pl q0 ql hw1 o1
  generalize m.1 = wn at *
  generalize f 41 = fbs at *
  clear m f
  have HSR := Lib.hid (RdK.ext ZB.out.rR LM.out)
  show wpList _ _ _ _ _ _
  obtain rfl : n1 = roots2.length := hn1
  go_upto_region 6 with (refine wpList_appK (k := 11) (by decide) elemNc (n := roots2.length) (m := roots.length) (B := wm.heap.size) HO.out (by rw [ncsCells_len]) HSR.out (by rw [ncsCells_len]) (ncsCells_one roots) (Below.refl wm.heap.size wn) (by omega) (by unfold maxLen; omega) LM.out.size rfl rfl rfl rfl ?_; intro A5 n5 c5 w5 hn8 o8 x8 _)
  have XA := Lib.hid (show Ext wm w5 from LM.out.trans x8)
  have HR5 := Lib.hid (show RdN w5 (.slice A5 n5 c5) (roots2 ++ roots) by have q := o8.rd; rw [ncsCells_app] at q; exact q)
  clear HO LM HSR o8 x8 hn8
  have Z5 := Lib.hid (ZB.out.tr XA.out)
  have Y5 := Lib.hid (YB.out.tr XA.out)
  have T5 := Lib.hid (TB.out.ext XA.out)
  clear ZB YB TB XA
  go_upto_region 6 with fail
  refine Gd.wp_region_X 6 (by kernel_rfl) (by kernel_rfl) ?_
  simp only [List.take_succ_cons, List.take_zero, List.drop_succ_cons, List.drop_zero]
  intro wq hw1
  have LL : ∀ m : Lt wq, Ext w5 m.1 := fun m => hw1.tr m.2
  have p0 := fun m : Lt wq => (Z5.out.po.ext (LL m)).c1
  have pl := fun m : Lt wq => (Z5.out.po.ext (LL m)).lt
  have q0 := fun m : Lt wq => (Y5.out.po.ext (LL m)).c1
  have ql := fun m : Lt wq => (Y5.out.po.ext (LL m)).lt
  refine Gd.wpX_buildSL (by first | exact trivial | exact ⟨_, rfl, rfl, rfl⟩) GNil0 stable_GNil0 (fun _ => []) rfl rfl rfl rfl rfl (fun _ => rfl) (fun m f hf => ⟨_, _, run_bs0N m.1, (Below.refl _ _).alloc (Nat.le_refl _) _, _, rfl⟩) ?_
  simp only [Act.put, List.setIfInBounds_toArray, List.set_cons_zero, List.set_cons_succ]
  repeat (refine Gd.wpX_pure (by first | exact trivial | exact ⟨_, rfl, rfl, rfl⟩) rfl rfl rfl rfl rfl (fun K hK => ?_); go_big_quiet_op; refine hK _ ?_; clear hK K)
  refine Gd.wpX_appF (by first | exact trivial | exact ⟨_, rfl, rfl, rfl⟩) (GOw w5.heap.size links2) (stable_GOw _ _) (fun f => f 48) (fun _ => L2) rfl rfl rfl rfl rfl rfl (fun _ => rfl) (fun _ => rfl) (fun m f hf => run_app0N (hf 48 _ rfl rfl) (RdK.ext Y5.out.rL (LL m)) (by omega) (LL m).size) ?_
  simp only [Act.put, List.setIfInBounds_toArray, List.set_cons_zero, List.set_cons_succ]
  repeat (refine Gd.wpX_pure (by first | exact trivial | exact ⟨_, rfl, rfl, rfl⟩) rfl rfl rfl rfl rfl (fun K hK => ?_); go_big_quiet_op; refine hK _ ?_; clear hK K)
  refine Gd.wpX_endL (fun m f hf => ?_)
  obtain ⟨A1, n1, c1, e51, hn1, o1⟩ := hf 51 _ rfl
  simp only [fillH]
  simp only [Act.put, List.setIfInBounds_toArray, List.set_cons_zero, List.set_cons_succ]
  rw [e51]
  have HO := Lib.hid o1
  have LM := Lib.hid (LL m)
  clear hf e51 LL p0 pl q0 ql hw1 o1
  generalize m.1 = wn at *
  generalize f 48 = fbs at *
  clear m f
  have HSR := Lib.hid (RdK.ext Z5.out.rL LM.out)
  show wpList _ _ _ _ _ _
  obtain rfl : n1 = links2.length := hn1
  go_upto_region 7 with (refine wpList_appK (k := 11) (by decide) elemNc (n := links2.length) (m := links.length) (B := w5.heap.size) HO.out (by rw [ncsCells_len]) HSR.out (by rw [ncsCells_len]) (ncsCells_one links) (Below.refl w5.heap.size wn) (by omega) (by unfold maxLen; omega) LM.out.size rfl rfl rfl rfl ?_; intro A6 n6 c6 w6 hn8 o8 x8 _)
  have XA := Lib.hid (show Ext w5 w6 from LM.out.trans x8)
  have HR6 := Lib.hid (show RdN w6 (.slice A6 n6 c6) (links2 ++ links) by have q := o8.rd; rw [ncsCells_app] at q; exact q)
  clear HO LM HSR o8 x8 hn8
  have Z6 := Lib.hid (Z5.out.tr XA.out)
  have T6 := Lib.hid (T5.out.ext XA.out)
  have HRA := Lib.hid (RdK.ext HR5.out XA.out)
  clear Z5 Y5 T5 HR5 XA
  have HSA := Lib.hid (smL.app HSQ.out.1 HSP.out.1)
  have HSB := Lib.hid (smL.app HSQ.out.2 HSP.out.2.1)
  have HPA := Lib.hid (npath_any c day w6 Z6.out.rR Z6.out.rL HSP.out.1 HSP.out.2.1 HSC.out (by omega) (HE.out.ext Z6.out.ext).d)
  have hl5 : (roots2 ++ roots).length ≤ 16 := by rw [List.length_append]; omega
  have hl6 : (links2 ++ links).length ≤ 16 := by rw [List.length_append]; omega
  have HG := Lib.hid (fun (q : npK roots links c day = 0) => path_grow (r2 := roots2 ++ roots) (p2 := links2 ++ links) (fun x hx => List.mem_append_right _ hx) (fun x hx => List.mem_append_right _ hx) q (by omega) (by omega))
  have HTR := Lib.hid (fun (x : NC) (hx : x ∈ trustT roots links c.st day) => And.intro (trust_on hx) (trust_mono (r2 := roots2 ++ roots) (p2 := links2 ++ links) (fun x hx => List.mem_append_right _ hx) (fun x hx => List.mem_append_right _ hx) hx))
  generalize roots2 ++ roots = ra at *
  generalize links2 ++ links = la at *
  have p0 := Z6.out.po.c0
  have p1 := Z6.out.po.c1
  have p3 := Z6.out.po.c3
  have pl := Z6.out.po.lt
  go_wp2_with (refine wpList_load_row rfl 56 _ rfl gc rfl 56 (ncRow c) (0, 0) _ T6.out.row Tryz.underlying56 rfl info_nc ?_)
  refine HPA.out.mono ?_
  rintro e w7 ⟨b7, Aa, ca, rfl, ra7⟩
  have Z7 := Lib.hid (Z6.out.tr b7)
  have T7 := Lib.hid (T6.out.ext b7)
  have HRA7 := Lib.hid (RdK.ext HRA.out b7)
  have HRB7 := Lib.hid (RdK.ext HR6.out b7)
  clear Z6 T6 HRA HR6 p0 p1 p3 pl HPA b7 ra7
  have HPB := Lib.hid (npath_any c day w7 HRA7.out HRB7.out HSA.out HSB.out HSC.out (by omega) (HE.out.ext Z7.out.ext).d)
  have p3 := Z7.out.po.c3
  have pl := Z7.out.po.lt
  go_wp2_with (refine wpList_load_row rfl 56 _ rfl gc rfl 56 (ncRow c) (0, 0) _ T7.out.row Tryz.underlying56 rfl info_nc ?_)
  refine HPB.out.mono ?_
  rintro e w8 ⟨b8, Ab, cb, rfl, rb8⟩
  have Z8 := Lib.hid (Z7.out.tr b8)
  have T8 := Lib.hid (T7.out.ext b8)
  have HRA8 := Lib.hid (RdK.ext HRA7.out b8)
  have HRB8 := Lib.hid (RdK.ext HRB7.out b8)
  have HRP := Lib.hid rb8
  clear Z7 T7 HRA7 HRB7 p3 pl HPB b8 rb8
  generalize npL roots links c day = l1 at *
  generalize npL ra la c day = lb at *
  generalize npK roots links c day = k1 at *
  generalize npK ra la c day = k2 at *
  go_upto_region 9 with fail
  go_cut [88] from 75 to 88 (fun s88 wx => s88 = .bool false ∧ Hid (Ext w8 wx))
  case first =>
    by_cases hk : k1 = 0
    · obtain ⟨g1, g2⟩ := HG.out hk
      have HPV := Lib.hid (nationalchain_proven day w8 HRA8.out HRP.out (proven_sm g2) (HE.out.ext Z8.out.ext).d)
      rw [g2] at HPV
      subst hk g1
      have p3 := Z8.out.po.c3
      have pl := Z8.out.po.lt
      clear g2 HG
      go_wp2_with fail
      refine HPV.out.mono ?_
      rintro e w9 ⟨rfl, b9⟩
      have X9 := Lib.hid b9
      go_wp2_with fail
      go_meet
      exact ⟨rfl, X9⟩
    · have hb : (k1 == 0) = false := by simpa using hk
      clear hk
      go_wp2_with fail
      go_meet
      exact ⟨rfl, Below.refl _ _⟩
  case rest =>
  obtain ⟨rfl, X9⟩ := hcut
  generalize wc = w9 at *
  have Z9 := Lib.hid (Z8.out.tr X9.out)
  have T9 := Lib.hid (T8.out.ext X9.out)
  have HRA9 := Lib.hid (RdK.ext HRA8.out X9.out)
  have HRB9 := Lib.hid (RdK.ext HRB8.out X9.out)
  clear Z8 T8 HRA8 HRB8 HRP HG X9
  go_upto_region 11 with fail
  refine Gd.wp_region_X 18 (by kernel_rfl) (by kernel_rfl) ?_
  simp only [List.take_succ_cons, List.take_zero, List.drop_succ_cons, List.drop_zero]
  intro wq hw1
  have LL : ∀ m : Lt wq, Ext w9 m.1 := fun m => hw1.tr m.2
  have p0 := fun m : Lt wq => (Z9.out.po.ext (LL m)).c0
  have p1 := fun m : Lt wq => (Z9.out.po.ext (LL m)).c1
  have p3 := fun m : Lt wq => (Z9.out.po.ext (LL m)).c3
  have pl := fun m : Lt wq => (Z9.out.po.ext (LL m)).lt
  have k0 := fun m : Lt wq => (T9.out.ext (LL m)).cells.1
  have kl := fun m : Lt wq => (T9.out.ext (LL m)).lt
  have HF := Lib.hid (show ∀ m : Lt wq, Calls Tryz.prog 41 #[R, L, .string (bstr c.st), .int .i64 day] m.1 fun e w'' => ∃ v, e = .returned v ∧ Ext m.1 w'' ∧ GSl (trustT roots links c.st day) v w'' from fun m => (trusted_any c.st day m.1 (RdK.ext Z9.out.rR (LL m)) (RdK.ext Z9.out.rL (LL m)) HSP.out.1 HSP.out.2.1 (by omega) (HE.out.ext (Z9.out.ext.tr (LL m))).d).mono fun _ _ h => h.gsl)
  have HMo := Lib.hid (show ∀ m : Lt wq, Calls Tryz.prog 41 #[.slice A5 n5 c5, .slice A6 n6 c6, .string (bstr c.st), .int .i64 day] m.1 fun e w'' => ∃ v, e = .returned v ∧ Ext m.1 w'' ∧ GSl (trustT ra la c.st day) v w'' from fun m => (trusted_any c.st day m.1 (RdK.ext HRA9.out (LL m)) (RdK.ext HRB9.out (LL m)) HSA.out HSB.out (by omega) (HE.out.ext (Z9.out.ext.tr (LL m))).d).mono fun _ _ h => h.gsl)
  repeat (refine Gd.wpX_pure (by first | exact trivial | exact ⟨_, rfl, rfl, rfl⟩) rfl rfl rfl rfl rfl (fun K hK => ?_); go_big_quiet_op; refine hK _ ?_; clear hK K)
  refine Gd.wpX_callF (by first | exact trivial | exact ⟨_, rfl, rfl, rfl⟩) (GSl (trustT roots links c.st day)) (stable_GSl _) (fun _ => [R, L, .string (bstr c.st), .int .i64 day]) rfl rfl rfl rfl rfl (by kernel_rfl) rfl (fun _ => rfl) (fun m f hf => HF.out m) ?_
  simp only [Act.put, List.setIfInBounds_toArray, List.set_cons_zero, List.set_cons_succ]
  repeat (refine Gd.wpX_pure (by first | exact trivial | exact ⟨_, rfl, rfl, rfl⟩) rfl rfl rfl rfl rfl (fun K hK => ?_); go_big_quiet_op; refine hK _ ?_; clear hK K)
  refine Gd.wpX_callF (by first | exact trivial | exact ⟨_, rfl, rfl, rfl⟩) (GSl (trustT ra la c.st day)) (stable_GSl _) (fun _ => [.slice A5 n5 c5, .slice A6 n6 c6, .string (bstr c.st), .int .i64 day]) rfl rfl rfl rfl rfl (by kernel_rfl) rfl (fun _ => rfl) (fun m f hf => HMo.out m) ?_
  simp only [Act.put, List.setIfInBounds_toArray, List.set_cons_zero, List.set_cons_succ]
  refine Gd.wpX_asgL (by first | exact trivial | exact ⟨_, rfl, rfl, rfl⟩) (GSl (trustT roots links c.st day)) (stable_GSl _) (fun f => f 97) rfl rfl rfl rfl rfl (fun _ => rfl) (fun m f hf => hf 97 _ rfl rfl) ?_
  simp only [Act.put, List.setIfInBounds_toArray, List.set_cons_zero, List.set_cons_succ]
  refine Gd.wpX_asgL (by first | exact trivial | exact ⟨_, rfl, rfl, rfl⟩) (GSl (trustT ra la c.st day)) (stable_GSl _) (fun f => f 104) rfl rfl rfl rfl rfl (fun _ => rfl) (fun m f hf => hf 104 _ rfl rfl) ?_
  simp only [Act.put, List.setIfInBounds_toArray, List.set_cons_zero, List.set_cons_succ]
  refine Gd.wpX_endL (fun m f hf => ?_)
  obtain ⟨Af, nf, cf, e16, hnf, rf⟩ := hf 16 _ rfl
  obtain ⟨Am, nm, cm, e17, hnm, rm⟩ := hf 17 _ rfl
  simp only [fillH]
  simp only [Act.put, List.setIfInBounds_toArray, List.set_cons_zero, List.set_cons_succ]
  rw [e16, e17]
  have ZT := Lib.hid (Z9.out.tr (LL m))
  have HRM := Lib.hid rm
  obtain ⟨Af', cf', ef, hcf, hmf, hEL⟩ := RdN.cellsAt rf
  injection ef with e1 e2 e3
  subst e1 e2 e3
  have HEL := Lib.hid hEL
  unfold maxLen at hmf
  clear hf e16 e17 p0 p1 p3 pl k0 kl HF HMo LL hw1 hEL rf rm Z9 T9 HRA9 HRB9 hnf hnm
  generalize m.1 = wt at *
  generalize f 97 = f97 at *
  generalize f 104 = f104 at *
  clear m f
  generalize trustT roots links c.st day = few at *
  generalize trustT ra la c.st day = more at *
  go_wp2_with fail
  go_loopw [18] (fun s18 wr => ∃ i : Nat, i ≤ few.length ∧ s18 = .int .i64 (i : Int) ∧ Hid (Ext wt wr)) (fun s18 _ => few.length - (intOf s18).toNat)
  case atStart => exact ⟨0, Nat.zero_le _, rfl, Below.refl _ _⟩
  case round =>
    obtain ⟨i, hi, rfl, X⟩ := hrel
    by_cases hlt : i < few.length
    case neg =>
      obtain rfl : i = few.length := by omega
      have XW := Lib.hid (ZT.out.ext.tr X.out)
      go_wp2_with fail
      refine (HA.out _ XW.out).mono ?_
      rintro e wz ⟨rfl, bz⟩
      have XZ := Lib.hid (XW.out.tr bz)
      go_wp2_with fail
      go_ret
      exact ⟨rfl, XZ.out⟩
    case pos =>
    obtain ⟨y, hy⟩ : ∃ y, few[i]? = some y := ⟨_, List.getElem?_eq_getElem hlt⟩
    obtain ⟨hyo, hym⟩ := HTR.out y (List.mem_of_getElem? hy)
    obtain ⟨b1, o1, rfl, hb1, hC0⟩ := HEL.out i y hy
    have hC := fun W (e : Ext wr W) => hC0 W (X.out.tr e)
    have HHS := Lib.hid (fun W (e : Ext wr W) => hasN_any y W (RdK.ext HRM.out (X.out.tr e)))
    rw [decide_eq_true hym] at HHS
    have HON := Lib.hid (fun W => traveldocref29_on y day W (on_sm hyo))
    rw [hyo] at HON
    have wi2 : IntKind.i64.wrap ((i : Int)) = (i : Int) := IntWalk.i64_in _ (by omega)
    have zi2 : (0 : Int) ≤ (i : Int) := by omega
    have li2 : (i : Int) < (few.length : Int) := by omega
    have ti2 : ((i : Int)).toNat = i := by omega
    have wk : IntKind.i64.wrap ((i : Int) + 1) = (i : Int) + 1 := IntWalk.i64_in _ (by omega)
    clear hy hyo hym hC0
    go_upto_region 15 with fail
    refine Gd.wp_region_X 17 (by kernel_rfl) (by kernel_rfl) ?_
    simp only [List.take_succ_cons, List.take_zero, List.drop_succ_cons, List.drop_zero]
    intro wq hw1
    have LL : ∀ m : Lt wq, Ext wr m.1 := fun m => hw1.tr m.2
    have p3 := fun m : Lt wq => (ZT.out.po.ext (X.out.tr (LL m))).c3
    have pl := fun m : Lt wq => (ZT.out.po.ext (X.out.tr (LL m))).lt
    have kc0 := fun m : Lt wq => (hC m.1 (LL m)).1
    have kc1 := fun m : Lt wq => (hC m.1 (LL m)).2.1
    have kc2 := fun m : Lt wq => (hC m.1 (LL m)).2.2.1
    have kc3 := fun m : Lt wq => (hC m.1 (LL m)).2.2.2.1
    have kc4 := fun m : Lt wq => (hC m.1 (LL m)).2.2.2.2.1
    have kc5 := fun m : Lt wq => (hC m.1 (LL m)).2.2.2.2.2.1
    have kc6 := fun m : Lt wq => (hC m.1 (LL m)).2.2.2.2.2.2.1
    have kc7 := fun m : Lt wq => (hC m.1 (LL m)).2.2.2.2.2.2.2.1
    have kc8 := fun m : Lt wq => (hC m.1 (LL m)).2.2.2.2.2.2.2.2.1
    have kc9 := fun m : Lt wq => (hC m.1 (LL m)).2.2.2.2.2.2.2.2.2.1
    have kc10 := fun m : Lt wq => (hC m.1 (LL m)).2.2.2.2.2.2.2.2.2.2
    repeat (refine Gd.wpX_pure (by first | exact trivial | exact ⟨_, rfl, rfl, rfl⟩) rfl rfl rfl rfl rfl (fun K hK => ?_); go_big_quiet_op; refine hK _ ?_; clear hK K)
    refine Gd.wpX_callFn (by first | exact trivial | exact ⟨_, rfl, rfl, rfl⟩) (.bool true) (args := [.slice Am nm cm, ncV y]) rfl rfl rfl rfl (by kernel_rfl) rfl rfl (fun m => (HHS.out m.1 (LL m)).mono fun _ _ ⟨h1, h2⟩ => ⟨h1, h2⟩) ?_
    simp only [Act.put, List.setIfInBounds_toArray, List.set_cons_zero, List.set_cons_succ]
    repeat (refine Gd.wpX_pure (by first | exact trivial | exact ⟨_, rfl, rfl, rfl⟩) rfl rfl rfl rfl rfl (fun K hK => ?_); go_big_quiet_op; refine hK _ ?_; clear hK K)
    refine Gd.wpX_callFn (by first | exact trivial | exact ⟨_, rfl, rfl, rfl⟩) (.int .i64 0) (args := [ncV y, .int .i64 day]) rfl rfl rfl rfl (by kernel_rfl) rfl rfl (fun m => (HON.out m.1).mono fun _ _ ⟨h1, h2⟩ => ⟨h1, h2⟩) ?_
    simp only [Act.put, List.setIfInBounds_toArray, List.set_cons_zero, List.set_cons_succ]
    repeat (refine Gd.wpX_pure (by first | exact trivial | exact ⟨_, rfl, rfl, rfl⟩) rfl rfl rfl rfl rfl (fun K hK => ?_); go_big_quiet_op; refine hK _ ?_; clear hK K)
    refine Gd.wpX_end0 (fun m => ?_)
    have XM := Lib.hid (X.out.tr (LL m))
    clear LL p3 pl kc0 kc1 kc2 kc3 kc4 kc5 kc6 kc7 kc8 kc9 kc10 hw1 hC X hb1
    generalize m.1 = wk2 at *
    clear m
    show wpList _ _ _ _ _ _
    go_wp2_with fail
    go_roundw
    case rel => exact ⟨i + 1, by omega, by go_num, XM⟩
    case measure => simp [intOf]; omega
end Go.Proofs.YtkjplpmogfmhkaaGreatDoor
