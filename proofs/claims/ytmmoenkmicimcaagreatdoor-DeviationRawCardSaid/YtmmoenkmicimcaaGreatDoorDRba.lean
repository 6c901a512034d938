/- Parts Je of the proof. -/
import Derived.Test.YtmmoenkmicimcaaGreatDoorDRaw
namespace Go.Proofs.YtmmoenkmicimcaaGreatDoor
open Go.RowKit
set_option linter.unusedVariables false
set_option maxRecDepth 100000
/-- The index of the first that a certificate follows, -1 if there is none. -/
def befI (day : Int) (L : List NC) (c : NC) : Int := if (L.any fun a => folB day a c) = true then ((L.findIdx fun a => folB day a c : Nat) : Int) else -1
/-- Where before stands behind k certificates. -/
inductive BefS (day : Int) (L : List NC) (c : NC) (k : Nat) : Int → Prop
  | no : (∀ j a, j < k → L[j]? = some a → folB day a c = false) → BefS day L c k (-1)
  | at_ (b : Nat) (a : NC) : b < k → L[b]? = some a → folB day a c = true → (∀ j a, j < b → L[j]? = some a → folB day a c = false) → BefS day L c k (b : Int)
theorem BefS.res {day : Int} {L : List NC} {c : NC} {n : Nat} {z : Int} (h : BefS day L c n z) (hn : n ≤ L.length) : z = befI day (L.take n) c := by
  cases h with
  | no h =>
    unfold befI
    rw [if_neg]
    intro q
    obtain ⟨a, ha, hf⟩ := List.any_eq_true.1 q
    obtain ⟨j, hj, rfl⟩ := List.getElem_of_mem ha
    rw [List.length_take] at hj
    have := h j _ (by omega) (List.getElem?_eq_getElem (by omega))
    rw [List.getElem_take] at hf
    rw [this] at hf
    cases hf
  | at_ b a h1 h2 h3 h4 =>
    obtain ⟨hb, rfl⟩ := List.getElem?_eq_some_iff.1 h2
    have hm : b < (L.take n).length := by rw [List.length_take]; omega
    have hany : ((L.take n).any fun a => folB day a c) = true := List.any_eq_true.2 ⟨(L.take n)[b], List.getElem_mem hm, by rw [List.getElem_take]; exact h3⟩
    unfold befI
    rw [if_pos hany]
    congr 1
    symm
    rw [List.findIdx_eq hm]
    refine ⟨by rw [List.getElem_take]; exact h3, fun j hj => ?_⟩
    rw [List.getElem_take]
    exact Bool.not_eq_true _ ▸ (by rw [h4 j _ hj (List.getElem?_eq_getElem (by omega))]; simp)
theorem BefS.next {day : Int} {L : List NC} {c y : NC} {k : Nat} (h : BefS day L c k (-1)) (hy : L[k]? = some y) (hf : folB day y c = false) : BefS day L c (k + 1) (-1) := by
  generalize hz : (-1 : Int) = z at h
  cases h with
  | no h =>
    refine .no fun j a hj ha => ?_
    rcases Nat.lt_succ_iff_lt_or_eq.1 hj with q | rfl
    · exact h j a q ha
    · rw [hy] at ha; injection ha with ha; rw [← ha]; exact hf
  | at_ b => omega
theorem BefS.hit {day : Int} {L : List NC} {c y : NC} {k : Nat} (h : BefS day L c k (-1)) (hy : L[k]? = some y) (hf : folB day y c = true) : BefS day L c (k + 1) (k : Int) := by
  generalize hz : (-1 : Int) = z at h
  cases h with
  | no h => exact .at_ k y (Nat.lt_succ_self _) hy hf h
  | at_ b => omega
theorem BefS.skip {day : Int} {L : List NC} {c : NC} {k b : Nat} (h : BefS day L c k (b : Int)) : BefS day L c (k + 1) (b : Int) ∧ b < k := by
  generalize hz : (b : Int) = z at h
  cases h with
  | no h => omega
  | at_ b' a h1 h2 h3 h4 =>
    obtain rfl : b = b' := by omega
    exact ⟨.at_ b a (by omega) h2 h3 h4, h1⟩
theorem BefS.cases' {day : Int} {L : List NC} {c : NC} {k : Nat} {z : Int} (h : BefS day L c k z) : z = -1 ∨ ∃ b : Nat, z = (b : Int) := by
  cases h with
  | no h => exact .inl rfl
  | at_ b => exact .inr ⟨b, rfl⟩
/-- The rounds do not fall. -/
def Srt (R : List Int) : Prop := ∀ (i j : Nat) (x y : Int), i ≤ j → R[i]? = some x → R[j]? = some y → x ≤ y
theorem ints_at {w : World} {B : Nat} {A : Option Addr} {n c : Nat} {R : List Int} (h : OwnK w B 3 1 (.slice A n c) (intsV R)) (h0 : 0 < n) : ∃ b o, A = some ⟨b, o, none⟩ ∧ b < w.heap.size ∧ ∀ (i : Nat) (x : Int), R[i]? = some x → w.cell? ⟨b, o + i, none⟩ = some (.int .i64 x) := by
  obtain ⟨A', n', c', e, hn, _, _, hc⟩ := h.rd
  injection e with e1 e2 e3
  subst e1 e2 e3
  obtain ⟨b, o, rfl, hq⟩ := hc h0
  have hx : 0 < R.length := by rw [intsV_len] at hn; omega
  have g0 : (intsV R)[0]? = some (.int .i64 R[0]) := by unfold intsV; rw [List.getElem?_map, List.getElem?_eq_getElem hx]; rfl
  refine ⟨b, o, rfl, World.block_lt_of_cell? w _ (hq 0 _ g0), fun i x hi => hq i _ ?_⟩
  unfold intsV
  rw [List.getElem?_map, hi]
  rfl
set_option maxHeartbeats 4000000 in
theorem before_any {B S : Nat} {day : Int} {v1 v2 : Value} {L : List NC} {R : List Int} (c : NC) (n : Nat) (w : World) (hS : SeAt w B S day v1 v2 L R) (hn : n ≤ L.length) (hl : L.length ≤ 1000000) (hR : Srt R) (hs : smL L) (hc : smN c) (E : KTab w 1) :
    Calls Tryz.prog 119 #[.pointer (some ⟨S, 0, none⟩), ncV c, .int .i64 (n : Int)] w (RetQ w (.int .i64 (befI day (L.take n) c))) := by
  obtain ⟨A1, c1, A2, c2, rfl, rfl, hc1, hc2, hm1, hm2⟩ := hS.forms
  have hv : RdN w (.slice A1 L.length c1) L := hS.own1.rd
  obtain ⟨A', n', c', e9, hn', hnc, hcm, hel⟩ := hv.at_
  injection e9 with e1 e2 e3
  subst e1 e2 e3
  clear hn'
  have HEL := Lib.hid hel
  have HIN := Lib.hid (fun h0 => ints_at hS.own2 h0)
  have HF := Lib.hid (fun (a : NC) (ha : smN a) W (e : Ext w W) => nationalchain_follows a c day W ha hc (E.below e))
  unfold maxLen at hcm hm1 hm2
  clear hel hv hnc hcm
  obtain ⟨wz, hwz, ez, TZ⟩ := nc_alloc w c
  have HS := Lib.hid hS
  have HZ := Lib.hid TZ
  have HSM := Lib.hid hs
  have HRS := Lib.hid hR
  have HRL := Lib.hid hS.len
  unfold ncV
  clear TZ hS hs hR hc E
  go_enter Tryz.func119, Tryz.ntmps119
  go_upto_region 1 with fail
  rw [← hwz]
  clear hwz
  go_wp2_with fail
  go_loopw [7, 10] (fun bst i wr => ∃ (k : Nat) (z : Int), k ≤ n ∧ i = .int .i64 (k : Int) ∧ bst = .int .i64 z ∧ Hid (BefS day L c k z) ∧ Ext wz wr) (fun _ i _ => n - (intOf i).toNat)
  case atStart => exact ⟨0, -1, Nat.zero_le _, rfl, rfl, .no (fun j a hj _ => absurd hj (Nat.not_lt_zero _)), Below.refl _ _⟩
  case round =>
    obtain ⟨k, z, hk, rfl, rfl, HB, X⟩ := hrel
    by_cases hlt : k < n
    case neg =>
      obtain rfl : k = n := by omega
      have HR := Lib.hid (HB.out.res hn)
      have XX := Lib.hid (ez.tr X)
      clear X
      go_wp2_with fail
      go_ret
      exact ⟨by rw [HR.out]; rfl, XX.out⟩
    case pos =>
    obtain ⟨y, hy⟩ : ∃ y, L[k]? = some y := ⟨_, List.getElem?_eq_getElem (by omega)⟩
    obtain ⟨b, o, rfl, hbl, hcc⟩ := HEL.out (by omega)
    obtain ⟨b2, o2, rfl, hbl2, hcc2⟩ := HIN.out (by omega)
    have hcy := hcc k y hy
    have HY := Lib.hid hy
    have HSY := Lib.hid (HSM.out y (List.mem_of_getElem? hy))
    clear hy hcc
    have hkL : k < L.length := by omega
    have wi1 : IntKind.i64.wrap ((k : Int)) = (k : Int) := IntWalk.i64_in _ (by omega)
    have zi1 : (0 : Int) ≤ (k : Int) := by omega
    have li1 : (k : Int) < (L.length : Int) := by omega
    have ti1 : ((k : Int)).toNat = k := by omega
    have hkn : (k : Int) < (n : Int) := by omega
    go_upto_region 5 with fail
    refine Gd.wp_region_X 34 (by kernel_rfl) (by kernel_rfl) ?_
    simp only [List.take_succ_cons, List.take_zero, List.drop_succ_cons, List.drop_zero]
    intro wq hw1
    have LL : ∀ m : Lt wq, Ext wr m.1 := fun m => hw1.tr m.2
    have LZ : ∀ m : Lt wq, Ext wz m.1 := fun m => X.tr (LL m)
    have LW : ∀ m : Lt wq, Ext w m.1 := fun m => ez.tr (LZ m)
    have s0 := fun m : Lt wq => (HS.out.ext (LW m)).cells.1
    have s1 := fun m : Lt wq => (HS.out.ext (LW m)).cells.2.1
    have s2 := fun m : Lt wq => (HS.out.ext (LW m)).cells.2.2
    have p0 := fun m : Lt wq => (HZ.out.ext (LZ m)).cells.1
    have p1 := fun m : Lt wq => (HZ.out.ext (LZ m)).cells.2.1
    have p2 := fun m : Lt wq => (HZ.out.ext (LZ m)).cells.2.2.1
    have p3 := fun m : Lt wq => (HZ.out.ext (LZ m)).cells.2.2.2.1
    have p4 := fun m : Lt wq => (HZ.out.ext (LZ m)).cells.2.2.2.2.1
    have p5 := fun m : Lt wq => (HZ.out.ext (LZ m)).cells.2.2.2.2.2.1
    have p6 := fun m : Lt wq => (HZ.out.ext (LZ m)).cells.2.2.2.2.2.2.1
    have p7 := fun m : Lt wq => (HZ.out.ext (LZ m)).cells.2.2.2.2.2.2.2.1
    have p8 := fun m : Lt wq => (HZ.out.ext (LZ m)).cells.2.2.2.2.2.2.2.2.1
    have p9 := fun m : Lt wq => (HZ.out.ext (LZ m)).cells.2.2.2.2.2.2.2.2.2.1
    have p10 := fun m : Lt wq => (HZ.out.ext (LZ m)).cells.2.2.2.2.2.2.2.2.2.2
    have q0 := fun m : Lt wq => ((LW m).cell (p := ⟨b, o + k * 11, none⟩) hbl).trans hcy.1
    have q1 := fun m : Lt wq => ((LW m).cell (p := ⟨b, o + k * 11 + 1, none⟩) hbl).trans hcy.2.1
    have q2 := fun m : Lt wq => ((LW m).cell (p := ⟨b, o + k * 11 + 2, none⟩) hbl).trans hcy.2.2.1
    have q3 := fun m : Lt wq => ((LW m).cell (p := ⟨b, o + k * 11 + 3, none⟩) hbl).trans hcy.2.2.2.1
    have q4 := fun m : Lt wq => ((LW m).cell (p := ⟨b, o + k * 11 + 4, none⟩) hbl).trans hcy.2.2.2.2.1
    have q5 := fun m : Lt wq => ((LW m).cell (p := ⟨b, o + k * 11 + 5, none⟩) hbl).trans hcy.2.2.2.2.2.1
    have q6 := fun m : Lt wq => ((LW m).cell (p := ⟨b, o + k * 11 + 6, none⟩) hbl).trans hcy.2.2.2.2.2.2.1
    have q7 := fun m : Lt wq => ((LW m).cell (p := ⟨b, o + k * 11 + 7, none⟩) hbl).trans hcy.2.2.2.2.2.2.2.1
    have q8 := fun m : Lt wq => ((LW m).cell (p := ⟨b, o + k * 11 + 8, none⟩) hbl).trans hcy.2.2.2.2.2.2.2.2.1
    have q9 := fun m : Lt wq => ((LW m).cell (p := ⟨b, o + k * 11 + 9, none⟩) hbl).trans hcy.2.2.2.2.2.2.2.2.2.1
    have q10 := fun m : Lt wq => ((LW m).cell (p := ⟨b, o + k * 11 + 10, none⟩) hbl).trans hcy.2.2.2.2.2.2.2.2.2.2
    rcases HB.out.cases' with rfl | ⟨bb, rfl⟩
    · repeat (first | (refine Gd.wpX_nil (Gd.gR rfl) _ rfl rfl rfl rfl rfl ?_; simp only [Act.put, List.setIfInBounds_toArray, List.set_cons_zero, List.set_cons_succ]) | (refine Gd.wpX_skip (by exact ⟨_, rfl, rfl, rfl⟩) rfl rfl ?_; simp only [Act.put, List.setIfInBounds_toArray, List.set_cons_zero, List.set_cons_succ]) | (refine Gd.wpX_pureP rfl fun K hK => ?_; go_big_quiet_op; refine hK _ ?_; clear hK K))
      refine Gd.wpX_callFn (Gd.gR rfl) (.bool (folB day y c)) (args := [ncV y, ncV c, .int .i64 day]) rfl rfl rfl rfl (by kernel_rfl) rfl rfl (fun m => (HF.out y HSY.out m.1 (LW m)).mono fun _ _ ⟨h1, h2⟩ => ⟨h1, h2⟩) ?_
      simp only [Act.put, List.setIfInBounds_toArray, List.set_cons_zero, List.set_cons_succ]
      repeat (first | (refine Gd.wpX_nil (Gd.gR rfl) _ rfl rfl rfl rfl rfl ?_; simp only [Act.put, List.setIfInBounds_toArray, List.set_cons_zero, List.set_cons_succ]) | (refine Gd.wpX_skip (by exact ⟨_, rfl, rfl, rfl⟩) rfl rfl ?_; simp only [Act.put, List.setIfInBounds_toArray, List.set_cons_zero, List.set_cons_succ]) | (refine Gd.wpX_pureP rfl fun K hK => ?_; go_big_quiet_op; refine hK _ ?_; clear hK K))
      refine Gd.wpX_end0 (fun m => ?_)
      have Lm := LZ m
      obtain ⟨wm, hwm⟩ := m
      have Lm : Ext wz wm := Lm
      clear LL LZ LW s0 s1 s2 p0 p1 p2 p3 p4 p5 p6 p7 p8 p9 p10 q0 q1 q2 q3 q4 q5 q6 q7 q8 q9 q10 hw1
      show wpList _ _ _ _ _ _
      obtain ⟨f, hf⟩ : ∃ f, folB day y c = f := ⟨_, rfl⟩
      rw [hf]
      cases f
      · have HN := Lib.hid (HB.out.next HY.out hf)
        clear hf
        go_wp2_with fail
        go_roundw
        case rel => repeat (first | exact ⟨k + 1, -1, by omega, by go_num, rfl, HN, Lm⟩ | exact ⟨⟨k + 1, -1, by omega, by go_num, rfl, HN, Lm⟩, rfl⟩ | refine ⟨_, ?_⟩)
        case measure => simp [intOf]; omega
      · have HN := Lib.hid (HB.out.hit HY.out hf)
        clear hf
        go_wp2_with fail
        go_roundw
        case rel => repeat (first | exact ⟨k + 1, (k : Int), by omega, by go_num, rfl, HN, Lm⟩ | exact ⟨⟨k + 1, (k : Int), by omega, by go_num, rfl, HN, Lm⟩, rfl⟩ | refine ⟨_, ?_⟩)
        case measure => simp [intOf]; omega
    · obtain ⟨HN, hbk⟩ := HB.out.skip
      have HN := Lib.hid HN
      obtain ⟨x1, hx1⟩ : ∃ x, R[k]? = some x := ⟨_, List.getElem?_eq_getElem (by rw [HRL.out]; omega)⟩
      obtain ⟨x2, hx2⟩ : ∃ x, R[bb]? = some x := ⟨_, List.getElem?_eq_getElem (by rw [HRL.out]; omega)⟩
      have hle := HRS.out bb k x2 x1 (by omega) hx2 hx1
      have hlt2 : ¬ x1 < x2 := by omega
      have r1 := fun m : Lt wq => ((LW m).cell (p := ⟨b2, o2 + k, none⟩) hbl2).trans (hcc2 k x1 hx1)
      have r2 := fun m : Lt wq => ((LW m).cell (p := ⟨b2, o2 + bb, none⟩) hbl2).trans (hcc2 bb x2 hx2)
      have hbn : ¬ ((bb : Int) < 0) := by omega
      have hbL : bb < L.length := by omega
      have wi2 : IntKind.i64.wrap ((bb : Int)) = (bb : Int) := IntWalk.i64_in _ (by omega)
      have zi2 : (0 : Int) ≤ (bb : Int) := by omega
      have li2 : (bb : Int) < (L.length : Int) := by omega
      have ti2 : ((bb : Int)).toNat = bb := by omega
      clear hx1 hx2 hle hcc2
      repeat (first | (refine Gd.wpX_nil (Gd.gR rfl) _ rfl rfl rfl rfl rfl ?_; simp only [Act.put, List.setIfInBounds_toArray, List.set_cons_zero, List.set_cons_succ]) | (refine Gd.wpX_skip (by exact ⟨_, rfl, rfl, rfl⟩) rfl rfl ?_; simp only [Act.put, List.setIfInBounds_toArray, List.set_cons_zero, List.set_cons_succ]) | (refine Gd.wpX_pureP rfl fun K hK => ?_; go_big_quiet_op; refine hK _ ?_; clear hK K))
      refine Gd.wpX_end0 (fun m => ?_)
      have Lm := LZ m
      obtain ⟨wm, hwm⟩ := m
      have Lm : Ext wz wm := Lm
      clear LL LZ LW s0 s1 s2 r1 r2 p0 p1 p2 p3 p4 p5 p6 p7 p8 p9 p10 q0 q1 q2 q3 q4 q5 q6 q7 q8 q9 q10 hw1
      show wpList _ _ _ _ _ _
      go_wp2_with fail
      go_roundw
      case rel => repeat (first | exact ⟨k + 1, (bb : Int), by omega, by go_num, rfl, HN, Lm⟩ | exact ⟨⟨k + 1, (bb : Int), by omega, by go_num, rfl, HN, Lm⟩, rfl⟩ | refine ⟨_, ?_⟩)
      case measure => simp [intOf]; omega
end Go.Proofs.YtmmoenkmicimcaaGreatDoor
