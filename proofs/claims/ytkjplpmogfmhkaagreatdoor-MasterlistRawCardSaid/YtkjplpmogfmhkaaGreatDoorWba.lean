/- Parts Un Ui Uf Ug Mf of the proof. -/
import Derived.Test.YtkjplpmogfmhkaaGreatDoorWaz
import Derived.Test.YtkjplpmogfmhkaaGreatDoorWav
import Derived.Test.YtkjplpmogfmhkaaGreatDoorWay
import Derived.Test.YtkjplpmogfmhkaaGreatDoorWaw
namespace Go.Proofs.YtkjplpmogfmhkaaGreatDoor
open Go.RowKit
set_option linter.unusedVariables false
set_option maxRecDepth 100000
theorem run_appKT {P : Program} {w : World} {t ty e : TypeId} {k bytes B : Nat} (hk : 0 < k) (he : ElemK P t e k bytes) {v src : Value} {n m : Nat} {xs news : List Value} (hown : OwnK w B e k v xs) (hnx : n * k = xs.length) (hr : RdK w k src news) (hmx : m * k = news.length) (hm : 0 < m) (h1 : ∀ u ∈ news, u.oneCell' = true)
 (hb : (n + m) * bytes ≤ 140737488355328) (h63 : n + m ≤ maxLen) (hB : B ≤ w.heap.size) :
 ∃ A c w', (Builtin.append_ #[t, t] ty #[v, src]).run P w = .ok (.slice A (n + m) c) w' ∧ OwnK w' B e k (.slice A (n + m) c) (xs ++ news) ∧ w.grownBy w' (rowOf v) ∧ OwnK w' B e k v xs ∧
  ∀ A1 c1 (news1 : List Value), news1.length = news.length → OwnK w B e k (.slice A1 (n + m) c1) (xs ++ news1) → OwnK w' B e k (.slice A1 (n + m) c1) (xs ++ news1) ∨ OwnK w' B e k (.slice A1 (n + m) c1) (xs ++ news) := by
 obtain ⟨A', c', w', r1, o1, g1, f1⟩ := run_appKR (P := P) (ty := ty) hk he hown hnx hr hmx h1 hb h63 hB
 obtain ⟨i, z, ht, hi, hz, hsz, hby, hzs⟩ := he.ex
 obtain ⟨A2, m', c2, rfl, hm', hmc, hcm2, hcells⟩ := hr
 obtain rfl : m' = m := Nat.eq_of_mul_eq_mul_right hk (hm'.trans hmx.symm)
 obtain ⟨b2, o2, rfl, hc2⟩ := hcells hm
 have hnews : ∀ j u, news[j]? = some u → w.cell? ((⟨b2, o2, none⟩ : Addr).add j) = some u := by
  intro j u hu
  rw [Addr.add_lit]
  exact hc2 j u hu
 refine ⟨A', c', w', r1, o1, g1, ?_⟩
 have hown0 := hown
 obtain ⟨A, n', c, rfl, hn, hcase⟩ := hown
 obtain rfl : n' = n := Nat.eq_of_mul_eq_mul_right hk (hn.trans hnx.symm)
 have ext : Ext w w' → OwnK w' B e k (.slice A n' c) xs ∧ ∀ A1 c1 (news1 : List Value), news1.length = news.length → OwnK w B e k (.slice A1 (n' + m') c1) (xs ++ news1) → OwnK w' B e k (.slice A1 (n' + m') c1) (xs ++ news1) ∨ OwnK w' B e k (.slice A1 (n' + m') c1) (xs ++ news) := fun h => ⟨hown0.ext h, fun A1 c1 n1 _ h2 => .inl (h2.ext h)⟩
 rcases hcase with ⟨h0, hc0⟩ | ⟨g, cur, rfl, hbg, hg, hnc, hcm, hcs, htk⟩
 · subst hc0
   refine ext ((Below.refl w.heap.size w).grown g1 (Nat.le_refl _) fun r hr => ?_)
   cases A <;> simp [rowOf] at hr
 · by_cases hc0 : c = 0
   · subst hc0
     refine ext ((Below.refl w.heap.size w).grown g1 (Nat.le_refl _) fun r hr => ?_)
     simp [rowOf] at hr
   · by_cases hroom : n' + m' ≤ c
     · have hfit : n' * i.size + news.length ≤ cur.size := by rw [hsz, hcs, ← hmx, ← Nat.add_mul]; exact Nat.mul_le_mul_right _ hroom
       have r2 := run_append_room (P := P) w t ty e i ht hi g n' c cur hg ⟨b2, o2, none⟩ m' c2 news (by rw [hsz]; exact hmx.symm) hnews h1 hroom hfit
       rw [r2] at r1
       injection r1 with q1 q2
       have hw : w'.heap[g]? = some (.cells (cur.toList.take (n' * i.size) ++ news ++ cur.toList.drop (n' * i.size + news.length)).toArray e (0, 0)) := by
        rw [← q2]
        exact setRow_heap w g cur _ e _ hg
       rw [hsz] at hw hfit
       have hsize : (cur.toList.take (n' * k) ++ news ++ cur.toList.drop (n' * k + news.length)).toArray.size = cur.size := by
        simp only [List.size_toArray, List.length_append, List.length_take, List.length_drop, Array.length_toList]
        omega
       have htk2 : cur.toList.take (n' * k) = xs := htk
       have hl : (xs ++ news).length = (n' + m') * k := by rw [List.length_append, ← hnx, ← hmx, Nat.add_mul]
       refine ⟨⟨_, n', c, rfl, hn, .inr ⟨g, _, rfl, hbg, hw, hnc, hcm, by rw [hsize]; exact hcs, ?_⟩⟩, fun A1 c1 n1 hl1 h2 => ?_⟩
       · rw [htk2, List.append_assoc, hn]
         exact List.take_left
       · obtain ⟨A9, n9, c9, e9, hn9, h2⟩ := h2
         injection e9 with e1 e2 e3
         subst e1 e2 e3
         rcases h2 with h2 | ⟨g9, cur9, rfl, hb9, hg9, hnc9, hcm9, hcs9, ht9⟩
         · exact .inl ⟨_, _, _, rfl, hn9, .inl h2⟩
         · by_cases hgg : g9 = g
           · subst hgg
             rw [hg] at hg9
             injection hg9 with hg9
             injection hg9 with hg9
             subst hg9
             refine .inr ⟨_, _, _, rfl, hl.symm, .inr ⟨g9, _, rfl, hbg, hw, hnc9, hcm9, by rw [hsize]; exact hcs9, ?_⟩⟩
             rw [htk2, ← hl]
             exact List.take_left
           · refine .inl ⟨_, _, _, rfl, hn9, .inr ⟨g9, cur9, rfl, hb9, (g1.block g9 (block_lt hg9) fun q => ?_).trans hg9, hnc9, hcm9, hcs9, ht9⟩⟩
             obtain ⟨c', rfl⟩ : ∃ c', c = c' + 1 := ⟨c - 1, by omega⟩
             have q : some g = some g9 := by first | exact q | exact q.symm
             injection q with q
             exact hgg q.symm
     · have holds : ∀ j u, xs[j]? = some u → w.cell? ((⟨g, 0, none⟩ : Addr).add j) = some u := by
        intro j u hu
        rw [Addr.add_lit]
        show w.cell? ⟨g, 0 + j, none⟩ = _
        rw [Nat.zero_add, cell_of_row w g j cur e (0, 0) hg]
        rw [← htk, List.getElem?_take] at hu
        split at hu
        · simpa using hu
        · cases hu
       have hbb : (n' + m') * i.bytes ≤ 140737488355328 := by rw [hby]; exact hb
       have r2 := run_append_grow (P := P) w t ty e i z ht hi hz ⟨g, 0, none⟩ n' c xs (by rw [hsz]; exact hn.symm) holds ⟨b2, o2, none⟩ m' c2 news (by rw [hsz]; exact hmx.symm) hnews (by omega) (by unfold maxLen at h63; omega) (growslice_fits (by omega) hbb)
       rw [r2] at r1
       injection r1 with q1 q2
       refine ext ?_
       rw [← q2]
       exact (Below.refl _ _).drew.alloc (Nat.le_refl _) _
def GOwS (B : Nat) (l : List NC) : VPred := fun v w => ∃ s : SlT, v = slV s ∧ OwnK w B 56 11 (slV s) (ncsCells l)
theorem stable_GOwS (B : Nat) (l : List NC) : StableP (GOwS B l) := fun v w w' e ⟨s, h1, h2⟩ => ⟨s, h1, h2.ext e⟩
def GOwX {α : Type} (K : LK α) (B : Nat) (l : List α) : VPred := fun v w => ∃ s : SlT, v = slV s ∧ OwnX K w B (slV s) l
theorem stable_GOwX {α : Type} (K : LK α) (B : Nat) (l : List α) : StableP (GOwX K B l) := fun v w w' e ⟨s, h1, h2⟩ => ⟨s, h1, h2.ext e⟩
def GStO (B : Nat) (S : ST) : VPred := fun v w => ∃ s0 s1 s2 s3 s4 : SlT, v = storeV s0 s1 s2 s3 s4 ∧ StO w B s0 s1 s2 s3 s4 S
theorem stable_GStO (B : Nat) (S : ST) : StableP (GStO B S) := fun v w w' e ⟨s0, s1, s2, s3, s4, h1, h2⟩ => ⟨s0, s1, s2, s3, s4, h1, h2.ext e⟩
theorem run_buildSt (W : World) (s0 s1 s2 s3 s4 : SlT) : (Instr.build 75 [(0, slV s0), (1, slV s1), (2, slV s2), (3, slV s3), (4, slV s4)].toArray).run Tryz.prog W = .ok (storeV s0 s1 s2 s3 s4) W := by
 unfold slV storeV
 go_simp
theorem clone_gs {B : Nat} {a : Value} {l : List NC} (W : World) (ha : RdN W a l) (hl : l.length ≤ 1000000) (hB : B ≤ W.heap.size) : Calls Tryz.prog 201 #[a] W fun e w' => ∃ v, e = .returned v ∧ Ext W w' ∧ GOwS B l v w' :=
 (cloneN_any W ha hl).mono fun e w' ⟨A, n, c, h1, h2, h3⟩ => ⟨_, h1, h3, (A, n, c), rfl, h2.mono hB⟩
def CStR (w : World) (S : ST) (e : Ending) (w' : World) : Prop := ∃ t0 t1 t2 t3 t4 : SlT, e = .returned (storeV t0 t1 t2 t3 t4) ∧ StO w' w.heap.size t0 t1 t2 t3 t4 S ∧ Ext w w'
set_option maxHeartbeats 8000000 in
theorem cstore_any (s0 s1 s2 s3 s4 : SlT) (S : ST) (w : World) (hS : StR w s0 s1 s2 s3 s4 S) (hB : StB S) : Calls Tryz.prog 132 #[storeV s0 s1 s2 s3 s4] w (CStR w S) := by
 obtain ⟨wz, hwz⟩ : ∃ wz, wz = (w.alloc (.cells #[.slice s0.1 s0.2.1 s0.2.2, .slice s1.1 s1.2.1 s1.2.2, .slice s2.1 s2.2.1 s2.2.2, .slice s3.1 s3.2.1 s3.2.2, .slice s4.1 s4.2.1 s4.2.2] 75)).alloc (.cells #[.slice none 0 0, .slice none 0 0, .slice none 0 0, .slice none 0 0, .slice none 0 0] 75) := ⟨_, rfl⟩
 have e1 : Ext w (w.alloc (.cells #[.slice s0.1 s0.2.1 s0.2.2, .slice s1.1 s1.2.1 s1.2.2, .slice s2.1 s2.2.1 s2.2.2, .slice s3.1 s3.2.1 s3.2.2, .slice s4.1 s4.2.1 s4.2.2] 75)) := (Below.refl _ _).alloc (Nat.le_refl _) _
 have ez : Ext w wz := by rw [hwz]; exact e1.alloc (by simp) _
 have hz : wz.heap[w.heap.size]? = some (.cells #[.slice s0.1 s0.2.1 s0.2.2, .slice s1.1 s1.2.1 s1.2.2, .slice s2.1 s2.2.1 s2.2.2, .slice s3.1 s3.2.1 s3.2.2, .slice s4.1 s4.2.1 s4.2.2] 75 (0, 0)) := by
  rw [hwz]
  exact (((Below.refl _ _).alloc (Nat.le_refl _) _ : Ext (w.alloc (.cells #[.slice s0.1 s0.2.1 s0.2.2, .slice s1.1 s1.2.1 s1.2.2, .slice s2.1 s2.2.1 s2.2.2, .slice s3.1 s3.2.1 s3.2.2, .slice s4.1 s4.2.1 s4.2.2] 75)) _).block _ (by simp)).trans (heap_alloc_new' w _)
 have hy : wz.heap[w.heap.size + 1]? = some (.cells #[.slice none 0 0, .slice none 0 0, .slice none 0 0, .slice none 0 0, .slice none 0 0] 75 (0, 0)) := by
  have := heap_alloc_new' (w.alloc (.cells #[.slice s0.1 s0.2.1 s0.2.2, .slice s1.1 s1.2.1 s1.2.2, .slice s2.1 s2.2.1 s2.2.2, .slice s3.1 s3.2.1 s3.2.2, .slice s4.1 s4.2.1 s4.2.2] 75)) (.cells #[.slice none 0 0, .slice none 0 0, .slice none 0 0, .slice none 0 0, .slice none 0 0] 75)
  rw [show (w.alloc (.cells #[.slice s0.1 s0.2.1 s0.2.2, .slice s1.1 s1.2.1 s1.2.2, .slice s2.1 s2.2.1 s2.2.2, .slice s3.1 s3.2.1 s3.2.2, .slice s4.1 s4.2.1 s4.2.2] 75)).heap.size = w.heap.size + 1 by simp] at this
  rw [hwz]
  exact this
 have hsz : wz.heap.size = w.heap.size + 1 + 1 := by rw [hwz]; simp
 have H0 := Lib.hid (fun W (e : Ext w W) (hW : wz.heap.size ≤ W.heap.size) => clone_gs (a := slV s0) W (RdK.ext hS.r0 e) (by have := hB.lr; omega) hW)
 have H1 := Lib.hid (fun W (e : Ext w W) (hW : wz.heap.size ≤ W.heap.size) => clone_gs (a := slV s1) W (RdK.ext hS.r1 e) (by have := hB.lp; omega) hW)
 have H2 := Lib.hid (fun W (e : Ext w W) (hW : wz.heap.size ≤ W.heap.size) => (eachM_any (v := slV s2) W (hS.r2.ext e) (by have := hB.lm; omega) (fun a ha => by have := (hB.m a ha).2; omega)).mono fun e' w' ⟨A, c, h1, h2, h3⟩ => (⟨_, h1, h3, (A, _, c), rfl, h2.mono hW⟩ : ∃ v, e' = Ending.returned v ∧ Ext W w' ∧ GOwX kM wz.heap.size S.ms v w'))
 have H3 := Lib.hid (fun W (e : Ext w W) (hW : wz.heap.size ≤ W.heap.size) => (eachR_any (v := slV s3) W (hS.r3.ext e) (by have := hB.ls; omega) (fun a ha => by have := hB.s a ha; omega)).mono fun e' w' ⟨A, c, h1, h2, h3⟩ => (⟨_, h1, h3, (A, _, c), rfl, h2.mono hW⟩ : ∃ v, e' = Ending.returned v ∧ Ext W w' ∧ GOwX kR wz.heap.size S.rs v w'))
 have H4 := Lib.hid (fun W (e : Ext w W) (hW : wz.heap.size ≤ W.heap.size) => (eachD_any (v := slV s4) W (hS.r4.ext e) (by have := hB.ld; omega) (fun a ha => by have := hB.d a ha; omega)).mono fun e' w' ⟨A, c, h1, h2, h3⟩ => (⟨_, h1, h3, (A, _, c), rfl, h2.mono hW⟩ : ∃ v, e' = Ending.returned v ∧ Ext W w' ∧ GOwX kD wz.heap.size S.ds v w'))
 have HZ := Lib.hid hz
 have HY := Lib.hid hy
 have EZ := Lib.hid ez
 clear e1 ez hz hy hS hB
 unfold storeV
 go_enter Tryz.func132, Tryz.ntmps132
 go_upto_region 1 with fail
 rw [← hwz]
 clear hwz
 refine Gd.wp_region_X 16 (by kernel_rfl) (by kernel_rfl) ?_
 simp only [List.take_succ_cons, List.take_zero, List.drop_succ_cons, List.drop_zero]
 intro wq hw1
 have LL : ∀ m : Lt wq, Ext wz m.1 := fun m => hw1.tr m.2
 have LW : ∀ m : Lt wq, Ext w m.1 := fun m => EZ.out.tr (LL m)
 have k0 : ∀ m : Lt wq, m.1.cell? ⟨w.heap.size, 0, none⟩ = some (.slice s0.1 s0.2.1 s0.2.2) := fun m => by rw [cell_of_row m.1 _ 0 _ _ _ (((LL m).block _ (block_lt HZ.out)).trans HZ.out)]; rfl
 have k1 : ∀ m : Lt wq, m.1.cell? ⟨w.heap.size, 1, none⟩ = some (.slice s1.1 s1.2.1 s1.2.2) := fun m => by rw [cell_of_row m.1 _ 1 _ _ _ (((LL m).block _ (block_lt HZ.out)).trans HZ.out)]; rfl
 have k2 : ∀ m : Lt wq, m.1.cell? ⟨w.heap.size, 2, none⟩ = some (.slice s2.1 s2.2.1 s2.2.2) := fun m => by rw [cell_of_row m.1 _ 2 _ _ _ (((LL m).block _ (block_lt HZ.out)).trans HZ.out)]; rfl
 have k3 : ∀ m : Lt wq, m.1.cell? ⟨w.heap.size, 3, none⟩ = some (.slice s3.1 s3.2.1 s3.2.2) := fun m => by rw [cell_of_row m.1 _ 3 _ _ _ (((LL m).block _ (block_lt HZ.out)).trans HZ.out)]; rfl
 have k4 : ∀ m : Lt wq, m.1.cell? ⟨w.heap.size, 4, none⟩ = some (.slice s4.1 s4.2.1 s4.2.2) := fun m => by rw [cell_of_row m.1 _ 4 _ _ _ (((LL m).block _ (block_lt HZ.out)).trans HZ.out)]; rfl
 have kl : ∀ m : Lt wq, w.heap.size < m.1.heap.size := fun m => Nat.lt_of_lt_of_le (block_lt HZ.out) (LL m).size
 repeat (refine Gd.wpX_pure (by first | exact trivial | exact ⟨_, rfl, rfl, rfl⟩) rfl rfl rfl rfl rfl (fun K hK => ?_); go_big_quiet_op; refine hK _ ?_; clear hK K)
 refine Gd.wpX_callF (by first | exact trivial | exact ⟨_, rfl, rfl, rfl⟩) (GOwS wz.heap.size S.roots) (stable_GOwS _ _) (fun _ => [.slice s0.1 s0.2.1 s0.2.2]) rfl rfl rfl rfl rfl (by kernel_rfl) rfl (fun _ => rfl) (fun m f hf => H0.out m.1 (LW m) (LL m).size) ?_
 simp only [Act.put, List.setIfInBounds_toArray, List.set_cons_zero, List.set_cons_succ]
 repeat (refine Gd.wpX_pure (by first | exact trivial | exact ⟨_, rfl, rfl, rfl⟩) rfl rfl rfl rfl rfl (fun K hK => ?_); go_big_quiet_op; refine hK _ ?_; clear hK K)
 refine Gd.wpX_callF (by first | exact trivial | exact ⟨_, rfl, rfl, rfl⟩) (GOwS wz.heap.size S.pool) (stable_GOwS _ _) (fun _ => [.slice s1.1 s1.2.1 s1.2.2]) rfl rfl rfl rfl rfl (by kernel_rfl) rfl (fun _ => rfl) (fun m f hf => H1.out m.1 (LW m) (LL m).size) ?_
 simp only [Act.put, List.setIfInBounds_toArray, List.set_cons_zero, List.set_cons_succ]
 repeat (refine Gd.wpX_pure (by first | exact trivial | exact ⟨_, rfl, rfl, rfl⟩) rfl rfl rfl rfl rfl (fun K hK => ?_); go_big_quiet_op; refine hK _ ?_; clear hK K)
 refine Gd.wpX_callF (by first | exact trivial | exact ⟨_, rfl, rfl, rfl⟩) (GOwX kM wz.heap.size S.ms) (stable_GOwX _ _ _) (fun _ => [.slice s2.1 s2.2.1 s2.2.2, .func (.func 135) #[] #[]]) rfl rfl rfl rfl rfl (by kernel_rfl) rfl (fun _ => rfl) (fun m f hf => H2.out m.1 (LW m) (LL m).size) ?_
 simp only [Act.put, List.setIfInBounds_toArray, List.set_cons_zero, List.set_cons_succ]
 repeat (refine Gd.wpX_pure (by first | exact trivial | exact ⟨_, rfl, rfl, rfl⟩) rfl rfl rfl rfl rfl (fun K hK => ?_); go_big_quiet_op; refine hK _ ?_; clear hK K)
 refine Gd.wpX_callF (by first | exact trivial | exact ⟨_, rfl, rfl, rfl⟩) (GOwX kR wz.heap.size S.rs) (stable_GOwX _ _ _) (fun _ => [.slice s3.1 s3.2.1 s3.2.2, .func (.func 160) #[] #[]]) rfl rfl rfl rfl rfl (by kernel_rfl) rfl (fun _ => rfl) (fun m f hf => H3.out m.1 (LW m) (LL m).size) ?_
 simp only [Act.put, List.setIfInBounds_toArray, List.set_cons_zero, List.set_cons_succ]
 repeat (refine Gd.wpX_pure (by first | exact trivial | exact ⟨_, rfl, rfl, rfl⟩) rfl rfl rfl rfl rfl (fun K hK => ?_); go_big_quiet_op; refine hK _ ?_; clear hK K)
 refine Gd.wpX_callF (by first | exact trivial | exact ⟨_, rfl, rfl, rfl⟩) (GOwX kD wz.heap.size S.ds) (stable_GOwX _ _ _) (fun _ => [.slice s4.1 s4.2.1 s4.2.2, .func (.func 171) #[] #[]]) rfl rfl rfl rfl rfl (by kernel_rfl) rfl (fun _ => rfl) (fun m f hf => H4.out m.1 (LW m) (LL m).size) ?_
 simp only [Act.put, List.setIfInBounds_toArray, List.set_cons_zero, List.set_cons_succ]
 refine Gd.wpX_buildL (by first | exact trivial | exact ⟨_, rfl, rfl, rfl⟩) (GStO wz.heap.size S) (stable_GStO _ _) (fun f => [(0, f 5), (1, f 8), (2, f 11), (3, f 14), (4, f 17)]) rfl rfl rfl rfl rfl (fun _ => rfl) (fun m f hf => ?_) ?_
 · obtain ⟨t0, h0, o0⟩ := hf 5 _ rfl rfl
   obtain ⟨t1, h1, o1⟩ := hf 8 _ rfl rfl
   obtain ⟨t2, h2, o2⟩ := hf 11 _ rfl rfl
   obtain ⟨t3, h3, o3⟩ := hf 14 _ rfl rfl
   obtain ⟨t4, h4, o4⟩ := hf 17 _ rfl rfl
   rw [h0, h1, h2, h3, h4]
   exact ⟨_, _, run_buildSt m.1 t0 t1 t2 t3 t4, Below.refl _ _, t0, t1, t2, t3, t4, rfl, o0, o1, o2, o3, o4⟩
 simp only [Act.put, List.setIfInBounds_toArray, List.set_cons_zero, List.set_cons_succ]
 refine Gd.wpX_endL (fun m f hf => ?_)
 obtain ⟨t0, t1, t2, t3, t4, e18, SO⟩ := hf 18 _ rfl
 simp only [fillH]
 simp only [Act.put, List.setIfInBounds_toArray, List.set_cons_zero, List.set_cons_succ]
 rw [e18]
 have LM := Lib.hid (LL m)
 have HSO := Lib.hid SO
 clear hf e18 hw1 LL LW k0 k1 k2 k3 k4 kl SO H0 H1 H2 H3 H4
 generalize m.1 = w2 at *
 generalize f 5 = f5 at *
 generalize f 8 = f8 at *
 generalize f 11 = f11 at *
 generalize f 14 = f14 at *
 generalize f 17 = f17 at *
 clear m f
 have HY2 := Lib.hid ((LM.out.block _ (block_lt HY.out)).trans HY.out)
 have H1 := Lib.hid (stRow_one t0 t1 t2 t3 t4)
 show wpList _ _ _ _ _ _
 unfold storeV
 go_wp2_with (refine wpRow_store rfl 75 _ _ rfl rfl (w.heap.size + 1) (stRow t0 t1 t2 t3 t4) rfl rfl 75 #[.slice none 0 0, .slice none 0 0, .slice none 0 0, .slice none 0 0, .slice none 0 0] HY2.out info_st rfl H1.out ?_)
 refine bodyPost_ret (v := storeV t0 t1 t2 t3 t4) ?_ rfl ⟨t0, t1, t2, t3, t4, rfl, ?_, ?_⟩
 · exact results_cell_row rfl _ _ (w.heap.size + 1) 75 (stRow t0 t1 t2 t3 t4) (0, 0) _ rfl (row_at HY2.out) Tryz.underlying75 rfl info_st
 · exact (HSO.out.gbB (g := w.heap.size + 1) (by omega) (Gb.setRow _ _ _)).mono (by omega)
 · exact ext_setRow (EZ.out.tr LM.out) (by omega) _
theorem tn_tl : 56 ≠ 51 := by decide
def AdI (w : World) (B g : Nat) (L : List NC) : Prop := ∃ (A : Option Addr) (c : Nat), w.heap[g]? = some (.cells #[.slice A L.length c] 51 (0, 0)) ∧ OwnK w B 56 11 (.slice A L.length c) (ncsCells L)
theorem AdI.ext {w w' : World} {B g : Nat} {L : List NC} (h : AdI w B g L) (e : Ext w w') : AdI w' B g L := by
 obtain ⟨A, c, h1, h2⟩ := h
 exact ⟨A, c, (e.block g (block_lt h1)).trans h1, h2.ext e⟩
theorem addStep_yes {L : List NC} {y : NC} (h : y ∈ L) : addStep L y = L := if_pos h
theorem addStep_no {L : List NC} {y : NC} (h : y ∉ L) : addStep L y = L ++ [y] := if_neg h
theorem ad_after {w w8 : World} {g B : Nat} {v : Value} {xs : List Value} {cs : Array Value} {fr : Nat × Nat} (hb : w.heap[g]? = some (.cells cs 51 fr)) (o : OwnK w B 56 11 v xs) (g8 : w.grownBy w8 (rowOf v)) : w8.heap[g]? = some (.cells cs 51 fr) :=
 (g8.block g (block_lt hb) (fun q => o.row_blk hb tn_tl q.symm)).trans hb
theorem ad_cell {w : World} {g : Nat} {u : Value} {T : Nat} (hb : w.heap[g]? = some (.cells #[u] T (0, 0))) : w.cell? ⟨g, 0, none⟩ = some u ∧ g < w.heap.size ∧ w.frozen? ⟨g, 0, none⟩ = false :=
 ⟨by rw [cell_of_row w g 0 _ _ _ hb]; rfl, block_lt hb, by simp [World.frozen?, hb]⟩
set_option maxHeartbeats 4000000 in
theorem addR_any {v : Value} {l L : List NC} {g : Nat} (w w1 : World) (hv : RdN w v l) (hg : w.heap.size ≤ g) (I : AdI w1 w.heap.size g L) (X : Ext w w1) (hl : L.length + l.length ≤ 1000000) :
 Calls Tryz.prog 147 #[v, .pointer (some ⟨g, 0, none⟩)] w1 fun e w' => e = .returned (.tuple #[]) ∧ AdI w' w.heap.size g (addT L l) ∧ Ext w w' := by
 obtain ⟨A, n, cp, rfl, hn, hnc, hcm, hel⟩ := hv.at_
 subst hn
 have HEL := Lib.hid hel
 unfold maxLen at hcm
 have HI := Lib.hid (show AdI w1 w.heap.size g (addT L (l.take 0)) from I)
 have HX := Lib.hid X
 have HLN := Lib.hid hl
 clear hel hv I X hl
 go_enter Tryz.func147, Tryz.ntmps147
 go_wp2_with fail
 go_loopw [7] (fun i wr => ∃ k : Nat, k ≤ l.length ∧ i = .int .i64 (k : Int) ∧ Hid (AdI wr w.heap.size g (addT L (l.take k))) ∧ Hid (Ext w wr)) (fun i _ => l.length - (intOf i).toNat)
 case atStart => exact ⟨0, Nat.zero_le _, rfl, HI, HX⟩
 case round =>
  obtain ⟨k, hk, rfl, I, X⟩ := hrel
  by_cases hlt : k < l.length
  case neg =>
   obtain rfl : k = l.length := by omega
   have HR : Hid (AdI wr w.heap.size g (addT L l)) := Lib.hid (by have := I.out; rwa [List.take_length] at this)
   clear I
   go_wp2_with fail
   refine bodyPost_end (v := .tuple #[]) ?_ rfl ⟨rfl, HR.out, X.out⟩
   simp [results, Tryz.results147, go_sem]
  case pos =>
  obtain ⟨y, hy⟩ : ∃ y, l[k]? = some y := ⟨_, List.getElem?_eq_getElem hlt⟩
  obtain ⟨b, o, rfl, hbl, hc⟩ := HEL.out (by omega)
  have hcy := hc k y hy
  have HSN := Lib.hid (addT_snoc L hy)
  have HLE := Lib.hid (show (addT L (l.take k)).length ≤ 999999 by have h1 := addT_len L (l.take k); rw [List.length_take] at h1; have := HLN.out; omega)
  clear hy hc
  have wi1 : IntKind.i64.wrap ((k : Int)) = (k : Int) := IntWalk.i64_in _ (by omega)
  have zi1 : (0 : Int) ≤ (k : Int) := by omega
  have li1 : (k : Int) < (l.length : Int) := by omega
  have ti1 : ((k : Int)).toNat = k := by omega
  have wk : IntKind.i64.wrap ((k : Int) + 1) = (k : Int) + 1 := IntWalk.i64_in _ (by omega)
  obtain ⟨N, hN⟩ : ∃ N, addT L (l.take k) = N := ⟨_, rfl⟩
  rw [hN] at HSN HLE I
  clear hN
  obtain ⟨Ao, co, hb, ho⟩ := I.out
  have HB := Lib.hid hb
  have HO := Lib.hid ho
  clear hb ho I
  have q0 := (X.out.cell (p := ⟨b, o + k * 11, none⟩) hbl).trans hcy.1
  have q1 := (X.out.cell (p := ⟨b, o + k * 11 + 1, none⟩) hbl).trans hcy.2.1
  have q2 := (X.out.cell (p := ⟨b, o + k * 11 + 2, none⟩) hbl).trans hcy.2.2.1
  have q3 := (X.out.cell (p := ⟨b, o + k * 11 + 3, none⟩) hbl).trans hcy.2.2.2.1
  have q4 := (X.out.cell (p := ⟨b, o + k * 11 + 4, none⟩) hbl).trans hcy.2.2.2.2.1
  have q5 := (X.out.cell (p := ⟨b, o + k * 11 + 5, none⟩) hbl).trans hcy.2.2.2.2.2.1
  have q6 := (X.out.cell (p := ⟨b, o + k * 11 + 6, none⟩) hbl).trans hcy.2.2.2.2.2.2.1
  have q7 := (X.out.cell (p := ⟨b, o + k * 11 + 7, none⟩) hbl).trans hcy.2.2.2.2.2.2.2.1
  have q8 := (X.out.cell (p := ⟨b, o + k * 11 + 8, none⟩) hbl).trans hcy.2.2.2.2.2.2.2.2.1
  have q9 := (X.out.cell (p := ⟨b, o + k * 11 + 9, none⟩) hbl).trans hcy.2.2.2.2.2.2.2.2.2.1
  have q10 := (X.out.cell (p := ⟨b, o + k * 11 + 10, none⟩) hbl).trans hcy.2.2.2.2.2.2.2.2.2.2
  clear hcy
  obtain ⟨wn, hwn, en, TN⟩ := nc_alloc wr y
  go_upto_region 3 with fail
  rw [← hwn]
  clear hwn q0 q1 q2 q3 q4 q5 q6 q7 q8 q9 q10
  have HBN := Lib.hid ((en.block g (block_lt HB.out)).trans HB.out)
  have HON := Lib.hid (HO.out.ext en)
  have XN := Lib.hid (X.out.tr en)
  clear HB HO X en
  have cg : wn.cell? ⟨g, 0, none⟩ = some (.slice Ao N.length co) := by rw [cell_of_row wn g 0 _ _ _ HBN.out]; rfl
  have gl := block_lt HBN.out
  obtain ⟨p0, p1, p2, p3, p4, p5, p6, p7, p8, p9, p10⟩ := (TN).cells
  have pf0 := (TN).frozen 0
  have pf1 := (TN).frozen 1
  have pf2 := (TN).frozen 2
  have pf3 := (TN).frozen 3
  have pf4 := (TN).frozen 4
  have pf5 := (TN).frozen 5
  have pf6 := (TN).frozen 6
  have pf7 := (TN).frozen 7
  have pf8 := (TN).frozen 8
  have pf9 := (TN).frozen 9
  have pf10 := (TN).frozen 10
  have pl := (TN).lt
  go_wp2_with fail
  refine (containsN_any y wn HON.out.rd).mono ?_
  rintro e w2 ⟨rfl, b2⟩
  have TN2 := TN.ext b2
  clear cg gl
  clear p0 pf0 p1 pf1 p2 pf2 p3 pf3 p4 pf4 p5 pf5 p6 pf6 p7 pf7 p8 pf8 p9 pf9 p10 pf10 pl
  have HB2 := Lib.hid ((b2.block g (block_lt HBN.out)).trans HBN.out)
  have HO2 := Lib.hid (HON.out.ext b2)
  have X2 := Lib.hid (XN.out.tr b2)
  clear TN HBN HON XN b2
  have cg : w2.cell? ⟨g, 0, none⟩ = some (.slice Ao N.length co) := by rw [cell_of_row w2 g 0 _ _ _ HB2.out]; rfl
  have gl := block_lt HB2.out
  have gf : w2.frozen? ⟨g, 0, none⟩ = false := by simp [World.frozen?, HB2.out]
  by_cases hm : y ∈ N
  · have HF := Lib.hid (show addT L (l.take (k + 1)) = N by rw [HSN.out]; exact addStep_yes hm)
    rw [decide_eq_true hm]
    clear hm
    go_wp2_with fail
    go_roundw
    case rel => exact ⟨k + 1, by omega, by go_num, by rw [HF.out]; exact Lib.hid ⟨Ao, co, HB2.out, HO2.out⟩, X2⟩
    case measure => simp [intOf]; omega
  · have HF := Lib.hid (show addT L (l.take (k + 1)) = N ++ [y] by rw [HSN.out]; exact addStep_no hm)
    rw [decide_eq_false hm]
    clear hm
    obtain ⟨p0, p1, p2, p3, p4, p5, p6, p7, p8, p9, p10⟩ := (TN2).cells
    have pf0 := (TN2).frozen 0
    have pf1 := (TN2).frozen 1
    have pf2 := (TN2).frozen 2
    have pf3 := (TN2).frozen 3
    have pf4 := (TN2).frozen 4
    have pf5 := (TN2).frozen 5
    have pf6 := (TN2).frozen 6
    have pf7 := (TN2).frozen 7
    have pf8 := (TN2).frozen 8
    have pf9 := (TN2).frozen 9
    have pf10 := (TN2).frozen 10
    have pl := (TN2).lt
    have eA : Ext w2 (w2.alloc (.cells (ncCells y).toArray 56)) := (Below.refl _ _).alloc (Nat.le_refl _) _
    have HRK := Lib.hid (ls_one w2 y)
    have HO3 := Lib.hid (HO2.out.ext eA)
    have HB3 := Lib.hid ((eA.block g gl).trans HB2.out)
    have X3 := Lib.hid (X2.out.tr eA)
    unfold ncCells at HRK HO3 HB3 X3
    clear eA
    go_wp2_with (refine wpList_appK (k := 11) (by decide) elemNc (n := N.length) (m := 1) (B := w.heap.size) HO3.out (by rw [ncsCells_len]) HRK.out (by rfl) (ncCells_one y) X3.out (by have := HLE.out; omega) (by have := HLE.out; unfold maxLen; omega) X3.out.size rfl rfl rfl rfl ?_; intro A8 n8 c8 w8 hn8 o8 x8 g8; have HB8 := Lib.hid (ad_after HB3.out HO3.out g8); obtain ⟨gc8, gl8, gf8⟩ := ad_cell HB8.out)
    have hn8 : n8 = (N ++ [y]).length := by rw [List.length_append]; exact hn8.out
    subst hn8
    have HI8 : Hid (AdI (w8.setCell ⟨g, 0, none⟩ (.slice A8 (N ++ [y]).length c8)) w.heap.size g (N ++ [y])) := Lib.hid ⟨A8, c8, by have := row_set HB8.out 0 (.slice A8 (N ++ [y]).length c8); exact this, by rw [← ncsCells_snoc]; exact o8.grown (Gb.set g 0 w8 _) (.inr (o8.row_blk HB8.out tn_tl))⟩
    have X8 := Lib.hid (ext_set x8 hg (i := 0) (v := .slice A8 (N ++ [y]).length c8))
    clear x8 o8 gl8 gf8 gc8 HB8
    go_roundw
    case rel => exact ⟨k + 1, by omega, by go_num, by rw [HF.out]; exact HI8, X8⟩
    case measure => simp [intOf]; omega
theorem take_snocG {α : Type} {l : List α} {y : α} {k : Nat} (h : l[k]? = some y) : l.take (k + 1) = l.take k ++ [y] := by
 obtain ⟨hk, rfl⟩ := List.getElem?_eq_some_iff.1 h
 exact List.take_succ_eq_append_getElem hk
def rtT (S : ST) (k : Nat) : List NC := (S.ms.take k).foldl (fun out m => addT out m.roots) (addT [] S.roots)
theorem rtT_snoc {S : ST} {k : Nat} {t : MA} (h : S.ms[k]? = some t) : rtT S (k + 1) = addT (rtT S k) t.roots := by
 unfold rtT
 rw [take_snocG h, List.foldl_append]
 rfl
theorem rtT_all (S : ST) : rtT S S.ms.length = rootsT S := by
 unfold rtT rootsT
 rw [List.take_length]
theorem rtT_len {S : ST} (h : StB S) (k : Nat) : (rtT S k).length ≤ 210000 := by
 have h1 := foldAdd_len (S.ms.take k) (addT [] S.roots) fun x hx => (h.m x (List.mem_of_mem_take hx)).2
 have h2 := addT_len [] S.roots
 have h3 := h.lr
 have h4 := h.lm
 have h6 : (S.ms.take k).length ≤ 20 := by rw [List.length_take]; omega
 have h5 : (S.ms.take k).length * 10000 ≤ 20 * 10000 := Nat.mul_le_mul_right _ h6
 rw [List.length_nil] at h2
 unfold rtT
 omega
set_option maxHeartbeats 4000000 in
theorem roots_any (s0 s1 s2 s3 s4 : SlT) (S : ST) (w : World) (h0 : RdN w (slV s0) S.roots) (h2 : RdX kM w (slV s2) S.ms) (hB : StB S) : Calls Tryz.prog 57 #[storeV s0 s1 s2 s3 s4] w (RetN w (rootsT S)) := by
 obtain ⟨A', n', c', hs, hn, hnc, hcm, hel⟩ := h2.at_
 obtain ⟨A, n, cp⟩ := s2
 unfold slV at hs
 injection hs with hs1 hs2 hs3
 simp only at hs1 hs2 hs3
 subst hs1 hs2 hs3 hn
 obtain ⟨ws, hws⟩ : ∃ ws, ws = w.alloc (.cells #[.slice s0.1 s0.2.1 s0.2.2, .slice s1.1 s1.2.1 s1.2.2, .slice A S.ms.length cp, .slice s3.1 s3.2.1 s3.2.2, .slice s4.1 s4.2.1 s4.2.2] 75) := ⟨_, rfl⟩
 have es : Ext w ws := by rw [hws]; exact (Below.refl _ _).alloc (Nat.le_refl _) _
 have hsz : ws.heap.size = w.heap.size + 1 := by rw [hws]; simp
 have hb : ws.heap[w.heap.size]? = some (.cells #[.slice s0.1 s0.2.1 s0.2.2, .slice s1.1 s1.2.1 s1.2.2, .slice A S.ms.length cp, .slice s3.1 s3.2.1 s3.2.2, .slice s4.1 s4.2.1 s4.2.2] 75 (0, 0)) := by rw [hws]; exact heap_alloc_new' w _
 obtain ⟨wz, hwz⟩ : ∃ wz, wz = ws.alloc (.cells #[.slice none 0 0] 51) := ⟨_, rfl⟩
 have ez : Ext ws wz := by rw [hwz]; exact (Below.refl _ _).alloc (Nat.le_refl _) _
 have IZ : AdI wz ws.heap.size ws.heap.size ([] : List NC) := ⟨none, 0, by rw [hwz]; exact heap_alloc_new' ws _, OwnK.empty _ _ _ _ _⟩
 have HLR := Lib.hid (rtT_len hB)
 have HMB := Lib.hid hB.m
 have h00 : S.roots.length ≤ 10000 := hB.lr
 have HA0 := Lib.hid (show Calls Tryz.prog 147 #[.slice s0.1 s0.2.1 s0.2.2, .pointer (some ⟨ws.heap.size, 0, none⟩)] wz _ from addR_any ws wz (RdK.ext h0 es) (Nat.le_refl _) IZ ez (by rw [List.length_nil]; omega))
 have HAN := Lib.hid (fun (u : Value) (l L : List NC) (W : World) (hu : RdN ws u l) (I : AdI W ws.heap.size ws.heap.size L) (X : Ext ws W) (hl : L.length + l.length ≤ 1000000) => addR_any ws W hu (Nat.le_refl _) I X hl)
 have ES := Lib.hid es
 have HBK := Lib.hid hb
 have HEL := Lib.hid hel
 have HALL := Lib.hid (rtT_all S)
 unfold maxLen at hcm
 rw [hsz] at HA0 HAN
 rw [hws] at hwz
 clear h0 h2 hB es hb ez IZ hel h00
 unfold storeV
 go_enter Tryz.func57, Tryz.ntmps57
 go_wp2_with fail
 rw [← hwz]
 refine HA0.out.mono ?_
 rintro e w1 ⟨rfl, I1, X1⟩
 have HI1 := Lib.hid (show AdI w1 (w.heap.size + 1) (w.heap.size + 1) (rtT S 0) from I1)
 have c2 : w1.cell? ⟨w.heap.size, 2, none⟩ = some (.slice A S.ms.length cp) := by rw [cell_of_row w1 _ 2 _ _ _ ((X1.block _ (block_lt HBK.out)).trans HBK.out)]; rfl
 have cl : w.heap.size < w1.heap.size := Nat.lt_of_lt_of_le (block_lt HBK.out) X1.size
 have HX1 := Lib.hid X1
 clear I1 X1 hwz hws HA0
 go_upto_region 5 with fail
 clear c2 cl
 go_loopw [15] (fun s15 wr => ∃ k : Nat, k ≤ S.ms.length ∧ s15 = .int .i64 (k : Int) ∧ Hid (AdI wr (w.heap.size + 1) (w.heap.size + 1) (rtT S k)) ∧ Hid (Ext ws wr)) (fun s15 _ => S.ms.length - (intOf s15).toNat)
 case atStart => exact ⟨0, Nat.zero_le _, rfl, HI1, HX1⟩
 case round =>
  obtain ⟨k, hk, rfl, I, X⟩ := hrel
  by_cases hlt : k < S.ms.length
  case neg =>
   obtain rfl : k = S.ms.length := by omega
   have HI := Lib.hid (show AdI wr (w.heap.size + 1) (w.heap.size + 1) (rootsT S) by have := I.out; rwa [HALL.out] at this)
   clear I
   obtain ⟨Ao, co, hb, ho⟩ := HI.out
   have cg : wr.cell? ⟨w.heap.size + 1, 0, none⟩ = some (.slice Ao (rootsT S).length co) := by rw [cell_of_row wr _ 0 _ _ _ hb]; rfl
   have gl := block_lt hb
   have HO := Lib.hid ho
   clear hb ho
   go_wp2_with fail
   go_ret
   exact ⟨ES.out.tr X.out, _, _, rfl, HO.out.rd⟩
  case pos =>
  obtain ⟨t, ht⟩ : ∃ t, S.ms[k]? = some t := ⟨_, List.getElem?_eq_getElem hlt⟩
  obtain ⟨b, o, rfl, hbl, u, hcell, hu⟩ := HEL.out k t ht
  have HSN := Lib.hid (rtT_snoc ht)
  have HLT := Lib.hid (HMB.out t (List.mem_of_getElem? ht)).2
  obtain ⟨Au, nu, cu, rfl, -⟩ := id hu
  have HU0 := Lib.hid (RdK.ext hu ES.out)
  have XW := Lib.hid (ES.out.tr X.out)
  clear ht hu
  have wi1 : IntKind.i64.wrap ((k : Int)) = (k : Int) := IntWalk.i64_in _ (by omega)
  have zi1 : (0 : Int) ≤ (k : Int) := by omega
  have li1 : (k : Int) < (S.ms.length : Int) := by omega
  have ti1 : ((k : Int)).toNat = k := by omega
  have wk : IntKind.i64.wrap ((k : Int) + 1) = (k : Int) + 1 := IntWalk.i64_in _ (by omega)
  have l0 : wr.cell? ⟨b, o + k * 17, none⟩ = some (.string (bstr t.st)) := by
   have := (XW.out.cell (p := ⟨b, o + (k * 17 + 0), none⟩) hbl).trans (hcell 0 _ rfl)
   exact this
  have l1 : wr.cell? ⟨b, o + k * 17 + 1, none⟩ = some (.int .i64 t.num) := by
   have := (XW.out.cell (p := ⟨b, o + (k * 17 + 1), none⟩) hbl).trans (hcell 1 _ rfl)
   rwa [← Nat.add_assoc] at this
  have l2 : wr.cell? ⟨b, o + k * 17 + 2, none⟩ = some (.int .i64 t.day) := by
   have := (XW.out.cell (p := ⟨b, o + (k * 17 + 2), none⟩) hbl).trans (hcell 2 _ rfl)
   rwa [← Nat.add_assoc] at this
  have l3 : wr.cell? ⟨b, o + k * 17 + 3, none⟩ = some (.slice Au nu cu) := by
   have := (XW.out.cell (p := ⟨b, o + (k * 17 + 3), none⟩) hbl).trans (hcell 3 _ rfl)
   rwa [← Nat.add_assoc] at this
  have l4 : wr.cell? ⟨b, o + k * 17 + 4, none⟩ = some (.string (bstr t.sg.st)) := by
   have := (XW.out.cell (p := ⟨b, o + (k * 17 + 4), none⟩) hbl).trans (hcell 4 _ rfl)
   rwa [← Nat.add_assoc] at this
  have l5 : wr.cell? ⟨b, o + k * 17 + 5, none⟩ = some (.int .i64 t.sg.kind) := by
   have := (XW.out.cell (p := ⟨b, o + (k * 17 + 5), none⟩) hbl).trans (hcell 5 _ rfl)
   rwa [← Nat.add_assoc] at this
  have l6 : wr.cell? ⟨b, o + k * 17 + 6, none⟩ = some (.int .i64 t.sg.num) := by
   have := (XW.out.cell (p := ⟨b, o + (k * 17 + 6), none⟩) hbl).trans (hcell 6 _ rfl)
   rwa [← Nat.add_assoc] at this
  have l7 : wr.cell? ⟨b, o + k * 17 + 7, none⟩ = some (.int .i64 t.sg.iss) := by
   have := (XW.out.cell (p := ⟨b, o + (k * 17 + 7), none⟩) hbl).trans (hcell 7 _ rfl)
   rwa [← Nat.add_assoc] at this
  have l8 : wr.cell? ⟨b, o + k * 17 + 8, none⟩ = some (.int .i64 t.sg.own) := by
   have := (XW.out.cell (p := ⟨b, o + (k * 17 + 8), none⟩) hbl).trans (hcell 8 _ rfl)
   rwa [← Nat.add_assoc] at this
  have l9 : wr.cell? ⟨b, o + k * 17 + 9, none⟩ = some (.int .i64 t.sg.key) := by
   have := (XW.out.cell (p := ⟨b, o + (k * 17 + 9), none⟩) hbl).trans (hcell 9 _ rfl)
   rwa [← Nat.add_assoc] at this
  have l10 : wr.cell? ⟨b, o + k * 17 + 10, none⟩ = some (.int .i64 t.sg.fr) := by
   have := (XW.out.cell (p := ⟨b, o + (k * 17 + 10), none⟩) hbl).trans (hcell 10 _ rfl)
   rwa [← Nat.add_assoc] at this
  have l11 : wr.cell? ⟨b, o + k * 17 + 11, none⟩ = some (.int .i64 t.sg.un) := by
   have := (XW.out.cell (p := ⟨b, o + (k * 17 + 11), none⟩) hbl).trans (hcell 11 _ rfl)
   rwa [← Nat.add_assoc] at this
  have l12 : wr.cell? ⟨b, o + k * 17 + 12, none⟩ = some (.int .i64 t.sg.to) := by
   have := (XW.out.cell (p := ⟨b, o + (k * 17 + 12), none⟩) hbl).trans (hcell 12 _ rfl)
   rwa [← Nat.add_assoc] at this
  have l13 : wr.cell? ⟨b, o + k * 17 + 13, none⟩ = some (.int .i64 t.sg.e) := by
   have := (XW.out.cell (p := ⟨b, o + (k * 17 + 13), none⟩) hbl).trans (hcell 13 _ rfl)
   rwa [← Nat.add_assoc] at this
  have l14 : wr.cell? ⟨b, o + k * 17 + 14, none⟩ = some (.int .i64 t.sg.s) := by
   have := (XW.out.cell (p := ⟨b, o + (k * 17 + 14), none⟩) hbl).trans (hcell 14 _ rfl)
   rwa [← Nat.add_assoc] at this
  have l15 : wr.cell? ⟨b, o + k * 17 + 15, none⟩ = some (.int .i64 t.e) := by
   have := (XW.out.cell (p := ⟨b, o + (k * 17 + 15), none⟩) hbl).trans (hcell 15 _ rfl)
   rwa [← Nat.add_assoc] at this
  have l16 : wr.cell? ⟨b, o + k * 17 + 16, none⟩ = some (.int .i64 t.s) := by
   have := (XW.out.cell (p := ⟨b, o + (k * 17 + 16), none⟩) hbl).trans (hcell 16 _ rfl)
   rwa [← Nat.add_assoc] at this
  clear hcell
  obtain ⟨wn, hwn⟩ : ∃ wn, wn = wr.alloc (.cells #[.string (bstr t.st), .int .i64 t.num, .int .i64 t.day, .slice Au nu cu, .string (bstr t.sg.st), .int .i64 t.sg.kind, .int .i64 t.sg.num, .int .i64 t.sg.iss, .int .i64 t.sg.own, .int .i64 t.sg.key, .int .i64 t.sg.fr, .int .i64 t.sg.un, .int .i64 t.sg.to, .int .i64 t.sg.e, .int .i64 t.sg.s, .int .i64 t.e, .int .i64 t.s] 80) := ⟨_, rfl⟩
  have en : Ext wr wn := by rw [hwn]; exact (Below.refl _ _).alloc (Nat.le_refl _) _
  have bn : wn.heap[wr.heap.size]? = some (.cells #[.string (bstr t.st), .int .i64 t.num, .int .i64 t.day, .slice Au nu cu, .string (bstr t.sg.st), .int .i64 t.sg.kind, .int .i64 t.sg.num, .int .i64 t.sg.iss, .int .i64 t.sg.own, .int .i64 t.sg.key, .int .i64 t.sg.fr, .int .i64 t.sg.un, .int .i64 t.sg.to, .int .i64 t.sg.e, .int .i64 t.sg.s, .int .i64 t.e, .int .i64 t.s] 80 (0, 0)) := by rw [hwn]; exact heap_alloc_new' wr _
  have u3 : wn.cell? ⟨wr.heap.size, 3, none⟩ = some (.slice Au nu cu) := by rw [cell_of_row wn _ 3 _ _ _ bn]; rfl
  have ul := block_lt bn
  have HCA := Lib.hid (HAN.out (.slice Au nu cu) t.roots (rtT S k) wn HU0.out (I.out.ext en) (X.out.tr en) (by have := HLR.out k; have := HLT.out; omega))
  clear I X en bn
  go_upto_region 7 with fail
  rw [← hwn]
  clear hwn l0 l1 l2 l3 l4 l5 l6 l7 l8 l9 l10 l11 l12 l13 l14 l15 l16
  go_wp2_with fail
  refine HCA.out.mono ?_
  rintro e w8 ⟨rfl, I8, X8⟩
  have HI8 := Lib.hid (show AdI w8 (w.heap.size + 1) (w.heap.size + 1) (rtT S (k + 1)) by rw [HSN.out]; exact I8)
  have HX8 := Lib.hid X8
  clear I8 X8 u3 ul HCA
  go_wp2_with fail
  go_roundw
  case rel => exact ⟨k + 1, by omega, by go_num, HI8, HX8⟩
  case measure => simp [intOf]; omega
theorem two_allocMM (w : World) (r : MA) (v1 v2 : Value) : ∃ wz, wz = (w.alloc (.cells #[.string (bstr r.st), .int .i64 r.num, .int .i64 r.day, v1, .string (bstr r.sg.st), .int .i64 r.sg.kind, .int .i64 r.sg.num, .int .i64 r.sg.iss, .int .i64 r.sg.own, .int .i64 r.sg.key, .int .i64 r.sg.fr, .int .i64 r.sg.un, .int .i64 r.sg.to, .int .i64 r.sg.e, .int .i64 r.sg.s, .int .i64 r.e, .int .i64 r.s] 80)).alloc (.cells #[.string (bstr r.st), .int .i64 r.num, .int .i64 r.day, v2, .string (bstr r.sg.st), .int .i64 r.sg.kind, .int .i64 r.sg.num, .int .i64 r.sg.iss, .int .i64 r.sg.own, .int .i64 r.sg.key, .int .i64 r.sg.fr, .int .i64 r.sg.un, .int .i64 r.sg.to, .int .i64 r.sg.e, .int .i64 r.sg.s, .int .i64 r.e, .int .i64 r.s] 80) ∧ Ext w wz ∧ MaAt wz w.heap.size r v1 ∧ MaAt wz (w.heap.size + 1) r v2 := by
 have e1 : Ext w (w.alloc (.cells #[.string (bstr r.st), .int .i64 r.num, .int .i64 r.day, v1, .string (bstr r.sg.st), .int .i64 r.sg.kind, .int .i64 r.sg.num, .int .i64 r.sg.iss, .int .i64 r.sg.own, .int .i64 r.sg.key, .int .i64 r.sg.fr, .int .i64 r.sg.un, .int .i64 r.sg.to, .int .i64 r.sg.e, .int .i64 r.sg.s, .int .i64 r.e, .int .i64 r.s] 80)) := (Below.refl _ _).alloc (Nat.le_refl _) _
 have e2 : Ext (w.alloc (.cells #[.string (bstr r.st), .int .i64 r.num, .int .i64 r.day, v1, .string (bstr r.sg.st), .int .i64 r.sg.kind, .int .i64 r.sg.num, .int .i64 r.sg.iss, .int .i64 r.sg.own, .int .i64 r.sg.key, .int .i64 r.sg.fr, .int .i64 r.sg.un, .int .i64 r.sg.to, .int .i64 r.sg.e, .int .i64 r.sg.s, .int .i64 r.e, .int .i64 r.s] 80)) ((w.alloc (.cells #[.string (bstr r.st), .int .i64 r.num, .int .i64 r.day, v1, .string (bstr r.sg.st), .int .i64 r.sg.kind, .int .i64 r.sg.num, .int .i64 r.sg.iss, .int .i64 r.sg.own, .int .i64 r.sg.key, .int .i64 r.sg.fr, .int .i64 r.sg.un, .int .i64 r.sg.to, .int .i64 r.sg.e, .int .i64 r.sg.s, .int .i64 r.e, .int .i64 r.s] 80)).alloc (.cells #[.string (bstr r.st), .int .i64 r.num, .int .i64 r.day, v2, .string (bstr r.sg.st), .int .i64 r.sg.kind, .int .i64 r.sg.num, .int .i64 r.sg.iss, .int .i64 r.sg.own, .int .i64 r.sg.key, .int .i64 r.sg.fr, .int .i64 r.sg.un, .int .i64 r.sg.to, .int .i64 r.sg.e, .int .i64 r.sg.s, .int .i64 r.e, .int .i64 r.s] 80)) := (Below.refl _ _).alloc (Nat.le_refl _) _
 refine ⟨_, rfl, e1.tr e2, (e2.block _ (by simp)).trans (heap_alloc_new' w _), ?_⟩
 have := heap_alloc_new' (w.alloc (.cells #[.string (bstr r.st), .int .i64 r.num, .int .i64 r.day, v1, .string (bstr r.sg.st), .int .i64 r.sg.kind, .int .i64 r.sg.num, .int .i64 r.sg.iss, .int .i64 r.sg.own, .int .i64 r.sg.key, .int .i64 r.sg.fr, .int .i64 r.sg.un, .int .i64 r.sg.to, .int .i64 r.sg.e, .int .i64 r.sg.s, .int .i64 r.e, .int .i64 r.s] 80)) (.cells #[.string (bstr r.st), .int .i64 r.num, .int .i64 r.day, v2, .string (bstr r.sg.st), .int .i64 r.sg.kind, .int .i64 r.sg.num, .int .i64 r.sg.iss, .int .i64 r.sg.own, .int .i64 r.sg.key, .int .i64 r.sg.fr, .int .i64 r.sg.un, .int .i64 r.sg.to, .int .i64 r.sg.e, .int .i64 r.sg.s, .int .i64 r.e, .int .i64 r.s] 80)
 rw [show (w.alloc (.cells #[.string (bstr r.st), .int .i64 r.num, .int .i64 r.day, v1, .string (bstr r.sg.st), .int .i64 r.sg.kind, .int .i64 r.sg.num, .int .i64 r.sg.iss, .int .i64 r.sg.own, .int .i64 r.sg.key, .int .i64 r.sg.fr, .int .i64 r.sg.un, .int .i64 r.sg.to, .int .i64 r.sg.e, .int .i64 r.sg.s, .int .i64 r.e, .int .i64 r.s] 80)).heap.size = w.heap.size + 1 by simp] at this
 exact this
set_option maxHeartbeats 4000000 in
theorem refmsame_any (r : MA) (v1 v2 : Value) (w : World) (h1 : RdN w v1 r.roots) (h2 : RdN w v2 r.roots) : Calls Tryz.prog 64 #[maV r v1, maV r v2] w (RetQ w (.bool true)) := by
 obtain ⟨wz, hwz, ez, Ta, Tb⟩ := two_allocMM w r v1 v2
 have HSM := Lib.hid (fun W (e : Ext w W) => sameN_any W (RdK.ext h1 e) (RdK.ext h2 e))
 obtain ⟨A, n, c, rfl, hn, -⟩ := h1.at_
 obtain ⟨A2, n2, c2, rfl, hn2, -⟩ := h2.at_
 subst hn hn2
 clear h1 h2
 have a0 := Ta.c0
 have a1 := Ta.c1
 have a2 := Ta.c2
 have a3 := Ta.c3
 have a4 := Ta.c4
 have a5 := Ta.c5
 have a6 := Ta.c6
 have a7 := Ta.c7
 have a8 := Ta.c8
 have a9 := Ta.c9
 have a10 := Ta.c10
 have a11 := Ta.c11
 have a12 := Ta.c12
 have a13 := Ta.c13
 have a14 := Ta.c14
 have a15 := Ta.c15
 have a16 := Ta.c16
 have b0 := Tb.c0
 have b1 := Tb.c1
 have b2 := Tb.c2
 have b3 := Tb.c3
 have b4 := Tb.c4
 have b5 := Tb.c5
 have b6 := Tb.c6
 have b7 := Tb.c7
 have b8 := Tb.c8
 have b9 := Tb.c9
 have b10 := Tb.c10
 have b11 := Tb.c11
 have b12 := Tb.c12
 have b13 := Tb.c13
 have b14 := Tb.c14
 have b15 := Tb.c15
 have b16 := Tb.c16
 have hla := Ta.lt
 have hlb := Tb.lt
 have EZ := Lib.hid ez
 have HA := Lib.hid Ta
 have HB := Lib.hid Tb
 clear ez Ta Tb
 unfold maV maCells
 go_enter Tryz.func64, Tryz.ntmps64
 go_upto_region 1 with fail
 rw [← hwz]
 clear hwz
 go_wp2_with fail
 refine (HSM.out _ EZ.out).mono ?_
 rintro e0 w1 ⟨rfl, xb⟩
 have X1 := Lib.hid (EZ.out.tr xb)
 have Ta := HA.out.ext xb
 have Tb := HB.out.ext xb
 clear xb a0 b0 a1 b1 a2 b2 a3 b3 a4 b4 a5 b5 a6 b6 a7 b7 a8 b8 a9 b9 a10 b10 a11 b11 a12 b12 a13 b13 a14 b14 a15 b15 a16 b16 hla hlb
 have a4 := Ta.c4
 have a5 := Ta.c5
 have a6 := Ta.c6
 have a7 := Ta.c7
 have a8 := Ta.c8
 have a9 := Ta.c9
 have a10 := Ta.c10
 have a11 := Ta.c11
 have a12 := Ta.c12
 have a13 := Ta.c13
 have a14 := Ta.c14
 have a15 := Ta.c15
 have a16 := Ta.c16
 have b4 := Tb.c4
 have b5 := Tb.c5
 have b6 := Tb.c6
 have b7 := Tb.c7
 have b8 := Tb.c8
 have b9 := Tb.c9
 have b10 := Tb.c10
 have b11 := Tb.c11
 have b12 := Tb.c12
 have b13 := Tb.c13
 have b14 := Tb.c14
 have b15 := Tb.c15
 have b16 := Tb.c16
 have hla := Ta.lt
 have hlb := Tb.lt
 clear Ta Tb
 go_wp2_with fail
 go_ret
 exact ⟨rfl, X1.out⟩
end Go.Proofs.YtkjplpmogfmhkaaGreatDoor
