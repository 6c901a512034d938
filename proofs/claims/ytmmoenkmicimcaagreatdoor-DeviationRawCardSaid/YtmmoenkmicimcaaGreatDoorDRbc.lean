/- Parts Uf Ug Ej of the proof. -/
import Derived.Test.YtmmoenkmicimcaaGreatDoorDRax
import Derived.Test.YtmmoenkmicimcaaGreatDoorDRbb
import Derived.Test.YtmmoenkmicimcaaGreatDoorDRaz
namespace Go.Proofs.YtmmoenkmicimcaaGreatDoor
open Go.RowKit
set_option linter.unusedVariables false
set_option maxRecDepth 100000
theorem tn_tl : 39 ≠ 26 := by decide
/-- The list that the closure adds to, in block g. -/
def AdI (w : World) (B g : Nat) (L : List NC) : Prop := ∃ (A : Option Addr) (c : Nat), w.heap[g]? = some (.cells #[.slice A L.length c] 26 (0, 0)) ∧ OwnK w B 39 11 (.slice A L.length c) (ncsCells L)
theorem AdI.ext {w w' : World} {B g : Nat} {L : List NC} (h : AdI w B g L) (e : Ext w w') : AdI w' B g L := by
  obtain ⟨A, c, h1, h2⟩ := h
  exact ⟨A, c, (e.block g (block_lt h1)).trans h1, h2.ext e⟩
theorem addStep_yes {L : List NC} {y : NC} (h : y ∈ L) : addStep L y = L := if_pos h
theorem addStep_no {L : List NC} {y : NC} (h : y ∉ L) : addStep L y = L ++ [y] := if_neg h
theorem ad_after {w w8 : World} {g B : Nat} {v : Value} {xs : List Value} {cs : Array Value} {fr : Nat × Nat} (hb : w.heap[g]? = some (.cells cs 26 fr)) (o : OwnK w B 39 11 v xs) (g8 : w.grownBy w8 (rowOf v)) : w8.heap[g]? = some (.cells cs 26 fr) :=
  (g8.block g (block_lt hb) (fun q => o.row_blk hb tn_tl q.symm)).trans hb
theorem ad_cell {w : World} {g : Nat} {u : Value} {T : Nat} (hb : w.heap[g]? = some (.cells #[u] T (0, 0))) : w.cell? ⟨g, 0, none⟩ = some u ∧ g < w.heap.size ∧ w.frozen? ⟨g, 0, none⟩ = false :=
  ⟨by rw [cell_of_row w g 0 _ _ _ hb]; rfl, block_lt hb, by simp [World.frozen?, hb]⟩
set_option maxHeartbeats 4000000 in
theorem addR_any {v : Value} {l L : List NC} {g : Nat} (w w1 : World) (hv : RdN w v l) (hg : w.heap.size ≤ g) (I : AdI w1 w.heap.size g L) (X : Ext w w1) (hl : L.length + l.length ≤ 1000000) :
    Calls Tryz.prog 80 #[v, .pointer (some ⟨g, 0, none⟩)] w1 fun e w' => e = .returned (.tuple #[]) ∧ AdI w' w.heap.size g (addT L l) ∧ Ext w w' := by
  obtain ⟨A, n, cp, rfl, hn, hnc, hcm, hel⟩ := hv.at_
  subst hn
  have HEL := Lib.hid hel
  unfold maxLen at hcm
  have HI := Lib.hid (show AdI w1 w.heap.size g (addT L (l.take 0)) from I)
  have HX := Lib.hid X
  have HLN := Lib.hid hl
  clear hel hv I X hl
  go_enter Tryz.func80, Tryz.ntmps80
  go_wp2_with fail
  go_loopw [7] (fun i wr => ∃ k : Nat, k ≤ l.length ∧ i = .int .i64 (k : Int) ∧ Hid (AdI wr w.heap.size g (addT L (l.take k))) ∧ Hid (Ext w wr)) (fun i _ => l.length - (intOf i).toNat)
  case atStart => exact ⟨0, Nat.zero_le _, rfl, HI, HX⟩
  case round =>
    obtain ⟨k, hk, rfl, I, X⟩ := hrel
    by_cases hlt : k < l.length
    case neg =>
      obtain rfl : k = l.length := by omega
      have HR : Hid (AdI wr w.heap.size g (addT L l)) := Lib.hid (by have := I.out; rwa [List.take_length] at this)
      clear I
      go_wp2_with fail
      refine bodyPost_end (v := .tuple #[]) ?_ rfl ⟨rfl, HR.out, X.out⟩
      simp [results, Tryz.results80, go_sem]
    case pos =>
    obtain ⟨y, hy⟩ : ∃ y, l[k]? = some y := ⟨_, List.getElem?_eq_getElem hlt⟩
    obtain ⟨b, o, rfl, hbl, hc⟩ := HEL.out (by omega)
    have hcy := hc k y hy
    have HSN := Lib.hid (addT_snoc L hy)
    have HLE := Lib.hid (show (addT L (l.take k)).length ≤ 999999 by have h1 := addT_len L (l.take k); rw [List.length_take] at h1; have := HLN.out; omega)
    clear hy hc
    have wi1 : IntKind.i64.wrap ((k : Int)) = (k : Int) := IntWalk.i64_in _ (by omega)
    have zi1 : (0 : Int) ≤ (k : Int) := by omega
    have li1 : (k : Int) < (l.length : Int) := by omega
    have ti1 : ((k : Int)).toNat = k := by omega
    have wk : IntKind.i64.wrap ((k : Int) + 1) = (k : Int) + 1 := IntWalk.i64_in _ (by omega)
    obtain ⟨N, hN⟩ : ∃ N, addT L (l.take k) = N := ⟨_, rfl⟩
    rw [hN] at HSN HLE I
    clear hN
    obtain ⟨Ao, co, hb, ho⟩ := I.out
    have HB := Lib.hid hb
    have HO := Lib.hid ho
    clear hb ho I
    have q0 := (X.out.cell (p := ⟨b, o + k * 11, none⟩) hbl).trans hcy.1
    have q1 := (X.out.cell (p := ⟨b, o + k * 11 + 1, none⟩) hbl).trans hcy.2.1
    have q2 := (X.out.cell (p := ⟨b, o + k * 11 + 2, none⟩) hbl).trans hcy.2.2.1
    have q3 := (X.out.cell (p := ⟨b, o + k * 11 + 3, none⟩) hbl).trans hcy.2.2.2.1
    have q4 := (X.out.cell (p := ⟨b, o + k * 11 + 4, none⟩) hbl).trans hcy.2.2.2.2.1
    have q5 := (X.out.cell (p := ⟨b, o + k * 11 + 5, none⟩) hbl).trans hcy.2.2.2.2.2.1
    have q6 := (X.out.cell (p := ⟨b, o + k * 11 + 6, none⟩) hbl).trans hcy.2.2.2.2.2.2.1
    have q7 := (X.out.cell (p := ⟨b, o + k * 11 + 7, none⟩) hbl).trans hcy.2.2.2.2.2.2.2.1
    have q8 := (X.out.cell (p := ⟨b, o + k * 11 + 8, none⟩) hbl).trans hcy.2.2.2.2.2.2.2.2.1
    have q9 := (X.out.cell (p := ⟨b, o + k * 11 + 9, none⟩) hbl).trans hcy.2.2.2.2.2.2.2.2.2.1
    have q10 := (X.out.cell (p := ⟨b, o + k * 11 + 10, none⟩) hbl).trans hcy.2.2.2.2.2.2.2.2.2.2
    clear hcy
    obtain ⟨wn, hwn, en, TN⟩ := nc_alloc wr y
    go_upto_region 3 with fail
    rw [← hwn]
    clear hwn q0 q1 q2 q3 q4 q5 q6 q7 q8 q9 q10
    have HBN := Lib.hid ((en.block g (block_lt HB.out)).trans HB.out)
    have HON := Lib.hid (HO.out.ext en)
    have XN := Lib.hid (X.out.tr en)
    clear HB HO X en
    have cg : wn.cell? ⟨g, 0, none⟩ = some (.slice Ao N.length co) := by rw [cell_of_row wn g 0 _ _ _ HBN.out]; rfl
    have gl := block_lt HBN.out
    obtain ⟨p0, p1, p2, p3, p4, p5, p6, p7, p8, p9, p10⟩ := (TN).cells
    have pf0 := (TN).frozen 0
    have pf1 := (TN).frozen 1
    have pf2 := (TN).frozen 2
    have pf3 := (TN).frozen 3
    have pf4 := (TN).frozen 4
    have pf5 := (TN).frozen 5
    have pf6 := (TN).frozen 6
    have pf7 := (TN).frozen 7
    have pf8 := (TN).frozen 8
    have pf9 := (TN).frozen 9
    have pf10 := (TN).frozen 10
    have pl := (TN).lt
    go_wp2_with fail
    refine (containsN_any y wn HON.out.rd).mono ?_
    rintro e w2 ⟨rfl, b2⟩
    have TN2 := TN.ext b2
    clear cg gl
    clear p0 pf0 p1 pf1 p2 pf2 p3 pf3 p4 pf4 p5 pf5 p6 pf6 p7 pf7 p8 pf8 p9 pf9 p10 pf10 pl
    have HB2 := Lib.hid ((b2.block g (block_lt HBN.out)).trans HBN.out)
    have HO2 := Lib.hid (HON.out.ext b2)
    have X2 := Lib.hid (XN.out.tr b2)
    clear TN HBN HON XN b2
    have cg : w2.cell? ⟨g, 0, none⟩ = some (.slice Ao N.length co) := by rw [cell_of_row w2 g 0 _ _ _ HB2.out]; rfl
    have gl := block_lt HB2.out
    have gf : w2.frozen? ⟨g, 0, none⟩ = false := by simp [World.frozen?, HB2.out]
    by_cases hm : y ∈ N
    · have HF := Lib.hid (show addT L (l.take (k + 1)) = N by rw [HSN.out]; exact addStep_yes hm)
      rw [decide_eq_true hm]
      clear hm
      go_wp2_with fail
      go_roundw
      case rel => exact ⟨k + 1, by omega, by go_num, by rw [HF.out]; exact Lib.hid ⟨Ao, co, HB2.out, HO2.out⟩, X2⟩
      case measure => simp [intOf]; omega
    · have HF := Lib.hid (show addT L (l.take (k + 1)) = N ++ [y] by rw [HSN.out]; exact addStep_no hm)
      rw [decide_eq_false hm]
      clear hm
      obtain ⟨p0, p1, p2, p3, p4, p5, p6, p7, p8, p9, p10⟩ := (TN2).cells
      have pf0 := (TN2).frozen 0
      have pf1 := (TN2).frozen 1
      have pf2 := (TN2).frozen 2
      have pf3 := (TN2).frozen 3
      have pf4 := (TN2).frozen 4
      have pf5 := (TN2).frozen 5
      have pf6 := (TN2).frozen 6
      have pf7 := (TN2).frozen 7
      have pf8 := (TN2).frozen 8
      have pf9 := (TN2).frozen 9
      have pf10 := (TN2).frozen 10
      have pl := (TN2).lt
      have eA : Ext w2 (w2.alloc (.cells (ncCells y).toArray 39)) := (Below.refl _ _).alloc (Nat.le_refl _) _
      have HRK := Lib.hid (ls_one w2 y)
      have HO3 := Lib.hid (HO2.out.ext eA)
      have HB3 := Lib.hid ((eA.block g gl).trans HB2.out)
      have X3 := Lib.hid (X2.out.tr eA)
      unfold ncCells at HRK HO3 HB3 X3
      clear eA
      go_wp2_with (refine wpList_appK (k := 11) (by decide) elemNc (n := N.length) (m := 1) (B := w.heap.size) HO3.out (by rw [ncsCells_len]) HRK.out (by rfl) (ncCells_one y) X3.out (by have := HLE.out; omega) (by have := HLE.out; unfold maxLen; omega) X3.out.size rfl rfl rfl rfl ?_; intro A8 n8 c8 w8 hn8 o8 x8 g8; have HB8 := Lib.hid (ad_after HB3.out HO3.out g8); obtain ⟨gc8, gl8, gf8⟩ := ad_cell HB8.out)
      have hn8 : n8 = (N ++ [y]).length := by rw [List.length_append]; exact hn8.out
      subst hn8
      have HI8 : Hid (AdI (w8.setCell ⟨g, 0, none⟩ (.slice A8 (N ++ [y]).length c8)) w.heap.size g (N ++ [y])) := Lib.hid ⟨A8, c8, by have := row_set HB8.out 0 (.slice A8 (N ++ [y]).length c8); exact this, by rw [← ncsCells_snoc]; exact o8.grown (Gb.set g 0 w8 _) (.inr (o8.row_blk HB8.out tn_tl))⟩
      have X8 := Lib.hid (ext_set x8 hg (i := 0) (v := .slice A8 (N ++ [y]).length c8))
      clear x8 o8 gl8 gf8 gc8 HB8
      go_roundw
      case rel => exact ⟨k + 1, by omega, by go_num, by rw [HF.out]; exact HI8, X8⟩
      case measure => simp [intOf]; omega
end Go.Proofs.YtmmoenkmicimcaaGreatDoor
namespace Go.Proofs.YtmmoenkmicimcaaGreatDoor
open Go.RowKit
set_option linter.unusedVariables false
set_option maxRecDepth 100000
theorem take_snocG {α : Type} {l : List α} {y : α} {k : Nat} (h : l[k]? = some y) : l.take (k + 1) = l.take k ++ [y] := by
  obtain ⟨hk, rfl⟩ := List.getElem?_eq_some_iff.1 h
  exact List.take_succ_eq_append_getElem hk
/-- The roots so far. -/
def rtT (S : ST) (k : Nat) : List NC := (S.ms.take k).foldl (fun out m => addT out m.roots) (addT [] S.roots)
theorem rtT_snoc {S : ST} {k : Nat} {t : MA} (h : S.ms[k]? = some t) : rtT S (k + 1) = addT (rtT S k) t.roots := by
  unfold rtT
  rw [take_snocG h, List.foldl_append]
  rfl
theorem rtT_all (S : ST) : rtT S S.ms.length = rootsT S := by
  unfold rtT rootsT
  rw [List.take_length]
theorem rtT_len {S : ST} (h : StB S) (k : Nat) : (rtT S k).length ≤ 210000 := by
  have h1 := foldAdd_len (S.ms.take k) (addT [] S.roots) fun x hx => (h.m x (List.mem_of_mem_take hx)).2
  have h2 := addT_len [] S.roots
  have h3 := h.lr
  have h4 := h.lm
  have h6 : (S.ms.take k).length ≤ 20 := by rw [List.length_take]; omega
  have h5 : (S.ms.take k).length * 10000 ≤ 20 * 10000 := Nat.mul_le_mul_right _ h6
  rw [List.length_nil] at h2
  unfold rtT
  omega
set_option maxHeartbeats 4000000 in
theorem roots_any (s0 s1 s2 s3 s4 : SlT) (S : ST) (w : World) (h0 : RdN w (slV s0) S.roots) (h2 : RdX kM w (slV s2) S.ms) (hB : StB S) : Calls Tryz.prog 35 #[storeV s0 s1 s2 s3 s4] w (RetN w (rootsT S)) := by
  obtain ⟨A', n', c', hs, hn, hnc, hcm, hel⟩ := h2.at_
  obtain ⟨A, n, cp⟩ := s2
  unfold slV at hs
  injection hs with hs1 hs2 hs3
  simp only at hs1 hs2 hs3
  subst hs1 hs2 hs3 hn
  obtain ⟨ws, hws⟩ : ∃ ws, ws = w.alloc (.cells #[.slice s0.1 s0.2.1 s0.2.2, .slice s1.1 s1.2.1 s1.2.2, .slice A S.ms.length cp, .slice s3.1 s3.2.1 s3.2.2, .slice s4.1 s4.2.1 s4.2.2] 31) := ⟨_, rfl⟩
  have es : Ext w ws := by rw [hws]; exact (Below.refl _ _).alloc (Nat.le_refl _) _
  have hsz : ws.heap.size = w.heap.size + 1 := by rw [hws]; simp
  have hb : ws.heap[w.heap.size]? = some (.cells #[.slice s0.1 s0.2.1 s0.2.2, .slice s1.1 s1.2.1 s1.2.2, .slice A S.ms.length cp, .slice s3.1 s3.2.1 s3.2.2, .slice s4.1 s4.2.1 s4.2.2] 31 (0, 0)) := by rw [hws]; exact heap_alloc_new' w _
  obtain ⟨wz, hwz⟩ : ∃ wz, wz = ws.alloc (.cells #[.slice none 0 0] 26) := ⟨_, rfl⟩
  have ez : Ext ws wz := by rw [hwz]; exact (Below.refl _ _).alloc (Nat.le_refl _) _
  have IZ : AdI wz ws.heap.size ws.heap.size ([] : List NC) := ⟨none, 0, by rw [hwz]; exact heap_alloc_new' ws _, OwnK.empty _ _ _ _ _⟩
  have HLR := Lib.hid (rtT_len hB)
  have HMB := Lib.hid hB.m
  have h00 : S.roots.length ≤ 10000 := hB.lr
  have HA0 := Lib.hid (show Calls Tryz.prog 80 #[.slice s0.1 s0.2.1 s0.2.2, .pointer (some ⟨ws.heap.size, 0, none⟩)] wz _ from addR_any ws wz (RdK.ext h0 es) (Nat.le_refl _) IZ ez (by rw [List.length_nil]; omega))
  have HAN := Lib.hid (fun (u : Value) (l L : List NC) (W : World) (hu : RdN ws u l) (I : AdI W ws.heap.size ws.heap.size L) (X : Ext ws W) (hl : L.length + l.length ≤ 1000000) => addR_any ws W hu (Nat.le_refl _) I X hl)
  have ES := Lib.hid es
  have HBK := Lib.hid hb
  have HEL := Lib.hid hel
  have HALL := Lib.hid (rtT_all S)
  unfold maxLen at hcm
  rw [hsz] at HA0 HAN
  rw [hws] at hwz
  clear h0 h2 hB es hb ez IZ hel h00
  unfold storeV
  go_enter Tryz.func35, Tryz.ntmps35
  go_wp2_with fail
  rw [← hwz]
  refine HA0.out.mono ?_
  rintro e w1 ⟨rfl, I1, X1⟩
  have HI1 := Lib.hid (show AdI w1 (w.heap.size + 1) (w.heap.size + 1) (rtT S 0) from I1)
  have c2 : w1.cell? ⟨w.heap.size, 2, none⟩ = some (.slice A S.ms.length cp) := by rw [cell_of_row w1 _ 2 _ _ _ ((X1.block _ (block_lt HBK.out)).trans HBK.out)]; rfl
  have cl : w.heap.size < w1.heap.size := Nat.lt_of_lt_of_le (block_lt HBK.out) X1.size
  have HX1 := Lib.hid X1
  clear I1 X1 hwz hws HA0
  go_upto_region 5 with fail
  clear c2 cl
  go_loopw [15] (fun s15 wr => ∃ k : Nat, k ≤ S.ms.length ∧ s15 = .int .i64 (k : Int) ∧ Hid (AdI wr (w.heap.size + 1) (w.heap.size + 1) (rtT S k)) ∧ Hid (Ext ws wr)) (fun s15 _ => S.ms.length - (intOf s15).toNat)
  case atStart => exact ⟨0, Nat.zero_le _, rfl, HI1, HX1⟩
  case round =>
    obtain ⟨k, hk, rfl, I, X⟩ := hrel
    by_cases hlt : k < S.ms.length
    case neg =>
      obtain rfl : k = S.ms.length := by omega
      have HI := Lib.hid (show AdI wr (w.heap.size + 1) (w.heap.size + 1) (rootsT S) by have := I.out; rwa [HALL.out] at this)
      clear I
      obtain ⟨Ao, co, hb, ho⟩ := HI.out
      have cg : wr.cell? ⟨w.heap.size + 1, 0, none⟩ = some (.slice Ao (rootsT S).length co) := by rw [cell_of_row wr _ 0 _ _ _ hb]; rfl
      have gl := block_lt hb
      have HO := Lib.hid ho
      clear hb ho
      go_wp2_with fail
      go_ret
      exact ⟨ES.out.tr X.out, _, _, rfl, HO.out.rd⟩
    case pos =>
    obtain ⟨t, ht⟩ : ∃ t, S.ms[k]? = some t := ⟨_, List.getElem?_eq_getElem hlt⟩
    obtain ⟨b, o, rfl, hbl, u, hcell, hu⟩ := HEL.out k t ht
    have HSN := Lib.hid (rtT_snoc ht)
    have HLT := Lib.hid (HMB.out t (List.mem_of_getElem? ht)).2
    obtain ⟨Au, nu, cu, rfl, -⟩ := id hu
    have HU0 := Lib.hid (RdK.ext hu ES.out)
    have XW := Lib.hid (ES.out.tr X.out)
    clear ht hu
    have wi1 : IntKind.i64.wrap ((k : Int)) = (k : Int) := IntWalk.i64_in _ (by omega)
    have zi1 : (0 : Int) ≤ (k : Int) := by omega
    have li1 : (k : Int) < (S.ms.length : Int) := by omega
    have ti1 : ((k : Int)).toNat = k := by omega
    have wk : IntKind.i64.wrap ((k : Int) + 1) = (k : Int) + 1 := IntWalk.i64_in _ (by omega)
    have l0 : wr.cell? ⟨b, o + k * 17, none⟩ = some (.string (bstr t.st)) := by
      have := (XW.out.cell (p := ⟨b, o + (k * 17 + 0), none⟩) hbl).trans (hcell 0 _ rfl)
      exact this
    have l1 : wr.cell? ⟨b, o + k * 17 + 1, none⟩ = some (.int .i64 t.num) := by
      have := (XW.out.cell (p := ⟨b, o + (k * 17 + 1), none⟩) hbl).trans (hcell 1 _ rfl)
      rwa [← Nat.add_assoc] at this
    have l2 : wr.cell? ⟨b, o + k * 17 + 2, none⟩ = some (.int .i64 t.day) := by
      have := (XW.out.cell (p := ⟨b, o + (k * 17 + 2), none⟩) hbl).trans (hcell 2 _ rfl)
      rwa [← Nat.add_assoc] at this
    have l3 : wr.cell? ⟨b, o + k * 17 + 3, none⟩ = some (.slice Au nu cu) := by
      have := (XW.out.cell (p := ⟨b, o + (k * 17 + 3), none⟩) hbl).trans (hcell 3 _ rfl)
      rwa [← Nat.add_assoc] at this
    have l4 : wr.cell? ⟨b, o + k * 17 + 4, none⟩ = some (.string (bstr t.sg.st)) := by
      have := (XW.out.cell (p := ⟨b, o + (k * 17 + 4), none⟩) hbl).trans (hcell 4 _ rfl)
      rwa [← Nat.add_assoc] at this
    have l5 : wr.cell? ⟨b, o + k * 17 + 5, none⟩ = some (.int .i64 t.sg.kind) := by
      have := (XW.out.cell (p := ⟨b, o + (k * 17 + 5), none⟩) hbl).trans (hcell 5 _ rfl)
      rwa [← Nat.add_assoc] at this
    have l6 : wr.cell? ⟨b, o + k * 17 + 6, none⟩ = some (.int .i64 t.sg.num) := by
      have := (XW.out.cell (p := ⟨b, o + (k * 17 + 6), none⟩) hbl).trans (hcell 6 _ rfl)
      rwa [← Nat.add_assoc] at this
    have l7 : wr.cell? ⟨b, o + k * 17 + 7, none⟩ = some (.int .i64 t.sg.iss) := by
      have := (XW.out.cell (p := ⟨b, o + (k * 17 + 7), none⟩) hbl).trans (hcell 7 _ rfl)
      rwa [← Nat.add_assoc] at this
    have l8 : wr.cell? ⟨b, o + k * 17 + 8, none⟩ = some (.int .i64 t.sg.own) := by
      have := (XW.out.cell (p := ⟨b, o + (k * 17 + 8), none⟩) hbl).trans (hcell 8 _ rfl)
      rwa [← Nat.add_assoc] at this
    have l9 : wr.cell? ⟨b, o + k * 17 + 9, none⟩ = some (.int .i64 t.sg.key) := by
      have := (XW.out.cell (p := ⟨b, o + (k * 17 + 9), none⟩) hbl).trans (hcell 9 _ rfl)
      rwa [← Nat.add_assoc] at this
    have l10 : wr.cell? ⟨b, o + k * 17 + 10, none⟩ = some (.int .i64 t.sg.fr) := by
      have := (XW.out.cell (p := ⟨b, o + (k * 17 + 10), none⟩) hbl).trans (hcell 10 _ rfl)
      rwa [← Nat.add_assoc] at this
    have l11 : wr.cell? ⟨b, o + k * 17 + 11, none⟩ = some (.int .i64 t.sg.un) := by
      have := (XW.out.cell (p := ⟨b, o + (k * 17 + 11), none⟩) hbl).trans (hcell 11 _ rfl)
      rwa [← Nat.add_assoc] at this
    have l12 : wr.cell? ⟨b, o + k * 17 + 12, none⟩ = some (.int .i64 t.sg.to) := by
      have := (XW.out.cell (p := ⟨b, o + (k * 17 + 12), none⟩) hbl).trans (hcell 12 _ rfl)
      rwa [← Nat.add_assoc] at this
    have l13 : wr.cell? ⟨b, o + k * 17 + 13, none⟩ = some (.int .i64 t.sg.e) := by
      have := (XW.out.cell (p := ⟨b, o + (k * 17 + 13), none⟩) hbl).trans (hcell 13 _ rfl)
      rwa [← Nat.add_assoc] at this
    have l14 : wr.cell? ⟨b, o + k * 17 + 14, none⟩ = some (.int .i64 t.sg.s) := by
      have := (XW.out.cell (p := ⟨b, o + (k * 17 + 14), none⟩) hbl).trans (hcell 14 _ rfl)
      rwa [← Nat.add_assoc] at this
    have l15 : wr.cell? ⟨b, o + k * 17 + 15, none⟩ = some (.int .i64 t.e) := by
      have := (XW.out.cell (p := ⟨b, o + (k * 17 + 15), none⟩) hbl).trans (hcell 15 _ rfl)
      rwa [← Nat.add_assoc] at this
    have l16 : wr.cell? ⟨b, o + k * 17 + 16, none⟩ = some (.int .i64 t.s) := by
      have := (XW.out.cell (p := ⟨b, o + (k * 17 + 16), none⟩) hbl).trans (hcell 16 _ rfl)
      rwa [← Nat.add_assoc] at this
    clear hcell
    obtain ⟨wn, hwn⟩ : ∃ wn, wn = wr.alloc (.cells #[.string (bstr t.st), .int .i64 t.num, .int .i64 t.day, .slice Au nu cu, .string (bstr t.sg.st), .int .i64 t.sg.kind, .int .i64 t.sg.num, .int .i64 t.sg.iss, .int .i64 t.sg.own, .int .i64 t.sg.key, .int .i64 t.sg.fr, .int .i64 t.sg.un, .int .i64 t.sg.to, .int .i64 t.sg.e, .int .i64 t.sg.s, .int .i64 t.e, .int .i64 t.s] 86) := ⟨_, rfl⟩
    have en : Ext wr wn := by rw [hwn]; exact (Below.refl _ _).alloc (Nat.le_refl _) _
    have bn : wn.heap[wr.heap.size]? = some (.cells #[.string (bstr t.st), .int .i64 t.num, .int .i64 t.day, .slice Au nu cu, .string (bstr t.sg.st), .int .i64 t.sg.kind, .int .i64 t.sg.num, .int .i64 t.sg.iss, .int .i64 t.sg.own, .int .i64 t.sg.key, .int .i64 t.sg.fr, .int .i64 t.sg.un, .int .i64 t.sg.to, .int .i64 t.sg.e, .int .i64 t.sg.s, .int .i64 t.e, .int .i64 t.s] 86 (0, 0)) := by rw [hwn]; exact heap_alloc_new' wr _
    have u3 : wn.cell? ⟨wr.heap.size, 3, none⟩ = some (.slice Au nu cu) := by rw [cell_of_row wn _ 3 _ _ _ bn]; rfl
    have ul := block_lt bn
    have HCA := Lib.hid (HAN.out (.slice Au nu cu) t.roots (rtT S k) wn HU0.out (I.out.ext en) (X.out.tr en) (by have := HLR.out k; have := HLT.out; omega))
    clear I X en bn
    go_upto_region 7 with fail
    rw [← hwn]
    clear hwn l0 l1 l2 l3 l4 l5 l6 l7 l8 l9 l10 l11 l12 l13 l14 l15 l16
    go_wp2_with fail
    refine HCA.out.mono ?_
    rintro e w8 ⟨rfl, I8, X8⟩
    have HI8 := Lib.hid (show AdI w8 (w.heap.size + 1) (w.heap.size + 1) (rtT S (k + 1)) by rw [HSN.out]; exact I8)
    have HX8 := Lib.hid X8
    clear I8 X8 u3 ul HCA
    go_wp2_with fail
    go_roundw
    case rel => exact ⟨k + 1, by omega, by go_num, HI8, HX8⟩
    case measure => simp [intOf]; omega
end Go.Proofs.YtmmoenkmicimcaaGreatDoor
namespace Go.Proofs.YtmmoenkmicimcaaGreatDoor
open Go.RowKit
set_option linter.unusedVariables false
set_option maxRecDepth 100000
theorem run_eqDf (w : World) (y : DF) : (binOp .neq 65 (dfV y) (dfV y)).run Tryz.prog w = .ok (.bool false) w := by
  unfold dfV dfCells
  go_simp
  try simp
set_option maxHeartbeats 2000000 in
theorem samedf_any {v1 v2 : Value} {l : List DF} (w : World) (h1 : RdD w v1 l) (h2 : RdD w v2 l) :
    Calls Tryz.prog 14 #[v1, v2] w (RetQ w (.bool true)) := by
  obtain ⟨A1, n1, c1, rfl, hn1, hnc1, hcm1, hel1⟩ := RdD.at_ h1
  subst hn1
  have HEL1 := Lib.hid hel1
  unfold maxLen at hcm1
  obtain ⟨A2, n2, c2, rfl, hn2, hnc2, hcm2, hel2⟩ := RdD.at_ h2
  subst hn2
  have HEL2 := Lib.hid hel2
  unfold maxLen at hcm2
  have HEQ := Lib.hid (fun W (y : DF) => run_eqDf W y)
  clear hel1 hel2 h1 h2
  go_enter Tryz.func14, Tryz.ntmps14
  go_wp2_with fail
  go_loopw [5] (fun i wr => ∃ k : Nat, k ≤ l.length ∧ i = .int .i64 (k : Int) ∧ Ext w wr) (fun i _ => l.length - (intOf i).toNat)
  case atStart => exact ⟨0, Nat.zero_le _, rfl, Below.refl _ _⟩
  case round =>
    obtain ⟨k, hk, rfl, X⟩ := hrel
    by_cases hlt : k < l.length
    case neg =>
      obtain rfl : k = l.length := by omega
      have HX := Lib.hid X
      clear X
      go_wp2_with fail
      go_ret
      exact ⟨rfl, HX.out⟩
    case pos =>
    obtain ⟨y, hy⟩ : ∃ y, l[k]? = some y := ⟨_, List.getElem?_eq_getElem hlt⟩
    obtain ⟨b1, o1, rfl, hb1, hc1⟩ := HEL1.out (by omega)
    obtain ⟨b2, o2, rfl, hb2, hc2⟩ := HEL2.out (by omega)
    have g1 := hc1 k y hy
    have g2 := hc2 k y hy
    have eqq := fun W => HEQ.out W y
    unfold dfV dfCells at eqq
    clear hc1 hc2 hy
    have wi1 : IntKind.i64.wrap ((k : Int)) = (k : Int) := IntWalk.i64_in _ (by omega)
    have zi1 : (0 : Int) ≤ (k : Int) := by omega
    have li1 : (k : Int) < (l.length : Int) := by omega
    have ti1 : ((k : Int)).toNat = k := by omega
    have wk : IntKind.i64.wrap ((k : Int) + 1) = (k : Int) + 1 := IntWalk.i64_in _ (by omega)
    have p0 := (X.cell (p := ⟨b1, o1 + k * 5, none⟩) hb1).trans g1.1
    have p1 := (X.cell (p := ⟨b1, o1 + k * 5 + 1, none⟩) hb1).trans g1.2.1
    have p2 := (X.cell (p := ⟨b1, o1 + k * 5 + 2, none⟩) hb1).trans g1.2.2.1
    have p3 := (X.cell (p := ⟨b1, o1 + k * 5 + 3, none⟩) hb1).trans g1.2.2.2.1
    have p4 := (X.cell (p := ⟨b1, o1 + k * 5 + 4, none⟩) hb1).trans g1.2.2.2.2
    have q0 := (X.cell (p := ⟨b2, o2 + k * 5, none⟩) hb2).trans g2.1
    have q1 := (X.cell (p := ⟨b2, o2 + k * 5 + 1, none⟩) hb2).trans g2.2.1
    have q2 := (X.cell (p := ⟨b2, o2 + k * 5 + 2, none⟩) hb2).trans g2.2.2.1
    have q3 := (X.cell (p := ⟨b2, o2 + k * 5 + 3, none⟩) hb2).trans g2.2.2.2.1
    have q4 := (X.cell (p := ⟨b2, o2 + k * 5 + 4, none⟩) hb2).trans g2.2.2.2.2
    clear g1 g2
    go_upto_region 6 with fail
    (go_quiet (fail); have x9 := Ext.drewN_ wr nq; generalize wr.drewN nq = wb at *)
    have X9 := X.tr x9
    clear X x9 p0 p1 p2 p3 p4 q0 q1 q2 q3 q4 eqq
    go_wp2_with fail
    go_roundw
    case rel => exact ⟨k + 1, by omega, by go_num, X9⟩
    case measure => simp [intOf]; omega
theorem two_allocDD (w : World) (r : DV) (v1 v2 : Value) : ∃ wz, wz = (w.alloc (.cells #[.string (bstr r.st), .int .i64 r.num, .int .i64 r.day, v1, .string (bstr r.sg.st), .int .i64 r.sg.kind, .int .i64 r.sg.num, .int .i64 r.sg.iss, .int .i64 r.sg.own, .int .i64 r.sg.key, .int .i64 r.sg.fr, .int .i64 r.sg.un, .int .i64 r.sg.to, .int .i64 r.sg.e, .int .i64 r.sg.s, .int .i64 r.e, .int .i64 r.s] 41)).alloc (.cells #[.string (bstr r.st), .int .i64 r.num, .int .i64 r.day, v2, .string (bstr r.sg.st), .int .i64 r.sg.kind, .int .i64 r.sg.num, .int .i64 r.sg.iss, .int .i64 r.sg.own, .int .i64 r.sg.key, .int .i64 r.sg.fr, .int .i64 r.sg.un, .int .i64 r.sg.to, .int .i64 r.sg.e, .int .i64 r.sg.s, .int .i64 r.e, .int .i64 r.s] 41) ∧ Ext w wz ∧ DvAt wz w.heap.size r v1 ∧ DvAt wz (w.heap.size + 1) r v2 := by
  have e1 : Ext w (w.alloc (.cells #[.string (bstr r.st), .int .i64 r.num, .int .i64 r.day, v1, .string (bstr r.sg.st), .int .i64 r.sg.kind, .int .i64 r.sg.num, .int .i64 r.sg.iss, .int .i64 r.sg.own, .int .i64 r.sg.key, .int .i64 r.sg.fr, .int .i64 r.sg.un, .int .i64 r.sg.to, .int .i64 r.sg.e, .int .i64 r.sg.s, .int .i64 r.e, .int .i64 r.s] 41)) := (Below.refl _ _).alloc (Nat.le_refl _) _
  have e2 : Ext (w.alloc (.cells #[.string (bstr r.st), .int .i64 r.num, .int .i64 r.day, v1, .string (bstr r.sg.st), .int .i64 r.sg.kind, .int .i64 r.sg.num, .int .i64 r.sg.iss, .int .i64 r.sg.own, .int .i64 r.sg.key, .int .i64 r.sg.fr, .int .i64 r.sg.un, .int .i64 r.sg.to, .int .i64 r.sg.e, .int .i64 r.sg.s, .int .i64 r.e, .int .i64 r.s] 41)) ((w.alloc (.cells #[.string (bstr r.st), .int .i64 r.num, .int .i64 r.day, v1, .string (bstr r.sg.st), .int .i64 r.sg.kind, .int .i64 r.sg.num, .int .i64 r.sg.iss, .int .i64 r.sg.own, .int .i64 r.sg.key, .int .i64 r.sg.fr, .int .i64 r.sg.un, .int .i64 r.sg.to, .int .i64 r.sg.e, .int .i64 r.sg.s, .int .i64 r.e, .int .i64 r.s] 41)).alloc (.cells #[.string (bstr r.st), .int .i64 r.num, .int .i64 r.day, v2, .string (bstr r.sg.st), .int .i64 r.sg.kind, .int .i64 r.sg.num, .int .i64 r.sg.iss, .int .i64 r.sg.own, .int .i64 r.sg.key, .int .i64 r.sg.fr, .int .i64 r.sg.un, .int .i64 r.sg.to, .int .i64 r.sg.e, .int .i64 r.sg.s, .int .i64 r.e, .int .i64 r.s] 41)) := (Below.refl _ _).alloc (Nat.le_refl _) _
  refine ⟨_, rfl, e1.tr e2, (e2.block _ (by simp)).trans (heap_alloc_new' w _), ?_⟩
  have := heap_alloc_new' (w.alloc (.cells #[.string (bstr r.st), .int .i64 r.num, .int .i64 r.day, v1, .string (bstr r.sg.st), .int .i64 r.sg.kind, .int .i64 r.sg.num, .int .i64 r.sg.iss, .int .i64 r.sg.own, .int .i64 r.sg.key, .int .i64 r.sg.fr, .int .i64 r.sg.un, .int .i64 r.sg.to, .int .i64 r.sg.e, .int .i64 r.sg.s, .int .i64 r.e, .int .i64 r.s] 41)) (.cells #[.string (bstr r.st), .int .i64 r.num, .int .i64 r.day, v2, .string (bstr r.sg.st), .int .i64 r.sg.kind, .int .i64 r.sg.num, .int .i64 r.sg.iss, .int .i64 r.sg.own, .int .i64 r.sg.key, .int .i64 r.sg.fr, .int .i64 r.sg.un, .int .i64 r.sg.to, .int .i64 r.sg.e, .int .i64 r.sg.s, .int .i64 r.e, .int .i64 r.s] 41)
  rw [show (w.alloc (.cells #[.string (bstr r.st), .int .i64 r.num, .int .i64 r.day, v1, .string (bstr r.sg.st), .int .i64 r.sg.kind, .int .i64 r.sg.num, .int .i64 r.sg.iss, .int .i64 r.sg.own, .int .i64 r.sg.key, .int .i64 r.sg.fr, .int .i64 r.sg.un, .int .i64 r.sg.to, .int .i64 r.sg.e, .int .i64 r.sg.s, .int .i64 r.e, .int .i64 r.s] 41)).heap.size = w.heap.size + 1 by simp] at this
  exact this
set_option maxHeartbeats 4000000 in
theorem refdsame_any (r : DV) (v1 v2 : Value) (w : World) (h1 : RdD w v1 r.defs) (h2 : RdD w v2 r.defs) : Calls Tryz.prog 24 #[dvV r v1, dvV r v2] w (RetQ w (.bool true)) := by
  obtain ⟨wz, hwz, ez, Ta, Tb⟩ := two_allocDD w r v1 v2
  have HSM := Lib.hid (fun W (e : Ext w W) => samedf_any W (RdK.ext h1 e) (RdK.ext h2 e))
  obtain ⟨A, n, c, rfl, hn, -⟩ := h1.at_
  obtain ⟨A2, n2, c2, rfl, hn2, -⟩ := h2.at_
  subst hn hn2
  clear h1 h2
  have a0 := Ta.c0
  have a1 := Ta.c1
  have a2 := Ta.c2
  have a3 := Ta.c3
  have a4 := Ta.c4
  have a5 := Ta.c5
  have a6 := Ta.c6
  have a7 := Ta.c7
  have a8 := Ta.c8
  have a9 := Ta.c9
  have a10 := Ta.c10
  have a11 := Ta.c11
  have a12 := Ta.c12
  have a13 := Ta.c13
  have a14 := Ta.c14
  have a15 := Ta.c15
  have a16 := Ta.c16
  have b0 := Tb.c0
  have b1 := Tb.c1
  have b2 := Tb.c2
  have b3 := Tb.c3
  have b4 := Tb.c4
  have b5 := Tb.c5
  have b6 := Tb.c6
  have b7 := Tb.c7
  have b8 := Tb.c8
  have b9 := Tb.c9
  have b10 := Tb.c10
  have b11 := Tb.c11
  have b12 := Tb.c12
  have b13 := Tb.c13
  have b14 := Tb.c14
  have b15 := Tb.c15
  have b16 := Tb.c16
  have hla := Ta.lt
  have hlb := Tb.lt
  have EZ := Lib.hid ez
  have HA := Lib.hid Ta
  have HB := Lib.hid Tb
  clear ez Ta Tb
  unfold dvV dvCells
  go_enter Tryz.func24, Tryz.ntmps24
  go_upto_region 1 with fail
  rw [← hwz]
  clear hwz
  go_wp2_with fail
  refine (HSM.out _ EZ.out).mono ?_
  rintro e0 w1 ⟨rfl, xb⟩
  have X1 := Lib.hid (EZ.out.tr xb)
  have Ta := HA.out.ext xb
  have Tb := HB.out.ext xb
  clear xb a0 b0 a1 b1 a2 b2 a3 b3 a4 b4 a5 b5 a6 b6 a7 b7 a8 b8 a9 b9 a10 b10 a11 b11 a12 b12 a13 b13 a14 b14 a15 b15 a16 b16 hla hlb
  have a4 := Ta.c4
  have a5 := Ta.c5
  have a6 := Ta.c6
  have a7 := Ta.c7
  have a8 := Ta.c8
  have a9 := Ta.c9
  have a10 := Ta.c10
  have a11 := Ta.c11
  have a12 := Ta.c12
  have a13 := Ta.c13
  have a14 := Ta.c14
  have a15 := Ta.c15
  have a16 := Ta.c16
  have b4 := Tb.c4
  have b5 := Tb.c5
  have b6 := Tb.c6
  have b7 := Tb.c7
  have b8 := Tb.c8
  have b9 := Tb.c9
  have b10 := Tb.c10
  have b11 := Tb.c11
  have b12 := Tb.c12
  have b13 := Tb.c13
  have b14 := Tb.c14
  have b15 := Tb.c15
  have b16 := Tb.c16
  have hla := Ta.lt
  have hlb := Tb.lt
  clear Ta Tb
  go_wp2_with fail
  go_ret
  exact ⟨rfl, X1.out⟩
end Go.Proofs.YtmmoenkmicimcaaGreatDoor
