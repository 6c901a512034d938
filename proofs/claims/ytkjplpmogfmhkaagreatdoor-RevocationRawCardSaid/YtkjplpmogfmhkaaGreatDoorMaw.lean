/- Parts Rc Re Jf Jg Jh Ky of the proof. -/
import Derived.Test.YtkjplpmogfmhkaaGreatDoorMav
import Derived.Test.YtkjplpmogfmhkaaGreatDoorMar
import Derived.Test.YtkjplpmogfmhkaaGreatDoorMau
import Derived.Deep.CutBlock
import Derived.Test.YtkjplpmogfmhkaaGreatDoorMaq
namespace Go.Proofs.YtkjplpmogfmhkaaGreatDoor
open Go.RowKit
set_option linter.unusedVariables false
set_option maxRecDepth 100000
theorem NdCells.append {S : Nat → Prop} {w : World} {d : Nat} {xs ys : List Value} {ts us : List Nd} (h1 : NdCells S d w xs ts) (h2 : NdCells S d w ys us) : NdCells S d w (xs ++ ys) (ts ++ us) := by
  have hl := h1.1
  refine ⟨by rw [List.length_append, List.length_append, h1.1, h2.1, Nat.add_mul], fun i u hu => ?_⟩
  by_cases hi : i < ts.length
  · rw [List.getElem?_append_left hi] at hu
    obtain ⟨B1, m1, d1, B2, m2, d2, e0, e1, e2, q1, q2⟩ := h1.2 i u hu
    exact ⟨B1, m1, d1, B2, m2, d2, by rw [List.getElem?_append_left (by omega)]; exact e0, by rw [List.getElem?_append_left (by omega)]; exact e1, by rw [List.getElem?_append_left (by omega)]; exact e2, q1, q2⟩
  · rw [List.getElem?_append_right (by omega)] at hu
    obtain ⟨B1, m1, d1, B2, m2, d2, e0, e1, e2, q1, q2⟩ := h2.2 _ u hu
    exact ⟨B1, m1, d1, B2, m2, d2, by rw [List.getElem?_append_right (by omega), show i * 3 - xs.length = (i - ts.length) * 3 by omega]; exact e0, by rw [List.getElem?_append_right (by omega), show i * 3 + 1 - xs.length = (i - ts.length) * 3 + 1 by omega]; exact e1, by rw [List.getElem?_append_right (by omega), show i * 3 + 2 - xs.length = (i - ts.length) * 3 + 2 by omega]; exact e2, q1, q2⟩
/-- New objects without room behind them. -/
def NdF (B d : Nat) (ts : List Nd) : VPred := fun v w => ∃ (g : Nat) (cs : Array Value), v = .slice (some ⟨g, 0, none⟩) ts.length ts.length ∧ B ≤ g ∧ w.heap[g]? = some (.cells cs 180 (0, 0)) ∧ NdCells (fun b => B ≤ b) d w cs.toList ts
theorem stable_NdF (B d : Nat) (ts : List Nd) : StableP (NdF B d ts) := fun v w w' e ⟨g, cs, h1, h2, h3, h4⟩ => ⟨g, cs, h1, h2, (e.block g (block_lt h3)).trans h3, h4.map fun b hb hlt => ⟨hb, e.block b hlt⟩⟩
theorem run_appNds {B d : Nat} {W : World} {ty : TypeId} {v src : Value} {ts us : List Nd} (hB : B ≤ W.heap.size) (hx : NdF B d ts v W) (hy : NdF B d us src W) (h2 : 0 < us.length) (hs : ts.length + us.length ≤ 1000) :
    ∃ v' w'', (Builtin.append_ #[178, 178] ty #[v, src]).run Tryz.prog W = .ok v' w'' ∧ Ext W w'' ∧ NdsG B (d + 1) (ts ++ us) v' w'' := by
  obtain ⟨i, z, ht, hi, hz, hsz, hby, hzs⟩ := elemNd
  obtain ⟨g, cs, rfl, hg, hb, hc⟩ := hx
  obtain ⟨g2, cs2, rfl, hg2, hb2, hc2⟩ := hy
  obtain ⟨v', w', k1, k2, k3⟩ := run_append_arg_grows (P := Tryz.prog) W 178 ty 180 i z 3 56 ht hi hz hsz hby hzs (by decide) ⟨g, 0, none⟩ ts.length ts.length cs.toList hc.1 (fun j u hu => by rw [Addr.add_lit, Nat.zero_add, cell_of_row W g j cs _ (0, 0) hb]; simpa using hu) ⟨g2, 0, none⟩ us.length us.length cs2.toList hc2.1 (fun j u hu => by rw [Addr.add_lit, Nat.zero_add, cell_of_row W g2 j cs2 _ (0, 0) hb2]; simpa using hu) (by omega) (by unfold maxLen; omega) (by omega)
  have e : Ext W w' := ⟨k3.os, k3.tape, k3.output, k3.size, fun k hk => k3.block k hk (by simp)⟩
  exact ⟨v', w', k1, e, NdsS.mk (ownsRow_ownK (by decide) k2) ((hc.append hc2).map fun b hb hlt => ⟨hb, e.block b hlt⟩) (fun b hb => hb) (fun b hb => Nat.le_trans hB hb)⟩
set_option maxHeartbeats 1000000 in
theorem run_bs3 (W : World) (z0 : Int) (a0 b0 : Option Addr) (n0 c0 m0 d0 : Nat) (z1 : Int) (a1 b1 : Option Addr) (n1 c1 m1 d1 : Nat) (z2 : Int) (a2 b2 : Option Addr) (n2 c2 m2 d2 : Nat) : (Instr.buildSlice 178 3 [(0, .agg #[.int .i64 z0, .slice a0 n0 c0, .slice b0 m0 d0]), (1, .agg #[.int .i64 z1, .slice a1 n1 c1, .slice b1 m1 d1]), (2, .agg #[.int .i64 z2, .slice a2 n2 c2, .slice b2 m2 d2])].toArray).run Tryz.prog W = .ok (.slice (some ⟨W.heap.size, 0, none⟩) 3 3) (W.alloc (.cells #[.int .i64 z0, .slice a0 n0 c0, .slice b0 m0 d0, .int .i64 z1, .slice a1 n1 c1, .slice b1 m1 d1, .int .i64 z2, .slice a2 n2 c2, .slice b2 m2 d2] 180)) := by go_simp
theorem run_nodesF2 {B d : Nat} (W : World) (hB : B ≤ W.heap.size) {v0 v1 : Value} {t0 t1 : Nd} (h0 : NdG B d t0 v0 W) (h1 : NdG B d t1 v1 W) : ∃ v' w'', (Instr.buildSlice 178 2 [(0, v0), (1, v1)].toArray).run Tryz.prog W = .ok v' w'' ∧ Ext W w'' ∧ NdF B d [t0, t1] v' w'' := by
  obtain ⟨a0, n0, c0, b0, m0, d0, rfl, r0, k0⟩ := h0
  obtain ⟨a1, n1, c1, b1, m1, d1, rfl, r1, k1⟩ := h1
  have e : Ext W (W.alloc (.cells #[.int .i64 t0.tag, .slice a0 n0 c0, .slice b0 m0 d0, .int .i64 t1.tag, .slice a1 n1 c1, .slice b1 m1 d1] 180)) := (Below.refl _ _).alloc (Nat.le_refl _) _
  exact ⟨_, _, run_bs2 W t0.tag a0 b0 n0 c0 m0 d0 t1.tag a1 b1 n1 c1 m1 d1, e, _, _, rfl, hB, heap_alloc_new' W _, (((NdCells.nil _ d W).snoc r0 k0).snoc r1 k1).map fun b hb hlt => ⟨hb, e.block b hlt⟩⟩
theorem run_nodesF3 {B d : Nat} (W : World) (hB : B ≤ W.heap.size) {v0 v1 v2 : Value} {t0 t1 t2 : Nd} (h0 : NdG B d t0 v0 W) (h1 : NdG B d t1 v1 W) (h2 : NdG B d t2 v2 W) : ∃ v' w'', (Instr.buildSlice 178 3 [(0, v0), (1, v1), (2, v2)].toArray).run Tryz.prog W = .ok v' w'' ∧ Ext W w'' ∧ NdF B d [t0, t1, t2] v' w'' := by
  obtain ⟨a0, n0, c0, b0, m0, d0, rfl, r0, k0⟩ := h0
  obtain ⟨a1, n1, c1, b1, m1, d1, rfl, r1, k1⟩ := h1
  obtain ⟨a2, n2, c2, b2, m2, d2, rfl, r2, k2⟩ := h2
  have e : Ext W (W.alloc (.cells #[.int .i64 t0.tag, .slice a0 n0 c0, .slice b0 m0 d0, .int .i64 t1.tag, .slice a1 n1 c1, .slice b1 m1 d1, .int .i64 t2.tag, .slice a2 n2 c2, .slice b2 m2 d2] 180)) := (Below.refl _ _).alloc (Nat.le_refl _) _
  exact ⟨_, _, run_bs3 W t0.tag a0 b0 n0 c0 m0 d0 t1.tag a1 b1 n1 c1 m1 d1 t2.tag a2 b2 n2 c2 m2 d2, e, _, _, rfl, hB, heap_alloc_new' W _, ((((NdCells.nil _ d W).snoc r0 k0).snoc r1 k1).snoc r2 k2).map fun b hb hlt => ⟨hb, e.block b hlt⟩⟩
section
variable {P : Program} {ops : Array Oper} {rest : List Oper} {o : Oper} {a : Act} {Q : Exit → Act → World → Prop} {w : World}
theorem wpList_conv {t1 t2 : TypeId} {x : Operand} {xv v : Value} {w' : World} (hgd : o.guard = none) (ho : o.op = .convert t1 t2 x) (hx : a.eval x = xv) (hr : (convert t1 t2 xv).run P w = .ok v w') (h : wpList P ops Q rest (a.put o.dst v) w') : wpList P ops Q (o :: rest) a w :=
  wpList_plain hgd fun _ hK => by
    unfold Oper.wp execOp
    simp only [ho, hx, hr, Sem.run_bind, Sem.run_pure, Result.andThen_ok]
    exact hK _ _ h
end
theorem refhead_any (st : List UInt8) (num : Int) (w : World) (hs : st.length ≤ 4096) (h0 : 0 ≤ num) (h1 : num < 9223372036854775808) :
    Calls Tryz.prog 151 #[.string (bstr st), .int .i64 num] w fun e w' => ∃ v, e = .returned v ∧ Ext w w' ∧ NdF w.heap.size 0 [leafN 19 st, leafN 130 (be4 num)] v w' := by
  obtain ⟨v1, w1, r1, x1, g1⟩ := gs_str (B := w.heap.size) w (Nat.le_refl _) st hs
  obtain ⟨A1, n1, c1, rfl⟩ := g1.slice
  go_enter Tryz.func151, Tryz.ntmps151
  go_wp2_with (refine wpList_conv rfl rfl rfl r1 ?_)
  refine (leafC (B := w.heap.size) (d := 0) w1 19 g1).mono ?_
  rintro e w2 ⟨v2, rfl, x2, g2⟩
  go_wp2_with fail
  refine (refbytes_any 4 num 4 w2 h0 h1 rfl (by omega)).mono ?_
  rintro e w3 hb
  obtain ⟨v3, rfl, x3, g3⟩ := (beN_4 num ▸ hb : RetB w2 (be4 num) _ _).gs (Nat.le_trans x1.size x2.size)
  go_wp2_with fail
  refine (leafC (B := w.heap.size) (d := 0) w3 130 g3).mono ?_
  rintro e w4 ⟨v4, rfl, x4, g4⟩
  have g2' := stable_NdG _ _ _ _ _ _ (x3.tr x4) g2
  have xw := ((x1.tr x2).tr x3).tr x4
  obtain ⟨v5, w5, r5, x5, g5⟩ := run_nodesF2 w4 xw.size g2' g4
  obtain ⟨a0, n0, c0, b0, m0, d0, rfl, r0, k0⟩ := g2'
  obtain ⟨a1, n1', c1', b1, m1, d1, rfl, r1', k1⟩ := g4
  rw [run_bs2] at r5
  injection r5 with e1 e2
  subst e1 e2
  go_wp2_with fail
  go_ret
  exact ⟨_, rfl, xw.tr x5, g5⟩
theorem ndf_mono {B B' d : Nat} {ts : List Nd} {v : Value} {w : World} (h : NdF B d ts v w) (hB : B' ≤ B) : NdF B' d ts v w := by
  obtain ⟨g, cs, h1, h2, h3, h4⟩ := h
  exact ⟨g, cs, h1, Nat.le_trans hB h2, h3, h4.map fun b hb _ => ⟨Nat.le_trans hB hb, rfl⟩⟩
set_option maxHeartbeats 4000000 in
theorem refrbody_any (r : RV) (v : Value) (w : World) (hv : RdI w .i64 v r.ser) (hs : r.st.length ≤ maxLen) : Calls Tryz.prog 77 #[rvV r v] w (RetRE w (byR r) (ckR r)) := by
  obtain ⟨wz, hwz, ez, TZ⟩ := rv_alloc w r v
  have HC := Lib.hid (fun W (e : Ext w W) => refrcheck_any r v W (hv.ext e) hs)
  obtain ⟨A, n, c, rfl, hn, hnc, hcm, hel⟩ := hv.ints
  subst hn
  unfold maxLen at hcm
  have HEL := Lib.hid hel
  clear hv hel hs
  have HTZ := Lib.hid TZ
  clear TZ
  unfold rvV
  go_enter Tryz.func77, Tryz.ntmps77
  go_wp2_with fail
  rw [← hwz]
  clear hwz
  refine (HC.out _ ez).mono ?_
  rintro e ww ⟨rfl, b1⟩
  have x1 := ez.tr b1
  have HT := Lib.hid (HTZ.out.ext b1)
  have c4 := HT.out.c4
  have cl := HT.out.lt
  clear b1
  by_cases hc : ckR r = 0
  · have HK := Lib.hid hc
    have HB := Lib.hid (show byR r = bodyRB r from if_pos hc)
    have sa : r.st.length ≤ 4096 := by have := (ckR_ok hc).1.1.2; omega
    obtain ⟨_, ⟨⟨p1, p2⟩, p3, p4⟩, ⟨p5, p6, p7⟩, h64, hser, _⟩ := ckR_ok hc
    have HS := Lib.hid hser
    rw [hc]
    clear hc hser
    go_wp2_with fail
    clear c4 cl
    go_loopw [5, 6] (fun s5 s6 wr => ∃ (i : Nat) (A5 : Option Addr) (n5 c5 : Nat), i ≤ r.ser.length ∧ s6 = .int .i64 (i : Int) ∧ s5 = .slice A5 n5 c5 ∧ Hid (Own wr (w.heap.size + 1) 5 (.slice A5 n5 c5) (bvs (wideB 4 (r.ser.take i)))) ∧ Hid (Below (w.heap.size + 1) ww wr)) (fun _ s6 _ => r.ser.length - (intOf s6).toNat)
    case atStart => exact ⟨0, none, 0, 0, Nat.zero_le _, rfl, rfl, nilB _ _, Below.refl _ _⟩
    case round =>
    obtain ⟨i, A5, n5, c5, hi, rfl, rfl, O5, B5⟩ := hrel
    have T5 := Lib.hid (show RvAt wr w.heap.size r (.slice A r.ser.length c) from (B5.out.block _ (Nat.lt_succ_self _)).trans HT.out)
    have X5 := Lib.hid (show Ext w wr from x1.trans (B5.out.mono (Nat.le_succ _)))
    have c4 := T5.out.c4
    have cl := T5.out.lt
    by_cases hlt : i < r.ser.length
    case pos =>
      obtain ⟨t, ht⟩ : ∃ t, r.ser[i]? = some t := ⟨_, List.getElem?_eq_getElem hlt⟩
      obtain ⟨b, o, rfl, hbl, hcc⟩ := HEL.out (by omega)
      have l0 := (X5.out.cell (p := ⟨b, o + i, none⟩) hbl).trans (hcc i hlt)
      rw [show r.ser.getD i 0 = t by rw [List.getD_eq_getElem?_getD, ht]; rfl] at l0
      have hst := HS.out t (List.mem_of_getElem? ht)
      have HW := Lib.hid (show wideB 4 (r.ser.take (i + 1)) = wideB 4 (r.ser.take i) ++ beN 4 t by rw [take_snocD hlt, wideB_snoc, show r.ser.getD i 0 = t by rw [List.getD_eq_getElem?_getD, ht]; rfl])
      have t0 : 0 ≤ t := by have := hst.1; omega
      have t1 : t < 9223372036854775808 := by have := hst.2; omega
      clear hcc ht hst
      have wi1 : IntKind.i64.wrap ((i : Int)) = (i : Int) := IntWalk.i64_in _ (by omega)
      have zi1 : (0 : Int) ≤ (i : Int) := by omega
      have li1 : (i : Int) < (r.ser.length : Int) := by omega
      have ti1 : ((i : Int)).toNat = i := by omega
      go_wp2_with fail
      refine (refbytes_any 4 t 4 _ t0 t1 rfl (by omega)).mono ?_
      rintro e w6 hb6
      obtain ⟨A6, n6, c6, rfl, hn6, k6, x6⟩ := hb6
      have hl5 : (wideB 4 (r.ser.take i)).length ≤ 300 := by rw [wideB_len]; have := List.length_take_le i r.ser; omega
      have X6 := Lib.hid (B5.out.trans (x6.mono (Nat.succ_le_of_lt T5.out.lt)))
      have hg6 : w.heap.size + 1 ≤ w6.heap.size := Nat.le_trans (Nat.succ_le_of_lt T5.out.lt) x6.size
      have O6 := O5.out.ext x6
      go_wp2_with (refine appB (B := w.heap.size + 1) (w0 := ww) (xs := wideB 4 (r.ser.take i)) (ys := beN 4 t) O6 k6.rd X6.out (by rw [beN_len]; omega) hg6 rfl rfl rfl rfl ?_; intro A7 n7 c7 w7 hn7 o7 b7 g7)
      rw [← HW.out] at o7
      go_roundw
      case rel => exact ⟨i + 1, A7, n7, c7, by omega, by go_num, rfl, o7, b7⟩
      case measure => simp [intOf]; omega
    case neg =>
    obtain rfl : i = r.ser.length := by omega
    rw [List.take_length] at O5
    clear hlt hi
    go_wp2_with fail
    have day0 : 0 ≤ r.day := by omega
    have day1 : r.day < 9223372036854775808 := by omega
    have nxt0 : 0 ≤ r.nxt := by omega
    have nxt1 : r.nxt < 9223372036854775808 := by omega
    have num0 : 0 ≤ r.num := by omega
    have num1 : r.num < 9223372036854775808 := by omega
    have iss0 : 0 ≤ r.iss := by omega
    have iss1 : r.iss < 9223372036854775808 := by omega
    clear c4 cl p1 p2 p3 p4 p5 p6 p7
    refine Gd.wp_region_X 7 (by kernel_rfl) (by kernel_rfl) ?_
    simp only [List.take_succ_cons, List.take_zero, List.drop_succ_cons, List.drop_zero]
    intro w1 hw1
    have LL : ∀ m : Lt w1, Ext wr m.1 := fun m => hw1.tr m.2
    have v2 : ∀ m : Lt w1, m.1.cell? ⟨w.heap.size, 2, none⟩ = some (.int .i64 r.day) := fun m => (T5.out.ext (LL m)).c2
    have v3 : ∀ m : Lt w1, m.1.cell? ⟨w.heap.size, 3, none⟩ = some (.int .i64 r.nxt) := fun m => (T5.out.ext (LL m)).c3
    have BB : ∀ m : Lt w1, wr.heap.size ≤ m.1.heap.size := fun m => (LL m).size
    repeat (refine Gd.wpX_pure (by first | exact trivial | exact ⟨_, rfl, rfl, rfl⟩) rfl rfl rfl rfl rfl (fun K hK => ?_); go_big_quiet_op; refine hK _ ?_; clear hK K)
    refine Gd.wpX_callF (by first | exact trivial | exact ⟨_, rfl, rfl, rfl⟩) (GF wr.heap.size (be3 r.day)) (stable_GF _ _) (fun _ => [.int .i64 r.day, .int .i64 3]) rfl rfl rfl rfl rfl (by kernel_rfl) rfl (fun _ => rfl) (fun m f hf => beN_3 r.day ▸ gf_bytes 3 r.day 3 m.1 (BB m) day0 day1 rfl (by omega)) ?_
    simp only [Act.put, List.setIfInBounds_toArray, List.set_cons_zero, List.set_cons_succ]
    repeat (refine Gd.wpX_pure (by first | exact trivial | exact ⟨_, rfl, rfl, rfl⟩) rfl rfl rfl rfl rfl (fun K hK => ?_); go_big_quiet_op; refine hK _ ?_; clear hK K)
    refine Gd.wpX_callF (by first | exact trivial | exact ⟨_, rfl, rfl, rfl⟩) (GF wr.heap.size (be3 r.nxt)) (stable_GF _ _) (fun _ => [.int .i64 r.nxt, .int .i64 3]) rfl rfl rfl rfl rfl (by kernel_rfl) rfl (fun _ => rfl) (fun m f hf => beN_3 r.nxt ▸ gf_bytes 3 r.nxt 3 m.1 (BB m) nxt0 nxt1 rfl (by omega)) ?_
    simp only [Act.put, List.setIfInBounds_toArray, List.set_cons_zero, List.set_cons_succ]
    refine Gd.wpX_appF (by first | exact trivial | exact ⟨_, rfl, rfl, rfl⟩) (fun v w => Own w wr.heap.size 5 v (bvs (be3 r.day ++ be3 r.nxt))) (stable_own _ _ _) (fun f => f 31) (fun f => f 34) rfl rfl rfl rfl rfl rfl (fun _ => rfl) (fun _ => rfl) (fun m f hf => run_appOwn (BB m) (hf 31 _ rfl rfl) (hf 34 _ rfl rfl).gs (by simp [be3]) (by simp [be3]) (by simp [be3])) ?_
    simp only [Act.put, List.setIfInBounds_toArray, List.set_cons_zero, List.set_cons_succ]
    refine Gd.wpX_endL (fun m f hf => ?_)
    have h35 := hf 35 _ rfl
    simp only [fillH]
    simp only [Act.put, List.setIfInBounds_toArray, List.set_cons_zero, List.set_cons_succ]
    obtain ⟨Aq, nq, cq, e35⟩ := Own.slice h35
    rw [e35] at h35 ⊢
    have Lm := LL m
    obtain ⟨wq, hwq⟩ := m
    clear LL BB v2 v3 hf e35
    have TQ := Lib.hid (T5.out.ext Lm)
    have OS0 : GS wr.heap.size (be3 r.day ++ be3 r.nxt) (.slice Aq nq cq) wq := RdS.of (xs := bvs (be3 r.day ++ be3 r.nxt)) h35 fun b hb => hb
    have OS1 := (O5.out.ext Lm).rd
    have XQ := X5.out.tr Lm
    clear h35
    have OQ0 := OS0.rd.gs0
    have OQ1 := OS1.gs0
    clear OS0 OS1 Lm
    show wpList _ _ _ _ _ _
    go_wp2_with fail
    refine Gd.wp_region_X 15 (by kernel_rfl) (by kernel_rfl) ?_
    simp only [List.take_succ_cons, List.take_zero, List.drop_succ_cons, List.drop_zero]
    intro w1 hw1
    have LL : ∀ m : Lt w1, Ext wq m.1 := fun m => hw1.tr m.2
    have v0 : ∀ m : Lt w1, m.1.cell? ⟨w.heap.size, 0, none⟩ = some (.string (bstr r.st)) := fun m => (TQ.out.ext (LL m)).c0
    have v1 : ∀ m : Lt w1, m.1.cell? ⟨w.heap.size, 1, none⟩ = some (.int .i64 r.num) := fun m => (TQ.out.ext (LL m)).c1
    have v5 : ∀ m : Lt w1, m.1.cell? ⟨w.heap.size, 5, none⟩ = some (.int .i64 r.iss) := fun m => (TQ.out.ext (LL m)).c5
    have BB : ∀ m : Lt w1, 0 ≤ m.1.heap.size := fun m => Nat.zero_le _
    have OR : ∀ m : Lt w1, GS 0 (be3 r.day ++ be3 r.nxt) (.slice Aq nq cq) m.1 := fun m => stable_GS _ _ _ _ _ (LL m) OQ0
    have OS : ∀ m : Lt w1, GS 0 (wideB 4 r.ser) (.slice A5 n5 c5) m.1 := fun m => stable_GS _ _ _ _ _ (LL m) OQ1
    repeat (refine Gd.wpX_pure (by first | exact trivial | exact ⟨_, rfl, rfl, rfl⟩) rfl rfl rfl rfl rfl (fun K hK => ?_); go_big_quiet_op; refine hK _ ?_; clear hK K)
    refine Gd.wpX_callF (by first | exact trivial | exact ⟨_, rfl, rfl, rfl⟩) (NdF 0 0 [leafN 19 r.st, leafN 130 (be4 r.num)]) (stable_NdF _ _ _) (fun _ => [.string (bstr r.st), .int .i64 r.num]) rfl rfl rfl rfl rfl (by kernel_rfl) rfl (fun _ => rfl) (fun m f hf => (refhead_any r.st r.num m.1 sa num0 num1).mono fun e w3 ⟨v, h1, h2, h3⟩ => ⟨v, h1, h2, ndf_mono h3 (BB m)⟩) ?_
    simp only [Act.put, List.setIfInBounds_toArray, List.set_cons_zero, List.set_cons_succ]
    repeat (refine Gd.wpX_pure (by first | exact trivial | exact ⟨_, rfl, rfl, rfl⟩) rfl rfl rfl rfl rfl (fun K hK => ?_); go_big_quiet_op; refine hK _ ?_; clear hK K)
    refine Gd.wpX_callF (by first | exact trivial | exact ⟨_, rfl, rfl, rfl⟩) (GS 0 (be4 r.iss)) (stable_GS _ _) (fun _ => [.int .i64 r.iss, .int .i64 4]) rfl rfl rfl rfl rfl (by kernel_rfl) rfl (fun _ => rfl) (fun m f hf => (refbytes_any 4 r.iss 4 m.1 iss0 iss1 rfl (by omega)).mono fun _ _ h => (beN_4 r.iss ▸ h : RetB _ _ _ _).gs (BB m)) ?_
    simp only [Act.put, List.setIfInBounds_toArray, List.set_cons_zero, List.set_cons_succ]
    refine Gd.wpX_callF (by first | exact trivial | exact ⟨_, rfl, rfl, rfl⟩) (NdG 0 0 (leafN 131 (be4 r.iss))) (stable_NdG _ _ _) (fun f => [.int .i64 131, f 43]) rfl rfl rfl rfl rfl (by kernel_rfl) rfl (fun f => rfl) (fun m f hf => leafC m.1 131 (hf 43 _ rfl rfl)) ?_
    simp only [Act.put, List.setIfInBounds_toArray, List.set_cons_zero, List.set_cons_succ]
    repeat (refine Gd.wpX_pure (by first | exact trivial | exact ⟨_, rfl, rfl, rfl⟩) rfl rfl rfl rfl rfl (fun K hK => ?_); go_big_quiet_op; refine hK _ ?_; clear hK K)
    refine Gd.wpX_callF (by first | exact trivial | exact ⟨_, rfl, rfl, rfl⟩) (NdG 0 0 (leafN 134 (be3 r.day ++ be3 r.nxt))) (stable_NdG _ _ _) (fun f => [.int .i64 134, .slice Aq nq cq]) rfl rfl rfl rfl rfl (by kernel_rfl) rfl (fun f => rfl) (fun m f hf => leafC m.1 134 (OR m)) ?_
    simp only [Act.put, List.setIfInBounds_toArray, List.set_cons_zero, List.set_cons_succ]
    repeat (refine Gd.wpX_pure (by first | exact trivial | exact ⟨_, rfl, rfl, rfl⟩) rfl rfl rfl rfl rfl (fun K hK => ?_); go_big_quiet_op; refine hK _ ?_; clear hK K)
    refine Gd.wpX_callF (by first | exact trivial | exact ⟨_, rfl, rfl, rfl⟩) (NdG 0 0 (leafN 136 (wideB 4 r.ser))) (stable_NdG _ _ _) (fun f => [.int .i64 136, .slice A5 n5 c5]) rfl rfl rfl rfl rfl (by kernel_rfl) rfl (fun f => rfl) (fun m f hf => leafC m.1 136 (OS m)) ?_
    simp only [Act.put, List.setIfInBounds_toArray, List.set_cons_zero, List.set_cons_succ]
    refine Gd.wpX_buildSL (by first | exact trivial | exact ⟨_, rfl, rfl, rfl⟩) (NdF 0 0 [leafN 131 (be4 r.iss), leafN 134 (be3 r.day ++ be3 r.nxt), leafN 136 (wideB 4 r.ser)]) (stable_NdF _ _ _) (fun f => [(0, f 44), (1, f 46), (2, f 48)]) rfl rfl rfl rfl rfl (fun f => rfl) (fun m f hf => run_nodesF3 m.1 (BB m) (hf 44 _ rfl rfl) (hf 46 _ rfl rfl) (hf 48 _ rfl rfl)) ?_
    simp only [Act.put, List.setIfInBounds_toArray, List.set_cons_zero, List.set_cons_succ]
    refine Gd.wpX_appF (by first | exact trivial | exact ⟨_, rfl, rfl, rfl⟩) (NdsG 0 1 (bodyRN r).kids) (stable_NdsG _ _ _) (fun f => f 40) (fun f => f 49) rfl rfl rfl rfl rfl rfl (fun _ => rfl) (fun _ => rfl) (fun m f hf => run_appNds (BB m) (hf 40 _ rfl rfl) (hf 49 _ rfl rfl) (by simp) (by simp)) ?_
    simp only [Act.put, List.setIfInBounds_toArray, List.set_cons_zero, List.set_cons_succ]
    refine Gd.wpX_endL (fun m f hf => ?_)
    have h50 := hf 50 _ rfl
    simp only [fillH]
    simp only [Act.put, List.setIfInBounds_toArray, List.set_cons_zero, List.set_cons_succ]
    obtain ⟨A8, n8, c8, e50⟩ := NdsS.slice h50
    rw [e50] at h50 ⊢
    have Lm := LL m
    obtain ⟨wy, hwy⟩ := m
    clear LL BB OR OS v0 v1 v5 hf e50
    have HV := Lib.hid (show NdG 0 1 (bodyRN r) (.agg #[.int .i64 (bodyRN r).tag, .slice none 0 0, .slice A8 n8 c8]) wy from ⟨_, _, _, _, _, _, rfl, RdS.nil _, h50⟩)
    clear h50
    have X8 := XQ.tr Lm
    show wpList _ _ _ _ _ _
    go_wp2_with fail
    refine (refencode_ok (d := 2) (ts := [bodyRN r]) _ (ok_bodyRN r) (nds_one (t := bodyRN r) rfl HV.out) (by omega) (cnt_bodyRN r) (bodyRB_4096 HK.out)).mono ?_
    rintro e w9 ⟨A9, n9, c9, rfl, hn9, o9, b9⟩
    go_wp2_with fail
    go_ret2
    rw [HB.out, HK.out]
    exact ⟨_, _, _, rfl, hn9, o9.rd, Ext.tr (X8.alloc X8.size _) b9⟩
  · have hb : (ckR r != 0) = true := by simpa using hc
    have HB := Lib.hid (show byR r = [] from if_neg hc)
    clear hc
    go_wp2_with fail
    go_ret2
    rw [HB.out]
    exact ⟨_, _, _, rfl, (show _ = _ from rfl), Rd.nil_ _, x1⟩
end Go.Proofs.YtkjplpmogfmhkaaGreatDoor
namespace Go.Proofs.YtkjplpmogfmhkaaGreatDoor
open Go.RowKit
set_option linter.unusedVariables false
set_option maxRecDepth 100000
def updR (r : RV) (e s : Int) : RV := ⟨r.st, r.num, r.day, r.nxt, r.ser, r.iss, e, s⟩
def isCR (k : Int) (r : RV) : RV := if ckR r = 0 ∧ sK k = 0 then updR r (sE k (bodyRB r)) (sS k (bodyRB r)) else zeroR
def isKR (k : Int) (r : RV) : Int := if ckR r = 0 then sK k else ckR r
theorem byR_len (r : RV) : (byR r).length ≤ 400 := by
  unfold byR
  split
  · rename_i h; exact bodyRB_len h
  · simp
/-- A list and a number are returned; its numbers' row is new. -/
def RetRV (w : World) (r : RV) (k : Int) (e : Ending) (w' : World) : Prop := ∃ A n c, e = .returned (.tuple #[rvV r (.slice A n c), .int .i64 k]) ∧ Own w' w.heap.size 3 (.slice A n c) (r.ser.map (Value.int .i64)) ∧ Ext w w'
/-- .. its numbers may be read. -/
def RetRQ (w : World) (v : Value) (r : RV) (k : Int) (e : Ending) (w' : World) : Prop := ∃ A n c, e = .returned (.tuple #[rvV r (.slice A n c), .int .i64 k]) ∧ RdI w' .i64 (.slice A n c) r.ser ∧ Ext w w' ∧ (.slice A n c = v ∨ .slice A n c = Value.slice none 0 0)
set_option maxHeartbeats 8000000 in
theorem rissue_any (k : Int) (r : RV) (v : Value) (w : World) (hv : RdI w .i64 v r.ser) (hs : r.st.length ≤ maxLen) (hl : r.ser.length ≤ 1000000) (E : KTab w 1) : Calls Tryz.prog 78 #[.int .i64 k, rvV r v] w (RetRV w (isCR k r) (isKR k r)) := by
  obtain ⟨wz, hwz, T⟩ := two_allocR w r v
  have HB := Lib.hid (fun W (e : Ext w W) => rbody_any r v W (hv.ext e) hs)
  have HCR := Lib.hid (fun W (e : Ext w W) => crev_any r v W (hv.ext e) hl)
  have HV := Lib.hid (fun W (e : Ext w W) => hv.ext e)
  obtain ⟨A, n, c, rfl, hn, hnc, hcm, hel⟩ := hv.ints
  subst hn
  clear hel hv
  unfold rvV
  go_enter Tryz.func78, Tryz.ntmps78
  go_wp2_with fail
  rw [← hwz]
  clear hwz
  refine (HB.out _ T.ext).mono ?_
  rintro e w1 ⟨A1, n1, c1, rfl, hn1, r1, b1⟩
  have T1 := T.tr b1
  clear T
  have x1 := T1.ext
  have h1lt : w.heap.size + 1 < w1.heap.size := T1.r.lt
  by_cases hc : ckR r = 0
  · have HK := Lib.hid hc
    rw [hc]
    have hlen := byR_len r
    clear hc
    obtain ⟨t0, t1, t2, t3, t4, t5, t6, t7⟩ := T1.c.cells
    have hl0 := T1.c.lt
    go_wp2_with fail
    refine (HCR.out _ x1).mono ?_
    rintro e w2 ⟨A2, n2, c2, rfl, o2, b2⟩
    have T2 := T1.tr b2
    have s2 := b2.size
    obtain ⟨wa, hwa, xa, ta⟩ := rv_alloc w2 r (.slice A2 n2 c2)
    clear t0 t1 t2 t3 t4 t5 t6 t7 hl0
    unfold rvV
    go_wp2_with fail
    rw [← hwa]
    clear hwa
    refine (sign_any k _ ((r1.ext b2).ext xa) (by omega) (E.below ((x1.tr b2).tr xa))).mono ?_
    rintro e w3 ⟨rfl, b3⟩
    have T3 := (T2.tr xa).tr b3
    have tb3 := ta.ext b3
    have x23 := xa.tr b3
    have hla := tb3.lt
    have O2 := Lib.hid o2
    clear T1 T2 x1 hn1 r1 hlen ta xa b1 b2 b3 o2
    unfold sgV
    rw [show byR r = bodyRB r from if_pos HK.out]
    obtain ⟨t0, t1, t2, t3, t4, t5, t6, t7⟩ := tb3.cells
    have f6 := tb3.frozen 6
    have f7 := tb3.frozen 7
    obtain ⟨r0, r1, r2, r3, r4, r5, r6, r7⟩ := T3.r.cells
    have hlr := T3.r.lt
    have g0 := T3.r.frozen 0
    have g1 := T3.r.frozen 1
    have g2 := T3.r.frozen 2
    have g3 := T3.r.frozen 3
    have g4 := T3.r.frozen 4
    have g5 := T3.r.frozen 5
    have g6 := T3.r.frozen 6
    have g7 := T3.r.frozen 7
    by_cases hk : sK k = 0
    · have HI := Lib.hid (show isCR k r = updR r (sE k (bodyRB r)) (sS k (bodyRB r)) from if_pos ⟨HK.out, hk⟩)
      have HJ := Lib.hid (show isKR k r = 0 by unfold isKR; rw [if_pos HK.out, hk])
      rw [hk]
      clear hk
      generalize sE k (bodyRB r) = es at *
      generalize sS k (bodyRB r) = ss at *
      go_wp2_with fail
      have TR := (T3.r.other (b := w2.heap.size) (i := 6) (u := .int .i64 es) (by omega)).other (b := w2.heap.size) (i := 7) (u := .int .i64 ss) (by omega)
      have TZ : RvAt (set8 ((w3.setCell ⟨w2.heap.size, 6, none⟩ (.int .i64 es)).setCell ⟨w2.heap.size, 7, none⟩ (.int .i64 ss)) (w.heap.size + 1) (.string (bstr r.st)) (.int .i64 r.num) (.int .i64 r.day) (.int .i64 r.nxt) (.slice A2 n2 c2) (.int .i64 r.iss) (.int .i64 es) (.int .i64 ss)) (w.heap.size + 1) (updR r es ss) (.slice A2 n2 c2) := TR.setR (updR r es ss) (.slice A2 n2 c2)
      have OX := Lib.hid (O2.out.ext (ext_set (i := 7) (v := .int .i64 ss) (ext_set (i := 6) (v := .int .i64 es) x23 (Nat.le_refl _)) (Nat.le_refl _)))
      have OZ := Lib.hid (show Own (set8 ((w3.setCell ⟨w2.heap.size, 6, none⟩ (.int .i64 es)).setCell ⟨w2.heap.size, 7, none⟩ (.int .i64 ss)) (w.heap.size + 1) (.string (bstr r.st)) (.int .i64 r.num) (.int .i64 r.day) (.int .i64 r.nxt) (.slice A2 n2 c2) (.int .i64 r.iss) (.int .i64 es) (.int .i64 ss)) w1.heap.size 3 (.slice A2 n2 c2) (r.ser.map (Value.int .i64)) from
        (((((((OX.out.setLow h1lt).setLow h1lt).setLow h1lt).setLow h1lt).setLow h1lt).setLow h1lt).setLow h1lt).setLow h1lt)
      refine bodyPost_ret (v := .tuple #[rvV (updR r es ss) (.slice A2 n2 c2), .int .i64 0]) ?_ rfl ⟨A2, n2, c2, by rw [HI.out, HJ.out], by rw [HI.out]; exact OZ.out.mono (by omega), ext_setR (ext_set (ext_set T3.ext (by show w.heap.size ≤ w2.heap.size; omega)) (by show w.heap.size ≤ w2.heap.size; omega)) (by omega) (updR r es ss) (.slice A2 n2 c2)⟩
      obtain ⟨q0, q1, q2, q3, q4, q5, q6, q7⟩ := TZ.cells
      clear r0 r1 r2 r3 r4 r5 r6 r7 t0 t1 t2 t3 t4 t5 t6 t7
      simp [results, Tryz.results78, go_sem, rvV, updR, q0, q1, q2, q3, q4, q5, q6, q7]
    · have HI := Lib.hid (show isCR k r = zeroR from if_neg (fun q => hk q.2))
      have HJ := Lib.hid (show isKR k r = sK k from if_pos HK.out)
      have hb : (sK k != 0) = true := by simpa using hk
      clear hk
      generalize sE k (bodyRB r) = es at *
      generalize sS k (bodyRB r) = ss at *
      go_wp2_with fail
      have TR := (T3.r.other (b := w2.heap.size) (i := 6) (u := .int .i64 es) (by omega)).other (b := w2.heap.size) (i := 7) (u := .int .i64 ss) (by omega)
      have TZ : RvAt (set8 ((w3.setCell ⟨w2.heap.size, 6, none⟩ (.int .i64 es)).setCell ⟨w2.heap.size, 7, none⟩ (.int .i64 ss)) (w.heap.size + 1) (.string ⟨#[]⟩) (.int .i64 0) (.int .i64 0) (.int .i64 0) (.slice none 0 0) (.int .i64 0) (.int .i64 0) (.int .i64 0)) (w.heap.size + 1) zeroR (.slice none 0 0) := TR.setR zeroR (.slice none 0 0)
      refine bodyPost_ret (v := .tuple #[rvV zeroR (.slice none 0 0), .int .i64 (sK k)]) ?_ rfl ⟨none, 0, 0, by rw [HI.out, HJ.out], by rw [HI.out]; exact Own.nil_ _ _ _, ext_setR (ext_set (ext_set T3.ext (by show w.heap.size ≤ w2.heap.size; omega)) (by show w.heap.size ≤ w2.heap.size; omega)) (by omega) zeroR (.slice none 0 0)⟩
      obtain ⟨q0, q1, q2, q3, q4, q5, q6, q7⟩ := TZ.cells
      clear r0 r1 r2 r3 r4 r5 r6 r7 t0 t1 t2 t3 t4 t5 t6 t7
      simp [results, Tryz.results78, go_sem, rvV, q0, q1, q2, q3, q4, q5, q6, q7]
  · have HI := Lib.hid (show isCR k r = zeroR from if_neg (fun q => hc q.1))
    have HJ := Lib.hid (show isKR k r = ckR r from if_neg hc)
    have hb : (ckR r != 0) = true := by simpa using hc
    clear hc r1 hn1
    obtain ⟨r0, r1, r2, r3, r4, r5, r6, r7⟩ := T1.r.cells
    have hlr := T1.r.lt
    have g0 := T1.r.frozen 0
    have g1 := T1.r.frozen 1
    have g2 := T1.r.frozen 2
    have g3 := T1.r.frozen 3
    have g4 := T1.r.frozen 4
    have g5 := T1.r.frozen 5
    have g6 := T1.r.frozen 6
    have g7 := T1.r.frozen 7
    go_wp2_with fail
    have TZ : RvAt (set8 w1 (w.heap.size + 1) (.string ⟨#[]⟩) (.int .i64 0) (.int .i64 0) (.int .i64 0) (.slice none 0 0) (.int .i64 0) (.int .i64 0) (.int .i64 0)) (w.heap.size + 1) zeroR (.slice none 0 0) := T1.r.setR zeroR (.slice none 0 0)
    refine bodyPost_ret (v := .tuple #[rvV zeroR (.slice none 0 0), .int .i64 (ckR r)]) ?_ rfl ⟨none, 0, 0, by rw [HI.out, HJ.out], by rw [HI.out]; exact Own.nil_ _ _ _, ext_setR x1 (by omega) zeroR (.slice none 0 0)⟩
    obtain ⟨q0, q1, q2, q3, q4, q5, q6, q7⟩ := TZ.cells
    clear r0 r1 r2 r3 r4 r5 r6 r7
    simp [results, Tryz.results78, go_sem, rvV, q0, q1, q2, q3, q4, q5, q6, q7]
set_option maxHeartbeats 8000000 in
theorem refrissue_any (k : Int) (r : RV) (v : Value) (w : World) (hv : RdI w .i64 v r.ser) (hs : r.st.length ≤ maxLen) (E : KTab w 0) : Calls Tryz.prog 79 #[.int .i64 k, rvV r v] w (RetRQ w v (isCR k r) (isKR k r)) := by
  obtain ⟨wz, hwz, T⟩ := two_allocR w r v
  have HB := Lib.hid (fun W (e : Ext w W) => refrbody_any r v W (hv.ext e) hs)
  have HV := Lib.hid (fun W (e : Ext w W) => hv.ext e)
  obtain ⟨A, n, c, rfl, hn, hnc, hcm, hel⟩ := hv.ints
  subst hn
  clear hel hv
  unfold rvV
  go_enter Tryz.func79, Tryz.ntmps79
  go_wp2_with fail
  rw [← hwz]
  clear hwz
  refine (HB.out _ T.ext).mono ?_
  rintro e w1 ⟨A1, n1, c1, rfl, hn1, r1, b1⟩
  have T1 := T.tr b1
  clear T
  have x1 := T1.ext
  have h1lt : w.heap.size + 1 < w1.heap.size := T1.r.lt
  by_cases hc : ckR r = 0
  · have HK := Lib.hid hc
    rw [hc]
    have hlen := byR_len r
    clear hc
    go_wp2_with fail
    refine (refsign_any k _ r1 (by omega) (E.below x1)).mono ?_
    rintro e w2 ⟨rfl, b2⟩
    have T2 := T1.tr b2
    have x2 := T2.ext
    clear T1 x1 hn1 r1 hlen
    unfold sgV
    rw [show byR r = bodyRB r from if_pos HK.out]
    by_cases hk : sK k = 0
    · have HI := Lib.hid (show isCR k r = updR r (sE k (bodyRB r)) (sS k (bodyRB r)) from if_pos ⟨HK.out, hk⟩)
      have HJ := Lib.hid (show isKR k r = 0 by unfold isKR; rw [if_pos HK.out, hk])
      rw [hk]
      clear hk
      generalize sE k (bodyRB r) = es at *
      generalize sS k (bodyRB r) = ss at *
      obtain ⟨wa, hwa, sa⟩ := sg_alloc w2 es ss
      have hwb := hwa.symm
      clear hwa
      have T3 := T2.tr sa.ext
      have s0 := sa.c0
      have s1 := sa.c1
      have sl := sa.lt
      clear sa
      obtain ⟨t0, t1, t2, t3, t4, t5, t6, t7⟩ := T3.c.cells
      have hl1 := T3.c.lt
      have hlr := T3.r.lt
      have f6 := T3.c.frozen 6
      have f7 := T3.c.frozen 7
      obtain ⟨r0, r1, r2, r3, r4, r5, r6, r7⟩ := T3.r.cells
      have g0 := T3.r.frozen 0
      have g1 := T3.r.frozen 1
      have g2 := T3.r.frozen 2
      have g3 := T3.r.frozen 3
      have g4 := T3.r.frozen 4
      have g5 := T3.r.frozen 5
      have g6 := T3.r.frozen 6
      have g7 := T3.r.frozen 7
      go_wp2_with fail
      have TR := (T3.r.other (b := w.heap.size) (i := 6) (u := .int .i64 es) (by omega)).other (b := w.heap.size) (i := 7) (u := .int .i64 ss) (by omega)
      have XZ := Lib.hid (ext_setR (ext_set (i := 7) (v := .int .i64 ss) (ext_set (i := 6) (v := .int .i64 es) T3.ext (Nat.le_refl _)) (Nat.le_refl _)) (Nat.le_succ _) (updR r es ss) (.slice A r.ser.length c))
      have TZ : RvAt (set8 ((wa.setCell ⟨w.heap.size, 6, none⟩ (.int .i64 es)).setCell ⟨w.heap.size, 7, none⟩ (.int .i64 ss)) (w.heap.size + 1) (.string (bstr r.st)) (.int .i64 r.num) (.int .i64 r.day) (.int .i64 r.nxt) (.slice A r.ser.length c) (.int .i64 r.iss) (.int .i64 es) (.int .i64 ss)) (w.heap.size + 1) (updR r es ss) (.slice A r.ser.length c) := TR.setR (updR r es ss) (.slice A r.ser.length c)
      refine bodyPost_ret (v := .tuple #[rvV (updR r es ss) (.slice A r.ser.length c), .int .i64 0]) ?_ rfl ⟨A, r.ser.length, c, by rw [HI.out, HJ.out], by rw [HI.out]; exact HV.out _ XZ.out, XZ.out, .inl rfl⟩
      obtain ⟨q0, q1, q2, q3, q4, q5, q6, q7⟩ := TZ.cells
      clear r0 r1 r2 r3 r4 r5 r6 r7 t0 t1 t2 t3 t4 t5 t6 t7
      simp [results, Tryz.results79, go_sem, rvV, updR, q0, q1, q2, q3, q4, q5, q6, q7]
    · have HI := Lib.hid (show isCR k r = zeroR from if_neg (fun q => hk q.2))
      have HJ := Lib.hid (show isKR k r = sK k from if_pos HK.out)
      have hb : (sK k != 0) = true := by simpa using hk
      clear hk
      generalize sE k (bodyRB r) = es at *
      generalize sS k (bodyRB r) = ss at *
      obtain ⟨wa, hwa, sa⟩ := sg_alloc w2 es ss
      have hwb := hwa.symm
      clear hwa
      have T3 := T2.tr sa.ext
      have s0 := sa.c0
      have s1 := sa.c1
      have sl := sa.lt
      clear sa
      obtain ⟨t0, t1, t2, t3, t4, t5, t6, t7⟩ := T3.c.cells
      have hl1 := T3.c.lt
      have hlr := T3.r.lt
      have f6 := T3.c.frozen 6
      have f7 := T3.c.frozen 7
      obtain ⟨r0, r1, r2, r3, r4, r5, r6, r7⟩ := T3.r.cells
      have g0 := T3.r.frozen 0
      have g1 := T3.r.frozen 1
      have g2 := T3.r.frozen 2
      have g3 := T3.r.frozen 3
      have g4 := T3.r.frozen 4
      have g5 := T3.r.frozen 5
      have g6 := T3.r.frozen 6
      have g7 := T3.r.frozen 7
      go_wp2_with fail
      have TZ : RvAt (set8 wa (w.heap.size + 1) (.string ⟨#[]⟩) (.int .i64 0) (.int .i64 0) (.int .i64 0) (.slice none 0 0) (.int .i64 0) (.int .i64 0) (.int .i64 0)) (w.heap.size + 1) zeroR (.slice none 0 0) := T3.r.setR zeroR (.slice none 0 0)
      refine bodyPost_ret (v := .tuple #[rvV zeroR (.slice none 0 0), .int .i64 (sK k)]) ?_ rfl ⟨none, 0, 0, by rw [HI.out, HJ.out], by rw [HI.out]; exact Rd.nil_ _, ext_setR T3.ext (by omega) zeroR (.slice none 0 0), .inr rfl⟩
      obtain ⟨q0, q1, q2, q3, q4, q5, q6, q7⟩ := TZ.cells
      clear r0 r1 r2 r3 r4 r5 r6 r7 t0 t1 t2 t3 t4 t5 t6 t7
      simp [results, Tryz.results79, go_sem, rvV, q0, q1, q2, q3, q4, q5, q6, q7]
  · have HI := Lib.hid (show isCR k r = zeroR from if_neg (fun q => hc q.1))
    have HJ := Lib.hid (show isKR k r = ckR r from if_neg hc)
    have hb : (ckR r != 0) = true := by simpa using hc
    clear hc r1 hn1
    obtain ⟨r0, r1, r2, r3, r4, r5, r6, r7⟩ := T1.r.cells
    have hlr := T1.r.lt
    have g0 := T1.r.frozen 0
    have g1 := T1.r.frozen 1
    have g2 := T1.r.frozen 2
    have g3 := T1.r.frozen 3
    have g4 := T1.r.frozen 4
    have g5 := T1.r.frozen 5
    have g6 := T1.r.frozen 6
    have g7 := T1.r.frozen 7
    go_wp2_with fail
    have TZ : RvAt (set8 w1 (w.heap.size + 1) (.string ⟨#[]⟩) (.int .i64 0) (.int .i64 0) (.int .i64 0) (.slice none 0 0) (.int .i64 0) (.int .i64 0) (.int .i64 0)) (w.heap.size + 1) zeroR (.slice none 0 0) := T1.r.setR zeroR (.slice none 0 0)
    refine bodyPost_ret (v := .tuple #[rvV zeroR (.slice none 0 0), .int .i64 (ckR r)]) ?_ rfl ⟨none, 0, 0, by rw [HI.out, HJ.out], by rw [HI.out]; exact Rd.nil_ _, ext_setR x1 (by omega) zeroR (.slice none 0 0), .inr rfl⟩
    obtain ⟨q0, q1, q2, q3, q4, q5, q6, q7⟩ := TZ.cells
    clear r0 r1 r2 r3 r4 r5 r6 r7
    simp [results, Tryz.results79, go_sem, rvV, q0, q1, q2, q3, q4, q5, q6, q7]
end Go.Proofs.YtkjplpmogfmhkaaGreatDoor
namespace Go.Proofs.YtkjplpmogfmhkaaGreatDoor
open Go.RowKit
set_option linter.unusedVariables false
set_option maxRecDepth 100000
theorem restT_add {pool next : List NC} {c : NC} (hc : c ∈ pool) (hn : c ∉ next) : restT pool (next ++ [c]) < restT pool next :=
  filter_lt _ _ pool (fun x _ hx => by
    have hx' : x ∉ next ++ [c] := of_decide_eq_true hx
    exact decide_eq_true fun q => hx' (List.mem_append_left _ q)) ⟨c, hc, decide_eq_true hn, decide_eq_false (fun q => q (List.mem_append_right _ List.mem_cons_self))⟩
theorem firstT_snoc (st : List UInt8) (day : Int) {roots : List NC} {y : NC} {k : Nat} (h : roots[k]? = some y) : firstT (roots.take (k + 1)) st day = firstStep st day (firstT (roots.take k) st day) y := by
  unfold firstT
  rw [take_snocN h, List.foldl_append]
  rfl
theorem firstT_len (st : List UInt8) (day : Int) (roots : List NC) : (firstT roots st day).length ≤ roots.length := by
  have h : ∀ (l acc : List NC), (l.foldl (firstStep st day) acc).length ≤ acc.length + l.length := by
    intro l
    induction l with
    | nil => intro acc; exact Nat.le_refl _
    | cons x l IH =>
      intro acc
      refine Nat.le_trans (IH _) ?_
      have : (firstStep st day acc x).length ≤ acc.length + 1 := by
        unfold firstStep
        split
        · simp
        · omega
      simp only [List.length_cons]
      omega
  have := h roots []
  rw [List.length_nil, Nat.zero_add] at this
  exact this
def linkF (day : Int) (out : List NC) (l : List NC) : List NC := l.foldl (linkStep day out) out
theorem linkF_snoc (day : Int) (out : List NC) {pool : List NC} {y : NC} {k : Nat} (h : pool[k]? = some y) : linkF day out (pool.take (k + 1)) = linkStep day out (linkF day out (pool.take k)) y := by
  unfold linkF
  rw [take_snocN h, List.foldl_append]
  rfl
theorem linkF_app (day : Int) (out l : List NC) : ∃ t, linkF day out l = out ++ t := by
  obtain ⟨t, h, _⟩ := foldl_ext day out l out
  exact ⟨t, h⟩
theorem bef_ge {day : Int} {L : List NC} {c : NC} : (0 ≤ befI day L c) ↔ (L.any fun a => folB day a c) = true := by
  unfold befI
  split
  · rename_i h
    exact ⟨fun _ => h, fun _ => Int.natCast_nonneg _⟩
  · rename_i h
    exact ⟨fun q => absurd q (by omega), fun q => absurd q h⟩
/-- What is kept of the rounds. -/
structure FnI (C : Nat) (pool L : List NC) (R : List Int) (rd : Int) : Prop where
  srt : Srt R
  le : ∀ x ∈ R, x ≤ rd
  kd : ∀ (i : Nat) (a : NC) (x : Int), L[i]? = some a → R[i]? = some x → (x = 0 ↔ a.kind = 1)
  sm : smL L
  bd : L.length + restT pool L ≤ C
theorem snoc_get' {α : Type} {l : List α} {x y : α} {i : Nat} (h : (l ++ [x])[i]? = some y) : l[i]? = some y ∨ (i = l.length ∧ y = x) := by
  by_cases hi : i < l.length
  · rw [List.getElem?_append_left hi] at h
    exact .inl h
  · rw [List.getElem?_append_right (by omega)] at h
    have h0 : i - l.length = 0 := by
      have := (List.getElem?_eq_some_iff.1 h).1
      simpa using this
    rw [h0] at h
    exact .inr ⟨by omega, (Option.some.inj h).symm⟩
theorem srt_snoc {R : List Int} {rd : Int} (h : Srt R) (hl : ∀ x ∈ R, x ≤ rd) : Srt (R ++ [rd]) := by
  intro i j x y hij hi hj
  rcases snoc_get' hi with q | ⟨q, e⟩
  · rcases snoc_get' hj with q2 | ⟨q2, e2⟩
    · exact h i j x y hij q q2
    · rw [e2]
      exact hl x (List.mem_of_getElem? q)
  · rcases snoc_get' hj with q2 | ⟨q2, e2⟩
    · have := (List.getElem?_eq_some_iff.1 q2).1
      omega
    · rw [e, e2]
      exact Int.le_refl _
theorem FnI.app {C : Nat} {pool L : List NC} {R : List Int} {rd : Int} {c : NC} (h : FnI C pool L R rd) (hlen : R.length = L.length) (hk : rd = 0 ↔ c.kind = 1) (hs : smN c) (hb : (L ++ [c]).length + restT pool (L ++ [c]) ≤ C) : FnI C pool (L ++ [c]) (R ++ [rd]) rd :=
  ⟨srt_snoc h.srt h.le, fun x hx => by
    rcases List.mem_append.1 hx with q | q
    · exact h.le x q
    · rw [List.mem_singleton.1 q]; exact Int.le_refl _, fun i a x ha hx => by
    rcases snoc_get' ha with ha | ⟨ha, rfl⟩
    · rcases snoc_get' hx with hx | ⟨hx, rfl⟩
      · exact h.kd i a x ha hx
      · have := (List.getElem?_eq_some_iff.1 ha).1
        omega
    · rcases snoc_get' hx with hx | ⟨hx, rfl⟩
      · have := (List.getElem?_eq_some_iff.1 hx).1
        omega
      · exact hk, h.sm.app (fun q hq => by rw [List.mem_singleton.1 hq]; exact hs), hb⟩
theorem FnI.up {C : Nat} {pool L : List NC} {R : List Int} {rd rd' : Int} (h : FnI C pool L R rd) (hr : rd ≤ rd') : FnI C pool L R rd' := ⟨h.srt, fun x hx => Int.le_trans (h.le x hx) hr, h.kd, h.sm, h.bd⟩
/-- What find returns. -/
def FindR (w : World) (roots pool : List NC) (st : List UInt8) (day : Int) (e : Ending) (w' : World) : Prop :=
  Ext w w' ∧ ∃ (S : Nat) (v1 v2 : Value) (R : List Int), e = .returned (.pointer (some ⟨S, 0, none⟩)) ∧ w.heap.size ≤ S ∧ SeAt w' w.heap.size S day v1 v2 (trustT roots pool st day) R ∧ ∃ rd, FnI (roots.length + pool.length) pool (trustT roots pool st day) R rd
theorem se_new (w : World) (day : Int) : ∃ wz, wz = w.alloc (.cells #[.int .i64 day, .slice none 0 0, .slice none 0 0] 155) ∧ Ext w wz ∧ SeAt wz w.heap.size w.heap.size day (.slice none 0 0) (.slice none 0 0) [] [] :=
  ⟨_, rfl, (Below.refl _ _).alloc (Nat.le_refl _) _, heap_alloc_new' w _, OwnK.empty _ _ _ _ _, OwnK.empty _ _ _ _ _, rfl⟩
theorem fni_first {roots pool : List NC} {st : List UInt8} {day : Int} {R : List Int} (h0 : ∀ x ∈ R, x = 0) (hs : smL roots) : FnI (roots.length + pool.length) pool (firstT roots st day) R 1 :=
  ⟨fun i j x y _ hx hy => by rw [h0 x (List.mem_of_getElem? hx), h0 y (List.mem_of_getElem? hy)]; exact Int.le_refl _, fun x hx => by rw [h0 x hx]; decide, fun i a x ha hx => by
    rw [h0 x (List.mem_of_getElem? hx)]
    exact ⟨fun _ => (rt_kind (firstT_mem (List.mem_of_getElem? ha)).2.2.2).1, fun _ => rfl⟩, fun c hc => hs c (firstT_mem hc).1, by
    have h1 := firstT_len st day roots
    have h2 := restT_le pool (firstT roots st day)
    omega⟩
theorem round_same {pool out : List NC} {day : Int} (h : (roundT pool day out).length = out.length) : roundT pool day out = out := by
  obtain ⟨t, e, _⟩ := roundT_ext pool day out
  rw [e] at h ⊢
  rw [List.length_append] at h
  rw [List.eq_nil_of_length_eq_zero (by omega : t.length = 0), List.append_nil]
/-- Where the rounds stand. -/
def FrD (roots pool : List NC) (st : List UInt8) (day : Int) (L : List NC) (r : Nat) (m : Bool) : Prop :=
  (m = true → allT pool day L = trustT roots pool st day ∧ restT pool L + r ≤ pool.length + 1) ∧ (m = false → L = trustT roots pool st day)
theorem frD_next {roots pool : List NC} {st : List UInt8} {day : Int} {L : List NC} {r : Nat} (h : FrD roots pool st day L r true) : FrD roots pool st day (roundT pool day L) (r + 1) (decide ((roundT pool day L).length ≠ L.length)) := by
  obtain ⟨h1, h2⟩ := h.1 rfl
  refine ⟨fun q => ?_, fun q => ?_⟩
  · have q := of_decide_eq_true q
    have h3 := restT_lt q
    exact ⟨by rw [← allT_step q]; exact h1, by omega⟩
  · have q : (roundT pool day L).length = L.length := by
      have := of_decide_eq_false q
      omega
    rw [round_same q, ← h1, allT_stop q]
theorem app_bd {C : Nat} {pool N : List NC} {c : NC} (hc : c ∈ pool) (hn : c ∉ N) (h : N.length + restT pool N ≤ C) : (N ++ [c]).length + restT pool (N ++ [c]) ≤ C := by
  have := restT_add hc hn
  rw [List.length_append]
  simp only [List.length_cons, List.length_nil]
  omega
/-- What is kept where roots are looked at. -/
structure FrI (w wr : World) (S : Nat) (day : Int) (C : Nat) (pool L : List NC) (R : List Int) : Prop where
  ext : Ext w wr
  se : ∃ v1 v2, SeAt wr w.heap.size S day v1 v2 L R
  len : R.length = L.length
theorem FrI.tr {w wr wx : World} {S : Nat} {day : Int} {C : Nat} {pool L : List NC} {R : List Int} (h : FrI w wr S day C pool L R) (e : Ext wr wx) : FrI w wx S day C pool L R := by
  obtain ⟨h1, ⟨v1, v2, h2⟩, h3⟩ := h
  exact ⟨h1.tr e, ⟨v1, v2, h2.ext e⟩, h3⟩
/-- add, where find stands. -/
theorem FrI.add {w wr : World} {S : Nat} {day : Int} {C : Nat} {pool L : List NC} {R : List Int} (h : FrI w wr S day C pool L R) (hS : w.heap.size ≤ S) (c : NC) (rd : Int) (hl : L.length ≤ 1000000) :
    Calls Tryz.prog 196 #[.pointer (some ⟨S, 0, none⟩), ncV c, .int .i64 rd] wr fun e w' => e = .returned (.bool (decide (c ∉ L))) ∧ FrI w w' S day C pool (addL L c) (addR L R c rd) := by
  obtain ⟨h1, ⟨v1, v2, h2⟩, h3⟩ := h
  exact (add_any c rd wr h2 h1.size hS hl).mono fun e w' ⟨q1, q2, u1, u2, q3⟩ => ⟨q2, h1.trans q1, ⟨u1, u2, q3⟩, addRL h3 c rd⟩
theorem FrI.before {w wr : World} {S : Nat} {day : Int} {C : Nat} {pool L : List NC} {R : List Int} (h : FrI w wr S day C pool L R) (c : NC) (n : Nat) (hn : n ≤ L.length) (hl : L.length ≤ 1000000) (hR : Srt R) (hs : smL L) (hc : smN c) (E : KTab w 1) :
    Calls Tryz.prog 119 #[.pointer (some ⟨S, 0, none⟩), ncV c, .int .i64 (n : Int)] wr (RetQ wr (.int .i64 (befI day (L.take n) c))) := by
  obtain ⟨h1, ⟨v1, v2, h2⟩, h3⟩ := h
  exact before_any c n wr h2 hn hl hR hs hc (E.below h1)
set_option maxHeartbeats 4000000 in
theorem find_any {v1 v2 : Value} {roots pool : List NC} (st : List UInt8) (day : Int) (w : World) (h1 : RdN w v1 roots) (h2 : RdN w v2 pool) (hs1 : smL roots) (hs2 : smL pool) (hl : roots.length + pool.length ≤ 900000) (E : KTab w 1) :
    Calls Tryz.prog 118 #[v1, v2, .string (bstr st), .int .i64 day] w (FindR w roots pool st day) := by
  obtain ⟨A1, n1, c1, rfl, hn1, hnc1, hcm1, hel1⟩ := h1.at_
  subst hn1
  obtain ⟨A2, n2, c2, rfl, hn2, hnc2, hcm2, hel2⟩ := h2.at_
  subst hn2
  have HEL1 := Lib.hid hel1
  have HEL2 := Lib.hid hel2
  have HON := Lib.hid (fun (c : NC) (hs : smN c) W => nationalcert_on c day W hs)
  have HRT := Lib.hid (fun (c : NC) (hs : smN c) W (e : Ext w W) => nationalcert_root c W hs (E.below e))
  have HE := Lib.hid E
  have HS1 := Lib.hid hs1
  have HS2 := Lib.hid hs2
  have HQ := Lib.hid (fun s => bstr_eqJ s st)
  unfold maxLen at hcm1 hcm2
  obtain ⟨wz, hwz, ez, SZ⟩ := se_new w day
  have Z0 := Lib.hid (show FrI w wz w.heap.size day (roots.length + pool.length) pool (firstT (roots.take 0) st day) [] from ⟨ez, ⟨_, _, SZ⟩, rfl⟩)
  clear hel1 hel2 h1 h2 hs1 hs2 E ez SZ
  go_enter Tryz.func118, Tryz.ntmps118
  go_upto_region 2 with fail
  rw [← hwz]
  clear hwz
  go_wp2_with fail
  go_loopw [22] (fun i wr => ∃ k : Nat, k ≤ roots.length ∧ i = .int .i64 (k : Int) ∧ ∃ R : List Int, Hid (FrI w wr w.heap.size day (roots.length + pool.length) pool (firstT (roots.take k) st day) R) ∧ Hid (∀ x ∈ R, x = 0)) (fun i _ => roots.length - (intOf i).toNat)
  case atStart => exact ⟨0, Nat.zero_le _, rfl, [], Z0, Lib.hid (fun x hx => by simp at hx)⟩
  case round =>
    clear Z0
    obtain ⟨k, hk, rfl, R, Z, HR0⟩ := hrel
    by_cases hlt : k < roots.length
    case neg =>
      obtain rfl : k = roots.length := by omega
      have HF0 := Lib.hid (show firstT (roots.take roots.length) st day = firstT roots st day by rw [List.take_length])
      have HI := Lib.hid (fni_first (pool := pool) (st := st) (day := day) HR0.out HS1.out)
      have ZZ : Hid (FrI w wr w.heap.size day (roots.length + pool.length) pool (firstT roots st day) R) := by have := Z.out; rw [HF0.out] at this; exact this
      have HD0 : Hid (FrD roots pool st day (firstT roots st day) 1 true) := Lib.hid ⟨fun _ => ⟨rfl, by have := restT_le pool (firstT roots st day); omega⟩, fun q => by cases q⟩
      clear Z HF0 HR0 hk hlt
      generalize firstT roots st day = L0 at *
      go_wp2_with fail
      go_loopw [12, 13] (fun rd mb wr => ∃ (r : Nat) (m : Bool) (L : List NC) (R : List Int), rd = .int .i64 (r : Int) ∧ mb = .bool m ∧ 1 ≤ r ∧ r ≤ pool.length + 2 ∧ Hid (FrI w wr w.heap.size day (roots.length + pool.length) pool L R) ∧ Hid (FnI (roots.length + pool.length) pool L R (r : Int)) ∧ Hid (FrD roots pool st day L r m)) (fun rd _ _ => pool.length + 3 - (intOf rd).toNat)
      case atStart => exact ⟨1, true, L0, R, rfl, rfl, Nat.le_refl _, by omega, ZZ, HI, HD0⟩
      case round =>
        clear ZZ HI HD0
        clear R
        obtain ⟨r, m, L, R, rfl, rfl, r1, r2, Z, HI, HD⟩ := hrel
        cases m
        · have hL := HD.out.2 rfl
          subst hL
          obtain ⟨zx, ⟨u1, u2, zs⟩, zl⟩ := Z.out
          have FIN := Lib.hid (show FindR w roots pool st day (.returned (.pointer (some ⟨w.heap.size, 0, none⟩))) wr from ⟨zx, _, u1, u2, R, rfl, Nat.le_refl _, zs, _, HI.out⟩)
          clear zx zs zl
          go_wp2_with fail
          go_ret
          exact FIN.out
        · have hr3 : r ≤ pool.length + 1 := by have := (HD.out.1 rfl).2; omega
          obtain ⟨zx, ⟨u1, u2, zs⟩, zl⟩ := Z.out
          obtain ⟨B1, d1, B2, d2, rfl, rfl, hd1, hd2, hm1, hm2⟩ := zs.forms
          obtain ⟨s0, s1, s2⟩ := zs.cells
          have sl := zs.lt
          have HLB := Lib.hid (show L.length ≤ 900000 by have := HI.out.bd; omega)
          unfold maxLen at hm1 hm2
          clear zx zs zl
          have wr1 : IntKind.i64.wrap ((r : Int) + 1) = (r : Int) + 1 := IntWalk.i64_in _ (by omega)
          go_wp2_with fail
          clear s0 s1 s2 sl
          go_loopw [54, 13] (fun i mb wr => ∃ k : Nat, k ≤ pool.length ∧ i = .int .i64 (k : Int) ∧ mb = .bool (decide ((linkF day L (pool.take k)).length ≠ L.length)) ∧ ∃ R' : List Int, Hid (FrI w wr w.heap.size day (roots.length + pool.length) pool (linkF day L (pool.take k)) R') ∧ Hid (FnI (roots.length + pool.length) pool (linkF day L (pool.take k)) R' (r : Int))) (fun i _ _ => pool.length - (intOf i).toNat)
          case atStart => exact ⟨0, Nat.zero_le _, rfl, by rw [List.take_zero]; simp [linkF], R, by rw [List.take_zero]; exact Z, by rw [List.take_zero]; exact HI⟩
          case round =>
            clear Z
            obtain ⟨k, hk, rfl, rfl, R', Z, HIK⟩ := hrel
            by_cases hlt : k < pool.length
            case neg =>
              obtain rfl : k = pool.length := by omega
              have HRD : Hid (linkF day L (pool.take pool.length) = roundT pool day L) := Lib.hid (by rw [List.take_length]; rfl)
              have HDN : Hid (FrD roots pool st day (linkF day L (pool.take pool.length)) (r + 1) (decide ((linkF day L (pool.take pool.length)).length ≠ L.length))) := Lib.hid (by rw [HRD.out]; exact frD_next HD.out)
              have HIN := Lib.hid (HIK.out.up (rd' := ((r + 1 : Nat) : Int)) (by omega))
              obtain ⟨m9, hm9⟩ : ∃ m9, decide ((linkF day L (pool.take pool.length)).length ≠ L.length) = m9 := ⟨_, rfl⟩
              rw [hm9] at HDN
              rw [hm9]
              clear HRD
              clear hk hlt HIK HI hm9
              go_wp2_with fail
              go_roundw
              case rel => exact ⟨r + 1, m9, _, R', by go_num, rfl, by omega, by omega, Z, HIN, HDN⟩
              case measure => simp [intOf]; omega
            case pos =>
            obtain ⟨y, hy⟩ : ∃ y, pool[k]? = some y := ⟨_, List.getElem?_eq_getElem hlt⟩
            obtain ⟨b, o, rfl, hbl, hc⟩ := HEL2.out (by omega)
            have hcy := hc k y hy
            have HY := Lib.hid hy
            have HSY := Lib.hid (HS2.out y (List.mem_of_getElem? hy))
            have X := Z.out.ext
            clear hy hc
            have wi1 : IntKind.i64.wrap ((k : Int)) = (k : Int) := IntWalk.i64_in _ (by omega)
            have zi1 : (0 : Int) ≤ (k : Int) := by omega
            have li1 : (k : Int) < (pool.length : Int) := by omega
            have ti1 : ((k : Int)).toNat = k := by omega
            have wk : IntKind.i64.wrap ((k : Int) + 1) = (k : Int) + 1 := IntWalk.i64_in _ (by omega)
            have q0 := (X.cell (p := ⟨b, o + k * 11, none⟩) hbl).trans hcy.1
            have q1 := (X.cell (p := ⟨b, o + k * 11 + 1, none⟩) hbl).trans hcy.2.1
            have q2 := (X.cell (p := ⟨b, o + k * 11 + 2, none⟩) hbl).trans hcy.2.2.1
            have q3 := (X.cell (p := ⟨b, o + k * 11 + 3, none⟩) hbl).trans hcy.2.2.2.1
            have q4 := (X.cell (p := ⟨b, o + k * 11 + 4, none⟩) hbl).trans hcy.2.2.2.2.1
            have q5 := (X.cell (p := ⟨b, o + k * 11 + 5, none⟩) hbl).trans hcy.2.2.2.2.2.1
            have q6 := (X.cell (p := ⟨b, o + k * 11 + 6, none⟩) hbl).trans hcy.2.2.2.2.2.2.1
            have q7 := (X.cell (p := ⟨b, o + k * 11 + 7, none⟩) hbl).trans hcy.2.2.2.2.2.2.2.1
            have q8 := (X.cell (p := ⟨b, o + k * 11 + 8, none⟩) hbl).trans hcy.2.2.2.2.2.2.2.2.1
            have q9 := (X.cell (p := ⟨b, o + k * 11 + 9, none⟩) hbl).trans hcy.2.2.2.2.2.2.2.2.2.1
            have q10 := (X.cell (p := ⟨b, o + k * 11 + 10, none⟩) hbl).trans hcy.2.2.2.2.2.2.2.2.2.2
            clear hcy
            obtain ⟨wn, hwn, en, TN⟩ := nc_alloc wr y
            have HSN := Lib.hid (linkF_snoc day L HY.out)
            have HAP := Lib.hid (linkF_app day L (pool.take k))
            obtain ⟨N, hN⟩ : ∃ N, linkF day L (pool.take k) = N := ⟨_, rfl⟩
            rw [hN] at HSN HAP HIK Z
            rw [hN]
            clear hN
            have HLN := Lib.hid (show N.length ≤ 1000000 by have := HIK.out.bd; omega)
            have HTK : Hid (N.take L.length = L) := Lib.hid (by obtain ⟨t, ht⟩ := HAP.out; rw [ht]; simp)
            have HNL := Lib.hid (show L.length ≤ N.length by obtain ⟨t, ht⟩ := HAP.out; rw [ht]; simp)
            obtain ⟨mb, hmb⟩ : ∃ mb, decide (N.length ≠ L.length) = mb := ⟨_, rfl⟩
            rw [hmb]
            have HMB := Lib.hid hmb
            clear hmb
            go_upto_region 16 with fail
            rw [← hwn]
            clear hwn q0 q1 q2 q3 q4 q5 q6 q7 q8 q9 q10 X
            have HZL := Lib.hid (show R'.length = N.length from Z.out.len)
            have ZN := Lib.hid (Z.out.tr en)
            clear Z en
            obtain ⟨p0, p1, p2, p3, p4, p5, p6, p7, p8, p9, p10⟩ := (TN).cells
            have pf0 := (TN).frozen 0
            have pf1 := (TN).frozen 1
            have pf2 := (TN).frozen 2
            have pf3 := (TN).frozen 3
            have pf4 := (TN).frozen 4
            have pf5 := (TN).frozen 5
            have pf6 := (TN).frozen 6
            have pf7 := (TN).frozen 7
            have pf8 := (TN).frozen 8
            have pf9 := (TN).frozen 9
            have pf10 := (TN).frozen 10
            have pl := (TN).lt
            by_cases k2 : y.kind = 2
            case neg =>
              have hb : (y.kind == 2) = false := by simpa using k2
              have HF := Lib.hid (show linkF day L (pool.take (k + 1)) = N by rw [HSN.out]; unfold linkStep; rw [if_neg (fun q => k2 q.1)])
              clear k2
              go_wp2_with fail
              go_roundw
              case rel => exact ⟨k + 1, by omega, by go_num, by rw [HF.out, HMB.out], R', by rw [HF.out]; exact ZN, by rw [HF.out]; exact HIK⟩
              case measure => simp [intOf]; omega
            have hb : (y.kind == 2) = true := by simpa using k2
            have K2 := Lib.hid k2
            clear k2
            go_wp2_with fail
            refine (ZN.out.before y L.length HNL.out HLN.out HIK.out.srt HIK.out.sm HSY.out HE.out).mono ?_
            rintro e w2 ⟨rfl, b2⟩
            rw [HTK.out]
            have TN2 := TN.ext b2
            have Z2 := Lib.hid (ZN.out.tr b2)
            clear p0 pf0 p1 pf1 p2 pf2 p3 pf3 p4 pf4 p5 pf5 p6 pf6 p7 pf7 p8 pf8 p9 pf9 p10 pf10 pl
            clear TN ZN b2
            by_cases an : (L.any fun a => folB day a y) = true
            case neg =>
              have hz : ¬ ((0 : Int) ≤ befI day L y) := fun q => an (bef_ge.1 q)
              have hz2 : befI day L y < 0 := by omega
              have HF := Lib.hid (show linkF day L (pool.take (k + 1)) = N by rw [HSN.out]; unfold linkStep; rw [if_neg (fun q => an q.2.2)])
              clear an
              generalize befI day L y = z at *
              go_wp2_with fail
              go_roundw
              case rel => exact ⟨k + 1, by omega, by go_num, by rw [HF.out, HMB.out], R', by rw [HF.out]; exact Z2, by rw [HF.out]; exact HIK⟩
              case measure => simp [intOf]; omega
            have hz : (0 : Int) ≤ befI day L y := bef_ge.2 an
            have AN := Lib.hid an
            clear an
            generalize befI day L y = z at *
            obtain ⟨p0, p1, p2, p3, p4, p5, p6, p7, p8, p9, p10⟩ := (TN2).cells
            have pf0 := (TN2).frozen 0
            have pf1 := (TN2).frozen 1
            have pf2 := (TN2).frozen 2
            have pf3 := (TN2).frozen 3
            have pf4 := (TN2).frozen 4
            have pf5 := (TN2).frozen 5
            have pf6 := (TN2).frozen 6
            have pf7 := (TN2).frozen 7
            have pf8 := (TN2).frozen 8
            have pf9 := (TN2).frozen 9
            have pf10 := (TN2).frozen 10
            have pl := (TN2).lt
            go_wp2_with fail
            refine (Z2.out.add (Nat.le_refl _) y (r : Int) HLN.out).mono ?_
            rintro e w4 ⟨rfl, Z4⟩
            have HZ4 := Lib.hid Z4
            clear p0 pf0 p1 pf1 p2 pf2 p3 pf3 p4 pf4 p5 pf5 p6 pf6 p7 pf7 p8 pf8 p9 pf9 p10 pf10 pl
            clear TN2 Z2 Z4
            by_cases hm : y ∈ N
            · have HF := Lib.hid (show linkF day L (pool.take (k + 1)) = N by rw [HSN.out]; unfold linkStep; rw [if_neg (fun q => q.2.1 hm)])
              have HA1 := Lib.hid (show addL N y = N from if_pos hm)
              have HA2 := Lib.hid (show addR N R' y (r : Int) = R' from if_pos hm)
              have hd : decide (y ∉ N) = false := decide_eq_false (fun q => q hm)
              rw [hd]
              clear hm hd
              go_wp2_with fail
              go_roundw
              case rel => exact ⟨k + 1, by omega, by go_num, by rw [HF.out, HMB.out], R', by have := HZ4.out; rw [HA1.out, HA2.out] at this; rw [HF.out]; exact this, by rw [HF.out]; exact HIK⟩
              case measure => simp [intOf]; omega
            · have HF := Lib.hid (show linkF day L (pool.take (k + 1)) = N ++ [y] by rw [HSN.out]; unfold linkStep; rw [if_pos ⟨K2.out, hm, AN.out⟩])
              have HA1 := Lib.hid (show addL N y = N ++ [y] from if_neg hm)
              have HA2 := Lib.hid (show addR N R' y (r : Int) = R' ++ [(r : Int)] from if_neg hm)
              have HIA := Lib.hid (HIK.out.app (c := y) HZL.out ⟨fun q => by omega, fun q => by rw [K2.out] at q; cases q⟩ HSY.out (app_bd (List.mem_of_getElem? HY.out) hm HIK.out.bd))
              have hd : decide (y ∉ N) = true := decide_eq_true hm
              have HMT := Lib.hid (show decide ((N ++ [y]).length ≠ L.length) = true from decide_eq_true (by rw [List.length_append]; simp only [List.length_cons, List.length_nil]; have := HNL.out; omega))
              rw [hd]
              clear hm hd
              go_wp2_with fail
              go_roundw
              case rel => exact ⟨k + 1, by omega, by go_num, by rw [HF.out, HMT.out], _, by have := HZ4.out; rw [HA1.out, HA2.out] at this; rw [HF.out]; exact this, by rw [HF.out]; exact HIA⟩
              case measure => simp [intOf]; omega
    case pos =>
    obtain ⟨y, hy⟩ : ∃ y, roots[k]? = some y := ⟨_, List.getElem?_eq_getElem hlt⟩
    obtain ⟨b, o, rfl, hbl, hc⟩ := HEL1.out (by omega)
    have hcy := hc k y hy
    have HY := Lib.hid hy
    have HSY := Lib.hid (HS1.out y (List.mem_of_getElem? hy))
    have X := Z.out.ext
    clear hy hc
    have wi2 : IntKind.i64.wrap ((k : Int)) = (k : Int) := IntWalk.i64_in _ (by omega)
    have zi2 : (0 : Int) ≤ (k : Int) := by omega
    have li2 : (k : Int) < (roots.length : Int) := by omega
    have ti2 : ((k : Int)).toNat = k := by omega
    have wk : IntKind.i64.wrap ((k : Int) + 1) = (k : Int) + 1 := IntWalk.i64_in _ (by omega)
    have q0 := (X.cell (p := ⟨b, o + k * 11, none⟩) hbl).trans hcy.1
    have q1 := (X.cell (p := ⟨b, o + k * 11 + 1, none⟩) hbl).trans hcy.2.1
    have q2 := (X.cell (p := ⟨b, o + k * 11 + 2, none⟩) hbl).trans hcy.2.2.1
    have q3 := (X.cell (p := ⟨b, o + k * 11 + 3, none⟩) hbl).trans hcy.2.2.2.1
    have q4 := (X.cell (p := ⟨b, o + k * 11 + 4, none⟩) hbl).trans hcy.2.2.2.2.1
    have q5 := (X.cell (p := ⟨b, o + k * 11 + 5, none⟩) hbl).trans hcy.2.2.2.2.2.1
    have q6 := (X.cell (p := ⟨b, o + k * 11 + 6, none⟩) hbl).trans hcy.2.2.2.2.2.2.1
    have q7 := (X.cell (p := ⟨b, o + k * 11 + 7, none⟩) hbl).trans hcy.2.2.2.2.2.2.2.1
    have q8 := (X.cell (p := ⟨b, o + k * 11 + 8, none⟩) hbl).trans hcy.2.2.2.2.2.2.2.2.1
    have q9 := (X.cell (p := ⟨b, o + k * 11 + 9, none⟩) hbl).trans hcy.2.2.2.2.2.2.2.2.2.1
    have q10 := (X.cell (p := ⟨b, o + k * 11 + 10, none⟩) hbl).trans hcy.2.2.2.2.2.2.2.2.2.2
    clear hcy
    obtain ⟨wn, hwn, en, TN⟩ := nc_alloc wr y
    go_upto_region 5 with fail
    rw [← hwn]
    clear hwn q0 q1 q2 q3 q4 q5 q6 q7 q8 q9 q10 X
    have ZN := Lib.hid (Z.out.tr en)
    obtain ⟨p0, p1, p2, p3, p4, p5, p6, p7, p8, p9, p10⟩ := (TN).cells
    have pf0 := (TN).frozen 0
    have pf1 := (TN).frozen 1
    have pf2 := (TN).frozen 2
    have pf3 := (TN).frozen 3
    have pf4 := (TN).frozen 4
    have pf5 := (TN).frozen 5
    have pf6 := (TN).frozen 6
    have pf7 := (TN).frozen 7
    have pf8 := (TN).frozen 8
    have pf9 := (TN).frozen 9
    have pf10 := (TN).frozen 10
    have pl := (TN).lt
    have HSN := Lib.hid (firstT_snoc st day HY.out)
    by_cases c1' : y.st = st
    case neg =>
      have hb : ((bstr y.st).toList == (bstr st).toList) = false := by rw [HQ.out]; exact decide_eq_false c1'
      have HF := Lib.hid (show firstT (roots.take (k + 1)) st day = firstT (roots.take k) st day by rw [HSN.out]; unfold firstStep; rw [if_neg (fun q => c1' q.1.1)])
      clear c1'
      go_wp2_with fail
      go_roundw
      case rel => exact ⟨k + 1, by omega, by go_num, R, by rw [HF.out]; exact ZN, HR0⟩
      case measure => simp [intOf]; omega
    have hb : ((bstr y.st).toList == (bstr st).toList) = true := by rw [HQ.out]; exact decide_eq_true c1'
    have C1 := Lib.hid c1'
    clear c1'
    go_wp2_with fail
    refine (HON.out y HSY.out _).mono ?_
    rintro e w2 ⟨rfl, b2⟩
    have TN2 := TN.ext b2
    have Z2 := Lib.hid (ZN.out.tr b2)
    clear p0 pf0 p1 pf1 p2 pf2 p3 pf3 p4 pf4 p5 pf5 p6 pf6 p7 pf7 p8 pf8 p9 pf9 p10 pf10 pl
    clear TN ZN b2
    by_cases c2' : onN y day = 0
    case neg =>
      have hb2 : (onN y day == 0) = false := by simpa using c2'
      have HF := Lib.hid (show firstT (roots.take (k + 1)) st day = firstT (roots.take k) st day by rw [HSN.out]; unfold firstStep; rw [if_neg (fun q => c2' q.1.2.1)])
      clear c2'
      go_wp2_with fail
      go_roundw
      case rel => exact ⟨k + 1, by omega, by go_num, R, by rw [HF.out]; exact Z2, HR0⟩
      case measure => simp [intOf]; omega
    have hb2 : (onN y day == 0) = true := by simpa using c2'
    have C2 := Lib.hid c2'
    clear c2'
    obtain ⟨p0, p1, p2, p3, p4, p5, p6, p7, p8, p9, p10⟩ := (TN2).cells
    have pf0 := (TN2).frozen 0
    have pf1 := (TN2).frozen 1
    have pf2 := (TN2).frozen 2
    have pf3 := (TN2).frozen 3
    have pf4 := (TN2).frozen 4
    have pf5 := (TN2).frozen 5
    have pf6 := (TN2).frozen 6
    have pf7 := (TN2).frozen 7
    have pf8 := (TN2).frozen 8
    have pf9 := (TN2).frozen 9
    have pf10 := (TN2).frozen 10
    have pl := (TN2).lt
    go_wp2_with fail
    refine (HRT.out y HSY.out _ Z2.out.ext).mono ?_
    rintro e w3 ⟨rfl, b3⟩
    have TN3 := TN2.ext b3
    have Z3 := Lib.hid (Z2.out.tr b3)
    clear p0 pf0 p1 pf1 p2 pf2 p3 pf3 p4 pf4 p5 pf5 p6 pf6 p7 pf7 p8 pf8 p9 pf9 p10 pf10 pl
    clear TN2 Z2 b3
    obtain ⟨rb, hrb⟩ : ∃ rb, rtN y = rb := ⟨_, rfl⟩
    rw [hrb]
    cases rb
    · have HF := Lib.hid (show firstT (roots.take (k + 1)) st day = firstT (roots.take k) st day by rw [HSN.out]; unfold firstStep; rw [if_neg (fun q => by have := q.1.2.2; rw [hrb] at this; cases this)])
      clear hrb
      go_wp2_with fail
      go_roundw
      case rel => exact ⟨k + 1, by omega, by go_num, R, by rw [HF.out]; exact Z3, HR0⟩
      case measure => simp [intOf]; omega
    have HF := Lib.hid (show firstT (roots.take (k + 1)) st day = addL (firstT (roots.take k) st day) y by
      rw [HSN.out]
      unfold firstStep addL
      by_cases hm : y ∈ firstT (roots.take k) st day
      · rw [if_neg (fun q => q.2 hm), if_pos hm]
      · rw [if_pos ⟨⟨C1.out, C2.out, hrb⟩, hm⟩, if_neg hm])
    clear hrb
    obtain ⟨p0, p1, p2, p3, p4, p5, p6, p7, p8, p9, p10⟩ := (TN3).cells
    have pf0 := (TN3).frozen 0
    have pf1 := (TN3).frozen 1
    have pf2 := (TN3).frozen 2
    have pf3 := (TN3).frozen 3
    have pf4 := (TN3).frozen 4
    have pf5 := (TN3).frozen 5
    have pf6 := (TN3).frozen 6
    have pf7 := (TN3).frozen 7
    have pf8 := (TN3).frozen 8
    have pf9 := (TN3).frozen 9
    have pf10 := (TN3).frozen 10
    have pl := (TN3).lt
    go_wp2_with fail
    refine (Z3.out.add (Nat.le_refl _) y 0 (by have h1 := firstT_len st day (roots.take k); have h2 := List.length_take_le k roots; rw [List.length_take] at h1; omega)).mono ?_
    rintro e w4 ⟨rfl, Z4⟩
    have HZ4 := Lib.hid Z4
    have HR4 : Hid (∀ x ∈ addR (firstT (roots.take k) st day) R y 0, x = 0) := Lib.hid (by
      unfold addR
      split
      · exact HR0.out
      · intro x hx
        rcases List.mem_append.1 hx with q | q
        · exact HR0.out x q
        · exact List.mem_singleton.1 q)
    clear p0 pf0 p1 pf1 p2 pf2 p3 pf3 p4 pf4 p5 pf5 p6 pf6 p7 pf7 p8 pf8 p9 pf9 p10 pf10 pl
    clear TN3 Z3 Z4
    go_wp2_with fail
    go_roundw
    case rel => exact ⟨k + 1, by omega, by go_num, _, by rw [HF.out]; exact HZ4, HR4⟩
    case measure => simp [intOf]; omega
end Go.Proofs.YtkjplpmogfmhkaaGreatDoor
namespace Go.Proofs.YtkjplpmogfmhkaaGreatDoor
open Go.RowKit
set_option linter.unusedVariables false
set_option maxRecDepth 100000
/-- A slice that reads as certificates is returned. -/
def RetN (w : World) (l : List NC) (e : Ending) (w' : World) : Prop := Ext w w' ∧ ∃ (A : Option Addr) (c : Nat), e = .returned (.slice A l.length c) ∧ RdN w' (.slice A l.length c) l
set_option maxHeartbeats 2000000 in
theorem trusted_any {v1 v2 : Value} {roots pool : List NC} (st : List UInt8) (day : Int) (w : World) (h1 : RdN w v1 roots) (h2 : RdN w v2 pool) (hs1 : smL roots) (hs2 : smL pool) (hl : roots.length + pool.length ≤ 900000) (E : KTab w 1) :
    Calls Tryz.prog 41 #[v1, v2, .string (bstr st), .int .i64 day] w (RetN w (trustT roots pool st day)) := by
  have HF := Lib.hid (find_any st day w h1 h2 hs1 hs2 hl E)
  clear h1 h2 hs1 hs2 E
  go_enter Tryz.func41, Tryz.ntmps41
  go_wp2_with fail
  refine HF.out.mono ?_
  rintro e w2 ⟨x2, S, u1, u2, R, rfl, hS, zs, rd, hI⟩
  obtain ⟨B1, d1, B2, d2, rfl, rfl, _⟩ := zs.forms
  have HR := Lib.hid zs.own1.rd
  have HX := Lib.hid x2
  obtain ⟨s0, s1, s2⟩ := zs.cells
  have sl := zs.lt
  clear zs hI x2 hS
  go_wp2_with fail
  go_ret
  exact ⟨HX.out, B1, d1, rfl, HR.out⟩
end Go.Proofs.YtkjplpmogfmhkaaGreatDoor
namespace Go.Proofs.YtkjplpmogfmhkaaGreatDoor
open Go.RowKit
set_option linter.unusedVariables false
set_option maxRecDepth 100000
theorem ls_one (w : World) (c : NC) : RdK (w.alloc (.cells (ncCells c).toArray 56)) 11 (.slice (some ⟨w.heap.size, 0, none⟩) 1 1) (ncCells c) := by
  have := RdK.lit w 11 (ncCells c).toArray 56 1 rfl (by unfold maxLen; omega)
  simpa using this
end Go.Proofs.YtkjplpmogfmhkaaGreatDoor
namespace Go.Proofs.YtkjplpmogfmhkaaGreatDoor
open Go.RowKit
set_option linter.unusedVariables false
set_option maxRecDepth 100000
/-- A list in a slot. -/
def GSl (l : List NC) : VPred := fun v w => ∃ A n c, v = .slice A n c ∧ n = l.length ∧ RdN w (.slice A n c) l
theorem stable_GSl (l : List NC) : StableP (GSl l) := fun v w w' e ⟨A, n, c, h1, h2, h3⟩ => ⟨A, n, c, h1, h2, RdK.ext h3 e⟩
theorem RetN.gsl {w : World} {l : List NC} {e : Ending} {w' : World} (h : RetN w l e w') : ∃ v, e = .returned v ∧ Ext w w' ∧ GSl l v w' := by
  obtain ⟨h1, A, c, h2, h3⟩ := h
  exact ⟨_, h2, h1, A, _, c, rfl, rfl, h3⟩
end Go.Proofs.YtkjplpmogfmhkaaGreatDoor
