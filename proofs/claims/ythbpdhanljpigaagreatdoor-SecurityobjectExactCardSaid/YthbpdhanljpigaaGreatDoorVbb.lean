/- Parts To Xc of the proof. -/
import Derived.Test.YthbpdhanljpigaaGreatDoorVao
import Derived.Test.YthbpdhanljpigaaGreatDoorVah
import Derived.Test.YthbpdhanljpigaaGreatDoorVag
import Derived.Lib.BufferWrite
import Derived.Lib.SlBuf
import Derived.Lib.SmallJoins
import Derived.OwnWalk
import Derived.Laws.CopyOwn
import Derived.Lib.ConvBytes
import Derived.Test.YthbpdhanljpigaaGreatDoorVba
import Derived.Test.YthbpdhanljpigaaGreatDoorVaw
namespace Go.Proofs.YthbpdhanljpigaaGreatDoor
open Go.RowKit
set_option linter.unusedVariables false
set_option maxRecDepth 100000
/-- New bytes, in blocks from B on. -/
def GS (B : Nat) (l : List UInt8) : VPred := fun v w => RdS (fun b => B ≤ b) w v (bvs l)
/-- A new object by value, whose data lie in blocks from B on. -/
def NdG (B d : Nat) (t : Nd) : VPred := fun v w => ∃ (A1 : Option Addr) (n1 c1 : Nat) (A2 : Option Addr) (n2 c2 : Nat), v = .agg #[.int .i64 t.tag, .slice A1 n1 c1, .slice A2 n2 c2] ∧ RdS (fun b => B ≤ b) w (.slice A1 n1 c1) (bvs t.val) ∧ NdsS (fun b => B ≤ b) d w (.slice A2 n2 c2) t.kids
/-- New objects. -/
def NdsG (B d : Nat) (ts : List Nd) : VPred := fun v w => NdsS (fun b => B ≤ b) d w v ts
theorem stable_GS (B : Nat) (l : List UInt8) : StableP (GS B l) := fun v w w' e h => h.map fun b hb hlt => ⟨hb, e.block b hlt⟩
theorem stable_NdsG (B d : Nat) (ts : List Nd) : StableP (NdsG B d ts) := fun v w w' e h => h.map fun b hb hlt => ⟨hb, e.block b hlt⟩
theorem stable_NdG (B d : Nat) (t : Nd) : StableP (NdG B d t) := fun v w w' e ⟨A1, n1, c1, A2, n2, c2, h1, h2, h3⟩ => ⟨A1, n1, c1, A2, n2, c2, h1, h2.map fun b hb hlt => ⟨hb, e.block b hlt⟩, h3.map fun b hb hlt => ⟨hb, e.block b hlt⟩⟩
theorem GS.slice {B : Nat} {l : List UInt8} {v : Value} {w : World} (h : GS B l v w) : ∃ A n c, v = .slice A n c := by
  obtain ⟨A, n, c, h, _⟩ := h
  exact ⟨A, n, c, h⟩
theorem NdsS.slice {S : Nat → Prop} {d : Nat} {ts : List Nd} {v : Value} {w : World} (h : NdsS S d w v ts) : ∃ A n c, v = .slice A n c := by
  cases d with
  | zero => obtain ⟨_, A, c, h, _⟩ := h; exact ⟨A, 0, c, h⟩
  | succ d => obtain ⟨A, n, c, h, _⟩ := h; exact ⟨A, n, c, h⟩
theorem run_buildNd2 (W : World) (t : Int) (A : Option Addr) (n c : Nat) : (Instr.build 83 [(0, .int .i64 t), (2, .slice A n c)].toArray).run Tryz.prog W = .ok (.agg #[.int .i64 t, .slice none 0 0, .slice A n c]) W := run_build W _ _ _ (by kernel_rfl)
theorem run_cons {B d : Nat} (W : World) (t : Int) {v : Value} {ts : List Nd} (h : NdsG B d ts v W) : ∃ v' w'', (Instr.build 83 [(0, .int .i64 t), (2, v)].toArray).run Tryz.prog W = .ok v' w'' ∧ Ext W w'' ∧ NdG B d (.mk t [] ts) v' w'' := by
  obtain ⟨A, n, c, rfl⟩ := NdsS.slice h
  exact ⟨_, _, run_buildNd2 W t A n c, Below.refl _ _, _, _, _, _, _, _, rfl, RdS.nil _, h⟩
theorem ndsS_lit {B d : Nat} {W : World} (cs : List Value) (ts : List Nd) (n : Nat) (hn : n = ts.length) (hm : n ≤ 100) (h : NdCells (fun b => B ≤ b) d W cs ts) (hB : B ≤ W.heap.size) : NdsS (fun b => B ≤ b) (d + 1) (W.alloc (.cells cs.toArray 83)) (.slice (some ⟨W.heap.size, 0, none⟩) n n) ts := by
  have e : Ext W (W.alloc (.cells cs.toArray 83)) := (Below.refl _ _).alloc (Nat.le_refl _) _
  have ho := OwnK.lit W 3 cs.toArray 83 n (by rw [hn, ← h.1]; simp) (by unfold maxLen; omega)
  exact NdsS.mk ho (h.map fun b hb hlt => ⟨hb, e.block b hlt⟩) (fun b hb => hb) (fun b hb => Nat.le_trans hB hb)
set_option maxHeartbeats 1000000 in
theorem run_bs1 (W : World) (z0 : Int) (a0 b0 : Option Addr) (n0 c0 m0 d0 : Nat) : (Instr.buildSlice 66 1 [(0, .agg #[.int .i64 z0, .slice a0 n0 c0, .slice b0 m0 d0])].toArray).run Tryz.prog W = .ok (.slice (some ⟨W.heap.size, 0, none⟩) 1 1) (W.alloc (.cells #[.int .i64 z0, .slice a0 n0 c0, .slice b0 m0 d0] 83)) := by go_simp
theorem run_nodes1 {B d : Nat} (W : World) (hB : B ≤ W.heap.size) {v0 : Value} {t0 : Nd} (h0 : NdG B d t0 v0 W) : ∃ v' w'', (Instr.buildSlice 66 1 [(0, v0)].toArray).run Tryz.prog W = .ok v' w'' ∧ Ext W w'' ∧ NdsG B (d + 1) [t0] v' w'' := by
  obtain ⟨a0, n0, c0, b0, m0, d0, rfl, r0, k0⟩ := h0
  exact ⟨_, _, run_bs1 W t0.tag a0 b0 n0 c0 m0 d0, (Below.refl _ _).alloc (Nat.le_refl _) _, ndsS_lit [.int .i64 t0.tag, .slice a0 n0 c0, .slice b0 m0 d0] [t0] 1 rfl (by omega) ((NdCells.nil _ d W).snoc r0 k0) hB⟩
set_option maxHeartbeats 1000000 in
theorem run_bs2 (W : World) (z0 : Int) (a0 b0 : Option Addr) (n0 c0 m0 d0 : Nat) (z1 : Int) (a1 b1 : Option Addr) (n1 c1 m1 d1 : Nat) : (Instr.buildSlice 66 2 [(0, .agg #[.int .i64 z0, .slice a0 n0 c0, .slice b0 m0 d0]), (1, .agg #[.int .i64 z1, .slice a1 n1 c1, .slice b1 m1 d1])].toArray).run Tryz.prog W = .ok (.slice (some ⟨W.heap.size, 0, none⟩) 2 2) (W.alloc (.cells #[.int .i64 z0, .slice a0 n0 c0, .slice b0 m0 d0, .int .i64 z1, .slice a1 n1 c1, .slice b1 m1 d1] 83)) := by go_simp
theorem run_nodes2 {B d : Nat} (W : World) (hB : B ≤ W.heap.size) {v0 v1 : Value} {t0 t1 : Nd} (h0 : NdG B d t0 v0 W) (h1 : NdG B d t1 v1 W) : ∃ v' w'', (Instr.buildSlice 66 2 [(0, v0), (1, v1)].toArray).run Tryz.prog W = .ok v' w'' ∧ Ext W w'' ∧ NdsG B (d + 1) [t0, t1] v' w'' := by
  obtain ⟨a0, n0, c0, b0, m0, d0, rfl, r0, k0⟩ := h0
  obtain ⟨a1, n1, c1, b1, m1, d1, rfl, r1, k1⟩ := h1
  exact ⟨_, _, run_bs2 W t0.tag a0 b0 n0 c0 m0 d0 t1.tag a1 b1 n1 c1 m1 d1, (Below.refl _ _).alloc (Nat.le_refl _) _, ndsS_lit [.int .i64 t0.tag, .slice a0 n0 c0, .slice b0 m0 d0, .int .i64 t1.tag, .slice a1 n1 c1, .slice b1 m1 d1] [t0, t1] 2 rfl (by omega) (((NdCells.nil _ d W).snoc r0 k0).snoc r1 k1) hB⟩
theorem RetB.gs {w w' : World} {B : Nat} {l : List UInt8} {e : Ending} (h : RetB w l e w') (hB : B ≤ w.heap.size) : ∃ v, e = .returned v ∧ Ext w w' ∧ GS B l v w' := by
  obtain ⟨A, n, c, h1, h2, h3, h4⟩ := h
  exact ⟨_, h1, h4, RdS.of h3 fun b hb => Nat.le_trans hB hb⟩
theorem gs_lit {B : Nat} (W : World) (hB : B ≤ W.heap.size) (cs : Array Value) (l : List UInt8) (n : Nat) (hn : n = l.length) (hm : n ≤ 100) (hc : cs.toList = bvs l) : GS B l (.slice (some ⟨W.heap.size, 0, none⟩) n n) (W.alloc (.cells cs 5)) := by
  have h := Own.lit W cs 5 n (by rw [hn, ← bvs_length, ← hc]; simp) (by unfold maxLen; omega)
  rw [hc] at h
  exact RdS.of h fun b hb => Nat.le_trans hB hb
end Go.Proofs.YthbpdhanljpigaaGreatDoor
namespace Go.Proofs.YthbpdhanljpigaaGreatDoor
open Go.RowKit
set_option linter.unusedVariables false
set_option maxRecDepth 100000
theorem run_conv_u8 (n : Int) (W : World) : (convert 3 5 (.int .i64 n)).run Tryz.prog W = .ok (.int .u8 (n % 256)) W := by
  have h : IntKind.u8.wrap n = n % 256 := by rw [IntKind.wrap_u8]
  rw [← h]
  go_simp
theorem cons02_any (t : Int) (A : Option Addr) (n c : Nat) (w : World) : Calls Tryz.prog 59 #[.int .i64 t, .slice A n c] w (RetQ w (.agg #[.int .i64 t, .slice none 0 0, .slice A n c])) := by
  go_enter Tryz.func59, Tryz.ntmps59
  go_wp2_with fail
  refine bodyPost_ret (v := .agg #[.int .i64 t, .slice none 0 0, .slice A n c]) ?_ rfl ⟨rfl, ?_⟩
  · simp [results, Tryz.results59, go_sem]
  · exact (Below.refl _ _).alloc (Nat.le_refl _) _
set_option maxHeartbeats 1000000 in
/-- A leaf with a copy of the bytes. -/
theorem prim02_any {B d : Nat} (t : Int) {v : Value} {l : List UInt8} (w : World) (hB : B ≤ w.heap.size) (hv : Rd w v (bvs l)) (hl : l.length ≤ 140737488355328) : Calls Tryz.prog 60 #[.int .i64 t, v] w fun e w' => ∃ u, e = .returned u ∧ Ext w w' ∧ NdG B d (leafN t l) u w' := by
  obtain ⟨wa, hwa⟩ : ∃ wa, w.alloc (.cells #[.int .i64 0, .slice none 0 0, .slice none 0 0] 83) = wa := ⟨_, rfl⟩
  have x0 : Ext w wa := by rw [← hwa]; exact (Below.refl _ _).alloc (Nat.le_refl _) _
  have hc : C3 wa w.heap.size (.int .i64 0) (.slice none 0 0) (.slice none 0 0) := by rw [← hwa]; exact C3.new w (.int .i64 0) (.slice none 0 0) (.slice none 0 0)
  have hs := hc.lt
  have HR := Lib.hid (hv.ext x0)
  obtain ⟨A, n, c, rfl, hn, _⟩ := hv.bytes
  subst hn
  clear hv
  go_enter Tryz.func60, Tryz.ntmps60
  go_wp2_with (refine appN (ys := l) (w0 := wa) (B := wa.heap.size) HR.out (Below.refl _ _) hl (Nat.le_refl _) rfl rfl rfl rfl ?_; intro A6 n6 c6 w6 hn6 o6 b6 g6
               have b6 : Ext wa w6 := b6
               have hc6 := hc.ex b6
               have hl6 := hc6.lt
               obtain ⟨z0, z1, z2, zf0, zf1, zf2⟩ := hc6.cells)
  obtain ⟨q0, q1, q2, _, _, _⟩ := (hc6.set3 (.int .i64 t) (.slice A6 n6 c6) (.slice none 0 0)).cells
  have ro := (RdS.of o6 (S := fun b => wa.heap.size ≤ b) (fun b h => h)).map (S' := fun b => B ≤ b) (w' := Go.Proofs.YthbpdhanljpigaaGreatDoor.set3 w6 w.heap.size (.int .i64 t) (.slice A6 n6 c6) (.slice none 0 0)) (fun b hb _ => ⟨by have := x0.size; omega, set3_block (by omega)⟩)
  refine bodyPost_ret (v := .agg #[.int .i64 t, .slice A6 n6 c6, .slice none 0 0]) ?_ rfl ⟨_, rfl, ?_, _, _, _, _, _, _, rfl, ro, NdsS.nil _ _⟩
  · simp [results, Tryz.results60, go_sem, q0, q1, q2]
  · exact (((x0.tr b6).setCell (p := ⟨w.heap.size, 0, none⟩) (Nat.le_refl _) _).setCell (p := ⟨w.heap.size, 1, none⟩) (Nat.le_refl _) _).setCell (p := ⟨w.heap.size, 2, none⟩) (Nat.le_refl _) _
set_option maxHeartbeats 1000000 in
/-- A leaf of one byte. -/
theorem byteN_any {B d : Nat} (n : Int) (w : World) (hB : B ≤ w.heap.size) : Calls Tryz.prog 56 #[.int .i64 n] w fun e w' => ∃ u, e = .returned u ∧ Ext w w' ∧ NdG B d (leafN 2 [u8 n]) u w' := by
  have hu := fun W => run_conv_u8 n W
  obtain ⟨wa, hwa⟩ : ∃ wa, w.alloc (.cells #[.int .i64 0, .slice none 0 0, .slice none 0 0] 83) = wa := ⟨_, rfl⟩
  have x0 : Ext w wa := by rw [← hwa]; exact (Below.refl _ _).alloc (Nat.le_refl _) _
  have hc : C3 wa w.heap.size (.int .i64 0) (.slice none 0 0) (.slice none 0 0) := by rw [← hwa]; exact C3.new w (.int .i64 0) (.slice none 0 0) (.slice none 0 0)
  have hs := hc.lt
  obtain ⟨wb, hwb⟩ : ∃ wb, wa.alloc (.cells #[.int .u8 (n % 256)] 5) = wb := ⟨_, rfl⟩
  have x1 : Ext wa wb := by rw [← hwb]; exact (Below.refl _ _).alloc (Nat.le_refl _) _
  have hc1 := hc.ex x1
  have hl1 := hc1.lt
  have g1 : GS B [u8 n] (.slice (some ⟨wa.heap.size, 0, none⟩) 1 1) wb := by
    rw [← hwb]
    exact gs_lit wa (Nat.le_trans hB x0.size) _ [u8 n] 1 rfl (by omega) (by simp [bvs, bv_u8])
  have G1 := Lib.hid g1
  obtain ⟨z0, z1, z2, zf0, zf1, zf2⟩ := hc1.cells
  have HNE := Lib.hid (show wa.heap.size ≠ w.heap.size by omega)
  clear g1 hc
  go_enter Tryz.func56, Tryz.ntmps56
  go_wp2_with fail
  obtain ⟨q0, q1, q2, _, _, _⟩ := (hc1.set3 (.int .i64 2) (.slice (some ⟨wa.heap.size, 0, none⟩) 1 1) (.slice none 0 0)).cells
  have ro : GS B [u8 n] (.slice (some ⟨wa.heap.size, 0, none⟩) 1 1) (Go.Proofs.YthbpdhanljpigaaGreatDoor.set3 wb w.heap.size (.int .i64 2) (.slice (some ⟨wa.heap.size, 0, none⟩) 1 1) (.slice none 0 0)) := by
    obtain ⟨A1, n1, c1, e, h2, h3, h4, h5⟩ := G1.out
    refine ⟨A1, n1, c1, e, h2, h3, h4, fun h0 => ?_⟩
    obtain ⟨b, o, q1, q2, q3⟩ := h5 h0
    injection e with e _ _
    rw [q1] at e
    injection e with e
    injection e with e _
    exact ⟨b, o, q1, q2, fun j u hu => (World.cell?_of_block (set3_block (fun h => HNE.out (e.trans h)))).trans (q3 j u hu)⟩
  refine bodyPost_ret (v := .agg #[.int .i64 2, .slice (some ⟨wa.heap.size, 0, none⟩) 1 1, .slice none 0 0]) ?_ rfl ⟨_, rfl, ?_, _, _, _, _, _, _, rfl, ro, NdsS.nil _ _⟩
  · simp [results, Tryz.results56, go_sem, q0, q1, q2]
  · exact (((x0.tr x1).setCell (p := ⟨w.heap.size, 0, none⟩) (Nat.le_refl _) _).setCell (p := ⟨w.heap.size, 1, none⟩) (Nat.le_refl _) _).setCell (p := ⟨w.heap.size, 2, none⟩) (Nat.le_refl _) _
end Go.Proofs.YthbpdhanljpigaaGreatDoor
