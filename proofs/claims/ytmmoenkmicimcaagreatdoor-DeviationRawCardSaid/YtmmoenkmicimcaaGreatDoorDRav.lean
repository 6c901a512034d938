/- Parts To Td Tg Ti Nb Zc Nu Nv Ng Ni Rw Dc Sl Nh of the proof. -/
import Derived.Test.YtmmoenkmicimcaaGreatDoorDRap
import Derived.Test.YtmmoenkmicimcaaGreatDoorDRar
import Derived.Test.YtmmoenkmicimcaaGreatDoorDRau
import Derived.Test.YtmmoenkmicimcaaGreatDoorDRao
import Derived.Test.YtmmoenkmicimcaaGreatDoorDRai
import Derived.Test.YtmmoenkmicimcaaGreatDoorDRaa
import Derived.Test.YtmmoenkmicimcaaGreatDoorDRas
import Derived.Test.YtmmoenkmicimcaaGreatDoorDRat
import Derived.Test.YtmmoenkmicimcaaGreatDoorDRaj
namespace Go.Proofs.YtmmoenkmicimcaaGreatDoor
open Go.RowKit
set_option linter.unusedVariables false
set_option maxRecDepth 100000
/-- New bytes, in blocks from B on. -/
def GS (B : Nat) (l : List UInt8) : VPred := fun v w => RdS (fun b => B ≤ b) w v (bvs l)
/-- A new object by value, whose data lie in blocks from B on. -/
def NdG (B d : Nat) (t : Nd) : VPred := fun v w => ∃ (A1 : Option Addr) (n1 c1 : Nat) (A2 : Option Addr) (n2 c2 : Nat), v = .agg #[.int .i64 t.tag, .slice A1 n1 c1, .slice A2 n2 c2] ∧ RdS (fun b => B ≤ b) w (.slice A1 n1 c1) (bvs t.val) ∧ NdsS (fun b => B ≤ b) d w (.slice A2 n2 c2) t.kids
/-- New objects. -/
def NdsG (B d : Nat) (ts : List Nd) : VPred := fun v w => NdsS (fun b => B ≤ b) d w v ts
theorem stable_GS (B : Nat) (l : List UInt8) : StableP (GS B l) := fun v w w' e h => h.map fun b hb hlt => ⟨hb, e.block b hlt⟩
theorem stable_NdsG (B d : Nat) (ts : List Nd) : StableP (NdsG B d ts) := fun v w w' e h => h.map fun b hb hlt => ⟨hb, e.block b hlt⟩
theorem stable_NdG (B d : Nat) (t : Nd) : StableP (NdG B d t) := fun v w w' e ⟨A1, n1, c1, A2, n2, c2, h1, h2, h3⟩ => ⟨A1, n1, c1, A2, n2, c2, h1, h2.map fun b hb hlt => ⟨hb, e.block b hlt⟩, h3.map fun b hb hlt => ⟨hb, e.block b hlt⟩⟩
theorem GS.slice {B : Nat} {l : List UInt8} {v : Value} {w : World} (h : GS B l v w) : ∃ A n c, v = .slice A n c := by
  obtain ⟨A, n, c, h, _⟩ := h
  exact ⟨A, n, c, h⟩
theorem NdsS.slice {S : Nat → Prop} {d : Nat} {ts : List Nd} {v : Value} {w : World} (h : NdsS S d w v ts) : ∃ A n c, v = .slice A n c := by
  cases d with
  | zero => obtain ⟨_, A, c, h, _⟩ := h; exact ⟨A, 0, c, h⟩
  | succ d => obtain ⟨A, n, c, h, _⟩ := h; exact ⟨A, n, c, h⟩
theorem run_leaf {B d : Nat} (W : World) (t : Int) {v : Value} {l : List UInt8} (h : GS B l v W) : ∃ v' w'', (Instr.build 94 [(0, .int .i64 t), (1, v)].toArray).run Tryz.prog W = .ok v' w'' ∧ Ext W w'' ∧ NdG B d (leafN t l) v' w'' := by
  obtain ⟨A, n, c, rfl⟩ := h.slice
  exact ⟨_, _, run_buildNd W t A n c, Below.refl _ _, _, _, _, _, _, _, rfl, h, NdsS.nil _ _⟩
theorem run_buildNd2 (W : World) (t : Int) (A : Option Addr) (n c : Nat) : (Instr.build 94 [(0, .int .i64 t), (2, .slice A n c)].toArray).run Tryz.prog W = .ok (.agg #[.int .i64 t, .slice none 0 0, .slice A n c]) W := run_build W _ _ _ (by kernel_rfl)
theorem run_cons {B d : Nat} (W : World) (t : Int) {v : Value} {ts : List Nd} (h : NdsG B d ts v W) : ∃ v' w'', (Instr.build 94 [(0, .int .i64 t), (2, v)].toArray).run Tryz.prog W = .ok v' w'' ∧ Ext W w'' ∧ NdG B d (.mk t [] ts) v' w'' := by
  obtain ⟨A, n, c, rfl⟩ := NdsS.slice h
  exact ⟨_, _, run_buildNd2 W t A n c, Below.refl _ _, _, _, _, _, _, _, rfl, RdS.nil _, h⟩
theorem ndsS_lit {B d : Nat} {W : World} (cs : List Value) (ts : List Nd) (n : Nat) (hn : n = ts.length) (hm : n ≤ 100) (h : NdCells (fun b => B ≤ b) d W cs ts) (hB : B ≤ W.heap.size) : NdsS (fun b => B ≤ b) (d + 1) (W.alloc (.cells cs.toArray 94)) (.slice (some ⟨W.heap.size, 0, none⟩) n n) ts := by
  have e : Ext W (W.alloc (.cells cs.toArray 94)) := (Below.refl _ _).alloc (Nat.le_refl _) _
  have ho := OwnK.lit W 3 cs.toArray 94 n (by rw [hn, ← h.1]; simp) (by unfold maxLen; omega)
  exact NdsS.mk ho (h.map fun b hb hlt => ⟨hb, e.block b hlt⟩) (fun b hb => hb) (fun b hb => Nat.le_trans hB hb)
set_option maxHeartbeats 1000000 in
theorem run_bs1 (W : World) (z0 : Int) (a0 b0 : Option Addr) (n0 c0 m0 d0 : Nat) : (Instr.buildSlice 92 1 [(0, .agg #[.int .i64 z0, .slice a0 n0 c0, .slice b0 m0 d0])].toArray).run Tryz.prog W = .ok (.slice (some ⟨W.heap.size, 0, none⟩) 1 1) (W.alloc (.cells #[.int .i64 z0, .slice a0 n0 c0, .slice b0 m0 d0] 94)) := by go_simp
set_option maxHeartbeats 1000000 in
theorem run_bs2 (W : World) (z0 : Int) (a0 b0 : Option Addr) (n0 c0 m0 d0 : Nat) (z1 : Int) (a1 b1 : Option Addr) (n1 c1 m1 d1 : Nat) : (Instr.buildSlice 92 2 [(0, .agg #[.int .i64 z0, .slice a0 n0 c0, .slice b0 m0 d0]), (1, .agg #[.int .i64 z1, .slice a1 n1 c1, .slice b1 m1 d1])].toArray).run Tryz.prog W = .ok (.slice (some ⟨W.heap.size, 0, none⟩) 2 2) (W.alloc (.cells #[.int .i64 z0, .slice a0 n0 c0, .slice b0 m0 d0, .int .i64 z1, .slice a1 n1 c1, .slice b1 m1 d1] 94)) := by go_simp
set_option maxHeartbeats 1000000 in
theorem run_bs7 (W : World) (z0 : Int) (a0 b0 : Option Addr) (n0 c0 m0 d0 : Nat) (z1 : Int) (a1 b1 : Option Addr) (n1 c1 m1 d1 : Nat) (z2 : Int) (a2 b2 : Option Addr) (n2 c2 m2 d2 : Nat) (z3 : Int) (a3 b3 : Option Addr) (n3 c3 m3 d3 : Nat) (z4 : Int) (a4 b4 : Option Addr) (n4 c4 m4 d4 : Nat) (z5 : Int) (a5 b5 : Option Addr) (n5 c5 m5 d5 : Nat) (z6 : Int) (a6 b6 : Option Addr) (n6 c6 m6 d6 : Nat) : (Instr.buildSlice 92 7 [(0, .agg #[.int .i64 z0, .slice a0 n0 c0, .slice b0 m0 d0]), (1, .agg #[.int .i64 z1, .slice a1 n1 c1, .slice b1 m1 d1]), (2, .agg #[.int .i64 z2, .slice a2 n2 c2, .slice b2 m2 d2]), (3, .agg #[.int .i64 z3, .slice a3 n3 c3, .slice b3 m3 d3]), (4, .agg #[.int .i64 z4, .slice a4 n4 c4, .slice b4 m4 d4]), (5, .agg #[.int .i64 z5, .slice a5 n5 c5, .slice b5 m5 d5]), (6, .agg #[.int .i64 z6, .slice a6 n6 c6, .slice b6 m6 d6])].toArray).run Tryz.prog W = .ok (.slice (some ⟨W.heap.size, 0, none⟩) 7 7) (W.alloc (.cells #[.int .i64 z0, .slice a0 n0 c0, .slice b0 m0 d0, .int .i64 z1, .slice a1 n1 c1, .slice b1 m1 d1, .int .i64 z2, .slice a2 n2 c2, .slice b2 m2 d2, .int .i64 z3, .slice a3 n3 c3, .slice b3 m3 d3, .int .i64 z4, .slice a4 n4 c4, .slice b4 m4 d4, .int .i64 z5, .slice a5 n5 c5, .slice b5 m5 d5, .int .i64 z6, .slice a6 n6 c6, .slice b6 m6 d6] 94)) := by go_simp
theorem run_nodes7 {B d : Nat} (W : World) (hB : B ≤ W.heap.size) {v0 v1 v2 v3 v4 v5 v6 : Value} {t0 t1 t2 t3 t4 t5 t6 : Nd} (h0 : NdG B d t0 v0 W) (h1 : NdG B d t1 v1 W) (h2 : NdG B d t2 v2 W) (h3 : NdG B d t3 v3 W) (h4 : NdG B d t4 v4 W) (h5 : NdG B d t5 v5 W) (h6 : NdG B d t6 v6 W) : ∃ v' w'', (Instr.buildSlice 92 7 [(0, v0), (1, v1), (2, v2), (3, v3), (4, v4), (5, v5), (6, v6)].toArray).run Tryz.prog W = .ok v' w'' ∧ Ext W w'' ∧ NdsG B (d + 1) [t0, t1, t2, t3, t4, t5, t6] v' w'' := by
  obtain ⟨a0, n0, c0, b0, m0, d0, rfl, r0, k0⟩ := h0
  obtain ⟨a1, n1, c1, b1, m1, d1, rfl, r1, k1⟩ := h1
  obtain ⟨a2, n2, c2, b2, m2, d2, rfl, r2, k2⟩ := h2
  obtain ⟨a3, n3, c3, b3, m3, d3, rfl, r3, k3⟩ := h3
  obtain ⟨a4, n4, c4, b4, m4, d4, rfl, r4, k4⟩ := h4
  obtain ⟨a5, n5, c5, b5, m5, d5, rfl, r5, k5⟩ := h5
  obtain ⟨a6, n6, c6, b6, m6, d6, rfl, r6, k6⟩ := h6
  exact ⟨_, _, run_bs7 W t0.tag a0 b0 n0 c0 m0 d0 t1.tag a1 b1 n1 c1 m1 d1 t2.tag a2 b2 n2 c2 m2 d2 t3.tag a3 b3 n3 c3 m3 d3 t4.tag a4 b4 n4 c4 m4 d4 t5.tag a5 b5 n5 c5 m5 d5 t6.tag a6 b6 n6 c6 m6 d6, (Below.refl _ _).alloc (Nat.le_refl _) _, ndsS_lit [.int .i64 t0.tag, .slice a0 n0 c0, .slice b0 m0 d0, .int .i64 t1.tag, .slice a1 n1 c1, .slice b1 m1 d1, .int .i64 t2.tag, .slice a2 n2 c2, .slice b2 m2 d2, .int .i64 t3.tag, .slice a3 n3 c3, .slice b3 m3 d3, .int .i64 t4.tag, .slice a4 n4 c4, .slice b4 m4 d4, .int .i64 t5.tag, .slice a5 n5 c5, .slice b5 m5 d5, .int .i64 t6.tag, .slice a6 n6 c6, .slice b6 m6 d6] [t0, t1, t2, t3, t4, t5, t6] 7 rfl (by omega) ((((((((NdCells.nil _ d W).snoc r0 k0).snoc r1 k1).snoc r2 k2).snoc r3 k3).snoc r4 k4).snoc r5 k5).snoc r6 k6) hB⟩
/-- New bytes without room behind them. -/
def GF (B : Nat) (l : List UInt8) : VPred := fun v w => ∃ A, v = .slice A l.length l.length ∧ RdS (fun b => B ≤ b) w v (bvs l)
theorem stable_GF (B : Nat) (l : List UInt8) : StableP (GF B l) := fun v w w' e ⟨A, h1, h⟩ => ⟨A, h1, h.map fun b hb hlt => ⟨hb, e.block b hlt⟩⟩
theorem GF.gs {B : Nat} {l : List UInt8} {v : Value} {w : World} (h : GF B l v w) : GS B l v w := by obtain ⟨A, _, k⟩ := h; exact k
theorem gf_bytes {B : Nat} (size : Nat) (x z : Int) (w : World) (hB : B ≤ w.heap.size) (h0 : 0 ≤ x) (h1 : x < 9223372036854775808) (hz : z = (size : Int)) (hs : size ≤ 100) : Calls Tryz.prog 52 #[.int .i64 x, .int .i64 z] w fun e w' => ∃ v, e = .returned v ∧ Ext w w' ∧ GF B (beN size x) v w' :=
  (refbytes_full size x z w h0 h1 hz hs).mono fun e w' ⟨A, h1, h2, h3⟩ => ⟨_, h1, h3, A, by rw [beN_len], RdS.of h2 fun b hb => Nat.le_trans hB hb⟩
/-- A leaf by a call of the reference. -/
theorem leafC {B d : Nat} (W : World) (t : Int) {v : Value} {l : List UInt8} (h : GS B l v W) : Calls Tryz.prog 51 #[.int .i64 t, v] W fun e w'' => ∃ v', e = .returned v' ∧ Ext W w'' ∧ NdG B d (leafN t l) v' w'' := by
  obtain ⟨A, n, c, rfl⟩ := h.slice
  exact (leaf_any t A n c W).mono fun e w'' ⟨h1, h2⟩ => ⟨_, h1, h2, _, _, _, _, _, _, rfl, stable_GS B l _ _ _ h2 h, NdsS.nil _ _⟩
theorem RetB.gs {w w' : World} {B : Nat} {l : List UInt8} {e : Ending} (h : RetB w l e w') (hB : B ≤ w.heap.size) : ∃ v, e = .returned v ∧ Ext w w' ∧ GS B l v w' := by
  obtain ⟨A, n, c, h1, h2, h3, h4⟩ := h
  exact ⟨_, h1, h4, RdS.of h3 fun b hb => Nat.le_trans hB hb⟩
theorem gs_str {B : Nat} (W : World) (hB : B ≤ W.heap.size) (l : List UInt8) (hl : l.length ≤ 4096) : ∃ v w'', (convert 9 48 (.string (bstr l))).run Tryz.prog W = .ok v w'' ∧ Ext W w'' ∧ GS B l v w'' := by
  obtain ⟨A, n, c', w2, h1, h2, h3, h4⟩ := run_strBytes W l hl
  exact ⟨_, _, h1, h2, h4.map (fun b hb _ => ⟨Nat.le_trans hB hb, rfl⟩)⟩
theorem gs_lit {B : Nat} (W : World) (hB : B ≤ W.heap.size) (cs : Array Value) (l : List UInt8) (n : Nat) (hn : n = l.length) (hm : n ≤ 100) (hc : cs.toList = bvs l) : GS B l (.slice (some ⟨W.heap.size, 0, none⟩) n n) (W.alloc (.cells cs 5)) := by
  have h := Own.lit W cs 5 n (by rw [hn, ← bvs_length, ← hc]; simp) (by unfold maxLen; omega)
  rw [hc] at h
  exact RdS.of h fun b hb => Nat.le_trans hB hb
/-- A call that returns a new object (by value). -/
def NodeR (w : World) (d : Nat) (t : Nd) (mkv : Value → Value) (e : Ending) (w' : World) : Prop := Ext w w' ∧ ∃ v, NdG w.heap.size d t v w' ∧ e = .returned (mkv v)
end Go.Proofs.YtmmoenkmicimcaaGreatDoor
namespace Go.Proofs.YtmmoenkmicimcaaGreatDoor
open Go.RowKit
set_option linter.unusedVariables false
set_option maxRecDepth 100000
theorem node_back {w w' : World} {rb d : Nat} {t : Nd} {A1 A2 : Option Addr} {n1 c1 n2 c2 B : Nat} (hB : w.heap.size ≤ B) (hrb : rb < B) (r : RdS (fun b => B ≤ b) w' (.slice A1 n1 c1) (bvs t.val)) (k : NdsS (fun b => B ≤ b) d w' (.slice A2 n2 c2) t.kids) (v0 v1 v2 : Value) :
    NdG w.heap.size d t (.agg #[.int .i64 t.tag, .slice A1 n1 c1, .slice A2 n2 c2]) (Go.Proofs.YtmmoenkmicimcaaGreatDoor.set3 w' rb v0 v1 v2) :=
  ⟨_, _, _, _, _, _, rfl, r.map fun b hb _ => ⟨Nat.le_trans hB hb, set3_block (by have hb : B ≤ b := hb; omega)⟩, k.map fun b hb _ => ⟨Nat.le_trans hB hb, set3_block (by have hb : B ≤ b := hb; omega)⟩⟩
theorem ext_set3 {w w' : World} {rb : Nat} (h : Ext w w') (hrb : w.heap.size ≤ rb) (v0 v1 v2 : Value) : Ext w (Go.Proofs.YtmmoenkmicimcaaGreatDoor.set3 w' rb v0 v1 v2) :=
  ((h.setCell (p := ⟨rb, 0, none⟩) hrb _).setCell (p := ⟨rb, 1, none⟩) hrb _).setCell (p := ⟨rb, 2, none⟩) hrb _
end Go.Proofs.YtmmoenkmicimcaaGreatDoor
namespace Go.Proofs.YtmmoenkmicimcaaGreatDoor
open Go.RowKit
set_option linter.unusedVariables false
set_option maxRecDepth 100000
theorem NdG.zero {B d : Nat} {t : Nd} {v : Value} {w : World} (h : NdG B d t v w) : NdG 0 d t v w := by
  obtain ⟨A1, n1, c1, A2, n2, c2, h1, h2, h3⟩ := h
  exact ⟨A1, n1, c1, A2, n2, c2, h1, h2.map fun b _ _ => ⟨Nat.zero_le _, rfl⟩, h3.map fun b _ _ => ⟨Nat.zero_le _, rfl⟩⟩
theorem nds_one {d g : Nat} {W : World} {t : Nd} {A1 A2 : Option Addr} {n1 c1 n2 c2 : Nat} (hg : g = W.heap.size) (h : NdG 0 d t (.agg #[.int .i64 t.tag, .slice A1 n1 c1, .slice A2 n2 c2]) W) :
    NdsRd (d + 1) (W.alloc (.cells #[.int .i64 t.tag, .slice A1 n1 c1, .slice A2 n2 c2] 94)) (.slice (some ⟨g, 0, none⟩) 1 1) [t] := by
  subst hg
  obtain ⟨B1, m1, k1, B2, m2, k2, e, r, k⟩ := h
  injection e with e
  injection e with e
  simp only [List.cons.injEq, Value.slice.injEq, and_true, true_and] at e
  obtain ⟨⟨rfl, rfl, rfl⟩, rfl, rfl, rfl⟩ := e
  exact (ndsS_lit [.int .i64 t.tag, .slice A1 n1 c1, .slice A2 n2 c2] [t] 1 rfl (by omega) ((NdCells.nil _ d W).snoc r k) (Nat.zero_le _)).rd
theorem node_open {B d : Nat} {t : Nd} {v : Value} {w : World} (h : NdG B d t v w) : ∃ (A1 : Option Addr) (n1 c1 : Nat) (A2 : Option Addr) (n2 c2 : Nat), v = .agg #[.int .i64 t.tag, .slice A1 n1 c1, .slice A2 n2 c2] := by
  obtain ⟨A1, n1, c1, A2, n2, c2, h, _⟩ := h
  exact ⟨A1, n1, c1, A2, n2, c2, h⟩
end Go.Proofs.YtmmoenkmicimcaaGreatDoor
namespace Go.Proofs.YtmmoenkmicimcaaGreatDoor
open Go.RowKit
set_option linter.unusedVariables false
set_option maxRecDepth 100000
theorem row_set {w : World} {g : Nat} {cs : Array Value} {t : TypeId} {fr : Nat × Nat} (h : w.heap[g]? = some (.cells cs t fr)) (i : Nat) (v : Value) : (w.setCell ⟨g, i, none⟩ v).heap[g]? = some (.cells (cs.setIfInBounds i v) t fr) := by
  simp only [World.setCell, Array.getElem?_modify, if_true, h, Option.map_some]
  rfl
theorem ext_set {w w' : World} {g i : Nat} {v : Value} (h : Ext w w') (hg : w.heap.size ≤ g) : Ext w (w'.setCell ⟨g, i, none⟩ v) := h.setCell (p := ⟨g, i, none⟩) hg _
end Go.Proofs.YtmmoenkmicimcaaGreatDoor
namespace Go.Proofs.YtmmoenkmicimcaaGreatDoor
open Go.RowKit
set_option linter.unusedVariables false
set_option maxRecDepth 100000
/-- A certificate that lies in block g. -/
def NcAt (w : World) (g : Nat) (c : NC) : Prop := w.heap[g]? = some (.cells #[.string (bstr c.st), .int .i64 c.kind, .int .i64 c.num, .int .i64 c.iss, .int .i64 c.own, .int .i64 c.key, .int .i64 c.fr, .int .i64 c.un, .int .i64 c.to, .int .i64 c.e, .int .i64 c.s] 39 (0, 0))
theorem NcAt.lt {w : World} {g : Nat} {c : NC} (h : NcAt w g c) : g < w.heap.size := block_lt h
theorem NcAt.ext {w w' : World} {g : Nat} {c : NC} (h : NcAt w g c) (e : Ext w w') : NcAt w' g c := (e.block g h.lt).trans h
theorem NcAt.cells {w : World} {g : Nat} {c : NC} (h : NcAt w g c) : w.cell? ⟨g, 0, none⟩ = some (.string (bstr c.st)) ∧ w.cell? ⟨g, 1, none⟩ = some (.int .i64 c.kind) ∧ w.cell? ⟨g, 2, none⟩ = some (.int .i64 c.num) ∧ w.cell? ⟨g, 3, none⟩ = some (.int .i64 c.iss) ∧ w.cell? ⟨g, 4, none⟩ = some (.int .i64 c.own) ∧ w.cell? ⟨g, 5, none⟩ = some (.int .i64 c.key) ∧ w.cell? ⟨g, 6, none⟩ = some (.int .i64 c.fr) ∧ w.cell? ⟨g, 7, none⟩ = some (.int .i64 c.un) ∧ w.cell? ⟨g, 8, none⟩ = some (.int .i64 c.to) ∧ w.cell? ⟨g, 9, none⟩ = some (.int .i64 c.e) ∧ w.cell? ⟨g, 10, none⟩ = some (.int .i64 c.s) :=
  ⟨cell_of_row w g 0 _ _ _ h, cell_of_row w g 1 _ _ _ h, cell_of_row w g 2 _ _ _ h, cell_of_row w g 3 _ _ _ h, cell_of_row w g 4 _ _ _ h, cell_of_row w g 5 _ _ _ h, cell_of_row w g 6 _ _ _ h, cell_of_row w g 7 _ _ _ h, cell_of_row w g 8 _ _ _ h, cell_of_row w g 9 _ _ _ h, cell_of_row w g 10 _ _ _ h⟩
theorem NcAt.new (w : World) (c : NC) : NcAt (w.alloc (ncO c)) w.heap.size c := heap_alloc_new' w _
theorem NcAt.frozen {w : World} {g : Nat} {c : NC} (h : NcAt w g c) (i : Nat) : w.frozen? ⟨g, i, none⟩ = false := by
  unfold NcAt at h
  simp [World.frozen?, h]
abbrev set11 (w : World) (g : Nat) (v0 v1 v2 v3 v4 v5 v6 v7 v8 v9 v10 : Value) : World := (((((((((((w.setCell ⟨g, 0, none⟩ v0).setCell ⟨g, 1, none⟩ v1).setCell ⟨g, 2, none⟩ v2).setCell ⟨g, 3, none⟩ v3).setCell ⟨g, 4, none⟩ v4).setCell ⟨g, 5, none⟩ v5).setCell ⟨g, 6, none⟩ v6).setCell ⟨g, 7, none⟩ v7).setCell ⟨g, 8, none⟩ v8).setCell ⟨g, 9, none⟩ v9).setCell ⟨g, 10, none⟩ v10)
abbrev setN (w : World) (g : Nat) (c : NC) : World := set11 w g (.string (bstr c.st)) (.int .i64 c.kind) (.int .i64 c.num) (.int .i64 c.iss) (.int .i64 c.own) (.int .i64 c.key) (.int .i64 c.fr) (.int .i64 c.un) (.int .i64 c.to) (.int .i64 c.e) (.int .i64 c.s)
theorem NcAt.setN {w : World} {g : Nat} {c : NC} (h : NcAt w g c) (d : NC) : NcAt (setN w g d) g d := by
  have h9 := (row_set (row_set (row_set (row_set (row_set (row_set (row_set (row_set (row_set (row_set (row_set h 0 (.string (bstr d.st))) 1 (.int .i64 d.kind)) 2 (.int .i64 d.num)) 3 (.int .i64 d.iss)) 4 (.int .i64 d.own)) 5 (.int .i64 d.key)) 6 (.int .i64 d.fr)) 7 (.int .i64 d.un)) 8 (.int .i64 d.to)) 9 (.int .i64 d.e)) 10 (.int .i64 d.s))
  simp only [List.setIfInBounds_toArray, List.set_cons_zero, List.set_cons_succ] at h9
  exact h9
theorem NcAt.setSig {w : World} {g : Nat} {c : NC} (h : NcAt w g c) (e s : Int) : NcAt ((w.setCell ⟨g, 9, none⟩ (.int .i64 e)).setCell ⟨g, 10, none⟩ (.int .i64 s)) g (updN c e s) := by
  have h9 := row_set (row_set h 9 (.int .i64 e)) 10 (.int .i64 s)
  simp only [List.setIfInBounds_toArray, List.set_cons_zero, List.set_cons_succ] at h9
  exact h9
theorem NcAt.other {w : World} {g b i : Nat} {c : NC} {v : Value} (h : NcAt w g c) (hne : g ≠ b) : NcAt (w.setCell ⟨b, i, none⟩ v) g c := (setCell_block hne).trans h
theorem ext_setN {w w' : World} {g : Nat} (h : Ext w w') (hg : w.heap.size ≤ g) (c : NC) : Ext w (setN w' g c) :=
  ext_set (ext_set (ext_set (ext_set (ext_set (ext_set (ext_set (ext_set (ext_set (ext_set (ext_set h hg) hg) hg) hg) hg) hg) hg) hg) hg) hg) hg
theorem nc_alloc (w : World) (c : NC) : ∃ wz, wz = w.alloc (ncO c) ∧ Ext w wz ∧ NcAt wz w.heap.size c :=
  ⟨_, rfl, (Below.refl _ _).alloc (Nat.le_refl _) _, NcAt.new w c⟩
/-- Two blocks: a certificate that came, and the result. -/
structure TwoN (w wz : World) (c : NC) : Prop where
  ext : Ext w wz
  c : NcAt wz w.heap.size c
  r : NcAt wz (w.heap.size + 1) zeroN
theorem two_allocN (w : World) (c : NC) : ∃ wz, wz = (w.alloc (ncO c)).alloc (.cells #[.string ⟨#[]⟩, .int .i64 0, .int .i64 0, .int .i64 0, .int .i64 0, .int .i64 0, .int .i64 0, .int .i64 0, .int .i64 0, .int .i64 0, .int .i64 0] 39) ∧ TwoN w wz c := by
  have e1 : Ext w (w.alloc (ncO c)) := (Below.refl _ _).alloc (Nat.le_refl _) _
  refine ⟨_, rfl, e1.alloc (by simp) _, (NcAt.new w c).ext ((Below.refl _ _).alloc (Nat.le_refl _) _), ?_⟩
  have := NcAt.new (w.alloc (ncO c)) zeroN
  rw [show (w.alloc (ncO c)).heap.size = w.heap.size + 1 by simp] at this
  exact this
theorem TwoN.tr {w wz wy : World} {c : NC} (h : TwoN w wz c) (e : Ext wz wy) : TwoN w wy c := ⟨h.ext.tr e, h.c.ext e, h.r.ext e⟩
end Go.Proofs.YtmmoenkmicimcaaGreatDoor
namespace Go.Proofs.YtmmoenkmicimcaaGreatDoor
open Go.RowKit
set_option linter.unusedVariables false
set_option maxRecDepth 100000
def ncCells (c : NC) : List Value := [.string (bstr c.st), .int .i64 c.kind, .int .i64 c.num, .int .i64 c.iss, .int .i64 c.own, .int .i64 c.key, .int .i64 c.fr, .int .i64 c.un, .int .i64 c.to, .int .i64 c.e, .int .i64 c.s]
def ncsCells (l : List NC) : List Value := l.flatMap ncCells
theorem ncCells_len (c : NC) : (ncCells c).length = 11 := rfl
theorem ncsCells_len (l : List NC) : (ncsCells l).length = l.length * 11 := flat_len _ 11 ncCells_len l
theorem ncsCells_snoc (l : List NC) (c : NC) : ncsCells l ++ ncCells c = ncsCells (l ++ [c]) := by simp [ncsCells]
theorem ncsCells_app (l m : List NC) : ncsCells l ++ ncsCells m = ncsCells (l ++ m) := by simp [ncsCells]
theorem ncCells_one (c : NC) : ∀ u ∈ ncCells c, u.oneCell' = true := by
  intro u hu
  simp only [ncCells, List.mem_cons, List.not_mem_nil, or_false] at hu
  rcases hu with rfl | rfl | rfl | rfl | rfl | rfl | rfl | rfl | rfl | rfl | rfl <;> rfl
theorem ncsCells_one (l : List NC) : ∀ u ∈ ncsCells l, u.oneCell' = true := by
  intro u hu
  obtain ⟨c, _, hu⟩ := List.mem_flatMap.1 hu
  exact ncCells_one c u hu
theorem elemNc : ElemK Tryz.prog 26 39 11 96 := by
  have h : (Tryz.prog.info? 39).map (fun i => (i.zero, i.size, i.bytes)) = some (some (.agg #[.string ⟨#[]⟩, .int .i64 0, .int .i64 0, .int .i64 0, .int .i64 0, .int .i64 0, .int .i64 0, .int .i64 0, .int .i64 0, .int .i64 0, .int .i64 0]), 11, 96) := by kernel_rfl
  obtain ⟨i, h1, h2, h3, h4⟩ := info_parts h
  exact ⟨i, _, Tryz.underlying26, h1, h2, h3, h4, rfl⟩
/-- A slice that reads as certificates. -/
abbrev RdN (w : World) (v : Value) (l : List NC) : Prop := RdK w 11 v (ncsCells l)
theorem RdN.nil_ (w : World) (A : Option Addr) : RdN w (.slice A 0 0) [] := RdK.nil_ w 11 A
/-- The cells of certificate i. -/
theorem RdN.at_ {w : World} {v : Value} {l : List NC} (h : RdN w v l) : ∃ A n c, v = .slice A n c ∧ n = l.length ∧ n ≤ c ∧ c ≤ maxLen ∧ (0 < n → ∃ b o, A = some ⟨b, o, none⟩ ∧ b < w.heap.size ∧ ∀ (i : Nat) (p : NC), l[i]? = some p →
    w.cell? ⟨b, o + i * 11, none⟩ = some (.string (bstr p.st)) ∧ w.cell? ⟨b, o + i * 11 + 1, none⟩ = some (.int .i64 p.kind) ∧ w.cell? ⟨b, o + i * 11 + 2, none⟩ = some (.int .i64 p.num) ∧ w.cell? ⟨b, o + i * 11 + 3, none⟩ = some (.int .i64 p.iss) ∧ w.cell? ⟨b, o + i * 11 + 4, none⟩ = some (.int .i64 p.own) ∧ w.cell? ⟨b, o + i * 11 + 5, none⟩ = some (.int .i64 p.key) ∧
    w.cell? ⟨b, o + i * 11 + 6, none⟩ = some (.int .i64 p.fr) ∧ w.cell? ⟨b, o + i * 11 + 7, none⟩ = some (.int .i64 p.un) ∧ w.cell? ⟨b, o + i * 11 + 8, none⟩ = some (.int .i64 p.to) ∧ w.cell? ⟨b, o + i * 11 + 9, none⟩ = some (.int .i64 p.e) ∧ w.cell? ⟨b, o + i * 11 + 10, none⟩ = some (.int .i64 p.s)) := by
  obtain ⟨A, n, c, rfl, hn, hnc, hcm, hc⟩ := RdK.flat (f := ncCells) (k := 11) (by omega) ncCells_len h
  refine ⟨A, n, c, rfl, hn, hnc, hcm, fun h0 => ?_⟩
  obtain ⟨b, o, rfl, hb, hcell⟩ := hc h0
  refine ⟨b, o, rfl, hb, fun i p hp => ?_⟩
  obtain ⟨hi, rfl⟩ := List.getElem?_eq_some_iff.1 hp
  exact ⟨hcell i hi 0 _ rfl, hcell i hi 1 _ rfl, hcell i hi 2 _ rfl, hcell i hi 3 _ rfl, hcell i hi 4 _ rfl, hcell i hi 5 _ rfl, hcell i hi 6 _ rfl, hcell i hi 7 _ rfl, hcell i hi 8 _ rfl, hcell i hi 9 _ rfl, hcell i hi 10 _ rfl⟩
/-- Certificates whose states are no longer than 4096. -/
def smL (l : List NC) : Prop := ∀ c ∈ l, smN c
theorem smL.app {l m : List NC} (h : smL l) (k : smL m) : smL (l ++ m) := fun c hc => (List.mem_append.1 hc).elim (h c) (k c)
end Go.Proofs.YtmmoenkmicimcaaGreatDoor
namespace Go.Proofs.YtmmoenkmicimcaaGreatDoor
open Go.RowKit
set_option linter.unusedVariables false
set_option maxRecDepth 100000
def GI (l : List Int) : VPred := fun v w => RdI w .i64 v l
theorem stable_GI (l : List Int) : StableP (GI l) := fun v w w' e h => Rd.ext h e
theorem gi_lit (W : World) (cs : Array Value) (l : List Int) (n : Nat) (hn : n = l.length) (hm : n ≤ 100) (hc : cs.toList = l.map (Value.int .i64)) : GI l (.slice (some ⟨W.heap.size, 0, none⟩) n n) (W.alloc (.cells cs 3)) := by
  have := Rd.lit W cs 3 n (by rw [← Array.length_toList, hc, List.length_map]; exact hn) (by unfold maxLen; omega)
  rw [hc] at this
  exact this
theorem wide1_4 (x : Int) : wideB 4 [x] = be4 x := by show beN 4 x ++ [] = _; rw [List.append_nil, beN_4]
theorem wide3_3 (x y z : Int) : wideB 3 [x, y, z] = be3 x ++ be3 y ++ be3 z := by
  show beN 3 x ++ (beN 3 y ++ (beN 3 z ++ [])) = _
  rw [List.append_nil, beN_3, beN_3, beN_3, List.append_assoc]
theorem wide_days (c : NC) : wideB 3 [c.fr, c.un, c.to] = daysB c := wide3_3 _ _ _
theorem bvs_u8one (x : Int) : bvs [u8 x] = [.int .u8 (x % 256)] := by simp [bvs, bv_u8]
set_option maxHeartbeats 1000000 in
theorem ntree_ok (c : NC) (w : World) (h : ckN c = 0) : Calls Tryz.prog 180 #[ncV c] w (NodeR w 1 (bodyN c) fun v => .tuple #[v, .int .i64 0]) := by
  have sa : c.st.length ≤ 4096 := by have := (ckN_ok h).1.1.2; omega
  have HC := Lib.hid (ckN_ok h)
  have he := (ckN_ok h).2.2.2.2.1
  clear h
  obtain ⟨wz, hwz⟩ : ∃ wz, wz = ((w.alloc (ncO c))).alloc (.cells #[.int .i64 0, .slice none 0 0, .slice none 0 0] 94) := ⟨_, rfl⟩
  have e1 : Ext w (w.alloc (ncO c)) := (Below.refl _ _).alloc (Nat.le_refl _) _
  have x0 : Ext w wz := by rw [hwz]; exact e1.alloc (by simp) _
  have hc : NcAt wz w.heap.size c := by rw [hwz]; exact (NcAt.new w c).ext ((Below.refl _ _).alloc (Nat.le_refl _) _)
  have hb : C3 wz (w.heap.size + 1) (.int .i64 0) (.slice none 0 0) (.slice none 0 0) := by
    have := C3.new (w.alloc (ncO c)) (.int .i64 0) (.slice none 0 0) (.slice none 0 0)
    rw [show (w.alloc (ncO c)).heap.size = w.heap.size + 1 by simp] at this
    rw [hwz]; exact this
  have hsz : w.heap.size + 1 < wz.heap.size := hb.lt
  unfold ncV
  go_enter Tryz.func180, Tryz.ntmps180
  go_wp2_with fail
  rw [← hwz]
  clear hwz e1
  obtain ⟨t0, t1, t2, t3, t4, t5, t6, t7, t8, t9, t10⟩ := hc.cells
  have hl := hc.lt
  go_wp2_with fail
  refine (gencode_any _ _).mono ?_
  rintro e wk ⟨A, n, c', rfl, hn, o, bk⟩
  rw [show elB c.key = be4 c.key from if_pos he] at hn o
  rw [show elK c.key = 0 from if_pos he]
  have ob : GS wz.heap.size (be4 c.key) (.slice A n c') wk := RdS.of o fun b hb => hb
  have hck := hc.ext bk
  have hbk := hb.ex bk
  have xk := x0.tr bk
  clear hn o hc hb t0 t1 t2 t3 t4 t5 t6 t7 t8 t9 t10 hl
  go_wp2_with fail
  refine Gd.wp_region_X 37 (by kernel_rfl) (by kernel_rfl) ?_
  simp only [List.take_succ_cons, List.take_zero, List.drop_succ_cons, List.drop_zero]
  intro w1 hw1
  have LL : ∀ m : Lt w1, Ext wk m.1 := fun m => hw1.tr m.2
  have v0 : ∀ m : Lt w1, m.1.cell? ⟨w.heap.size, 0, none⟩ = some (.string (bstr c.st)) := fun m => (hck.ext (LL m)).cells.1
  have v1 : ∀ m : Lt w1, m.1.cell? ⟨w.heap.size, 1, none⟩ = some (.int .i64 c.kind) := fun m => (hck.ext (LL m)).cells.2.1
  have v2 : ∀ m : Lt w1, m.1.cell? ⟨w.heap.size, 2, none⟩ = some (.int .i64 c.num) := fun m => (hck.ext (LL m)).cells.2.2.1
  have v3 : ∀ m : Lt w1, m.1.cell? ⟨w.heap.size, 3, none⟩ = some (.int .i64 c.iss) := fun m => (hck.ext (LL m)).cells.2.2.2.1
  have v4 : ∀ m : Lt w1, m.1.cell? ⟨w.heap.size, 4, none⟩ = some (.int .i64 c.own) := fun m => (hck.ext (LL m)).cells.2.2.2.2.1
  have v6 : ∀ m : Lt w1, m.1.cell? ⟨w.heap.size, 6, none⟩ = some (.int .i64 c.fr) := fun m => (hck.ext (LL m)).cells.2.2.2.2.2.2.1
  have v7 : ∀ m : Lt w1, m.1.cell? ⟨w.heap.size, 7, none⟩ = some (.int .i64 c.un) := fun m => (hck.ext (LL m)).cells.2.2.2.2.2.2.2.1
  have v8 : ∀ m : Lt w1, m.1.cell? ⟨w.heap.size, 8, none⟩ = some (.int .i64 c.to) := fun m => (hck.ext (LL m)).cells.2.2.2.2.2.2.2.2.1
  have OB : ∀ m : Lt w1, GS wz.heap.size (be4 c.key) (.slice A n c') m.1 := fun m => stable_GS _ _ _ _ _ (LL m) ob
  have BB : ∀ m : Lt w1, wz.heap.size ≤ m.1.heap.size := fun m => Nat.le_trans bk.size (LL m).size
  repeat (refine Gd.wpX_pureP rfl fun K hK => ?_; go_big_quiet_op; refine hK _ ?_; clear hK K)
  refine Gd.wpX_convL (Gd.gR rfl) (GS wz.heap.size c.st) (stable_GS _ _) (fun _ => .string (bstr c.st)) rfl rfl rfl rfl rfl (fun _ => rfl) (fun m f hf => gs_str m.1 (BB m) c.st sa) ?_
  simp only [Act.put, List.setIfInBounds_toArray, List.set_cons_zero, List.set_cons_succ]
  refine Gd.wpX_buildL (Gd.gR rfl) (NdG wz.heap.size 0 (leafN 19 c.st)) (stable_NdG _ _ _) (fun f => [(0, .int .i64 19), (1, f 18)]) rfl rfl rfl rfl rfl (fun f => rfl) (fun m f hf => run_leaf m.1 19 (hf 18 _ rfl rfl)) ?_
  simp only [Act.put, List.setIfInBounds_toArray, List.set_cons_zero, List.set_cons_succ]
  repeat (refine Gd.wpX_pureP rfl fun K hK => ?_; go_big_quiet_op; refine hK _ ?_; clear hK K)
  refine Gd.wpX_buildSL (Gd.gR rfl) (GS wz.heap.size [u8 c.kind]) (stable_GS _ _) (fun _ => [(0, .int .u8 (c.kind % 256))]) rfl rfl rfl rfl rfl (fun _ => rfl) (fun m f hf => ⟨_, _, (by go_simp : (Instr.buildSlice 48 1 [(0, .int .u8 (c.kind % 256))].toArray).run Tryz.prog m.1 = .ok (.slice (some ⟨m.1.heap.size, 0, none⟩) 1 1) (m.1.alloc (.cells #[.int .u8 (c.kind % 256)] 5))), (Below.refl _ _).alloc (Nat.le_refl _) _, gs_lit m.1 (BB m) _ [u8 c.kind] 1 rfl (by omega) (bvs_u8one c.kind).symm⟩) ?_
  simp only [Act.put, List.setIfInBounds_toArray, List.set_cons_zero, List.set_cons_succ]
  refine Gd.wpX_buildL (Gd.gR rfl) (NdG wz.heap.size 0 (leafN 129 [u8 c.kind])) (stable_NdG _ _ _) (fun f => [(0, .int .i64 129), (1, f 23)]) rfl rfl rfl rfl rfl (fun f => rfl) (fun m f hf => run_leaf m.1 129 (hf 23 _ rfl rfl)) ?_
  simp only [Act.put, List.setIfInBounds_toArray, List.set_cons_zero, List.set_cons_succ]
  repeat (refine Gd.wpX_pureP rfl fun K hK => ?_; go_big_quiet_op; refine hK _ ?_; clear hK K)
  refine Gd.wpX_buildSL (Gd.gR rfl) (GI [c.num]) (stable_GI _) (fun _ => [(0, .int .i64 c.num)]) rfl rfl rfl rfl rfl (fun _ => rfl) (fun m f hf => ⟨_, _, (by go_simp : (Instr.buildSlice 22 1 [(0, .int .i64 c.num)].toArray).run Tryz.prog m.1 = .ok (.slice (some ⟨m.1.heap.size, 0, none⟩) 1 1) (m.1.alloc (.cells #[.int .i64 c.num] 3))), (Below.refl _ _).alloc (Nat.le_refl _) _, gi_lit m.1 #[.int .i64 c.num] [c.num] 1 rfl (by omega) rfl⟩) ?_
  simp only [Act.put, List.setIfInBounds_toArray, List.set_cons_zero, List.set_cons_succ]
  refine Gd.wpX_callF (Gd.gR rfl) (GS wz.heap.size (be4 c.num)) (stable_GS _ _) (fun f => [.int .i64 4, f 27]) rfl rfl rfl rfl rfl (by kernel_rfl) rfl (fun f => rfl) (fun m f hf => (wide_any 4 m.1 (hf 27 _ rfl rfl) (by omega) (by simp)).mono fun _ _ h => (wide1_4 c.num ▸ h : RetB _ _ _ _).gs (BB m)) ?_
  simp only [Act.put, List.setIfInBounds_toArray, List.set_cons_zero, List.set_cons_succ]
  refine Gd.wpX_buildL (Gd.gR rfl) (NdG wz.heap.size 0 (leafN 130 (be4 c.num))) (stable_NdG _ _ _) (fun f => [(0, .int .i64 130), (1, f 28)]) rfl rfl rfl rfl rfl (fun f => rfl) (fun m f hf => run_leaf m.1 130 (hf 28 _ rfl rfl)) ?_
  simp only [Act.put, List.setIfInBounds_toArray, List.set_cons_zero, List.set_cons_succ]
  repeat (refine Gd.wpX_pureP rfl fun K hK => ?_; go_big_quiet_op; refine hK _ ?_; clear hK K)
  refine Gd.wpX_buildSL (Gd.gR rfl) (GI [c.iss]) (stable_GI _) (fun _ => [(0, .int .i64 c.iss)]) rfl rfl rfl rfl rfl (fun _ => rfl) (fun m f hf => ⟨_, _, (by go_simp : (Instr.buildSlice 22 1 [(0, .int .i64 c.iss)].toArray).run Tryz.prog m.1 = .ok (.slice (some ⟨m.1.heap.size, 0, none⟩) 1 1) (m.1.alloc (.cells #[.int .i64 c.iss] 3))), (Below.refl _ _).alloc (Nat.le_refl _) _, gi_lit m.1 #[.int .i64 c.iss] [c.iss] 1 rfl (by omega) rfl⟩) ?_
  simp only [Act.put, List.setIfInBounds_toArray, List.set_cons_zero, List.set_cons_succ]
  refine Gd.wpX_callF (Gd.gR rfl) (GS wz.heap.size (be4 c.iss)) (stable_GS _ _) (fun f => [.int .i64 4, f 32]) rfl rfl rfl rfl rfl (by kernel_rfl) rfl (fun f => rfl) (fun m f hf => (wide_any 4 m.1 (hf 32 _ rfl rfl) (by omega) (by simp)).mono fun _ _ h => (wide1_4 c.iss ▸ h : RetB _ _ _ _).gs (BB m)) ?_
  simp only [Act.put, List.setIfInBounds_toArray, List.set_cons_zero, List.set_cons_succ]
  refine Gd.wpX_buildL (Gd.gR rfl) (NdG wz.heap.size 0 (leafN 131 (be4 c.iss))) (stable_NdG _ _ _) (fun f => [(0, .int .i64 131), (1, f 33)]) rfl rfl rfl rfl rfl (fun f => rfl) (fun m f hf => run_leaf m.1 131 (hf 33 _ rfl rfl)) ?_
  simp only [Act.put, List.setIfInBounds_toArray, List.set_cons_zero, List.set_cons_succ]
  repeat (refine Gd.wpX_pureP rfl fun K hK => ?_; go_big_quiet_op; refine hK _ ?_; clear hK K)
  refine Gd.wpX_buildSL (Gd.gR rfl) (GI [c.own]) (stable_GI _) (fun _ => [(0, .int .i64 c.own)]) rfl rfl rfl rfl rfl (fun _ => rfl) (fun m f hf => ⟨_, _, (by go_simp : (Instr.buildSlice 22 1 [(0, .int .i64 c.own)].toArray).run Tryz.prog m.1 = .ok (.slice (some ⟨m.1.heap.size, 0, none⟩) 1 1) (m.1.alloc (.cells #[.int .i64 c.own] 3))), (Below.refl _ _).alloc (Nat.le_refl _) _, gi_lit m.1 #[.int .i64 c.own] [c.own] 1 rfl (by omega) rfl⟩) ?_
  simp only [Act.put, List.setIfInBounds_toArray, List.set_cons_zero, List.set_cons_succ]
  refine Gd.wpX_callF (Gd.gR rfl) (GS wz.heap.size (be4 c.own)) (stable_GS _ _) (fun f => [.int .i64 4, f 37]) rfl rfl rfl rfl rfl (by kernel_rfl) rfl (fun f => rfl) (fun m f hf => (wide_any 4 m.1 (hf 37 _ rfl rfl) (by omega) (by simp)).mono fun _ _ h => (wide1_4 c.own ▸ h : RetB _ _ _ _).gs (BB m)) ?_
  simp only [Act.put, List.setIfInBounds_toArray, List.set_cons_zero, List.set_cons_succ]
  refine Gd.wpX_buildL (Gd.gR rfl) (NdG wz.heap.size 0 (leafN 132 (be4 c.own))) (stable_NdG _ _ _) (fun f => [(0, .int .i64 132), (1, f 38)]) rfl rfl rfl rfl rfl (fun f => rfl) (fun m f hf => run_leaf m.1 132 (hf 38 _ rfl rfl)) ?_
  simp only [Act.put, List.setIfInBounds_toArray, List.set_cons_zero, List.set_cons_succ]
  repeat (refine Gd.wpX_pureP rfl fun K hK => ?_; go_big_quiet_op; refine hK _ ?_; clear hK K)
  refine Gd.wpX_buildL (Gd.gR rfl) (NdG wz.heap.size 0 (leafN 133 (be4 c.key))) (stable_NdG _ _ _) (fun f => [(0, .int .i64 133), (1, .slice A n c')]) rfl rfl rfl rfl rfl (fun f => rfl) (fun m f hf => run_leaf m.1 133 (OB m)) ?_
  simp only [Act.put, List.setIfInBounds_toArray, List.set_cons_zero, List.set_cons_succ]
  repeat (refine Gd.wpX_pureP rfl fun K hK => ?_; go_big_quiet_op; refine hK _ ?_; clear hK K)
  refine Gd.wpX_buildSL (Gd.gR rfl) (GI [c.fr, c.un, c.to]) (stable_GI _) (fun _ => [(0, .int .i64 c.fr), (1, .int .i64 c.un), (2, .int .i64 c.to)]) rfl rfl rfl rfl rfl (fun _ => rfl) (fun m f hf => ⟨_, _, (by go_simp : (Instr.buildSlice 22 3 [(0, .int .i64 c.fr), (1, .int .i64 c.un), (2, .int .i64 c.to)].toArray).run Tryz.prog m.1 = .ok (.slice (some ⟨m.1.heap.size, 0, none⟩) 3 3) (m.1.alloc (.cells #[.int .i64 c.fr, .int .i64 c.un, .int .i64 c.to] 3))), (Below.refl _ _).alloc (Nat.le_refl _) _, gi_lit m.1 #[.int .i64 c.fr, .int .i64 c.un, .int .i64 c.to] [c.fr, c.un, c.to] 3 rfl (by omega) rfl⟩) ?_
  simp only [Act.put, List.setIfInBounds_toArray, List.set_cons_zero, List.set_cons_succ]
  refine Gd.wpX_callF (Gd.gR rfl) (GS wz.heap.size (daysB c)) (stable_GS _ _) (fun f => [.int .i64 3, f 48]) rfl rfl rfl rfl rfl (by kernel_rfl) rfl (fun f => rfl) (fun m f hf => (wide_any 3 m.1 (hf 48 _ rfl rfl) (by omega) (by simp)).mono fun _ _ h => (wide_days c ▸ h : RetB _ _ _ _).gs (BB m)) ?_
  simp only [Act.put, List.setIfInBounds_toArray, List.set_cons_zero, List.set_cons_succ]
  refine Gd.wpX_buildL (Gd.gR rfl) (NdG wz.heap.size 0 (leafN 134 (daysB c))) (stable_NdG _ _ _) (fun f => [(0, .int .i64 134), (1, f 49)]) rfl rfl rfl rfl rfl (fun f => rfl) (fun m f hf => run_leaf m.1 134 (hf 49 _ rfl rfl)) ?_
  simp only [Act.put, List.setIfInBounds_toArray, List.set_cons_zero, List.set_cons_succ]
  refine Gd.wpX_buildSL (Gd.gR rfl) (NdsG wz.heap.size 1 (bodyN c).kids) (stable_NdsG _ _ _) (fun f => [(0, f 19), (1, f 24), (2, f 29), (3, f 34), (4, f 39), (5, f 41), (6, f 50)]) rfl rfl rfl rfl rfl (fun f => rfl) (fun m f hf => run_nodes7 m.1 (BB m) (hf 19 _ rfl rfl) (hf 24 _ rfl rfl) (hf 29 _ rfl rfl) (hf 34 _ rfl rfl) (hf 39 _ rfl rfl) (hf 41 _ rfl rfl) (hf 50 _ rfl rfl)) ?_
  simp only [Act.put, List.setIfInBounds_toArray, List.set_cons_zero, List.set_cons_succ]
  refine Gd.wpX_buildL (Gd.gR rfl) (NdG wz.heap.size 1 (bodyN c)) (stable_NdG _ _ _) (fun f => [(0, .int .i64 48), (2, f 51)]) rfl rfl rfl rfl rfl (fun f => rfl) (fun m f hf => run_cons m.1 48 (hf 51 _ rfl rfl)) ?_
  simp only [Act.put, List.setIfInBounds_toArray, List.set_cons_zero, List.set_cons_succ]
  refine Gd.wpX_endL (fun m f hf => ?_)
  obtain ⟨A1, n1, c1, A2, n2, c2, e49, r49, k49⟩ := hf 52 _ rfl
  rw [show (bodyN c).tag = 48 from rfl] at e49
  simp only [fillH]
  simp only [Act.put, List.setIfInBounds_toArray, List.set_cons_zero, List.set_cons_succ]
  rw [e49]
  have Lm := LL m
  have xm := xk.tr Lm
  obtain ⟨wy, hwy⟩ := m
  clear LL BB OB v0 v1 v2 v3 v4 v6 v7 v8 hf e49
  have hby := hbk.ex Lm
  have NB := Lib.hid (node_back (w := w) (t := bodyN c) x0.size hsz r49 k49 (.int .i64 48) (.slice A1 n1 c1) (.slice A2 n2 c2))
  clear r49 k49 hck
  obtain ⟨y0, y1, y2, yf0, yf1, yf2⟩ := hby.cells
  obtain ⟨w0', w1', w2', _, _, _⟩ := (hby.set3 (.int .i64 48) (.slice A1 n1 c1) (.slice A2 n2 c2)).cells
  have hl := hby.lt
  show wpList _ _ _ _ _ _
  go_wp2_with fail
  refine bodyPost_ret (v := .tuple #[.agg #[.int .i64 48, .slice A1 n1 c1, .slice A2 n2 c2], .int .i64 0]) ?_ rfl ⟨ext_set3 xm (by omega) _ _ _, _, NB.out, rfl⟩
  simp [results, Tryz.results180, go_sem, w0', w1', w2']
end Go.Proofs.YtmmoenkmicimcaaGreatDoor
namespace Go.Proofs.YtmmoenkmicimcaaGreatDoor
open Go.RowKit
set_option linter.unusedVariables false
set_option maxRecDepth 100000
theorem Own.slice {w : World} {B : Nat} {e : TypeId} {v : Value} {xs : List Value} (h : Own w B e v xs) : ∃ A n c, v = .slice A n c := by
  obtain ⟨A, n, c, e, _⟩ := h
  exact ⟨A, n, c, e⟩
theorem run_appOwn {B : Nat} {W : World} {ty : TypeId} {v src : Value} {xs ys : List UInt8} (hB : B ≤ W.heap.size) (hx : GF B xs v W) (hy : GS B ys src W) (h1 : 0 < xs.length) (h2 : 0 < ys.length) (hs : xs.length + ys.length ≤ 100000) :
    ∃ v' w'', (Builtin.append_ #[48, 48] ty #[v, src]).run Tryz.prog W = .ok v' w'' ∧ Ext W w'' ∧ Own w'' B 5 v' (bvs (xs ++ ys)) := by
  obtain ⟨i, z, ht, hi, hz, hsz, hby, hzs⟩ := elemB.ex
  obtain ⟨A, rfl, A', n', c', e, hn, _, _, hcell⟩ := hx
  injection e with e1 e2 e3
  subst e1 e2 e3
  obtain ⟨A2, m, c2, rfl, hm, _, _, hcell2⟩ := hy
  rw [bvs_length] at hm
  subst hm
  obtain ⟨b, o, rfl, _, hc⟩ := hcell h1
  obtain ⟨b2, o2, rfl, _, hc2⟩ := hcell2 h2
  obtain ⟨v', w', k1, k2, k3⟩ := run_append_arg_grows (P := Tryz.prog) W 48 ty 5 i z 1 1 ht hi hz hsz hby hzs (by decide) ⟨b, o, none⟩ xs.length xs.length (bvs xs) (by rw [bvs_length]; omega) (fun j u hu => by rw [Addr.add_lit]; exact hc j u hu) ⟨b2, o2, none⟩ ys.length c2 (bvs ys) (by rw [bvs_length]; omega) (fun j u hu => by rw [Addr.add_lit]; exact hc2 j u hu) (by omega) (by unfold maxLen; omega) (by omega)
  rw [bvs_append] at k2
  exact ⟨v', w', k1, ⟨k3.os, k3.tape, k3.output, k3.size, fun k hk => k3.block k hk (by simp)⟩, (ownsRow_own k2).mono hB⟩
set_option maxHeartbeats 1000000 in
theorem nrefbody_ok (c : NC) (w : World) (h : ckN c = 0) : Calls Tryz.prog 167 #[ncV c] w (NodeR w 1 (bodyN c) id) := by
  have sa : c.st.length ≤ 4096 := by have := (ckN_ok h).1.1.2; omega
  have HC := Lib.hid (ckN_ok h)
  have he := (ckN_ok h).2.2.2.2.1
  clear h
  obtain ⟨wz, hwz⟩ : ∃ wz, wz = ((w.alloc (ncO c))).alloc (.cells #[.int .i64 0, .slice none 0 0, .slice none 0 0] 94) := ⟨_, rfl⟩
  have e1 : Ext w (w.alloc (ncO c)) := (Below.refl _ _).alloc (Nat.le_refl _) _
  have x0 : Ext w wz := by rw [hwz]; exact e1.alloc (by simp) _
  have hc : NcAt wz w.heap.size c := by rw [hwz]; exact (NcAt.new w c).ext ((Below.refl _ _).alloc (Nat.le_refl _) _)
  have hb : C3 wz (w.heap.size + 1) (.int .i64 0) (.slice none 0 0) (.slice none 0 0) := by
    have := C3.new (w.alloc (ncO c)) (.int .i64 0) (.slice none 0 0) (.slice none 0 0)
    rw [show (w.alloc (ncO c)).heap.size = w.heap.size + 1 by simp] at this
    rw [hwz]; exact this
  have hsz : w.heap.size + 1 < wz.heap.size := hb.lt
  unfold ncV
  go_enter Tryz.func167, Tryz.ntmps167
  go_wp2_with fail
  rw [← hwz]
  clear hwz e1
  obtain ⟨t0, t1, t2, t3, t4, t5, t6, t7, t8, t9, t10⟩ := hc.cells
  have hl := hc.lt
  go_wp2_with fail
  refine (refgencode_any _ _).mono ?_
  rintro e wk ⟨A, n, c', rfl, hn, o, bk⟩
  rw [show elB c.key = be4 c.key from if_pos he] at hn o
  rw [show elK c.key = 0 from if_pos he]
  have ob : GS wz.heap.size (be4 c.key) (.slice A n c') wk := RdS.of o fun b hb => hb
  have hck := hc.ext bk
  have hbk := hb.ex bk
  have xk := x0.tr bk
  clear hn o hc hb t0 t1 t2 t3 t4 t5 t6 t7 t8 t9 t10 hl
  obtain ⟨h1, h2, h3, ⟨⟨n1, n2⟩, ⟨n3, n4⟩, ⟨n5, n6⟩, _⟩, h5, d1, d2, d3, d4⟩ := HC.out
  have kind0 : 0 ≤ c.kind := by omega
  have kind1 : c.kind < 9223372036854775808 := by omega
  have num0 : 0 ≤ c.num := by omega
  have num1 : c.num < 9223372036854775808 := by omega
  have iss0 : 0 ≤ c.iss := by omega
  have iss1 : c.iss < 9223372036854775808 := by omega
  have own0 : 0 ≤ c.own := by omega
  have own1 : c.own < 9223372036854775808 := by omega
  have fr0 : 0 ≤ c.fr := by omega
  have fr1 : c.fr < 9223372036854775808 := by omega
  have un0 : 0 ≤ c.un := by omega
  have un1 : c.un < 9223372036854775808 := by omega
  have to0 : 0 ≤ c.to := by omega
  have to1 : c.to < 9223372036854775808 := by omega
  clear h1 h2 h3 n1 n2 n3 n4 n5 n6 h5 d1 d2 d3 d4
  go_wp2_with fail
  refine Gd.wp_region_X 10 (by kernel_rfl) (by kernel_rfl) ?_
  simp only [List.take_succ_cons, List.take_zero, List.drop_succ_cons, List.drop_zero]
  intro w1 hw1
  have LL : ∀ m : Lt w1, Ext wk m.1 := fun m => hw1.tr m.2
  have v6 : ∀ m : Lt w1, m.1.cell? ⟨w.heap.size, 6, none⟩ = some (.int .i64 c.fr) := fun m => (hck.ext (LL m)).cells.2.2.2.2.2.2.1
  have v7 : ∀ m : Lt w1, m.1.cell? ⟨w.heap.size, 7, none⟩ = some (.int .i64 c.un) := fun m => (hck.ext (LL m)).cells.2.2.2.2.2.2.2.1
  have v8 : ∀ m : Lt w1, m.1.cell? ⟨w.heap.size, 8, none⟩ = some (.int .i64 c.to) := fun m => (hck.ext (LL m)).cells.2.2.2.2.2.2.2.2.1
  have BB : ∀ m : Lt w1, wk.heap.size ≤ m.1.heap.size := fun m => (LL m).size
  repeat (refine Gd.wpX_pureP rfl fun K hK => ?_; go_big_quiet_op; refine hK _ ?_; clear hK K)
  refine Gd.wpX_callF (Gd.gR rfl) (GF wk.heap.size (be3 c.fr)) (stable_GF _ _) (fun _ => [.int .i64 c.fr, .int .i64 3]) rfl rfl rfl rfl rfl (by kernel_rfl) rfl (fun _ => rfl) (fun m f hf => beN_3 c.fr ▸ gf_bytes 3 c.fr 3 m.1 (BB m) fr0 fr1 rfl (by omega)) ?_
  simp only [Act.put, List.setIfInBounds_toArray, List.set_cons_zero, List.set_cons_succ]
  repeat (refine Gd.wpX_pureP rfl fun K hK => ?_; go_big_quiet_op; refine hK _ ?_; clear hK K)
  refine Gd.wpX_callF (Gd.gR rfl) (GF wk.heap.size (be3 c.un)) (stable_GF _ _) (fun _ => [.int .i64 c.un, .int .i64 3]) rfl rfl rfl rfl rfl (by kernel_rfl) rfl (fun _ => rfl) (fun m f hf => beN_3 c.un ▸ gf_bytes 3 c.un 3 m.1 (BB m) un0 un1 rfl (by omega)) ?_
  simp only [Act.put, List.setIfInBounds_toArray, List.set_cons_zero, List.set_cons_succ]
  refine Gd.wpX_appF (Gd.gR rfl) (fun v w => Own w wk.heap.size 5 v (bvs (be3 c.fr ++ be3 c.un))) (stable_own _ _ _) (fun f => f 14) (fun f => f 17) rfl rfl rfl rfl rfl rfl (fun _ => rfl) (fun _ => rfl) (fun m f hf => run_appOwn (BB m) (hf 14 _ rfl rfl) (hf 17 _ rfl rfl).gs (by simp [be3]) (by simp [be3]) (by simp [be3])) ?_
  simp only [Act.put, List.setIfInBounds_toArray, List.set_cons_zero, List.set_cons_succ]
  repeat (refine Gd.wpX_pureP rfl fun K hK => ?_; go_big_quiet_op; refine hK _ ?_; clear hK K)
  refine Gd.wpX_callF (Gd.gR rfl) (GF wk.heap.size (be3 c.to)) (stable_GF _ _) (fun _ => [.int .i64 c.to, .int .i64 3]) rfl rfl rfl rfl rfl (by kernel_rfl) rfl (fun _ => rfl) (fun m f hf => beN_3 c.to ▸ gf_bytes 3 c.to 3 m.1 (BB m) to0 to1 rfl (by omega)) ?_
  simp only [Act.put, List.setIfInBounds_toArray, List.set_cons_zero, List.set_cons_succ]
  refine Gd.wpX_endL (fun m f hf => ?_)
  have h18 := hf 18 _ rfl
  have h21 := (hf 21 _ rfl).gs
  simp only [fillH]
  simp only [Act.put, List.setIfInBounds_toArray, List.set_cons_zero, List.set_cons_succ]
  obtain ⟨A18, n18, c18, e18⟩ := Own.slice h18
  obtain ⟨A21, n21, c21, e21⟩ := h21.slice
  rw [e18] at h18 ⊢
  rw [e21] at h21 ⊢
  have Lm := LL m
  obtain ⟨wm, hwm⟩ := m
  clear LL BB v6 v7 v8 hf e18 e21
  show wpList _ _ _ _ _ _
  go_wp2_with (refine appB (B := wk.heap.size) (w0 := wk) (xs := be3 c.fr ++ be3 c.un) (ys := be3 c.to) h18 h21.rd Lm (by simp [be3]) Lm.size rfl rfl rfl rfl ?_; intro Aq nq cq wq hnq oq0 bq gq)
  have oq : GS wz.heap.size (daysB c) (.slice Aq nq cq) wq := RdS.of (xs := bvs (daysB c)) oq0 fun b hb => Nat.le_trans bk.size hb
  have ob2 : GS wz.heap.size (be4 c.key) (.slice A n c') wq := stable_GS _ _ _ _ _ bq ob
  have bk2 := bk.tr bq
  have hck2 := hck.ext bq
  have hbk2 := hbk.ex bq
  have xk2 := xk.tr bq
  clear ob hck hbk xk bk h18 h21 Lm hwm hnq oq0 gq
  refine Gd.wp_region_X 26 (by kernel_rfl) (by kernel_rfl) ?_
  simp only [List.take_succ_cons, List.take_zero, List.drop_succ_cons, List.drop_zero]
  intro w1 hw1
  have LL : ∀ m : Lt w1, Ext wq m.1 := fun m => hw1.tr m.2
  have v0 : ∀ m : Lt w1, m.1.cell? ⟨w.heap.size, 0, none⟩ = some (.string (bstr c.st)) := fun m => (hck2.ext (LL m)).cells.1
  have v1 : ∀ m : Lt w1, m.1.cell? ⟨w.heap.size, 1, none⟩ = some (.int .i64 c.kind) := fun m => (hck2.ext (LL m)).cells.2.1
  have v2 : ∀ m : Lt w1, m.1.cell? ⟨w.heap.size, 2, none⟩ = some (.int .i64 c.num) := fun m => (hck2.ext (LL m)).cells.2.2.1
  have v3 : ∀ m : Lt w1, m.1.cell? ⟨w.heap.size, 3, none⟩ = some (.int .i64 c.iss) := fun m => (hck2.ext (LL m)).cells.2.2.2.1
  have v4 : ∀ m : Lt w1, m.1.cell? ⟨w.heap.size, 4, none⟩ = some (.int .i64 c.own) := fun m => (hck2.ext (LL m)).cells.2.2.2.2.1
  have OB : ∀ m : Lt w1, GS wz.heap.size (be4 c.key) (.slice A n c') m.1 := fun m => stable_GS _ _ _ _ _ (LL m) ob2
  have OR : ∀ m : Lt w1, GS wz.heap.size (daysB c) (.slice Aq nq cq) m.1 := fun m => stable_GS _ _ _ _ _ (LL m) oq
  have BB : ∀ m : Lt w1, wz.heap.size ≤ m.1.heap.size := fun m => Nat.le_trans bk2.size (LL m).size
  repeat (refine Gd.wpX_pureP rfl fun K hK => ?_; go_big_quiet_op; refine hK _ ?_; clear hK K)
  refine Gd.wpX_convL (Gd.gR rfl) (GS wz.heap.size c.st) (stable_GS _ _) (fun _ => .string (bstr c.st)) rfl rfl rfl rfl rfl (fun _ => rfl) (fun m f hf => gs_str m.1 (BB m) c.st sa) ?_
  simp only [Act.put, List.setIfInBounds_toArray, List.set_cons_zero, List.set_cons_succ]
  refine Gd.wpX_callF (Gd.gR rfl) (NdG wz.heap.size 0 (leafN 19 c.st)) (stable_NdG _ _ _) (fun f => [.int .i64 19, f 25]) rfl rfl rfl rfl rfl (by kernel_rfl) rfl (fun f => rfl) (fun m f hf => leafC m.1 19 (hf 25 _ rfl rfl)) ?_
  simp only [Act.put, List.setIfInBounds_toArray, List.set_cons_zero, List.set_cons_succ]
  repeat (refine Gd.wpX_pureP rfl fun K hK => ?_; go_big_quiet_op; refine hK _ ?_; clear hK K)
  refine Gd.wpX_callF (Gd.gR rfl) (GS wz.heap.size [u8 c.kind]) (stable_GS _ _) (fun _ => [.int .i64 c.kind, .int .i64 1]) rfl rfl rfl rfl rfl (by kernel_rfl) rfl (fun _ => rfl) (fun m f hf => (refbytes_any 1 c.kind 1 m.1 kind0 kind1 rfl (by omega)).mono fun _ _ h => (beN_1 c.kind ▸ h : RetB _ _ _ _).gs (BB m)) ?_
  simp only [Act.put, List.setIfInBounds_toArray, List.set_cons_zero, List.set_cons_succ]
  refine Gd.wpX_callF (Gd.gR rfl) (NdG wz.heap.size 0 (leafN 129 [u8 c.kind])) (stable_NdG _ _ _) (fun f => [.int .i64 129, f 29]) rfl rfl rfl rfl rfl (by kernel_rfl) rfl (fun f => rfl) (fun m f hf => leafC m.1 129 (hf 29 _ rfl rfl)) ?_
  simp only [Act.put, List.setIfInBounds_toArray, List.set_cons_zero, List.set_cons_succ]
  repeat (refine Gd.wpX_pureP rfl fun K hK => ?_; go_big_quiet_op; refine hK _ ?_; clear hK K)
  refine Gd.wpX_callF (Gd.gR rfl) (GS wz.heap.size (be4 c.num)) (stable_GS _ _) (fun _ => [.int .i64 c.num, .int .i64 4]) rfl rfl rfl rfl rfl (by kernel_rfl) rfl (fun _ => rfl) (fun m f hf => (refbytes_any 4 c.num 4 m.1 num0 num1 rfl (by omega)).mono fun _ _ h => (beN_4 c.num ▸ h : RetB _ _ _ _).gs (BB m)) ?_
  simp only [Act.put, List.setIfInBounds_toArray, List.set_cons_zero, List.set_cons_succ]
  refine Gd.wpX_callF (Gd.gR rfl) (NdG wz.heap.size 0 (leafN 130 (be4 c.num))) (stable_NdG _ _ _) (fun f => [.int .i64 130, f 33]) rfl rfl rfl rfl rfl (by kernel_rfl) rfl (fun f => rfl) (fun m f hf => leafC m.1 130 (hf 33 _ rfl rfl)) ?_
  simp only [Act.put, List.setIfInBounds_toArray, List.set_cons_zero, List.set_cons_succ]
  repeat (refine Gd.wpX_pureP rfl fun K hK => ?_; go_big_quiet_op; refine hK _ ?_; clear hK K)
  refine Gd.wpX_callF (Gd.gR rfl) (GS wz.heap.size (be4 c.iss)) (stable_GS _ _) (fun _ => [.int .i64 c.iss, .int .i64 4]) rfl rfl rfl rfl rfl (by kernel_rfl) rfl (fun _ => rfl) (fun m f hf => (refbytes_any 4 c.iss 4 m.1 iss0 iss1 rfl (by omega)).mono fun _ _ h => (beN_4 c.iss ▸ h : RetB _ _ _ _).gs (BB m)) ?_
  simp only [Act.put, List.setIfInBounds_toArray, List.set_cons_zero, List.set_cons_succ]
  refine Gd.wpX_callF (Gd.gR rfl) (NdG wz.heap.size 0 (leafN 131 (be4 c.iss))) (stable_NdG _ _ _) (fun f => [.int .i64 131, f 37]) rfl rfl rfl rfl rfl (by kernel_rfl) rfl (fun f => rfl) (fun m f hf => leafC m.1 131 (hf 37 _ rfl rfl)) ?_
  simp only [Act.put, List.setIfInBounds_toArray, List.set_cons_zero, List.set_cons_succ]
  repeat (refine Gd.wpX_pureP rfl fun K hK => ?_; go_big_quiet_op; refine hK _ ?_; clear hK K)
  refine Gd.wpX_callF (Gd.gR rfl) (GS wz.heap.size (be4 c.own)) (stable_GS _ _) (fun _ => [.int .i64 c.own, .int .i64 4]) rfl rfl rfl rfl rfl (by kernel_rfl) rfl (fun _ => rfl) (fun m f hf => (refbytes_any 4 c.own 4 m.1 own0 own1 rfl (by omega)).mono fun _ _ h => (beN_4 c.own ▸ h : RetB _ _ _ _).gs (BB m)) ?_
  simp only [Act.put, List.setIfInBounds_toArray, List.set_cons_zero, List.set_cons_succ]
  refine Gd.wpX_callF (Gd.gR rfl) (NdG wz.heap.size 0 (leafN 132 (be4 c.own))) (stable_NdG _ _ _) (fun f => [.int .i64 132, f 41]) rfl rfl rfl rfl rfl (by kernel_rfl) rfl (fun f => rfl) (fun m f hf => leafC m.1 132 (hf 41 _ rfl rfl)) ?_
  simp only [Act.put, List.setIfInBounds_toArray, List.set_cons_zero, List.set_cons_succ]
  repeat (refine Gd.wpX_pureP rfl fun K hK => ?_; go_big_quiet_op; refine hK _ ?_; clear hK K)
  refine Gd.wpX_callF (Gd.gR rfl) (NdG wz.heap.size 0 (leafN 133 (be4 c.key))) (stable_NdG _ _ _) (fun f => [.int .i64 133, .slice A n c']) rfl rfl rfl rfl rfl (by kernel_rfl) rfl (fun f => rfl) (fun m f hf => leafC m.1 133 (OB m)) ?_
  simp only [Act.put, List.setIfInBounds_toArray, List.set_cons_zero, List.set_cons_succ]
  repeat (refine Gd.wpX_pureP rfl fun K hK => ?_; go_big_quiet_op; refine hK _ ?_; clear hK K)
  refine Gd.wpX_callF (Gd.gR rfl) (NdG wz.heap.size 0 (leafN 134 (daysB c))) (stable_NdG _ _ _) (fun f => [.int .i64 134, .slice Aq nq cq]) rfl rfl rfl rfl rfl (by kernel_rfl) rfl (fun f => rfl) (fun m f hf => leafC m.1 134 (OR m)) ?_
  simp only [Act.put, List.setIfInBounds_toArray, List.set_cons_zero, List.set_cons_succ]
  refine Gd.wpX_buildSL (Gd.gR rfl) (NdsG wz.heap.size 1 (bodyN c).kids) (stable_NdsG _ _ _) (fun f => [(0, f 26), (1, f 30), (2, f 34), (3, f 38), (4, f 42), (5, f 44), (6, f 46)]) rfl rfl rfl rfl rfl (fun f => rfl) (fun m f hf => run_nodes7 m.1 (BB m) (hf 26 _ rfl rfl) (hf 30 _ rfl rfl) (hf 34 _ rfl rfl) (hf 38 _ rfl rfl) (hf 42 _ rfl rfl) (hf 44 _ rfl rfl) (hf 46 _ rfl rfl)) ?_
  simp only [Act.put, List.setIfInBounds_toArray, List.set_cons_zero, List.set_cons_succ]
  refine Gd.wpX_buildL (Gd.gR rfl) (NdG wz.heap.size 1 (bodyN c)) (stable_NdG _ _ _) (fun f => [(0, .int .i64 48), (2, f 47)]) rfl rfl rfl rfl rfl (fun f => rfl) (fun m f hf => run_cons m.1 48 (hf 47 _ rfl rfl)) ?_
  simp only [Act.put, List.setIfInBounds_toArray, List.set_cons_zero, List.set_cons_succ]
  refine Gd.wpX_endL (fun m f hf => ?_)
  obtain ⟨A1, n1, c1, A2, n2, c2, e49, r49, k49⟩ := hf 48 _ rfl
  rw [show (bodyN c).tag = 48 from rfl] at e49
  simp only [fillH]
  simp only [Act.put, List.setIfInBounds_toArray, List.set_cons_zero, List.set_cons_succ]
  rw [e49]
  have Lm := LL m
  have xm := xk2.tr Lm
  obtain ⟨wy, hwy⟩ := m
  clear LL BB OB OR v0 v1 v2 v3 v4 hf e49
  have hby := hbk2.ex Lm
  have NB := Lib.hid (node_back (w := w) (t := bodyN c) x0.size hsz r49 k49 (.int .i64 48) (.slice A1 n1 c1) (.slice A2 n2 c2))
  clear r49 k49 hck2
  obtain ⟨y0, y1, y2, yf0, yf1, yf2⟩ := hby.cells
  obtain ⟨w0', w1', w2', _, _, _⟩ := (hby.set3 (.int .i64 48) (.slice A1 n1 c1) (.slice A2 n2 c2)).cells
  have hl := hby.lt
  show wpList _ _ _ _ _ _
  go_wp2_with fail
  refine bodyPost_ret (v := .agg #[.int .i64 48, .slice A1 n1 c1, .slice A2 n2 c2]) ?_ rfl ⟨ext_set3 xm (by omega) _ _ _, _, NB.out, rfl⟩
  simp [results, Tryz.results167, go_sem, w0', w1', w2']
end Go.Proofs.YtmmoenkmicimcaaGreatDoor
namespace Go.Proofs.YtmmoenkmicimcaaGreatDoor
open Go.RowKit
set_option linter.unusedVariables false
set_option maxRecDepth 100000
theorem ncnt_body (c : NC) : cntNs 2 [bodyN c] ≤ 256 := show 8 ≤ 256 by omega
theorem nbody_4096 {c : NC} (h : ckN c = 0) : (encNs 2 [bodyN c]).length ≤ 4096 := by
  have := bodyNB_len (ckN_ok h).1.1.2
  unfold bodyNB at this
  omega
set_option maxHeartbeats 1000000 in
theorem nbody_any (c : NC) (w : World) (hs : smN c) : Calls Tryz.prog 179 #[ncV c] w (RetRE w (byN c) (ckN c)) := by
  have x0 : Ext w (w.alloc (ncO c)) := (Below.refl _ _).alloc (Nat.le_refl _) _
  unfold ncV
  go_enter Tryz.func179, Tryz.ntmps179
  go_wp2_with fail
  refine (nationalcert_check c _ hs).mono ?_
  rintro e w1 ⟨rfl, b1⟩
  have x1 := x0.tr b1
  have hT := (NcAt.new w c).ext b1
  by_cases hc : ckN c = 0
  · have HK := Lib.hid hc
    have HB := Lib.hid (show byN c = bodyNB c from if_pos hc)
    rw [hc]
    clear hc
    obtain ⟨t0, t1, t2, t3, t4, t5, t6, t7, t8, t9, t10⟩ := hT.cells
    have hl := hT.lt
    go_wp2_with fail
    refine (ntree_ok c _ HK.out).mono ?_
    rintro e w2 ⟨b2, v, hv, rfl⟩
    obtain ⟨A1, n1, c1, A2, n2, c2, rfl⟩ := node_open hv
    have x2 := x1.tr b2
    have hv0 := stable_NdG _ _ _ _ _ _ ((Below.refl _ _).alloc (Nat.le_refl _) (.cells #[.int .i64 48, .slice A1 n1 c1, .slice A2 n2 c2] 94)) hv.zero
    have x3 : Ext w ((w2.alloc (.cells #[.int .i64 48, .slice A1 n1 c1, .slice A2 n2 c2] 94)).alloc (.cells #[.int .i64 48, .slice A1 n1 c1, .slice A2 n2 c2] 94)) := (x2.alloc x2.size _).alloc (by simp; have := x2.size; omega) _
    have HV := Lib.hid hv0
    clear hv hv0 t0 t1 t2 t3 t4 t5 t6 t7 t8 t9 t10 hT hl
    rw [show (bodyN c).tag = 48 from rfl]
    go_wp2_with fail
    refine (encode_ok (d := 2) (ts := [bodyN c]) _ (ok_bodyN c) (nds_one (t := bodyN c) (by simp) HV.out) (by omega) (ncnt_body c) (nbody_4096 HK.out)).mono ?_
    rintro e w4 ⟨A, n, cc, rfl, hn, o, b4⟩
    go_wp2_with fail
    go_ret2
    rw [HB.out, HK.out]
    exact ⟨_, _, _, rfl, hn, o.rd, x3.tr b4⟩
  · have hb : (ckN c != 0) = true := by simpa using hc
    have HB := Lib.hid (show byN c = [] from if_neg hc)
    clear hc
    go_wp2_with fail
    go_ret2
    rw [HB.out]
    exact ⟨_, _, _, rfl, (show _ = _ from rfl), Rd.nil_ _, x1⟩
set_option maxHeartbeats 1000000 in
theorem nrefbody_any (c : NC) (w : World) (hs : smN c) : Calls Tryz.prog 148 #[ncV c] w (RetRE w (byN c) (ckN c)) := by
  have x0 : Ext w (w.alloc (ncO c)) := (Below.refl _ _).alloc (Nat.le_refl _) _
  unfold ncV
  go_enter Tryz.func148, Tryz.ntmps148
  go_wp2_with fail
  refine (traveldocref29_check c _ hs).mono ?_
  rintro e w1 ⟨rfl, b1⟩
  have x1 := x0.tr b1
  have hT := (NcAt.new w c).ext b1
  by_cases hc : ckN c = 0
  · have HK := Lib.hid hc
    have HB := Lib.hid (show byN c = bodyNB c from if_pos hc)
    rw [hc]
    clear hc
    obtain ⟨t0, t1, t2, t3, t4, t5, t6, t7, t8, t9, t10⟩ := hT.cells
    have hl := hT.lt
    go_wp2_with fail
    refine (nrefbody_ok c _ HK.out).mono ?_
    rintro e w2 ⟨b2, v, hv, rfl⟩
    obtain ⟨A1, n1, c1, A2, n2, c2, rfl⟩ := node_open hv
    have x2 := x1.tr b2
    have x3 : Ext w (w2.alloc (.cells #[.int .i64 48, .slice A1 n1 c1, .slice A2 n2 c2] 94)) := x2.alloc x2.size _
    have HV := Lib.hid hv.zero
    clear hv t0 t1 t2 t3 t4 t5 t6 t7 t8 t9 t10 hT hl
    rw [show (bodyN c).tag = 48 from rfl]
    simp only [id]
    go_wp2_with fail
    refine (refencode_ok (d := 2) (ts := [bodyN c]) _ (ok_bodyN c) (nds_one (t := bodyN c) rfl HV.out) (by omega) (ncnt_body c) (nbody_4096 HK.out)).mono ?_
    rintro e w4 ⟨A, n, cc, rfl, hn, o, b4⟩
    go_wp2_with fail
    go_ret2
    rw [HB.out, HK.out]
    exact ⟨_, _, _, rfl, hn, o.rd, x3.tr b4⟩
  · have hb : (ckN c != 0) = true := by simpa using hc
    have HB := Lib.hid (show byN c = [] from if_neg hc)
    clear hc
    go_wp2_with fail
    go_ret2
    rw [HB.out]
    exact ⟨_, _, _, rfl, (show _ = _ from rfl), Rd.nil_ _, x1⟩
end Go.Proofs.YtmmoenkmicimcaaGreatDoor
namespace Go.Proofs.YtmmoenkmicimcaaGreatDoor
open Go.RowKit
set_option linter.unusedVariables false
set_option maxRecDepth 100000
set_option maxHeartbeats 1000000 in
theorem nrefissue_any (k : Int) (c : NC) (w : World) (hs : smN c) (E : KTab w 0) : Calls Tryz.prog 109 #[.int .i64 k, ncV c] w (RetQ w (.tuple #[ncV (isCN k c), .int .i64 (isKN k c)])) := by
  obtain ⟨wz, hwz, T⟩ := two_allocN w c
  unfold ncV
  go_enter Tryz.func109, Tryz.ntmps109
  go_wp2_with fail
  rw [← hwz]
  clear hwz
  refine (nrefbody_any c _ hs).mono ?_
  rintro e w1 ⟨A, n, cc, rfl, hn, r, b1⟩
  have T1 := T.tr b1
  clear T
  have x1 := T1.ext
  by_cases hc : ckN c = 0
  · have HK := Lib.hid hc
    rw [hc]
    have hlen := byN_len c
    clear hc
    go_wp2_with fail
    refine (refsign_any k _ r (by omega) (E.below x1)).mono ?_
    rintro e w2 ⟨rfl, b2⟩
    have T2 := T1.tr b2
    have x2 := T2.ext
    clear T1 x1 hn r hlen
    unfold sgV
    rw [show byN c = bodyNB c from if_pos HK.out]
    obtain ⟨t0, t1, t2, t3, t4, t5, t6, t7, t8, t9, t10⟩ := T2.c.cells
    have hl := T2.c.lt
    have hlr := T2.r.lt
    have f7 := T2.c.frozen 9
    have f8 := T2.c.frozen 10
    obtain ⟨r0, r1, r2, r3, r4, r5, r6, r7, r8, r9, r10⟩ := T2.r.cells
    have g0 := T2.r.frozen 0
    have g1 := T2.r.frozen 1
    have g2 := T2.r.frozen 2
    have g3 := T2.r.frozen 3
    have g4 := T2.r.frozen 4
    have g5 := T2.r.frozen 5
    have g6 := T2.r.frozen 6
    have g7 := T2.r.frozen 7
    have g8 := T2.r.frozen 8
    have g9 := T2.r.frozen 9
    have g10 := T2.r.frozen 10
    by_cases hk : sK k = 0
    · have HI := Lib.hid (show isCN k c = updN c (sE k (bodyNB c)) (sS k (bodyNB c)) from if_pos ⟨HK.out, hk⟩)
      have HJ := Lib.hid (show isKN k c = 0 by unfold isKN; rw [if_pos HK.out, hk])
      rw [hk]
      clear hk
      generalize sE k (bodyNB c) = es at *
      generalize sS k (bodyNB c) = ss at *
      obtain ⟨wa, hwa, sa⟩ := sg_alloc w2 es ss
      have hwb := hwa.symm
      clear hwa
      have T3 := T2.tr sa.ext
      have s0 := sa.c0
      have s1 := sa.c1
      have sl := sa.lt
      clear sa
      clear t0 t1 t2 t3 t4 t5 t6 t7 t8 t9 t10 hl hlr f7 f8 r0 r1 r2 r3 r4 r5 r6 r7 r8 r9 r10 g0 g1 g2 g3 g4 g5 g6 g7 g8 g9 g10
      obtain ⟨t0, t1, t2, t3, t4, t5, t6, t7, t8, t9, t10⟩ := T3.c.cells
      have hl := T3.c.lt
      have hlr := T3.r.lt
      have f7 := T3.c.frozen 9
      have f8 := T3.c.frozen 10
      obtain ⟨r0, r1, r2, r3, r4, r5, r6, r7, r8, r9, r10⟩ := T3.r.cells
      have g0 := T3.r.frozen 0
      have g1 := T3.r.frozen 1
      have g2 := T3.r.frozen 2
      have g3 := T3.r.frozen 3
      have g4 := T3.r.frozen 4
      have g5 := T3.r.frozen 5
      have g6 := T3.r.frozen 6
      have g7 := T3.r.frozen 7
      have g8 := T3.r.frozen 8
      have g9 := T3.r.frozen 9
      have g10 := T3.r.frozen 10
      go_wp2_with fail
      have TR := (T3.r.other (b := w.heap.size) (i := 9) (v := .int .i64 es) (by omega)).other (b := w.heap.size) (i := 10) (v := .int .i64 ss) (by omega)
      have TZ : NcAt (set11 ((wa.setCell ⟨w.heap.size, 9, none⟩ (.int .i64 es)).setCell ⟨w.heap.size, 10, none⟩ (.int .i64 ss)) (w.heap.size + 1) (.string (bstr c.st)) (.int .i64 c.kind) (.int .i64 c.num) (.int .i64 c.iss) (.int .i64 c.own) (.int .i64 c.key) (.int .i64 c.fr) (.int .i64 c.un) (.int .i64 c.to) (.int .i64 es) (.int .i64 ss)) (w.heap.size + 1) (updN c es ss) := TR.setN (updN c es ss)
      refine bodyPost_ret (v := .tuple #[ncV (updN c es ss), .int .i64 0]) ?_ rfl ⟨by rw [HI.out, HJ.out]; rfl, ext_setN (ext_set (ext_set T3.ext (Nat.le_refl _)) (Nat.le_refl _)) (by omega) (updN c es ss)⟩
      obtain ⟨q0, q1, q2, q3, q4, q5, q6, q7, q8, q9, q10⟩ := TZ.cells
      clear r0 r1 r2 r3 r4 r5 r6 r7 r8 r9 r10 t0 t1 t2 t3 t4 t5 t6 t7 t8 t9 t10
      simp [results, Tryz.results109, go_sem, ncV, q0, q1, q2, q3, q4, q5, q6, q7, q8, q9, q10]
    · have HI := Lib.hid (show isCN k c = zeroN from if_neg (fun q => hk q.2))
      have HJ := Lib.hid (show isKN k c = sK k from if_pos HK.out)
      have hb : (sK k != 0) = true := by simpa using hk
      clear hk
      generalize sE k (bodyNB c) = es at *
      generalize sS k (bodyNB c) = ss at *
      obtain ⟨wa, hwa, sa⟩ := sg_alloc w2 es ss
      have hwb := hwa.symm
      clear hwa
      have T3 := T2.tr sa.ext
      have s0 := sa.c0
      have s1 := sa.c1
      have sl := sa.lt
      clear sa
      clear t0 t1 t2 t3 t4 t5 t6 t7 t8 t9 t10 hl hlr f7 f8 r0 r1 r2 r3 r4 r5 r6 r7 r8 r9 r10 g0 g1 g2 g3 g4 g5 g6 g7 g8 g9 g10
      obtain ⟨t0, t1, t2, t3, t4, t5, t6, t7, t8, t9, t10⟩ := T3.c.cells
      have hl := T3.c.lt
      have hlr := T3.r.lt
      have f7 := T3.c.frozen 9
      have f8 := T3.c.frozen 10
      obtain ⟨r0, r1, r2, r3, r4, r5, r6, r7, r8, r9, r10⟩ := T3.r.cells
      have g0 := T3.r.frozen 0
      have g1 := T3.r.frozen 1
      have g2 := T3.r.frozen 2
      have g3 := T3.r.frozen 3
      have g4 := T3.r.frozen 4
      have g5 := T3.r.frozen 5
      have g6 := T3.r.frozen 6
      have g7 := T3.r.frozen 7
      have g8 := T3.r.frozen 8
      have g9 := T3.r.frozen 9
      have g10 := T3.r.frozen 10
      go_wp2_with fail
      have TZ : NcAt (set11 wa (w.heap.size + 1) (.string ⟨#[]⟩) (.int .i64 0) (.int .i64 0) (.int .i64 0) (.int .i64 0) (.int .i64 0) (.int .i64 0) (.int .i64 0) (.int .i64 0) (.int .i64 0) (.int .i64 0)) (w.heap.size + 1) zeroN := T3.r.setN zeroN
      refine bodyPost_ret (v := .tuple #[ncV zeroN, .int .i64 (sK k)]) ?_ rfl ⟨by rw [HI.out, HJ.out]; rfl, ext_setN T3.ext (by omega) zeroN⟩
      obtain ⟨q0, q1, q2, q3, q4, q5, q6, q7, q8, q9, q10⟩ := TZ.cells
      clear r0 r1 r2 r3 r4 r5 r6 r7 r8 r9 r10 t0 t1 t2 t3 t4 t5 t6 t7 t8 t9 t10
      simp [results, Tryz.results109, go_sem, ncV, q0, q1, q2, q3, q4, q5, q6, q7, q8, q9, q10]
  · have HI := Lib.hid (show isCN k c = zeroN from if_neg (fun q => hc q.1))
    have HJ := Lib.hid (show isKN k c = ckN c from if_neg hc)
    have hb : (ckN c != 0) = true := by simpa using hc
    clear hc r hn
    obtain ⟨r0, r1, r2, r3, r4, r5, r6, r7, r8, r9, r10⟩ := T1.r.cells
    have hlr := T1.r.lt
    have g0 := T1.r.frozen 0
    have g1 := T1.r.frozen 1
    have g2 := T1.r.frozen 2
    have g3 := T1.r.frozen 3
    have g4 := T1.r.frozen 4
    have g5 := T1.r.frozen 5
    have g6 := T1.r.frozen 6
    have g7 := T1.r.frozen 7
    have g8 := T1.r.frozen 8
    have g9 := T1.r.frozen 9
    have g10 := T1.r.frozen 10
    go_wp2_with fail
    refine bodyPost_ret (v := .tuple #[ncV zeroN, .int .i64 (ckN c)]) ?_ rfl ⟨by rw [HI.out, HJ.out]; rfl, ext_setN x1 (by omega) zeroN⟩
    have TZ : NcAt (set11 w1 (w.heap.size + 1) (.string ⟨#[]⟩) (.int .i64 0) (.int .i64 0) (.int .i64 0) (.int .i64 0) (.int .i64 0) (.int .i64 0) (.int .i64 0) (.int .i64 0) (.int .i64 0) (.int .i64 0)) (w.heap.size + 1) zeroN := T1.r.setN zeroN
    obtain ⟨q0, q1, q2, q3, q4, q5, q6, q7, q8, q9, q10⟩ := TZ.cells
    clear r0 r1 r2 r3 r4 r5 r6 r7 r8 r9 r10
    simp [results, Tryz.results109, go_sem, ncV, q0, q1, q2, q3, q4, q5, q6, q7, q8, q9, q10]

set_option maxHeartbeats 1000000 in
theorem nverify_any (p : Int) (c : NC) (w : World) (hs : smN c) (E : KTab w 1) : Calls Tryz.prog 169 #[.int .i64 p, ncV c] w (RetQ w (.bool (vfN p c))) := by
  have x0 : Ext w (w.alloc (ncO c)) := (Below.refl _ _).alloc (Nat.le_refl _) _
  unfold ncV
  go_enter Tryz.func169, Tryz.ntmps169
  go_wp2_with fail
  refine (nbody_any c _ hs).mono ?_
  rintro e w1 ⟨A, n, cc, rfl, hn, r, b1⟩
  have x1 := x0.tr b1
  have hT := (NcAt.new w c).ext b1
  by_cases hc : ckN c = 0
  · have HV := Lib.hid (show vfN p c = verB p (bodyNB c) c.e c.s from if_pos hc)
    rw [show byN c = bodyNB c from if_pos hc] at r
    have hlen := byN_len c
    rw [show byN c = bodyNB c from if_pos hc] at hlen
    rw [hc]
    clear hc
    obtain ⟨_, _, _, _, _, _, _, _, _, t9, t10⟩ := hT.cells
    have hl := hT.lt
    go_wp2_with fail
    refine (verify_any p c.e c.s _ r (by omega) (E.below x1)).mono ?_
    rintro e w2 ⟨rfl, b2⟩
    go_wp2_with fail
    go_ret
    exact ⟨by rw [HV.out]; rfl, x1.tr b2⟩
  · have hb : (ckN c == 0) = false := by simpa using hc
    have HV := Lib.hid (show vfN p c = false from if_neg hc)
    clear hc
    go_wp2_with fail
    go_ret
    exact ⟨by rw [HV.out]; rfl, x1⟩

set_option maxHeartbeats 1000000 in
theorem nationalcert_root (c : NC) (w : World) (hs : smN c) (E : KTab w 1) : Calls Tryz.prog 152 #[ncV c] w (RetQ w (.bool (rtN c))) := by
  obtain ⟨wz, hwz, z0, zr⟩ := nc_alloc w c
  unfold ncV
  go_enter Tryz.func152, Tryz.ntmps152
  by_cases hk : c.kind = 1
  · have HV := Lib.hid (show rtN c = vfN c.key c from if_pos hk)
    have hb : (c.kind == 1) = true := by simp [hk]
    clear hk
    go_wp2_with fail
    rw [← hwz]
    clear hwz
    obtain ⟨t0, t1, t2, t3, t4, t5, t6, t7, t8, t9, t10⟩ := zr.cells
    have hl := zr.lt
    go_wp2_with fail
    refine (nverify_any c.key c _ hs (E.below z0)).mono ?_
    rintro e w2 ⟨rfl, b2⟩
    go_wp2_with fail
    go_ret
    exact ⟨by rw [HV.out]; rfl, z0.tr b2⟩
  · have hb : (c.kind == 1) = false := by simpa using hk
    have HV := Lib.hid (show rtN c = false from if_neg hk)
    clear hk
    go_wp2_with fail
    go_ret
    exact ⟨by rw [HV.out]; rfl, (Below.refl _ _).alloc (Nat.le_refl _) _⟩
end Go.Proofs.YtmmoenkmicimcaaGreatDoor
namespace Go.Proofs.YtmmoenkmicimcaaGreatDoor
open Go.RowKit
set_option linter.unusedVariables false
theorem ext_setRow {w w' : World} {g : Nat} (h : Ext w w') (hg : w.heap.size ≤ g) (cs : Array Value) : Ext w (w'.setRow g cs) := below_setRow h hg cs
theorem Gb.setRow (g : Nat) (W : World) (cs : Array Value) : Gb g W (W.setRow g cs) := ⟨rfl, rfl, rfl, by simp, fun k hk hne => setRow_other W g k cs (fun q => hne (by rw [q]))⟩
theorem setRow_block {w : World} {g k : Nat} {cs : Array Value} (h : k ≠ g) : (w.setRow g cs).heap[k]? = w.heap[k]? := setRow_other w g k cs h
/-- The world with its first B blocks alone. -/
theorem cut_world {w wr : World} {B : Nat} (e : Ext w wr) (h1 : w.heap.size ≤ B) (h2 : B ≤ wr.heap.size) : ∃ w0 : World, w0.heap.size = B ∧ Ext w0 wr ∧ Ext w w0 := by
  have hs : (wr.heap.extract 0 B).size = B := by simp; omega
  have hk : ∀ k, k < B → (wr.heap.extract 0 B)[k]? = wr.heap[k]? := fun k hk => by
    rw [Array.getElem?_extract]
    simp
    intro q
    omega
  exact ⟨{ wr with heap := wr.heap.extract 0 B }, hs, ⟨rfl, rfl, rfl, by show (wr.heap.extract 0 B).size ≤ _; omega, fun k q => (hk k (by rw [← hs]; exact q)).symm⟩,
    ⟨e.os, e.tape, e.output, by show _ ≤ (wr.heap.extract 0 B).size; omega, fun k q => (hk k (by omega)).trans (e.block k q)⟩⟩
section
variable {P : Program} {ty t : TypeId} {w : World} {g : Nat} {old cells : Array Value}
theorem row_store (hg : w.heap[g]? = some (.cells old t (0, 0))) (hi : (P.info? ty).map (·.size) = some cells.size) (ho : old.size = cells.size) (h1 : cells.all (·.oneCell') = true) :
    (Instr.storeAt ty (.pointer (some ⟨g, 0, none⟩)) (.agg cells)).run P w = .ok () (w.setRow g cells) := by
  simp only [Instr.storeAt, Instr.sureAddr, Sem.run_bind, Sem.run_pure, Result.andThen_ok, run_storeVar_row w g t ty old cells hg hi ho h1]
/-- The store of a whole row in a walk, its cells named by the caller. -/
theorem wpRow_store {ops : Array Oper} {rest : List Oper} {o : Oper} {a : Act} {w : World} {Q : Exit → Act → World → Prop} (hgd : o.guard = none) (ty : TypeId) (x y : Operand) (ho : o.op = .store ty x y)
    (hd : o.dst = none) (g : Nat) (cells : Array Value) (hx : a.eval x = .pointer (some ⟨g, 0, none⟩)) (hy : a.eval y = .agg cells)
    (t : TypeId) (old : Array Value) (hg : w.heap[g]? = some (.cells old t (0, 0))) (hi : (P.info? ty).map (·.size) = some cells.size)
    (hold : old.size = cells.size) (h1 : cells.all (·.oneCell') = true)
    (h : wpList P ops Q rest a (w.setRow g cells)) : wpList P ops Q (o :: rest) a w :=
  wpList_store_row hgd ty x y ho g cells hx hy t old hg hi hold h1 (by rw [hd]; exact h)
theorem row_at (hg : w.heap[g]? = some (.cells old t (0, 0))) : (w.setRow g cells).heap[g]? = some (.cells cells t (0, 0)) := setRow_heap w g old cells t (0, 0) hg
end
end Go.Proofs.YtmmoenkmicimcaaGreatDoor
namespace Go.Proofs.YtmmoenkmicimcaaGreatDoor
open Go.RowKit
set_option linter.unusedVariables false
set_option maxRecDepth 100000
def wf64 (x : Int) : Prop := -9223372036854775808 ≤ x ∧ x < 9223372036854775808
/-- The dice's block D, their numbers in block b: L is what is left. -/
def DiceAt (w : World) (D b : Nat) (L : List Int) : Prop :=
  ∃ (A : Option Addr) (n c k : Nat) (full : List Int), w.heap[D]? = some (.cells #[.slice A n c, .int .i64 (k : Int)] 107 (0, 0)) ∧ n = full.length ∧ k ≤ n ∧ L = full.drop k ∧ n ≤ c ∧ c ≤ maxLen ∧ b < w.heap.size ∧ (∀ x ∈ full, wf64 x) ∧
    (0 < n → ∃ o, A = some ⟨b, o, none⟩ ∧ b ≠ D ∧ ∀ j, j < n → w.cell? ⟨b, o + j, none⟩ = some (.int .i64 (full.getD j 0)))
theorem DiceAt.lt {w : World} {D b : Nat} {L : List Int} (h : DiceAt w D b L) : D < w.heap.size := by
  obtain ⟨A, n, c, k, full, h1, _⟩ := h
  exact block_lt h1
theorem DiceAt.ltb {w : World} {D b : Nat} {L : List Int} (h : DiceAt w D b L) : b < w.heap.size := by
  obtain ⟨A, n, c, k, full, h1, h2, h3, h4, h5, h6, h7, _⟩ := h
  exact h7
theorem DiceAt.keep {w w' : World} {D b : Nat} {L : List Int} (h : DiceAt w D b L) (h1 : w'.heap[D]? = w.heap[D]?) (h2 : w'.heap[b]? = w.heap[b]?) : DiceAt w' D b L := by
  obtain ⟨A, n, c, k, full, e1, e2, e3, e4, e5, e6, e7, e8, e9⟩ := h
  refine ⟨A, n, c, k, full, h1.trans e1, e2, e3, e4, e5, e6, ?_, e8, fun h0 => ?_⟩
  · have : w'.heap[b]?.isSome = true := by rw [h2]; simp [e7]
    simpa using this
  · obtain ⟨o, q1, q2, q3⟩ := e9 h0
    exact ⟨o, q1, q2, fun j hj => (World.cell?_of_block h2).trans (q3 j hj)⟩
theorem DiceAt.ext {w w' : World} {D b : Nat} {L : List Int} (h : DiceAt w D b L) (e : Ext w w') : DiceAt w' D b L := h.keep (e.block D h.lt) (e.block b h.ltb)
theorem DiceAt.gb {w w' : World} {D b g : Nat} {L : List Int} (h : DiceAt w D b L) (e : Gb g w w') (h1 : D ≠ g) (h2 : b ≠ g) : DiceAt w' D b L :=
  h.keep (e.block D h.lt (fun q => h1 (by injection q))) (e.block b h.ltb (fun q => h2 (by injection q)))
/-- What the dice give. -/
def dv (L : List Int) (n : Int) : Int := match L with
  | [] => 0
  | x :: _ => modI x n
theorem dv_bd (L : List Int) {n : Int} (h : 1 ≤ n) : 0 ≤ dv L n ∧ dv L n < n := by
  cases L with
  | nil => exact ⟨Int.le_refl _, by show (0 : Int) < n; omega⟩
  | cons x L => exact modI_bd h
/-- A throw: its value, and the dice behind it. -/
def ThrowR (w : World) (D b : Nat) (L : List Int) (n : Int) (e : Ending) (w' : World) : Prop := e = .returned (.int .i64 (dv L n)) ∧ Gb D w w' ∧ DiceAt w' D b L.tail ∧ w'.heap.size = w.heap.size
theorem elemI : Elem Tryz.prog 22 3 8 := by
  have h : (Tryz.prog.info? 3).map (fun i => (i.zero, i.size, i.bytes)) = some (some (.int .i64 0), 1, 8) := by kernel_rfl
  obtain ⟨i, h1, h2, h3, h4⟩ := info_parts h
  exact ⟨i, _, Tryz.underlying22, h1, h2, h3, h4, rfl⟩
theorem dice_mk {w : World} {B : Nat} {A : Option Addr} {n c : Nat} {l : List Int} (h : Own w B 3 (.slice A n c) (l.map (Value.int .i64))) (hB : B ≤ w.heap.size) (hw : ∀ x ∈ l, wf64 x) :
    ∃ b, B ≤ b ∧ DiceAt (w.alloc (.cells #[.slice A n c, .int .i64 0] 107)) w.heap.size b l := by
  have e : Ext w (w.alloc (.cells #[.slice A n c, .int .i64 0] 107)) := (Below.refl _ _).alloc (Nat.le_refl _) _
  obtain ⟨A', n', c', hv, hn, hcase⟩ := h
  injection hv with h1 h2 h3
  subst h1 h2 h3
  rw [List.length_map] at hn
  rcases hcase with ⟨h0, hc0⟩ | ⟨g, cur, hA, hg, hcur, hnc, hcm, hcs, ht⟩
  · exact ⟨w.heap.size, hB, A, n, c, 0, l, heap_alloc_new' w _, hn, by omega, rfl, by omega, by unfold maxLen; omega, by simp, hw, fun h => absurd h (by omega)⟩
  · have hgl := block_lt hcur
    refine ⟨g, hg, A, n, c, 0, l, heap_alloc_new' w _, hn, by omega, rfl, hnc, hcm, by simp; omega, hw, fun h => ⟨0, hA, by omega, fun j hj => ?_⟩⟩
    refine (e.cell (p := ⟨g, 0 + j, none⟩) hgl).trans ?_
    rw [Nat.zero_add, cell_of_row w g j cur _ _ hcur]
    have hj' : (l.map (Value.int .i64))[j]? = some (.int .i64 (l.getD j 0)) := by
      rw [List.getElem?_map, List.getElem?_eq_getElem (by omega)]
      simp [List.getD_eq_getElem?_getD, hn ▸ hj]
    rw [← ht, List.getElem?_take, if_pos hj] at hj'
    simpa using hj'
theorem roll_any {v : Value} {l : List Int} (w : World) (h : RdI w .i64 v l) (hw : ∀ x ∈ l, wf64 x) (hl : l.length ≤ 1000) :
    Calls Tryz.prog 27 #[v] w fun e w' => ∃ D b, e = .returned (.pointer (some ⟨D, 0, none⟩)) ∧ w.heap.size ≤ D ∧ w.heap.size ≤ b ∧ DiceAt w' D b l ∧ Ext w w' := by
  have h1 : ∀ u ∈ l.map (Value.int .i64), u.oneCell' = true := by
    intro u hu
    obtain ⟨x, _, rfl⟩ := List.mem_map.1 hu
    rfl
  have hm : l.length ≤ maxLen := by unfold maxLen; omega
  go_enter Tryz.func27, Tryz.ntmps27
  go_wp2_with (refine wpList_app (B := w.heap.size) (w0 := w) elemI (Own.empty _ _ _ _) (by first | exact h | exact Rd.ext h ((Below.refl _ _).alloc (Nat.le_refl _) _)) h1 (by first | exact Below.refl _ _ | exact (Below.refl _ _).alloc (Nat.le_refl _) _) (by simp; omega) (by simpa using hm) (by first | exact Nat.le_refl _ | simp) rfl rfl rfl rfl ?_; intro A c w1 o1 b1 g1)
  simp only [List.nil_append, List.length_nil, List.length_map, Nat.zero_add] at o1
  obtain ⟨b, hb, hd⟩ := dice_mk o1 b1.size hw
  go_ret
  exact ⟨_, b, rfl, b1.size, hb, hd, b1.alloc b1.size _⟩
theorem getD_drop {full : List Int} {k : Nat} {x : Int} {L : List Int} (h : x :: L = full.drop k) : full.getD k 0 = x ∧ L = full.drop (k + 1) ∧ k < full.length := by
  have hk : k < full.length := by
    rcases Nat.lt_or_ge k full.length with q | q
    · exact q
    · rw [List.drop_of_length_le q] at h; cases h
  rw [List.drop_eq_getElem_cons hk] at h
  injection h with h1 h2
  exact ⟨by simp [List.getD_eq_getElem?_getD, hk, h1], h2, hk⟩
set_option maxHeartbeats 1000000 in
theorem next_any {D b : Nat} {L : List Int} (n : Int) (w : World) (h : DiceAt w D b L) (n2 : n ≤ 4611686018427387904) :
    Calls Tryz.prog 28 #[.pointer (some ⟨D, 0, none⟩), .int .i64 n] w (ThrowR w D b L n) := by
  have hD := h.lt
  have HH := Lib.hid h
  obtain ⟨A, m, c, k, full, e1, e2, e3, e4, e5, e6, e7, e8, e9⟩ := h
  subst e2
  have c0 : w.cell? ⟨D, 0, none⟩ = some (.slice A full.length c) := by rw [cell_of_row w D 0 _ _ _ e1]; rfl
  have c1 : w.cell? ⟨D, 1, none⟩ = some (.int .i64 (k : Int)) := by rw [cell_of_row w D 1 _ _ _ e1]; rfl
  have f1 : w.frozen? ⟨D, 1, none⟩ = false := by simp [World.frozen?, e1]
  unfold maxLen at e6
  cases L with
  | nil =>
    have hk : k = full.length := by
      have := congrArg List.length e4
      simp at this
      omega
    subst hk
    clear e4 e8 e9 e1
    go_enter Tryz.func28, Tryz.ntmps28
    go_wp2_with (go_quiet (fail))
    go_ret
    exact ⟨rfl, Gb.of _ (Ext.drewN_ _ _), HH.out.ext (Ext.drewN_ _ _), rfl⟩
  | cons x L =>
    obtain ⟨hx, hL, hlt⟩ := getD_drop e4
    obtain ⟨o, rfl, hbD, hcell⟩ := e9 (by omega)
    have hck := hcell k hlt
    rw [hx] at hck
    have hwx : wf64 x := e8 x (by rw [← hx]; simp [List.getD_eq_getElem?_getD, hlt])
    have hbD' : D ≠ b := fun q => hbD q.symm
    obtain ⟨x0, x1⟩ := hwx
    have HM := Lib.hid (fun W => mod_any x n W x0 x1 n2)
    have HL := Lib.hid hL
    have wi1 : IntKind.i64.wrap ((k : Int)) = (k : Int) := IntWalk.i64_in _ (by omega)
    have zi1 : (0 : Int) ≤ (k : Int) := by omega
    have li1 : (k : Int) < (full.length : Int) := by omega
    have ti1 : ((k : Int)).toNat = k := by omega
    have wj : IntKind.i64.wrap ((k : Int) + 1) = (k : Int) + 1 := IntWalk.i64_in _ (by omega)
    have HW := Lib.hid e8
    clear e4 e8 hcell hx hL x0 x1
    go_enter Tryz.func28, Tryz.ntmps28
    go_wp2_with (go_quiet (fail))
    have xq := Ext.drewN_ w nq
    have hbk := HH.out.ltb
    obtain ⟨w2, hw2, G2, D2, S2⟩ : ∃ w2, w2 = (w.drewN nq).setCell ⟨D, 1, none⟩ (.int .i64 ((k : Int) + 1)) ∧ Gb D w w2 ∧ DiceAt w2 D b L ∧ w2.heap.size = w.heap.size := by
      refine ⟨_, rfl, (Gb.of _ xq).tr (Gb.set D 1 _ _), ?_, by simp⟩
      have hb2 : ((w.drewN nq).setCell ⟨D, 1, none⟩ (.int .i64 ((k : Int) + 1))).heap[D]? = some (.cells #[.slice (some ⟨b, o, none⟩) full.length c, .int .i64 ((k : Int) + 1)] 107 (0, 0)) := by
        have := row_set ((xq.block D hD).trans e1) 1 (.int .i64 ((k : Int) + 1))
        simpa using this
      refine ⟨some ⟨b, o, none⟩, full.length, c, k + 1, full, hb2.trans (by simp), rfl, hlt, HL.out, e5, by unfold maxLen; exact e6, by simpa using e7, HW.out, fun h0 => ?_⟩
      obtain ⟨o', q1, q2, q3⟩ := e9 h0
      exact ⟨o', q1, q2, fun j hj => (World.cell?_of_block ((setCell_block hbD).trans (xq.block b e7))).trans (q3 j hj)⟩
    have HG := Lib.hid (And.intro G2 (And.intro D2 S2))
    have HB1 := Lib.hid e1
    clear e9 e1 G2 D2 S2
    rw [← hw2]
    have d1 : w2.cell? ⟨D, 1, none⟩ = some (.int .i64 ((k : Int) + 1)) := by
      have hb2 := row_set ((xq.block D hD).trans HB1.out) 1 (.int .i64 ((k : Int) + 1))
      rw [← hw2] at hb2
      rw [cell_of_row w2 D 1 _ _ _ hb2]
      simp
    have d0 : w2.cell? ⟨D, 0, none⟩ = some (.slice (some ⟨b, o, none⟩) full.length c) := by
      have hb2 := row_set ((xq.block D hD).trans HB1.out) 1 (.int .i64 ((k : Int) + 1))
      rw [← hw2] at hb2
      rw [cell_of_row w2 D 0 _ _ _ hb2]
      simp
    have dk : w2.cell? ⟨b, o + k, none⟩ = some (.int .i64 x) := by
      rw [hw2]
      exact (World.cell?_of_block ((setCell_block hbD).trans (xq.block b e7))).trans hck
    have hlD : D < w2.heap.size := by rw [HG.out.2.2]; exact hD
    have hlb : b < w2.heap.size := by rw [HG.out.2.2]; exact e7
    clear hw2 xq c0 c1 f1 hck
    go_wp2_with (go_quiet (first | (go_at_call 10; exact (HM.out _).mono fun _ _ ⟨h1, h2⟩ => ⟨h1, _, h2.symm⟩)))
    go_ret
    exact ⟨rfl, HG.out.1.tr (Gb.of _ (Ext.drewN_ _ _)), HG.out.2.1.ext (Ext.drewN_ _ _), HG.out.2.2⟩
end Go.Proofs.YtmmoenkmicimcaaGreatDoor
namespace Go.Proofs.YtmmoenkmicimcaaGreatDoor
open Go.RowKit
set_option linter.unusedVariables false
/-- Worlds go on; those blocks of the types S that G tells may change their cells. -/
structure RgS (S : List Nat) (G : Nat → Prop) (w w' : World) : Prop where
  os : w'.os = w.os
  tape : w'.tape = w.tape
  output : w'.output = w.output
  size : w.heap.size ≤ w'.heap.size
  block : ∀ k, k < w.heap.size → w'.heap[k]? = w.heap[k]? ∨ (G k ∧ ∃ T cs cs' fr, T ∈ S ∧ w.heap[k]? = some (.cells cs T fr) ∧ w'.heap[k]? = some (.cells cs' T fr) ∧ cs'.size = cs.size)
theorem RgS.refl (S : List Nat) (G : Nat → Prop) (w : World) : RgS S G w w := ⟨rfl, rfl, rfl, Nat.le_refl _, fun _ _ => .inl rfl⟩
theorem RgS.tr {S : List Nat} {G : Nat → Prop} {a b c : World} (h : RgS S G a b) (h2 : RgS S G b c) : RgS S G a c :=
  ⟨h2.os.trans h.os, h2.tape.trans h.tape, h2.output.trans h.output, Nat.le_trans h.size h2.size, fun k hk => by
    rcases h.block k hk with e1 | ⟨hB, T, cs, cs', fr, hT, e1, e2, e3⟩
    · rcases h2.block k (Nat.lt_of_lt_of_le hk h.size) with f1 | ⟨hB, T, cs, cs', fr, hT, f1, f2, f3⟩
      · exact .inl (f1.trans e1)
      · exact .inr ⟨hB, T, cs, cs', fr, hT, e1 ▸ f1, f2, f3⟩
    · rcases h2.block k (Nat.lt_of_lt_of_le hk h.size) with f1 | ⟨_, T', ds, ds', gr, _, f1, f2, f3⟩
      · exact .inr ⟨hB, T, cs, cs', fr, hT, e1, f1.trans e2, e3⟩
      · rw [e2] at f1
        injection f1 with f1
        injection f1 with f1 f5 f4
        subst f1 f4 f5
        exact .inr ⟨hB, T, cs, ds', fr, hT, e1, f2, f3.trans e3⟩⟩
theorem RgS.sub {S S' : List Nat} {G G' : Nat → Prop} {w w' : World} (h : RgS S G w w') (hS : ∀ T ∈ S, T ∈ S') (hG : ∀ k, G k → G' k) : RgS S' G' w w' :=
  ⟨h.os, h.tape, h.output, h.size, fun k hk => (h.block k hk).imp id fun ⟨hB, T, cs, cs', fr, hT, e1, e2, e3⟩ => ⟨hG k hB, T, cs, cs', fr, hS T hT, e1, e2, e3⟩⟩
def RG (S : List Nat) (G : Nat → Prop) : Gt.Rl := ⟨RgS S G, fun T w w' => T ∈ S ∧ RgS [T] G w w', RgS.refl S G, fun h k => h.tr k, fun h => ⟨h.os, h.tape, h.output, h.size, fun k hk => .inl (h.block k hk)⟩, fun h => h.2.sub (fun T hT => by rw [List.mem_singleton.1 hT]; exact h.1) (fun _ h => h), Ext, id, fun h => ⟨h.os, h.tape, h.output, h.size, fun k hk => .inl (h.block k hk)⟩⟩
theorem RgS.below {S : List Nat} {G : Nat → Prop} {B : Nat} {w w' : World} (h : RgS S G w w') (hG : ∀ k, G k → B ≤ k) (hB : B ≤ w.heap.size) : Below B w w' :=
  ⟨h.os, h.tape, h.output, h.size, fun k hk => (h.block k (Nat.lt_of_lt_of_le hk hB)).resolve_right fun q => by have := hG k q.1; omega⟩
theorem RgS.keep {S : List Nat} {G : Nat → Prop} {k : Nat} {w w' : World} {o : Obj} (h : RgS S G w w') (hk : w.heap[k]? = some o) (hG : ¬ G k) : w'.heap[k]? = some o :=
  ((h.block k (Array.getElem?_eq_some_iff.1 hk).1).resolve_right fun q => hG q.1).trans hk
theorem RgS.other {S : List Nat} {G : Nat → Prop} {e : TypeId} {k : Nat} {w w' : World} {cs : Array Value} {fr : Nat × Nat} (h : RgS S G w w') (hk : w.heap[k]? = some (.cells cs e fr)) (he : e ∉ S) : w'.heap[k]? = some (.cells cs e fr) := by
  rcases h.block k (block_lt hk) with e1 | ⟨_, T, ds, _, gr, hT, e1, _, _⟩
  · exact e1.trans hk
  · rw [hk] at e1
    injection e1 with e1
    injection e1 with _ e1
    exact absurd (e1 ▸ hT) he
theorem RgS.shape {S : List Nat} {G : Nat → Prop} {T : TypeId} {k : Nat} {w w' : World} {cs : Array Value} {fr : Nat × Nat} (h : RgS S G w w') (hk : w.heap[k]? = some (.cells cs T fr)) : ∃ cs' : Array Value, w'.heap[k]? = some (.cells cs' T fr) ∧ cs'.size = cs.size := by
  rcases h.block k (block_lt hk) with e1 | ⟨_, T', ds, ds', gr, _, e1, e2, e3⟩
  · exact ⟨cs, e1.trans hk, rfl⟩
  · rw [hk] at e1
    injection e1 with e1
    injection e1 with e1 e5 e4
    subst e1 e4 e5
    exact ⟨ds', e2, e3⟩
theorem RgS.set {S : List Nat} {G : Nat → Prop} {T : TypeId} {g : Nat} {w : World} {cs : Array Value} {fr : Nat × Nat} (hg : w.heap[g]? = some (.cells cs T fr)) (hT : T ∈ S) (hG : G g) (i : Nat) (v : Value) : RgS S G w (w.setCell ⟨g, i, none⟩ v) := by
  have hb := Gb.set g i w v
  refine ⟨hb.os, hb.tape, hb.output, hb.size, fun k hk => ?_⟩
  by_cases hkg : k = g
  · subst hkg
    exact .inr ⟨hG, T, cs, _, fr, hT, hg, row_set hg i v, by simp⟩
  · exact .inl (hb.block k hk (fun q => hkg (by injection q)))
/-- A block of type T and of so many cells. -/
def BlkT (w : World) (g : Nat) (T : TypeId) (n : Nat) : Prop := ∃ cs : Array Value, w.heap[g]? = some (.cells cs T (0, 0)) ∧ cs.size = n
theorem BlkT.rg {w w' : World} {g n : Nat} {G : Nat → Prop} {T : TypeId} {S : List Nat} (h : BlkT w g T n) (r : RgS S G w w') : BlkT w' g T n := by
  obtain ⟨cs, h1, h2⟩ := h
  obtain ⟨cs', h3, h4⟩ := r.shape h1
  exact ⟨cs', h3, h4.trans h2⟩
theorem BlkT.ext {w w' : World} {g n : Nat} {T : TypeId} (h : BlkT w g T n) (e : Ext w w') : BlkT w' g T n := by
  obtain ⟨cs, h1, h2⟩ := h
  exact ⟨cs, (e.block g (block_lt h1)).trans h1, h2⟩
/-- The cells of a list stored one after the other. -/
def setL (w : World) (g : Nat) : Nat → List Value → World
  | _, [] => w
  | i, v :: vs => setL (w.setCell ⟨g, i, none⟩ v) g (i + 1) vs
/-- The cells of a list stored in the middle of a row. -/
theorem setL_mid : ∀ (vs pre post : List Value) (w : World) (g : Nat) (cs : List Value) (T : TypeId) (fr : Nat × Nat), w.heap[g]? = some (.cells (pre ++ cs ++ post).toArray T fr) → cs.length = vs.length → (setL w g pre.length vs).heap[g]? = some (.cells (pre ++ vs ++ post).toArray T fr)
  | [], pre, post, w, g, cs, T, fr, h, hl => by
    obtain rfl : cs = [] := List.eq_nil_of_length_eq_zero hl
    exact h
  | v :: vs, pre, post, w, g, c :: cs, T, fr, h, hl => by
    have h1 := row_set h pre.length v
    have h2 : ((pre ++ c :: cs ++ post).toArray.setIfInBounds pre.length v) = ((pre ++ [v]) ++ cs ++ post).toArray := by
      rw [List.setIfInBounds_toArray]
      congr 1
      rw [List.append_assoc, List.set_append_right _ _ (Nat.le_refl _), Nat.sub_self]
      simp
    rw [h2] at h1
    have h3 := setL_mid vs (pre ++ [v]) post (w.setCell ⟨g, pre.length, none⟩ v) g cs T fr h1 (by simpa using hl)
    rw [List.length_append] at h3
    rw [List.append_assoc pre [v] vs] at h3
    exact h3
end Go.Proofs.YtmmoenkmicimcaaGreatDoor
namespace Go.Proofs.YtmmoenkmicimcaaGreatDoor
open Go.RowKit
set_option linter.unusedVariables false
set_option maxRecDepth 100000
theorem NdG.mono {B B' d : Nat} {t : Nd} {v : Value} {w : World} (hB : B' ≤ B) (h : NdG B d t v w) : NdG B' d t v w := by
  obtain ⟨A1, n1, c1, A2, n2, c2, h1, h2, h3⟩ := h
  exact ⟨A1, n1, c1, A2, n2, c2, h1, h2.map fun b hb _ => ⟨Nat.le_trans hB hb, rfl⟩, h3.map fun b hb _ => ⟨Nat.le_trans hB hb, rfl⟩⟩
end Go.Proofs.YtmmoenkmicimcaaGreatDoor
