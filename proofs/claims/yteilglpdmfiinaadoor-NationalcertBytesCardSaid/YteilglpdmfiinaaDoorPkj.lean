/- Parts To Td Tf Tg Th Ti Dn Dd of the proof. -/
import Derived.Test.YteilglpdmfiinaaDoorBn
import Derived.Test.YteilglpdmfiinaaDoorWn
import Derived.Test.YteilglpdmfiinaaDoorPki
import Derived.Test.YteilglpdmfiinaaDoorCx
import Derived.Test.YteilglpdmfiinaaDoorGe
import Derived.Test.YteilglpdmfiinaaDoorPkd
import Derived.Laws.IdiomStrings
namespace Go.Proofs.YteilglpdmfiinaaDoor
open Go.RowKit
set_option linter.unusedVariables false
set_option maxRecDepth 100000

/-- New bytes, in blocks from B on. -/
def GS (B : Nat) (l : List UInt8) : VPred := fun v w => RdS (fun b => B ≤ b) w v (bvs l)
/-- A new object by value, whose data lie in blocks from B on. -/
def NdG (B d : Nat) (t : Nd) : VPred := fun v w => ∃ (A1 : Option Addr) (n1 c1 : Nat) (A2 : Option Addr) (n2 c2 : Nat), v = .agg #[.int .i64 t.tag, .slice A1 n1 c1, .slice A2 n2 c2] ∧ RdS (fun b => B ≤ b) w (.slice A1 n1 c1) (bvs t.val) ∧ NdsS (fun b => B ≤ b) d w (.slice A2 n2 c2) t.kids
/-- New objects. -/
def NdsG (B d : Nat) (ts : List Nd) : VPred := fun v w => NdsS (fun b => B ≤ b) d w v ts
theorem stable_GS (B : Nat) (l : List UInt8) : StableP (GS B l) := fun v w w' e h => h.map fun b hb hlt => ⟨hb, e.block b hlt⟩
theorem stable_NdsG (B d : Nat) (ts : List Nd) : StableP (NdsG B d ts) := fun v w w' e h => h.map fun b hb hlt => ⟨hb, e.block b hlt⟩
theorem stable_NdG (B d : Nat) (t : Nd) : StableP (NdG B d t) := fun v w w' e ⟨A1, n1, c1, A2, n2, c2, h1, h2, h3⟩ => ⟨A1, n1, c1, A2, n2, c2, h1, h2.map fun b hb hlt => ⟨hb, e.block b hlt⟩, h3.map fun b hb hlt => ⟨hb, e.block b hlt⟩⟩
theorem GS.slice {B : Nat} {l : List UInt8} {v : Value} {w : World} (h : GS B l v w) : ∃ A n c, v = .slice A n c := by
  obtain ⟨A, n, c, h, _⟩ := h
  exact ⟨A, n, c, h⟩
theorem NdsS.slice {S : Nat → Prop} {d : Nat} {ts : List Nd} {v : Value} {w : World} (h : NdsS S d w v ts) : ∃ A n c, v = .slice A n c := by
  cases d with
  | zero => obtain ⟨_, A, c, h, _⟩ := h; exact ⟨A, 0, c, h⟩
  | succ d => obtain ⟨A, n, c, h, _⟩ := h; exact ⟨A, n, c, h⟩
theorem run_leaf {B d : Nat} (W : World) (t : Int) {v : Value} {l : List UInt8} (h : GS B l v W) : ∃ v' w'', (Instr.build 62 [(0, .int .i64 t), (1, v)].toArray).run Tryd.prog W = .ok v' w'' ∧ Ext W w'' ∧ NdG B d (leafN t l) v' w'' := by
  obtain ⟨A, n, c, rfl⟩ := h.slice
  exact ⟨_, _, run_buildNd W t A n c, Below.refl _ _, _, _, _, _, _, _, rfl, h, NdsS.nil _ _⟩
theorem run_buildNd2 (W : World) (t : Int) (A : Option Addr) (n c : Nat) : (Instr.build 62 [(0, .int .i64 t), (2, .slice A n c)].toArray).run Tryd.prog W = .ok (.agg #[.int .i64 t, .slice none 0 0, .slice A n c]) W := run_build W _ _ _ (by kernel_rfl)
theorem run_cons {B d : Nat} (W : World) (t : Int) {v : Value} {ts : List Nd} (h : NdsG B d ts v W) : ∃ v' w'', (Instr.build 62 [(0, .int .i64 t), (2, v)].toArray).run Tryd.prog W = .ok v' w'' ∧ Ext W w'' ∧ NdG B d (.mk t [] ts) v' w'' := by
  obtain ⟨A, n, c, rfl⟩ := NdsS.slice h
  exact ⟨_, _, run_buildNd2 W t A n c, Below.refl _ _, _, _, _, _, _, _, rfl, RdS.nil _, h⟩
theorem ndsS_lit {B d : Nat} {W : World} (cs : List Value) (ts : List Nd) (n : Nat) (hn : n = ts.length) (hm : n ≤ 100) (h : NdCells (fun b => B ≤ b) d W cs ts) (hB : B ≤ W.heap.size) : NdsS (fun b => B ≤ b) (d + 1) (W.alloc (.cells cs.toArray 62)) (.slice (some ⟨W.heap.size, 0, none⟩) n n) ts := by
  have e : Ext W (W.alloc (.cells cs.toArray 62)) := (Below.refl _ _).alloc (Nat.le_refl _) _
  have ho := OwnK.lit W 3 cs.toArray 62 n (by rw [hn, ← h.1]; simp) (by unfold maxLen; omega)
  exact NdsS.mk ho (h.map fun b hb hlt => ⟨hb, e.block b hlt⟩) (fun b hb => hb) (fun b hb => Nat.le_trans hB hb)
set_option maxHeartbeats 1000000 in
theorem run_bs1 (W : World) (z0 : Int) (a0 b0 : Option Addr) (n0 c0 m0 d0 : Nat) : (Instr.buildSlice 60 1 [(0, .agg #[.int .i64 z0, .slice a0 n0 c0, .slice b0 m0 d0])].toArray).run Tryd.prog W = .ok (.slice (some ⟨W.heap.size, 0, none⟩) 1 1) (W.alloc (.cells #[.int .i64 z0, .slice a0 n0 c0, .slice b0 m0 d0] 62)) := by go_simp
theorem run_nodes1 {B d : Nat} (W : World) (hB : B ≤ W.heap.size) {v0 : Value} {t0 : Nd} (h0 : NdG B d t0 v0 W) : ∃ v' w'', (Instr.buildSlice 60 1 [(0, v0)].toArray).run Tryd.prog W = .ok v' w'' ∧ Ext W w'' ∧ NdsG B (d + 1) [t0] v' w'' := by
  obtain ⟨a0, n0, c0, b0, m0, d0, rfl, r0, k0⟩ := h0
  exact ⟨_, _, run_bs1 W t0.tag a0 b0 n0 c0 m0 d0, (Below.refl _ _).alloc (Nat.le_refl _) _, ndsS_lit [.int .i64 t0.tag, .slice a0 n0 c0, .slice b0 m0 d0] [t0] 1 rfl (by omega) ((NdCells.nil _ d W).snoc r0 k0) hB⟩
set_option maxHeartbeats 1000000 in
theorem run_bs2 (W : World) (z0 : Int) (a0 b0 : Option Addr) (n0 c0 m0 d0 : Nat) (z1 : Int) (a1 b1 : Option Addr) (n1 c1 m1 d1 : Nat) : (Instr.buildSlice 60 2 [(0, .agg #[.int .i64 z0, .slice a0 n0 c0, .slice b0 m0 d0]), (1, .agg #[.int .i64 z1, .slice a1 n1 c1, .slice b1 m1 d1])].toArray).run Tryd.prog W = .ok (.slice (some ⟨W.heap.size, 0, none⟩) 2 2) (W.alloc (.cells #[.int .i64 z0, .slice a0 n0 c0, .slice b0 m0 d0, .int .i64 z1, .slice a1 n1 c1, .slice b1 m1 d1] 62)) := by go_simp
theorem run_nodes2 {B d : Nat} (W : World) (hB : B ≤ W.heap.size) {v0 v1 : Value} {t0 t1 : Nd} (h0 : NdG B d t0 v0 W) (h1 : NdG B d t1 v1 W) : ∃ v' w'', (Instr.buildSlice 60 2 [(0, v0), (1, v1)].toArray).run Tryd.prog W = .ok v' w'' ∧ Ext W w'' ∧ NdsG B (d + 1) [t0, t1] v' w'' := by
  obtain ⟨a0, n0, c0, b0, m0, d0, rfl, r0, k0⟩ := h0
  obtain ⟨a1, n1, c1, b1, m1, d1, rfl, r1, k1⟩ := h1
  exact ⟨_, _, run_bs2 W t0.tag a0 b0 n0 c0 m0 d0 t1.tag a1 b1 n1 c1 m1 d1, (Below.refl _ _).alloc (Nat.le_refl _) _, ndsS_lit [.int .i64 t0.tag, .slice a0 n0 c0, .slice b0 m0 d0, .int .i64 t1.tag, .slice a1 n1 c1, .slice b1 m1 d1] [t0, t1] 2 rfl (by omega) (((NdCells.nil _ d W).snoc r0 k0).snoc r1 k1) hB⟩
set_option maxHeartbeats 1000000 in
theorem run_bs6 (W : World) (z0 : Int) (a0 b0 : Option Addr) (n0 c0 m0 d0 : Nat) (z1 : Int) (a1 b1 : Option Addr) (n1 c1 m1 d1 : Nat) (z2 : Int) (a2 b2 : Option Addr) (n2 c2 m2 d2 : Nat) (z3 : Int) (a3 b3 : Option Addr) (n3 c3 m3 d3 : Nat) (z4 : Int) (a4 b4 : Option Addr) (n4 c4 m4 d4 : Nat) (z5 : Int) (a5 b5 : Option Addr) (n5 c5 m5 d5 : Nat) : (Instr.buildSlice 60 6 [(0, .agg #[.int .i64 z0, .slice a0 n0 c0, .slice b0 m0 d0]), (1, .agg #[.int .i64 z1, .slice a1 n1 c1, .slice b1 m1 d1]), (2, .agg #[.int .i64 z2, .slice a2 n2 c2, .slice b2 m2 d2]), (3, .agg #[.int .i64 z3, .slice a3 n3 c3, .slice b3 m3 d3]), (4, .agg #[.int .i64 z4, .slice a4 n4 c4, .slice b4 m4 d4]), (5, .agg #[.int .i64 z5, .slice a5 n5 c5, .slice b5 m5 d5])].toArray).run Tryd.prog W = .ok (.slice (some ⟨W.heap.size, 0, none⟩) 6 6) (W.alloc (.cells #[.int .i64 z0, .slice a0 n0 c0, .slice b0 m0 d0, .int .i64 z1, .slice a1 n1 c1, .slice b1 m1 d1, .int .i64 z2, .slice a2 n2 c2, .slice b2 m2 d2, .int .i64 z3, .slice a3 n3 c3, .slice b3 m3 d3, .int .i64 z4, .slice a4 n4 c4, .slice b4 m4 d4, .int .i64 z5, .slice a5 n5 c5, .slice b5 m5 d5] 62)) := by go_simp
theorem run_nodes6 {B d : Nat} (W : World) (hB : B ≤ W.heap.size) {v0 v1 v2 v3 v4 v5 : Value} {t0 t1 t2 t3 t4 t5 : Nd} (h0 : NdG B d t0 v0 W) (h1 : NdG B d t1 v1 W) (h2 : NdG B d t2 v2 W) (h3 : NdG B d t3 v3 W) (h4 : NdG B d t4 v4 W) (h5 : NdG B d t5 v5 W) : ∃ v' w'', (Instr.buildSlice 60 6 [(0, v0), (1, v1), (2, v2), (3, v3), (4, v4), (5, v5)].toArray).run Tryd.prog W = .ok v' w'' ∧ Ext W w'' ∧ NdsG B (d + 1) [t0, t1, t2, t3, t4, t5] v' w'' := by
  obtain ⟨a0, n0, c0, b0, m0, d0, rfl, r0, k0⟩ := h0
  obtain ⟨a1, n1, c1, b1, m1, d1, rfl, r1, k1⟩ := h1
  obtain ⟨a2, n2, c2, b2, m2, d2, rfl, r2, k2⟩ := h2
  obtain ⟨a3, n3, c3, b3, m3, d3, rfl, r3, k3⟩ := h3
  obtain ⟨a4, n4, c4, b4, m4, d4, rfl, r4, k4⟩ := h4
  obtain ⟨a5, n5, c5, b5, m5, d5, rfl, r5, k5⟩ := h5
  exact ⟨_, _, run_bs6 W t0.tag a0 b0 n0 c0 m0 d0 t1.tag a1 b1 n1 c1 m1 d1 t2.tag a2 b2 n2 c2 m2 d2 t3.tag a3 b3 n3 c3 m3 d3 t4.tag a4 b4 n4 c4 m4 d4 t5.tag a5 b5 n5 c5 m5 d5, (Below.refl _ _).alloc (Nat.le_refl _) _, ndsS_lit [.int .i64 t0.tag, .slice a0 n0 c0, .slice b0 m0 d0, .int .i64 t1.tag, .slice a1 n1 c1, .slice b1 m1 d1, .int .i64 t2.tag, .slice a2 n2 c2, .slice b2 m2 d2, .int .i64 t3.tag, .slice a3 n3 c3, .slice b3 m3 d3, .int .i64 t4.tag, .slice a4 n4 c4, .slice b4 m4 d4, .int .i64 t5.tag, .slice a5 n5 c5, .slice b5 m5 d5] [t0, t1, t2, t3, t4, t5] 6 rfl (by omega) (((((((NdCells.nil _ d W).snoc r0 k0).snoc r1 k1).snoc r2 k2).snoc r3 k3).snoc r4 k4).snoc r5 k5) hB⟩
set_option maxHeartbeats 1000000 in
theorem run_bs7 (W : World) (z0 : Int) (a0 b0 : Option Addr) (n0 c0 m0 d0 : Nat) (z1 : Int) (a1 b1 : Option Addr) (n1 c1 m1 d1 : Nat) (z2 : Int) (a2 b2 : Option Addr) (n2 c2 m2 d2 : Nat) (z3 : Int) (a3 b3 : Option Addr) (n3 c3 m3 d3 : Nat) (z4 : Int) (a4 b4 : Option Addr) (n4 c4 m4 d4 : Nat) (z5 : Int) (a5 b5 : Option Addr) (n5 c5 m5 d5 : Nat) (z6 : Int) (a6 b6 : Option Addr) (n6 c6 m6 d6 : Nat) : (Instr.buildSlice 60 7 [(0, .agg #[.int .i64 z0, .slice a0 n0 c0, .slice b0 m0 d0]), (1, .agg #[.int .i64 z1, .slice a1 n1 c1, .slice b1 m1 d1]), (2, .agg #[.int .i64 z2, .slice a2 n2 c2, .slice b2 m2 d2]), (3, .agg #[.int .i64 z3, .slice a3 n3 c3, .slice b3 m3 d3]), (4, .agg #[.int .i64 z4, .slice a4 n4 c4, .slice b4 m4 d4]), (5, .agg #[.int .i64 z5, .slice a5 n5 c5, .slice b5 m5 d5]), (6, .agg #[.int .i64 z6, .slice a6 n6 c6, .slice b6 m6 d6])].toArray).run Tryd.prog W = .ok (.slice (some ⟨W.heap.size, 0, none⟩) 7 7) (W.alloc (.cells #[.int .i64 z0, .slice a0 n0 c0, .slice b0 m0 d0, .int .i64 z1, .slice a1 n1 c1, .slice b1 m1 d1, .int .i64 z2, .slice a2 n2 c2, .slice b2 m2 d2, .int .i64 z3, .slice a3 n3 c3, .slice b3 m3 d3, .int .i64 z4, .slice a4 n4 c4, .slice b4 m4 d4, .int .i64 z5, .slice a5 n5 c5, .slice b5 m5 d5, .int .i64 z6, .slice a6 n6 c6, .slice b6 m6 d6] 62)) := by go_simp
theorem run_nodes7 {B d : Nat} (W : World) (hB : B ≤ W.heap.size) {v0 v1 v2 v3 v4 v5 v6 : Value} {t0 t1 t2 t3 t4 t5 t6 : Nd} (h0 : NdG B d t0 v0 W) (h1 : NdG B d t1 v1 W) (h2 : NdG B d t2 v2 W) (h3 : NdG B d t3 v3 W) (h4 : NdG B d t4 v4 W) (h5 : NdG B d t5 v5 W) (h6 : NdG B d t6 v6 W) : ∃ v' w'', (Instr.buildSlice 60 7 [(0, v0), (1, v1), (2, v2), (3, v3), (4, v4), (5, v5), (6, v6)].toArray).run Tryd.prog W = .ok v' w'' ∧ Ext W w'' ∧ NdsG B (d + 1) [t0, t1, t2, t3, t4, t5, t6] v' w'' := by
  obtain ⟨a0, n0, c0, b0, m0, d0, rfl, r0, k0⟩ := h0
  obtain ⟨a1, n1, c1, b1, m1, d1, rfl, r1, k1⟩ := h1
  obtain ⟨a2, n2, c2, b2, m2, d2, rfl, r2, k2⟩ := h2
  obtain ⟨a3, n3, c3, b3, m3, d3, rfl, r3, k3⟩ := h3
  obtain ⟨a4, n4, c4, b4, m4, d4, rfl, r4, k4⟩ := h4
  obtain ⟨a5, n5, c5, b5, m5, d5, rfl, r5, k5⟩ := h5
  obtain ⟨a6, n6, c6, b6, m6, d6, rfl, r6, k6⟩ := h6
  exact ⟨_, _, run_bs7 W t0.tag a0 b0 n0 c0 m0 d0 t1.tag a1 b1 n1 c1 m1 d1 t2.tag a2 b2 n2 c2 m2 d2 t3.tag a3 b3 n3 c3 m3 d3 t4.tag a4 b4 n4 c4 m4 d4 t5.tag a5 b5 n5 c5 m5 d5 t6.tag a6 b6 n6 c6 m6 d6, (Below.refl _ _).alloc (Nat.le_refl _) _, ndsS_lit [.int .i64 t0.tag, .slice a0 n0 c0, .slice b0 m0 d0, .int .i64 t1.tag, .slice a1 n1 c1, .slice b1 m1 d1, .int .i64 t2.tag, .slice a2 n2 c2, .slice b2 m2 d2, .int .i64 t3.tag, .slice a3 n3 c3, .slice b3 m3 d3, .int .i64 t4.tag, .slice a4 n4 c4, .slice b4 m4 d4, .int .i64 t5.tag, .slice a5 n5 c5, .slice b5 m5 d5, .int .i64 t6.tag, .slice a6 n6 c6, .slice b6 m6 d6] [t0, t1, t2, t3, t4, t5, t6] 7 rfl (by omega) ((((((((NdCells.nil _ d W).snoc r0 k0).snoc r1 k1).snoc r2 k2).snoc r3 k3).snoc r4 k4).snoc r5 k5).snoc r6 k6) hB⟩
section
open Go.Proofs.YteilglpdmfiinaaDoor.Gd (GRun)
variable {P : Program} {ops : Array Oper} {Q : Exit → Act → World → Prop} {w0 : World} {R : Act → World → Prop}
/-- append, whatever holes it reads, where it makes a new block. -/
theorem Gd.wpX_appF {o : Oper} {rest : List Oper} {a : Act} {hs : List (Nat × VPred)} {d : Nat} (hg : GRun ops o a hs) (g : VPred) (hst : StableP g) {t : TypeId} {s x : Operand} (sv xv : (Nat → Value) → Value)
    (hd : o.dst = some d) (hz : Nat.blt d a.tmps.size = true) (ho : o.op = .call { callee := .builtin .append, args := #[s, x], argTypes := #[t, t] }) (hin : (opTmps o).all (fun t => Nat.blt t a.tmps.size) = true) (hqs : okOp a s = true) (hqx : okOp a x = true)
    (hs' : ∀ f, evF a hs f s = sv f) (hx' : ∀ f, evF a hs f x = xv f)
    (h : ∀ (m : Lt w0) (f : Nat → Value), (∀ t p, hs.lookup t = some p → (opTmps o).contains t = true → p (f t) m.1) → ∃ v w'', (Builtin.append_ #[t, t] o.type #[sv f, xv f]).run P m.1 = .ok v w'' ∧ Ext m.1 w'' ∧ g v w'')
    (hr : Gd.wpX P ops Q w0 R rest (a.put (some d) undef) ((d, g) :: hs)) : Gd.wpX P ops Q w0 R (o :: rest) a hs :=
  Gd.wpX_useL hg g hst hd hz (by unfold notSelect; rw [ho]) hin (fun m f hf K hK => by
    obtain ⟨v, w'', h1, h2, h3⟩ := h m f hf
    have e1 : (fillH a hs f).eval s = sv f := (Gd.ev_fill hqs).trans (hs' f)
    have e2 : (fillH a hs f).eval x = xv f := (Gd.ev_fill hqx).trans (hx' f)
    unfold Oper.wp execOp
    simp only [ho, resolve, invoke, builtin, Sem.run_bind, Sem.run_pure, Result.andThen_ok, List.map_toArray, List.map_cons, List.map_nil, e1, e2, h1]
    exact hK _ _ (by rw [hd]; show ((fillH a hs f).put (some d) v).defers = _; simp [Act.put, fillH_defers]) ⟨h2, by rw [hd, eval_put_same (Gd.fill_put_size f d hz)]; exact h3⟩) hr
end
/-- New bytes without room behind them. -/
def GF (B : Nat) (l : List UInt8) : VPred := fun v w => ∃ A, v = .slice A l.length l.length ∧ RdS (fun b => B ≤ b) w v (bvs l)
theorem stable_GF (B : Nat) (l : List UInt8) : StableP (GF B l) := fun v w w' e ⟨A, h1, h⟩ => ⟨A, h1, h.map fun b hb hlt => ⟨hb, e.block b hlt⟩⟩
theorem GF.gs {B : Nat} {l : List UInt8} {v : Value} {w : World} (h : GF B l v w) : GS B l v w := by obtain ⟨A, _, k⟩ := h; exact k
theorem gf_bytes {B : Nat} (size : Nat) (x z : Int) (w : World) (hB : B ≤ w.heap.size) (h0 : 0 ≤ x) (h1 : x < 9223372036854775808) (hz : z = (size : Int)) (hs : size ≤ 100) : Calls Tryd.prog 86 #[.int .i64 x, .int .i64 z] w fun e w' => ∃ v, e = .returned v ∧ Ext w w' ∧ GF B (beN size x) v w' :=
  (refbytes_full size x z w h0 h1 hz hs).mono fun e w' ⟨A, h1, h2, h3⟩ => ⟨_, h1, h3, A, by rw [beN_len], RdS.of h2 fun b hb => Nat.le_trans hB hb⟩
theorem run_appFull {B : Nat} {W : World} {ty : TypeId} {v src : Value} {xs ys : List UInt8} (hB : B ≤ W.heap.size) (hx : GF B xs v W) (hy : GS B ys src W) (h1 : 0 < xs.length) (h2 : 0 < ys.length) (hs : xs.length + ys.length ≤ 100000) :
    ∃ v' w'', (Builtin.append_ #[30, 30] ty #[v, src]).run Tryd.prog W = .ok v' w'' ∧ Ext W w'' ∧ GS B (xs ++ ys) v' w'' := by
  obtain ⟨i, z, ht, hi, hz, hsz, hby, hzs⟩ := elemB.ex
  obtain ⟨A, rfl, A', n', c', e, hn, _, _, hcell⟩ := hx
  injection e with e1 e2 e3
  subst e1 e2 e3
  obtain ⟨A2, m, c2, rfl, hm, _, _, hcell2⟩ := hy
  rw [bvs_length] at hm
  subst hm
  obtain ⟨b, o, rfl, _, hc⟩ := hcell h1
  obtain ⟨b2, o2, rfl, _, hc2⟩ := hcell2 h2
  obtain ⟨v', w', k1, k2, k3⟩ := run_append_arg_grows (P := Tryd.prog) W 30 ty 5 i z 1 1 ht hi hz hsz hby hzs (by decide) ⟨b, o, none⟩ xs.length xs.length (bvs xs) (by rw [bvs_length]; omega) (fun j u hu => by rw [Addr.add_lit]; exact hc j u hu) ⟨b2, o2, none⟩ ys.length c2 (bvs ys) (by rw [bvs_length]; omega) (fun j u hu => by rw [Addr.add_lit]; exact hc2 j u hu) (by omega) (by unfold maxLen; omega) (by omega)
  rw [bvs_append] at k2
  exact ⟨v', w', k1, ⟨k3.os, k3.tape, k3.output, k3.size, fun k hk => k3.block k hk (by simp)⟩, RdS.of (ownsRow_own k2) fun b hb => Nat.le_trans hB hb⟩
/-- A leaf by a call of the reference. -/
theorem leafC {B d : Nat} (W : World) (t : Int) {v : Value} {l : List UInt8} (h : GS B l v W) : Calls Tryd.prog 47 #[.int .i64 t, v] W fun e w'' => ∃ v', e = .returned v' ∧ Ext W w'' ∧ NdG B d (leafN t l) v' w'' := by
  obtain ⟨A, n, c, rfl⟩ := h.slice
  exact (leaf_any t A n c W).mono fun e w'' ⟨h1, h2⟩ => ⟨_, h1, h2, _, _, _, _, _, _, rfl, stable_GS B l _ _ _ h2 h, NdsS.nil _ _⟩
theorem RetB.gs {w w' : World} {B : Nat} {l : List UInt8} {e : Ending} (h : RetB w l e w') (hB : B ≤ w.heap.size) : ∃ v, e = .returned v ∧ Ext w w' ∧ GS B l v w' := by
  obtain ⟨A, n, c, h1, h2, h3, h4⟩ := h
  exact ⟨_, h1, h4, RdS.of h3 fun b hb => Nat.le_trans hB hb⟩
theorem gs_str {B : Nat} (W : World) (hB : B ≤ W.heap.size) (l : List UInt8) (hl : l.length ≤ 4096) : ∃ v w'', (convert 9 30 (.string (bstr l))).run Tryd.prog W = .ok v w'' ∧ Ext W w'' ∧ GS B l v w'' := by
  obtain ⟨A, n, c', w2, h1, h2, h3, h4⟩ := run_strBytes W l hl
  exact ⟨_, _, h1, h2, h4.map (fun b hb _ => ⟨Nat.le_trans hB hb, rfl⟩)⟩
theorem gs_lit {B : Nat} (W : World) (hB : B ≤ W.heap.size) (cs : Array Value) (l : List UInt8) (n : Nat) (hn : n = l.length) (hm : n ≤ 100) (hc : cs.toList = bvs l) : GS B l (.slice (some ⟨W.heap.size, 0, none⟩) n n) (W.alloc (.cells cs 5)) := by
  have h := Own.lit W cs 5 n (by rw [hn, ← bvs_length, ← hc]; simp) (by unfold maxLen; omega)
  rw [hc] at h
  exact RdS.of h fun b hb => Nat.le_trans hB hb
/-- A call that returns a new object (by value). -/
def NodeR (w : World) (d : Nat) (t : Nd) (mkv : Value → Value) (e : Ending) (w' : World) : Prop := Ext w w' ∧ ∃ v, NdG w.heap.size d t v w' ∧ e = .returned (mkv v)
end Go.Proofs.YteilglpdmfiinaaDoor

namespace Go.Proofs.YteilglpdmfiinaaDoor
open Go.RowKit
set_option linter.unusedVariables false
set_option maxRecDepth 100000

/-- A certificate that lies in block g. -/
def TcAt (w : World) (g : Nat) (c : TC) : Prop := w.heap[g]? = some (.cells #[.string (bstr c.au), .string (bstr c.ho), .int .i64 c.key, .int .i64 c.role, .int .i64 c.rights, .int .i64 c.fr, .int .i64 c.to, .int .i64 c.e, .int .i64 c.s] 25 (0, 0))
theorem TcAt.lt {w : World} {g : Nat} {c : TC} (h : TcAt w g c) : g < w.heap.size := block_lt h
theorem TcAt.ext {w w' : World} {g : Nat} {c : TC} (h : TcAt w g c) (e : Ext w w') : TcAt w' g c := (e.block g h.lt).trans h
theorem TcAt.cells {w : World} {g : Nat} {c : TC} (h : TcAt w g c) : w.cell? ⟨g, 0, none⟩ = some (.string (bstr c.au)) ∧ w.cell? ⟨g, 1, none⟩ = some (.string (bstr c.ho)) ∧ w.cell? ⟨g, 2, none⟩ = some (.int .i64 c.key) ∧ w.cell? ⟨g, 3, none⟩ = some (.int .i64 c.role) ∧ w.cell? ⟨g, 4, none⟩ = some (.int .i64 c.rights) ∧ w.cell? ⟨g, 5, none⟩ = some (.int .i64 c.fr) ∧ w.cell? ⟨g, 6, none⟩ = some (.int .i64 c.to) ∧ w.cell? ⟨g, 7, none⟩ = some (.int .i64 c.e) ∧ w.cell? ⟨g, 8, none⟩ = some (.int .i64 c.s) :=
  ⟨cell_of_row w g 0 _ _ _ h, cell_of_row w g 1 _ _ _ h, cell_of_row w g 2 _ _ _ h, cell_of_row w g 3 _ _ _ h, cell_of_row w g 4 _ _ _ h, cell_of_row w g 5 _ _ _ h, cell_of_row w g 6 _ _ _ h, cell_of_row w g 7 _ _ _ h, cell_of_row w g 8 _ _ _ h⟩
theorem TcAt.new (w : World) (c : TC) : TcAt (w.alloc (.cells #[.string (bstr c.au), .string (bstr c.ho), .int .i64 c.key, .int .i64 c.role, .int .i64 c.rights, .int .i64 c.fr, .int .i64 c.to, .int .i64 c.e, .int .i64 c.s] 25)) w.heap.size c := heap_alloc_new' w _
theorem node_back {w w' : World} {rb d : Nat} {t : Nd} {A1 A2 : Option Addr} {n1 c1 n2 c2 B : Nat} (hB : w.heap.size ≤ B) (hrb : rb < B) (r : RdS (fun b => B ≤ b) w' (.slice A1 n1 c1) (bvs t.val)) (k : NdsS (fun b => B ≤ b) d w' (.slice A2 n2 c2) t.kids) (v0 v1 v2 : Value) :
    NdG w.heap.size d t (.agg #[.int .i64 t.tag, .slice A1 n1 c1, .slice A2 n2 c2]) (Go.Proofs.YteilglpdmfiinaaDoor.set3 w' rb v0 v1 v2) :=
  ⟨_, _, _, _, _, _, rfl, r.map fun b hb _ => ⟨Nat.le_trans hB hb, set3_block (by have hb : B ≤ b := hb; omega)⟩, k.map fun b hb _ => ⟨Nat.le_trans hB hb, set3_block (by have hb : B ≤ b := hb; omega)⟩⟩
theorem ext_set3 {w w' : World} {rb : Nat} (h : Ext w w') (hrb : w.heap.size ≤ rb) (v0 v1 v2 : Value) : Ext w (Go.Proofs.YteilglpdmfiinaaDoor.set3 w' rb v0 v1 v2) :=
  ((h.setCell (p := ⟨rb, 0, none⟩) hrb _).setCell (p := ⟨rb, 1, none⟩) hrb _).setCell (p := ⟨rb, 2, none⟩) hrb _
theorem sm_of {c : TC} (h : ckT c = 0) : smT c := by
  obtain ⟨⟨a1, _⟩, ⟨a2, _⟩, _⟩ := ckT_ok h
  exact ⟨by omega, by omega⟩
def roleB (c : TC) : List UInt8 := [u8 c.role, u8 (c.rights / 256), u8 c.rights]
theorem bvs_role (c : TC) : bvs (roleB c) = [.int .u8 (c.role % 256), .int .u8 (c.rights / 256 % 256), .int .u8 (c.rights % 256)] := by simp [bvs, roleB, bv_u8]
set_option maxHeartbeats 400000 in
theorem tree_ok (c : TC) (w : World) (h : ckT c = 0) : Calls Tryd.prog 41 #[tcV c] w (NodeR w 2 (bodyT c) fun v => .tuple #[v, .int .i64 0]) := by
  obtain ⟨sa, sh⟩ := sm_of h
  have HC := Lib.hid (ckT_ok h)
  have he := (ckT_ok h).2.2.1
  clear h
  obtain ⟨wz, hwz⟩ : ∃ wz, wz = (w.alloc (.cells #[.string (bstr c.au), .string (bstr c.ho), .int .i64 c.key, .int .i64 c.role, .int .i64 c.rights, .int .i64 c.fr, .int .i64 c.to, .int .i64 c.e, .int .i64 c.s] 25)).alloc (.cells #[.int .i64 0, .slice none 0 0, .slice none 0 0] 62) := ⟨_, rfl⟩
  have e1 : Ext w (w.alloc (.cells #[.string (bstr c.au), .string (bstr c.ho), .int .i64 c.key, .int .i64 c.role, .int .i64 c.rights, .int .i64 c.fr, .int .i64 c.to, .int .i64 c.e, .int .i64 c.s] 25)) := (Below.refl _ _).alloc (Nat.le_refl _) _
  have x0 : Ext w wz := by rw [hwz]; exact e1.alloc (by simp) _
  have hc : TcAt wz w.heap.size c := by rw [hwz]; exact (TcAt.new w c).ext ((Below.refl _ _).alloc (Nat.le_refl _) _)
  have hb : C3 wz (w.heap.size + 1) (.int .i64 0) (.slice none 0 0) (.slice none 0 0) := by
    have := C3.new (w.alloc (.cells #[.string (bstr c.au), .string (bstr c.ho), .int .i64 c.key, .int .i64 c.role, .int .i64 c.rights, .int .i64 c.fr, .int .i64 c.to, .int .i64 c.e, .int .i64 c.s] 25)) (.int .i64 0) (.slice none 0 0) (.slice none 0 0)
    rw [show (w.alloc (.cells #[.string (bstr c.au), .string (bstr c.ho), .int .i64 c.key, .int .i64 c.role, .int .i64 c.rights, .int .i64 c.fr, .int .i64 c.to, .int .i64 c.e, .int .i64 c.s] 25)).heap.size = w.heap.size + 1 by simp] at this
    rw [hwz]; exact this
  have hsz : w.heap.size + 1 < wz.heap.size := hb.lt
  unfold tcV
  go_enter Tryd.func41, Tryd.ntmps41
  go_wp2_with fail
  rw [← hwz]
  clear hwz e1
  refine (gencode_any _ _).mono ?_
  rintro e wk ⟨A, n, c', rfl, hn, o, bk⟩
  rw [show elB c.key = be4 c.key from if_pos he] at hn o
  rw [show elK c.key = 0 from if_pos he]
  have ob : GS wz.heap.size (be4 c.key) (.slice A n c') wk := RdS.of o fun b hb => hb
  have hck := hc.ext bk
  have hbk := hb.ex bk
  have xk := x0.tr bk
  clear hn o hc hb
  go_wp2_with fail
  refine Gd.wp_region_X 34 (by kernel_rfl) (by kernel_rfl) ?_
  simp only [List.take_succ_cons, List.take_zero, List.drop_succ_cons, List.drop_zero]
  intro w1 hw1
  have LL : ∀ m : Lt w1, Ext wk m.1 := fun m => hw1.tr m.2
  have v0 : ∀ m : Lt w1, m.1.cell? ⟨w.heap.size, 0, none⟩ = some (.string (bstr c.au)) := fun m => (hck.ext (LL m)).cells.1
  have v1 : ∀ m : Lt w1, m.1.cell? ⟨w.heap.size, 1, none⟩ = some (.string (bstr c.ho)) := fun m => (hck.ext (LL m)).cells.2.1
  have v3 : ∀ m : Lt w1, m.1.cell? ⟨w.heap.size, 3, none⟩ = some (.int .i64 c.role) := fun m => (hck.ext (LL m)).cells.2.2.2.1
  have v4 : ∀ m : Lt w1, m.1.cell? ⟨w.heap.size, 4, none⟩ = some (.int .i64 c.rights) := fun m => (hck.ext (LL m)).cells.2.2.2.2.1
  have v5 : ∀ m : Lt w1, m.1.cell? ⟨w.heap.size, 5, none⟩ = some (.int .i64 c.fr) := fun m => (hck.ext (LL m)).cells.2.2.2.2.2.1
  have v6 : ∀ m : Lt w1, m.1.cell? ⟨w.heap.size, 6, none⟩ = some (.int .i64 c.to) := fun m => (hck.ext (LL m)).cells.2.2.2.2.2.2.1
  have OB : ∀ m : Lt w1, GS wz.heap.size (be4 c.key) (.slice A n c') m.1 := fun m => stable_GS _ _ _ _ _ (LL m) ob
  have BB : ∀ m : Lt w1, wz.heap.size ≤ m.1.heap.size := fun m => Nat.le_trans bk.size (LL m).size
  repeat (refine Gd.wpX_pure (by first | exact trivial | exact ⟨_, rfl, rfl, rfl⟩) rfl rfl rfl rfl rfl (fun K hK => ?_); go_big_quiet_op; refine hK _ ?_; clear hK K)
  refine Gd.wpX_convL (by first | exact trivial | exact ⟨_, rfl, rfl, rfl⟩) (GS wz.heap.size c.au) (stable_GS _ _) (fun _ => .string (bstr c.au)) rfl rfl rfl rfl rfl (fun _ => rfl) (fun m f hf => gs_str m.1 (BB m) c.au sa) ?_
  simp only [Act.put, List.setIfInBounds_toArray, List.set_cons_zero, List.set_cons_succ]
  refine Gd.wpX_buildL (by first | exact trivial | exact ⟨_, rfl, rfl, rfl⟩) (NdG wz.heap.size 1 (leafN 66 c.au)) (stable_NdG _ _ _) (fun f => [(0, .int .i64 66), (1, f 18)]) rfl rfl rfl rfl rfl (fun f => rfl) (fun m f hf => run_leaf m.1 66 (hf 18 _ rfl rfl)) ?_
  simp only [Act.put, List.setIfInBounds_toArray, List.set_cons_zero, List.set_cons_succ]
  repeat (refine Gd.wpX_pure (by first | exact trivial | exact ⟨_, rfl, rfl, rfl⟩) rfl rfl rfl rfl rfl (fun K hK => ?_); go_big_quiet_op; refine hK _ ?_; clear hK K)
  refine Gd.wpX_convL (by first | exact trivial | exact ⟨_, rfl, rfl, rfl⟩) (GS wz.heap.size c.ho) (stable_GS _ _) (fun _ => .string (bstr c.ho)) rfl rfl rfl rfl rfl (fun _ => rfl) (fun m f hf => gs_str m.1 (BB m) c.ho sh) ?_
  simp only [Act.put, List.setIfInBounds_toArray, List.set_cons_zero, List.set_cons_succ]
  refine Gd.wpX_buildL (by first | exact trivial | exact ⟨_, rfl, rfl, rfl⟩) (NdG wz.heap.size 1 (leafN 24352 c.ho)) (stable_NdG _ _ _) (fun f => [(0, .int .i64 24352), (1, f 22)]) rfl rfl rfl rfl rfl (fun f => rfl) (fun m f hf => run_leaf m.1 24352 (hf 22 _ rfl rfl)) ?_
  simp only [Act.put, List.setIfInBounds_toArray, List.set_cons_zero, List.set_cons_succ]
  repeat (refine Gd.wpX_pure (by first | exact trivial | exact ⟨_, rfl, rfl, rfl⟩) rfl rfl rfl rfl rfl (fun K hK => ?_); go_big_quiet_op; refine hK _ ?_; clear hK K)
  refine Gd.wpX_buildL (by first | exact trivial | exact ⟨_, rfl, rfl, rfl⟩) (NdG wz.heap.size 1 (leafN 134 (be4 c.key))) (stable_NdG _ _ _) (fun f => [(0, .int .i64 134), (1, .slice A n c')]) rfl rfl rfl rfl rfl (fun f => rfl) (fun m f hf => run_leaf m.1 134 (OB m)) ?_
  simp only [Act.put, List.setIfInBounds_toArray, List.set_cons_zero, List.set_cons_succ]
  repeat (refine Gd.wpX_pure (by first | exact trivial | exact ⟨_, rfl, rfl, rfl⟩) rfl rfl rfl rfl rfl (fun K hK => ?_); go_big_quiet_op; refine hK _ ?_; clear hK K)
  refine Gd.wpX_buildSL (by first | exact trivial | exact ⟨_, rfl, rfl, rfl⟩) (GS wz.heap.size (roleB c)) (stable_GS _ _) (fun _ => [(0, .int .u8 (c.role % 256)), (1, .int .u8 (c.rights / 256 % 256)), (2, .int .u8 (c.rights % 256))]) rfl rfl rfl rfl rfl (fun _ => rfl) (fun m f hf => ⟨_, _, (by go_simp : (Instr.buildSlice 30 3 [(0, .int .u8 (c.role % 256)), (1, .int .u8 (c.rights / 256 % 256)), (2, .int .u8 (c.rights % 256))].toArray).run Tryd.prog m.1 = .ok (.slice (some ⟨m.1.heap.size, 0, none⟩) 3 3) (m.1.alloc (.cells #[.int .u8 (c.role % 256), .int .u8 (c.rights / 256 % 256), .int .u8 (c.rights % 256)] 5))), (Below.refl _ _).alloc (Nat.le_refl _) _, gs_lit m.1 (BB m) _ (roleB c) 3 rfl (by omega) (bvs_role c).symm⟩) ?_
  simp only [Act.put, List.setIfInBounds_toArray, List.set_cons_zero, List.set_cons_succ]
  refine Gd.wpX_buildL (by first | exact trivial | exact ⟨_, rfl, rfl, rfl⟩) (NdG wz.heap.size 0 (leafN 83 (roleB c))) (stable_NdG _ _ _) (fun f => [(0, .int .i64 83), (1, f 36)]) rfl rfl rfl rfl rfl (fun f => rfl) (fun m f hf => run_leaf m.1 83 (hf 36 _ rfl rfl)) ?_
  simp only [Act.put, List.setIfInBounds_toArray, List.set_cons_zero, List.set_cons_succ]
  refine Gd.wpX_buildSL (by first | exact trivial | exact ⟨_, rfl, rfl, rfl⟩) (NdsG wz.heap.size 1 [leafN 83 (roleB c)]) (stable_NdsG _ _ _) (fun f => [(0, f 37)]) rfl rfl rfl rfl rfl (fun f => rfl) (fun m f hf => run_nodes1 m.1 (BB m) (hf 37 _ rfl rfl)) ?_
  simp only [Act.put, List.setIfInBounds_toArray, List.set_cons_zero, List.set_cons_succ]
  refine Gd.wpX_buildL (by first | exact trivial | exact ⟨_, rfl, rfl, rfl⟩) (NdG wz.heap.size 1 (.mk 32588 [] [leafN 83 (roleB c)])) (stable_NdG _ _ _) (fun f => [(0, .int .i64 32588), (2, f 38)]) rfl rfl rfl rfl rfl (fun f => rfl) (fun m f hf => run_cons m.1 32588 (hf 38 _ rfl rfl)) ?_
  simp only [Act.put, List.setIfInBounds_toArray, List.set_cons_zero, List.set_cons_succ]
  repeat (refine Gd.wpX_pure (by first | exact trivial | exact ⟨_, rfl, rfl, rfl⟩) rfl rfl rfl rfl rfl (fun K hK => ?_); go_big_quiet_op; refine hK _ ?_; clear hK K)
  refine Gd.wpX_callF (by first | exact trivial | exact ⟨_, rfl, rfl, rfl⟩) (GS wz.heap.size (be3 c.fr)) (stable_GS _ _) (fun _ => [.int .i64 c.fr]) rfl rfl rfl rfl rfl (by kernel_rfl) rfl (fun _ => rfl) (fun m f hf => (three_any c.fr m.1).mono fun _ _ h => h.gs (BB m)) ?_
  simp only [Act.put, List.setIfInBounds_toArray, List.set_cons_zero, List.set_cons_succ]
  refine Gd.wpX_buildL (by first | exact trivial | exact ⟨_, rfl, rfl, rfl⟩) (NdG wz.heap.size 1 (leafN 24357 (be3 c.fr))) (stable_NdG _ _ _) (fun f => [(0, .int .i64 24357), (1, f 42)]) rfl rfl rfl rfl rfl (fun f => rfl) (fun m f hf => run_leaf m.1 24357 (hf 42 _ rfl rfl)) ?_
  simp only [Act.put, List.setIfInBounds_toArray, List.set_cons_zero, List.set_cons_succ]
  repeat (refine Gd.wpX_pure (by first | exact trivial | exact ⟨_, rfl, rfl, rfl⟩) rfl rfl rfl rfl rfl (fun K hK => ?_); go_big_quiet_op; refine hK _ ?_; clear hK K)
  refine Gd.wpX_callF (by first | exact trivial | exact ⟨_, rfl, rfl, rfl⟩) (GS wz.heap.size (be3 c.to)) (stable_GS _ _) (fun _ => [.int .i64 c.to]) rfl rfl rfl rfl rfl (by kernel_rfl) rfl (fun _ => rfl) (fun m f hf => (three_any c.to m.1).mono fun _ _ h => h.gs (BB m)) ?_
  simp only [Act.put, List.setIfInBounds_toArray, List.set_cons_zero, List.set_cons_succ]
  refine Gd.wpX_buildL (by first | exact trivial | exact ⟨_, rfl, rfl, rfl⟩) (NdG wz.heap.size 1 (leafN 24356 (be3 c.to))) (stable_NdG _ _ _) (fun f => [(0, .int .i64 24356), (1, f 46)]) rfl rfl rfl rfl rfl (fun f => rfl) (fun m f hf => run_leaf m.1 24356 (hf 46 _ rfl rfl)) ?_
  simp only [Act.put, List.setIfInBounds_toArray, List.set_cons_zero, List.set_cons_succ]
  refine Gd.wpX_buildSL (by first | exact trivial | exact ⟨_, rfl, rfl, rfl⟩) (NdsG wz.heap.size 2 (bodyT c).kids) (stable_NdsG _ _ _) (fun f => [(0, f 19), (1, f 23), (2, f 25), (3, f 39), (4, f 43), (5, f 47)]) rfl rfl rfl rfl rfl (fun f => rfl) (fun m f hf => run_nodes6 m.1 (BB m) (hf 19 _ rfl rfl) (hf 23 _ rfl rfl) (hf 25 _ rfl rfl) (hf 39 _ rfl rfl) (hf 43 _ rfl rfl) (hf 47 _ rfl rfl)) ?_
  simp only [Act.put, List.setIfInBounds_toArray, List.set_cons_zero, List.set_cons_succ]
  refine Gd.wpX_buildL (by first | exact trivial | exact ⟨_, rfl, rfl, rfl⟩) (NdG wz.heap.size 2 (bodyT c)) (stable_NdG _ _ _) (fun f => [(0, .int .i64 32590), (2, f 48)]) rfl rfl rfl rfl rfl (fun f => rfl) (fun m f hf => run_cons m.1 32590 (hf 48 _ rfl rfl)) ?_
  simp only [Act.put, List.setIfInBounds_toArray, List.set_cons_zero, List.set_cons_succ]
  refine Gd.wpX_endL (fun m f hf => ?_)
  obtain ⟨A1, n1, c1, A2, n2, c2, e49, r49, k49⟩ := hf 49 _ rfl
  rw [show (bodyT c).tag = 32590 from rfl] at e49
  simp only [fillH]
  simp only [Act.put, List.setIfInBounds_toArray, List.set_cons_zero, List.set_cons_succ]
  rw [e49]
  have Lm := LL m
  have xm := xk.tr Lm
  obtain ⟨wy, hwy⟩ := m
  clear LL BB OB v0 v1 v3 v4 v5 v6 hf e49
  have hby := hbk.ex Lm
  have NB := Lib.hid (node_back (w := w) (t := bodyT c) x0.size hsz r49 k49 (.int .i64 32590) (.slice A1 n1 c1) (.slice A2 n2 c2))
  clear r49 k49 hck
  obtain ⟨y0, y1, y2, yf0, yf1, yf2⟩ := hby.cells
  obtain ⟨w0', w1', w2', _, _, _⟩ := (hby.set3 (.int .i64 32590) (.slice A1 n1 c1) (.slice A2 n2 c2)).cells
  have hl := hby.lt
  show wpList _ _ _ _ _ _
  go_wp2_with fail
  refine bodyPost_ret (v := .tuple #[.agg #[.int .i64 32590, .slice A1 n1 c1, .slice A2 n2 c2], .int .i64 0]) ?_ rfl ⟨ext_set3 xm (by omega) _ _ _, _, NB.out, rfl⟩
  simp [results, Tryd.results41, go_sem, w0', w1', w2']
end Go.Proofs.YteilglpdmfiinaaDoor

namespace Go.Proofs.YteilglpdmfiinaaDoor
open Go.RowKit
set_option linter.unusedVariables false
set_option maxRecDepth 100000

set_option maxHeartbeats 400000 in
theorem refbody_ok (c : TC) (w : World) (h : ckT c = 0) : Calls Tryd.prog 44 #[tcV c] w (NodeR w 2 (bodyT c) id) := by
  obtain ⟨sa, sh⟩ := sm_of h
  have HC := Lib.hid (ckT_ok h)
  have he := (ckT_ok h).2.2.1
  clear h
  obtain ⟨wz, hwz⟩ : ∃ wz, wz = (w.alloc (.cells #[.string (bstr c.au), .string (bstr c.ho), .int .i64 c.key, .int .i64 c.role, .int .i64 c.rights, .int .i64 c.fr, .int .i64 c.to, .int .i64 c.e, .int .i64 c.s] 25)).alloc (.cells #[.int .i64 0, .slice none 0 0, .slice none 0 0] 62) := ⟨_, rfl⟩
  have e1 : Ext w (w.alloc (.cells #[.string (bstr c.au), .string (bstr c.ho), .int .i64 c.key, .int .i64 c.role, .int .i64 c.rights, .int .i64 c.fr, .int .i64 c.to, .int .i64 c.e, .int .i64 c.s] 25)) := (Below.refl _ _).alloc (Nat.le_refl _) _
  have x0 : Ext w wz := by rw [hwz]; exact e1.alloc (by simp) _
  have hc : TcAt wz w.heap.size c := by rw [hwz]; exact (TcAt.new w c).ext ((Below.refl _ _).alloc (Nat.le_refl _) _)
  have hb : C3 wz (w.heap.size + 1) (.int .i64 0) (.slice none 0 0) (.slice none 0 0) := by
    have := C3.new (w.alloc (.cells #[.string (bstr c.au), .string (bstr c.ho), .int .i64 c.key, .int .i64 c.role, .int .i64 c.rights, .int .i64 c.fr, .int .i64 c.to, .int .i64 c.e, .int .i64 c.s] 25)) (.int .i64 0) (.slice none 0 0) (.slice none 0 0)
    rw [show (w.alloc (.cells #[.string (bstr c.au), .string (bstr c.ho), .int .i64 c.key, .int .i64 c.role, .int .i64 c.rights, .int .i64 c.fr, .int .i64 c.to, .int .i64 c.e, .int .i64 c.s] 25)).heap.size = w.heap.size + 1 by simp] at this
    rw [hwz]; exact this
  have hsz : w.heap.size + 1 < wz.heap.size := hb.lt
  unfold tcV
  go_enter Tryd.func44, Tryd.ntmps44
  go_wp2_with fail
  rw [← hwz]
  clear hwz e1
  refine (refgencode_any _ _).mono ?_
  rintro e wk ⟨A, n, c', rfl, hn, o, bk⟩
  rw [show elB c.key = be4 c.key from if_pos he] at hn o
  rw [show elK c.key = 0 from if_pos he]
  have ob : GS wz.heap.size (be4 c.key) (.slice A n c') wk := RdS.of o fun b hb => hb
  have hck := hc.ext bk
  have hbk := hb.ex bk
  have xk := x0.tr bk
  clear hn o hc hb
  have r0 : 0 ≤ c.role := by have := HC.out.2.2.2.1; omega
  have r1 : c.role < 9223372036854775808 := by have := HC.out.2.2.2.2.1; omega
  have q0 : 0 ≤ c.rights := HC.out.2.2.2.2.2.1
  have q1 : c.rights < 9223372036854775808 := by have := HC.out.2.2.2.2.2.2.1; omega
  have fr0 : 0 ≤ c.fr := HC.out.2.2.2.2.2.2.2.1
  have to0 : 0 ≤ c.to := by have := HC.out.2.2.2.2.2.2.2.2.1; omega
  have to1 : c.to < 9223372036854775808 := by have := HC.out.2.2.2.2.2.2.2.2.2; omega
  have fr1 : c.fr < 9223372036854775808 := by have := HC.out.2.2.2.2.2.2.2.2.1; omega
  go_wp2_with fail
  refine Gd.wp_region_X 7 (by kernel_rfl) (by kernel_rfl) ?_
  simp only [List.take_succ_cons, List.take_zero, List.drop_succ_cons, List.drop_zero]
  intro w1 hw1
  have LL : ∀ m : Lt w1, Ext wk m.1 := fun m => hw1.tr m.2
  have v3 : ∀ m : Lt w1, m.1.cell? ⟨w.heap.size, 3, none⟩ = some (.int .i64 c.role) := fun m => (hck.ext (LL m)).cells.2.2.2.1
  have v4 : ∀ m : Lt w1, m.1.cell? ⟨w.heap.size, 4, none⟩ = some (.int .i64 c.rights) := fun m => (hck.ext (LL m)).cells.2.2.2.2.1
  have BB : ∀ m : Lt w1, wz.heap.size ≤ m.1.heap.size := fun m => Nat.le_trans bk.size (LL m).size
  repeat (refine Gd.wpX_pure (by first | exact trivial | exact ⟨_, rfl, rfl, rfl⟩) rfl rfl rfl rfl rfl (fun K hK => ?_); go_big_quiet_op; refine hK _ ?_; clear hK K)
  refine Gd.wpX_callF (by first | exact trivial | exact ⟨_, rfl, rfl, rfl⟩) (GF wz.heap.size [u8 c.role]) (stable_GF _ _) (fun _ => [.int .i64 c.role, .int .i64 1]) rfl rfl rfl rfl rfl (by kernel_rfl) rfl (fun _ => rfl) (fun m f hf => gf_bytes 1 c.role 1 m.1 (BB m) r0 r1 rfl (by omega)) ?_
  simp only [Act.put, List.setIfInBounds_toArray, List.set_cons_zero, List.set_cons_succ]
  repeat (refine Gd.wpX_pure (by first | exact trivial | exact ⟨_, rfl, rfl, rfl⟩) rfl rfl rfl rfl rfl (fun K hK => ?_); go_big_quiet_op; refine hK _ ?_; clear hK K)
  refine Gd.wpX_callF (by first | exact trivial | exact ⟨_, rfl, rfl, rfl⟩) (GF wz.heap.size [u8 (c.rights / 256), u8 c.rights]) (stable_GF _ _) (fun _ => [.int .i64 c.rights, .int .i64 2]) rfl rfl rfl rfl rfl (by kernel_rfl) rfl (fun _ => rfl) (fun m f hf => gf_bytes 2 c.rights 2 m.1 (BB m) q0 q1 rfl (by omega)) ?_
  simp only [Act.put, List.setIfInBounds_toArray, List.set_cons_zero, List.set_cons_succ]
  refine Gd.wpX_appF (by first | exact trivial | exact ⟨_, rfl, rfl, rfl⟩) (GS wz.heap.size (roleB c)) (stable_GS _ _) (fun f => f 14) (fun f => f 17) rfl rfl rfl rfl rfl rfl (fun _ => rfl) (fun _ => rfl) (fun m f hf => run_appFull (BB m) (hf 14 _ rfl rfl) (hf 17 _ rfl rfl).gs (by simp) (by simp) (by simp)) ?_
  simp only [Act.put, List.setIfInBounds_toArray, List.set_cons_zero, List.set_cons_succ]
  refine Gd.wpX_endL (fun m f hf => ?_)
  have h18 := hf 18 _ rfl
  simp only [fillH]
  simp only [Act.put, List.setIfInBounds_toArray, List.set_cons_zero, List.set_cons_succ]
  obtain ⟨Aq, nq, cq, e18⟩ := h18.slice
  rw [e18] at h18 ⊢
  have ob2 : GS wz.heap.size (be4 c.key) (.slice A n c') m.1 := stable_GS _ _ _ _ _ (LL m) ob
  have bk2 := bk.tr (LL m)
  have hck2 := hck.ext (LL m)
  have hbk2 := hbk.ex (LL m)
  have xk2 := xk.tr (LL m)
  obtain ⟨wq, hwq⟩ := m
  have oq : GS wz.heap.size (roleB c) (.slice Aq nq cq) wq := h18
  clear LL BB v3 v4 hf e18 h18 ob hck hbk xk bk
  show wpList _ _ _ _ _ _
  go_wp2_with fail
  refine Gd.wp_region_X 24 (by kernel_rfl) (by kernel_rfl) ?_
  simp only [List.take_succ_cons, List.take_zero, List.drop_succ_cons, List.drop_zero]
  intro w1 hw1
  have LL : ∀ m : Lt w1, Ext wq m.1 := fun m => hw1.tr m.2
  have v0 : ∀ m : Lt w1, m.1.cell? ⟨w.heap.size, 0, none⟩ = some (.string (bstr c.au)) := fun m => (hck2.ext (LL m)).cells.1
  have v1 : ∀ m : Lt w1, m.1.cell? ⟨w.heap.size, 1, none⟩ = some (.string (bstr c.ho)) := fun m => (hck2.ext (LL m)).cells.2.1
  have v5 : ∀ m : Lt w1, m.1.cell? ⟨w.heap.size, 5, none⟩ = some (.int .i64 c.fr) := fun m => (hck2.ext (LL m)).cells.2.2.2.2.2.1
  have v6 : ∀ m : Lt w1, m.1.cell? ⟨w.heap.size, 6, none⟩ = some (.int .i64 c.to) := fun m => (hck2.ext (LL m)).cells.2.2.2.2.2.2.1
  have OB : ∀ m : Lt w1, GS wz.heap.size (be4 c.key) (.slice A n c') m.1 := fun m => stable_GS _ _ _ _ _ (LL m) ob2
  have BB : ∀ m : Lt w1, wz.heap.size ≤ m.1.heap.size := fun m => Nat.le_trans bk2.size (LL m).size
  have OR : ∀ m : Lt w1, GS wz.heap.size (roleB c) (.slice Aq nq cq) m.1 := fun m => stable_GS _ _ _ _ _ (LL m) oq
  repeat (refine Gd.wpX_pure (by first | exact trivial | exact ⟨_, rfl, rfl, rfl⟩) rfl rfl rfl rfl rfl (fun K hK => ?_); go_big_quiet_op; refine hK _ ?_; clear hK K)
  refine Gd.wpX_convL (by first | exact trivial | exact ⟨_, rfl, rfl, rfl⟩) (GS wz.heap.size c.au) (stable_GS _ _) (fun _ => .string (bstr c.au)) rfl rfl rfl rfl rfl (fun _ => rfl) (fun m f hf => gs_str m.1 (BB m) c.au sa) ?_
  simp only [Act.put, List.setIfInBounds_toArray, List.set_cons_zero, List.set_cons_succ]
  refine Gd.wpX_callF (by first | exact trivial | exact ⟨_, rfl, rfl, rfl⟩) (NdG wz.heap.size 1 (leafN 66 c.au)) (stable_NdG _ _ _) (fun f => [.int .i64 66, f 21]) rfl rfl rfl rfl rfl (by kernel_rfl) rfl (fun f => rfl) (fun m f hf => leafC m.1 66 (hf 21 _ rfl rfl)) ?_
  simp only [Act.put, List.setIfInBounds_toArray, List.set_cons_zero, List.set_cons_succ]
  repeat (refine Gd.wpX_pure (by first | exact trivial | exact ⟨_, rfl, rfl, rfl⟩) rfl rfl rfl rfl rfl (fun K hK => ?_); go_big_quiet_op; refine hK _ ?_; clear hK K)
  refine Gd.wpX_convL (by first | exact trivial | exact ⟨_, rfl, rfl, rfl⟩) (GS wz.heap.size c.ho) (stable_GS _ _) (fun _ => .string (bstr c.ho)) rfl rfl rfl rfl rfl (fun _ => rfl) (fun m f hf => gs_str m.1 (BB m) c.ho sh) ?_
  simp only [Act.put, List.setIfInBounds_toArray, List.set_cons_zero, List.set_cons_succ]
  refine Gd.wpX_callF (by first | exact trivial | exact ⟨_, rfl, rfl, rfl⟩) (NdG wz.heap.size 1 (leafN 24352 c.ho)) (stable_NdG _ _ _) (fun f => [.int .i64 24352, f 25]) rfl rfl rfl rfl rfl (by kernel_rfl) rfl (fun f => rfl) (fun m f hf => leafC m.1 24352 (hf 25 _ rfl rfl)) ?_
  simp only [Act.put, List.setIfInBounds_toArray, List.set_cons_zero, List.set_cons_succ]
  repeat (refine Gd.wpX_pure (by first | exact trivial | exact ⟨_, rfl, rfl, rfl⟩) rfl rfl rfl rfl rfl (fun K hK => ?_); go_big_quiet_op; refine hK _ ?_; clear hK K)
  refine Gd.wpX_callF (by first | exact trivial | exact ⟨_, rfl, rfl, rfl⟩) (NdG wz.heap.size 1 (leafN 134 (be4 c.key))) (stable_NdG _ _ _) (fun f => [.int .i64 134, .slice A n c']) rfl rfl rfl rfl rfl (by kernel_rfl) rfl (fun f => rfl) (fun m f hf => leafC m.1 134 (OB m)) ?_
  simp only [Act.put, List.setIfInBounds_toArray, List.set_cons_zero, List.set_cons_succ]
  repeat (refine Gd.wpX_pure (by first | exact trivial | exact ⟨_, rfl, rfl, rfl⟩) rfl rfl rfl rfl rfl (fun K hK => ?_); go_big_quiet_op; refine hK _ ?_; clear hK K)
  refine Gd.wpX_callF (by first | exact trivial | exact ⟨_, rfl, rfl, rfl⟩) (NdG wz.heap.size 0 (leafN 83 (roleB c))) (stable_NdG _ _ _) (fun f => [.int .i64 83, .slice Aq nq cq]) rfl rfl rfl rfl rfl (by kernel_rfl) rfl (fun f => rfl) (fun m f hf => leafC m.1 83 (OR m)) ?_
  simp only [Act.put, List.setIfInBounds_toArray, List.set_cons_zero, List.set_cons_succ]
  refine Gd.wpX_buildSL (by first | exact trivial | exact ⟨_, rfl, rfl, rfl⟩) (NdsG wz.heap.size 1 [leafN 83 (roleB c)]) (stable_NdsG _ _ _) (fun f => [(0, f 30)]) rfl rfl rfl rfl rfl (fun f => rfl) (fun m f hf => run_nodes1 m.1 (BB m) (hf 30 _ rfl rfl)) ?_
  simp only [Act.put, List.setIfInBounds_toArray, List.set_cons_zero, List.set_cons_succ]
  refine Gd.wpX_buildL (by first | exact trivial | exact ⟨_, rfl, rfl, rfl⟩) (NdG wz.heap.size 1 (.mk 32588 [] [leafN 83 (roleB c)])) (stable_NdG _ _ _) (fun f => [(0, .int .i64 32588), (2, f 31)]) rfl rfl rfl rfl rfl (fun f => rfl) (fun m f hf => run_cons m.1 32588 (hf 31 _ rfl rfl)) ?_
  simp only [Act.put, List.setIfInBounds_toArray, List.set_cons_zero, List.set_cons_succ]
  repeat (refine Gd.wpX_pure (by first | exact trivial | exact ⟨_, rfl, rfl, rfl⟩) rfl rfl rfl rfl rfl (fun K hK => ?_); go_big_quiet_op; refine hK _ ?_; clear hK K)
  refine Gd.wpX_callF (by first | exact trivial | exact ⟨_, rfl, rfl, rfl⟩) (GS wz.heap.size (be3 c.fr)) (stable_GS _ _) (fun _ => [.int .i64 c.fr, .int .i64 3]) rfl rfl rfl rfl rfl (by kernel_rfl) rfl (fun _ => rfl) (fun m f hf => (refbytes_any 3 c.fr 3 m.1 fr0 fr1 rfl (by omega)).mono fun _ _ h => (beN_3 c.fr ▸ h : RetB _ _ _ _).gs (BB m)) ?_
  simp only [Act.put, List.setIfInBounds_toArray, List.set_cons_zero, List.set_cons_succ]
  refine Gd.wpX_callF (by first | exact trivial | exact ⟨_, rfl, rfl, rfl⟩) (NdG wz.heap.size 1 (leafN 24357 (be3 c.fr))) (stable_NdG _ _ _) (fun f => [.int .i64 24357, f 35]) rfl rfl rfl rfl rfl (by kernel_rfl) rfl (fun f => rfl) (fun m f hf => leafC m.1 24357 (hf 35 _ rfl rfl)) ?_
  simp only [Act.put, List.setIfInBounds_toArray, List.set_cons_zero, List.set_cons_succ]
  repeat (refine Gd.wpX_pure (by first | exact trivial | exact ⟨_, rfl, rfl, rfl⟩) rfl rfl rfl rfl rfl (fun K hK => ?_); go_big_quiet_op; refine hK _ ?_; clear hK K)
  refine Gd.wpX_callF (by first | exact trivial | exact ⟨_, rfl, rfl, rfl⟩) (GS wz.heap.size (be3 c.to)) (stable_GS _ _) (fun _ => [.int .i64 c.to, .int .i64 3]) rfl rfl rfl rfl rfl (by kernel_rfl) rfl (fun _ => rfl) (fun m f hf => (refbytes_any 3 c.to 3 m.1 to0 to1 rfl (by omega)).mono fun _ _ h => (beN_3 c.to ▸ h : RetB _ _ _ _).gs (BB m)) ?_
  simp only [Act.put, List.setIfInBounds_toArray, List.set_cons_zero, List.set_cons_succ]
  refine Gd.wpX_callF (by first | exact trivial | exact ⟨_, rfl, rfl, rfl⟩) (NdG wz.heap.size 1 (leafN 24356 (be3 c.to))) (stable_NdG _ _ _) (fun f => [.int .i64 24356, f 39]) rfl rfl rfl rfl rfl (by kernel_rfl) rfl (fun f => rfl) (fun m f hf => leafC m.1 24356 (hf 39 _ rfl rfl)) ?_
  simp only [Act.put, List.setIfInBounds_toArray, List.set_cons_zero, List.set_cons_succ]
  refine Gd.wpX_buildSL (by first | exact trivial | exact ⟨_, rfl, rfl, rfl⟩) (NdsG wz.heap.size 2 (bodyT c).kids) (stable_NdsG _ _ _) (fun f => [(0, f 22), (1, f 26), (2, f 28), (3, f 32), (4, f 36), (5, f 40)]) rfl rfl rfl rfl rfl (fun f => rfl) (fun m f hf => run_nodes6 m.1 (BB m) (hf 22 _ rfl rfl) (hf 26 _ rfl rfl) (hf 28 _ rfl rfl) (hf 32 _ rfl rfl) (hf 36 _ rfl rfl) (hf 40 _ rfl rfl)) ?_
  simp only [Act.put, List.setIfInBounds_toArray, List.set_cons_zero, List.set_cons_succ]
  refine Gd.wpX_buildL (by first | exact trivial | exact ⟨_, rfl, rfl, rfl⟩) (NdG wz.heap.size 2 (bodyT c)) (stable_NdG _ _ _) (fun f => [(0, .int .i64 32590), (2, f 41)]) rfl rfl rfl rfl rfl (fun f => rfl) (fun m f hf => run_cons m.1 32590 (hf 41 _ rfl rfl)) ?_
  simp only [Act.put, List.setIfInBounds_toArray, List.set_cons_zero, List.set_cons_succ]
  refine Gd.wpX_endL (fun m f hf => ?_)
  obtain ⟨A1, n1, c1, A2, n2, c2, e49, r49, k49⟩ := hf 42 _ rfl
  rw [show (bodyT c).tag = 32590 from rfl] at e49
  simp only [fillH]
  simp only [Act.put, List.setIfInBounds_toArray, List.set_cons_zero, List.set_cons_succ]
  rw [e49]
  have Lm := LL m
  have xm := xk2.tr Lm
  obtain ⟨wy, hwy⟩ := m
  clear LL BB OB OR v0 v1 v5 v6 hf e49
  have hby := hbk2.ex Lm
  have NB := Lib.hid (node_back (w := w) (t := bodyT c) x0.size hsz r49 k49 (.int .i64 32590) (.slice A1 n1 c1) (.slice A2 n2 c2))
  clear r49 k49 hck2
  obtain ⟨y0, y1, y2, yf0, yf1, yf2⟩ := hby.cells
  obtain ⟨w0', w1', w2', _, _, _⟩ := (hby.set3 (.int .i64 32590) (.slice A1 n1 c1) (.slice A2 n2 c2)).cells
  have hl := hby.lt
  show wpList _ _ _ _ _ _
  go_wp2_with fail
  refine bodyPost_ret (v := .agg #[.int .i64 32590, .slice A1 n1 c1, .slice A2 n2 c2]) ?_ rfl ⟨ext_set3 xm (by omega) _ _ _, _, NB.out, rfl⟩
  simp [results, Tryd.results44, go_sem, w0', w1', w2']
end Go.Proofs.YteilglpdmfiinaaDoor

namespace Go.Proofs.YteilglpdmfiinaaDoor
open Go.RowKit
set_option linter.unusedVariables false
set_option maxRecDepth 100000

theorem Rd.gs0 {w : World} {v : Value} {l : List UInt8} (h : Rd w v (bvs l)) : GS 0 l v w := by
  obtain ⟨A, n, c, h1, h2, h3, h4, h5⟩ := h
  exact ⟨A, n, c, h1, h2, h3, h4, fun h0 => by obtain ⟨b, o, q1, q2⟩ := h5 h0; exact ⟨b, o, q1, Nat.zero_le _, q2⟩⟩
theorem NdG.zero {B d : Nat} {t : Nd} {v : Value} {w : World} (h : NdG B d t v w) : NdG 0 d t v w := by
  obtain ⟨A1, n1, c1, A2, n2, c2, h1, h2, h3⟩ := h
  exact ⟨A1, n1, c1, A2, n2, c2, h1, h2.map fun b _ _ => ⟨Nat.zero_le _, rfl⟩, h3.map fun b _ _ => ⟨Nat.zero_le _, rfl⟩⟩
theorem nds_one {d g : Nat} {W : World} {t : Nd} {A1 A2 : Option Addr} {n1 c1 n2 c2 : Nat} (hg : g = W.heap.size) (h : NdG 0 d t (.agg #[.int .i64 t.tag, .slice A1 n1 c1, .slice A2 n2 c2]) W) :
    NdsRd (d + 1) (W.alloc (.cells #[.int .i64 t.tag, .slice A1 n1 c1, .slice A2 n2 c2] 62)) (.slice (some ⟨g, 0, none⟩) 1 1) [t] := by
  subst hg
  obtain ⟨B1, m1, k1, B2, m2, k2, e, r, k⟩ := h
  injection e with e
  injection e with e
  simp only [List.cons.injEq, Value.slice.injEq, and_true, true_and] at e
  obtain ⟨⟨rfl, rfl, rfl⟩, rfl, rfl, rfl⟩ := e
  exact (ndsS_lit [.int .i64 t.tag, .slice A1 n1 c1, .slice A2 n2 c2] [t] 1 rfl (by omega) ((NdCells.nil _ d W).snoc r k) (Nat.zero_le _)).rd
/-- An object with two objects below it, the second a leaf: three rows. -/
theorem nds_cert {d g1 g2 : Nat} {W : World} {t : Nd} {T S : Int} {l : List UInt8} {A1 A2 A : Option Addr} {n1 c1 n2 c2 n c : Nat} (hg1 : g1 = W.heap.size) (hg2 : g2 = W.heap.size + 1)
    (h : NdG 0 d t (.agg #[.int .i64 t.tag, .slice A1 n1 c1, .slice A2 n2 c2]) W) (hs : GS 0 l (.slice A n c) W) :
    NdsRd (d + 2) ((W.alloc (.cells #[.int .i64 t.tag, .slice A1 n1 c1, .slice A2 n2 c2, .int .i64 S, .slice A n c, .slice none 0 0] 62)).alloc (.cells #[.int .i64 T, .slice none 0 0, .slice (some ⟨g1, 0, none⟩) 2 2] 62)) (.slice (some ⟨g2, 0, none⟩) 1 1) [.mk T [] [t, leafN S l]] := by
  subst hg1
  obtain ⟨B1, m1, k1, B2, m2, k2, e, r, k⟩ := h
  injection e with e
  injection e with e
  simp only [List.cons.injEq, Value.slice.injEq, and_true, true_and] at e
  obtain ⟨⟨rfl, rfl, rfl⟩, rfl, rfl, rfl⟩ := e
  have h2 := ndsS_lit [.int .i64 t.tag, .slice A1 n1 c1, .slice A2 n2 c2, .int .i64 S, .slice A n c, .slice none 0 0] [t, leafN S l] 2 rfl (by omega) (((NdCells.nil _ d W).snoc r k).snoc (t := leafN S l) hs (NdsS.nil _ _)) (Nat.zero_le _)
  exact nds_one (t := .mk T [] [t, leafN S l]) (by rw [hg2]; simp) ⟨_, _, _, _, _, _, rfl, RdS.nil _, h2⟩
theorem cnt_body (c : TC) : cntNs 3 [bodyT c] ≤ 256 := show 8 ≤ 256 by omega
theorem cnt_cert (c : TC) : cntNs 4 [certT c] ≤ 256 := show 10 ≤ 256 by omega
theorem bodyB_4096 {c : TC} (h : ckT c = 0) : (encNs 3 [bodyT c]).length ≤ 4096 := by
  obtain ⟨⟨a1, _⟩, ⟨a2, _⟩, _⟩ := ckT_ok h
  have := bodyB_len a1.2 a2.2
  unfold bodyB at this
  omega
theorem tcB_4096 {c : TC} (h : ckT c = 0) : (encNs 4 [certT c]).length ≤ 4096 := by
  obtain ⟨⟨a1, _⟩, ⟨a2, _⟩, _⟩ := ckT_ok h
  have := tcB_len a1.2 a2.2
  unfold tcB at this
  omega
theorem node_open {B d : Nat} {t : Nd} {v : Value} {w : World} (h : NdG B d t v w) : ∃ (A1 : Option Addr) (n1 c1 : Nat) (A2 : Option Addr) (n2 c2 : Nat), v = .agg #[.int .i64 t.tag, .slice A1 n1 c1, .slice A2 n2 c2] := by
  obtain ⟨A1, n1, c1, A2, n2, c2, h, _⟩ := h
  exact ⟨A1, n1, c1, A2, n2, c2, h⟩
set_option maxHeartbeats 1000000 in
theorem body_any (c : TC) (w : World) (hs : smT c) : Calls Tryd.prog 12 #[tcV c] w (RetRE w (byB c) (ckT c)) := by
  have x0 : Ext w (w.alloc (.cells #[.string (bstr c.au), .string (bstr c.ho), .int .i64 c.key, .int .i64 c.role, .int .i64 c.rights, .int .i64 c.fr, .int .i64 c.to, .int .i64 c.e, .int .i64 c.s] 25)) := (Below.refl _ _).alloc (Nat.le_refl _) _
  unfold tcV
  go_enter Tryd.func12, Tryd.ntmps12
  go_wp2_with fail
  refine (checkP_any c _ hs).mono ?_
  rintro e w1 ⟨rfl, b1⟩
  have x1 := x0.tr b1
  have hT := (TcAt.new w c).ext b1
  by_cases hc : ckT c = 0
  · have HK := Lib.hid hc
    have HB := Lib.hid (show byB c = bodyB c from if_pos hc)
    rw [hc]
    clear hc
    obtain ⟨t0, t1, t2, t3, t4, t5, t6, t7, t8⟩ := hT.cells
    have hl := hT.lt
    go_wp2_with fail
    refine (tree_ok c _ HK.out).mono ?_
    rintro e w2 ⟨b2, v, hv, rfl⟩
    obtain ⟨A1, n1, c1, A2, n2, c2, rfl⟩ := node_open hv
    have x2 := x1.tr b2
    have hv0 := stable_NdG _ _ _ _ _ _ ((Below.refl _ _).alloc (Nat.le_refl _) (.cells #[.int .i64 32590, .slice A1 n1 c1, .slice A2 n2 c2] 62)) hv.zero
    have x3 : Ext w ((w2.alloc (.cells #[.int .i64 32590, .slice A1 n1 c1, .slice A2 n2 c2] 62)).alloc (.cells #[.int .i64 32590, .slice A1 n1 c1, .slice A2 n2 c2] 62)) := (x2.alloc x2.size _).alloc (by simp; have := x2.size; omega) _
    have HV := Lib.hid hv0
    clear hv hv0 t0 t1 t2 t3 t4 t5 t6 t7 t8 hT hl
    rw [show (bodyT c).tag = 32590 from rfl]
    go_wp2_with fail
    refine (encode_ok (d := 3) (ts := [bodyT c]) _ (ok_bodyT c) (nds_one (t := bodyT c) (by simp) HV.out) (by omega) (cnt_body c) (bodyB_4096 HK.out)).mono ?_
    rintro e w4 ⟨A, n, cc, rfl, hn, o, b4⟩
    go_wp2_with fail
    go_ret2
    rw [HB.out, HK.out]
    exact ⟨_, _, _, rfl, hn, o.rd, x3.tr b4⟩
  · have hb : (ckT c != 0) = true := by simpa using hc
    have HB := Lib.hid (show byB c = [] from if_neg hc)
    clear hc
    go_wp2_with fail
    go_ret2
    rw [HB.out]
    exact ⟨_, _, _, rfl, (show _ = _ from rfl), Rd.nil_ _, x1⟩
set_option maxHeartbeats 1000000 in
theorem refbody_any (c : TC) (w : World) (hs : smT c) : Calls Tryd.prog 13 #[tcV c] w (RetRE w (byB c) (ckT c)) := by
  have x0 : Ext w (w.alloc (.cells #[.string (bstr c.au), .string (bstr c.ho), .int .i64 c.key, .int .i64 c.role, .int .i64 c.rights, .int .i64 c.fr, .int .i64 c.to, .int .i64 c.e, .int .i64 c.s] 25)) := (Below.refl _ _).alloc (Nat.le_refl _) _
  unfold tcV
  go_enter Tryd.func13, Tryd.ntmps13
  go_wp2_with fail
  refine (checkR_any c _ hs).mono ?_
  rintro e w1 ⟨rfl, b1⟩
  have x1 := x0.tr b1
  have hT := (TcAt.new w c).ext b1
  by_cases hc : ckT c = 0
  · have HK := Lib.hid hc
    have HB := Lib.hid (show byB c = bodyB c from if_pos hc)
    rw [hc]
    clear hc
    obtain ⟨t0, t1, t2, t3, t4, t5, t6, t7, t8⟩ := hT.cells
    have hl := hT.lt
    go_wp2_with fail
    refine (refbody_ok c _ HK.out).mono ?_
    rintro e w2 ⟨b2, v, hv, rfl⟩
    obtain ⟨A1, n1, c1, A2, n2, c2, rfl⟩ := node_open hv
    have x2 := x1.tr b2
    have x3 : Ext w (w2.alloc (.cells #[.int .i64 32590, .slice A1 n1 c1, .slice A2 n2 c2] 62)) := x2.alloc x2.size _
    have HV := Lib.hid hv.zero
    clear hv t0 t1 t2 t3 t4 t5 t6 t7 t8 hT hl
    rw [show (bodyT c).tag = 32590 from rfl]
    simp only [id]
    go_wp2_with fail
    refine (refencode_ok (d := 3) (ts := [bodyT c]) _ (ok_bodyT c) (nds_one (t := bodyT c) rfl HV.out) (by omega) (cnt_body c) (bodyB_4096 HK.out)).mono ?_
    rintro e w4 ⟨A, n, cc, rfl, hn, o, b4⟩
    go_wp2_with fail
    go_ret2
    rw [HB.out, HK.out]
    exact ⟨_, _, _, rfl, hn, o.rd, x3.tr b4⟩
  · have hb : (ckT c != 0) = true := by simpa using hc
    have HB := Lib.hid (show byB c = [] from if_neg hc)
    clear hc
    go_wp2_with fail
    go_ret2
    rw [HB.out]
    exact ⟨_, _, _, rfl, (show _ = _ from rfl), Rd.nil_ _, x1⟩
end Go.Proofs.YteilglpdmfiinaaDoor

namespace Go.Proofs.YteilglpdmfiinaaDoor
open Go.RowKit
set_option linter.unusedVariables false
set_option maxRecDepth 100000

theorem encB_ok {e s : Int} (h : encK e s = 0) : encB e s = be4 e ++ be4 s := by
  unfold encK at h
  unfold encB
  split at h
  · rename_i q; rw [if_pos q]
  · cases h
set_option maxHeartbeats 2000000 in
theorem tencode_any (c : TC) (w : World) (hs : smT c) : Calls Tryd.prog 14 #[tcV c] w (RetRE w (ecB c) (ecK c)) := by
  have x0 : Ext w (w.alloc (.cells #[.string (bstr c.au), .string (bstr c.ho), .int .i64 c.key, .int .i64 c.role, .int .i64 c.rights, .int .i64 c.fr, .int .i64 c.to, .int .i64 c.e, .int .i64 c.s] 25)) := (Below.refl _ _).alloc (Nat.le_refl _) _
  unfold tcV
  go_enter Tryd.func14, Tryd.ntmps14
  go_wp2_with fail
  refine (checkP_any c _ hs).mono ?_
  rintro e w1 ⟨rfl, b1⟩
  have x1 := x0.tr b1
  have hT := (TcAt.new w c).ext b1
  by_cases hc : ckT c = 0
  · have HK := Lib.hid hc
    rw [hc]
    obtain ⟨_, _, _, _, _, _, _, t7, t8⟩ := hT.cells
    have hl := hT.lt
    have HE := Lib.hid (show ecK c = encK c.e c.s from if_pos hc)
    clear hc
    go_wp2_with fail
    refine (enc_any c.e c.s _).mono ?_
    rintro e w2 ⟨A, n, cs, rfl, hn, r, b2⟩
    have x2 := x1.tr b2
    have hT2 := hT.ext b2
    clear t7 t8 hT hl
    by_cases hk : encK c.e c.s = 0
    · have HB := Lib.hid (show ecB c = tcB c from if_pos (HE.out.trans hk))
      have HE2 := Lib.hid (HE.out.trans hk)
      rw [encB_ok hk] at r hn
      rw [hk]
      clear hk
      obtain ⟨t0, t1, t2, t3, t4, t5, t6, t7, t8⟩ := hT2.cells
      have hl := hT2.lt
      go_wp2_with fail
      refine (tree_ok c _ HK.out).mono ?_
      rintro e w3 ⟨b3, v, hv, rfl⟩
      obtain ⟨A1, n1, c1, A2, n2, c2, rfl⟩ := node_open hv
      rw [show (bodyT c).tag = 32590 from rfl]
      have x3 := x2.tr b3
      have e1 : Ext w3 (w3.alloc (.cells #[.int .i64 32590, .slice A1 n1 c1, .slice A2 n2 c2] 62)) := (Below.refl _ _).alloc (Nat.le_refl _) _
      have HV := Lib.hid (stable_NdG _ _ _ _ _ _ e1 hv.zero)
      have HS := Lib.hid (stable_GS _ _ _ _ _ e1 (r.ext b3).gs0)
      have HN := Lib.hid (nds_cert (d := 2) (g1 := w3.heap.size + 1) (g2 := w3.heap.size + 2) (t := bodyT c) (T := 32545) (S := 24375) (by simp) (by simp) HV.out HS.out)
      have x4 : Ext w (((w3.alloc (.cells #[.int .i64 32590, .slice A1 n1 c1, .slice A2 n2 c2] 62)).alloc (.cells #[.int .i64 32590, .slice A1 n1 c1, .slice A2 n2 c2, .int .i64 24375, .slice A n cs, .slice none 0 0] 62)).alloc (.cells #[.int .i64 32545, .slice none 0 0, .slice (some ⟨w3.heap.size + 1, 0, none⟩) 2 2] 62)) :=
        (x3.tr e1).tr (((Below.refl _ _).alloc (Nat.le_refl _) _).alloc (by simp) _)
      clear t0 t1 t2 t3 t4 t5 t6 t7 t8 hT2 hl hv r e1
      go_wp2_with fail
      refine (encode_ok (d := 4) (ts := [certT c]) _ (ok_certT c) HN.out (by omega) (cnt_cert c) (tcB_4096 HK.out)).mono ?_
      rintro e w4 ⟨A', n', cc, rfl, hn', o, b4⟩
      go_wp2_with fail
      go_ret2
      rw [HB.out, HE2.out]
      exact ⟨_, _, _, rfl, hn', o.rd, x4.tr b4⟩
    · have hb : (encK c.e c.s != 0) = true := by simpa using hk
      have HB := Lib.hid (show ecB c = [] from if_neg (fun q => hk (HE.out.symm.trans q)))
      clear hk
      go_wp2_with fail
      go_ret2
      rw [HB.out, HE.out]
      exact ⟨_, _, _, rfl, (show _ = _ from rfl), Rd.nil_ _, x2⟩
  · have hb : (ckT c != 0) = true := by simpa using hc
    have HE := Lib.hid (show ecK c = ckT c from if_neg hc)
    have HB := Lib.hid (show ecB c = [] from if_neg (fun q => hc (HE.out.symm.trans q)))
    clear hc
    go_wp2_with fail
    go_ret2
    rw [HB.out, HE.out]
    exact ⟨_, _, _, rfl, (show _ = _ from rfl), Rd.nil_ _, x1⟩
set_option maxHeartbeats 2000000 in
theorem reftencode_any (c : TC) (w : World) (hs : smT c) : Calls Tryd.prog 15 #[tcV c] w (RetRE w (ecB c) (ecK c)) := by
  have x0 : Ext w (w.alloc (.cells #[.string (bstr c.au), .string (bstr c.ho), .int .i64 c.key, .int .i64 c.role, .int .i64 c.rights, .int .i64 c.fr, .int .i64 c.to, .int .i64 c.e, .int .i64 c.s] 25)) := (Below.refl _ _).alloc (Nat.le_refl _) _
  unfold tcV
  go_enter Tryd.func15, Tryd.ntmps15
  go_wp2_with fail
  refine (checkR_any c _ hs).mono ?_
  rintro e w1 ⟨rfl, b1⟩
  have x1 := x0.tr b1
  have hT := (TcAt.new w c).ext b1
  by_cases hc : ckT c = 0
  · have HK := Lib.hid hc
    rw [hc]
    obtain ⟨_, _, _, _, _, _, _, t7, t8⟩ := hT.cells
    have hl := hT.lt
    have HE := Lib.hid (show ecK c = encK c.e c.s from if_pos hc)
    clear hc
    go_wp2_with fail
    refine (refenc_any c.e c.s _).mono ?_
    rintro e w2 ⟨A, n, cs, rfl, hn, r, b2⟩
    have x2 := x1.tr b2
    have hT2 := hT.ext b2
    clear t7 t8 hT hl
    by_cases hk : encK c.e c.s = 0
    · have HB := Lib.hid (show ecB c = tcB c from if_pos (HE.out.trans hk))
      have HE2 := Lib.hid (HE.out.trans hk)
      rw [encB_ok hk] at r hn
      rw [hk]
      clear hk
      obtain ⟨t0, t1, t2, t3, t4, t5, t6, t7, t8⟩ := hT2.cells
      have hl := hT2.lt
      go_wp2_with fail
      refine (refbody_ok c _ HK.out).mono ?_
      rintro e w3 ⟨b3, v, hv, rfl⟩
      obtain ⟨A1, n1, c1, A2, n2, c2, rfl⟩ := node_open hv
      rw [show (bodyT c).tag = 32590 from rfl]
      have x3 := x2.tr b3
      clear t0 t1 t2 t3 t4 t5 t6 t7 t8 hT2 hl
      simp only [id]
      go_wp2_with fail
      refine (leaf_any 24375 A n cs _).mono ?_
      rintro e w4 ⟨rfl, b4⟩
      have x4 := x3.tr b4
      have HV := Lib.hid (stable_NdG _ _ _ _ _ _ b4 hv.zero)
      have HS := Lib.hid ((r.ext b3).ext b4).gs0
      have HN := Lib.hid (nds_cert (d := 2) (g1 := w4.heap.size) (g2 := w4.heap.size + 1) (t := bodyT c) (T := 32545) (S := 24375) rfl rfl HV.out HS.out)
      have x5 : Ext w ((w4.alloc (.cells #[.int .i64 32590, .slice A1 n1 c1, .slice A2 n2 c2, .int .i64 24375, .slice A n cs, .slice none 0 0] 62)).alloc (.cells #[.int .i64 32545, .slice none 0 0, .slice (some ⟨w4.heap.size, 0, none⟩) 2 2] 62)) :=
        x4.tr (((Below.refl _ _).alloc (Nat.le_refl _) _).alloc (by simp) _)
      clear hv r
      go_wp2_with fail
      refine (refencode_ok (d := 4) (ts := [certT c]) _ (ok_certT c) HN.out (by omega) (cnt_cert c) (tcB_4096 HK.out)).mono ?_
      rintro e w6 ⟨A', n', cc, rfl, hn', o, b6⟩
      go_wp2_with fail
      go_ret2
      rw [HB.out, HE2.out]
      exact ⟨_, _, _, rfl, hn', o.rd, x5.tr b6⟩
    · have hb : (encK c.e c.s != 0) = true := by simpa using hk
      have HB := Lib.hid (show ecB c = [] from if_neg (fun q => hk (HE.out.symm.trans q)))
      clear hk
      go_wp2_with fail
      go_ret2
      rw [HB.out, HE.out]
      exact ⟨_, _, _, rfl, (show _ = _ from rfl), Rd.nil_ _, x2⟩
  · have hb : (ckT c != 0) = true := by simpa using hc
    have HE := Lib.hid (show ecK c = ckT c from if_neg hc)
    have HB := Lib.hid (show ecB c = [] from if_neg (fun q => hc (HE.out.symm.trans q)))
    clear hc
    go_wp2_with fail
    go_ret2
    rw [HB.out, HE.out]
    exact ⟨_, _, _, rfl, (show _ = _ from rfl), Rd.nil_ _, x1⟩
end Go.Proofs.YteilglpdmfiinaaDoor

namespace Go.Proofs.YteilglpdmfiinaaDoor
open Go.RowKit
set_option linter.unusedVariables false
set_option maxRecDepth 100000

theorem row_set {w : World} {g : Nat} {cs : Array Value} {t : TypeId} {fr : Nat × Nat} (h : w.heap[g]? = some (.cells cs t fr)) (i : Nat) (v : Value) : (w.setCell ⟨g, i, none⟩ v).heap[g]? = some (.cells (cs.setIfInBounds i v) t fr) := by
  simp only [World.setCell, Array.getElem?_modify, if_true, h, Option.map_some]
  rfl
theorem TcAt.frozen {w : World} {g : Nat} {c : TC} (h : TcAt w g c) (i : Nat) : w.frozen? ⟨g, i, none⟩ = false := by
  unfold TcAt at h
  simp [World.frozen?, h]
abbrev set9 (w : World) (g : Nat) (v0 v1 v2 v3 v4 v5 v6 v7 v8 : Value) : World := ((((((((w.setCell ⟨g, 0, none⟩ v0).setCell ⟨g, 1, none⟩ v1).setCell ⟨g, 2, none⟩ v2).setCell ⟨g, 3, none⟩ v3).setCell ⟨g, 4, none⟩ v4).setCell ⟨g, 5, none⟩ v5).setCell ⟨g, 6, none⟩ v6).setCell ⟨g, 7, none⟩ v7).setCell ⟨g, 8, none⟩ v8
abbrev setT (w : World) (g : Nat) (c : TC) : World := set9 w g (.string (bstr c.au)) (.string (bstr c.ho)) (.int .i64 c.key) (.int .i64 c.role) (.int .i64 c.rights) (.int .i64 c.fr) (.int .i64 c.to) (.int .i64 c.e) (.int .i64 c.s)
theorem TcAt.setT {w : World} {g : Nat} {c : TC} (h : TcAt w g c) (d : TC) : TcAt (setT w g d) g d := by
  have h9 := row_set (row_set (row_set (row_set (row_set (row_set (row_set (row_set (row_set h 0 (.string (bstr d.au))) 1 (.string (bstr d.ho))) 2 (.int .i64 d.key)) 3 (.int .i64 d.role)) 4 (.int .i64 d.rights)) 5 (.int .i64 d.fr)) 6 (.int .i64 d.to)) 7 (.int .i64 d.e)) 8 (.int .i64 d.s)
  simp only [List.setIfInBounds_toArray, List.set_cons_zero, List.set_cons_succ] at h9
  exact h9
theorem TcAt.setSig {w : World} {g : Nat} {c : TC} (h : TcAt w g c) (e s : Int) : TcAt ((w.setCell ⟨g, 7, none⟩ (.int .i64 e)).setCell ⟨g, 8, none⟩ (.int .i64 s)) g (updS c e s) := by
  have h9 := row_set (row_set h 7 (.int .i64 e)) 8 (.int .i64 s)
  simp only [List.setIfInBounds_toArray, List.set_cons_zero, List.set_cons_succ] at h9
  exact h9
theorem TcAt.other {w : World} {g b i : Nat} {c : TC} {v : Value} (h : TcAt w g c) (hne : g ≠ b) : TcAt (w.setCell ⟨b, i, none⟩ v) g c := (setCell_block hne).trans h
theorem ext_set {w w' : World} {g i : Nat} {v : Value} (h : Ext w w') (hg : w.heap.size ≤ g) : Ext w (w'.setCell ⟨g, i, none⟩ v) := h.setCell (p := ⟨g, i, none⟩) hg _
theorem ext_setT {w w' : World} {g : Nat} (h : Ext w w') (hg : w.heap.size ≤ g) (c : TC) : Ext w (setT w' g c) :=
  ext_set (ext_set (ext_set (ext_set (ext_set (ext_set (ext_set (ext_set (ext_set h hg) hg) hg) hg) hg) hg) hg) hg) hg
/-- Two blocks: a certificate that came, and the result. -/
structure TwoAt (w wz : World) (c : TC) : Prop where
  ext : Ext w wz
  c : TcAt wz w.heap.size c
  r : TcAt wz (w.heap.size + 1) zeroT
theorem two_alloc (w : World) (c : TC) : ∃ wz, wz = (w.alloc (.cells #[.string (bstr c.au), .string (bstr c.ho), .int .i64 c.key, .int .i64 c.role, .int .i64 c.rights, .int .i64 c.fr, .int .i64 c.to, .int .i64 c.e, .int .i64 c.s] 25)).alloc (.cells #[.string ⟨#[]⟩, .string ⟨#[]⟩, .int .i64 0, .int .i64 0, .int .i64 0, .int .i64 0, .int .i64 0, .int .i64 0, .int .i64 0] 25) ∧ TwoAt w wz c := by
  have e1 : Ext w (w.alloc (.cells #[.string (bstr c.au), .string (bstr c.ho), .int .i64 c.key, .int .i64 c.role, .int .i64 c.rights, .int .i64 c.fr, .int .i64 c.to, .int .i64 c.e, .int .i64 c.s] 25)) := (Below.refl _ _).alloc (Nat.le_refl _) _
  refine ⟨_, rfl, e1.alloc (by simp) _, (TcAt.new w c).ext ((Below.refl _ _).alloc (Nat.le_refl _) _), ?_⟩
  have := TcAt.new (w.alloc (.cells #[.string (bstr c.au), .string (bstr c.ho), .int .i64 c.key, .int .i64 c.role, .int .i64 c.rights, .int .i64 c.fr, .int .i64 c.to, .int .i64 c.e, .int .i64 c.s] 25)) zeroT
  rw [show (w.alloc (.cells #[.string (bstr c.au), .string (bstr c.ho), .int .i64 c.key, .int .i64 c.role, .int .i64 c.rights, .int .i64 c.fr, .int .i64 c.to, .int .i64 c.e, .int .i64 c.s] 25)).heap.size = w.heap.size + 1 by simp] at this
  exact this
theorem TwoAt.tr {w wz wy : World} {c : TC} (h : TwoAt w wz c) (e : Ext wz wy) : TwoAt w wy c := ⟨h.ext.tr e, h.c.ext e, h.r.ext e⟩
set_option maxHeartbeats 2000000 in
theorem issue_any (k : Int) (c : TC) (w : World) (hs : smT c) (E : KTab w 1) : Calls Tryd.prog 30 #[.int .i64 k, tcV c] w (RetQ w (.tuple #[tcV (isC k c), .int .i64 (isK k c)])) := by
  obtain ⟨wz, hwz, T⟩ := two_alloc w c
  unfold tcV
  go_enter Tryd.func30, Tryd.ntmps30
  go_wp2_with fail
  rw [← hwz]
  clear hwz
  refine (body_any c _ hs).mono ?_
  rintro e w1 ⟨A, n, cc, rfl, hn, r, b1⟩
  have T1 := T.tr b1
  clear T
  have x1 := T1.ext
  by_cases hc : ckT c = 0
  · have HK := Lib.hid hc
    rw [hc]
    have hlen := byB_len c
    clear hc
    go_wp2_with fail
    refine (sign_any k _ r (by omega) (E.below x1)).mono ?_
    rintro e w2 ⟨rfl, b2⟩
    have T2 := T1.tr b2
    have x2 := T2.ext
    clear T1 x1 hn r hlen
    unfold sgV
    rw [show byB c = bodyB c from if_pos HK.out]
    obtain ⟨t0, t1, t2, t3, t4, t5, t6, t7, t8⟩ := T2.c.cells
    have hl := T2.c.lt
    have hlr := T2.r.lt
    have f7 := T2.c.frozen 7
    have f8 := T2.c.frozen 8
    obtain ⟨r0, r1, r2, r3, r4, r5, r6, r7, r8⟩ := T2.r.cells
    have g0 := T2.r.frozen 0
    have g1 := T2.r.frozen 1
    have g2 := T2.r.frozen 2
    have g3 := T2.r.frozen 3
    have g4 := T2.r.frozen 4
    have g5 := T2.r.frozen 5
    have g6 := T2.r.frozen 6
    have g7 := T2.r.frozen 7
    have g8 := T2.r.frozen 8
    by_cases hk : sK k = 0
    · have HI := Lib.hid (show isC k c = updS c (sE k (bodyB c)) (sS k (bodyB c)) from if_pos ⟨HK.out, hk⟩)
      have HJ := Lib.hid (show isK k c = 0 by unfold isK; rw [if_pos HK.out, hk])
      rw [hk]
      clear hk
      generalize sE k (bodyB c) = es at *
      generalize sS k (bodyB c) = ss at *
      go_wp2_with fail
      have TR := (T2.r.other (b := w.heap.size) (i := 7) (v := .int .i64 es) (by omega)).other (b := w.heap.size) (i := 8) (v := .int .i64 ss) (by omega)
      have TZ : TcAt (set9 ((w2.setCell ⟨w.heap.size, 7, none⟩ (.int .i64 es)).setCell ⟨w.heap.size, 8, none⟩ (.int .i64 ss)) (w.heap.size + 1) (.string (bstr c.au)) (.string (bstr c.ho)) (.int .i64 c.key) (.int .i64 c.role) (.int .i64 c.rights) (.int .i64 c.fr) (.int .i64 c.to) (.int .i64 es) (.int .i64 ss)) (w.heap.size + 1) (updS c es ss) := TR.setT (updS c es ss)
      refine bodyPost_ret (v := .tuple #[tcV (updS c es ss), .int .i64 0]) ?_ rfl ⟨by rw [HI.out, HJ.out]; rfl, ext_setT (ext_set (ext_set x2 (Nat.le_refl _)) (Nat.le_refl _)) (by omega) (updS c es ss)⟩
      obtain ⟨q0, q1, q2, q3, q4, q5, q6, q7, q8⟩ := TZ.cells
      clear r0 r1 r2 r3 r4 r5 r6 r7 r8 t0 t1 t2 t3 t4 t5 t6 t7 t8
      simp [results, Tryd.results30, go_sem, tcV, q0, q1, q2, q3, q4, q5, q6, q7, q8]
    · have HI := Lib.hid (show isC k c = zeroT from if_neg (fun q => hk q.2))
      have HJ := Lib.hid (show isK k c = sK k from if_pos HK.out)
      have hb : (sK k != 0) = true := by simpa using hk
      clear hk
      generalize sE k (bodyB c) = es at *
      generalize sS k (bodyB c) = ss at *
      go_wp2_with fail
      have TR := (T2.r.other (b := w.heap.size) (i := 7) (v := .int .i64 es) (by omega)).other (b := w.heap.size) (i := 8) (v := .int .i64 ss) (by omega)
      have TZ : TcAt (set9 ((w2.setCell ⟨w.heap.size, 7, none⟩ (.int .i64 es)).setCell ⟨w.heap.size, 8, none⟩ (.int .i64 ss)) (w.heap.size + 1) (.string ⟨#[]⟩) (.string ⟨#[]⟩) (.int .i64 0) (.int .i64 0) (.int .i64 0) (.int .i64 0) (.int .i64 0) (.int .i64 0) (.int .i64 0)) (w.heap.size + 1) zeroT := TR.setT zeroT
      refine bodyPost_ret (v := .tuple #[tcV zeroT, .int .i64 (sK k)]) ?_ rfl ⟨by rw [HI.out, HJ.out]; rfl, ext_setT (ext_set (ext_set x2 (Nat.le_refl _)) (Nat.le_refl _)) (by omega) zeroT⟩
      obtain ⟨q0, q1, q2, q3, q4, q5, q6, q7, q8⟩ := TZ.cells
      clear r0 r1 r2 r3 r4 r5 r6 r7 r8 t0 t1 t2 t3 t4 t5 t6 t7 t8
      simp [results, Tryd.results30, go_sem, tcV, q0, q1, q2, q3, q4, q5, q6, q7, q8]
  · have HI := Lib.hid (show isC k c = zeroT from if_neg (fun q => hc q.1))
    have HJ := Lib.hid (show isK k c = ckT c from if_neg hc)
    have hb : (ckT c != 0) = true := by simpa using hc
    clear hc r hn
    obtain ⟨r0, r1, r2, r3, r4, r5, r6, r7, r8⟩ := T1.r.cells
    have hlr := T1.r.lt
    have g0 := T1.r.frozen 0
    have g1 := T1.r.frozen 1
    have g2 := T1.r.frozen 2
    have g3 := T1.r.frozen 3
    have g4 := T1.r.frozen 4
    have g5 := T1.r.frozen 5
    have g6 := T1.r.frozen 6
    have g7 := T1.r.frozen 7
    have g8 := T1.r.frozen 8
    go_wp2_with fail
    refine bodyPost_ret (v := .tuple #[tcV zeroT, .int .i64 (ckT c)]) ?_ rfl ⟨by rw [HI.out, HJ.out]; rfl, ext_setT x1 (by omega) zeroT⟩
    have TZ : TcAt (set9 w1 (w.heap.size + 1) (.string ⟨#[]⟩) (.string ⟨#[]⟩) (.int .i64 0) (.int .i64 0) (.int .i64 0) (.int .i64 0) (.int .i64 0) (.int .i64 0) (.int .i64 0)) (w.heap.size + 1) zeroT := T1.r.setT zeroT
    obtain ⟨q0, q1, q2, q3, q4, q5, q6, q7, q8⟩ := TZ.cells
    clear r0 r1 r2 r3 r4 r5 r6 r7 r8
    simp [results, Tryd.results30, go_sem, tcV, q0, q1, q2, q3, q4, q5, q6, q7, q8]
set_option maxHeartbeats 1000000 in
theorem refissue_any (k : Int) (c : TC) (w : World) (hs : smT c) (E : KTab w 0) : Calls Tryd.prog 48 #[.int .i64 k, tcV c] w (RetQ w (.tuple #[tcV (isC k c), .int .i64 (isK k c)])) := by
  obtain ⟨wz, hwz, T⟩ := two_alloc w c
  unfold tcV
  go_enter Tryd.func48, Tryd.ntmps48
  go_wp2_with fail
  rw [← hwz]
  clear hwz
  refine (refbody_any c _ hs).mono ?_
  rintro e w1 ⟨A, n, cc, rfl, hn, r, b1⟩
  have T1 := T.tr b1
  clear T
  have x1 := T1.ext
  by_cases hc : ckT c = 0
  · have HK := Lib.hid hc
    rw [hc]
    have hlen := byB_len c
    clear hc
    go_wp2_with fail
    refine (refsign_any k _ r (by omega) (E.below x1)).mono ?_
    rintro e w2 ⟨rfl, b2⟩
    have T2 := T1.tr b2
    have x2 := T2.ext
    clear T1 x1 hn r hlen
    unfold sgV
    rw [show byB c = bodyB c from if_pos HK.out]
    obtain ⟨t0, t1, t2, t3, t4, t5, t6, t7, t8⟩ := T2.c.cells
    have hl := T2.c.lt
    have hlr := T2.r.lt
    have f7 := T2.c.frozen 7
    have f8 := T2.c.frozen 8
    obtain ⟨r0, r1, r2, r3, r4, r5, r6, r7, r8⟩ := T2.r.cells
    have g0 := T2.r.frozen 0
    have g1 := T2.r.frozen 1
    have g2 := T2.r.frozen 2
    have g3 := T2.r.frozen 3
    have g4 := T2.r.frozen 4
    have g5 := T2.r.frozen 5
    have g6 := T2.r.frozen 6
    have g7 := T2.r.frozen 7
    have g8 := T2.r.frozen 8
    by_cases hk : sK k = 0
    · have HI := Lib.hid (show isC k c = updS c (sE k (bodyB c)) (sS k (bodyB c)) from if_pos ⟨HK.out, hk⟩)
      have HJ := Lib.hid (show isK k c = 0 by unfold isK; rw [if_pos HK.out, hk])
      rw [hk]
      clear hk
      generalize sE k (bodyB c) = es at *
      generalize sS k (bodyB c) = ss at *
      obtain ⟨wa, hwa, sa⟩ := sg_alloc w2 es ss
      have hwb := hwa.symm
      clear hwa
      have T3 := T2.tr sa.ext
      have s0 := sa.c0
      have s1 := sa.c1
      have sl := sa.lt
      clear sa
      clear t0 t1 t2 t3 t4 t5 t6 t7 t8 hl hlr f7 f8 r0 r1 r2 r3 r4 r5 r6 r7 r8 g0 g1 g2 g3 g4 g5 g6 g7 g8
      obtain ⟨t0, t1, t2, t3, t4, t5, t6, t7, t8⟩ := T3.c.cells
      have hl := T3.c.lt
      have hlr := T3.r.lt
      have f7 := T3.c.frozen 7
      have f8 := T3.c.frozen 8
      obtain ⟨r0, r1, r2, r3, r4, r5, r6, r7, r8⟩ := T3.r.cells
      have g0 := T3.r.frozen 0
      have g1 := T3.r.frozen 1
      have g2 := T3.r.frozen 2
      have g3 := T3.r.frozen 3
      have g4 := T3.r.frozen 4
      have g5 := T3.r.frozen 5
      have g6 := T3.r.frozen 6
      have g7 := T3.r.frozen 7
      have g8 := T3.r.frozen 8
      go_wp2_with fail
      have TR := (T3.r.other (b := w.heap.size) (i := 7) (v := .int .i64 es) (by omega)).other (b := w.heap.size) (i := 8) (v := .int .i64 ss) (by omega)
      have TZ : TcAt (set9 ((wa.setCell ⟨w.heap.size, 7, none⟩ (.int .i64 es)).setCell ⟨w.heap.size, 8, none⟩ (.int .i64 ss)) (w.heap.size + 1) (.string (bstr c.au)) (.string (bstr c.ho)) (.int .i64 c.key) (.int .i64 c.role) (.int .i64 c.rights) (.int .i64 c.fr) (.int .i64 c.to) (.int .i64 es) (.int .i64 ss)) (w.heap.size + 1) (updS c es ss) := TR.setT (updS c es ss)
      refine bodyPost_ret (v := .tuple #[tcV (updS c es ss), .int .i64 0]) ?_ rfl ⟨by rw [HI.out, HJ.out]; rfl, ext_setT (ext_set (ext_set T3.ext (Nat.le_refl _)) (Nat.le_refl _)) (by omega) (updS c es ss)⟩
      obtain ⟨q0, q1, q2, q3, q4, q5, q6, q7, q8⟩ := TZ.cells
      clear r0 r1 r2 r3 r4 r5 r6 r7 r8 t0 t1 t2 t3 t4 t5 t6 t7 t8
      simp [results, Tryd.results48, go_sem, tcV, q0, q1, q2, q3, q4, q5, q6, q7, q8]
    · have HI := Lib.hid (show isC k c = zeroT from if_neg (fun q => hk q.2))
      have HJ := Lib.hid (show isK k c = sK k from if_pos HK.out)
      have hb : (sK k != 0) = true := by simpa using hk
      clear hk
      generalize sE k (bodyB c) = es at *
      generalize sS k (bodyB c) = ss at *
      obtain ⟨wa, hwa, sa⟩ := sg_alloc w2 es ss
      have hwb := hwa.symm
      clear hwa
      have T3 := T2.tr sa.ext
      have s0 := sa.c0
      have s1 := sa.c1
      have sl := sa.lt
      clear sa
      clear t0 t1 t2 t3 t4 t5 t6 t7 t8 hl hlr f7 f8 r0 r1 r2 r3 r4 r5 r6 r7 r8 g0 g1 g2 g3 g4 g5 g6 g7 g8
      obtain ⟨t0, t1, t2, t3, t4, t5, t6, t7, t8⟩ := T3.c.cells
      have hl := T3.c.lt
      have hlr := T3.r.lt
      have f7 := T3.c.frozen 7
      have f8 := T3.c.frozen 8
      obtain ⟨r0, r1, r2, r3, r4, r5, r6, r7, r8⟩ := T3.r.cells
      have g0 := T3.r.frozen 0
      have g1 := T3.r.frozen 1
      have g2 := T3.r.frozen 2
      have g3 := T3.r.frozen 3
      have g4 := T3.r.frozen 4
      have g5 := T3.r.frozen 5
      have g6 := T3.r.frozen 6
      have g7 := T3.r.frozen 7
      have g8 := T3.r.frozen 8
      go_wp2_with fail
      have TZ : TcAt (set9 wa (w.heap.size + 1) (.string ⟨#[]⟩) (.string ⟨#[]⟩) (.int .i64 0) (.int .i64 0) (.int .i64 0) (.int .i64 0) (.int .i64 0) (.int .i64 0) (.int .i64 0)) (w.heap.size + 1) zeroT := T3.r.setT zeroT
      refine bodyPost_ret (v := .tuple #[tcV zeroT, .int .i64 (sK k)]) ?_ rfl ⟨by rw [HI.out, HJ.out]; rfl, ext_setT T3.ext (by omega) zeroT⟩
      obtain ⟨q0, q1, q2, q3, q4, q5, q6, q7, q8⟩ := TZ.cells
      clear r0 r1 r2 r3 r4 r5 r6 r7 r8 t0 t1 t2 t3 t4 t5 t6 t7 t8
      simp [results, Tryd.results48, go_sem, tcV, q0, q1, q2, q3, q4, q5, q6, q7, q8]
  · have HI := Lib.hid (show isC k c = zeroT from if_neg (fun q => hc q.1))
    have HJ := Lib.hid (show isK k c = ckT c from if_neg hc)
    have hb : (ckT c != 0) = true := by simpa using hc
    clear hc r hn
    obtain ⟨r0, r1, r2, r3, r4, r5, r6, r7, r8⟩ := T1.r.cells
    have hlr := T1.r.lt
    have g0 := T1.r.frozen 0
    have g1 := T1.r.frozen 1
    have g2 := T1.r.frozen 2
    have g3 := T1.r.frozen 3
    have g4 := T1.r.frozen 4
    have g5 := T1.r.frozen 5
    have g6 := T1.r.frozen 6
    have g7 := T1.r.frozen 7
    have g8 := T1.r.frozen 8
    go_wp2_with fail
    refine bodyPost_ret (v := .tuple #[tcV zeroT, .int .i64 (ckT c)]) ?_ rfl ⟨by rw [HI.out, HJ.out]; rfl, ext_setT x1 (by omega) zeroT⟩
    have TZ : TcAt (set9 w1 (w.heap.size + 1) (.string ⟨#[]⟩) (.string ⟨#[]⟩) (.int .i64 0) (.int .i64 0) (.int .i64 0) (.int .i64 0) (.int .i64 0) (.int .i64 0) (.int .i64 0)) (w.heap.size + 1) zeroT := T1.r.setT zeroT
    obtain ⟨q0, q1, q2, q3, q4, q5, q6, q7, q8⟩ := TZ.cells
    clear r0 r1 r2 r3 r4 r5 r6 r7 r8
    simp [results, Tryd.results48, go_sem, tcV, q0, q1, q2, q3, q4, q5, q6, q7, q8]

set_option maxHeartbeats 1000000 in
theorem tverify_any (p : Int) (c : TC) (w : World) (hs : smT c) (E : KTab w 1) : Calls Tryd.prog 34 #[.int .i64 p, tcV c] w (RetQ w (.bool (vfB p c))) := by
  have x0 : Ext w (w.alloc (.cells #[.string (bstr c.au), .string (bstr c.ho), .int .i64 c.key, .int .i64 c.role, .int .i64 c.rights, .int .i64 c.fr, .int .i64 c.to, .int .i64 c.e, .int .i64 c.s] 25)) := (Below.refl _ _).alloc (Nat.le_refl _) _
  unfold tcV
  go_enter Tryd.func34, Tryd.ntmps34
  go_wp2_with fail
  refine (body_any c _ hs).mono ?_
  rintro e w1 ⟨A, n, cc, rfl, hn, r, b1⟩
  have x1 := x0.tr b1
  have hT := (TcAt.new w c).ext b1
  by_cases hc : ckT c = 0
  · have HV := Lib.hid (show vfB p c = verB p (bodyB c) c.e c.s from if_pos hc)
    rw [show byB c = bodyB c from if_pos hc] at r
    have hlen := byB_len c
    rw [show byB c = bodyB c from if_pos hc] at hlen
    rw [hc]
    clear hc
    obtain ⟨_, _, _, _, _, _, _, t7, t8⟩ := hT.cells
    have hl := hT.lt
    go_wp2_with fail
    refine (verify_any p c.e c.s _ r (by omega) (E.below x1)).mono ?_
    rintro e w2 ⟨rfl, b2⟩
    go_wp2_with fail
    go_ret
    exact ⟨by rw [HV.out]; rfl, x1.tr b2⟩
  · have hb : (ckT c == 0) = false := by simpa using hc
    have HV := Lib.hid (show vfB p c = false from if_neg hc)
    clear hc
    go_wp2_with fail
    go_ret
    exact ⟨by rw [HV.out]; rfl, x1⟩

end Go.Proofs.YteilglpdmfiinaaDoor

namespace Go.Proofs.YteilglpdmfiinaaDoor
open Go.RowKit
set_option linter.unusedVariables false
set_option maxRecDepth 100000

theorem run_strB {w : World} {A : Option Addr} {n c : Nat} {l : List UInt8} (h : Rd w (.slice A n c) (bvs l)) : (convert 30 9 (.slice A n c)).run Tryd.prog w = .ok (.string ⟨l.toArray⟩) w := by
  obtain ⟨A', n', c', e, hn, hnc, hcm, hc⟩ := h
  injection e with e1 e2 e3
  subst e1 e2 e3
  rw [bvs_length] at hn
  by_cases h0 : n = 0
  · subst h0
    obtain rfl : l = [] := List.eq_nil_of_length_eq_zero hn.symm
    rw [run_convert_bytes_string w 30 9 5 _ 0 c Tryd.underlying30 Tryd.underlying5 Tryd.underlying9]
    cases A <;> simp [Conv.bytesToString, loadCells]
    all_goals rfl
  · obtain ⟨b, o, rfl, hcell⟩ := hc (by omega)
    subst hn
    refine run_convert_bytes_back w 30 9 5 ⟨b, o, none⟩ c l Tryd.underlying30 Tryd.underlying5 Tryd.underlying9 fun j hj => ?_
    rw [Addr.add_lit]
    exact hcell j _ (by simp [bvs, hj, bv])
theorem bequal_any {a b : Value} {xs ys : List UInt8} (w : World) (ha : Rd w a (bvs xs)) (hb : Rd w b (bvs ys)) : Calls Tryd.prog 112 #[a, b] w (RetQ w (.bool (decide (xs = ys)))) := by
  obtain ⟨A, n1, c, rfl, hn1, z1⟩ := ha.bytes
  obtain ⟨A2, n2, c2, rfl, hn2, z2⟩ := hb.bytes
  clear z1 z2
  subst hn1 hn2
  have s1 := run_strB ha
  have s2 := run_strB hb
  go_enter Tryd.func112, Tryd.ntmps112
  have HE := Lib.hid (show decide (xs = ys) = (xs == ys) by by_cases h : xs = ys <;> simp [h])
  go_wp2_with fail
  go_ret
  exact ⟨by rw [HE.out]; rfl, Below.refl _ _⟩
theorem osame_any {a b : Value} {xs ys : List UInt8} (w : World) (ha : Rd w a (bvs xs)) (hb : Rd w b (bvs ys)) : Calls Tryd.prog 72 #[a, b] w (RetQ w (.bool (decide (xs = ys)))) := by
  go_enter Tryd.func72, Tryd.ntmps72
  go_wp2_with fail
  refine (bequal_any _ ha hb).mono ?_
  rintro e w' ⟨rfl, b1⟩
  go_wp2_with fail
  go_ret
  exact ⟨rfl, b1⟩
theorem tname_any {d : Nat} {v pv : Value} {ts : List Nd} {path : List Int} (w : World) (hr : NdsRd d w v ts) (hs : szNs d ts) (hp : RdI w .i64 pv path) :
    Calls Tryd.prog 68 #[v, pv] w (RetQ w (.string (bstr (valN ts path)))) := by
  go_enter Tryd.func68, Tryd.ntmps68
  go_wp2_with fail
  refine (find_any w hr hs hp).mono ?_
  rintro e w1 ⟨b1, v, ⟨t, A1, n1, c1, A2, n2, c2, rfl, r⟩, rfl⟩
  have e1 : Ext w1 (w1.alloc (.cells #[.int .i64 t, .slice A1 n1 c1, .slice A2 n2 c2] 62)) := (Below.refl _ _).alloc (Nat.le_refl _) _
  have s1 := run_strB (r.ext e1)
  have x1 := b1.tr e1
  clear r e1
  go_wp2_with fail
  go_ret
  exact ⟨rfl, x1⟩
theorem numN_no {ts : List Nd} {p : List Int} (h : (findN ts p).isSome = false) : numN ts p = -1 := by
  unfold numN
  cases hf : findN ts p with
  | none => rfl
  | some t => rw [hf] at h; cases h
theorem numN_short {ts : List Nd} {p : List Int} (h : (findN ts p).isSome = true) (h7 : (valN ts p).length ≤ 7) : numN ts p = num (valN ts p) := by
  unfold numN valN at *
  cases hf : findN ts p with
  | none => rw [hf] at h; cases h
  | some t => rw [hf] at h7; exact if_pos h7
theorem numN_long {ts : List Nd} {p : List Int} (h7 : 7 < (valN ts p).length) : numN ts p = -1 := by
  unfold numN valN at *
  cases hf : findN ts p with
  | none => rfl
  | some t => rw [hf] at h7; exact if_neg (by show ¬ t.val.length ≤ 7; have : 7 < t.val.length := h7; omega)
set_option maxHeartbeats 1000000 in
theorem tnumber_any {d : Nat} {v pv : Value} {ts : List Nd} {path : List Int} (w : World) (hr : NdsRd d w v ts) (hs : szNs d ts) (hp : RdI w .i64 pv path) :
    Calls Tryd.prog 69 #[v, pv] w (RetQ w (.int .i64 (numN ts path))) := by
  go_enter Tryd.func69, Tryd.ntmps69
  go_wp2_with fail
  refine (find_any w hr hs hp).mono ?_
  rintro e w1 ⟨b1, v, ⟨t, A1, n1, c1, A2, n2, c2, rfl, r⟩, rfl⟩
  have e1 : Ext w1 (w1.alloc (.cells #[.int .i64 t, .slice A1 n1 c1, .slice A2 n2 c2] 62)) := (Below.refl _ _).alloc (Nat.le_refl _) _
  have x1 := b1.tr e1
  have r1 := r.ext e1
  clear r e1
  cases hf : (findN ts path).isSome with
  | false =>
    have HN := Lib.hid (numN_no hf)
    go_wp2_with fail
    go_ret
    exact ⟨by rw [HN.out]; rfl, x1⟩
  | true =>
    by_cases h7 : (valN ts path).length ≤ 7
    · have HN := Lib.hid (numN_short hf h7)
      go_wp2_with fail
      refine (number_any _ r1 h7).mono ?_
      rintro e w' ⟨rfl, rfl⟩
      go_wp2_with fail
      go_ret
      exact ⟨by rw [HN.out]; rfl, x1⟩
    · have HN := Lib.hid (numN_long (ts := ts) (p := path) (by omega))
      go_wp2_with fail
      refine (number_big _ r1 (by omega)).mono ?_
      rintro e w' ⟨rfl, rfl⟩
      go_wp2_with fail
      go_ret
      exact ⟨by rw [HN.out]; rfl, x1⟩
/-- A call that returns bytes that were there, or are new. -/
def RetV (w : World) (l : List UInt8) (e : Ending) (w' : World) : Prop := ∃ A n c, e = .returned (.slice A n c) ∧ Hid (n = l.length) ∧ Rd w' (.slice A n c) (bvs l) ∧ Ext w w'
theorem valN_no {ts : List Nd} {p : List Int} (h : (findN ts p).isSome = false) : valN ts p = [] := by
  unfold valN
  cases hf : findN ts p with
  | none => rfl
  | some t => rw [hf] at h; cases h
end Go.Proofs.YteilglpdmfiinaaDoor

namespace Go.Proofs.YteilglpdmfiinaaDoor
open Go.RowKit
set_option linter.unusedVariables false
set_option maxRecDepth 100000

theorem rdi2 (W : World) (x y : Int) : RdI (W.alloc (.cells #[.int .i64 x, .int .i64 y] 3)) .i64 (.slice (some ⟨W.heap.size, 0, none⟩) 2 2) [x, y] := Rd.lit W _ _ 2 rfl (by unfold maxLen; omega)
theorem rdi3 (W : World) (x y z : Int) : RdI (W.alloc (.cells #[.int .i64 x, .int .i64 y, .int .i64 z] 3)) .i64 (.slice (some ⟨W.heap.size, 0, none⟩) 3 3) [x, y, z] := Rd.lit W _ _ 3 rfl (by unfold maxLen; omega)
theorem rdi4 (W : World) (x y z u : Int) : RdI (W.alloc (.cells #[.int .i64 x, .int .i64 y, .int .i64 z, .int .i64 u] 3)) .i64 (.slice (some ⟨W.heap.size, 0, none⟩) 4 4) [x, y, z, u] := Rd.lit W _ _ 4 rfl (by unfold maxLen; omega)
theorem and_65535 {x : Int} (h0 : 0 ≤ x) (h1 : x < 9223372036854775808) : bits .and .i64 x 65535 = x % 65536 := by
  obtain ⟨n, rfl⟩ := Int.eq_ofNat_of_zero_le h0
  have h := i64_and_nat n 65535 (by omega) (by omega)
  rw [show (n &&& 65535 : Nat) = n % 65536 from Nat.and_two_pow_sub_one_eq_mod n 16] at h
  exact h
theorem TcAt.setDays {w : World} {g : Nat} {c : TC} (h : TcAt w g c) (a b : Int) : TcAt ((w.setCell ⟨g, 5, none⟩ (.int .i64 a)).setCell ⟨g, 6, none⟩ (.int .i64 b)) g ⟨c.au, c.ho, c.key, c.role, c.rights, a, b, c.e, c.s⟩ := by
  have h9 := row_set (row_set h 5 (.int .i64 a)) 6 (.int .i64 b)
  simp only [List.setIfInBounds_toArray, List.set_cons_zero, List.set_cons_succ] at h9
  exact h9
theorem TcAt.setKey {w : World} {g : Nat} {c : TC} (h : TcAt w g c) (a : Int) : TcAt (w.setCell ⟨g, 2, none⟩ (.int .i64 a)) g ⟨c.au, c.ho, a, c.role, c.rights, c.fr, c.to, c.e, c.s⟩ := by
  have h9 := row_set h 2 (.int .i64 a)
  simp only [List.setIfInBounds_toArray, List.set_cons_zero, List.set_cons_succ] at h9
  exact h9
theorem TcAt.setRole {w : World} {g : Nat} {c : TC} (h : TcAt w g c) (a b : Int) : TcAt ((w.setCell ⟨g, 3, none⟩ (.int .i64 a)).setCell ⟨g, 4, none⟩ (.int .i64 b)) g ⟨c.au, c.ho, c.key, a, b, c.fr, c.to, c.e, c.s⟩ := by
  have h9 := row_set (row_set h 3 (.int .i64 a)) 4 (.int .i64 b)
  simp only [List.setIfInBounds_toArray, List.set_cons_zero, List.set_cons_succ] at h9
  exact h9
theorem zero_alloc (w : World) : ∃ wz, wz = w.alloc (.cells #[.string ⟨#[]⟩, .string ⟨#[]⟩, .int .i64 0, .int .i64 0, .int .i64 0, .int .i64 0, .int .i64 0, .int .i64 0, .int .i64 0] 25) ∧ Ext w wz ∧ TcAt wz w.heap.size zeroT :=
  ⟨_, rfl, (Below.refl _ _).alloc (Nat.le_refl _) _, TcAt.new w zeroT⟩
theorem tc_alloc (w : World) (c : TC) : ∃ wz, wz = w.alloc (.cells #[.string (bstr c.au), .string (bstr c.ho), .int .i64 c.key, .int .i64 c.role, .int .i64 c.rights, .int .i64 c.fr, .int .i64 c.to, .int .i64 c.e, .int .i64 c.s] 25) ∧ Ext w wz ∧ TcAt wz w.heap.size c :=
  ⟨_, rfl, (Below.refl _ _).alloc (Nat.le_refl _) _, TcAt.new w c⟩
theorem nd_alloc (w : World) (v0 v1 v2 : Value) : ∃ wz, wz = w.alloc (.cells #[v0, v1, v2] 62) ∧ Ext w wz ∧ C3 wz w.heap.size v0 v1 v2 :=
  ⟨_, rfl, (Below.refl _ _).alloc (Nat.le_refl _) _, C3.new w v0 v1 v2⟩
theorem xP_key {ts : List Nd} (h : ¬ gdOk (valN ts pK)) : xP ts = none := if_neg (fun q => h ⟨q.1, q.2.1⟩)
theorem xP_ri {ts : List Nd} (h : ¬ 0 ≤ numN ts pR) : xP ts = none := if_neg (fun q => h q.2.2.1)
theorem xP_si {ts : List Nd} (h : ¬ dcK (valN ts pS) = 0) : xP ts = none := if_neg (fun q => h q.2.2.2)
theorem xP_ok {ts : List Nd} (h1 : gdOk (valN ts pK)) (h2 : 0 ≤ numN ts pR) (h3 : dcK (valN ts pS) = 0) : xP ts = some ⟨valN ts pA, valN ts pH, num (valN ts pK), numN ts pR / 65536, numN ts pR % 65536, numN ts pF, numN ts pT, dcE (valN ts pS), dcS (valN ts pS)⟩ := if_pos ⟨h1.1, h1.2, h2, h3⟩
theorem numN_hi (ts : List Nd) (p : List Int) : numN ts p < 9223372036854775808 := by
  unfold numN
  split
  · omega
  · split
    · have := (num_bd7 (l := ‹Nd›.val) (by assumption)).2; omega
    · omega
theorem valN_len : ∀ (p : List Int) (d : Nat) (ts : List Nd), szNs d ts → (valN ts p).length ≤ 4096
  | [], d, ts, h => by unfold valN; rw [findN_nil]; exact Nat.zero_le _
  | p :: ps, d, ts, h => by
    unfold valN
    rw [findN_eq]
    cases hs : stepN ts p with
    | none => exact Nat.zero_le _
    | some t =>
      have hm : t ∈ ts := List.mem_of_find?_eq_some hs
      match d, h with
      | 0, h => rw [show ts = [] from h] at hm; cases hm
      | d + 1, h =>
        obtain ⟨h1, h2⟩ := h.2 t hm
        by_cases hp : ps = []
        · simp only [hp, if_true]; exact h1
        · simp only [hp, if_false]
          have := valN_len ps d t.kids h2
          unfold valN at this
          exact this
set_option maxHeartbeats 4000000 in
theorem tdecode_any {a : Value} {l : List UInt8} (w : World) (ha : Rd w a (bvs l)) (hl : l.length ≤ 4096) :
    Calls Tryd.prog 33 #[a] w (RetQ w (.tuple #[tcV (dtC l), .int .i64 (dtK l)])) := by
  have HD := Lib.hid (dt_by (x := xP) (fun c h => xP_cert h) l)
  obtain ⟨wz, hwz, z0, zr⟩ := zero_alloc w
  have HA := Lib.hid ha
  clear ha
  go_enter Tryd.func33, Tryd.ntmps33
  go_wp2_with fail
  rw [← hwz]
  clear hwz
  refine (parse_any wz (HA.out.ext z0) (by omega)).mono ?_
  rintro e w1 ⟨b1, hp⟩
  rw [show parP l = objsP 1 0 l from if_neg (by omega)] at hp
  have x1 := z0.tr b1
  have zr1 := zr.ext b1
  clear zr z0 b1
  rcases hp with ⟨hnone, A, n, c, k, hk, rfl⟩ | ⟨ts, cnt, A, n, c, hsome, rfl, hr⟩
  · have HC := HD.out.2.2.2 hnone
    have hb : (k != 0) = true := by simpa using hk
    clear hnone HD hk
    have TZ : TcAt (set9 w1 w.heap.size (.string ⟨#[]⟩) (.string ⟨#[]⟩) (.int .i64 0) (.int .i64 0) (.int .i64 0) (.int .i64 0) (.int .i64 0) (.int .i64 0) (.int .i64 0)) w.heap.size zeroT := (zr1).setT zeroT
    have hlr := (zr1).lt
    obtain ⟨r0, r1, r2, r3, r4, r5, r6, r7, r8⟩ := (zr1).cells
    have g0 := (zr1).frozen 0
    have g1 := (zr1).frozen 1
    have g2 := (zr1).frozen 2
    have g3 := (zr1).frozen 3
    have g4 := (zr1).frozen 4
    have g5 := (zr1).frozen 5
    have g6 := (zr1).frozen 6
    have g7 := (zr1).frozen 7
    have g8 := (zr1).frozen 8
    go_wp2_with fail
    refine bodyPost_ret (v := .tuple #[tcV zeroT, .int .i64 1]) ?_ rfl ⟨by rw [HC.1, HC.2], ext_setT (x1) (Nat.le_refl _) zeroT⟩
    obtain ⟨q0, q1, q2, q3, q4, q5, q6, q7, q8⟩ := TZ.cells
    clear r0 r1 r2 r3 r4 r5 r6 r7 r8
    simp [results, Tryd.results33, go_sem, tcV, q0, q1, q2, q3, q4, q5, q6, q7, q8]
  · have hsz := objsP_sz l.length l 8 0 1 ts cnt (Nat.le_refl _) hl (by omega) (by omega) hsome
    have HS := Lib.hid hsz
    have HR := Lib.hid hr
    have HO := Lib.hid hsome
    clear hr hsome hsz
    -- the key
    go_wp2_with fail
    have e1 : Ext w1 (w1.alloc (.cells #[.int .i64 32545, .int .i64 32590, .int .i64 134] 3)) := (Below.refl _ _).alloc (Nat.le_refl _) _
    refine (find_any (d := 8) (ts := ts) (path := pK) _ (HR.out.ext e1) HS.out (rdi3 w1 32545 32590 134)).mono ?_
    rintro e w2 ⟨b2, v, ⟨t6, A6, n6, c6, A62, n62, c62, rfl, hK⟩, rfl⟩
    have x12 := e1.tr b2
    clear e1 b2
    obtain ⟨w3, hw3, e3, T6⟩ := nd_alloc w2 (.int .i64 t6) (.slice A6 n6 c6) (.slice A62 n62 c62)
    have hw3' := hw3.symm
    clear hw3
    have x13 := x12.tr e3
    have HK := Lib.hid (hK.ext e3)
    clear hK e3 x12
    -- the signature
    have e4 : Ext w3 (w3.alloc (.cells #[.int .i64 32545, .int .i64 24375] 3)) := (Below.refl _ _).alloc (Nat.le_refl _) _
    go_wp2_with fail
    refine (find_any (d := 8) (ts := ts) (path := pS) _ (HR.out.ext (x13.tr e4)) HS.out (rdi2 w3 32545 24375)).mono ?_
    rintro e w4 ⟨b4, v, ⟨t8, A8, n8, c8, A82, n82, c82, rfl, hS⟩, rfl⟩
    have x34 := e4.tr b4
    clear e4 b4 hw3'
    obtain ⟨w5, hw5, e5, T8⟩ := nd_alloc w4 (.int .i64 t8) (.slice A8 n8 c8) (.slice A82 n82 c82)
    have hw5' := hw5.symm
    clear hw5
    have x35 := x34.tr e5
    have x15 := x13.tr x35
    have HSg := Lib.hid (hS.ext e5)
    have HK5 := Lib.hid (HK.out.ext x35)
    have T65 := T6.ex x35
    have hl6 := T6.lt
    have hl6' := T65.lt
    have hl8 := T8.lt
    have zr5 := zr1.ext x15
    have x5 := x1.tr x15
    clear HK T6 hS e5 x34 x35 x13 zr1
    -- the names
    have e6 : Ext w5 (w5.alloc (.cells #[.int .i64 32545, .int .i64 32590, .int .i64 66] 3)) := (Below.refl _ _).alloc (Nat.le_refl _) _
    go_wp2_with fail
    refine (tname_any (d := 8) (ts := ts) (path := pA) _ (HR.out.ext (x15.tr e6)) HS.out (rdi3 w5 32545 32590 66)).mono ?_
    rintro e w6 ⟨rfl, b6⟩
    have x56 := e6.tr b6
    clear e6 b6 hw5'
    have e7 : Ext w6 (w6.alloc (.cells #[.int .i64 32545, .int .i64 32590, .int .i64 24352] 3)) := (Below.refl _ _).alloc (Nat.le_refl _) _
    go_wp2_with fail
    refine (tname_any (d := 8) (ts := ts) (path := pH) _ (HR.out.ext (x15.tr (x56.tr e7))) HS.out (rdi3 w6 32545 32590 24352)).mono ?_
    rintro e w7 ⟨rfl, b7⟩
    have x57 := x56.tr (e7.tr b7)
    clear e7 b7 x56
    obtain ⟨wa, hwa, ea, TA⟩ := zero_alloc w7
    have hwa' := hwa.symm
    clear hwa
    obtain ⟨wc, hwc, ec, TC0⟩ : ∃ wc, wc = (((((((((wa.setCell ⟨w7.heap.size, 0, none⟩ (.string (bstr (valN ts pA)))).setCell ⟨w7.heap.size, 1, none⟩ (.string (bstr (valN ts pH)))).setCell ⟨w7.heap.size, 2, none⟩ (.int .i64 0)).setCell ⟨w7.heap.size, 3, none⟩ (.int .i64 0)).setCell ⟨w7.heap.size, 4, none⟩ (.int .i64 0)).setCell ⟨w7.heap.size, 5, none⟩ (.int .i64 0)).setCell ⟨w7.heap.size, 6, none⟩ (.int .i64 0)).setCell ⟨w7.heap.size, 7, none⟩ (.int .i64 0)).setCell ⟨w7.heap.size, 8, none⟩ (.int .i64 0)) ∧ Ext w7 wc ∧ TcAt wc w7.heap.size ⟨valN ts pA, valN ts pH, 0, 0, 0, 0, 0, 0, 0⟩ :=
      ⟨_, rfl, ext_setT ea (Nat.le_refl _) ⟨valN ts pA, valN ts pH, 0, 0, 0, 0, 0, 0, 0⟩, TA.setT ⟨valN ts pA, valN ts pH, 0, 0, 0, 0, 0, 0, 0⟩⟩
    have x5c := x57.tr ec
    have hcb : w5.heap.size ≤ w7.heap.size := x57.size
    have HZ := Lib.hid (show wc.heap.size = wa.heap.size by rw [hwc]; simp)
    have hla := TA.lt
    obtain ⟨r0, r1, r2, r3, r4, r5, r6, r7, r8⟩ := TA.cells
    have g0 := TA.frozen 0
    have g1 := TA.frozen 1
    have g2 := TA.frozen 2
    have g3 := TA.frozen 3
    have g4 := TA.frozen 4
    have g5 := TA.frozen 5
    have g6 := TA.frozen 6
    have g7 := TA.frozen 7
    have g8 := TA.frozen 8
    clear ec x57 ea
    -- the days
    have e8 : Ext wc (wc.alloc (.cells #[.int .i64 32545, .int .i64 32590, .int .i64 24357] 3)) := (Below.refl _ _).alloc (Nat.le_refl _) _
    go_wp2_with fail
    rw [← hwc, ← HZ.out]
    clear hwc hwa' HZ r0 r1 r2 r3 r4 r5 r6 r7 r8 g0 g1 g2 g3 g4 g5 g6 g7 g8 hla TA
    refine (tnumber_any (d := 8) (ts := ts) (path := pF) _ (HR.out.ext (x15.tr (x5c.tr e8))) HS.out (rdi3 wc 32545 32590 24357)).mono ?_
    rintro e w8 ⟨rfl, b8⟩
    have xc8 := e8.tr b8
    clear e8 b8
    have e9 : Ext w8 (w8.alloc (.cells #[.int .i64 32545, .int .i64 32590, .int .i64 24356] 3)) := (Below.refl _ _).alloc (Nat.le_refl _) _
    go_wp2_with fail
    refine (tnumber_any (d := 8) (ts := ts) (path := pT) _ (HR.out.ext (x15.tr (x5c.tr (xc8.tr e9)))) HS.out (rdi3 w8 32545 32590 24356)).mono ?_
    rintro e w9 ⟨rfl, b9⟩
    have xc9 := xc8.tr (e9.tr b9)
    have x59 := x5c.tr xc9
    have TC9 := TC0.ext xc9
    clear e9 b9 xc8 x5c xc9 TC0
    -- the key is read
    have hne6 : w2.heap.size ≠ w7.heap.size := by omega
    have hne6' : w7.heap.size ≠ w2.heap.size := by omega
    have hne8 : w4.heap.size ≠ w7.heap.size := by omega
    have hne8' : w7.heap.size ≠ w4.heap.size := by omega
    have hrw : w.heap.size ≠ w7.heap.size := by have := zr5.lt; omega
    have hxw : w.heap.size ≤ w7.heap.size := by have := zr5.lt; omega
    obtain ⟨wd, hwd, xd, TCd⟩ : ∃ wd, wd = (w9.setCell ⟨w7.heap.size, 5, none⟩ (.int .i64 (numN ts pF))).setCell ⟨w7.heap.size, 6, none⟩ (.int .i64 (numN ts pT)) ∧ Ext w5 wd ∧ TcAt wd w7.heap.size ⟨valN ts pA, valN ts pH, 0, 0, 0, numN ts pF, numN ts pT, 0, 0⟩ :=
      ⟨_, rfl, ext_set (ext_set x59 hcb) hcb, TC9.setDays _ _⟩
    obtain ⟨_, _, _, _, _, i5, i6, _, _⟩ := TC9.cells
    have j5 := TC9.frozen 5
    have j6 := TC9.frozen 6
    have hlc := TC9.lt
    obtain ⟨_, k1, _, _, _, _⟩ := (T65.ex x59).cells
    go_wp2_with fail
    rw [← hwd]
    clear hwd i5 i6 j5 j6 hlc k1 TC9 x59
    refine (gdecode_any _ (HK5.out.ext xd)).mono ?_
    rintro e w10 ⟨rfl, b10⟩
    have x10 := xd.tr b10
    have TC10 := TCd.ext b10
    clear xd b10 TCd
    obtain ⟨we, hwe, xe, TCe⟩ : ∃ we, we = w10.setCell ⟨w7.heap.size, 2, none⟩ (.int .i64 (gdV (valN ts pK))) ∧ Ext w5 we ∧ TcAt we w7.heap.size ⟨valN ts pA, valN ts pH, gdV (valN ts pK), 0, 0, numN ts pF, numN ts pT, 0, 0⟩ :=
      ⟨_, rfl, ext_set x10 hcb, TC10.setKey _⟩
    obtain ⟨_, _, i2, _, _, _, _, _, _⟩ := TC10.cells
    have j2 := TC10.frozen 2
    have hlc := TC10.lt
    by_cases hgd : gdOk (valN ts pK)
    case neg =>
      have HC := HD.out.2.2.1 ts cnt HO.out (xP_key hgd)
      have hb : (gdK (valN ts pK) != 0) = true := by unfold gdK; rw [if_neg hgd]; split <;> rfl
      clear hgd HD hwe xe TCe
      have zrq := (zr5.ext x10).other (b := w7.heap.size) (i := 2) (v := .int .i64 (gdV (valN ts pK))) hrw
      have zr10 := zr5.ext x10
      have TZ : TcAt (set9 (w10.setCell ⟨w7.heap.size, 2, none⟩ (.int .i64 (gdV (valN ts pK)))) w.heap.size (.string ⟨#[]⟩) (.string ⟨#[]⟩) (.int .i64 0) (.int .i64 0) (.int .i64 0) (.int .i64 0) (.int .i64 0) (.int .i64 0) (.int .i64 0)) w.heap.size zeroT := zrq.setT zeroT
      have hlr := (zr10).lt
      obtain ⟨r0, r1, r2, r3, r4, r5, r6, r7, r8⟩ := (zr10).cells
      have g0 := (zr10).frozen 0
      have g1 := (zr10).frozen 1
      have g2 := (zr10).frozen 2
      have g3 := (zr10).frozen 3
      have g4 := (zr10).frozen 4
      have g5 := (zr10).frozen 5
      have g6 := (zr10).frozen 6
      have g7 := (zr10).frozen 7
      have g8 := (zr10).frozen 8
      go_wp2_with fail
      refine bodyPost_ret (v := .tuple #[tcV zeroT, .int .i64 1]) ?_ rfl ⟨by rw [HC.1, HC.2], ext_setT (ext_set (x5.tr x10) hxw) (Nat.le_refl _) zeroT⟩
      obtain ⟨q0, q1, q2, q3, q4, q5, q6, q7, q8⟩ := TZ.cells
      clear r0 r1 r2 r3 r4 r5 r6 r7 r8
      simp [results, Tryd.results33, go_sem, tcV, q0, q1, q2, q3, q4, q5, q6, q7, q8]
    case pos =>
      have HG := Lib.hid hgd
      have HZ := Lib.hid (show we.heap.size = w10.heap.size by rw [hwe]; simp)
      rw [show gdK (valN ts pK) = 0 from if_pos hgd]
      have e11 : Ext we (we.alloc (.cells #[.int .i64 32545, .int .i64 32590, .int .i64 32588, .int .i64 83] 3)) := (Below.refl _ _).alloc (Nat.le_refl _) _
      clear hgd
      go_wp2_with fail
      rw [← hwe, ← HZ.out]
      clear hwe HZ i2 j2 hlc TC10 x10
      refine (tnumber_any (d := 8) (ts := ts) (path := pR) _ (HR.out.ext (x15.tr (xe.tr e11))) HS.out (rdi4 we 32545 32590 32588 83)).mono ?_
      rintro e w11 ⟨rfl, b11⟩
      have xe11 := e11.tr b11
      have x11 := xe.tr xe11
      have TC11 := TCe.ext xe11
      have zr11 := zr5.ext x11
      clear e11 b11 xe11 xe TCe
      by_cases hri : 0 ≤ numN ts pR
      case neg =>
        have HC := HD.out.2.2.1 ts cnt HO.out (xP_ri hri)
        have hri' : numN ts pR < 0 := by omega
        clear HD hri
        have TZ : TcAt (set9 w11 w.heap.size (.string ⟨#[]⟩) (.string ⟨#[]⟩) (.int .i64 0) (.int .i64 0) (.int .i64 0) (.int .i64 0) (.int .i64 0) (.int .i64 0) (.int .i64 0)) w.heap.size zeroT := (zr11).setT zeroT
        have hlr := (zr11).lt
        obtain ⟨r0, r1, r2, r3, r4, r5, r6, r7, r8⟩ := (zr11).cells
        have g0 := (zr11).frozen 0
        have g1 := (zr11).frozen 1
        have g2 := (zr11).frozen 2
        have g3 := (zr11).frozen 3
        have g4 := (zr11).frozen 4
        have g5 := (zr11).frozen 5
        have g6 := (zr11).frozen 6
        have g7 := (zr11).frozen 7
        have g8 := (zr11).frozen 8
        go_wp2_with fail
        refine bodyPost_ret (v := .tuple #[tcV zeroT, .int .i64 1]) ?_ rfl ⟨by rw [HC.1, HC.2], ext_setT (x5.tr x11) (Nat.le_refl _) zeroT⟩
        obtain ⟨q0, q1, q2, q3, q4, q5, q6, q7, q8⟩ := TZ.cells
        clear r0 r1 r2 r3 r4 r5 r6 r7 r8
        simp [results, Tryd.results33, go_sem, tcV, q0, q1, q2, q3, q4, q5, q6, q7, q8]
      case pos =>
        have hhi := numN_hi ts pR
        have h65 := and_65535 hri hhi
        obtain ⟨wf, hwf, xf, TCf⟩ : ∃ wf, wf = (w11.setCell ⟨w7.heap.size, 3, none⟩ (.int .i64 (numN ts pR / 65536))).setCell ⟨w7.heap.size, 4, none⟩ (.int .i64 (numN ts pR % 65536)) ∧ Ext w5 wf ∧ TcAt wf w7.heap.size ⟨valN ts pA, valN ts pH, gdV (valN ts pK), numN ts pR / 65536, numN ts pR % 65536, numN ts pF, numN ts pT, 0, 0⟩ :=
          ⟨_, rfl, ext_set (ext_set x11 hcb) hcb, TC11.setRole _ _⟩
        obtain ⟨_, _, _, i3, i4, _, _, _, _⟩ := TC11.cells
        have j3 := TC11.frozen 3
        have j4 := TC11.frozen 4
        have hlc := TC11.lt
        obtain ⟨_, k1, _, _, _, _⟩ := (T8.ex x11).cells
        go_wp2_with fail
        rw [← hwf]
        clear hwf i3 i4 j3 j4 hlc k1 h65 TC11 zr11 x11
        refine (decode_any _ (HSg.out.ext xf)).mono ?_
        rintro e w12 ⟨rfl, b12⟩
        have x12 := xf.tr b12
        have TC12 := TCf.ext b12
        have zr12 := zr5.ext x12
        clear xf b12 TCf
        unfold sgV
        obtain ⟨wg, hwg, xg, TCg⟩ : ∃ wg, wg = (w12.setCell ⟨w7.heap.size, 7, none⟩ (.int .i64 (dcE (valN ts pS)))).setCell ⟨w7.heap.size, 8, none⟩ (.int .i64 (dcS (valN ts pS))) ∧ Ext w5 wg ∧ TcAt wg w7.heap.size ⟨valN ts pA, valN ts pH, gdV (valN ts pK), numN ts pR / 65536, numN ts pR % 65536, numN ts pF, numN ts pT, dcE (valN ts pS), dcS (valN ts pS)⟩ :=
          ⟨_, rfl, ext_set (ext_set x12 hcb) hcb, TC12.setSig _ _⟩
        obtain ⟨i0, i1, i2, i3, i4, i5, i6, i7, i8⟩ := TC12.cells
        have j7 := TC12.frozen 7
        have j8 := TC12.frozen 8
        have hlc := TC12.lt
        by_cases hds : dcK (valN ts pS) = 0
        case neg =>
          have HC := HD.out.2.2.1 ts cnt HO.out (xP_si hds)
          have hb : (dcK (valN ts pS) != 0) = true := by simpa using hds
          clear HD hds hwg xg TCg
          have zrq := (zr12.other (b := w7.heap.size) (i := 7) (v := .int .i64 (dcE (valN ts pS))) hrw).other (b := w7.heap.size) (i := 8) (v := .int .i64 (dcS (valN ts pS))) hrw
          have TZ : TcAt (set9 ((w12.setCell ⟨w7.heap.size, 7, none⟩ (.int .i64 (dcE (valN ts pS)))).setCell ⟨w7.heap.size, 8, none⟩ (.int .i64 (dcS (valN ts pS)))) w.heap.size (.string ⟨#[]⟩) (.string ⟨#[]⟩) (.int .i64 0) (.int .i64 0) (.int .i64 0) (.int .i64 0) (.int .i64 0) (.int .i64 0) (.int .i64 0)) w.heap.size zeroT := zrq.setT zeroT
          have hlr := (zr12).lt
          obtain ⟨r0, r1, r2, r3, r4, r5, r6, r7, r8⟩ := (zr12).cells
          have g0 := (zr12).frozen 0
          have g1 := (zr12).frozen 1
          have g2 := (zr12).frozen 2
          have g3 := (zr12).frozen 3
          have g4 := (zr12).frozen 4
          have g5 := (zr12).frozen 5
          have g6 := (zr12).frozen 6
          have g7 := (zr12).frozen 7
          have g8 := (zr12).frozen 8
          go_wp2_with fail
          refine bodyPost_ret (v := .tuple #[tcV zeroT, .int .i64 1]) ?_ rfl ⟨by rw [HC.1, HC.2], ext_setT (ext_set (ext_set (x5.tr x12) hxw) hxw) (Nat.le_refl _) zeroT⟩
          obtain ⟨q0, q1, q2, q3, q4, q5, q6, q7, q8⟩ := TZ.cells
          clear r0 r1 r2 r3 r4 r5 r6 r7 r8
          simp [results, Tryd.results33, go_sem, tcV, q0, q1, q2, q3, q4, q5, q6, q7, q8]
        case pos =>
          have hx := xP_ok HG.out hri hds
          have hgv : gdV (valN ts pK) = num (valN ts pK) := if_pos HG.out
          have HM := Lib.hid (show smT ⟨valN ts pA, valN ts pH, num (valN ts pK), numN ts pR / 65536, numN ts pR % 65536, numN ts pF, numN ts pT, dcE (valN ts pS), dcS (valN ts pS)⟩ from ⟨valN_len pA 8 ts HS.out, valN_len pH 8 ts HS.out⟩)
          rw [hgv] at i2 TCg
          have HX := Lib.hid hx
          rw [hds]
          clear hx hds hri hgv
          go_wp2_with fail
          rw [← hwg]
          clear hwg i0 i1 i2 i3 i4 i5 i6 i7 i8 j7 j8 hlc TC12 zr12 x12
          refine (tencode_any _ wg HM.out).mono ?_
          obtain ⟨c, hc⟩ : ∃ c : TC, c = ⟨valN ts pA, valN ts pH, num (valN ts pK), numN ts pR / 65536, numN ts pR % 65536, numN ts pF, numN ts pT, dcE (valN ts pS), dcS (valN ts pS)⟩ := ⟨_, rfl⟩
          rw [← hc] at HX TCg ⊢
          clear hc HM
          rintro e w13 ⟨A13, n13, c13, rfl, hn13, r13, b13⟩
          have x13 := xg.tr b13
          have TC13 := TCg.ext b13
          have zr13 := zr5.ext x13
          clear xg b13 TCg
          by_cases hec : ecK c = 0
          case neg =>
            have HC := HD.out.2.1 ts cnt c HO.out HX.out (fun q => hec q.1)
            have hb : (ecK c != 0) = true := by simpa using hec
            clear HD hec
            have TZ : TcAt (set9 w13 w.heap.size (.string ⟨#[]⟩) (.string ⟨#[]⟩) (.int .i64 0) (.int .i64 0) (.int .i64 0) (.int .i64 0) (.int .i64 0) (.int .i64 0) (.int .i64 0)) w.heap.size zeroT := (zr13).setT zeroT
            have hlr := (zr13).lt
            obtain ⟨r0, r1, r2, r3, r4, r5, r6, r7, r8⟩ := (zr13).cells
            have g0 := (zr13).frozen 0
            have g1 := (zr13).frozen 1
            have g2 := (zr13).frozen 2
            have g3 := (zr13).frozen 3
            have g4 := (zr13).frozen 4
            have g5 := (zr13).frozen 5
            have g6 := (zr13).frozen 6
            have g7 := (zr13).frozen 7
            have g8 := (zr13).frozen 8
            go_wp2_with fail
            refine bodyPost_ret (v := .tuple #[tcV zeroT, .int .i64 1]) ?_ rfl ⟨by rw [HC.1, HC.2], ext_setT (x5.tr x13) (Nat.le_refl _) zeroT⟩
            obtain ⟨q0, q1, q2, q3, q4, q5, q6, q7, q8⟩ := TZ.cells
            clear r0 r1 r2 r3 r4 r5 r6 r7 r8
            simp [results, Tryd.results33, go_sem, tcV, q0, q1, q2, q3, q4, q5, q6, q7, q8]
          case pos =>
            have HE := Lib.hid hec
            rw [hec]
            clear hec
            go_wp2_with fail
            refine (osame_any _ r13 (HA.out.ext (x5.tr x13))).mono ?_
            rintro e w14 ⟨rfl, b14⟩
            have x14 := x13.tr b14
            have TC14 := TC13.ext b14
            have zr14 := zr5.ext x14
            clear x13 b14 TC13 zr13 r13 hn13
            by_cases hsm : ecB c = l
            case neg =>
              rw [decide_eq_false hsm]
              have HC := HD.out.2.1 ts cnt c HO.out HX.out (fun q => hsm q.2)
              clear HD hsm
              have TZ : TcAt (set9 w14 w.heap.size (.string ⟨#[]⟩) (.string ⟨#[]⟩) (.int .i64 0) (.int .i64 0) (.int .i64 0) (.int .i64 0) (.int .i64 0) (.int .i64 0) (.int .i64 0)) w.heap.size zeroT := (zr14).setT zeroT
              have hlr := (zr14).lt
              obtain ⟨r0, r1, r2, r3, r4, r5, r6, r7, r8⟩ := (zr14).cells
              have g0 := (zr14).frozen 0
              have g1 := (zr14).frozen 1
              have g2 := (zr14).frozen 2
              have g3 := (zr14).frozen 3
              have g4 := (zr14).frozen 4
              have g5 := (zr14).frozen 5
              have g6 := (zr14).frozen 6
              have g7 := (zr14).frozen 7
              have g8 := (zr14).frozen 8
              go_wp2_with fail
              refine bodyPost_ret (v := .tuple #[tcV zeroT, .int .i64 1]) ?_ rfl ⟨by rw [HC.1, HC.2], ext_setT (x5.tr x14) (Nat.le_refl _) zeroT⟩
              obtain ⟨q0, q1, q2, q3, q4, q5, q6, q7, q8⟩ := TZ.cells
              clear r0 r1 r2 r3 r4 r5 r6 r7 r8
              simp [results, Tryd.results33, go_sem, tcV, q0, q1, q2, q3, q4, q5, q6, q7, q8]
            case pos =>
              rw [decide_eq_true hsm]
              have HC := HD.out.1 ts cnt c HO.out HX.out HE.out hsm
              clear HD hsm
              have TZ : TcAt (set9 w14 w.heap.size (.string (bstr c.au)) (.string (bstr c.ho)) (.int .i64 c.key) (.int .i64 c.role) (.int .i64 c.rights) (.int .i64 c.fr) (.int .i64 c.to) (.int .i64 c.e) (.int .i64 c.s)) w.heap.size c := zr14.setT c
              have hlr := zr14.lt
              have hlc := TC14.lt
              obtain ⟨i0, i1, i2, i3, i4, i5, i6, i7, i8⟩ := TC14.cells
              obtain ⟨r0, r1, r2, r3, r4, r5, r6, r7, r8⟩ := zr14.cells
              have g0 := zr14.frozen 0
              have g1 := zr14.frozen 1
              have g2 := zr14.frozen 2
              have g3 := zr14.frozen 3
              have g4 := zr14.frozen 4
              have g5 := zr14.frozen 5
              have g6 := zr14.frozen 6
              have g7 := zr14.frozen 7
              have g8 := zr14.frozen 8
              go_wp2_with fail
              refine bodyPost_ret (v := .tuple #[tcV c, .int .i64 0]) ?_ rfl ⟨by rw [HC.1, HC.2], ext_setT (x5.tr x14) (Nat.le_refl _) c⟩
              obtain ⟨q0, q1, q2, q3, q4, q5, q6, q7, q8⟩ := TZ.cells
              clear r0 r1 r2 r3 r4 r5 r6 r7 r8 i0 i1 i2 i3 i4 i5 i6 i7 i8
              simp [results, Tryd.results33, go_sem, tcV, q0, q1, q2, q3, q4, q5, q6, q7, q8]
end Go.Proofs.YteilglpdmfiinaaDoor
