/- Parts Jw Uj Ek Mj En of the proof. -/
import Derived.Test.YtmmoenkmicimcaaGreatDoorDRbi
import Derived.Test.YtmmoenkmicimcaaGreatDoorDRav
import Derived.Test.YtmmoenkmicimcaaGreatDoorDRbj
import Derived.Test.YtmmoenkmicimcaaGreatDoorDRbe
import Derived.Deep.MidRow
import Derived.Test.YtmmoenkmicimcaaGreatDoorDRaz
import Derived.Test.YtmmoenkmicimcaaGreatDoorDRbc
import Derived.Test.YtmmoenkmicimcaaGreatDoorDRar
import Derived.Test.YtmmoenkmicimcaaGreatDoorDRbb
import Derived.Test.YtmmoenkmicimcaaGreatDoorDRax
import Derived.BigRegion
import Derived.Deep.RegionWith
import Derived.Test.YtmmoenkmicimcaaGreatDoorDRbf
import Derived.Test.YtmmoenkmicimcaaGreatDoorDRaw
import Derived.Test.YtmmoenkmicimcaaGreatDoorDRat
import Derived.Test.YtmmoenkmicimcaaGreatDoorDRao
import Derived.Test.YtmmoenkmicimcaaGreatDoorDRbd
namespace Go.Proofs.YtmmoenkmicimcaaGreatDoor
open Go.RowKit
set_option linter.unusedVariables false
set_option maxRecDepth 100000
theorem setCells_setL (g : Nat) : ∀ (vs : List Value) (i : Nat) (w : World), w.setCells g i vs = setL w g i vs
  | [], i, w => rfl
  | v :: vs, i, w => setCells_setL g vs (i + 1) _
theorem Gb.setCells (g : Nat) : ∀ (vs : List Value) (i : Nat) (w : World), Gb g w (w.setCells g i vs)
  | [], i, w => Gb.refl _ _
  | v :: vs, i, w => (Gb.set g i w v).tr (Gb.setCells g vs (i + 1) _)
theorem OwnK.setAt {w : World} {B n c : Nat} {A : Option Addr} {l : List NC} {i : Nat} (h : OwnK w B 39 11 (.slice A n c) (ncsCells l)) (hi : i < l.length) (x : NC) :
    ∃ g, A = some ⟨g, 0, none⟩ ∧ B ≤ g ∧ w.there g (i * 11) 11 ∧ g < w.heap.size ∧ c ≠ 0 ∧ OwnK (w.setCells g (i * 11) (ncCells x)) B 39 11 (.slice A n c) (ncsCells (l.set i x)) := by
  obtain ⟨A', n', c', e, hn, h⟩ := h
  injection e with e1 e2 e3
  subst e1 e2 e3
  rw [ncsCells_len] at hn
  obtain rfl : n = l.length := by omega
  rcases h with ⟨h0, _⟩ | ⟨g, cur, rfl, hB, hg, hnc, hcm, hcs, ht⟩
  · omega
  · refine ⟨g, rfl, hB, fun j hj => ⟨?_, by simp [World.frozen?, hg]⟩, block_lt hg, by omega, ?_⟩
    · rw [cell_of_row w g _ cur _ _ hg]
      simp
      have : i * 11 + 11 ≤ c * 11 := by have : (i + 1) * 11 ≤ c * 11 := Nat.mul_le_mul_right _ (by omega); omega
      omega
    · rw [setCells_setL]
      have hcc : cur.toList = ncsCells l ++ cur.toList.drop (l.length * 11) := by rw [← ht, List.take_append_drop]
      have h1 : w.heap[g]? = some (.cells (ncsCells l ++ cur.toList.drop (l.length * 11)).toArray 39 (0, 0)) := by rw [hg, ← hcc, Array.toArray_toList]
      have h2 := setL_setN w g h1 rfl i hi x
      have hl : (l.set i x).length = l.length := List.length_set
      have hls : (ncsCells (l.set i x)).length = l.length * 11 := by rw [ncsCells_len, hl]
      have hlc : l.length * 11 ≤ c * 11 := Nat.mul_le_mul_right _ hnc
      refine ⟨_, l.length, c, rfl, hls.symm, .inr ⟨g, _, rfl, hB, h2, hnc, hcm, ?_, ?_⟩⟩
      · have hcl : cur.toList.length = c * 11 := by rw [Array.length_toList, hcs]
        show (ncsCells (l.set i x) ++ cur.toList.drop (l.length * 11)).length = c * 11
        rw [List.length_append, hls, List.length_drop, hcl]
        omega
      · show (ncsCells (l.set i x) ++ _).take _ = _
        rw [← hls]
        exact List.take_left
/-- A certificate stored in the middle of a block. -/
theorem wpMid_store {P : Program} {ops : Array Oper} {rest : List Oper} {o : Oper} {a : Act} {w : World} {Q : Exit → Act → World → Prop} (hgd : o.guard = none) (ty : TypeId) (x y : Operand) (ho : o.op = .store ty x y) (hd : o.dst = none)
    (b f : Nat) (cells : List Value) (hx : a.eval x = .pointer (some ⟨b, f, none⟩)) (hy : a.eval y = .agg cells.toArray)
    (ht : w.there b f cells.length) (hi : (P.info? ty).map (·.size) = some cells.length) (h1 : cells.toArray.all (·.oneCell') = true)
    (h : wpList P ops Q rest a (w.setCells b f cells)) : wpList P ops Q (o :: rest) a w :=
  wpList_store_mid hgd ty x y ho b f cells.toArray hx hy ht hi h1 (by rw [hd]; exact h)
end Go.Proofs.YtmmoenkmicimcaaGreatDoor
namespace Go.Proofs.YtmmoenkmicimcaaGreatDoor
open Go.RowKit
open Go.Proofs.YtmmoenkmicimcaaGreatDoor.Gd (GRun GSkip)
set_option linter.unusedVariables false
set_option maxRecDepth 100000
section
variable {w wr wx : World} {s0 s1 s2 s3 s4 t0 t1 t2 t3 t4 : SlT} {S S' : ST} {r : RV} {v : Value} {g : Nat}
/-- The block of a list of lists changes. -/
theorem StO.gr {B gR : Nat} {cs : Array Value} (h : StO wr B t0 t1 t2 t3 t4 S) (hg : wr.heap[gR]? = some (.cells cs 88 (0, 0))) (e : wr.grownBy wx (some gR)) (o3 : OwnX kR wx B (slV t3) S'.rs) (h0 : S'.roots = S.roots) (h1 : S'.pool = S.pool) (h2 : S'.ms = S.ms) (h4 : S'.ds = S.ds) : StO wx B t0 t1 t2 t3 t4 S' :=
  ⟨by rw [h0]; exact h.o0.grown e (.inr (h.o0.row_blk hg (by decide))), by rw [h1]; exact h.o1.grown e (.inr (h.o1.row_blk hg (by decide))), by rw [h2]; exact h.o2.gb hg (by decide) (by decide) e, o3, by rw [h4]; exact h.o4.gb hg (by decide) (by decide) e⟩
theorem OwnP.form {α : Type} {K : LK α} {B n c i : Nat} {A : Option Addr} {ps : List (α × Value)} (h : OwnP K wr B (.slice A n c) ps) (hi : i < ps.length) : ∃ g cur, A = some ⟨g, 0, none⟩ ∧ n = ps.length ∧ n ≤ c ∧ c ≤ maxLen ∧ B ≤ g ∧ wr.heap[g]? = some (.cells cur K.T (0, 0)) := by
  obtain ⟨A', n', c', e, hn, hc⟩ := h.1
  injection e with e1 e2 e3
  subst e1 e2 e3
  rw [K.cells_len] at hn
  obtain rfl : n = ps.length := Nat.eq_of_mul_eq_mul_right K.pos hn
  rcases hc with ⟨h0, _⟩ | ⟨g, cur, rfl, hB, hg, hnc, hcm, _, _⟩
  · omega
  · exact ⟨g, cur, rfl, rfl, hnc, hcm, hB, hg⟩
theorem StO.gst {B gS : Nat} {cs : Array Value} (h : StO wr B t0 t1 t2 t3 t4 S) (hg : wr.heap[gS]? = some (.cells cs 31 (0, 0))) (e : wr.grownBy wx (some gS)) : StO wx B t0 t1 t2 t3 t4 S :=
  ⟨h.o0.grown e (.inr (h.o0.row_blk hg (by decide))), h.o1.grown e (.inr (h.o1.row_blk hg (by decide))), h.o2.gb hg (by decide) (by decide) e, h.o3.gb hg (by decide) (by decide) e, h.o4.gb hg (by decide) (by decide) e⟩
end
theorem map_set_fst {α β : Type} : ∀ (ps : List (α × β)) (i : Nat) (a : α) (b : β), (ps.set i (a, b)).map Prod.fst = (ps.map Prod.fst).set i a
  | [], _, _, _ => rfl
  | p :: ps, 0, a, b => rfl
  | p :: ps, i + 1, a, b => congrArg (p.1 :: ·) (map_set_fst ps i a b)
/-- What Accept returns. -/
def AccRt (w : World) (S : ST) (k : Int) (e : Ending) (w' : World) : Prop := ∃ t0 t1 t2 t3 t4 : SlT, e = .returned (.tuple #[storeV t0 t1 t2 t3 t4, .int .i64 k]) ∧ StR w' t0 t1 t2 t3 t4 S ∧ Ext w w'
end Go.Proofs.YtmmoenkmicimcaaGreatDoor
namespace Go.Proofs.YtmmoenkmicimcaaGreatDoor
open Go.RowKit
open Go.Proofs.YtmmoenkmicimcaaGreatDoor.Gd (GRun GSkip)
set_option linter.unusedVariables false
set_option maxRecDepth 100000
/-- Certificates that a call returned. -/
def GRn (l : List NC) : VPred := fun v w => ∃ (A : Option Addr) (c : Nat), v = .slice A l.length c ∧ RdN w (.slice A l.length c) l
theorem stable_GRn (l : List NC) : StableP (GRn l) := fun v w w' e ⟨A, c, h1, h2⟩ => ⟨A, c, h1, RdK.ext h2 e⟩
theorem DvAt.new (w : World) (m : DV) (v : Value) : DvAt (w.alloc (.cells #[.string (bstr m.st), .int .i64 m.num, .int .i64 m.day, v, .string (bstr m.sg.st), .int .i64 m.sg.kind, .int .i64 m.sg.num, .int .i64 m.sg.iss, .int .i64 m.sg.own, .int .i64 m.sg.key, .int .i64 m.sg.fr, .int .i64 m.sg.un, .int .i64 m.sg.to, .int .i64 m.sg.e, .int .i64 m.sg.s, .int .i64 m.e, .int .i64 m.s] 41)) w.heap.size m v := heap_alloc_new' w _
/-- A slice that has one list more, whose numbers are new. -/
def ApGD (B n : Nat) (xs : List Value) (r : DV) (A : Option Addr) (c : Nat) (w : World) : Prop := ∃ u, OwnK w B 41 17 (.slice A (n + 1) c) (xs ++ dvCells r u) ∧ OwnK w B 65 5 u (dfsCells r.defs)
/-- How a world may go on while the list is appended. -/
structure ApRelD (B : Nat) (v : Value) (n : Nat) (xs : List Value) (r : DV) (w w' : World) : Prop where
  g : w.grownBy w' (rowOf v)
  p1 : OwnK w B 41 17 v xs → OwnK w' B 41 17 v xs
  p2 : OwnK w B 41 17 v xs → ∀ u, OwnK w B 65 5 u (dfsCells r.defs) → OwnK w' B 65 5 u (dfsCells r.defs)
  p3 : OwnK w B 41 17 v xs → ∀ A c, ApGD B n xs r A c w → ApGD B n xs r A c w'
def apD (B : Nat) (v : Value) (n : Nat) (xs : List Value) (r : DV) : Gr.Rl where
  rel := fun w w' => OwnK w B 41 17 v xs → ApRelD B v n xs r w w'
  refl := fun w _ => ⟨World.grownBy.refl _ _, id, fun _ _ h => h, fun _ _ _ h => h⟩
  tr := fun h k q => ⟨World.grownBy.trans (h q).g (k ((h q).p1 q)).g, fun o => (k ((h q).p1 q)).p1 ((h q).p1 o), fun o u x => (k ((h q).p1 q)).p2 ((h q).p1 q) u ((h q).p2 q u x), fun o A c x => (k ((h q).p1 q)).p3 ((h q).p1 q) A c ((h q).p3 q A c x)⟩
  ext := fun e _ => ⟨⟨e.os, e.tape, e.output, e.size, fun k hk _ => e.block k hk⟩, fun o => o.ext e, fun _ u x => x.ext e, fun _ A c ⟨u, h1, h2⟩ => ⟨u, h1.ext e, h2.ext e⟩⟩
/-- The append itself. -/
theorem run_apD {B : Nat} {v : Value} {n : Nat} {xs : List Value} {r : DV} {ty : TypeId} {w : World} {src u : Value} (o : OwnK w B 41 17 v xs) (hn : n * 17 = xs.length) (hr : RdK w 17 src (dvCells r u)) (hu : OwnK w B 65 5 u (dfsCells r.defs)) (h15 : n ≤ 1000) (hB : B ≤ w.heap.size) :
    ∃ A c w', (Builtin.append_ #[29, 29] ty #[v, src]).run Tryz.prog w = .ok (.slice A (n + 1) c) w' ∧ ApRelD B v n xs r w w' ∧ ApGD B n xs r A c w' := by
  obtain ⟨A, c, w', q1, q2, q3, q4, q5⟩ := run_appKT (P := Tryz.prog) (ty := ty) (k := 17) (by decide) elemXD o hn hr (m := 1) rfl (by decide) (kD.one r u (by obtain ⟨A9, n9, c9, e9, _⟩ := hu; rw [e9]; rfl)) (by omega) (by unfold maxLen; omega) hB
  have hu' : OwnK w' B 65 5 u (dfsCells r.defs) := hu.grown q3 (o.row_ne hu (by decide))
  refine ⟨A, c, w', q1, ⟨q3, fun _ => q4, fun _ x hx => hx.grown q3 (o.row_ne hx (by decide)), fun _ A1 c1 ⟨x, h1, h2⟩ => ?_⟩, u, q2, hu'⟩
  rcases q5 A1 c1 (dvCells r x) rfl h1 with h | h
  · exact ⟨x, h, h2.grown q3 (o.row_ne h2 (by decide))⟩
  · exact ⟨u, h, hu'⟩
/-- A list as a value, and in a block of its own; the slice with one list more. -/
def GvD (B : Nat) (v0 : Value) (xs : List Value) (r : DV) : VPred := fun v w => OwnK w B 41 17 v0 xs ∧ ∃ A n c, v = dvV r (.slice A n c) ∧ OwnK w B 65 5 (.slice A n c) (dfsCells r.defs)
def GlD (B b0 : Nat) (v0 : Value) (xs : List Value) (r : DV) : VPred := fun v w => OwnK w B 41 17 v0 xs ∧ ∃ g u, v = .slice (some ⟨g, 0, none⟩) 1 1 ∧ b0 ≤ g ∧ w.heap[g]? = some (.cells (dvCells r u).toArray 41 (0, 0)) ∧ OwnK w B 65 5 u (dfsCells r.defs)
def GaD (B : Nat) (v0 : Value) (n : Nat) (xs : List Value) (r : DV) : VPred := fun v w => OwnK w B 41 17 v0 xs ∧ ∃ A c, v = .slice A (n + 1) c ∧ ApGD B n xs r A c w
theorem stable_GvD (B : Nat) (v0 : Value) (n : Nat) (xs : List Value) (r : DV) : (apD B v0 n xs r).stable (GvD B v0 xs r) := fun v w w' q ⟨o, A, m, c, h1, h2⟩ => ⟨(q o).p1 o, A, m, c, h1, (q o).p2 o _ h2⟩
theorem stable_GlD {B b0 : Nat} {v0 : Value} (hb : ∀ k, rowOf v0 = some k → k < b0) (n : Nat) (xs : List Value) (r : DV) : (apD B v0 n xs r).stable (GlD B b0 v0 xs r) := fun v w w' q ⟨o, g, u, h1, h2, h3, h4⟩ =>
  ⟨(q o).p1 o, g, u, h1, h2, ((q o).g.block g (block_lt h3) (fun e => by have := hb g e.symm; omega)).trans h3, (q o).p2 o _ h4⟩
theorem stable_GaD (B : Nat) (v0 : Value) (n : Nat) (xs : List Value) (r : DV) : (apD B v0 n xs r).stable (GaD B v0 n xs r) := fun v w w' q ⟨o, A, c, h1, h2⟩ => ⟨(q o).p1 o, A, c, h1, (q o).p3 o A c h2⟩
theorem run_oneDv (W : World) (r : DV) (A : Option Addr) (n c : Nat) : (Instr.buildSlice 29 1 [(0, dvV r (.slice A n c))].toArray).run Tryz.prog W = .ok (.slice (some ⟨W.heap.size, 0, none⟩) 1 1) (W.alloc (.cells (dvCells r (.slice A n c)).toArray 41)) := by
  unfold dvV dvCells
  go_simp
theorem GlD.rd {B b0 : Nat} {v0 : Value} {xs : List Value} {r : DV} {v : Value} {w : World} (h : GlD B b0 v0 xs r v w) : ∃ u, RdK w 17 v (dvCells r u) ∧ OwnK w B 65 5 u (dfsCells r.defs) := by
  obtain ⟨_, g, u, rfl, _, hg, hu⟩ := h
  refine ⟨u, ⟨_, 1, 1, rfl, rfl, Nat.le_refl _, by unfold maxLen; omega, fun _ => ⟨g, 0, rfl, fun j x hx => ?_⟩⟩, hu⟩
  rw [Nat.zero_add, cell_of_row w g j _ _ _ hg]
  simpa using hx
/-- What Accept returns. -/
noncomputable def sgnD (S : ST) (m : DV) (day : Int) : Int := sndE (rootsT S) S.pool m.sg m.day day (byD m) m.e m.s
noncomputable def accD (S : ST) (m : DV) (day : Int) : ST × Int :=
  if ckD m ≠ 0 then (S, ckD m) else if sgnD S m day ≠ 0 then (S, sgnD S m day) else
  match S.ds.findIdx? (fun t => decide (t.st = m.st)) with
  | some i => if m.num ≤ (S.ds.getD i zeroD).num then (S, 67) else (⟨S.roots, S.pool, S.ms, S.rs, S.ds.set i m⟩, 0)
  | none => if 16 ≤ S.ds.length then (S, 72) else (⟨S.roots, S.pool, S.ms, S.rs, S.ds ++ [m]⟩, 0)
/-- Where Accept stands: the arguments, the result's block, the copy in block g. -/
structure AcD (w wr : World) (s0 s1 s2 s3 s4 t0 t1 t2 t3 t4 : SlT) (S : ST) (r : DV) (v : Value) (g : Nat) : Prop where
  ext : Ext w wr
  s : wr.heap[w.heap.size]? = some (.cells (stRow s0 s1 s2 s3 s4) 31 (0, 0))
  r : DvAt wr (w.heap.size + 1) r v
  z : wr.heap[w.heap.size + 1 + 1]? = some (.cells #[.slice none 0 0, .slice none 0 0, .slice none 0 0, .slice none 0 0, .slice none 0 0] 31 (0, 0))
  o : wr.heap[g]? = some (.cells (stRow t0 t1 t2 t3 t4) 31 (0, 0))
  own : StO wr (w.heap.size + 1 + 1 + 1) t0 t1 t2 t3 t4 S
  hg : w.heap.size + 1 + 1 + 1 ≤ g
section
variable {w wr wx : World} {s0 s1 s2 s3 s4 t0 t1 t2 t3 t4 : SlT} {S S' : ST} {r : DV} {v : Value} {g : Nat}
theorem AcD.tr (h : AcD w wr s0 s1 s2 s3 s4 t0 t1 t2 t3 t4 S r v g) (e : Ext wr wx) : AcD w wx s0 s1 s2 s3 s4 t0 t1 t2 t3 t4 S r v g :=
  ⟨h.ext.tr e, (e.block _ (block_lt h.s)).trans h.s, h.r.ext e, (e.block _ (block_lt h.z)).trans h.z, (e.block _ (block_lt h.o)).trans h.o, h.own.ext e, h.hg⟩
theorem AcD.fin (h : AcD w wr s0 s1 s2 s3 s4 t0 t1 t2 t3 t4 S r v g) (cs : Array Value) : Ext w (wr.setRow (w.heap.size + 1 + 1) cs) ∧ StR (wr.setRow (w.heap.size + 1 + 1) cs) t0 t1 t2 t3 t4 S :=
  ⟨ext_setRow h.ext (by omega) _, (h.own.gbB (g := w.heap.size + 1 + 1) (by omega) (Gb.setRow _ _ _)).rd⟩
/-- The block of a list of lists changes. -/
theorem StO.grD {B gR : Nat} {cs : Array Value} (h : StO wr B t0 t1 t2 t3 t4 S) (hg : wr.heap[gR]? = some (.cells cs 41 (0, 0))) (e : wr.grownBy wx (some gR)) (o4 : OwnX kD wx B (slV t4) S'.ds) (h0 : S'.roots = S.roots) (h1 : S'.pool = S.pool) (h2 : S'.ms = S.ms) (h3 : S'.rs = S.rs) : StO wx B t0 t1 t2 t3 t4 S' :=
  ⟨by rw [h0]; exact h.o0.grown e (.inr (h.o0.row_blk hg (by decide))), by rw [h1]; exact h.o1.grown e (.inr (h.o1.row_blk hg (by decide))), by rw [h2]; exact h.o2.gb hg (by decide) (by decide) e, by rw [h3]; exact h.o3.gb hg (by decide) (by decide) e, o4⟩
theorem StO.gr2D {B B2 : Nat} {v2 : Value} {x2 : List Value} {t4' : SlT} (h : StO wr B t0 t1 t2 t3 t4 S) (o : OwnK wr B2 41 17 v2 x2) (e : wr.grownBy wx (rowOf v2)) (o4 : OwnX kD wx B (slV t4') S'.ds) (h0 : S'.roots = S.roots) (h1 : S'.pool = S.pool) (h2 : S'.ms = S.ms) (h3 : S'.rs = S.rs) : StO wx B t0 t1 t2 t3 t4' S' :=
  ⟨by rw [h0]; exact h.o0.grown e (o.row_ne h.o0 (by decide)), by rw [h1]; exact h.o1.grown e (o.row_ne h.o1 (by decide)), by rw [h2]; exact h.o2.grow o (by decide) (by decide) e, by rw [h3]; exact h.o3.grow o (by decide) (by decide) e, o4⟩
/-- One list more, and the slice stored. -/
theorem AcD.app {ps : List (DV × Value)} {u : Value} {A8 : Option Addr} {n8 c8 : Nat} {w8 : World} (h : AcD w wr s0 s1 s2 s3 s4 t0 t1 t2 t3 t4 S r v g) (hOP : OwnP kD wr (w.heap.size + 1 + 1 + 1) (slV t4) ps) (hps : ps.map Prod.fst = S.ds) (hi : OwnK w8 (w.heap.size + 1 + 1 + 1) 65 5 u (dfsCells r.defs))
    (o8 : OwnK w8 (w.heap.size + 1 + 1 + 1) 41 17 (.slice A8 n8 c8) (kD.cells ps ++ dvCells r u)) (g8 : wr.grownBy w8 (rowOf (slV t4))) :
    w8.cell? ⟨g, 4, none⟩ = some (.slice t4.1 t4.2.1 t4.2.2) ∧ g < w8.heap.size ∧ w8.frozen? ⟨g, 4, none⟩ = false ∧ AcD w (w8.setCell ⟨g, 4, none⟩ (.slice A8 n8 c8)) s0 s1 s2 s3 s4 t0 t1 t2 t3 (A8, n8, c8) ⟨S.roots, S.pool, S.ms, S.rs, S.ds ++ [r]⟩ r v g := by
  have low : ∀ k, k < w.heap.size + 1 + 1 + 1 → k < wr.heap.size → w8.heap[k]? = wr.heap[k]? := fun k hk hl => g8.block k hl (fun q => by have := rowOf_geK hOP.1 k q.symm; omega)
  have ho : w8.heap[g]? = some (.cells (stRow t0 t1 t2 t3 t4) 31 (0, 0)) := (g8.block g (block_lt h.o) (fun q => hOP.1.row_blk h.o (by decide) q.symm)).trans h.o
  have hG := h.hg
  have hlt := block_lt ho
  have hx : Below (w.heap.size + 1 + 1 + 1) wr w8 := ⟨g8.os, g8.tape, g8.output, g8.size, fun k hk => g8.block k (Nat.lt_of_lt_of_le hk (Nat.le_trans hG (Nat.le_of_lt (block_lt h.o)))) (fun q => by have := rowOf_geK hOP.1 k q.symm; omega)⟩
  have keep : ∀ k, k ≠ g → (w8.setCell ⟨g, 4, none⟩ (.slice A8 n8 c8)).heap[k]? = w8.heap[k]? := fun k hk => setCell_block hk
  have own8 : StO w8 (w.heap.size + 1 + 1 + 1) t0 t1 t2 t3 (A8, n8, c8) ⟨S.roots, S.pool, S.ms, S.rs, S.ds ++ [r]⟩ := h.own.gr2D (t4' := (A8, n8, c8)) (S' := ⟨S.roots, S.pool, S.ms, S.rs, S.ds ++ [r]⟩) hOP.1 g8 ⟨ps ++ [(r, u)], by rw [List.map_append, hps]; rfl, by rw [← kD.cells_snoc]; exact o8, fun p hp => (List.mem_append.1 hp).elim (fun q => (hOP.2 p q).grown g8 (hOP.1.row_ne (hOP.2 p q) kD.ne.symm)) (fun q => by rw [List.mem_singleton.1 q]; exact hi)⟩ rfl rfl rfl rfl
  refine ⟨by rw [cell_of_row _ _ 4 _ _ _ ho]; rfl, hlt, by simp [World.frozen?, ho], ?_⟩
  refine ⟨(h.ext.trans (hx.mono (by omega))).setCell (p := ⟨g, 4, none⟩) (by show w.heap.size ≤ g; omega) _, (keep _ (by omega)).trans ((low _ (by omega) (block_lt h.s)).trans h.s), (keep _ (by omega)).trans ((low _ (by omega) h.r.lt).trans h.r), (keep _ (by omega)).trans ((low _ (by omega) (block_lt h.z)).trans h.z), ?_, own8.gst ho (Gb.set g 4 w8 _), hG⟩
  have h9 := row_set ho 4 (.slice A8 n8 c8)
  exact h9
/-- What stays while the lists are appended to. -/
theorem AcD.keep {ps : List (DV × Value)} (h : AcD w wr s0 s1 s2 s3 s4 t0 t1 t2 t3 t4 S r v g) (hOP : OwnP kD wr (w.heap.size + 1 + 1 + 1) (slV t4) ps) (g8 : wr.grownBy wx (rowOf (slV t4))) : wx.heap[g]? = some (.cells (stRow t0 t1 t2 t3 t4) 31 (0, 0)) ∧ DvAt wx (w.heap.size + 1) r v ∧ Ext w wx :=
  have hG := h.hg
  have hx : Below (w.heap.size + 1 + 1 + 1) wr wx := ⟨g8.os, g8.tape, g8.output, g8.size, fun k hk => g8.block k (Nat.lt_of_lt_of_le hk (Nat.le_trans hG (Nat.le_of_lt (block_lt h.o)))) (fun q => by have := rowOf_geK hOP.1 k q.symm; omega)⟩
  ⟨(g8.block g (block_lt h.o) (fun q => hOP.1.row_blk h.o (by decide) q.symm)).trans h.o, (hx.block _ (by omega)).trans h.r, h.ext.trans (hx.mono (by omega))⟩
end
/-- A list that a call returned. -/
def GRvD (B : Nat) (r : DV) : VPred := fun v w => ∃ A n c, v = dvV r (.slice A n c) ∧ OwnK w B 65 5 (.slice A n c) (dfsCells r.defs)
theorem stable_GRvD (B : Nat) (r : DV) : StableP (GRvD B r) := fun v w w' e ⟨A, n, c, h1, h2⟩ => ⟨A, n, c, h1, h2.ext e⟩
set_option maxHeartbeats 16000000 in
theorem daccept_any (s0 s1 s2 s3 s4 : SlT) (S : ST) (r : DV) (v : Value) (day : Int) (w : World) (hS : StR w s0 s1 s2 s3 s4 S) (hB : StB S) (hv : RdD w v r.defs) (hs : r.st.length ≤ maxLen) (hr : smD r.defs) (hg : smN r.sg) (hl : r.defs.length ≤ 1000000) (E : KTab w 1) :
    Calls Tryz.prog 11 #[storeV s0 s1 s2 s3 s4, dvV r v, .int .i64 day] w (AccRt w (accD S r day).1 (accD S r day).2) := by
  obtain ⟨A, n, c, rfl, hn, -⟩ := hv.at_
  subst hn
  obtain ⟨wz, hwz⟩ : ∃ wz, wz = ((w.alloc (stO s0 s1 s2 s3 s4)).alloc (.cells #[.string (bstr r.st), .int .i64 r.num, .int .i64 r.day, .slice A r.defs.length c, .string (bstr r.sg.st), .int .i64 r.sg.kind, .int .i64 r.sg.num, .int .i64 r.sg.iss, .int .i64 r.sg.own, .int .i64 r.sg.key, .int .i64 r.sg.fr, .int .i64 r.sg.un, .int .i64 r.sg.to, .int .i64 r.sg.e, .int .i64 r.sg.s, .int .i64 r.e, .int .i64 r.s] 41)).alloc (.cells #[.slice none 0 0, .slice none 0 0, .slice none 0 0, .slice none 0 0, .slice none 0 0] 31) := ⟨_, rfl⟩
  have e1 : Ext w (w.alloc (stO s0 s1 s2 s3 s4)) := (Below.refl _ _).alloc (Nat.le_refl _) _
  have e2 : Ext (w.alloc (stO s0 s1 s2 s3 s4)) ((w.alloc (stO s0 s1 s2 s3 s4)).alloc (.cells #[.string (bstr r.st), .int .i64 r.num, .int .i64 r.day, .slice A r.defs.length c, .string (bstr r.sg.st), .int .i64 r.sg.kind, .int .i64 r.sg.num, .int .i64 r.sg.iss, .int .i64 r.sg.own, .int .i64 r.sg.key, .int .i64 r.sg.fr, .int .i64 r.sg.un, .int .i64 r.sg.to, .int .i64 r.sg.e, .int .i64 r.sg.s, .int .i64 r.e, .int .i64 r.s] 41)) := (Below.refl _ _).alloc (Nat.le_refl _) _
  have e3 : Ext ((w.alloc (stO s0 s1 s2 s3 s4)).alloc (.cells #[.string (bstr r.st), .int .i64 r.num, .int .i64 r.day, .slice A r.defs.length c, .string (bstr r.sg.st), .int .i64 r.sg.kind, .int .i64 r.sg.num, .int .i64 r.sg.iss, .int .i64 r.sg.own, .int .i64 r.sg.key, .int .i64 r.sg.fr, .int .i64 r.sg.un, .int .i64 r.sg.to, .int .i64 r.sg.e, .int .i64 r.sg.s, .int .i64 r.e, .int .i64 r.s] 41)) wz := by rw [hwz]; exact (Below.refl _ _).alloc (Nat.le_refl _) _
  have hsz : wz.heap.size = w.heap.size + 1 + 1 + 1 := by rw [hwz]; simp
  have z1 : wz.heap[w.heap.size]? = some (.cells (stRow s0 s1 s2 s3 s4) 31 (0, 0)) := ((e2.tr e3).block _ (by simp)).trans (heap_alloc_new' w _)
  have z2 : DvAt wz (w.heap.size + 1) r (.slice A r.defs.length c) := by
    have := (DvAt.new (w.alloc (stO s0 s1 s2 s3 s4)) r (.slice A r.defs.length c)).ext e3
    rwa [show (w.alloc (stO s0 s1 s2 s3 s4)).heap.size = w.heap.size + 1 by simp] at this
  have z3 : wz.heap[w.heap.size + 1 + 1]? = some (.cells #[.slice none 0 0, .slice none 0 0, .slice none 0 0, .slice none 0 0, .slice none 0 0] 31 (0, 0)) := by
    have := heap_alloc_new' ((w.alloc (stO s0 s1 s2 s3 s4)).alloc (.cells #[.string (bstr r.st), .int .i64 r.num, .int .i64 r.day, .slice A r.defs.length c, .string (bstr r.sg.st), .int .i64 r.sg.kind, .int .i64 r.sg.num, .int .i64 r.sg.iss, .int .i64 r.sg.own, .int .i64 r.sg.key, .int .i64 r.sg.fr, .int .i64 r.sg.un, .int .i64 r.sg.to, .int .i64 r.sg.e, .int .i64 r.sg.s, .int .i64 r.e, .int .i64 r.s] 41)) (.cells #[.slice none 0 0, .slice none 0 0, .slice none 0 0, .slice none 0 0, .slice none 0 0] 31)
    rw [show ((w.alloc (stO s0 s1 s2 s3 s4)).alloc (.cells #[.string (bstr r.st), .int .i64 r.num, .int .i64 r.day, .slice A r.defs.length c, .string (bstr r.sg.st), .int .i64 r.sg.kind, .int .i64 r.sg.num, .int .i64 r.sg.iss, .int .i64 r.sg.own, .int .i64 r.sg.key, .int .i64 r.sg.fr, .int .i64 r.sg.un, .int .i64 r.sg.to, .int .i64 r.sg.e, .int .i64 r.sg.s, .int .i64 r.e, .int .i64 r.s] 41)).heap.size = w.heap.size + 1 + 1 by simp] at this
    rw [hwz]
    exact this
  have EZ := Lib.hid (e1.tr (e2.tr e3))
  have HCS := Lib.hid (fun W (e : Ext w W) => cstore_any s0 s1 s2 s3 s4 S W (hS.ext e) hB)
  have HBD := Lib.hid (fun W (e : Ext w W) => dbody_any r (.slice A r.defs.length c) W (RdK.ext hv e) hr hg hs)
  have HRT := Lib.hid (fun W (e : Ext w W) => roots_any s0 s1 s2 s3 s4 S W (RdK.ext hS.r0 e) (hS.r2.ext e) hB)
  have HSN := Lib.hid (fun (v1 u : Value) W (e : Ext w W) (k1 : RdN W v1 (rootsT S)) (ku : Rd W u (bvs (byD r))) => msigned_any r.sg r.day day r.e r.s W k1 (RdK.ext hS.r1 e : RdN W (slV s1) S.pool) ku (by have := byD_len r; omega) hB.roots hB.p hg (by have := hB.rlen; have := hB.lp; omega) (E.below e))
  have HPL := Lib.hid (fun (W : World) (e : Ext w W) (hc : W.cell? ⟨w.heap.size + 1, 0, none⟩ = some (.string (bstr r.st))) => dplaceIx_any (v := slV s4) r.st (w.heap.size + 1) W (hS.r4.ext e) hc)
  have HCR := Lib.hid (fun W (e : Ext w W) => cdev_any r (.slice A r.defs.length c) W (RdK.ext hv e) hl)
  have HR3 := Lib.hid hS.r4
  have HS := Lib.hid z1
  have HLS := Lib.hid hB.ls
  obtain ⟨ac, hac⟩ : ∃ ac, accD S r day = ac := ⟨_, rfl⟩
  rw [hac]
  have HAC := Lib.hid hac
  have HZ2 := Lib.hid z2
  have HZ3 := Lib.hid z3
  have HZ1 := Lib.hid z1
  clear hS hv hs hl hr hg E e1 e2 e3 z1 z2 z3 hac hB
  unfold storeV dvV dvCells
  go_enter Tryz.func11, Tryz.ntmps11
  go_upto_region 1 with fail
  rw [← hwz]
  clear hwz
  go_wp2_with (refine wpList_load_row rfl 31 _ rfl w.heap.size rfl 31 (stRow s0 s1 s2 s3 s4) (0, 0) _ HS.out Tryz.underlying31 rfl info_st ?_)
  refine (HCS.out wz EZ.out).mono ?_
  rintro e w1 ⟨t0, t1, t2, t3, t4, rfl, own, b1⟩
  obtain ⟨wo, hwo⟩ : ∃ wo, wo = w1.alloc (.cells #[.slice t0.1 t0.2.1 t0.2.2, .slice t1.1 t1.2.1 t1.2.2, .slice t2.1 t2.2.1 t2.2.2, .slice t3.1 t3.2.1 t3.2.2, .slice t4.1 t4.2.1 t4.2.2] 31) := ⟨_, rfl⟩
  have eo : Ext w1 wo := by rw [hwo]; exact (Below.refl _ _).alloc (Nat.le_refl _) _
  have ho : wo.heap[w1.heap.size]? = some (.cells (stRow t0 t1 t2 t3 t4) 31 (0, 0)) := by rw [hwo]; exact heap_alloc_new' w1 _
  have b9 := b1.tr eo
  obtain ⟨g, hg⟩ : ∃ g, w1.heap.size = g := ⟨_, rfl⟩
  have Z1 : Hid (AcD w wo s0 s1 s2 s3 s4 t0 t1 t2 t3 t4 S r (.slice A r.defs.length c) g) := Lib.hid ⟨EZ.out.tr b9, (b9.block _ (block_lt HZ1.out)).trans HZ1.out, HZ2.out.ext b9, (b9.block _ (block_lt HZ3.out)).trans HZ3.out, by rw [← hg]; exact ho, (own.ext eo).mono (by omega), by have := b1.size; omega⟩
  clear eo ho b1 b9 own HZ1 HZ2 HZ3 HS EZ HCS hsz
  unfold storeV
  go_upto_region 2 with fail
  rw [← hwo]
  try rw [hg]
  clear hwo hg
  have HR := Lib.hid Z1.out.r.row
  go_wp2_with (refine wpList_load_row rfl 41 _ rfl (w.heap.size + 1) rfl 41 (dvCells r (.slice A r.defs.length c)).toArray (0, 0) _ HR.out Tryz.underlying41 rfl info_dv ?_)
  refine (HBD.out wo Z1.out.ext).mono ?_
  rintro e w2 ⟨A1, n1, c1, rfl, hn1, r1, b1⟩
  have Z2 := Lib.hid (Z1.out.tr b1)
  have HRB := Lib.hid r1
  clear b1 HR Z1 HBD hn1 r1
  by_cases hc : ckD r = 0
  case neg =>
    have HA := Lib.hid (show ac = (S, ckD r) by rw [← HAC.out]; exact if_pos hc)
    have hb : (ckD r != 0) = true := by simpa using hc
    clear hc
    have HO := Lib.hid Z2.out.o
    have HZ := Lib.hid Z2.out.z
    have H1 := Lib.hid (stRow_one t0 t1 t2 t3 t4)
    go_wp2_with (first | (refine wpList_load_row rfl 31 _ rfl g rfl 31 (stRow t0 t1 t2 t3 t4) (0, 0) _ HO.out Tryz.underlying31 rfl info_st ?_) | (refine wpRow_store rfl 31 _ _ rfl rfl (w.heap.size + 1 + 1) (stRow t0 t1 t2 t3 t4) rfl rfl 31 #[.slice none 0 0, .slice none 0 0, .slice none 0 0, .slice none 0 0, .slice none 0 0] HZ.out info_st rfl H1.out ?_))
    have HY := Lib.hid (row_at (cells := stRow t0 t1 t2 t3 t4) HZ.out)
    refine bodyPost_ret (v := .tuple #[.agg (stRow t0 t1 t2 t3 t4), .int .i64 (ckD r)]) ?_ rfl ⟨t0, t1, t2, t3, t4, by rw [HA.out]; rfl, by rw [HA.out]; exact (Z2.out.fin _).2, (Z2.out.fin _).1⟩
    simp [results, Tryz.results11, asAddr, run_loadVar_row _ (w.heap.size + 1 + 1) 31 31 (stRow t0 t1 t2 t3 t4) (0, 0) _ HY.out Tryz.underlying31 rfl info_st]
  have HK := Lib.hid hc
  rw [hc]
  clear hc
  obtain ⟨sv, hsv⟩ : ∃ sv, sgnD S r day = sv := ⟨_, rfl⟩
  have HSN2 := Lib.hid (fun v1 u W e k1 ku => (show Calls _ _ _ W (RetQ W (.int .i64 sv)) from by have h := HSN.out v1 u W e k1 ku; rw [show sndE (rootsT S) S.pool r.sg r.day day (byD r) r.e r.s = sv from hsv] at h; exact h))
  have HSV := Lib.hid hsv
  clear hsv HSN
  go_upto_region 5 with fail
  refine Gd.wp_region_X 13 (by kernel_rfl) (by kernel_rfl) ?_
  simp only [List.take_succ_cons, List.take_zero, List.drop_succ_cons, List.drop_zero]
  intro wq hw1
  have LL : ∀ m : Lt wq, Ext w2 m.1 := fun m => hw1.tr m.2
  have EX : ∀ m : Lt wq, Ext w m.1 := fun m => (Z2.out.tr (LL m)).ext
  have z0 : ∀ m : Lt wq, m.1.cell? ⟨w.heap.size, 0, none⟩ = some (.slice s0.1 s0.2.1 s0.2.2) := fun m => by rw [cell_of_row _ _ 0 _ _ _ (Z2.out.tr (LL m)).s]; rfl
  have z1 : ∀ m : Lt wq, m.1.cell? ⟨w.heap.size, 1, none⟩ = some (.slice s1.1 s1.2.1 s1.2.2) := fun m => by rw [cell_of_row _ _ 1 _ _ _ (Z2.out.tr (LL m)).s]; rfl
  have z2 : ∀ m : Lt wq, m.1.cell? ⟨w.heap.size, 2, none⟩ = some (.slice s2.1 s2.2.1 s2.2.2) := fun m => by rw [cell_of_row _ _ 2 _ _ _ (Z2.out.tr (LL m)).s]; rfl
  have z3 : ∀ m : Lt wq, m.1.cell? ⟨w.heap.size, 3, none⟩ = some (.slice s3.1 s3.2.1 s3.2.2) := fun m => by rw [cell_of_row _ _ 3 _ _ _ (Z2.out.tr (LL m)).s]; rfl
  have z4 : ∀ m : Lt wq, m.1.cell? ⟨w.heap.size, 4, none⟩ = some (.slice s4.1 s4.2.1 s4.2.2) := fun m => by rw [cell_of_row _ _ 4 _ _ _ (Z2.out.tr (LL m)).s]; rfl
  have zl : ∀ m : Lt wq, w.heap.size < m.1.heap.size := fun m => block_lt (Z2.out.tr (LL m)).s
  have r2 := fun m : Lt wq => (Z2.out.tr (LL m)).r.c2
  have r4 := fun m : Lt wq => (Z2.out.tr (LL m)).r.c4
  have r5 := fun m : Lt wq => (Z2.out.tr (LL m)).r.c5
  have r6 := fun m : Lt wq => (Z2.out.tr (LL m)).r.c6
  have r7 := fun m : Lt wq => (Z2.out.tr (LL m)).r.c7
  have r8 := fun m : Lt wq => (Z2.out.tr (LL m)).r.c8
  have r9 := fun m : Lt wq => (Z2.out.tr (LL m)).r.c9
  have r10 := fun m : Lt wq => (Z2.out.tr (LL m)).r.c10
  have r11 := fun m : Lt wq => (Z2.out.tr (LL m)).r.c11
  have r12 := fun m : Lt wq => (Z2.out.tr (LL m)).r.c12
  have r13 := fun m : Lt wq => (Z2.out.tr (LL m)).r.c13
  have r14 := fun m : Lt wq => (Z2.out.tr (LL m)).r.c14
  have r15 := fun m : Lt wq => (Z2.out.tr (LL m)).r.c15
  have r16 := fun m : Lt wq => (Z2.out.tr (LL m)).r.c16
  have rl := fun m : Lt wq => (Z2.out.tr (LL m)).r.lt
  repeat (refine Gd.wpX_pureP rfl fun K hK => ?_; go_big_quiet_op; refine hK _ ?_; clear hK K)
  refine Gd.wpX_callF (Gd.gR rfl) (GRn (rootsT S)) (stable_GRn _) (fun _ => [.agg #[.slice s0.1 s0.2.1 s0.2.2, .slice s1.1 s1.2.1 s1.2.2, .slice s2.1 s2.2.1 s2.2.2, .slice s3.1 s3.2.1 s3.2.2, .slice s4.1 s4.2.1 s4.2.2]]) rfl rfl rfl rfl rfl (by kernel_rfl) rfl (fun _ => rfl) (fun m f hf => (HRT.out m.1 (EX m)).mono fun e w'' ⟨h1, A', c', h2, h3⟩ => ⟨_, h2, h1, A', c', rfl, h3⟩) ?_
  simp only [Act.put, List.setIfInBounds_toArray, List.set_cons_zero, List.set_cons_succ]
  repeat (refine Gd.wpX_pureP rfl fun K hK => ?_; go_big_quiet_op; refine hK _ ?_; clear hK K)
  refine Gd.wpX_callK (Gd.gR rfl) (.int .i64 sv) (fun f => [f 25, .slice s1.1 s1.2.1 s1.2.2, ncV r.sg, .int .i64 r.day, .int .i64 day, .slice A1 n1 c1, .agg #[.int .i64 r.e, .int .i64 r.s]]) rfl rfl rfl rfl rfl (by kernel_rfl) rfl (fun _ => rfl) (fun m f hf => ?_) ?_
  · obtain ⟨A', c', e25, h25⟩ := hf 25 _ rfl rfl
    rw [e25]
    exact (HSN2.out _ _ m.1 (EX m) h25 (HRB.out.ext (LL m))).mono fun e w'' ⟨h1, h2⟩ => ⟨h1, h2⟩
  simp only [Act.put, List.setIfInBounds_toArray, List.set_cons_zero, List.set_cons_succ]
  refine Gd.wpX_endL (fun m f hf => ?_)
  simp only [fillH]
  simp only [Act.put, List.setIfInBounds_toArray, List.set_cons_zero, List.set_cons_succ]
  have Z3 := Lib.hid (Z2.out.tr (LL m))
  clear hf hw1 LL EX z0 z1 z2 z3 z4 zl r2 r4 r5 r6 r7 r8 r9 r10 r11 r12 r13 r14 r15 r16 rl Z2 HRT HSN2 HRB
  generalize m.1 = w3 at *
  generalize f 25 = f25 at *
  clear m f
  show wpList _ _ _ _ _ _
  by_cases d2 : sv = 0
  case neg =>
    have HA := Lib.hid (show ac = (S, sv) by rw [← HAC.out]; unfold accD; rw [if_neg (not_not_intro HK.out), HSV.out]; exact if_pos d2)
    have hb : (sv != 0) = true := by simpa using d2
    clear d2
    have HO := Lib.hid Z3.out.o
    have HZ := Lib.hid Z3.out.z
    have H1 := Lib.hid (stRow_one t0 t1 t2 t3 t4)
    go_wp2_with (first | (refine wpList_load_row rfl 31 _ rfl g rfl 31 (stRow t0 t1 t2 t3 t4) (0, 0) _ HO.out Tryz.underlying31 rfl info_st ?_) | (refine wpRow_store rfl 31 _ _ rfl rfl (w.heap.size + 1 + 1) (stRow t0 t1 t2 t3 t4) rfl rfl 31 #[.slice none 0 0, .slice none 0 0, .slice none 0 0, .slice none 0 0, .slice none 0 0] HZ.out info_st rfl H1.out ?_))
    have HY := Lib.hid (row_at (cells := stRow t0 t1 t2 t3 t4) HZ.out)
    refine bodyPost_ret (v := .tuple #[.agg (stRow t0 t1 t2 t3 t4), .int .i64 sv]) ?_ rfl ⟨t0, t1, t2, t3, t4, by rw [HA.out]; rfl, by rw [HA.out]; exact (Z3.out.fin _).2, (Z3.out.fin _).1⟩
    simp [results, Tryz.results11, asAddr, run_loadVar_row _ (w.heap.size + 1 + 1) 31 31 (stRow t0 t1 t2 t3 t4) (0, 0) _ HY.out Tryz.underlying31 rfl info_st]
  subst d2
  go_upto_region 8 with fail
  have k2 : w3.cell? ⟨w.heap.size, 4, none⟩ = some (.slice s4.1 s4.2.1 s4.2.2) := by rw [cell_of_row _ _ 4 _ _ _ Z3.out.s]; rfl
  have kl := block_lt Z3.out.s
  go_wp2_with fail
  refine (HPL.out w3 Z3.out.ext Z3.out.r.c0).mono ?_
  rintro e w4 ⟨rfl, b4⟩
  have Z4 := Lib.hid (Z3.out.tr b4)
  clear b4 k2 kl Z3 HPL
  have HBR := Lib.hid (show ac = match S.ds.findIdx? (fun t => decide (t.st = r.st)) with
    | some i => if r.num ≤ (S.ds.getD i zeroD).num then (S, 67) else (⟨S.roots, S.pool, S.ms, S.rs, S.ds.set i r⟩, 0)
    | none => if 16 ≤ S.ds.length then (S, 72) else (⟨S.roots, S.pool, S.ms, S.rs, S.ds ++ [r]⟩, 0) by
      rw [← HAC.out]; unfold accD; rw [if_neg (not_not_intro HK.out), HSV.out, if_neg (fun q => q rfl)] <;> rfl)
  clear HAC HSV
  obtain ⟨A3, n3, c3, e3, hn3, hnc3, hcm3, hel3⟩ := HR3.out.at_
  obtain ⟨sA3, sn3, sc3⟩ := s4
  unfold slV at e3
  injection e3 with e31 e32 e33
  simp only at e31 e32 e33
  subst e31 e32 e33 hn3
  unfold maxLen at hcm3
  have HEL := Lib.hid hel3
  clear hel3
  cases hf : S.ds.findIdx? (fun t => decide (t.st = r.st)) with
  | none =>
    as_aux_lemma =>
      have HP := show plD S.ds r.st = -1 by unfold plD; rw [hf]
      rw [HP]
      rw [hf] at HBR
      clear HP hf
      go_upto_region 10 with fail
      refine Gd.wp_region_X 12 (by kernel_rfl) (by kernel_rfl) ?_
      simp only [List.take_succ_cons, List.take_zero, List.drop_succ_cons, List.drop_zero]
      intro w1 hw1
      repeat (first | (refine Gd.wpX_skip (by exact ⟨_, rfl, rfl, rfl⟩) rfl rfl ?_; simp only [Act.put, List.setIfInBounds_toArray, List.set_cons_zero, List.set_cons_succ]) | (refine Gd.wpX_pureP rfl fun K hK => ?_; go_big_quiet_op; refine hK _ ?_; clear hK K))
      refine Gd.wpX_end0 (fun m => ?_)
      have Z5 := Lib.hid (Z4.out.tr (hw1.tr m.2))
      clear hw1 Z4
      generalize m.1 = w5 at *
      show wpList _ _ _ _ _ _
      have s3c : w5.cell? ⟨w.heap.size, 4, none⟩ = some (.slice sA3 S.ds.length sc3) := by rw [cell_of_row _ _ 4 _ _ _ Z5.out.s]; rfl
      have sl := block_lt Z5.out.s
      by_cases d3 : 16 ≤ S.ds.length
      case pos =>
        have HA := Lib.hid (show ac = (S, 72) by rw [HBR.out]; exact if_pos d3)
        have hd : (16 : Int) ≤ (S.ds.length : Int) := by omega
        go_upto_region 15 with fail
        clear s3c sl hd d3
        have HO := Lib.hid Z5.out.o
        have HZ := Lib.hid Z5.out.z
        have H1 := Lib.hid (stRow_one t0 t1 t2 t3 t4)
        go_wp2_with (first | (refine wpList_load_row rfl 31 _ rfl g rfl 31 (stRow t0 t1 t2 t3 t4) (0, 0) _ HO.out Tryz.underlying31 rfl info_st ?_) | (refine wpRow_store rfl 31 _ _ rfl rfl (w.heap.size + 1 + 1) (stRow t0 t1 t2 t3 t4) rfl rfl 31 #[.slice none 0 0, .slice none 0 0, .slice none 0 0, .slice none 0 0, .slice none 0 0] HZ.out info_st rfl H1.out ?_))
        have HY := Lib.hid (row_at (cells := stRow t0 t1 t2 t3 t4) HZ.out)
        refine bodyPost_ret (v := .tuple #[.agg (stRow t0 t1 t2 t3 t4), .int .i64 72]) ?_ rfl ⟨t0, t1, t2, t3, t4, by rw [HA.out]; rfl, by rw [HA.out]; exact (Z5.out.fin _).2, (Z5.out.fin _).1⟩
        simp [results, Tryz.results11, asAddr, run_loadVar_row _ (w.heap.size + 1 + 1) 31 31 (stRow t0 t1 t2 t3 t4) (0, 0) _ HY.out Tryz.underlying31 rfl info_st]
      have HA := Lib.hid (show ac = (⟨S.roots, S.pool, S.ms, S.rs, S.ds ++ [r]⟩, 0) by rw [HBR.out]; exact if_neg d3)
      have hd : ¬ (16 : Int) ≤ (S.ds.length : Int) := by omega
      have HLN := Lib.hid (show S.ds.length ≤ 15 by omega)
      go_upto_region 9 with fail
      clear s3c sl hd d3
      obtain ⟨ps, hps, OP⟩ := Z5.out.own.o4
      have hnt : t4.2.1 = ps.length := by
        obtain ⟨A', n', c', e', hn', -⟩ := OP.1
        unfold slV at e'
        injection e' with _ e2 _
        rw [e2]
        rw [kD.cells_len] at hn'
        exact Nat.eq_of_mul_eq_mul_right kD.pos hn'
      have HLX := Lib.hid (show t4.2.1 * 17 = (kD.cells ps).length by rw [hnt, kD.cells_len]; rfl)
      have HL15 := Lib.hid (show t4.2.1 ≤ 15 by rw [hnt]; have h1 := congrArg List.length hps; rw [List.length_map] at h1; have := HLN.out; omega)
      have k1 := rowOf_bd OP.1
      have HOP := Lib.hid OP
      have HPS := Lib.hid hps
      clear hps OP hnt
      refine Gr.wp_region_X (r := (apD (w.heap.size + 1 + 1 + 1) (slV t4) t4.2.1 (kD.cells ps) r)) 7 (by kernel_rfl) (by kernel_rfl) ?_
      simp only [List.take_succ_cons, List.take_zero, List.drop_succ_cons, List.drop_zero]
      intro wq hw1
      have JL : ∀ m : (apD (w.heap.size + 1 + 1 + 1) (slV t4) t4.2.1 (kD.cells ps) r).Lt wq, ApRelD (w.heap.size + 1 + 1 + 1) (slV t4) t4.2.1 (kD.cells ps) r w5 m.1 := fun m => ((apD (w.heap.size + 1 + 1 + 1) (slV t4) t4.2.1 (kD.cells ps) r).tr hw1 m.2) HOP.out.1
      have JK := fun m : (apD (w.heap.size + 1 + 1 + 1) (slV t4) t4.2.1 (kD.cells ps) r).Lt wq => Z5.out.keep HOP.out (JL m).g
      have JO : ∀ m : (apD (w.heap.size + 1 + 1 + 1) (slV t4) t4.2.1 (kD.cells ps) r).Lt wq, OwnK m.1 (w.heap.size + 1 + 1 + 1) 41 17 (slV t4) (kD.cells ps) := fun m => (JL m).p1 HOP.out.1
      have JS : ∀ m : (apD (w.heap.size + 1 + 1 + 1) (slV t4) t4.2.1 (kD.cells ps) r).Lt wq, (w.heap.size + 1 + 1 + 1) ≤ m.1.heap.size := fun m => Nat.le_trans Z5.out.hg (Nat.le_of_lt (block_lt (JK m).1))
      have ko : ∀ m : (apD (w.heap.size + 1 + 1 + 1) (slV t4) t4.2.1 (kD.cells ps) r).Lt wq, m.1.cell? ⟨g, 4, none⟩ = some (.slice t4.1 t4.2.1 t4.2.2) := fun m => by rw [cell_of_row _ _ 4 _ _ _ (JK m).1]; rfl
      have kg : ∀ m : (apD (w.heap.size + 1 + 1 + 1) (slV t4) t4.2.1 (kD.cells ps) r).Lt wq, g < m.1.heap.size := fun m => block_lt (JK m).1
      have r0 := fun m : (apD (w.heap.size + 1 + 1 + 1) (slV t4) t4.2.1 (kD.cells ps) r).Lt wq => (JK m).2.1.c0
      have r1 := fun m : (apD (w.heap.size + 1 + 1 + 1) (slV t4) t4.2.1 (kD.cells ps) r).Lt wq => (JK m).2.1.c1
      have r2 := fun m : (apD (w.heap.size + 1 + 1 + 1) (slV t4) t4.2.1 (kD.cells ps) r).Lt wq => (JK m).2.1.c2
      have r3 := fun m : (apD (w.heap.size + 1 + 1 + 1) (slV t4) t4.2.1 (kD.cells ps) r).Lt wq => (JK m).2.1.c3
      have r4 := fun m : (apD (w.heap.size + 1 + 1 + 1) (slV t4) t4.2.1 (kD.cells ps) r).Lt wq => (JK m).2.1.c4
      have r5 := fun m : (apD (w.heap.size + 1 + 1 + 1) (slV t4) t4.2.1 (kD.cells ps) r).Lt wq => (JK m).2.1.c5
      have r6 := fun m : (apD (w.heap.size + 1 + 1 + 1) (slV t4) t4.2.1 (kD.cells ps) r).Lt wq => (JK m).2.1.c6
      have r7 := fun m : (apD (w.heap.size + 1 + 1 + 1) (slV t4) t4.2.1 (kD.cells ps) r).Lt wq => (JK m).2.1.c7
      have r8 := fun m : (apD (w.heap.size + 1 + 1 + 1) (slV t4) t4.2.1 (kD.cells ps) r).Lt wq => (JK m).2.1.c8
      have r9 := fun m : (apD (w.heap.size + 1 + 1 + 1) (slV t4) t4.2.1 (kD.cells ps) r).Lt wq => (JK m).2.1.c9
      have r10 := fun m : (apD (w.heap.size + 1 + 1 + 1) (slV t4) t4.2.1 (kD.cells ps) r).Lt wq => (JK m).2.1.c10
      have r11 := fun m : (apD (w.heap.size + 1 + 1 + 1) (slV t4) t4.2.1 (kD.cells ps) r).Lt wq => (JK m).2.1.c11
      have r12 := fun m : (apD (w.heap.size + 1 + 1 + 1) (slV t4) t4.2.1 (kD.cells ps) r).Lt wq => (JK m).2.1.c12
      have r13 := fun m : (apD (w.heap.size + 1 + 1 + 1) (slV t4) t4.2.1 (kD.cells ps) r).Lt wq => (JK m).2.1.c13
      have r14 := fun m : (apD (w.heap.size + 1 + 1 + 1) (slV t4) t4.2.1 (kD.cells ps) r).Lt wq => (JK m).2.1.c14
      have r15 := fun m : (apD (w.heap.size + 1 + 1 + 1) (slV t4) t4.2.1 (kD.cells ps) r).Lt wq => (JK m).2.1.c15
      have r16 := fun m : (apD (w.heap.size + 1 + 1 + 1) (slV t4) t4.2.1 (kD.cells ps) r).Lt wq => (JK m).2.1.c16
      have rl := fun m : (apD (w.heap.size + 1 + 1 + 1) (slV t4) t4.2.1 (kD.cells ps) r).Lt wq => (JK m).2.1.lt
      have HJL := Lib.hid JL
      have HJK := Lib.hid JK
      have HJO := Lib.hid JO
      have HJS := Lib.hid JS
      clear JL JK JO JS
      repeat (first | (refine Gr.wpX_nil (Gd.gR rfl) _ rfl rfl rfl rfl rfl ?_; simp only [Act.put, List.setIfInBounds_toArray, List.set_cons_zero, List.set_cons_succ]) | (refine Gr.wpX_pureP rfl fun K hK => ?_; go_big_quiet_op; refine hK _ ?_; clear hK K))
      refine Gr.wpX_callF (Gd.gR rfl) (GvD (w.heap.size + 1 + 1 + 1) (slV t4) (kD.cells ps) r) (stable_GvD _ _ _ _ _) (fun _ => [.agg #[.string (bstr r.st), .int .i64 r.num, .int .i64 r.day, .slice A r.defs.length c, .string (bstr r.sg.st), .int .i64 r.sg.kind, .int .i64 r.sg.num, .int .i64 r.sg.iss, .int .i64 r.sg.own, .int .i64 r.sg.key, .int .i64 r.sg.fr, .int .i64 r.sg.un, .int .i64 r.sg.to, .int .i64 r.sg.e, .int .i64 r.sg.s, .int .i64 r.e, .int .i64 r.s]]) rfl rfl rfl rfl rfl (by kernel_rfl) rfl (fun _ => rfl) (fun m f hf => (HCR.out m.1 (HJK.out m).2.2).mono fun e w'' ⟨A6, n6, c6, h1, h2, h3⟩ => ⟨_, h1, (apD (w.heap.size + 1 + 1 + 1) (slV t4) t4.2.1 (kD.cells ps) r).ext h3, (HJO.out m).ext h3, A6, n6, c6, rfl, h2.mono (HJS.out m)⟩) ?_
      simp only [Act.put, List.setIfInBounds_toArray, List.set_cons_zero, List.set_cons_succ]
      refine Gr.wpX_buildSL (Gd.gR rfl) (GlD (w.heap.size + 1 + 1 + 1) w5.heap.size (slV t4) (kD.cells ps) r) (stable_GlD k1 _ _ _) (fun f => [(0, f 48)]) rfl rfl rfl rfl rfl (fun _ => rfl) (fun m f hf => ?_) ?_
      · obtain ⟨o, A6, n6, c6, e6, O6⟩ := hf 48 _ rfl rfl
        rw [e6]
        have eA : Ext m.1 (m.1.alloc (.cells (dvCells r (.slice A6 n6 c6)).toArray 41)) := (Below.refl _ _).alloc (Nat.le_refl _) _
        exact ⟨_, _, run_oneDv m.1 r A6 n6 c6, (apD (w.heap.size + 1 + 1 + 1) (slV t4) t4.2.1 (kD.cells ps) r).ext eA, o.ext eA, _, _, rfl, (HJL.out m).g.size, heap_alloc_new' _ _, O6.ext eA⟩
      simp only [Act.put, List.setIfInBounds_toArray, List.set_cons_zero, List.set_cons_succ]
      refine Gr.wpX_appL (Gd.gR rfl) (GaD (w.heap.size + 1 + 1 + 1) (slV t4) t4.2.1 (kD.cells ps) r) (stable_GaD _ _ _ _ _) (fun _ => .slice t4.1 t4.2.1 t4.2.2) (fun f => f 49) rfl rfl rfl rfl rfl rfl (fun _ => rfl) (fun _ => rfl) (fun m f hf => ?_) ?_
      · have h41 : GlD (w.heap.size + 1 + 1 + 1) w5.heap.size (slV t4) (kD.cells ps) r (f 49) m.1 := hf 49 _ rfl rfl
        obtain ⟨u, R6, U6⟩ := h41.rd
        obtain ⟨A8, c8, w8, q1, q2, q3⟩ := run_apD h41.1 HLX.out R6 U6 (by have := HL15.out; omega) (HJS.out m)
        exact ⟨_, w8, q1, fun _ => q2, q2.p1 h41.1, A8, c8, rfl, q3⟩
      simp only [Act.put, List.setIfInBounds_toArray, List.set_cons_zero, List.set_cons_succ]
      repeat (first | (refine Gr.wpX_nil (Gd.gR rfl) _ rfl rfl rfl rfl rfl ?_; simp only [Act.put, List.setIfInBounds_toArray, List.set_cons_zero, List.set_cons_succ]) | (refine Gr.wpX_pureP rfl fun K hK => ?_; go_big_quiet_op; refine hK _ ?_; clear hK K))
      refine Gr.wpX_endL (fun m f hf => ?_)
      obtain ⟨o9, A8, c8, e30, u, o8, U8⟩ := hf 50 _ rfl
      simp only [fillH]
      simp only [Act.put, List.setIfInBounds_toArray, List.set_cons_zero, List.set_cons_succ]
      rw [e30]
      obtain ⟨q3, ql, qf, z9⟩ := AcD.app Z5.out HOP.out HPS.out U8 o8 (HJL.out m).g
      have HZ9 := Lib.hid z9
      clear hf e30 hw1 HJL HJK HJO HJS ko kg r0 r1 r2 r3 r4 r5 r6 r7 r8 r9 r10 r11 r12 r13 r14 r15 r16 rl o9 o8 U8 z9 k1 HOP
      generalize m.1 = w8 at *
      generalize f 48 = f48 at *
      generalize f 49 = f49 at *
      clear m f
      show wpList _ _ _ _ _ _
      have HO := Lib.hid HZ9.out.o
      have HZ := Lib.hid HZ9.out.z
      have H1 := Lib.hid (stRow_one t0 t1 t2 t3 (A8, t4.2.1 + 1, c8))
      go_wp2_with (first | (refine wpList_load_row rfl 31 _ rfl g rfl 31 (stRow t0 t1 t2 t3 (A8, t4.2.1 + 1, c8)) (0, 0) _ HO.out Tryz.underlying31 rfl info_st ?_) | (refine wpRow_store rfl 31 _ _ rfl rfl (w.heap.size + 1 + 1) (stRow t0 t1 t2 t3 (A8, t4.2.1 + 1, c8)) rfl rfl 31 #[.slice none 0 0, .slice none 0 0, .slice none 0 0, .slice none 0 0, .slice none 0 0] HZ.out info_st rfl H1.out ?_))
      have HY := Lib.hid (row_at (cells := stRow t0 t1 t2 t3 (A8, t4.2.1 + 1, c8)) HZ.out)
      refine bodyPost_ret (v := .tuple #[.agg (stRow t0 t1 t2 t3 (A8, t4.2.1 + 1, c8)), .int .i64 0]) ?_ rfl ⟨t0, t1, t2, t3, (A8, t4.2.1 + 1, c8), by rw [HA.out]; rfl, by rw [HA.out]; exact (HZ9.out.fin _).2, (HZ9.out.fin _).1⟩
      simp [results, Tryz.results11, asAddr, run_loadVar_row _ (w.heap.size + 1 + 1) 31 31 (stRow t0 t1 t2 t3 (A8, t4.2.1 + 1, c8)) (0, 0) _ HY.out Tryz.underlying31 rfl info_st]
  | some i =>
    as_aux_lemma =>
      have HP := show plD S.ds r.st = (i : Int) by unfold plD; rw [hf]
      rw [HP]
      rw [hf] at HBR
      have hil : i < S.ds.length := (List.findIdx?_eq_some_iff_getElem.1 hf).1
      clear HP hf
      obtain ⟨t, ht⟩ : ∃ t, S.ds[i]? = some t := ⟨_, List.getElem?_eq_getElem hil⟩
      have HG := Lib.hid (show S.ds.getD i zeroD = t by rw [List.getD_eq_getElem?_getD, ht]; rfl)
      obtain ⟨b, o, rfl, hbl, u, hcell, hu⟩ := HEL.out i t ht
      have hn1 : w.cell? ⟨b, o + i * 17 + 1, none⟩ = some (.int .i64 t.num) := by
        have := hcell 1 _ rfl
        rwa [← Nat.add_assoc] at this
      have HN1 := Lib.hid (And.intro hbl hn1)
      clear hcell hu ht hn1 hbl
      have wi1 : IntKind.i64.wrap ((i : Int)) = (i : Int) := IntWalk.i64_in _ (by omega)
      have zi1 : (0 : Int) ≤ (i : Int) := by omega
      have li1 : (i : Int) < (S.ds.length : Int) := by omega
      have ti1 : ((i : Int)).toNat = i := by omega
      go_upto_region 10 with fail
      refine Gd.wp_region_X 12 (by kernel_rfl) (by kernel_rfl) ?_
      simp only [List.take_succ_cons, List.take_zero, List.drop_succ_cons, List.drop_zero]
      intro w1 hw1
      have LL : ∀ m : Lt w1, Ext w4 m.1 := fun m => hw1.tr m.2
      have k3 : ∀ m : Lt w1, m.1.cell? ⟨w.heap.size, 4, none⟩ = some (.slice (some ⟨b, o, none⟩) S.ds.length sc3) := fun m => by rw [cell_of_row _ _ 4 _ _ _ (Z4.out.tr (LL m)).s]; rfl
      have k1 : ∀ m : Lt w1, m.1.cell? ⟨b, o + i * 17 + 1, none⟩ = some (.int .i64 t.num) := fun m => ((Z4.out.tr (LL m)).ext.cell (p := ⟨b, o + i * 17 + 1, none⟩) HN1.out.1).trans HN1.out.2
      have kr : ∀ m : Lt w1, m.1.cell? ⟨w.heap.size + 1, 1, none⟩ = some (.int .i64 r.num) := fun m => (Z4.out.tr (LL m)).r.c1
      have kl : ∀ m : Lt w1, w.heap.size + 1 < m.1.heap.size := fun m => (Z4.out.tr (LL m)).r.lt
      have kl0 : ∀ m : Lt w1, w.heap.size < m.1.heap.size := fun m => Nat.lt_of_succ_lt (kl m)
      have kb : ∀ m : Lt w1, b < m.1.heap.size := fun m => Nat.lt_of_lt_of_le HN1.out.1 (Z4.out.tr (LL m)).ext.size
      repeat (first | (refine Gd.wpX_skip (by exact ⟨_, rfl, rfl, rfl⟩) rfl rfl ?_; simp only [Act.put, List.setIfInBounds_toArray, List.set_cons_zero, List.set_cons_succ]) | (refine Gd.wpX_pureP rfl fun K hK => ?_; go_big_quiet_op; refine hK _ ?_; clear hK K))
      refine Gd.wpX_end0 (fun m => ?_)
      have Z5 := Lib.hid (Z4.out.tr (LL m))
      clear hw1 LL k3 k1 kr kl kl0 kb Z4
      generalize m.1 = w5 at *
      show wpList _ _ _ _ _ _
      by_cases d3 : r.num ≤ t.num
      case pos =>
        have HA := Lib.hid (show ac = (S, 67) by rw [HBR.out]; show (if r.num ≤ (S.ds.getD i zeroD).num then _ else _) = _; rw [HG.out]; exact if_pos d3)
        go_upto_region 11 with fail
        clear d3
        have HO := Lib.hid Z5.out.o
        have HZ := Lib.hid Z5.out.z
        have H1 := Lib.hid (stRow_one t0 t1 t2 t3 t4)
        go_wp2_with (first | (refine wpList_load_row rfl 31 _ rfl g rfl 31 (stRow t0 t1 t2 t3 t4) (0, 0) _ HO.out Tryz.underlying31 rfl info_st ?_) | (refine wpRow_store rfl 31 _ _ rfl rfl (w.heap.size + 1 + 1) (stRow t0 t1 t2 t3 t4) rfl rfl 31 #[.slice none 0 0, .slice none 0 0, .slice none 0 0, .slice none 0 0, .slice none 0 0] HZ.out info_st rfl H1.out ?_))
        have HY := Lib.hid (row_at (cells := stRow t0 t1 t2 t3 t4) HZ.out)
        refine bodyPost_ret (v := .tuple #[.agg (stRow t0 t1 t2 t3 t4), .int .i64 67]) ?_ rfl ⟨t0, t1, t2, t3, t4, by rw [HA.out]; rfl, by rw [HA.out]; exact (Z5.out.fin _).2, (Z5.out.fin _).1⟩
        simp [results, Tryz.results11, asAddr, run_loadVar_row _ (w.heap.size + 1 + 1) 31 31 (stRow t0 t1 t2 t3 t4) (0, 0) _ HY.out Tryz.underlying31 rfl info_st]
      have HA := Lib.hid (show ac = (⟨S.roots, S.pool, S.ms, S.rs, S.ds.set i r⟩, 0) by rw [HBR.out]; show (if r.num ≤ (S.ds.getD i zeroD).num then _ else _) = _; rw [HG.out]; exact if_neg d3)
      obtain ⟨ps, hps, OP⟩ := Z5.out.own.o4
      have hpl : ps.length = S.ds.length := by rw [← hps, List.length_map]
      have hip : i < ps.length := by omega
      obtain ⟨gR, cur, hAt, hnt, hnct, hcmt, hBg, hgR⟩ := OwnP.form (show OwnP kD w5 _ (.slice t4.1 t4.2.1 t4.2.2) ps from OP) hip
      have HT3 := Lib.hid (show (Value.slice t4.1 t4.2.1 t4.2.2) = .slice (some ⟨gR, 0, none⟩) ps.length t4.2.2 by rw [hAt, hnt])
      have HOP := Lib.hid OP
      have HGR := Lib.hid hgR
      have HPS := Lib.hid hps
      have HBG := Lib.hid hBg
      unfold maxLen at hcmt
      rw [hnt] at hnct
      clear hps OP hAt hnt hgR hpl hBg
      go_upto_region 13 with fail
      clear d3
      have wi2 : IntKind.i64.wrap ((i : Int)) = (i : Int) := IntWalk.i64_in _ (by omega)
      have zi2 : (0 : Int) ≤ (i : Int) := by omega
      have li2 : (i : Int) < (ps.length : Int) := by omega
      have ti2 : ((i : Int)).toNat = i := by omega
      refine Gd.wp_region_X 6 (by kernel_rfl) (by kernel_rfl) ?_
      simp only [List.take_succ_cons, List.take_zero, List.drop_succ_cons, List.drop_zero]
      intro wq hw1
      have LL : ∀ m : Lt wq, Ext w5 m.1 := fun m => hw1.tr m.2
      have ko : ∀ m : Lt wq, m.1.cell? ⟨g, 4, none⟩ = some (.slice (some ⟨gR, 0, none⟩) ps.length t4.2.2) := fun m => by rw [cell_of_row _ _ 4 _ _ _ (Z5.out.tr (LL m)).o, ← HT3.out]; rfl
      have kg : ∀ m : Lt wq, g < m.1.heap.size := fun m => block_lt (Z5.out.tr (LL m)).o
      have r0 := fun m : Lt wq => (Z5.out.tr (LL m)).r.c0
      have r1 := fun m : Lt wq => (Z5.out.tr (LL m)).r.c1
      have r2 := fun m : Lt wq => (Z5.out.tr (LL m)).r.c2
      have r3 := fun m : Lt wq => (Z5.out.tr (LL m)).r.c3
      have r4 := fun m : Lt wq => (Z5.out.tr (LL m)).r.c4
      have r5 := fun m : Lt wq => (Z5.out.tr (LL m)).r.c5
      have r6 := fun m : Lt wq => (Z5.out.tr (LL m)).r.c6
      have r7 := fun m : Lt wq => (Z5.out.tr (LL m)).r.c7
      have r8 := fun m : Lt wq => (Z5.out.tr (LL m)).r.c8
      have r9 := fun m : Lt wq => (Z5.out.tr (LL m)).r.c9
      have r10 := fun m : Lt wq => (Z5.out.tr (LL m)).r.c10
      have r11 := fun m : Lt wq => (Z5.out.tr (LL m)).r.c11
      have r12 := fun m : Lt wq => (Z5.out.tr (LL m)).r.c12
      have r13 := fun m : Lt wq => (Z5.out.tr (LL m)).r.c13
      have r14 := fun m : Lt wq => (Z5.out.tr (LL m)).r.c14
      have r15 := fun m : Lt wq => (Z5.out.tr (LL m)).r.c15
      have r16 := fun m : Lt wq => (Z5.out.tr (LL m)).r.c16
      have rl := fun m : Lt wq => (Z5.out.tr (LL m)).r.lt
      repeat (refine Gd.wpX_pureP rfl fun K hK => ?_; go_big_quiet_op; refine hK _ ?_; clear hK K)
      refine Gd.wpX_callF (Gd.gR rfl) (GRvD w5.heap.size r) (stable_GRvD _ _) (fun _ => [.agg #[.string (bstr r.st), .int .i64 r.num, .int .i64 r.day, .slice A r.defs.length c, .string (bstr r.sg.st), .int .i64 r.sg.kind, .int .i64 r.sg.num, .int .i64 r.sg.iss, .int .i64 r.sg.own, .int .i64 r.sg.key, .int .i64 r.sg.fr, .int .i64 r.sg.un, .int .i64 r.sg.to, .int .i64 r.sg.e, .int .i64 r.sg.s, .int .i64 r.e, .int .i64 r.s]]) rfl rfl rfl rfl rfl (by kernel_rfl) rfl (fun _ => rfl) (fun m f hf => (HCR.out m.1 (Z5.out.tr (LL m)).ext).mono fun e w'' ⟨A6, n6, c6, h1, h2, h3⟩ => ⟨_, h1, h3, A6, n6, c6, rfl, h2.mono (LL m).size⟩) ?_
      simp only [Act.put, List.setIfInBounds_toArray, List.set_cons_zero, List.set_cons_succ]
      repeat (refine Gd.wpX_pureP rfl fun K hK => ?_; go_big_quiet_op; refine hK _ ?_; clear hK K)
      refine Gd.wpX_endL (fun m f hf => ?_)
      obtain ⟨A6, n6, c6, e54, O6⟩ := hf 74 _ rfl
      simp only [fillH]
      simp only [Act.put, List.setIfInBounds_toArray, List.set_cons_zero, List.set_cons_succ]
      rw [e54]
      have Z6 := Lib.hid (Z5.out.tr (LL m))
      have OP6 := HOP.out.ext (LL m)
      have hBw := Z5.out.hg
      have hgw := block_lt Z5.out.o
      obtain ⟨g2, eg, hBg2, hth, hlt2, ⟨cs2, hcs2⟩, OP2⟩ := OwnP.setAt (A := t4.1) (n := t4.2.1) (c := t4.2.2) (a := r) (u := .slice A6 n6 c6) OP6 (O6.mono (by omega)) hip
      have hgg : g2 = gR := by
        have := HT3.out
        rw [eg] at this
        injection this with h1
        injection h1 with h1
        injection h1
      subst hgg
      have HTH := Lib.hid (show m.1.there g2 (i * 17) (dvCells r (.slice A6 n6 c6)).length from hth)
      have HONE := Lib.hid (show (dvCells r (.slice A6 n6 c6)).toArray.all (·.oneCell') = true from kD_all r (.slice A6 n6 c6) rfl)
      have gb := Gb.setCellsU g2 (dvCells r (.slice A6 n6 c6)) (i * 17) m.1
      have hne : g ≠ g2 := fun q => by
        have h1 := Z6.out.o
        rw [q, hcs2] at h1
        injection h1 with h1
        injection h1 with _ h1
        exact absurd h1 (by decide)
      have Z7 : Hid (AcD w (m.1.setCells g2 (i * 17) (dvCells r (.slice A6 n6 c6))) s0 s1 s2 s3 (some ⟨b, o, none⟩, S.ds.length, sc3) t0 t1 t2 t3 t4 ⟨S.roots, S.pool, S.ms, S.rs, S.ds.set i r⟩ r (.slice A r.defs.length c) g) := Lib.hid
        ⟨Gb.below Z6.out.ext gb (by have := HBG.out; omega), (gb.block _ (block_lt Z6.out.s) (fun q => by injection q with q; have := HBG.out; omega)).trans Z6.out.s, (gb.block _ Z6.out.r.lt (fun q => by injection q with q; have := HBG.out; omega)).trans Z6.out.r,
          (gb.block _ (block_lt Z6.out.z) (fun q => by injection q with q; have := HBG.out; omega)).trans Z6.out.z, (gb.block _ (block_lt Z6.out.o) (fun q => by injection q with q; exact hne q)).trans Z6.out.o,
          Z6.out.own.grD (S' := ⟨S.roots, S.pool, S.ms, S.rs, S.ds.set i r⟩) hcs2 gb ⟨_, by rw [map_set_fst, HPS.out], OP2⟩ rfl rfl rfl rfl, Z6.out.hg⟩
      clear hf e54 hw1 LL ko kg r0 r1 r2 r3 r4 r5 r6 r7 r8 r9 r10 r11 r12 r13 r14 r15 r16 rl O6 OP6 hBw hgw eg hBg2 hth hlt2 hcs2 OP2 gb hne HCR Z5 Z6 HOP HGR
      generalize m.1 = w6 at *
      clear m f
      show wpList _ _ _ _ _ _
      refine wpMid_store rfl 41 _ _ rfl rfl g2 (i * 17) (dvCells r (.slice A6 n6 c6)) rfl rfl HTH.out info_dv HONE.out ?_
      generalize w6.setCells g2 (i * 17) (dvCells r (.slice A6 n6 c6)) = w7 at *
      have HO := Lib.hid Z7.out.o
      have HZ := Lib.hid Z7.out.z
      have H1 := Lib.hid (stRow_one t0 t1 t2 t3 t4)
      go_wp2_with (first | (refine wpList_load_row rfl 31 _ rfl g rfl 31 (stRow t0 t1 t2 t3 t4) (0, 0) _ HO.out Tryz.underlying31 rfl info_st ?_) | (refine wpRow_store rfl 31 _ _ rfl rfl (w.heap.size + 1 + 1) (stRow t0 t1 t2 t3 t4) rfl rfl 31 #[.slice none 0 0, .slice none 0 0, .slice none 0 0, .slice none 0 0, .slice none 0 0] HZ.out info_st rfl H1.out ?_))
      have HY := Lib.hid (row_at (cells := stRow t0 t1 t2 t3 t4) HZ.out)
      refine bodyPost_ret (v := .tuple #[.agg (stRow t0 t1 t2 t3 t4), .int .i64 0]) ?_ rfl ⟨t0, t1, t2, t3, t4, by rw [HA.out]; rfl, by rw [HA.out]; exact (Z7.out.fin _).2, (Z7.out.fin _).1⟩
      simp [results, Tryz.results11, asAddr, run_loadVar_row _ (w.heap.size + 1 + 1) 31 31 (stRow t0 t1 t2 t3 t4) (0, 0) _ HY.out Tryz.underlying31 rfl info_st]
end Go.Proofs.YtmmoenkmicimcaaGreatDoor
namespace Go.Proofs.YtmmoenkmicimcaaGreatDoor
open Go.RowKit
set_option linter.unusedVariables false
set_option maxRecDepth 100000
/-- A path from a root: the certificate is signed with its key. -/
theorem pathM_one {r c : NC} {day : Int} (hr : rootP c.st day r) (hf : folB day r c = true) (hk : c.kind ≠ 1) (ho : onN c day = 0) : npK [r] [] c day = 0 := by
  have hm : r ∈ trustT [r] [] c.st day := by
    obtain ⟨t, ht, _⟩ := trust_ext [r] [] c.st day
    rw [ht]
    exact List.mem_append_left _ (firstT_iff.2 ⟨List.mem_singleton.2 rfl, hr⟩)
  have h2 : ¬ (32 < cntN [r] c.st ∨ 32 < cntN [] c.st) := fun q => q.elim (cnt_le _ _ (by show 1 ≤ 32; omega)) (cnt_le _ _ (by show 0 ≤ 32; omega))
  cases hp : pathT day (trustT [r] [] c.st day) c with
  | some p => exact (npK_some ho hk h2 hp).1
  | none =>
    rw [(lad_trust [r] [] c.st day).none_iff] at hp
    obtain ⟨z, hz⟩ := find_of_mem (p := fun a => folB day a c) hm hf
    rw [show fstF day (trustT [r] [] c.st day) c = some z from hz] at hp
    cases hp
end Go.Proofs.YtmmoenkmicimcaaGreatDoor
namespace Go.Proofs.YtmmoenkmicimcaaGreatDoor
open Go.RowKit
set_option linter.unusedVariables false
set_option maxRecDepth 100000
theorem updD_ck (m : DV) (e s : Int) : ckD (updD m e s) = ckD m := rfl
theorem updD_body (m : DV) (e s : Int) : bodyDB (updD m e s) = bodyDB m := rfl
theorem isCD_in {k : Int} {m : DV} (hk : inB 1 1073741789 k = true) (hc : ckD m = 0) : isCD k m = updD m (sigE k (bodyDB m)) (sigS k (bodyDB m)) := by
  unfold isCD sE sS
  have hs : sK k = 0 := if_pos hk
  rw [if_pos ⟨hc, hs⟩, if_pos hk, if_pos hk]
theorem isKD_in {k : Int} {m : DV} (hk : inB 1 1073741789 k = true) (hc : ckD m = 0) : isKD k m = 0 := by
  have hs : sK k = 0 := if_pos hk
  unfold isKD; rw [if_pos hc, hs]
theorem verD_issue {k : Int} {m : DV} (hk : inB 1 1073741789 k = true) (hc : ckD m = 0) : verB (pw 4 k) (byD (isCD k m)) (isCD k m).e (isCD k m).s = true := by
  obtain ⟨h0, h1⟩ := inB_true hk
  rw [isCD_in hk hc]
  unfold byD
  rw [updD_ck, if_pos hc, updD_body]
  exact sig_verifies h0 h1 _
/-- The entry and the list of the sanity check. -/
def awDf (sg : Int) : DF := ⟨1, 2, sg, [57, 57, 57], [65, 66, 49, 48]⟩
def awD (k : Int) (sg : Int) (c : NC) : DV := isCD k ⟨utoZ, 1, 40010, [awDf sg], c, 0, 0⟩
theorem awDf_ok {sg : Int} (h : serP sg) : dfE (awDf sg) = 0 := by
  refine dfE_fine (by show ¬ ((1 : Int) < 1 ∨ (5 : Int) < 1); omega) ?_ ?_
  · unfold parB
    rw [show dfG (awDf sg) = true from rfl, show (awDf sg).signer = sg from rfl, decide_eq_true h]
    rfl
  · unfold txtB
    rw [show (awDf sg).fi = [57, 57, 57] from rfl, show (awDf sg).la = [65, 66, 49, 48] from rfl]
    decide
theorem appD_one {m : DV} {st : List UInt8} (h : m.st = st) (signer : Int) (number : List UInt8) : appD [m] st signer number = if docP number then m.defs.filter fun x => appQ x signer number else [] := by
  have : ofD [m] st = some m := by
    unfold ofD
    rw [List.find?_cons, decide_eq_true h]
  unfold appD
  rw [this]
theorem appD_other {m : DV} {st : List UInt8} (h : m.st ≠ st) (signer : Int) (number : List UInt8) : appD [m] st signer number = [] := by
  have : ofD [m] st = none := by
    unfold ofD
    rw [List.find?_cons, decide_eq_false h]
    rfl
  unfold appD
  rw [this]
theorem awake33_plain {a : AU} (h : AuI a [40000]) (ha : a.st = utoZ) : ∃ c : NC, a.roots = [c] ∧ smN c ∧ smN a.ls ∧ serP a.sg.num ∧ isKD a.lsec ⟨utoZ, 1, 40010, [awDf a.sg.num], a.ls, 0, 0⟩ = 0 ∧
    accD ⟨[c], [], [], [], []⟩ (awD a.lsec a.sg.num a.ls) 40010 = (⟨[c], [], [], [], [awD a.lsec a.sg.num a.ls]⟩, 0) ∧
    (appD [awD a.lsec a.sg.num a.ls] utoZ a.sg.num [49, 48, 48, 48]).length = 1 ∧ (appD [awD a.lsec a.sg.num a.ls] utoZ a.sg.num [57, 57, 56]).length = 0 ∧ (appD [awD a.lsec a.sg.num a.ls] deuN a.sg.num [49, 48, 48, 48]).length = 0 ∧
    (awD a.lsec a.sg.num a.ls).defs = [awDf a.sg.num] ∧ (awD a.lsec a.sg.num a.ls).sg = a.ls ∧ (awD a.lsec a.sg.num a.ls).st = utoZ := by
  have rl := h.rlen
  obtain ⟨c, er⟩ : ∃ c, a.roots = [c] := by
    match hr : a.roots, rl with
    | [x], _ => exact ⟨x, rfl⟩
  obtain ⟨k1, d1, n1, q1, q2, _, _, R⟩ := h.rt 0 c (by rw [er]; rfl)
  obtain ⟨k2, d2, n2, v1, v2, hn2, hn2', _, S⟩ := h.sg (by simp)
  obtain ⟨k3, d3, n3, u1, u2, _, _, hk, L⟩ := h.ls (by simp)
  obtain rfl : (40000 : Int) = d1 := Option.some.inj q2
  obtain rfl : (40000 : Int) = d3 := Option.some.inj u2
  obtain rfl : k1 = k3 := Option.some.inj (q1.symm.trans u1)
  have hN := S.num
  have hser : serP a.sg.num := by rw [hN]; exact ⟨hn2, by omega⟩
  have hon : onN a.ls 40010 = 0 := L.on (by decide) (by decide)
  have hkd : a.ls.kind ≠ 1 := by rw [L.kind]; decide
  have hls : a.ls.st = utoZ := L.st.trans ha
  have hcs : c.st = utoZ := R.st.trans ha
  have hfol : folB 40010 c a.ls = true := fol_nat R L (by decide) (.inl rfl) (by decide) rfl (by decide) (by decide) (by decide) (by decide)
  have hroot : rootP a.ls.st 40010 c := by rw [L.st]; exact root_nat R (by decide) (by decide)
  have hp0 : npK [c] [] a.ls 40010 = 0 := pathM_one hroot hfol hkd hon
  have hsg : sgE a.ls utoZ = 0 := by unfold sgE; rw [if_neg (not_not_intro L.ck), if_neg (not_not_intro L.kind), if_neg (not_not_intro hls)]
  have hdf : dfsE [awDf a.sg.num] = 0 := dfs_fine fun j x hj hx => by
    match j, hj with
    | 0, _ => rw [← Option.some.inj hx]; exact awDf_ok hser
  have hck : ckD ⟨utoZ, 1, 40010, [awDf a.sg.num], a.ls, 0, 0⟩ = 0 := by
    unfold ckD
    rw [if_neg (not_not_intro state_utoZ), if_neg (not_not_intro (⟨by show (1 : Int) ≤ 1; omega, by show (1 : Int) ≤ 1073741824; omega⟩)), if_neg (not_not_intro ⟨by show (0 : Int) ≤ 40010; omega, by show (40010 : Int) ≤ 73048; omega⟩), if_neg (by show ¬ (32 < 1); omega), if_neg (not_not_intro hdf)]
    exact hsg
  have hm : awD a.lsec a.sg.num a.ls = updD ⟨utoZ, 1, 40010, [awDf a.sg.num], a.ls, 0, 0⟩ (sigE a.lsec (bodyDB ⟨utoZ, 1, 40010, [awDf a.sg.num], a.ls, 0, 0⟩)) (sigS a.lsec (bodyDB ⟨utoZ, 1, 40010, [awDf a.sg.num], a.ls, 0, 0⟩)) := isCD_in hk hck
  have hv : verB (pw 4 a.lsec) (byD (awD a.lsec a.sg.num a.ls)) (awD a.lsec a.sg.num a.ls).e (awD a.lsec a.sg.num a.ls).s = true := verD_issue hk hck
  have hmc : ckD (awD a.lsec a.sg.num a.ls) = 0 := by rw [hm, updD_ck]; exact hck
  have f1 : (awD a.lsec a.sg.num a.ls).st = utoZ := by rw [hm]; rfl
  have f2 : (awD a.lsec a.sg.num a.ls).day = 40010 := by rw [hm]; rfl
  have f3 : (awD a.lsec a.sg.num a.ls).defs = [awDf a.sg.num] := by rw [hm]; rfl
  have f4 : (awD a.lsec a.sg.num a.ls).sg = a.ls := by rw [hm]; rfl
  refine ⟨c, er, isNat_key R, isNat_key L, hser, isKD_in hk hck, ?_⟩
  generalize awD a.lsec a.sg.num a.ls = m at *
  have hpub : pubE m.sg m.day 40010 (byD m) m.e m.s = 0 := by
    unfold pubE
    rw [f4, f2, if_neg (by rw [L.fr]; omega), if_neg (by rw [L.un]; omega), L.key]
    exact if_pos hv
  have hrt : rootsT ⟨[c], [], [], [], []⟩ = [c] := by
    show addStep [] c = [c]
    unfold addStep
    rw [if_neg (by simp)]
    rfl
  have hv0 : sgnD ⟨[c], [], [], [], []⟩ m 40010 = 0 := by
    unfold sgnD sndE
    rw [hrt, f4, if_neg (not_not_intro hp0), ← f4]
    exact hpub
  have q1 : appQ (awDf a.sg.num) a.sg.num [49, 48, 48, 48] = true := by
    unfold appQ
    rw [show (awDf a.sg.num).signer = a.sg.num from rfl, decide_eq_true rfl, show (awDf a.sg.num).fi = [57, 57, 57] from rfl, show (awDf a.sg.num).la = [65, 66, 49, 48] from rfl]
    decide
  have q2 : appQ (awDf a.sg.num) a.sg.num [57, 57, 56] = false := by
    unfold appQ
    rw [show (awDf a.sg.num).fi = [57, 57, 57] from rfl, show (awDf a.sg.num).la = [65, 66, 49, 48] from rfl, show (!befL [57, 57, 56] [57, 57, 57] && !befL [65, 66, 49, 48] [57, 57, 56]) = false from by decide, Bool.and_false]
  refine ⟨?_, ?_, ?_, ?_, f3, f4, f1⟩
  · unfold accD
    rw [if_neg (fun q => q hmc), if_neg (fun q => q hv0)]
    rfl
  · rw [appD_one f1, f3, if_pos (by decide)]
    simp [q1]
  · rw [appD_one f1, f3, if_pos (by decide)]
    simp [q2]
  · rw [appD_other (by rw [f1]; decide)]
    rfl
end Go.Proofs.YtmmoenkmicimcaaGreatDoor
