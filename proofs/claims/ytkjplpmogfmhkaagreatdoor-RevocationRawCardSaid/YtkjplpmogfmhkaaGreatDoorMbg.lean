/- Parts Jw Uj Uo of the proof. -/
import Derived.Test.YtkjplpmogfmhkaaGreatDoorMbc
import Derived.Test.YtkjplpmogfmhkaaGreatDoorMaq
import Derived.Test.YtkjplpmogfmhkaaGreatDoorMau
import Derived.Test.YtkjplpmogfmhkaaGreatDoorMbf
import Derived.Deep.MidRow
import Derived.Test.YtkjplpmogfmhkaaGreatDoorMax
import Derived.Test.YtkjplpmogfmhkaaGreatDoorMay
import Derived.BigRegion
import Derived.Deep.RegionWith
import Derived.Test.YtkjplpmogfmhkaaGreatDoorMbe
import Derived.Test.YtkjplpmogfmhkaaGreatDoorMbd
import Derived.Deep.CutRange
namespace Go.Proofs.YtkjplpmogfmhkaaGreatDoor
open Go.RowKit
set_option linter.unusedVariables false
set_option maxRecDepth 100000
theorem setCells_setL (g : Nat) : ∀ (vs : List Value) (i : Nat) (w : World), w.setCells g i vs = setL w g i vs
  | [], i, w => rfl
  | v :: vs, i, w => setCells_setL g vs (i + 1) _
theorem Gb.setCells (g : Nat) : ∀ (vs : List Value) (i : Nat) (w : World), Gb g w (w.setCells g i vs)
  | [], i, w => Gb.refl _ _
  | v :: vs, i, w => (Gb.set g i w v).tr (Gb.setCells g vs (i + 1) _)
theorem OwnK.setAt {w : World} {B n c : Nat} {A : Option Addr} {l : List NC} {i : Nat} (h : OwnK w B 56 11 (.slice A n c) (ncsCells l)) (hi : i < l.length) (x : NC) :
    ∃ g, A = some ⟨g, 0, none⟩ ∧ B ≤ g ∧ w.there g (i * 11) 11 ∧ g < w.heap.size ∧ c ≠ 0 ∧ OwnK (w.setCells g (i * 11) (ncCells x)) B 56 11 (.slice A n c) (ncsCells (l.set i x)) := by
  obtain ⟨A', n', c', e, hn, h⟩ := h
  injection e with e1 e2 e3
  subst e1 e2 e3
  rw [ncsCells_len] at hn
  obtain rfl : n = l.length := by omega
  rcases h with ⟨h0, _⟩ | ⟨g, cur, rfl, hB, hg, hnc, hcm, hcs, ht⟩
  · omega
  · refine ⟨g, rfl, hB, fun j hj => ⟨?_, by simp [World.frozen?, hg]⟩, block_lt hg, by omega, ?_⟩
    · rw [cell_of_row w g _ cur _ _ hg]
      simp
      have : i * 11 + 11 ≤ c * 11 := by have : (i + 1) * 11 ≤ c * 11 := Nat.mul_le_mul_right _ (by omega); omega
      omega
    · rw [setCells_setL]
      have hcc : cur.toList = ncsCells l ++ cur.toList.drop (l.length * 11) := by rw [← ht, List.take_append_drop]
      have h1 : w.heap[g]? = some (.cells (ncsCells l ++ cur.toList.drop (l.length * 11)).toArray 56 (0, 0)) := by rw [hg, ← hcc, Array.toArray_toList]
      have h2 := setL_setN w g h1 rfl i hi x
      have hl : (l.set i x).length = l.length := List.length_set
      have hls : (ncsCells (l.set i x)).length = l.length * 11 := by rw [ncsCells_len, hl]
      have hlc : l.length * 11 ≤ c * 11 := Nat.mul_le_mul_right _ hnc
      refine ⟨_, l.length, c, rfl, hls.symm, .inr ⟨g, _, rfl, hB, h2, hnc, hcm, ?_, ?_⟩⟩
      · have hcl : cur.toList.length = c * 11 := by rw [Array.length_toList, hcs]
        show (ncsCells (l.set i x) ++ cur.toList.drop (l.length * 11)).length = c * 11
        rw [List.length_append, hls, List.length_drop, hcl]
        omega
      · show (ncsCells (l.set i x) ++ _).take _ = _
        rw [← hls]
        exact List.take_left
/-- A certificate stored in the middle of a block. -/
theorem wpMid_store {P : Program} {ops : Array Oper} {rest : List Oper} {o : Oper} {a : Act} {w : World} {Q : Exit → Act → World → Prop} (hgd : o.guard = none) (ty : TypeId) (x y : Operand) (ho : o.op = .store ty x y) (hd : o.dst = none)
    (b f : Nat) (cells : List Value) (hx : a.eval x = .pointer (some ⟨b, f, none⟩)) (hy : a.eval y = .agg cells.toArray)
    (ht : w.there b f cells.length) (hi : (P.info? ty).map (·.size) = some cells.length) (h1 : cells.toArray.all (·.oneCell') = true)
    (h : wpList P ops Q rest a (w.setCells b f cells)) : wpList P ops Q (o :: rest) a w :=
  wpList_store_mid hgd ty x y ho b f cells.toArray hx hy ht hi h1 (by rw [hd]; exact h)
end Go.Proofs.YtkjplpmogfmhkaaGreatDoor
namespace Go.Proofs.YtkjplpmogfmhkaaGreatDoor
open Go.RowKit
open Go.Proofs.YtkjplpmogfmhkaaGreatDoor.Gd (GRun GSkip)
set_option linter.unusedVariables false
set_option maxRecDepth 100000
/-- Where Accept stands: the arguments, the result's block, the copy in block g. -/
structure AcZ (w wr : World) (s0 s1 s2 s3 s4 t0 t1 t2 t3 t4 : SlT) (S : ST) (r : RV) (v : Value) (g : Nat) : Prop where
  ext : Ext w wr
  s : wr.heap[w.heap.size]? = some (.cells (stRow s0 s1 s2 s3 s4) 75 (0, 0))
  r : RvAt wr (w.heap.size + 1) r v
  z : wr.heap[w.heap.size + 1 + 1]? = some (.cells #[.slice none 0 0, .slice none 0 0, .slice none 0 0, .slice none 0 0, .slice none 0 0] 75 (0, 0))
  o : wr.heap[g]? = some (.cells (stRow t0 t1 t2 t3 t4) 75 (0, 0))
  own : StO wr (w.heap.size + 1 + 1 + 1) t0 t1 t2 t3 t4 S
  hg : w.heap.size + 1 + 1 + 1 ≤ g
section
variable {w wr wx : World} {s0 s1 s2 s3 s4 t0 t1 t2 t3 t4 : SlT} {S S' : ST} {r : RV} {v : Value} {g : Nat}
theorem AcZ.tr (h : AcZ w wr s0 s1 s2 s3 s4 t0 t1 t2 t3 t4 S r v g) (e : Ext wr wx) : AcZ w wx s0 s1 s2 s3 s4 t0 t1 t2 t3 t4 S r v g :=
  ⟨h.ext.tr e, (e.block _ (block_lt h.s)).trans h.s, h.r.ext e, (e.block _ (block_lt h.z)).trans h.z, (e.block _ (block_lt h.o)).trans h.o, h.own.ext e, h.hg⟩
theorem AcZ.fin (h : AcZ w wr s0 s1 s2 s3 s4 t0 t1 t2 t3 t4 S r v g) (cs : Array Value) : Ext w (wr.setRow (w.heap.size + 1 + 1) cs) ∧ StR (wr.setRow (w.heap.size + 1 + 1) cs) t0 t1 t2 t3 t4 S :=
  ⟨ext_setRow h.ext (by omega) _, (h.own.gbB (g := w.heap.size + 1 + 1) (by omega) (Gb.setRow _ _ _)).rd⟩
/-- The block of a list of lists changes. -/
theorem StO.gr {B gR : Nat} {cs : Array Value} (h : StO wr B t0 t1 t2 t3 t4 S) (hg : wr.heap[gR]? = some (.cells cs 103 (0, 0))) (e : wr.grownBy wx (some gR)) (o3 : OwnX kR wx B (slV t3) S'.rs) (h0 : S'.roots = S.roots) (h1 : S'.pool = S.pool) (h2 : S'.ms = S.ms) (h4 : S'.ds = S.ds) : StO wx B t0 t1 t2 t3 t4 S' :=
  ⟨by rw [h0]; exact h.o0.grown e (.inr (h.o0.row_blk hg (by decide))), by rw [h1]; exact h.o1.grown e (.inr (h.o1.row_blk hg (by decide))), by rw [h2]; exact h.o2.gb hg (by decide) (by decide) e, o3, by rw [h4]; exact h.o4.gb hg (by decide) (by decide) e⟩
theorem StO.gr2 {B B2 : Nat} {v2 : Value} {x2 : List Value} {t3' : SlT} (h : StO wr B t0 t1 t2 t3 t4 S) (o : OwnK wr B2 103 8 v2 x2) (e : wr.grownBy wx (rowOf v2)) (o3 : OwnX kR wx B (slV t3') S'.rs) (h0 : S'.roots = S.roots) (h1 : S'.pool = S.pool) (h2 : S'.ms = S.ms) (h4 : S'.ds = S.ds) : StO wx B t0 t1 t2 t3' t4 S' :=
  ⟨by rw [h0]; exact h.o0.grown e (o.row_ne h.o0 (by decide)), by rw [h1]; exact h.o1.grown e (o.row_ne h.o1 (by decide)), by rw [h2]; exact h.o2.grow o (by decide) (by decide) e, o3, by rw [h4]; exact h.o4.grow o (by decide) (by decide) e⟩
theorem OwnP.form {α : Type} {K : LK α} {B n c i : Nat} {A : Option Addr} {ps : List (α × Value)} (h : OwnP K wr B (.slice A n c) ps) (hi : i < ps.length) : ∃ g cur, A = some ⟨g, 0, none⟩ ∧ n = ps.length ∧ n ≤ c ∧ c ≤ maxLen ∧ B ≤ g ∧ wr.heap[g]? = some (.cells cur K.T (0, 0)) := by
  obtain ⟨A', n', c', e, hn, hc⟩ := h.1
  injection e with e1 e2 e3
  subst e1 e2 e3
  rw [K.cells_len] at hn
  obtain rfl : n = ps.length := Nat.eq_of_mul_eq_mul_right K.pos hn
  rcases hc with ⟨h0, _⟩ | ⟨g, cur, rfl, hB, hg, hnc, hcm, _, _⟩
  · omega
  · exact ⟨g, cur, rfl, rfl, hnc, hcm, hB, hg⟩
theorem StO.gst {B gS : Nat} {cs : Array Value} (h : StO wr B t0 t1 t2 t3 t4 S) (hg : wr.heap[gS]? = some (.cells cs 75 (0, 0))) (e : wr.grownBy wx (some gS)) : StO wx B t0 t1 t2 t3 t4 S :=
  ⟨h.o0.grown e (.inr (h.o0.row_blk hg (by decide))), h.o1.grown e (.inr (h.o1.row_blk hg (by decide))), h.o2.gb hg (by decide) (by decide) e, h.o3.gb hg (by decide) (by decide) e, h.o4.gb hg (by decide) (by decide) e⟩
/-- One list more, and the slice stored. -/
theorem AcZ.app {ps : List (RV × Value)} {u : Value} {A8 : Option Addr} {n8 c8 : Nat} {w8 : World} (h : AcZ w wr s0 s1 s2 s3 s4 t0 t1 t2 t3 t4 S r v g) (hOP : OwnP kR wr (w.heap.size + 1 + 1 + 1) (slV t3) ps) (hps : ps.map Prod.fst = S.rs) (hi : OwnK w8 (w.heap.size + 1 + 1 + 1) 3 1 u (intsV r.ser))
    (o8 : OwnK w8 (w.heap.size + 1 + 1 + 1) 103 8 (.slice A8 n8 c8) (kR.cells ps ++ rvCells r u)) (g8 : wr.grownBy w8 (rowOf (slV t3))) :
    w8.cell? ⟨g, 3, none⟩ = some (.slice t3.1 t3.2.1 t3.2.2) ∧ g < w8.heap.size ∧ w8.frozen? ⟨g, 3, none⟩ = false ∧ AcZ w (w8.setCell ⟨g, 3, none⟩ (.slice A8 n8 c8)) s0 s1 s2 s3 s4 t0 t1 t2 (A8, n8, c8) t4 ⟨S.roots, S.pool, S.ms, S.rs ++ [r], S.ds⟩ r v g := by
  have low : ∀ k, k < w.heap.size + 1 + 1 + 1 → k < wr.heap.size → w8.heap[k]? = wr.heap[k]? := fun k hk hl => g8.block k hl (fun q => by have := rowOf_geK hOP.1 k q.symm; omega)
  have ho : w8.heap[g]? = some (.cells (stRow t0 t1 t2 t3 t4) 75 (0, 0)) := (g8.block g (block_lt h.o) (fun q => hOP.1.row_blk h.o (by decide) q.symm)).trans h.o
  have hG := h.hg
  have hlt := block_lt ho
  have hx : Below (w.heap.size + 1 + 1 + 1) wr w8 := ⟨g8.os, g8.tape, g8.output, g8.size, fun k hk => g8.block k (Nat.lt_of_lt_of_le hk (Nat.le_trans hG (Nat.le_of_lt (block_lt h.o)))) (fun q => by have := rowOf_geK hOP.1 k q.symm; omega)⟩
  have keep : ∀ k, k ≠ g → (w8.setCell ⟨g, 3, none⟩ (.slice A8 n8 c8)).heap[k]? = w8.heap[k]? := fun k hk => setCell_block hk
  have own8 : StO w8 (w.heap.size + 1 + 1 + 1) t0 t1 t2 (A8, n8, c8) t4 ⟨S.roots, S.pool, S.ms, S.rs ++ [r], S.ds⟩ := h.own.gr2 (t3' := (A8, n8, c8)) (S' := ⟨S.roots, S.pool, S.ms, S.rs ++ [r], S.ds⟩) hOP.1 g8 ⟨ps ++ [(r, u)], by rw [List.map_append, hps]; rfl, by rw [← kR.cells_snoc]; exact o8, fun p hp => (List.mem_append.1 hp).elim (fun q => (hOP.2 p q).grown g8 (hOP.1.row_ne (hOP.2 p q) kR.ne.symm)) (fun q => by rw [List.mem_singleton.1 q]; exact hi)⟩ rfl rfl rfl rfl
  refine ⟨by rw [cell_of_row _ _ 3 _ _ _ ho]; rfl, hlt, by simp [World.frozen?, ho], ?_⟩
  refine ⟨(h.ext.trans (hx.mono (by omega))).setCell (p := ⟨g, 3, none⟩) (by show w.heap.size ≤ g; omega) _, (keep _ (by omega)).trans ((low _ (by omega) (block_lt h.s)).trans h.s), (keep _ (by omega)).trans ((low _ (by omega) h.r.lt).trans h.r), (keep _ (by omega)).trans ((low _ (by omega) (block_lt h.z)).trans h.z), ?_, own8.gst ho (Gb.set g 3 w8 _), hG⟩
  have h9 := row_set ho 3 (.slice A8 n8 c8)
  exact h9
/-- What stays while the lists are appended to. -/
theorem AcZ.keep {ps : List (RV × Value)} (h : AcZ w wr s0 s1 s2 s3 s4 t0 t1 t2 t3 t4 S r v g) (hOP : OwnP kR wr (w.heap.size + 1 + 1 + 1) (slV t3) ps) (g8 : wr.grownBy wx (rowOf (slV t3))) : wx.heap[g]? = some (.cells (stRow t0 t1 t2 t3 t4) 75 (0, 0)) ∧ RvAt wx (w.heap.size + 1) r v ∧ Ext w wx :=
  have hG := h.hg
  have hx : Below (w.heap.size + 1 + 1 + 1) wr wx := ⟨g8.os, g8.tape, g8.output, g8.size, fun k hk => g8.block k (Nat.lt_of_lt_of_le hk (Nat.le_trans hG (Nat.le_of_lt (block_lt h.o)))) (fun q => by have := rowOf_geK hOP.1 k q.symm; omega)⟩
  ⟨(g8.block g (block_lt h.o) (fun q => hOP.1.row_blk h.o (by decide) q.symm)).trans h.o, (hx.block _ (by omega)).trans h.r, h.ext.trans (hx.mono (by omega))⟩
end
theorem map_set_fst {α β : Type} : ∀ (ps : List (α × β)) (i : Nat) (a : α) (b : β), (ps.set i (a, b)).map Prod.fst = (ps.map Prod.fst).set i a
  | [], _, _, _ => rfl
  | p :: ps, 0, a, b => rfl
  | p :: ps, i + 1, a, b => congrArg (p.1 :: ·) (map_set_fst ps i a b)
/-- What Accept returns. -/
def AccRt (w : World) (S : ST) (k : Int) (e : Ending) (w' : World) : Prop := ∃ t0 t1 t2 t3 t4 : SlT, e = .returned (.tuple #[storeV t0 t1 t2 t3 t4, .int .i64 k]) ∧ StR w' t0 t1 t2 t3 t4 S ∧ Ext w w'
/-- A list that a call returned. -/
def GRv (B : Nat) (r : RV) : VPred := fun v w => ∃ A n c, v = rvV r (.slice A n c) ∧ OwnK w B 3 1 (.slice A n c) (intsV r.ser)
theorem stable_GRv (B : Nat) (r : RV) : StableP (GRv B r) := fun v w w' e ⟨A, n, c, h1, h2⟩ => ⟨A, n, c, h1, h2.ext e⟩
set_option maxHeartbeats 16000000 in
theorem raccept_any (s0 s1 s2 s3 s4 : SlT) (S : ST) (r : RV) (v : Value) (day : Int) (w : World) (hS : StR w s0 s1 s2 s3 s4 S) (hB : StB S) (hv : RdI w .i64 v r.ser) (hs : r.st.length ≤ maxLen) (hl : r.ser.length ≤ 1000000) (E : KTab w 1) :
    Calls Tryz.prog 68 #[storeV s0 s1 s2 s3 s4, rvV r v, .int .i64 day] w (AccRt w (accR S r day).1 (accR S r day).2) := by
  obtain ⟨A, n, c, rfl, hn, -⟩ := hv.ints
  subst hn
  obtain ⟨wz, hwz⟩ : ∃ wz, wz = ((w.alloc (.cells #[.slice s0.1 s0.2.1 s0.2.2, .slice s1.1 s1.2.1 s1.2.2, .slice s2.1 s2.2.1 s2.2.2, .slice s3.1 s3.2.1 s3.2.2, .slice s4.1 s4.2.1 s4.2.2] 75)).alloc (.cells #[.string (bstr r.st), .int .i64 r.num, .int .i64 r.day, .int .i64 r.nxt, .slice A r.ser.length c, .int .i64 r.iss, .int .i64 r.e, .int .i64 r.s] 103)).alloc (.cells #[.slice none 0 0, .slice none 0 0, .slice none 0 0, .slice none 0 0, .slice none 0 0] 75) := ⟨_, rfl⟩
  have e1 : Ext w (w.alloc (.cells #[.slice s0.1 s0.2.1 s0.2.2, .slice s1.1 s1.2.1 s1.2.2, .slice s2.1 s2.2.1 s2.2.2, .slice s3.1 s3.2.1 s3.2.2, .slice s4.1 s4.2.1 s4.2.2] 75)) := (Below.refl _ _).alloc (Nat.le_refl _) _
  have e2 : Ext (w.alloc (.cells #[.slice s0.1 s0.2.1 s0.2.2, .slice s1.1 s1.2.1 s1.2.2, .slice s2.1 s2.2.1 s2.2.2, .slice s3.1 s3.2.1 s3.2.2, .slice s4.1 s4.2.1 s4.2.2] 75)) ((w.alloc (.cells #[.slice s0.1 s0.2.1 s0.2.2, .slice s1.1 s1.2.1 s1.2.2, .slice s2.1 s2.2.1 s2.2.2, .slice s3.1 s3.2.1 s3.2.2, .slice s4.1 s4.2.1 s4.2.2] 75)).alloc (.cells #[.string (bstr r.st), .int .i64 r.num, .int .i64 r.day, .int .i64 r.nxt, .slice A r.ser.length c, .int .i64 r.iss, .int .i64 r.e, .int .i64 r.s] 103)) := (Below.refl _ _).alloc (Nat.le_refl _) _
  have e3 : Ext ((w.alloc (.cells #[.slice s0.1 s0.2.1 s0.2.2, .slice s1.1 s1.2.1 s1.2.2, .slice s2.1 s2.2.1 s2.2.2, .slice s3.1 s3.2.1 s3.2.2, .slice s4.1 s4.2.1 s4.2.2] 75)).alloc (.cells #[.string (bstr r.st), .int .i64 r.num, .int .i64 r.day, .int .i64 r.nxt, .slice A r.ser.length c, .int .i64 r.iss, .int .i64 r.e, .int .i64 r.s] 103)) wz := by rw [hwz]; exact (Below.refl _ _).alloc (Nat.le_refl _) _
  have hsz : wz.heap.size = w.heap.size + 1 + 1 + 1 := by rw [hwz]; simp
  have z1 : wz.heap[w.heap.size]? = some (.cells (stRow s0 s1 s2 s3 s4) 75 (0, 0)) := ((e2.tr e3).block _ (by simp)).trans (heap_alloc_new' w _)
  have z2 : RvAt wz (w.heap.size + 1) r (.slice A r.ser.length c) := by
    have := (RvAt.new (w.alloc (.cells #[.slice s0.1 s0.2.1 s0.2.2, .slice s1.1 s1.2.1 s1.2.2, .slice s2.1 s2.2.1 s2.2.2, .slice s3.1 s3.2.1 s3.2.2, .slice s4.1 s4.2.1 s4.2.2] 75)) r (.slice A r.ser.length c)).ext e3
    rwa [show (w.alloc (.cells #[.slice s0.1 s0.2.1 s0.2.2, .slice s1.1 s1.2.1 s1.2.2, .slice s2.1 s2.2.1 s2.2.2, .slice s3.1 s3.2.1 s3.2.2, .slice s4.1 s4.2.1 s4.2.2] 75)).heap.size = w.heap.size + 1 by simp] at this
  have z3 : wz.heap[w.heap.size + 1 + 1]? = some (.cells #[.slice none 0 0, .slice none 0 0, .slice none 0 0, .slice none 0 0, .slice none 0 0] 75 (0, 0)) := by
    have := heap_alloc_new' ((w.alloc (.cells #[.slice s0.1 s0.2.1 s0.2.2, .slice s1.1 s1.2.1 s1.2.2, .slice s2.1 s2.2.1 s2.2.2, .slice s3.1 s3.2.1 s3.2.2, .slice s4.1 s4.2.1 s4.2.2] 75)).alloc (.cells #[.string (bstr r.st), .int .i64 r.num, .int .i64 r.day, .int .i64 r.nxt, .slice A r.ser.length c, .int .i64 r.iss, .int .i64 r.e, .int .i64 r.s] 103)) (.cells #[.slice none 0 0, .slice none 0 0, .slice none 0 0, .slice none 0 0, .slice none 0 0] 75)
    rw [show ((w.alloc (.cells #[.slice s0.1 s0.2.1 s0.2.2, .slice s1.1 s1.2.1 s1.2.2, .slice s2.1 s2.2.1 s2.2.2, .slice s3.1 s3.2.1 s3.2.2, .slice s4.1 s4.2.1 s4.2.2] 75)).alloc (.cells #[.string (bstr r.st), .int .i64 r.num, .int .i64 r.day, .int .i64 r.nxt, .slice A r.ser.length c, .int .i64 r.iss, .int .i64 r.e, .int .i64 r.s] 103)).heap.size = w.heap.size + 1 + 1 by simp] at this
    rw [hwz]
    exact this
  have EZ := Lib.hid (e1.tr (e2.tr e3))
  have HCS := Lib.hid (fun W (e : Ext w W) => cstore_any s0 s1 s2 s3 s4 S W (hS.ext e) hB)
  have HCK := Lib.hid (fun W (e : Ext w W) => rcheck_any r (.slice A r.ser.length c) W (hv.ext e) hs)
  have HSG := Lib.hid (fun W (e : Ext w W) => signed_any s0 s1 s2 s3 s4 S r (.slice A r.ser.length c) day W (hS.ext e) hB (hv.ext e) hs (E.below e))
  have HPL := Lib.hid (fun W (e : Ext w W) => place_any s0 s1 s2 s3 s4 S.rs r.st W (hS.r3.ext e).rdV)
  have HCR := Lib.hid (fun W (e : Ext w W) => crev_any r (.slice A r.ser.length c) W (hv.ext e) hl)
  have HR3 := Lib.hid hS.r3
  have HS := Lib.hid z1
  have HLS := Lib.hid hB.ls
  obtain ⟨ac, hac⟩ : ∃ ac, accR S r day = ac := ⟨_, rfl⟩
  rw [hac]
  have HAC := Lib.hid hac
  have HZ2 := Lib.hid z2
  have HZ3 := Lib.hid z3
  have HZ1 := Lib.hid z1
  clear hS hv hs hl E e1 e2 e3 z1 z2 z3 hac hB
  unfold storeV rvV
  go_enter Tryz.func68, Tryz.ntmps68
  go_upto_region 1 with fail
  rw [← hwz]
  clear hwz
  go_wp2_with (refine wpList_load_row rfl 75 _ rfl w.heap.size rfl 75 (stRow s0 s1 s2 s3 s4) (0, 0) _ HS.out Tryz.underlying75 rfl info_st ?_)
  refine (HCS.out wz EZ.out).mono ?_
  rintro e w1 ⟨t0, t1, t2, t3, t4, rfl, own, b1⟩
  obtain ⟨wo, hwo⟩ : ∃ wo, wo = w1.alloc (.cells #[.slice t0.1 t0.2.1 t0.2.2, .slice t1.1 t1.2.1 t1.2.2, .slice t2.1 t2.2.1 t2.2.2, .slice t3.1 t3.2.1 t3.2.2, .slice t4.1 t4.2.1 t4.2.2] 75) := ⟨_, rfl⟩
  have eo : Ext w1 wo := by rw [hwo]; exact (Below.refl _ _).alloc (Nat.le_refl _) _
  have ho : wo.heap[w1.heap.size]? = some (.cells (stRow t0 t1 t2 t3 t4) 75 (0, 0)) := by rw [hwo]; exact heap_alloc_new' w1 _
  have b9 := b1.tr eo
  obtain ⟨g, hg⟩ : ∃ g, w1.heap.size = g := ⟨_, rfl⟩
  have Z1 : Hid (AcZ w wo s0 s1 s2 s3 s4 t0 t1 t2 t3 t4 S r (.slice A r.ser.length c) g) := Lib.hid ⟨EZ.out.tr b9, (b9.block _ (block_lt HZ1.out)).trans HZ1.out, HZ2.out.ext b9, (b9.block _ (block_lt HZ3.out)).trans HZ3.out, by rw [← hg]; exact ho, (own.ext eo).mono (by omega), by have := b1.size; omega⟩
  clear eo ho b1 b9 own HZ1 HZ2 HZ3 HS EZ HCS hsz
  unfold storeV
  go_upto_region 2 with fail
  rw [← hwo]
  try rw [hg]
  clear hwo hg
  have HR := Lib.hid Z1.out.r.row
  go_wp2_with (refine wpList_load_row rfl 103 _ rfl (w.heap.size + 1) rfl 103 (rvRow r (.slice A r.ser.length c)) (0, 0) _ HR.out Tryz.underlying103 rfl info_rv ?_)
  refine (HCK.out wo Z1.out.ext).mono ?_
  rintro e w2 ⟨rfl, b2⟩
  have Z2 := Lib.hid (Z1.out.tr b2)
  clear b2 HR Z1 HCK
  by_cases hc : ckR r = 0
  case neg =>
    have HA := Lib.hid (show ac = (S, ckR r) by rw [← HAC.out]; exact if_pos hc)
    have hb : (ckR r != 0) = true := by simpa using hc
    clear hc
    have HO := Lib.hid Z2.out.o
    have HZ := Lib.hid Z2.out.z
    have H1 := Lib.hid (stRow_one t0 t1 t2 t3 t4)
    go_wp2_with (first | (refine wpList_load_row rfl 75 _ rfl g rfl 75 (stRow t0 t1 t2 t3 t4) (0, 0) _ HO.out Tryz.underlying75 rfl info_st ?_) | (refine wpRow_store rfl 75 _ _ rfl rfl (w.heap.size + 1 + 1) (stRow t0 t1 t2 t3 t4) rfl rfl 75 #[.slice none 0 0, .slice none 0 0, .slice none 0 0, .slice none 0 0, .slice none 0 0] HZ.out info_st rfl H1.out ?_))
    have HY := Lib.hid (row_at (cells := stRow t0 t1 t2 t3 t4) HZ.out)
    refine bodyPost_ret (v := .tuple #[.agg (stRow t0 t1 t2 t3 t4), .int .i64 (ckR r)]) ?_ rfl ⟨t0, t1, t2, t3, t4, by rw [HA.out]; rfl, by rw [HA.out]; exact (Z2.out.fin _).2, (Z2.out.fin _).1⟩
    simp [results, Tryz.results68, asAddr, run_loadVar_row _ (w.heap.size + 1 + 1) 75 75 (stRow t0 t1 t2 t3 t4) (0, 0) _ HY.out Tryz.underlying75 rfl info_st]
  have HC := Lib.hid hc
  rw [hc]
  clear hc
  have r2 := Z2.out.r.c2
  have rl := Z2.out.r.lt
  by_cases d1 : day < r.day
  case pos =>
    have HA := Lib.hid (show ac = (S, 64) by rw [← HAC.out]; unfold accR; rw [if_neg (fun q => q HC.out), if_pos d1])
    go_upto_region 6 with fail
    clear r2 rl d1
    have HO := Lib.hid Z2.out.o
    have HZ := Lib.hid Z2.out.z
    have H1 := Lib.hid (stRow_one t0 t1 t2 t3 t4)
    go_wp2_with (first | (refine wpList_load_row rfl 75 _ rfl g rfl 75 (stRow t0 t1 t2 t3 t4) (0, 0) _ HO.out Tryz.underlying75 rfl info_st ?_) | (refine wpRow_store rfl 75 _ _ rfl rfl (w.heap.size + 1 + 1) (stRow t0 t1 t2 t3 t4) rfl rfl 75 #[.slice none 0 0, .slice none 0 0, .slice none 0 0, .slice none 0 0, .slice none 0 0] HZ.out info_st rfl H1.out ?_))
    have HY := Lib.hid (row_at (cells := stRow t0 t1 t2 t3 t4) HZ.out)
    refine bodyPost_ret (v := .tuple #[.agg (stRow t0 t1 t2 t3 t4), .int .i64 64]) ?_ rfl ⟨t0, t1, t2, t3, t4, by rw [HA.out]; rfl, by rw [HA.out]; exact (Z2.out.fin _).2, (Z2.out.fin _).1⟩
    simp [results, Tryz.results68, asAddr, run_loadVar_row _ (w.heap.size + 1 + 1) 75 75 (stRow t0 t1 t2 t3 t4) (0, 0) _ HY.out Tryz.underlying75 rfl info_st]
  have HD1 := Lib.hid (show ¬ day < r.day by omega)
  go_upto_region 7 with fail
  clear r2 rl d1
  have HS := Lib.hid Z2.out.s
  have HR := Lib.hid Z2.out.r.row
  go_wp2_with (first | (refine wpList_load_row rfl 75 _ rfl w.heap.size rfl 75 (stRow s0 s1 s2 s3 s4) (0, 0) _ HS.out Tryz.underlying75 rfl info_st ?_) | (refine wpList_load_row rfl 103 _ rfl (w.heap.size + 1) rfl 103 (rvRow r (.slice A r.ser.length c)) (0, 0) _ HR.out Tryz.underlying103 rfl info_rv ?_))
  refine (HSG.out w2 Z2.out.ext).mono ?_
  rintro e w3 ⟨rfl, b3⟩
  have Z3 := Lib.hid (Z2.out.tr b3)
  clear b3 HS HR Z2 HSG
  obtain ⟨sv, hsv⟩ : ∃ sv, signedV S r day = sv := ⟨_, rfl⟩
  rw [hsv]
  have HSV := Lib.hid hsv
  clear hsv
  by_cases d2 : sv = 0
  case neg =>
    have HA := Lib.hid (show ac = (S, sv) by rw [← HAC.out]; unfold accR; rw [if_neg (fun q => q HC.out), if_neg (by have := HD1.out; omega), HSV.out, if_pos d2])
    have hb : (sv != 0) = true := by simpa using d2
    clear d2
    have HO := Lib.hid Z3.out.o
    have HZ := Lib.hid Z3.out.z
    have H1 := Lib.hid (stRow_one t0 t1 t2 t3 t4)
    go_wp2_with (first | (refine wpList_load_row rfl 75 _ rfl g rfl 75 (stRow t0 t1 t2 t3 t4) (0, 0) _ HO.out Tryz.underlying75 rfl info_st ?_) | (refine wpRow_store rfl 75 _ _ rfl rfl (w.heap.size + 1 + 1) (stRow t0 t1 t2 t3 t4) rfl rfl 75 #[.slice none 0 0, .slice none 0 0, .slice none 0 0, .slice none 0 0, .slice none 0 0] HZ.out info_st rfl H1.out ?_))
    have HY := Lib.hid (row_at (cells := stRow t0 t1 t2 t3 t4) HZ.out)
    refine bodyPost_ret (v := .tuple #[.agg (stRow t0 t1 t2 t3 t4), .int .i64 sv]) ?_ rfl ⟨t0, t1, t2, t3, t4, by rw [HA.out]; rfl, by rw [HA.out]; exact (Z3.out.fin _).2, (Z3.out.fin _).1⟩
    simp [results, Tryz.results68, asAddr, run_loadVar_row _ (w.heap.size + 1 + 1) 75 75 (stRow t0 t1 t2 t3 t4) (0, 0) _ HY.out Tryz.underlying75 rfl info_st]
  subst d2
  go_upto_region 10 with fail
  have HS := Lib.hid Z3.out.s
  have r0 := Z3.out.r.c0
  have rl := Z3.out.r.lt
  go_wp2_with (refine wpList_load_row rfl 75 _ rfl w.heap.size rfl 75 (stRow s0 s1 s2 s3 s4) (0, 0) _ HS.out Tryz.underlying75 rfl info_st ?_)
  refine (HPL.out w3 Z3.out.ext).mono ?_
  rintro e w4 ⟨rfl, b4⟩
  have Z4 := Lib.hid (Z3.out.tr b4)
  clear b4 HS r0 rl Z3 HPL
  have HBR := Lib.hid (show ac = match S.rs.findIdx? (fun t => decide (t.st = r.st)) with
    | some i => if r.num ≤ (S.rs.getD i zeroR).num then (S, 67) else (⟨S.roots, S.pool, S.ms, S.rs.set i r, S.ds⟩, 0)
    | none => if 16 ≤ S.rs.length then (S, 72) else (⟨S.roots, S.pool, S.ms, S.rs ++ [r], S.ds⟩, 0) by
      rw [← HAC.out]; unfold accR; rw [if_neg (fun q => q HC.out), if_neg (by have := HD1.out; omega), HSV.out, if_neg (by decide)]; rfl)
  clear HAC HC HD1 HSV
  obtain ⟨A3, n3, c3, e3, hn3, hnc3, hcm3, hel3⟩ := HR3.out.at_
  obtain ⟨sA3, sn3, sc3⟩ := s3
  unfold slV at e3
  injection e3 with e31 e32 e33
  simp only at e31 e32 e33
  subst e31 e32 e33 hn3
  unfold maxLen at hcm3
  have HEL := Lib.hid hel3
  clear hel3
  cases hf : S.rs.findIdx? (fun t => decide (t.st = r.st)) with
  | none =>
    have HP := show plV S.rs r.st = -1 by unfold plV; rw [hf]
    rw [HP]
    rw [hf] at HBR
    clear HP hf
    go_upto_region 12 with fail
    refine Gd.wp_region_X 12 (by kernel_rfl) (by kernel_rfl) ?_
    simp only [List.take_succ_cons, List.take_zero, List.drop_succ_cons, List.drop_zero]
    intro w1 hw1
    repeat (first | (refine Gd.wpX_skip (by exact ⟨_, rfl, rfl, rfl⟩) rfl rfl ?_; simp only [Act.put, List.setIfInBounds_toArray, List.set_cons_zero, List.set_cons_succ]) | (refine Gd.wpX_pure (by first | exact trivial | exact ⟨_, rfl, rfl, rfl⟩) rfl rfl rfl rfl rfl (fun K hK => ?_); go_big_quiet_op; refine hK _ ?_; clear hK K))
    refine Gd.wpX_end0 (fun m => ?_)
    have Z5 := Lib.hid (Z4.out.tr (hw1.tr m.2))
    clear hw1 Z4
    generalize m.1 = w5 at *
    show wpList _ _ _ _ _ _
    have s3c : w5.cell? ⟨w.heap.size, 3, none⟩ = some (.slice sA3 S.rs.length sc3) := by rw [cell_of_row _ _ 3 _ _ _ Z5.out.s]; rfl
    have sl := block_lt Z5.out.s
    by_cases d3 : 16 ≤ S.rs.length
    case pos =>
      have HA := Lib.hid (show ac = (S, 72) by rw [HBR.out]; exact if_pos d3)
      have hd : (16 : Int) ≤ (S.rs.length : Int) := by omega
      go_upto_region 17 with fail
      clear s3c sl hd d3
      have HO := Lib.hid Z5.out.o
      have HZ := Lib.hid Z5.out.z
      have H1 := Lib.hid (stRow_one t0 t1 t2 t3 t4)
      go_wp2_with (first | (refine wpList_load_row rfl 75 _ rfl g rfl 75 (stRow t0 t1 t2 t3 t4) (0, 0) _ HO.out Tryz.underlying75 rfl info_st ?_) | (refine wpRow_store rfl 75 _ _ rfl rfl (w.heap.size + 1 + 1) (stRow t0 t1 t2 t3 t4) rfl rfl 75 #[.slice none 0 0, .slice none 0 0, .slice none 0 0, .slice none 0 0, .slice none 0 0] HZ.out info_st rfl H1.out ?_))
      have HY := Lib.hid (row_at (cells := stRow t0 t1 t2 t3 t4) HZ.out)
      refine bodyPost_ret (v := .tuple #[.agg (stRow t0 t1 t2 t3 t4), .int .i64 72]) ?_ rfl ⟨t0, t1, t2, t3, t4, by rw [HA.out]; rfl, by rw [HA.out]; exact (Z5.out.fin _).2, (Z5.out.fin _).1⟩
      simp [results, Tryz.results68, asAddr, run_loadVar_row _ (w.heap.size + 1 + 1) 75 75 (stRow t0 t1 t2 t3 t4) (0, 0) _ HY.out Tryz.underlying75 rfl info_st]
    have HA := Lib.hid (show ac = (⟨S.roots, S.pool, S.ms, S.rs ++ [r], S.ds⟩, 0) by rw [HBR.out]; exact if_neg d3)
    have hd : ¬ (16 : Int) ≤ (S.rs.length : Int) := by omega
    have HLN := Lib.hid (show S.rs.length ≤ 15 by omega)
    go_upto_region 11 with fail
    clear s3c sl hd d3
    obtain ⟨ps, hps, OP⟩ := Z5.out.own.o3
    have hnt : t3.2.1 = ps.length := by
      obtain ⟨A', n', c', e', hn', -⟩ := OP.1
      unfold slV at e'
      injection e' with _ e2 _
      rw [e2]
      rw [kR.cells_len] at hn'
      exact Nat.eq_of_mul_eq_mul_right kR.pos hn'
    have HLX := Lib.hid (show t3.2.1 * 8 = (kR.cells ps).length by rw [hnt, kR.cells_len]; rfl)
    have HL15 := Lib.hid (show t3.2.1 ≤ 15 by rw [hnt]; have h1 := congrArg List.length hps; rw [List.length_map] at h1; have := HLN.out; omega)
    have k1 := rowOf_bd OP.1
    have HOP := Lib.hid OP
    have HPS := Lib.hid hps
    clear hps OP hnt
    refine Gr.wp_region_X (r := (apR (w.heap.size + 1 + 1 + 1) (slV t3) t3.2.1 (kR.cells ps) r)) 7 (by kernel_rfl) (by kernel_rfl) ?_
    simp only [List.take_succ_cons, List.take_zero, List.drop_succ_cons, List.drop_zero]
    intro wq hw1
    have JL : ∀ m : (apR (w.heap.size + 1 + 1 + 1) (slV t3) t3.2.1 (kR.cells ps) r).Lt wq, ApRel (w.heap.size + 1 + 1 + 1) (slV t3) t3.2.1 (kR.cells ps) r w5 m.1 := fun m => ((apR (w.heap.size + 1 + 1 + 1) (slV t3) t3.2.1 (kR.cells ps) r).tr hw1 m.2) HOP.out.1
    have JK := fun m : (apR (w.heap.size + 1 + 1 + 1) (slV t3) t3.2.1 (kR.cells ps) r).Lt wq => Z5.out.keep HOP.out (JL m).g
    have JO : ∀ m : (apR (w.heap.size + 1 + 1 + 1) (slV t3) t3.2.1 (kR.cells ps) r).Lt wq, OwnK m.1 (w.heap.size + 1 + 1 + 1) 103 8 (slV t3) (kR.cells ps) := fun m => (JL m).p1 HOP.out.1
    have JS : ∀ m : (apR (w.heap.size + 1 + 1 + 1) (slV t3) t3.2.1 (kR.cells ps) r).Lt wq, (w.heap.size + 1 + 1 + 1) ≤ m.1.heap.size := fun m => Nat.le_trans Z5.out.hg (Nat.le_of_lt (block_lt (JK m).1))
    have ko : ∀ m : (apR (w.heap.size + 1 + 1 + 1) (slV t3) t3.2.1 (kR.cells ps) r).Lt wq, m.1.cell? ⟨g, 3, none⟩ = some (.slice t3.1 t3.2.1 t3.2.2) := fun m => by rw [cell_of_row _ _ 3 _ _ _ (JK m).1]; rfl
    have kg : ∀ m : (apR (w.heap.size + 1 + 1 + 1) (slV t3) t3.2.1 (kR.cells ps) r).Lt wq, g < m.1.heap.size := fun m => block_lt (JK m).1
    have r0 := fun m : (apR (w.heap.size + 1 + 1 + 1) (slV t3) t3.2.1 (kR.cells ps) r).Lt wq => (JK m).2.1.c0
    have r1 := fun m : (apR (w.heap.size + 1 + 1 + 1) (slV t3) t3.2.1 (kR.cells ps) r).Lt wq => (JK m).2.1.c1
    have r2 := fun m : (apR (w.heap.size + 1 + 1 + 1) (slV t3) t3.2.1 (kR.cells ps) r).Lt wq => (JK m).2.1.c2
    have r3 := fun m : (apR (w.heap.size + 1 + 1 + 1) (slV t3) t3.2.1 (kR.cells ps) r).Lt wq => (JK m).2.1.c3
    have r4 := fun m : (apR (w.heap.size + 1 + 1 + 1) (slV t3) t3.2.1 (kR.cells ps) r).Lt wq => (JK m).2.1.c4
    have r5 := fun m : (apR (w.heap.size + 1 + 1 + 1) (slV t3) t3.2.1 (kR.cells ps) r).Lt wq => (JK m).2.1.c5
    have r6 := fun m : (apR (w.heap.size + 1 + 1 + 1) (slV t3) t3.2.1 (kR.cells ps) r).Lt wq => (JK m).2.1.c6
    have r7 := fun m : (apR (w.heap.size + 1 + 1 + 1) (slV t3) t3.2.1 (kR.cells ps) r).Lt wq => (JK m).2.1.c7
    have rl := fun m : (apR (w.heap.size + 1 + 1 + 1) (slV t3) t3.2.1 (kR.cells ps) r).Lt wq => (JK m).2.1.lt
    have HJL := Lib.hid JL
    have HJK := Lib.hid JK
    have HJO := Lib.hid JO
    have HJS := Lib.hid JS
    clear JL JK JO JS
    repeat (first | (refine Gr.wpX_nil (by first | exact trivial | exact ⟨_, rfl, rfl, rfl⟩) _ rfl rfl rfl rfl rfl ?_; simp only [Act.put, List.setIfInBounds_toArray, List.set_cons_zero, List.set_cons_succ]) | (refine Gr.wpX_pure (by first | exact trivial | exact ⟨_, rfl, rfl, rfl⟩) rfl rfl rfl rfl rfl (fun K hK => ?_); go_big_quiet_op; refine hK _ ?_; clear hK K))
    refine Gr.wpX_callF (by first | exact trivial | exact ⟨_, rfl, rfl, rfl⟩) (GvA (w.heap.size + 1 + 1 + 1) (slV t3) (kR.cells ps) r) (stable_GvA _ _ _ _ _) (fun _ => [.agg #[.string (bstr r.st), .int .i64 r.num, .int .i64 r.day, .int .i64 r.nxt, .slice A r.ser.length c, .int .i64 r.iss, .int .i64 r.e, .int .i64 r.s]]) rfl rfl rfl rfl rfl (by kernel_rfl) rfl (fun _ => rfl) (fun m f hf => (HCR.out m.1 (HJK.out m).2.2).mono fun e w'' ⟨A6, n6, c6, h1, h2, h3⟩ => ⟨_, h1, (apR (w.heap.size + 1 + 1 + 1) (slV t3) t3.2.1 (kR.cells ps) r).ext h3, (HJO.out m).ext h3, A6, n6, c6, rfl, h2.k1.mono (HJS.out m)⟩) ?_
    simp only [Act.put, List.setIfInBounds_toArray, List.set_cons_zero, List.set_cons_succ]
    refine Gr.wpX_buildSL (by first | exact trivial | exact ⟨_, rfl, rfl, rfl⟩) (GlA (w.heap.size + 1 + 1 + 1) w5.heap.size (slV t3) (kR.cells ps) r) (stable_GlA k1 _ _ _) (fun f => [(0, f 40)]) rfl rfl rfl rfl rfl (fun _ => rfl) (fun m f hf => ?_) ?_
    · obtain ⟨o, A6, n6, c6, e6, O6⟩ := hf 40 _ rfl rfl
      rw [e6]
      have eA : Ext m.1 (m.1.alloc (.cells (rvCells r (.slice A6 n6 c6)).toArray 103)) := (Below.refl _ _).alloc (Nat.le_refl _) _
      exact ⟨_, _, run_oneRv m.1 r A6 n6 c6, (apR (w.heap.size + 1 + 1 + 1) (slV t3) t3.2.1 (kR.cells ps) r).ext eA, o.ext eA, _, _, rfl, (HJL.out m).g.size, heap_alloc_new' _ _, O6.ext eA⟩
    simp only [Act.put, List.setIfInBounds_toArray, List.set_cons_zero, List.set_cons_succ]
    refine Gr.wpX_appL (by first | exact trivial | exact ⟨_, rfl, rfl, rfl⟩) (GaA (w.heap.size + 1 + 1 + 1) (slV t3) t3.2.1 (kR.cells ps) r) (stable_GaA _ _ _ _ _) (fun _ => .slice t3.1 t3.2.1 t3.2.2) (fun f => f 41) rfl rfl rfl rfl rfl rfl (fun _ => rfl) (fun _ => rfl) (fun m f hf => ?_) ?_
    · have h41 : GlA (w.heap.size + 1 + 1 + 1) w5.heap.size (slV t3) (kR.cells ps) r (f 41) m.1 := hf 41 _ rfl rfl
      obtain ⟨u, R6, U6⟩ := h41.rd
      obtain ⟨A8, c8, w8, q1, q2, q3⟩ := run_apR h41.1 HLX.out R6 U6 (by have := HL15.out; omega) (HJS.out m)
      exact ⟨_, w8, q1, fun _ => q2, q2.p1 h41.1, A8, c8, rfl, q3⟩
    simp only [Act.put, List.setIfInBounds_toArray, List.set_cons_zero, List.set_cons_succ]
    repeat (first | (refine Gr.wpX_nil (by first | exact trivial | exact ⟨_, rfl, rfl, rfl⟩) _ rfl rfl rfl rfl rfl ?_; simp only [Act.put, List.setIfInBounds_toArray, List.set_cons_zero, List.set_cons_succ]) | (refine Gr.wpX_pure (by first | exact trivial | exact ⟨_, rfl, rfl, rfl⟩) rfl rfl rfl rfl rfl (fun K hK => ?_); go_big_quiet_op; refine hK _ ?_; clear hK K))
    refine Gr.wpX_endL (fun m f hf => ?_)
    obtain ⟨o9, A8, c8, e42, u, o8, U8⟩ := hf 42 _ rfl
    simp only [fillH]
    simp only [Act.put, List.setIfInBounds_toArray, List.set_cons_zero, List.set_cons_succ]
    rw [e42]
    obtain ⟨q3, ql, qf, z9⟩ := AcZ.app Z5.out HOP.out HPS.out U8 o8 (HJL.out m).g
    have HZ9 := Lib.hid z9
    clear hf e42 hw1 HJL HJK HJO HJS ko kg r0 r1 r2 r3 r4 r5 r6 r7 rl o9 o8 U8 z9 k1 HOP
    generalize m.1 = w8 at *
    generalize f 40 = f40 at *
    generalize f 41 = f41 at *
    clear m f
    show wpList _ _ _ _ _ _
    have HO := Lib.hid HZ9.out.o
    have HZ := Lib.hid HZ9.out.z
    have H1 := Lib.hid (stRow_one t0 t1 t2 (A8, t3.2.1 + 1, c8) t4)
    go_wp2_with (first | (refine wpList_load_row rfl 75 _ rfl g rfl 75 (stRow t0 t1 t2 (A8, t3.2.1 + 1, c8) t4) (0, 0) _ HO.out Tryz.underlying75 rfl info_st ?_) | (refine wpRow_store rfl 75 _ _ rfl rfl (w.heap.size + 1 + 1) (stRow t0 t1 t2 (A8, t3.2.1 + 1, c8) t4) rfl rfl 75 #[.slice none 0 0, .slice none 0 0, .slice none 0 0, .slice none 0 0, .slice none 0 0] HZ.out info_st rfl H1.out ?_))
    have HY := Lib.hid (row_at (cells := stRow t0 t1 t2 (A8, t3.2.1 + 1, c8) t4) HZ.out)
    refine bodyPost_ret (v := .tuple #[.agg (stRow t0 t1 t2 (A8, t3.2.1 + 1, c8) t4), .int .i64 0]) ?_ rfl ⟨t0, t1, t2, (A8, t3.2.1 + 1, c8), t4, by rw [HA.out]; rfl, by rw [HA.out]; exact (HZ9.out.fin _).2, (HZ9.out.fin _).1⟩
    simp [results, Tryz.results68, asAddr, run_loadVar_row _ (w.heap.size + 1 + 1) 75 75 (stRow t0 t1 t2 (A8, t3.2.1 + 1, c8) t4) (0, 0) _ HY.out Tryz.underlying75 rfl info_st]
  | some i =>
    have HP := show plV S.rs r.st = (i : Int) by unfold plV; rw [hf]
    rw [HP]
    rw [hf] at HBR
    have hil : i < S.rs.length := (List.findIdx?_eq_some_iff_getElem.1 hf).1
    clear HP hf
    obtain ⟨t, ht⟩ : ∃ t, S.rs[i]? = some t := ⟨_, List.getElem?_eq_getElem hil⟩
    have HG := Lib.hid (show S.rs.getD i zeroR = t by rw [List.getD_eq_getElem?_getD, ht]; rfl)
    obtain ⟨b, o, rfl, hbl, u, hcell, hu⟩ := HEL.out i t ht
    have hn1 : w.cell? ⟨b, o + i * 8 + 1, none⟩ = some (.int .i64 t.num) := by
      have := hcell 1 _ rfl
      rwa [← Nat.add_assoc] at this
    have HN1 := Lib.hid (And.intro hbl hn1)
    clear hcell hu ht hn1 hbl
    have wi1 : IntKind.i64.wrap ((i : Int)) = (i : Int) := IntWalk.i64_in _ (by omega)
    have zi1 : (0 : Int) ≤ (i : Int) := by omega
    have li1 : (i : Int) < (S.rs.length : Int) := by omega
    have ti1 : ((i : Int)).toNat = i := by omega
    go_upto_region 12 with fail
    refine Gd.wp_region_X 12 (by kernel_rfl) (by kernel_rfl) ?_
    simp only [List.take_succ_cons, List.take_zero, List.drop_succ_cons, List.drop_zero]
    intro w1 hw1
    have LL : ∀ m : Lt w1, Ext w4 m.1 := fun m => hw1.tr m.2
    have k3 : ∀ m : Lt w1, m.1.cell? ⟨w.heap.size, 3, none⟩ = some (.slice (some ⟨b, o, none⟩) S.rs.length sc3) := fun m => by rw [cell_of_row _ _ 3 _ _ _ (Z4.out.tr (LL m)).s]; rfl
    have k1 : ∀ m : Lt w1, m.1.cell? ⟨b, o + i * 8 + 1, none⟩ = some (.int .i64 t.num) := fun m => ((Z4.out.tr (LL m)).ext.cell (p := ⟨b, o + i * 8 + 1, none⟩) HN1.out.1).trans HN1.out.2
    have kr : ∀ m : Lt w1, m.1.cell? ⟨w.heap.size + 1, 1, none⟩ = some (.int .i64 r.num) := fun m => (Z4.out.tr (LL m)).r.c1
    have kl : ∀ m : Lt w1, w.heap.size + 1 < m.1.heap.size := fun m => (Z4.out.tr (LL m)).r.lt
    have kl0 : ∀ m : Lt w1, w.heap.size < m.1.heap.size := fun m => Nat.lt_of_succ_lt (kl m)
    have kb : ∀ m : Lt w1, b < m.1.heap.size := fun m => Nat.lt_of_lt_of_le HN1.out.1 (Z4.out.tr (LL m)).ext.size
    repeat (first | (refine Gd.wpX_skip (by exact ⟨_, rfl, rfl, rfl⟩) rfl rfl ?_; simp only [Act.put, List.setIfInBounds_toArray, List.set_cons_zero, List.set_cons_succ]) | (refine Gd.wpX_pure (by first | exact trivial | exact ⟨_, rfl, rfl, rfl⟩) rfl rfl rfl rfl rfl (fun K hK => ?_); go_big_quiet_op; refine hK _ ?_; clear hK K))
    refine Gd.wpX_end0 (fun m => ?_)
    have Z5 := Lib.hid (Z4.out.tr (LL m))
    clear hw1 LL k3 k1 kr kl kl0 kb Z4
    generalize m.1 = w5 at *
    show wpList _ _ _ _ _ _
    by_cases d3 : r.num ≤ t.num
    case pos =>
      have HA := Lib.hid (show ac = (S, 67) by rw [HBR.out]; show (if r.num ≤ (S.rs.getD i zeroR).num then _ else _) = _; rw [HG.out]; exact if_pos d3)
      go_upto_region 13 with fail
      clear d3
      have HO := Lib.hid Z5.out.o
      have HZ := Lib.hid Z5.out.z
      have H1 := Lib.hid (stRow_one t0 t1 t2 t3 t4)
      go_wp2_with (first | (refine wpList_load_row rfl 75 _ rfl g rfl 75 (stRow t0 t1 t2 t3 t4) (0, 0) _ HO.out Tryz.underlying75 rfl info_st ?_) | (refine wpRow_store rfl 75 _ _ rfl rfl (w.heap.size + 1 + 1) (stRow t0 t1 t2 t3 t4) rfl rfl 75 #[.slice none 0 0, .slice none 0 0, .slice none 0 0, .slice none 0 0, .slice none 0 0] HZ.out info_st rfl H1.out ?_))
      have HY := Lib.hid (row_at (cells := stRow t0 t1 t2 t3 t4) HZ.out)
      refine bodyPost_ret (v := .tuple #[.agg (stRow t0 t1 t2 t3 t4), .int .i64 67]) ?_ rfl ⟨t0, t1, t2, t3, t4, by rw [HA.out]; rfl, by rw [HA.out]; exact (Z5.out.fin _).2, (Z5.out.fin _).1⟩
      simp [results, Tryz.results68, asAddr, run_loadVar_row _ (w.heap.size + 1 + 1) 75 75 (stRow t0 t1 t2 t3 t4) (0, 0) _ HY.out Tryz.underlying75 rfl info_st]
    have HA := Lib.hid (show ac = (⟨S.roots, S.pool, S.ms, S.rs.set i r, S.ds⟩, 0) by rw [HBR.out]; show (if r.num ≤ (S.rs.getD i zeroR).num then _ else _) = _; rw [HG.out]; exact if_neg d3)
    obtain ⟨ps, hps, OP⟩ := Z5.out.own.o3
    have hpl : ps.length = S.rs.length := by rw [← hps, List.length_map]
    have hip : i < ps.length := by omega
    obtain ⟨gR, cur, hAt, hnt, hnct, hcmt, hBg, hgR⟩ := OwnP.form (show OwnP kR w5 _ (.slice t3.1 t3.2.1 t3.2.2) ps from OP) hip
    have HT3 := Lib.hid (show (Value.slice t3.1 t3.2.1 t3.2.2) = .slice (some ⟨gR, 0, none⟩) ps.length t3.2.2 by rw [hAt, hnt])
    have HOP := Lib.hid OP
    have HGR := Lib.hid hgR
    have HPS := Lib.hid hps
    have HBG := Lib.hid hBg
    unfold maxLen at hcmt
    rw [hnt] at hnct
    clear hps OP hAt hnt hgR hpl hBg
    go_upto_region 15 with fail
    clear d3
    have wi2 : IntKind.i64.wrap ((i : Int)) = (i : Int) := IntWalk.i64_in _ (by omega)
    have zi2 : (0 : Int) ≤ (i : Int) := by omega
    have li2 : (i : Int) < (ps.length : Int) := by omega
    have ti2 : ((i : Int)).toNat = i := by omega
    refine Gd.wp_region_X 6 (by kernel_rfl) (by kernel_rfl) ?_
    simp only [List.take_succ_cons, List.take_zero, List.drop_succ_cons, List.drop_zero]
    intro wq hw1
    have LL : ∀ m : Lt wq, Ext w5 m.1 := fun m => hw1.tr m.2
    have ko : ∀ m : Lt wq, m.1.cell? ⟨g, 3, none⟩ = some (.slice (some ⟨gR, 0, none⟩) ps.length t3.2.2) := fun m => by rw [cell_of_row _ _ 3 _ _ _ (Z5.out.tr (LL m)).o, ← HT3.out]; rfl
    have kg : ∀ m : Lt wq, g < m.1.heap.size := fun m => block_lt (Z5.out.tr (LL m)).o
    have r0 := fun m : Lt wq => (Z5.out.tr (LL m)).r.c0
    have r1 := fun m : Lt wq => (Z5.out.tr (LL m)).r.c1
    have r2 := fun m : Lt wq => (Z5.out.tr (LL m)).r.c2
    have r3 := fun m : Lt wq => (Z5.out.tr (LL m)).r.c3
    have r4 := fun m : Lt wq => (Z5.out.tr (LL m)).r.c4
    have r5 := fun m : Lt wq => (Z5.out.tr (LL m)).r.c5
    have r6 := fun m : Lt wq => (Z5.out.tr (LL m)).r.c6
    have r7 := fun m : Lt wq => (Z5.out.tr (LL m)).r.c7
    have rl := fun m : Lt wq => (Z5.out.tr (LL m)).r.lt
    repeat (refine Gd.wpX_pure (by first | exact trivial | exact ⟨_, rfl, rfl, rfl⟩) rfl rfl rfl rfl rfl (fun K hK => ?_); go_big_quiet_op; refine hK _ ?_; clear hK K)
    refine Gd.wpX_callF (by first | exact trivial | exact ⟨_, rfl, rfl, rfl⟩) (GRv w5.heap.size r) (stable_GRv _ _) (fun _ => [.agg #[.string (bstr r.st), .int .i64 r.num, .int .i64 r.day, .int .i64 r.nxt, .slice A r.ser.length c, .int .i64 r.iss, .int .i64 r.e, .int .i64 r.s]]) rfl rfl rfl rfl rfl (by kernel_rfl) rfl (fun _ => rfl) (fun m f hf => (HCR.out m.1 (Z5.out.tr (LL m)).ext).mono fun e w'' ⟨A6, n6, c6, h1, h2, h3⟩ => ⟨_, h1, h3, A6, n6, c6, rfl, h2.k1.mono (LL m).size⟩) ?_
    simp only [Act.put, List.setIfInBounds_toArray, List.set_cons_zero, List.set_cons_succ]
    repeat (refine Gd.wpX_pure (by first | exact trivial | exact ⟨_, rfl, rfl, rfl⟩) rfl rfl rfl rfl rfl (fun K hK => ?_); go_big_quiet_op; refine hK _ ?_; clear hK K)
    refine Gd.wpX_endL (fun m f hf => ?_)
    obtain ⟨A6, n6, c6, e66, O6⟩ := hf 66 _ rfl
    simp only [fillH]
    simp only [Act.put, List.setIfInBounds_toArray, List.set_cons_zero, List.set_cons_succ]
    rw [e66]
    have Z6 := Lib.hid (Z5.out.tr (LL m))
    have OP6 := HOP.out.ext (LL m)
    have hBw := Z5.out.hg
    have hgw := block_lt Z5.out.o
    obtain ⟨g2, eg, hBg2, hth, hlt2, ⟨cs2, hcs2⟩, OP2⟩ := OwnP.setAt (A := t3.1) (n := t3.2.1) (c := t3.2.2) (a := r) (u := .slice A6 n6 c6) OP6 (O6.mono (by omega)) hip
    have hgg : g2 = gR := by
      have := HT3.out
      rw [eg] at this
      injection this with h1
      injection h1 with h1
      injection h1
    subst hgg
    have HTH := Lib.hid (show m.1.there g2 (i * 8) (rvCells r (.slice A6 n6 c6)).length from hth)
    have HONE := Lib.hid (show (rvCells r (.slice A6 n6 c6)).toArray.all (·.oneCell') = true by simp [rvCells, Value.oneCell'])
    have gb := Gb.setCellsU g2 (rvCells r (.slice A6 n6 c6)) (i * 8) m.1
    have hne : g ≠ g2 := fun q => by
      have h1 := Z6.out.o
      rw [q, hcs2] at h1
      injection h1 with h1
      injection h1 with _ h1
      exact absurd h1 (by decide)
    have Z7 : Hid (AcZ w (m.1.setCells g2 (i * 8) (rvCells r (.slice A6 n6 c6))) s0 s1 s2 (some ⟨b, o, none⟩, S.rs.length, sc3) s4 t0 t1 t2 t3 t4 ⟨S.roots, S.pool, S.ms, S.rs.set i r, S.ds⟩ r (.slice A r.ser.length c) g) := Lib.hid
      ⟨Gb.below Z6.out.ext gb (by have := HBG.out; omega), (gb.block _ (block_lt Z6.out.s) (fun q => by injection q with q; have := HBG.out; omega)).trans Z6.out.s, (gb.block _ Z6.out.r.lt (fun q => by injection q with q; have := HBG.out; omega)).trans Z6.out.r,
        (gb.block _ (block_lt Z6.out.z) (fun q => by injection q with q; have := HBG.out; omega)).trans Z6.out.z, (gb.block _ (block_lt Z6.out.o) (fun q => by injection q with q; exact hne q)).trans Z6.out.o,
        Z6.out.own.gr (S' := ⟨S.roots, S.pool, S.ms, S.rs.set i r, S.ds⟩) hcs2 gb ⟨_, by rw [map_set_fst, HPS.out], OP2⟩ rfl rfl rfl rfl, Z6.out.hg⟩
    clear hf e66 hw1 LL ko kg r0 r1 r2 r3 r4 r5 r6 r7 rl O6 OP6 hBw hgw eg hBg2 hth hlt2 hcs2 OP2 gb hne HCR Z5 Z6 HOP HGR
    generalize m.1 = w6 at *
    clear m f
    show wpList _ _ _ _ _ _
    refine wpMid_store rfl 103 _ _ rfl rfl g2 (i * 8) (rvCells r (.slice A6 n6 c6)) rfl rfl HTH.out info_rv HONE.out ?_
    generalize w6.setCells g2 (i * 8) (rvCells r (.slice A6 n6 c6)) = w7 at *
    have HO := Lib.hid Z7.out.o
    have HZ := Lib.hid Z7.out.z
    have H1 := Lib.hid (stRow_one t0 t1 t2 t3 t4)
    go_wp2_with (first | (refine wpList_load_row rfl 75 _ rfl g rfl 75 (stRow t0 t1 t2 t3 t4) (0, 0) _ HO.out Tryz.underlying75 rfl info_st ?_) | (refine wpRow_store rfl 75 _ _ rfl rfl (w.heap.size + 1 + 1) (stRow t0 t1 t2 t3 t4) rfl rfl 75 #[.slice none 0 0, .slice none 0 0, .slice none 0 0, .slice none 0 0, .slice none 0 0] HZ.out info_st rfl H1.out ?_))
    have HY := Lib.hid (row_at (cells := stRow t0 t1 t2 t3 t4) HZ.out)
    refine bodyPost_ret (v := .tuple #[.agg (stRow t0 t1 t2 t3 t4), .int .i64 0]) ?_ rfl ⟨t0, t1, t2, t3, t4, by rw [HA.out]; rfl, by rw [HA.out]; exact (Z7.out.fin _).2, (Z7.out.fin _).1⟩
    simp [results, Tryz.results68, asAddr, run_loadVar_row _ (w.heap.size + 1 + 1) 75 75 (stRow t0 t1 t2 t3 t4) (0, 0) _ HY.out Tryz.underlying75 rfl info_st]
end Go.Proofs.YtkjplpmogfmhkaaGreatDoor
namespace Go.Proofs.YtkjplpmogfmhkaaGreatDoor
open Go.RowKit
set_option linter.unusedVariables false
set_option maxRecDepth 100000
theorem rdi2 (W : World) (x y : Int) : RdI (W.alloc (.cells #[.int .i64 x, .int .i64 y] 3)) .i64 (.slice (some ⟨W.heap.size, 0, none⟩) 2 2) [x, y] := Rd.lit W _ _ 2 rfl (by unfold maxLen; omega)
theorem days_awake2 : daysA [0, 1] = [40000] := by decide
theorem state_awake2 : stateN (dv [0, 1] 4) = utoZ := by decide
theorem stB_one {c : NC} (h : smN c) : StB ⟨[c], [], [], [], []⟩ := ⟨fun x hx => by rw [List.mem_singleton.1 hx]; exact h, fun x hx => (by cases hx), fun x hx => (by cases hx), fun x hx => (by cases hx), fun x hx => (by cases hx), by show 1 ≤ 10000; omega, by show 0 ≤ 10000; omega, by show 0 ≤ 20; omega, by show 0 ≤ 10000; omega, by show 0 ≤ 10000; omega⟩
theorem stB_two {c : NC} {r : RV} (h : smN c) (hr : r.ser.length ≤ 10000) : StB ⟨[c], [], [], [r], []⟩ := ⟨fun x hx => by rw [List.mem_singleton.1 hx]; exact h, fun x hx => (by cases hx), fun x hx => (by cases hx), fun x hx => by rw [List.mem_singleton.1 hx]; exact hr, fun x hx => (by cases hx), by show 1 ≤ 10000; omega, by show 0 ≤ 10000; omega, by show 0 ≤ 20; omega, by show 1 ≤ 10000; omega, by show 0 ≤ 10000; omega⟩
theorem awR_ser (k num : Int) : (awR k num).ser.length ≤ 1 := by
  unfold awR isCR
  split
  · exact Nat.le_refl _
  · exact Nat.zero_le _
theorem awR_st (k num : Int) : (awR k num).st.length ≤ 3 := by
  unfold awR isCR
  split
  · exact Nat.le_refl _
  · exact Nat.zero_le _
set_option maxHeartbeats 16000000 in
theorem awake32_any (w : World) (E : Env w) : Calls Tryz.prog 65 #[] w (RetQ w (.bool true)) := by
  have eA : Ext w (w.alloc (.cells #[.int .i64 0, .int .i64 1] 3)) := (Below.refl _ _).alloc (Nat.le_refl _) _
  have HAU := Lib.hid (authority_any (w.alloc (.cells #[.int .i64 0, .int .i64 1] 3)) (rdi2 w 0 1) (fun x hx => by
    simp only [List.mem_cons, List.not_mem_nil, or_false] at hx
    unfold wf64
    rcases hx with rfl | rfl <;> omega) (by show 2 ≤ 1000; omega) (E.ext eA).r)
  go_enter Tryz.func65, Tryz.ntmps65
  go_wp2_with fail
  refine HAU.out.mono ?_
  rintro e w1 ⟨b1, x, a, rfl, ar, ai, hst, hli, hV, hD', hZ⟩
  rw [days_awake2] at ai
  rw [state_awake2] at hst
  obtain ⟨c, k, er, es, smc, gst, lst, g1, g2, smg, sml, gne, hk0, ac1, ac2, rv1, rv2, fr1, fr2⟩ := awake32_plain ai hst
  have X1 := eA.tr b1
  have hsg := ar.sg
  have hls := ar.ls
  have hxs := ar.st.trans hst
  rw [← hsg] at gst g1 g2 smg gne hk0 ac1 ac2 rv1 rv2 fr1 fr2
  rw [← hls] at lst sml gne rv2
  have rdS : RdI w1 .i64 x.S [k] := by have h := ar.o3.rd; rw [es] at h; exact RdK.r1 h
  have rdR : RdN w1 x.R [c] := by have h := ar.o1.rd; rw [er] at h; exact h
  have HAB := Lib.hid (show AbOne x from ⟨ar.o1.one, ar.o2.one, ar.o3.one, by rw [hV]; rfl, by rw [hD']; rfl, by rw [hZ]; rfl⟩)
  have H1 := Lib.hid (abRow_one HAB.out)
  obtain ⟨wc, hwc, ec, TC⟩ : ∃ wc, wc = (w1.alloc (.cells (.string ⟨#[]⟩ :: .slice none 0 0 :: .slice none 0 0 :: .slice none 0 0 :: .string ⟨#[]⟩ :: .int .i64 0 :: .int .i64 0 :: .int .i64 0 :: .int .i64 0 :: .int .i64 0 :: .int .i64 0 :: .int .i64 0 :: .int .i64 0 :: .int .i64 0 :: .int .i64 0 :: .string ⟨#[]⟩ :: .int .i64 0 :: .int .i64 0 :: .int .i64 0 :: .int .i64 0 :: .int .i64 0 :: .int .i64 0 :: .int .i64 0 :: .int .i64 0 :: .int .i64 0 :: .int .i64 0 :: .int .i64 0 :: .int .i64 0 :: .int .i64 0 :: .int .i64 0 :: .slice none 0 0 :: .slice none 0 0 :: .slice none 0 0 :: ([] : List Value)).toArray 98)).setRow w1.heap.size (abRow x) ∧ Ext w1 wc ∧ AuAt wc w1.heap.size x :=
    ⟨_, rfl, ext_setRow ((Below.refl _ _).alloc (Nat.le_refl _) _) (Nat.le_refl _) _, row_at (heap_alloc_new' w1 _)⟩
  have HALL := Lib.hid (heap_alloc_new' w1 (.cells (abRow zeroAB) 98))
  have XC := Lib.hid (X1.tr ec)
  have HRV := Lib.hid (by
    have h := revk_any x [] [k] k x.sg.num 40010 wc (by rw [hV]; exact Rd.nil_ wc) (rdS.ext ec) rfl (by show 1 ≤ 100; omega) (by show 0 ≤ 1000; omega) (by rw [hxs]; unfold maxLen; decide) (by omega) (by omega) (by omega) (by omega) HAB.out (E.ext XC.out).r
    rw [hxs, hli] at h
    exact h : Calls Tryz.prog 74 #[abV x, .int .i64 x.sg.num, .int .i64 40010] wc (RvkR wc x (insT [] x.sg.num) (awR k x.sg.num) (isKR k ⟨utoZ, 1, 40010, 40100, [x.sg.num], 1, 0, 0⟩)))
  rw [hk0] at HRV
  have HRR := Lib.hid (RdK.ext rdR ec)
  have HE := Lib.hid (E.ext XC.out).d
  have HSE := Lib.hid (awR_ser k x.sg.num)
  have HST := Lib.hid (awR_st k x.sg.num)
  generalize awR k x.sg.num = r at *
  have HAC1 := Lib.hid ac1
  have HAC2 := Lib.hid ac2
  have HB1 := Lib.hid (stB_one smc)
  have HB2 := Lib.hid (stB_two smc (r := r) (by have := HSE.out; omega))
  have HV1 := Lib.hid rv1
  have HV2 := Lib.hid rv2
  have HF1 := Lib.hid fr1
  have HF2 := Lib.hid fr2
  have HGS := Lib.hid gst
  have HLS := Lib.hid lst
  have HTC := Lib.hid TC
  clear rdS rdR ar ai hst hli hV hD' hZ b1 eA X1 ec hsg hls hxs HAU er es smc gst lst g1 g2 smg sml gne hk0 ac1 ac2 rv1 rv2 fr1 fr2 TC E a
  go_upto_region 2 with (refine wpRow_store rfl 98 _ _ rfl rfl w1.heap.size (abRow x) rfl rfl 98 (abRow zeroAB) HALL.out info_au rfl H1.out ?_)
  rw [← hwc]
  clear hwc HALL
  generalize w1.heap.size = g at *
  have HA := Lib.hid HTC.out.row
  have c6 := HTC.out.c6
  have cl := HTC.out.lt
  go_wp2_with (refine wpList_load_row rfl 98 _ rfl g rfl 98 (abRow x) (0, 0) _ HA.out Tryz.underlying98 rfl info_au ?_)
  refine HRV.out.mono ?_
  rintro e w2 ⟨A9, n9, c9, A2, n2, c2, rfl, q9, q2, b2⟩
  obtain ⟨x9, hx9⟩ : ∃ x9 : AB, x9 = { x with V := .slice A9 n9 c9, li := x.li + 1 } := ⟨_, rfl⟩
  have HX9 := Lib.hid (show (abRow x9).all (·.oneCell') = true by rw [hx9]; exact abRow_one ⟨HAB.out.R, HAB.out.L, HAB.out.S, rfl, HAB.out.D, HAB.out.Z⟩)
  rw [← hx9]
  clear hx9 HRV HA c6 cl q9
  obtain ⟨wd, hwd⟩ : ∃ wd, wd = (((w2.alloc (.cells (.string ⟨#[]⟩ :: .slice none 0 0 :: .slice none 0 0 :: .slice none 0 0 :: .string ⟨#[]⟩ :: .int .i64 0 :: .int .i64 0 :: .int .i64 0 :: .int .i64 0 :: .int .i64 0 :: .int .i64 0 :: .int .i64 0 :: .int .i64 0 :: .int .i64 0 :: .int .i64 0 :: .string ⟨#[]⟩ :: .int .i64 0 :: .int .i64 0 :: .int .i64 0 :: .int .i64 0 :: .int .i64 0 :: .int .i64 0 :: .int .i64 0 :: .int .i64 0 :: .int .i64 0 :: .int .i64 0 :: .int .i64 0 :: .int .i64 0 :: .int .i64 0 :: .int .i64 0 :: .slice none 0 0 :: .slice none 0 0 :: .slice none 0 0 :: ([] : List Value)).toArray 98)).alloc (.cells #[.string ⟨#[]⟩, .int .i64 0, .int .i64 0, .int .i64 0, .slice none 0 0, .int .i64 0, .int .i64 0, .int .i64 0] 103)).setRow w2.heap.size (abRow x9)).setRow (w2.heap.size + 1) (rvRow r (.slice A2 n2 c2)) := ⟨_, rfl⟩
  have ed : Ext w2 wd := by rw [hwd]; exact ext_setRow (ext_setRow (((Below.refl _ _).alloc (Nat.le_refl _) _).alloc (by simp) _) (Nat.le_refl _) _) (Nat.le_succ _) _
  have HD1 := Lib.hid (heap_alloc2_old w2 (.cells (abRow zeroAB) 98) (.cells #[.string ⟨#[]⟩, .int .i64 0, .int .i64 0, .int .i64 0, .slice none 0 0, .int .i64 0, .int .i64 0, .int .i64 0] 103))
  have hd2 := heap_alloc2_new w2 (.cells (abRow zeroAB) 98) (.cells #[.string ⟨#[]⟩, .int .i64 0, .int .i64 0, .int .i64 0, .slice none 0 0, .int .i64 0, .int .i64 0, .int .i64 0] 103)
  have HD2 := Lib.hid (show (((w2.alloc (.cells (.string ⟨#[]⟩ :: .slice none 0 0 :: .slice none 0 0 :: .slice none 0 0 :: .string ⟨#[]⟩ :: .int .i64 0 :: .int .i64 0 :: .int .i64 0 :: .int .i64 0 :: .int .i64 0 :: .int .i64 0 :: .int .i64 0 :: .int .i64 0 :: .int .i64 0 :: .int .i64 0 :: .string ⟨#[]⟩ :: .int .i64 0 :: .int .i64 0 :: .int .i64 0 :: .int .i64 0 :: .int .i64 0 :: .int .i64 0 :: .int .i64 0 :: .int .i64 0 :: .int .i64 0 :: .int .i64 0 :: .int .i64 0 :: .int .i64 0 :: .int .i64 0 :: .int .i64 0 :: .slice none 0 0 :: .slice none 0 0 :: .slice none 0 0 :: ([] : List Value)).toArray 98)).alloc (.cells #[.string ⟨#[]⟩, .int .i64 0, .int .i64 0, .int .i64 0, .slice none 0 0, .int .i64 0, .int .i64 0, .int .i64 0] 103)).setRow w2.heap.size (abRow x9)).heap[w2.heap.size + 1]? = some (.cells #[.string ⟨#[]⟩, .int .i64 0, .int .i64 0, .int .i64 0, .slice none 0 0, .int .i64 0, .int .i64 0, .int .i64 0] 103 (0, 0)) from (setRow_block (by omega)).trans hd2)
  have HR1 := Lib.hid (rv_all r A2 n2 c2)
  have hrd : RvAt wd (w2.heap.size + 1) r (.slice A2 n2 c2) := by rw [hwd]; exact row_at HD2.out
  have BD := b2.tr ed
  have HXD := Lib.hid (XC.out.tr BD)
  have HTD := Lib.hid (HTC.out.ext BD)
  have HRD := Lib.hid hrd
  have HQD := Lib.hid (q2.ext ed)
  have HRRD := Lib.hid (RdK.ext HRR.out BD)
  have HED := Lib.hid (HE.out.below BD)
  clear hd2 ed b2 q2 hrd BD HTC HRR HE XC
  unfold abV rvV
  go_upto_region 3 with (first | (refine wpRow_store rfl 98 _ _ rfl rfl w2.heap.size (abRow x9) rfl rfl 98 (abRow zeroAB) HD1.out info_au rfl HX9.out ?_) | (refine wpRow_store rfl 103 _ _ rfl rfl (w2.heap.size + 1) (rvRow r (.slice A2 n2 c2)) rfl rfl 103 #[.string ⟨#[]⟩, .int .i64 0, .int .i64 0, .int .i64 0, .slice none 0 0, .int .i64 0, .int .i64 0, .int .i64 0] HD2.out info_rv rfl HR1.out ?_))
  rw [← hwd]
  clear hwd HD1 HD2
  obtain ⟨gr, hgr⟩ : ∃ gr, w2.heap.size + 1 = gr := ⟨_, rfl⟩
  rw [hgr] at HRD
  try rw [hgr]
  clear hgr
  obtain ⟨AR, nR, cR, hR, -⟩ := id HRRD.out
  have HRS := Lib.hid (show RdN wd (.slice AR nR cR) [c] by rw [← hR]; exact HRRD.out)
  have c1 : wd.cell? ⟨g, 1, none⟩ = some (.slice AR nR cR) := by rw [← hR]; exact HTD.out.c1
  have cl := HTD.out.lt
  have HRR := Lib.hid HRD.out.row
  have HAcc := Lib.hid (raccept_any (AR, nR, cR) (none, 0, 0) (none, 0, 0) (none, 0, 0) (none, 0, 0) ⟨[c], [], [], [], []⟩ r (.slice A2 n2 c2) 40010 wd ⟨HRS.out, RdK.nil_ _ _ _, RdX.nil_ _ _ _, RdX.nil_ _ _ _, RdX.nil_ _ _ _⟩ HB1.out HQD.out (by have := HST.out; unfold maxLen; omega) (by have := HSE.out; omega) HED.out)
  rw [HAC1.out] at HAcc
  clear hR HRRD HRS
  go_wp2_with (refine wpList_load_row rfl 103 _ rfl gr rfl 103 (rvRow r (.slice A2 n2 c2)) (0, 0) _ HRR.out Tryz.underlying103 rfl info_rv ?_)
  refine HAcc.out.mono ?_
  rintro e w3 ⟨t0, t1, t2, t3, t4, rfl, SR, b3⟩
  clear c1 cl HRR HAcc HAC1 HB1
  obtain ⟨wf, hwf⟩ : ∃ wf, wf = w3.alloc (.cells #[.slice t0.1 t0.2.1 t0.2.2, .slice t1.1 t1.2.1 t1.2.2, .slice t2.1 t2.2.1 t2.2.2, .slice t3.1 t3.2.1 t3.2.2, .slice t4.1 t4.2.1 t4.2.2] 75) := ⟨_, rfl⟩
  have ef : Ext w3 wf := by rw [hwf]; exact (Below.refl _ _).alloc (Nat.le_refl _) _
  have hf : wf.heap[w3.heap.size]? = some (.cells (stRow t0 t1 t2 t3 t4) 75 (0, 0)) := by rw [hwf]; exact heap_alloc_new' w3 _
  have BF := b3.tr ef
  have HXF := Lib.hid (HXD.out.tr BF)
  have HTF := Lib.hid (HTD.out.ext BF)
  have HRF := Lib.hid ((HRD.out.ext BF).row)
  have HQF := Lib.hid (HQD.out.ext BF)
  have HEF := Lib.hid (HED.out.below BF)
  have HSF := Lib.hid (show StR wf t0 t1 t2 t3 t4 ⟨[c], [], [], [r], []⟩ from SR.ext ef)
  have HSB := Lib.hid hf
  clear ef BF SR b3 HXD HTD HRD HQD HED hf
  unfold storeV
  go_upto_region 4 with fail
  rw [← hwf]
  clear hwf
  generalize w3.heap.size = gs at *
  have HAcc := Lib.hid (raccept_any t0 t1 t2 t3 t4 ⟨[c], [], [], [r], []⟩ r (.slice A2 n2 c2) 40010 wf HSF.out HB2.out HQF.out (by have := HST.out; unfold maxLen; omega) (by have := HSE.out; omega) HEF.out)
  rw [HAC2.out] at HAcc
  go_wp2_with (first | (refine wpList_load_row rfl 75 _ rfl gs rfl 75 (stRow t0 t1 t2 t3 t4) (0, 0) _ HSB.out Tryz.underlying75 rfl info_st ?_) | (refine wpList_load_row rfl 103 _ rfl gr rfl 103 (rvRow r (.slice A2 n2 c2)) (0, 0) _ HRF.out Tryz.underlying103 rfl info_rv ?_))
  refine HAcc.out.mono ?_
  rintro e w4 ⟨v0, v1, v2, v3, v4, rfl, -, b4⟩
  clear HAcc HAC2 HB2
  obtain ⟨wg, hwg⟩ : ∃ wg, wg = w4.alloc (.cells #[.slice v0.1 v0.2.1 v0.2.2, .slice v1.1 v1.2.1 v1.2.2, .slice v2.1 v2.2.1 v2.2.2, .slice v3.1 v3.2.1 v3.2.2, .slice v4.1 v4.2.1 v4.2.2] 75) := ⟨_, rfl⟩
  have eg : Ext w4 wg := by rw [hwg]; exact (Below.refl _ _).alloc (Nat.le_refl _) _
  have BG := b4.tr eg
  have Y0 := Lib.hid (show Ext wg wg from Below.refl _ _)
  have HXG := Lib.hid (HXF.out.tr BG)
  have HTG := Lib.hid (HTF.out.ext BG)
  have HSG := Lib.hid (RdX.rdV ((HSF.out.r3).ext BG))
  have HBG := Lib.hid ((BG.block _ (block_lt HSB.out)).trans HSB.out)
  clear eg BG b4 HXF HTF HRF HQF HEF HSF HSB
  unfold storeV
  go_upto_region 5 with fail
  rw [← hwg]
  clear hwg
  have a4 := (HTG.out.ext Y0.out).c4
  have a5 := (HTG.out.ext Y0.out).c5
  have a6 := (HTG.out.ext Y0.out).c6
  have a7 := (HTG.out.ext Y0.out).c7
  have a8 := (HTG.out.ext Y0.out).c8
  have a9 := (HTG.out.ext Y0.out).c9
  have a10 := (HTG.out.ext Y0.out).c10
  have a11 := (HTG.out.ext Y0.out).c11
  have a12 := (HTG.out.ext Y0.out).c12
  have a13 := (HTG.out.ext Y0.out).c13
  have a14 := (HTG.out.ext Y0.out).c14
  have a15 := (HTG.out.ext Y0.out).c15
  have a16 := (HTG.out.ext Y0.out).c16
  have a17 := (HTG.out.ext Y0.out).c17
  have a18 := (HTG.out.ext Y0.out).c18
  have a19 := (HTG.out.ext Y0.out).c19
  have a20 := (HTG.out.ext Y0.out).c20
  have a21 := (HTG.out.ext Y0.out).c21
  have a22 := (HTG.out.ext Y0.out).c22
  have a23 := (HTG.out.ext Y0.out).c23
  have a24 := (HTG.out.ext Y0.out).c24
  have a25 := (HTG.out.ext Y0.out).c25
  have al := (HTG.out.ext Y0.out).lt
  have hb := (Y0.out.block _ (block_lt HBG.out)).trans HBG.out
  have p0 : wg.cell? ⟨gs, 0, none⟩ = some (.slice t0.1 t0.2.1 t0.2.2) := by rw [cell_of_row _ _ 0 _ _ _ hb]; rfl
  have p1 : wg.cell? ⟨gs, 1, none⟩ = some (.slice t1.1 t1.2.1 t1.2.2) := by rw [cell_of_row _ _ 1 _ _ _ hb]; rfl
  have p2 : wg.cell? ⟨gs, 2, none⟩ = some (.slice t2.1 t2.2.1 t2.2.2) := by rw [cell_of_row _ _ 2 _ _ _ hb]; rfl
  have p3 : wg.cell? ⟨gs, 3, none⟩ = some (.slice t3.1 t3.2.1 t3.2.2) := by rw [cell_of_row _ _ 3 _ _ _ hb]; rfl
  have p4 : wg.cell? ⟨gs, 4, none⟩ = some (.slice t4.1 t4.2.1 t4.2.2) := by rw [cell_of_row _ _ 4 _ _ _ hb]; rfl
  have pl := block_lt hb
  clear hb
  have HC := Lib.hid (by have h := revoked_any t0 t1 t2 t3 t4 [r] x.sg wg (HSG.out.ext Y0.out); rw [HGS.out] at h; exact h)
  rw [HV1.out] at HC
  go_wp2_with fail
  refine HC.out.mono ?_
  rintro e u1 ⟨rfl, b⟩
  have Y1 := Lib.hid (Y0.out.tr b)
  clear a4 a5 a6 a7 a8 a9 a10 a11 a12 a13 a14 a15 a16 a17 a18 a19 a20 a21 a22 a23 a24 a25 al p0 p1 p2 p3 p4 pl HC b
  have a4 := (HTG.out.ext Y1.out).c4
  have a5 := (HTG.out.ext Y1.out).c5
  have a6 := (HTG.out.ext Y1.out).c6
  have a7 := (HTG.out.ext Y1.out).c7
  have a8 := (HTG.out.ext Y1.out).c8
  have a9 := (HTG.out.ext Y1.out).c9
  have a10 := (HTG.out.ext Y1.out).c10
  have a11 := (HTG.out.ext Y1.out).c11
  have a12 := (HTG.out.ext Y1.out).c12
  have a13 := (HTG.out.ext Y1.out).c13
  have a14 := (HTG.out.ext Y1.out).c14
  have a15 := (HTG.out.ext Y1.out).c15
  have a16 := (HTG.out.ext Y1.out).c16
  have a17 := (HTG.out.ext Y1.out).c17
  have a18 := (HTG.out.ext Y1.out).c18
  have a19 := (HTG.out.ext Y1.out).c19
  have a20 := (HTG.out.ext Y1.out).c20
  have a21 := (HTG.out.ext Y1.out).c21
  have a22 := (HTG.out.ext Y1.out).c22
  have a23 := (HTG.out.ext Y1.out).c23
  have a24 := (HTG.out.ext Y1.out).c24
  have a25 := (HTG.out.ext Y1.out).c25
  have al := (HTG.out.ext Y1.out).lt
  have hb := (Y1.out.block _ (block_lt HBG.out)).trans HBG.out
  have p0 : u1.cell? ⟨gs, 0, none⟩ = some (.slice t0.1 t0.2.1 t0.2.2) := by rw [cell_of_row _ _ 0 _ _ _ hb]; rfl
  have p1 : u1.cell? ⟨gs, 1, none⟩ = some (.slice t1.1 t1.2.1 t1.2.2) := by rw [cell_of_row _ _ 1 _ _ _ hb]; rfl
  have p2 : u1.cell? ⟨gs, 2, none⟩ = some (.slice t2.1 t2.2.1 t2.2.2) := by rw [cell_of_row _ _ 2 _ _ _ hb]; rfl
  have p3 : u1.cell? ⟨gs, 3, none⟩ = some (.slice t3.1 t3.2.1 t3.2.2) := by rw [cell_of_row _ _ 3 _ _ _ hb]; rfl
  have p4 : u1.cell? ⟨gs, 4, none⟩ = some (.slice t4.1 t4.2.1 t4.2.2) := by rw [cell_of_row _ _ 4 _ _ _ hb]; rfl
  have pl := block_lt hb
  clear hb
  have HC := Lib.hid (by have h := revoked_any t0 t1 t2 t3 t4 [r] x.ls u1 (HSG.out.ext Y1.out); rw [HLS.out] at h; exact h)
  rw [HV2.out] at HC
  go_wp2_with fail
  refine HC.out.mono ?_
  rintro e u2 ⟨rfl, b⟩
  have Y2 := Lib.hid (Y1.out.tr b)
  clear a4 a5 a6 a7 a8 a9 a10 a11 a12 a13 a14 a15 a16 a17 a18 a19 a20 a21 a22 a23 a24 a25 al p0 p1 p2 p3 p4 pl HC b
  have a4 := (HTG.out.ext Y2.out).c4
  have a5 := (HTG.out.ext Y2.out).c5
  have a6 := (HTG.out.ext Y2.out).c6
  have a7 := (HTG.out.ext Y2.out).c7
  have a8 := (HTG.out.ext Y2.out).c8
  have a9 := (HTG.out.ext Y2.out).c9
  have a10 := (HTG.out.ext Y2.out).c10
  have a11 := (HTG.out.ext Y2.out).c11
  have a12 := (HTG.out.ext Y2.out).c12
  have a13 := (HTG.out.ext Y2.out).c13
  have a14 := (HTG.out.ext Y2.out).c14
  have a15 := (HTG.out.ext Y2.out).c15
  have a16 := (HTG.out.ext Y2.out).c16
  have a17 := (HTG.out.ext Y2.out).c17
  have a18 := (HTG.out.ext Y2.out).c18
  have a19 := (HTG.out.ext Y2.out).c19
  have a20 := (HTG.out.ext Y2.out).c20
  have a21 := (HTG.out.ext Y2.out).c21
  have a22 := (HTG.out.ext Y2.out).c22
  have a23 := (HTG.out.ext Y2.out).c23
  have a24 := (HTG.out.ext Y2.out).c24
  have a25 := (HTG.out.ext Y2.out).c25
  have al := (HTG.out.ext Y2.out).lt
  have hb := (Y2.out.block _ (block_lt HBG.out)).trans HBG.out
  have p0 : u2.cell? ⟨gs, 0, none⟩ = some (.slice t0.1 t0.2.1 t0.2.2) := by rw [cell_of_row _ _ 0 _ _ _ hb]; rfl
  have p1 : u2.cell? ⟨gs, 1, none⟩ = some (.slice t1.1 t1.2.1 t1.2.2) := by rw [cell_of_row _ _ 1 _ _ _ hb]; rfl
  have p2 : u2.cell? ⟨gs, 2, none⟩ = some (.slice t2.1 t2.2.1 t2.2.2) := by rw [cell_of_row _ _ 2 _ _ _ hb]; rfl
  have p3 : u2.cell? ⟨gs, 3, none⟩ = some (.slice t3.1 t3.2.1 t3.2.2) := by rw [cell_of_row _ _ 3 _ _ _ hb]; rfl
  have p4 : u2.cell? ⟨gs, 4, none⟩ = some (.slice t4.1 t4.2.1 t4.2.2) := by rw [cell_of_row _ _ 4 _ _ _ hb]; rfl
  have pl := block_lt hb
  clear hb
  have HC := Lib.hid (fresh_any t0 t1 t2 t3 t4 [r] utoZ 40100 u2 (HSG.out.ext Y2.out))
  rw [HF1.out] at HC
  go_wp2_with fail
  refine HC.out.mono ?_
  rintro e u3 ⟨rfl, b⟩
  have Y3 := Lib.hid (Y2.out.tr b)
  clear a4 a5 a6 a7 a8 a9 a10 a11 a12 a13 a14 a15 a16 a17 a18 a19 a20 a21 a22 a23 a24 a25 al p0 p1 p2 p3 p4 pl HC b
  have a4 := (HTG.out.ext Y3.out).c4
  have a5 := (HTG.out.ext Y3.out).c5
  have a6 := (HTG.out.ext Y3.out).c6
  have a7 := (HTG.out.ext Y3.out).c7
  have a8 := (HTG.out.ext Y3.out).c8
  have a9 := (HTG.out.ext Y3.out).c9
  have a10 := (HTG.out.ext Y3.out).c10
  have a11 := (HTG.out.ext Y3.out).c11
  have a12 := (HTG.out.ext Y3.out).c12
  have a13 := (HTG.out.ext Y3.out).c13
  have a14 := (HTG.out.ext Y3.out).c14
  have a15 := (HTG.out.ext Y3.out).c15
  have a16 := (HTG.out.ext Y3.out).c16
  have a17 := (HTG.out.ext Y3.out).c17
  have a18 := (HTG.out.ext Y3.out).c18
  have a19 := (HTG.out.ext Y3.out).c19
  have a20 := (HTG.out.ext Y3.out).c20
  have a21 := (HTG.out.ext Y3.out).c21
  have a22 := (HTG.out.ext Y3.out).c22
  have a23 := (HTG.out.ext Y3.out).c23
  have a24 := (HTG.out.ext Y3.out).c24
  have a25 := (HTG.out.ext Y3.out).c25
  have al := (HTG.out.ext Y3.out).lt
  have hb := (Y3.out.block _ (block_lt HBG.out)).trans HBG.out
  have p0 : u3.cell? ⟨gs, 0, none⟩ = some (.slice t0.1 t0.2.1 t0.2.2) := by rw [cell_of_row _ _ 0 _ _ _ hb]; rfl
  have p1 : u3.cell? ⟨gs, 1, none⟩ = some (.slice t1.1 t1.2.1 t1.2.2) := by rw [cell_of_row _ _ 1 _ _ _ hb]; rfl
  have p2 : u3.cell? ⟨gs, 2, none⟩ = some (.slice t2.1 t2.2.1 t2.2.2) := by rw [cell_of_row _ _ 2 _ _ _ hb]; rfl
  have p3 : u3.cell? ⟨gs, 3, none⟩ = some (.slice t3.1 t3.2.1 t3.2.2) := by rw [cell_of_row _ _ 3 _ _ _ hb]; rfl
  have p4 : u3.cell? ⟨gs, 4, none⟩ = some (.slice t4.1 t4.2.1 t4.2.2) := by rw [cell_of_row _ _ 4 _ _ _ hb]; rfl
  have pl := block_lt hb
  clear hb
  have HC := Lib.hid (fresh_any t0 t1 t2 t3 t4 [r] utoZ 40101 u3 (HSG.out.ext Y3.out))
  rw [HF2.out] at HC
  go_wp2_with fail
  refine HC.out.mono ?_
  rintro e u4 ⟨rfl, b⟩
  have Y4 := Lib.hid (Y3.out.tr b)
  clear a4 a5 a6 a7 a8 a9 a10 a11 a12 a13 a14 a15 a16 a17 a18 a19 a20 a21 a22 a23 a24 a25 al p0 p1 p2 p3 p4 pl HC b
  go_wp2_with fail
  go_ret
  exact ⟨rfl, HXG.out.tr Y4.out⟩
end Go.Proofs.YtkjplpmogfmhkaaGreatDoor
