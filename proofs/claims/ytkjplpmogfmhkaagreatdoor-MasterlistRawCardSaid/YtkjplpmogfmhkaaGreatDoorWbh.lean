/- Parts Jw Uj Mi Mj of the proof. -/
import Derived.Test.YtkjplpmogfmhkaaGreatDoorWbf
import Derived.Test.YtkjplpmogfmhkaaGreatDoorWar
import Derived.Test.YtkjplpmogfmhkaaGreatDoorWav
import Derived.Test.YtkjplpmogfmhkaaGreatDoorWbb
import Derived.Deep.MidRow
import Derived.Test.YtkjplpmogfmhkaaGreatDoorWba
import Derived.Test.YtkjplpmogfmhkaaGreatDoorWaw
import Derived.Test.YtkjplpmogfmhkaaGreatDoorWay
import Derived.BigRegion
import Derived.Deep.RegionWith
import Derived.Test.YtkjplpmogfmhkaaGreatDoorWbc
import Derived.Test.YtkjplpmogfmhkaaGreatDoorWau
namespace Go.Proofs.YtkjplpmogfmhkaaGreatDoor
open Go.RowKit
set_option linter.unusedVariables false
set_option maxRecDepth 100000
theorem setCells_setL (g : Nat) : ∀ (vs : List Value) (i : Nat) (w : World), w.setCells g i vs = setL w g i vs
 | [], i, w => rfl
 | v :: vs, i, w => setCells_setL g vs (i + 1) _
theorem Gb.setCells (g : Nat) : ∀ (vs : List Value) (i : Nat) (w : World), Gb g w (w.setCells g i vs)
 | [], i, w => Gb.refl _ _
 | v :: vs, i, w => (Gb.set g i w v).tr (Gb.setCells g vs (i + 1) _)
theorem OwnK.setAt {w : World} {B n c : Nat} {A : Option Addr} {l : List NC} {i : Nat} (h : OwnK w B 56 11 (.slice A n c) (ncsCells l)) (hi : i < l.length) (x : NC) :
 ∃ g, A = some ⟨g, 0, none⟩ ∧ B ≤ g ∧ w.there g (i * 11) 11 ∧ g < w.heap.size ∧ c ≠ 0 ∧ OwnK (w.setCells g (i * 11) (ncCells x)) B 56 11 (.slice A n c) (ncsCells (l.set i x)) := by
 obtain ⟨A', n', c', e, hn, h⟩ := h
 injection e with e1 e2 e3
 subst e1 e2 e3
 rw [ncsCells_len] at hn
 obtain rfl : n = l.length := by omega
 rcases h with ⟨h0, _⟩ | ⟨g, cur, rfl, hB, hg, hnc, hcm, hcs, ht⟩
 · omega
 · refine ⟨g, rfl, hB, fun j hj => ⟨?_, by simp [World.frozen?, hg]⟩, block_lt hg, by omega, ?_⟩
   · rw [cell_of_row w g _ cur _ _ hg]
     simp
     have : i * 11 + 11 ≤ c * 11 := by have : (i + 1) * 11 ≤ c * 11 := Nat.mul_le_mul_right _ (by omega); omega
     omega
   · rw [setCells_setL]
     have hcc : cur.toList = ncsCells l ++ cur.toList.drop (l.length * 11) := by rw [← ht, List.take_append_drop]
     have h1 : w.heap[g]? = some (.cells (ncsCells l ++ cur.toList.drop (l.length * 11)).toArray 56 (0, 0)) := by rw [hg, ← hcc, Array.toArray_toList]
     have h2 := setL_setN w g h1 rfl i hi x
     have hl : (l.set i x).length = l.length := List.length_set
     have hls : (ncsCells (l.set i x)).length = l.length * 11 := by rw [ncsCells_len, hl]
     have hlc : l.length * 11 ≤ c * 11 := Nat.mul_le_mul_right _ hnc
     refine ⟨_, l.length, c, rfl, hls.symm, .inr ⟨g, _, rfl, hB, h2, hnc, hcm, ?_, ?_⟩⟩
     · have hcl : cur.toList.length = c * 11 := by rw [Array.length_toList, hcs]
       show (ncsCells (l.set i x) ++ cur.toList.drop (l.length * 11)).length = c * 11
       rw [List.length_append, hls, List.length_drop, hcl]
       omega
     · show (ncsCells (l.set i x) ++ _).take _ = _
       rw [← hls]
       exact List.take_left
theorem wpMid_store {P : Program} {ops : Array Oper} {rest : List Oper} {o : Oper} {a : Act} {w : World} {Q : Exit → Act → World → Prop} (hgd : o.guard = none) (ty : TypeId) (x y : Operand) (ho : o.op = .store ty x y) (hd : o.dst = none)
 (b f : Nat) (cells : List Value) (hx : a.eval x = .pointer (some ⟨b, f, none⟩)) (hy : a.eval y = .agg cells.toArray)
 (ht : w.there b f cells.length) (hi : (P.info? ty).map (·.size) = some cells.length) (h1 : cells.toArray.all (·.oneCell') = true)
 (h : wpList P ops Q rest a (w.setCells b f cells)) : wpList P ops Q (o :: rest) a w :=
 wpList_store_mid hgd ty x y ho b f cells.toArray hx hy ht hi h1 (by rw [hd]; exact h)
end Go.Proofs.YtkjplpmogfmhkaaGreatDoor
namespace Go.Proofs.YtkjplpmogfmhkaaGreatDoor
open Go.RowKit
open Go.Proofs.YtkjplpmogfmhkaaGreatDoor.Gd (GRun GSkip)
set_option linter.unusedVariables false
set_option maxRecDepth 100000
section
variable {w wr wx : World} {s0 s1 s2 s3 s4 t0 t1 t2 t3 t4 : SlT} {S S' : ST} {r : RV} {v : Value} {g : Nat}
theorem StO.gr {B gR : Nat} {cs : Array Value} (h : StO wr B t0 t1 t2 t3 t4 S) (hg : wr.heap[gR]? = some (.cells cs 103 (0, 0))) (e : wr.grownBy wx (some gR)) (o3 : OwnX kR wx B (slV t3) S'.rs) (h0 : S'.roots = S.roots) (h1 : S'.pool = S.pool) (h2 : S'.ms = S.ms) (h4 : S'.ds = S.ds) : StO wx B t0 t1 t2 t3 t4 S' :=
 ⟨by rw [h0]; exact h.o0.grown e (.inr (h.o0.row_blk hg (by decide))), by rw [h1]; exact h.o1.grown e (.inr (h.o1.row_blk hg (by decide))), by rw [h2]; exact h.o2.gb hg (by decide) (by decide) e, o3, by rw [h4]; exact h.o4.gb hg (by decide) (by decide) e⟩
theorem OwnP.form {α : Type} {K : LK α} {B n c i : Nat} {A : Option Addr} {ps : List (α × Value)} (h : OwnP K wr B (.slice A n c) ps) (hi : i < ps.length) : ∃ g cur, A = some ⟨g, 0, none⟩ ∧ n = ps.length ∧ n ≤ c ∧ c ≤ maxLen ∧ B ≤ g ∧ wr.heap[g]? = some (.cells cur K.T (0, 0)) := by
 obtain ⟨A', n', c', e, hn, hc⟩ := h.1
 injection e with e1 e2 e3
 subst e1 e2 e3
 rw [K.cells_len] at hn
 obtain rfl : n = ps.length := Nat.eq_of_mul_eq_mul_right K.pos hn
 rcases hc with ⟨h0, _⟩ | ⟨g, cur, rfl, hB, hg, hnc, hcm, _, _⟩
 · omega
 · exact ⟨g, cur, rfl, rfl, hnc, hcm, hB, hg⟩
theorem StO.gst {B gS : Nat} {cs : Array Value} (h : StO wr B t0 t1 t2 t3 t4 S) (hg : wr.heap[gS]? = some (.cells cs 75 (0, 0))) (e : wr.grownBy wx (some gS)) : StO wx B t0 t1 t2 t3 t4 S :=
 ⟨h.o0.grown e (.inr (h.o0.row_blk hg (by decide))), h.o1.grown e (.inr (h.o1.row_blk hg (by decide))), h.o2.gb hg (by decide) (by decide) e, h.o3.gb hg (by decide) (by decide) e, h.o4.gb hg (by decide) (by decide) e⟩
end
theorem map_set_fst {α β : Type} : ∀ (ps : List (α × β)) (i : Nat) (a : α) (b : β), (ps.set i (a, b)).map Prod.fst = (ps.map Prod.fst).set i a
 | [], _, _, _ => rfl
 | p :: ps, 0, a, b => rfl
 | p :: ps, i + 1, a, b => congrArg (p.1 :: ·) (map_set_fst ps i a b)
def AccRt (w : World) (S : ST) (k : Int) (e : Ending) (w' : World) : Prop := ∃ t0 t1 t2 t3 t4 : SlT, e = .returned (.tuple #[storeV t0 t1 t2 t3 t4, .int .i64 k]) ∧ StR w' t0 t1 t2 t3 t4 S ∧ Ext w w'
noncomputable def accM (S : ST) (m : MA) (day : Int) : ST × Int :=
 if vfyM S.roots S.pool m day ≠ 0 then (S, vfyM S.roots S.pool m day) else
 match S.ms.findIdx? (fun t => decide (t.st = m.st)) with
 | some i => if m.num ≤ (S.ms.getD i zeroM).num then (S, 67) else (⟨S.roots, S.pool, S.ms.set i m, S.rs, S.ds⟩, 0)
 | none => if 16 ≤ S.ms.length then (S, 72) else (⟨S.roots, S.pool, S.ms ++ [m], S.rs, S.ds⟩, 0)
structure AcM (w wr : World) (s0 s1 s2 s3 s4 t0 t1 t2 t3 t4 : SlT) (S : ST) (r : MA) (v : Value) (g : Nat) : Prop where
 ext : Ext w wr
 s : wr.heap[w.heap.size]? = some (.cells (stRow s0 s1 s2 s3 s4) 75 (0, 0))
 r : MaAt wr (w.heap.size + 1) r v
 z : wr.heap[w.heap.size + 1 + 1]? = some (.cells #[.slice none 0 0, .slice none 0 0, .slice none 0 0, .slice none 0 0, .slice none 0 0] 75 (0, 0))
 o : wr.heap[g]? = some (.cells (stRow t0 t1 t2 t3 t4) 75 (0, 0))
 own : StO wr (w.heap.size + 1 + 1 + 1) t0 t1 t2 t3 t4 S
 hg : w.heap.size + 1 + 1 + 1 ≤ g
section
variable {w wr wx : World} {s0 s1 s2 s3 s4 t0 t1 t2 t3 t4 : SlT} {S S' : ST} {r : MA} {v : Value} {g : Nat}
theorem AcM.tr (h : AcM w wr s0 s1 s2 s3 s4 t0 t1 t2 t3 t4 S r v g) (e : Ext wr wx) : AcM w wx s0 s1 s2 s3 s4 t0 t1 t2 t3 t4 S r v g :=
 ⟨h.ext.tr e, (e.block _ (block_lt h.s)).trans h.s, h.r.ext e, (e.block _ (block_lt h.z)).trans h.z, (e.block _ (block_lt h.o)).trans h.o, h.own.ext e, h.hg⟩
theorem AcM.fin (h : AcM w wr s0 s1 s2 s3 s4 t0 t1 t2 t3 t4 S r v g) (cs : Array Value) : Ext w (wr.setRow (w.heap.size + 1 + 1) cs) ∧ StR (wr.setRow (w.heap.size + 1 + 1) cs) t0 t1 t2 t3 t4 S :=
 ⟨ext_setRow h.ext (by omega) _, (h.own.gbB (g := w.heap.size + 1 + 1) (by omega) (Gb.setRow _ _ _)).rd⟩
theorem StO.grM {B gR : Nat} {cs : Array Value} (h : StO wr B t0 t1 t2 t3 t4 S) (hg : wr.heap[gR]? = some (.cells cs 80 (0, 0))) (e : wr.grownBy wx (some gR)) (o2 : OwnX kM wx B (slV t2) S'.ms) (h0 : S'.roots = S.roots) (h1 : S'.pool = S.pool) (h3 : S'.rs = S.rs) (h4 : S'.ds = S.ds) : StO wx B t0 t1 t2 t3 t4 S' :=
 ⟨by rw [h0]; exact h.o0.grown e (.inr (h.o0.row_blk hg (by decide))), by rw [h1]; exact h.o1.grown e (.inr (h.o1.row_blk hg (by decide))), o2, by rw [h3]; exact h.o3.gb hg (by decide) (by decide) e, by rw [h4]; exact h.o4.gb hg (by decide) (by decide) e⟩
theorem StO.gr2M {B B2 : Nat} {v2 : Value} {x2 : List Value} {t2' : SlT} (h : StO wr B t0 t1 t2 t3 t4 S) (o : OwnK wr B2 80 17 v2 x2) (e : wr.grownBy wx (rowOf v2)) (o2 : OwnX kM wx B (slV t2') S'.ms) (h0 : S'.roots = S.roots) (h1 : S'.pool = S.pool) (h3 : S'.rs = S.rs) (h4 : S'.ds = S.ds) : StO wx B t0 t1 t2' t3 t4 S' :=
 ⟨by rw [h0]; exact h.o0.grown e (o.row_ne h.o0 (by decide)), by rw [h1]; exact h.o1.grown e (o.row_ne h.o1 (by decide)), o2, by rw [h3]; exact h.o3.grow o (by decide) (by decide) e, by rw [h4]; exact h.o4.grow o (by decide) (by decide) e⟩
theorem AcM.app {ps : List (MA × Value)} {u : Value} {A8 : Option Addr} {n8 c8 : Nat} {w8 : World} (h : AcM w wr s0 s1 s2 s3 s4 t0 t1 t2 t3 t4 S r v g) (hOP : OwnP kM wr (w.heap.size + 1 + 1 + 1) (slV t2) ps) (hps : ps.map Prod.fst = S.ms) (hi : OwnK w8 (w.heap.size + 1 + 1 + 1) 56 11 u (ncsCells r.roots))
 (o8 : OwnK w8 (w.heap.size + 1 + 1 + 1) 80 17 (.slice A8 n8 c8) (kM.cells ps ++ maCells r u)) (g8 : wr.grownBy w8 (rowOf (slV t2))) :
 w8.cell? ⟨g, 2, none⟩ = some (.slice t2.1 t2.2.1 t2.2.2) ∧ g < w8.heap.size ∧ w8.frozen? ⟨g, 2, none⟩ = false ∧ AcM w (w8.setCell ⟨g, 2, none⟩ (.slice A8 n8 c8)) s0 s1 s2 s3 s4 t0 t1 (A8, n8, c8) t3 t4 ⟨S.roots, S.pool, S.ms ++ [r], S.rs, S.ds⟩ r v g := by
 have low : ∀ k, k < w.heap.size + 1 + 1 + 1 → k < wr.heap.size → w8.heap[k]? = wr.heap[k]? := fun k hk hl => g8.block k hl (fun q => by have := rowOf_geK hOP.1 k q.symm; omega)
 have ho : w8.heap[g]? = some (.cells (stRow t0 t1 t2 t3 t4) 75 (0, 0)) := (g8.block g (block_lt h.o) (fun q => hOP.1.row_blk h.o (by decide) q.symm)).trans h.o
 have hG := h.hg
 have hlt := block_lt ho
 have hx : Below (w.heap.size + 1 + 1 + 1) wr w8 := ⟨g8.os, g8.tape, g8.output, g8.size, fun k hk => g8.block k (Nat.lt_of_lt_of_le hk (Nat.le_trans hG (Nat.le_of_lt (block_lt h.o)))) (fun q => by have := rowOf_geK hOP.1 k q.symm; omega)⟩
 have keep : ∀ k, k ≠ g → (w8.setCell ⟨g, 2, none⟩ (.slice A8 n8 c8)).heap[k]? = w8.heap[k]? := fun k hk => setCell_block hk
 have own8 : StO w8 (w.heap.size + 1 + 1 + 1) t0 t1 (A8, n8, c8) t3 t4 ⟨S.roots, S.pool, S.ms ++ [r], S.rs, S.ds⟩ := h.own.gr2M (t2' := (A8, n8, c8)) (S' := ⟨S.roots, S.pool, S.ms ++ [r], S.rs, S.ds⟩) hOP.1 g8 ⟨ps ++ [(r, u)], by rw [List.map_append, hps]; rfl, by rw [← kM.cells_snoc]; exact o8, fun p hp => (List.mem_append.1 hp).elim (fun q => (hOP.2 p q).grown g8 (hOP.1.row_ne (hOP.2 p q) kM.ne.symm)) (fun q => by rw [List.mem_singleton.1 q]; exact hi)⟩ rfl rfl rfl rfl
 refine ⟨by rw [cell_of_row _ _ 2 _ _ _ ho]; rfl, hlt, by simp [World.frozen?, ho], ?_⟩
 refine ⟨(h.ext.trans (hx.mono (by omega))).setCell (p := ⟨g, 2, none⟩) (by show w.heap.size ≤ g; omega) _, (keep _ (by omega)).trans ((low _ (by omega) (block_lt h.s)).trans h.s), (keep _ (by omega)).trans ((low _ (by omega) h.r.lt).trans h.r), (keep _ (by omega)).trans ((low _ (by omega) (block_lt h.z)).trans h.z), ?_, own8.gst ho (Gb.set g 2 w8 _), hG⟩
 have h9 := row_set ho 2 (.slice A8 n8 c8)
 exact h9
theorem AcM.keep {ps : List (MA × Value)} (h : AcM w wr s0 s1 s2 s3 s4 t0 t1 t2 t3 t4 S r v g) (hOP : OwnP kM wr (w.heap.size + 1 + 1 + 1) (slV t2) ps) (g8 : wr.grownBy wx (rowOf (slV t2))) : wx.heap[g]? = some (.cells (stRow t0 t1 t2 t3 t4) 75 (0, 0)) ∧ MaAt wx (w.heap.size + 1) r v ∧ Ext w wx :=
 have hG := h.hg
 have hx : Below (w.heap.size + 1 + 1 + 1) wr wx := ⟨g8.os, g8.tape, g8.output, g8.size, fun k hk => g8.block k (Nat.lt_of_lt_of_le hk (Nat.le_trans hG (Nat.le_of_lt (block_lt h.o)))) (fun q => by have := rowOf_geK hOP.1 k q.symm; omega)⟩
 ⟨(g8.block g (block_lt h.o) (fun q => hOP.1.row_blk h.o (by decide) q.symm)).trans h.o, (hx.block _ (by omega)).trans h.r, h.ext.trans (hx.mono (by omega))⟩
end
def GRvM (B : Nat) (r : MA) : VPred := fun v w => ∃ A n c, v = maV r (.slice A n c) ∧ OwnK w B 56 11 (.slice A n c) (ncsCells r.roots)
theorem stable_GRvM (B : Nat) (r : MA) : StableP (GRvM B r) := fun v w w' e ⟨A, n, c, h1, h2⟩ => ⟨A, n, c, h1, h2.ext e⟩
set_option maxHeartbeats 16000000 in
theorem maccept_any (s0 s1 s2 s3 s4 : SlT) (S : ST) (r : MA) (v : Value) (day : Int) (w : World) (hS : StR w s0 s1 s2 s3 s4 S) (hB : StB S) (hv : RdN w v r.roots) (hs : r.st.length ≤ maxLen) (hr : smL r.roots) (hg : smN r.sg) (hl : r.roots.length ≤ 1000000) (E : KTab w 1) :
 Calls Tryz.prog 50 #[storeV s0 s1 s2 s3 s4, maV r v, .int .i64 day] w (AccRt w (accM S r day).1 (accM S r day).2) := by
 obtain ⟨A, n, c, rfl, hn, -⟩ := hv.at_
 subst hn
 obtain ⟨wz, hwz⟩ : ∃ wz, wz = ((w.alloc (.cells #[.slice s0.1 s0.2.1 s0.2.2, .slice s1.1 s1.2.1 s1.2.2, .slice s2.1 s2.2.1 s2.2.2, .slice s3.1 s3.2.1 s3.2.2, .slice s4.1 s4.2.1 s4.2.2] 75)).alloc (.cells #[.string (bstr r.st), .int .i64 r.num, .int .i64 r.day, .slice A r.roots.length c, .string (bstr r.sg.st), .int .i64 r.sg.kind, .int .i64 r.sg.num, .int .i64 r.sg.iss, .int .i64 r.sg.own, .int .i64 r.sg.key, .int .i64 r.sg.fr, .int .i64 r.sg.un, .int .i64 r.sg.to, .int .i64 r.sg.e, .int .i64 r.sg.s, .int .i64 r.e, .int .i64 r.s] 80)).alloc (.cells #[.slice none 0 0, .slice none 0 0, .slice none 0 0, .slice none 0 0, .slice none 0 0] 75) := ⟨_, rfl⟩
 have e1 : Ext w (w.alloc (.cells #[.slice s0.1 s0.2.1 s0.2.2, .slice s1.1 s1.2.1 s1.2.2, .slice s2.1 s2.2.1 s2.2.2, .slice s3.1 s3.2.1 s3.2.2, .slice s4.1 s4.2.1 s4.2.2] 75)) := (Below.refl _ _).alloc (Nat.le_refl _) _
 have e2 : Ext (w.alloc (.cells #[.slice s0.1 s0.2.1 s0.2.2, .slice s1.1 s1.2.1 s1.2.2, .slice s2.1 s2.2.1 s2.2.2, .slice s3.1 s3.2.1 s3.2.2, .slice s4.1 s4.2.1 s4.2.2] 75)) ((w.alloc (.cells #[.slice s0.1 s0.2.1 s0.2.2, .slice s1.1 s1.2.1 s1.2.2, .slice s2.1 s2.2.1 s2.2.2, .slice s3.1 s3.2.1 s3.2.2, .slice s4.1 s4.2.1 s4.2.2] 75)).alloc (.cells #[.string (bstr r.st), .int .i64 r.num, .int .i64 r.day, .slice A r.roots.length c, .string (bstr r.sg.st), .int .i64 r.sg.kind, .int .i64 r.sg.num, .int .i64 r.sg.iss, .int .i64 r.sg.own, .int .i64 r.sg.key, .int .i64 r.sg.fr, .int .i64 r.sg.un, .int .i64 r.sg.to, .int .i64 r.sg.e, .int .i64 r.sg.s, .int .i64 r.e, .int .i64 r.s] 80)) := (Below.refl _ _).alloc (Nat.le_refl _) _
 have e3 : Ext ((w.alloc (.cells #[.slice s0.1 s0.2.1 s0.2.2, .slice s1.1 s1.2.1 s1.2.2, .slice s2.1 s2.2.1 s2.2.2, .slice s3.1 s3.2.1 s3.2.2, .slice s4.1 s4.2.1 s4.2.2] 75)).alloc (.cells #[.string (bstr r.st), .int .i64 r.num, .int .i64 r.day, .slice A r.roots.length c, .string (bstr r.sg.st), .int .i64 r.sg.kind, .int .i64 r.sg.num, .int .i64 r.sg.iss, .int .i64 r.sg.own, .int .i64 r.sg.key, .int .i64 r.sg.fr, .int .i64 r.sg.un, .int .i64 r.sg.to, .int .i64 r.sg.e, .int .i64 r.sg.s, .int .i64 r.e, .int .i64 r.s] 80)) wz := by rw [hwz]; exact (Below.refl _ _).alloc (Nat.le_refl _) _
 have hsz : wz.heap.size = w.heap.size + 1 + 1 + 1 := by rw [hwz]; simp
 have z1 : wz.heap[w.heap.size]? = some (.cells (stRow s0 s1 s2 s3 s4) 75 (0, 0)) := ((e2.tr e3).block _ (by simp)).trans (heap_alloc_new' w _)
 have z2 : MaAt wz (w.heap.size + 1) r (.slice A r.roots.length c) := by
  have := (MaAt.new (w.alloc (.cells #[.slice s0.1 s0.2.1 s0.2.2, .slice s1.1 s1.2.1 s1.2.2, .slice s2.1 s2.2.1 s2.2.2, .slice s3.1 s3.2.1 s3.2.2, .slice s4.1 s4.2.1 s4.2.2] 75)) r (.slice A r.roots.length c)).ext e3
  rwa [show (w.alloc (.cells #[.slice s0.1 s0.2.1 s0.2.2, .slice s1.1 s1.2.1 s1.2.2, .slice s2.1 s2.2.1 s2.2.2, .slice s3.1 s3.2.1 s3.2.2, .slice s4.1 s4.2.1 s4.2.2] 75)).heap.size = w.heap.size + 1 by simp] at this
 have z3 : wz.heap[w.heap.size + 1 + 1]? = some (.cells #[.slice none 0 0, .slice none 0 0, .slice none 0 0, .slice none 0 0, .slice none 0 0] 75 (0, 0)) := by
  have := heap_alloc_new' ((w.alloc (.cells #[.slice s0.1 s0.2.1 s0.2.2, .slice s1.1 s1.2.1 s1.2.2, .slice s2.1 s2.2.1 s2.2.2, .slice s3.1 s3.2.1 s3.2.2, .slice s4.1 s4.2.1 s4.2.2] 75)).alloc (.cells #[.string (bstr r.st), .int .i64 r.num, .int .i64 r.day, .slice A r.roots.length c, .string (bstr r.sg.st), .int .i64 r.sg.kind, .int .i64 r.sg.num, .int .i64 r.sg.iss, .int .i64 r.sg.own, .int .i64 r.sg.key, .int .i64 r.sg.fr, .int .i64 r.sg.un, .int .i64 r.sg.to, .int .i64 r.sg.e, .int .i64 r.sg.s, .int .i64 r.e, .int .i64 r.s] 80)) (.cells #[.slice none 0 0, .slice none 0 0, .slice none 0 0, .slice none 0 0, .slice none 0 0] 75)
  rw [show ((w.alloc (.cells #[.slice s0.1 s0.2.1 s0.2.2, .slice s1.1 s1.2.1 s1.2.2, .slice s2.1 s2.2.1 s2.2.2, .slice s3.1 s3.2.1 s3.2.2, .slice s4.1 s4.2.1 s4.2.2] 75)).alloc (.cells #[.string (bstr r.st), .int .i64 r.num, .int .i64 r.day, .slice A r.roots.length c, .string (bstr r.sg.st), .int .i64 r.sg.kind, .int .i64 r.sg.num, .int .i64 r.sg.iss, .int .i64 r.sg.own, .int .i64 r.sg.key, .int .i64 r.sg.fr, .int .i64 r.sg.un, .int .i64 r.sg.to, .int .i64 r.sg.e, .int .i64 r.sg.s, .int .i64 r.e, .int .i64 r.s] 80)).heap.size = w.heap.size + 1 + 1 by simp] at this
  rw [hwz]
  exact this
 have EZ := Lib.hid (e1.tr (e2.tr e3))
 have HCS := Lib.hid (fun W (e : Ext w W) => cstore_any s0 s1 s2 s3 s4 S W (hS.ext e) hB)
 have HVF := Lib.hid (fun W (e : Ext w W) => mverify_any s0 s1 s2 s3 s4 S.roots S.pool r (.slice A r.roots.length c) day W (RdK.ext hS.r0 e) (RdK.ext hS.r1 e) hB.r hB.p (by have := hB.lr; have := hB.lp; omega) (RdK.ext hv e) hr hg hs (E.below e))
 have HPL := Lib.hid (fun (W : World) (e : Ext w W) (hc : W.cell? ⟨w.heap.size + 1, 0, none⟩ = some (.string (bstr r.st))) => mplaceIx_any (v := slV s2) r.st (w.heap.size + 1) W (hS.r2.ext e) hc)
 have HCR := Lib.hid (fun W (e : Ext w W) => cmaster_any r (.slice A r.roots.length c) W (RdK.ext hv e) hl)
 have HR3 := Lib.hid hS.r2
 have HS := Lib.hid z1
 have HLS := Lib.hid hB.ls
 obtain ⟨ac, hac⟩ : ∃ ac, accM S r day = ac := ⟨_, rfl⟩
 rw [hac]
 have HAC := Lib.hid hac
 have HZ2 := Lib.hid z2
 have HZ3 := Lib.hid z3
 have HZ1 := Lib.hid z1
 clear hS hv hs hl hr hg E e1 e2 e3 z1 z2 z3 hac hB
 unfold storeV maV maCells
 go_enter Tryz.func50, Tryz.ntmps50
 go_upto_region 1 with fail
 rw [← hwz]
 clear hwz
 go_wp2_with (refine wpList_load_row rfl 75 _ rfl w.heap.size rfl 75 (stRow s0 s1 s2 s3 s4) (0, 0) _ HS.out Tryz.underlying75 rfl info_st ?_)
 refine (HCS.out wz EZ.out).mono ?_
 rintro e w1 ⟨t0, t1, t2, t3, t4, rfl, own, b1⟩
 obtain ⟨wo, hwo⟩ : ∃ wo, wo = w1.alloc (.cells #[.slice t0.1 t0.2.1 t0.2.2, .slice t1.1 t1.2.1 t1.2.2, .slice t2.1 t2.2.1 t2.2.2, .slice t3.1 t3.2.1 t3.2.2, .slice t4.1 t4.2.1 t4.2.2] 75) := ⟨_, rfl⟩
 have eo : Ext w1 wo := by rw [hwo]; exact (Below.refl _ _).alloc (Nat.le_refl _) _
 have ho : wo.heap[w1.heap.size]? = some (.cells (stRow t0 t1 t2 t3 t4) 75 (0, 0)) := by rw [hwo]; exact heap_alloc_new' w1 _
 have b9 := b1.tr eo
 obtain ⟨g, hg⟩ : ∃ g, w1.heap.size = g := ⟨_, rfl⟩
 have Z1 : Hid (AcM w wo s0 s1 s2 s3 s4 t0 t1 t2 t3 t4 S r (.slice A r.roots.length c) g) := Lib.hid ⟨EZ.out.tr b9, (b9.block _ (block_lt HZ1.out)).trans HZ1.out, HZ2.out.ext b9, (b9.block _ (block_lt HZ3.out)).trans HZ3.out, by rw [← hg]; exact ho, (own.ext eo).mono (by omega), by have := b1.size; omega⟩
 clear eo ho b1 b9 own HZ1 HZ2 HZ3 HS EZ HCS hsz
 unfold storeV
 go_upto_region 2 with fail
 rw [← hwo]
 try rw [hg]
 clear hwo hg
 have HS := Lib.hid Z1.out.s
 have HR := Lib.hid Z1.out.r.row
 go_wp2_with (first | (refine wpList_load_row rfl 75 _ rfl w.heap.size rfl 75 (stRow s0 s1 s2 s3 s4) (0, 0) _ HS.out Tryz.underlying75 rfl info_st ?_) | (refine wpList_load_row rfl 80 _ rfl (w.heap.size + 1) rfl 80 (maCells r (.slice A r.roots.length c)).toArray (0, 0) _ HR.out Tryz.underlying80 rfl info_ma ?_))
 refine (HVF.out wo Z1.out.ext).mono ?_
 rintro e w3 ⟨rfl, b3⟩
 have Z3 := Lib.hid (Z1.out.tr b3)
 clear b3 HS HR Z1 HVF
 obtain ⟨sv, hsv⟩ : ∃ sv, vfyM S.roots S.pool r day = sv := ⟨_, rfl⟩
 rw [hsv]
 have HSV := Lib.hid hsv
 clear hsv
 by_cases d2 : sv = 0
 case neg =>
  have HA := Lib.hid (show ac = (S, sv) by rw [← HAC.out]; unfold accM; rw [HSV.out, if_pos d2])
  have hb : (sv != 0) = true := by simpa using d2
  clear d2
  have HO := Lib.hid Z3.out.o
  have HZ := Lib.hid Z3.out.z
  have H1 := Lib.hid (stRow_one t0 t1 t2 t3 t4)
  go_wp2_with (first | (refine wpList_load_row rfl 75 _ rfl g rfl 75 (stRow t0 t1 t2 t3 t4) (0, 0) _ HO.out Tryz.underlying75 rfl info_st ?_) | (refine wpRow_store rfl 75 _ _ rfl rfl (w.heap.size + 1 + 1) (stRow t0 t1 t2 t3 t4) rfl rfl 75 #[.slice none 0 0, .slice none 0 0, .slice none 0 0, .slice none 0 0, .slice none 0 0] HZ.out info_st rfl H1.out ?_))
  have HY := Lib.hid (row_at (cells := stRow t0 t1 t2 t3 t4) HZ.out)
  refine bodyPost_ret (v := .tuple #[.agg (stRow t0 t1 t2 t3 t4), .int .i64 sv]) ?_ rfl ⟨t0, t1, t2, t3, t4, by rw [HA.out]; rfl, by rw [HA.out]; exact (Z3.out.fin _).2, (Z3.out.fin _).1⟩
  simp [results, Tryz.results50, asAddr, run_loadVar_row _ (w.heap.size + 1 + 1) 75 75 (stRow t0 t1 t2 t3 t4) (0, 0) _ HY.out Tryz.underlying75 rfl info_st]
 subst d2
 go_upto_region 5 with fail
 have k2 : w3.cell? ⟨w.heap.size, 2, none⟩ = some (.slice s2.1 s2.2.1 s2.2.2) := by rw [cell_of_row _ _ 2 _ _ _ Z3.out.s]; rfl
 have kl := block_lt Z3.out.s
 go_wp2_with fail
 refine (HPL.out w3 Z3.out.ext Z3.out.r.c0).mono ?_
 rintro e w4 ⟨rfl, b4⟩
 have Z4 := Lib.hid (Z3.out.tr b4)
 clear b4 k2 kl Z3 HPL
 have HBR := Lib.hid (show ac = match S.ms.findIdx? (fun t => decide (t.st = r.st)) with
  | some i => if r.num ≤ (S.ms.getD i zeroM).num then (S, 67) else (⟨S.roots, S.pool, S.ms.set i r, S.rs, S.ds⟩, 0)
  | none => if 16 ≤ S.ms.length then (S, 72) else (⟨S.roots, S.pool, S.ms ++ [r], S.rs, S.ds⟩, 0) by
    rw [← HAC.out]; unfold accM; rw [HSV.out, if_neg (fun q => q rfl)])
 clear HAC HSV
 obtain ⟨A3, n3, c3, e3, hn3, hnc3, hcm3, hel3⟩ := HR3.out.at_
 obtain ⟨sA3, sn3, sc3⟩ := s2
 unfold slV at e3
 injection e3 with e31 e32 e33
 simp only at e31 e32 e33
 subst e31 e32 e33 hn3
 unfold maxLen at hcm3
 have HEL := Lib.hid hel3
 clear hel3
 cases hf : S.ms.findIdx? (fun t => decide (t.st = r.st)) with
 | none =>
   have HP := show plM S.ms r.st = -1 by unfold plM; rw [hf]
   rw [HP]
   rw [hf] at HBR
   clear HP hf
   go_upto_region 7 with fail
   refine Gd.wp_region_X 12 (by kernel_rfl) (by kernel_rfl) ?_
   simp only [List.take_succ_cons, List.take_zero, List.drop_succ_cons, List.drop_zero]
   intro w1 hw1
   repeat (first | (refine Gd.wpX_skip (by exact ⟨_, rfl, rfl, rfl⟩) rfl rfl ?_; simp only [Act.put, List.setIfInBounds_toArray, List.set_cons_zero, List.set_cons_succ]) | (refine Gd.wpX_pure (by first | exact trivial | exact ⟨_, rfl, rfl, rfl⟩) rfl rfl rfl rfl rfl (fun K hK => ?_); go_big_quiet_op; refine hK _ ?_; clear hK K))
   refine Gd.wpX_end0 (fun m => ?_)
   have Z5 := Lib.hid (Z4.out.tr (hw1.tr m.2))
   clear hw1 Z4
   generalize m.1 = w5 at *
   show wpList _ _ _ _ _ _
   have s3c : w5.cell? ⟨w.heap.size, 2, none⟩ = some (.slice sA3 S.ms.length sc3) := by rw [cell_of_row _ _ 2 _ _ _ Z5.out.s]; rfl
   have sl := block_lt Z5.out.s
   by_cases d3 : 16 ≤ S.ms.length
   case pos =>
    have HA := Lib.hid (show ac = (S, 72) by rw [HBR.out]; exact if_pos d3)
    have hd : (16 : Int) ≤ (S.ms.length : Int) := by omega
    go_upto_region 12 with fail
    clear s3c sl hd d3
    have HO := Lib.hid Z5.out.o
    have HZ := Lib.hid Z5.out.z
    have H1 := Lib.hid (stRow_one t0 t1 t2 t3 t4)
    go_wp2_with (first | (refine wpList_load_row rfl 75 _ rfl g rfl 75 (stRow t0 t1 t2 t3 t4) (0, 0) _ HO.out Tryz.underlying75 rfl info_st ?_) | (refine wpRow_store rfl 75 _ _ rfl rfl (w.heap.size + 1 + 1) (stRow t0 t1 t2 t3 t4) rfl rfl 75 #[.slice none 0 0, .slice none 0 0, .slice none 0 0, .slice none 0 0, .slice none 0 0] HZ.out info_st rfl H1.out ?_))
    have HY := Lib.hid (row_at (cells := stRow t0 t1 t2 t3 t4) HZ.out)
    refine bodyPost_ret (v := .tuple #[.agg (stRow t0 t1 t2 t3 t4), .int .i64 72]) ?_ rfl ⟨t0, t1, t2, t3, t4, by rw [HA.out]; rfl, by rw [HA.out]; exact (Z5.out.fin _).2, (Z5.out.fin _).1⟩
    simp [results, Tryz.results50, asAddr, run_loadVar_row _ (w.heap.size + 1 + 1) 75 75 (stRow t0 t1 t2 t3 t4) (0, 0) _ HY.out Tryz.underlying75 rfl info_st]
   have HA := Lib.hid (show ac = (⟨S.roots, S.pool, S.ms ++ [r], S.rs, S.ds⟩, 0) by rw [HBR.out]; exact if_neg d3)
   have hd : ¬ (16 : Int) ≤ (S.ms.length : Int) := by omega
   have HLN := Lib.hid (show S.ms.length ≤ 15 by omega)
   go_upto_region 6 with fail
   clear s3c sl hd d3
   obtain ⟨ps, hps, OP⟩ := Z5.out.own.o2
   have hnt : t2.2.1 = ps.length := by
    obtain ⟨A', n', c', e', hn', -⟩ := OP.1
    unfold slV at e'
    injection e' with _ e2 _
    rw [e2]
    rw [kM.cells_len] at hn'
    exact Nat.eq_of_mul_eq_mul_right kM.pos hn'
   have HLX := Lib.hid (show t2.2.1 * 17 = (kM.cells ps).length by rw [hnt, kM.cells_len]; rfl)
   have HL15 := Lib.hid (show t2.2.1 ≤ 15 by rw [hnt]; have h1 := congrArg List.length hps; rw [List.length_map] at h1; have := HLN.out; omega)
   have k1 := rowOf_bd OP.1
   have HOP := Lib.hid OP
   have HPS := Lib.hid hps
   clear hps OP hnt
   refine Gr.wp_region_X (r := (apM (w.heap.size + 1 + 1 + 1) (slV t2) t2.2.1 (kM.cells ps) r)) 7 (by kernel_rfl) (by kernel_rfl) ?_
   simp only [List.take_succ_cons, List.take_zero, List.drop_succ_cons, List.drop_zero]
   intro wq hw1
   have JL : ∀ m : (apM (w.heap.size + 1 + 1 + 1) (slV t2) t2.2.1 (kM.cells ps) r).Lt wq, ApRelM (w.heap.size + 1 + 1 + 1) (slV t2) t2.2.1 (kM.cells ps) r w5 m.1 := fun m => ((apM (w.heap.size + 1 + 1 + 1) (slV t2) t2.2.1 (kM.cells ps) r).tr hw1 m.2) HOP.out.1
   have JK := fun m : (apM (w.heap.size + 1 + 1 + 1) (slV t2) t2.2.1 (kM.cells ps) r).Lt wq => Z5.out.keep HOP.out (JL m).g
   have JO : ∀ m : (apM (w.heap.size + 1 + 1 + 1) (slV t2) t2.2.1 (kM.cells ps) r).Lt wq, OwnK m.1 (w.heap.size + 1 + 1 + 1) 80 17 (slV t2) (kM.cells ps) := fun m => (JL m).p1 HOP.out.1
   have JS : ∀ m : (apM (w.heap.size + 1 + 1 + 1) (slV t2) t2.2.1 (kM.cells ps) r).Lt wq, (w.heap.size + 1 + 1 + 1) ≤ m.1.heap.size := fun m => Nat.le_trans Z5.out.hg (Nat.le_of_lt (block_lt (JK m).1))
   have ko : ∀ m : (apM (w.heap.size + 1 + 1 + 1) (slV t2) t2.2.1 (kM.cells ps) r).Lt wq, m.1.cell? ⟨g, 2, none⟩ = some (.slice t2.1 t2.2.1 t2.2.2) := fun m => by rw [cell_of_row _ _ 2 _ _ _ (JK m).1]; rfl
   have kg : ∀ m : (apM (w.heap.size + 1 + 1 + 1) (slV t2) t2.2.1 (kM.cells ps) r).Lt wq, g < m.1.heap.size := fun m => block_lt (JK m).1
   have r0 := fun m : (apM (w.heap.size + 1 + 1 + 1) (slV t2) t2.2.1 (kM.cells ps) r).Lt wq => (JK m).2.1.c0
   have r1 := fun m : (apM (w.heap.size + 1 + 1 + 1) (slV t2) t2.2.1 (kM.cells ps) r).Lt wq => (JK m).2.1.c1
   have r2 := fun m : (apM (w.heap.size + 1 + 1 + 1) (slV t2) t2.2.1 (kM.cells ps) r).Lt wq => (JK m).2.1.c2
   have r3 := fun m : (apM (w.heap.size + 1 + 1 + 1) (slV t2) t2.2.1 (kM.cells ps) r).Lt wq => (JK m).2.1.c3
   have r4 := fun m : (apM (w.heap.size + 1 + 1 + 1) (slV t2) t2.2.1 (kM.cells ps) r).Lt wq => (JK m).2.1.c4
   have r5 := fun m : (apM (w.heap.size + 1 + 1 + 1) (slV t2) t2.2.1 (kM.cells ps) r).Lt wq => (JK m).2.1.c5
   have r6 := fun m : (apM (w.heap.size + 1 + 1 + 1) (slV t2) t2.2.1 (kM.cells ps) r).Lt wq => (JK m).2.1.c6
   have r7 := fun m : (apM (w.heap.size + 1 + 1 + 1) (slV t2) t2.2.1 (kM.cells ps) r).Lt wq => (JK m).2.1.c7
   have r8 := fun m : (apM (w.heap.size + 1 + 1 + 1) (slV t2) t2.2.1 (kM.cells ps) r).Lt wq => (JK m).2.1.c8
   have r9 := fun m : (apM (w.heap.size + 1 + 1 + 1) (slV t2) t2.2.1 (kM.cells ps) r).Lt wq => (JK m).2.1.c9
   have r10 := fun m : (apM (w.heap.size + 1 + 1 + 1) (slV t2) t2.2.1 (kM.cells ps) r).Lt wq => (JK m).2.1.c10
   have r11 := fun m : (apM (w.heap.size + 1 + 1 + 1) (slV t2) t2.2.1 (kM.cells ps) r).Lt wq => (JK m).2.1.c11
   have r12 := fun m : (apM (w.heap.size + 1 + 1 + 1) (slV t2) t2.2.1 (kM.cells ps) r).Lt wq => (JK m).2.1.c12
   have r13 := fun m : (apM (w.heap.size + 1 + 1 + 1) (slV t2) t2.2.1 (kM.cells ps) r).Lt wq => (JK m).2.1.c13
   have r14 := fun m : (apM (w.heap.size + 1 + 1 + 1) (slV t2) t2.2.1 (kM.cells ps) r).Lt wq => (JK m).2.1.c14
   have r15 := fun m : (apM (w.heap.size + 1 + 1 + 1) (slV t2) t2.2.1 (kM.cells ps) r).Lt wq => (JK m).2.1.c15
   have r16 := fun m : (apM (w.heap.size + 1 + 1 + 1) (slV t2) t2.2.1 (kM.cells ps) r).Lt wq => (JK m).2.1.c16
   have rl := fun m : (apM (w.heap.size + 1 + 1 + 1) (slV t2) t2.2.1 (kM.cells ps) r).Lt wq => (JK m).2.1.lt
   have HJL := Lib.hid JL
   have HJK := Lib.hid JK
   have HJO := Lib.hid JO
   have HJS := Lib.hid JS
   clear JL JK JO JS
   repeat (first | (refine Gr.wpX_nil (by first | exact trivial | exact ⟨_, rfl, rfl, rfl⟩) _ rfl rfl rfl rfl rfl ?_; simp only [Act.put, List.setIfInBounds_toArray, List.set_cons_zero, List.set_cons_succ]) | (refine Gr.wpX_pure (by first | exact trivial | exact ⟨_, rfl, rfl, rfl⟩) rfl rfl rfl rfl rfl (fun K hK => ?_); go_big_quiet_op; refine hK _ ?_; clear hK K))
   refine Gr.wpX_callF (by first | exact trivial | exact ⟨_, rfl, rfl, rfl⟩) (GvM (w.heap.size + 1 + 1 + 1) (slV t2) (kM.cells ps) r) (stable_GvM _ _ _ _ _) (fun _ => [.agg #[.string (bstr r.st), .int .i64 r.num, .int .i64 r.day, .slice A r.roots.length c, .string (bstr r.sg.st), .int .i64 r.sg.kind, .int .i64 r.sg.num, .int .i64 r.sg.iss, .int .i64 r.sg.own, .int .i64 r.sg.key, .int .i64 r.sg.fr, .int .i64 r.sg.un, .int .i64 r.sg.to, .int .i64 r.sg.e, .int .i64 r.sg.s, .int .i64 r.e, .int .i64 r.s]]) rfl rfl rfl rfl rfl (by kernel_rfl) rfl (fun _ => rfl) (fun m f hf => (HCR.out m.1 (HJK.out m).2.2).mono fun e w'' ⟨A6, n6, c6, h1, h2, h3⟩ => ⟨_, h1, (apM (w.heap.size + 1 + 1 + 1) (slV t2) t2.2.1 (kM.cells ps) r).ext h3, (HJO.out m).ext h3, A6, n6, c6, rfl, h2.mono (HJS.out m)⟩) ?_
   simp only [Act.put, List.setIfInBounds_toArray, List.set_cons_zero, List.set_cons_succ]
   refine Gr.wpX_buildSL (by first | exact trivial | exact ⟨_, rfl, rfl, rfl⟩) (GlM (w.heap.size + 1 + 1 + 1) w5.heap.size (slV t2) (kM.cells ps) r) (stable_GlM k1 _ _ _) (fun f => [(0, f 28)]) rfl rfl rfl rfl rfl (fun _ => rfl) (fun m f hf => ?_) ?_
   · obtain ⟨o, A6, n6, c6, e6, O6⟩ := hf 28 _ rfl rfl
     rw [e6]
     have eA : Ext m.1 (m.1.alloc (.cells (maCells r (.slice A6 n6 c6)).toArray 80)) := (Below.refl _ _).alloc (Nat.le_refl _) _
     exact ⟨_, _, run_oneMa m.1 r A6 n6 c6, (apM (w.heap.size + 1 + 1 + 1) (slV t2) t2.2.1 (kM.cells ps) r).ext eA, o.ext eA, _, _, rfl, (HJL.out m).g.size, heap_alloc_new' _ _, O6.ext eA⟩
   simp only [Act.put, List.setIfInBounds_toArray, List.set_cons_zero, List.set_cons_succ]
   refine Gr.wpX_appL (by first | exact trivial | exact ⟨_, rfl, rfl, rfl⟩) (GaM (w.heap.size + 1 + 1 + 1) (slV t2) t2.2.1 (kM.cells ps) r) (stable_GaM _ _ _ _ _) (fun _ => .slice t2.1 t2.2.1 t2.2.2) (fun f => f 29) rfl rfl rfl rfl rfl rfl (fun _ => rfl) (fun _ => rfl) (fun m f hf => ?_) ?_
   · have h41 : GlM (w.heap.size + 1 + 1 + 1) w5.heap.size (slV t2) (kM.cells ps) r (f 29) m.1 := hf 29 _ rfl rfl
     obtain ⟨u, R6, U6⟩ := h41.rd
     obtain ⟨A8, c8, w8, q1, q2, q3⟩ := run_apM h41.1 HLX.out R6 U6 (by have := HL15.out; omega) (HJS.out m)
     exact ⟨_, w8, q1, fun _ => q2, q2.p1 h41.1, A8, c8, rfl, q3⟩
   simp only [Act.put, List.setIfInBounds_toArray, List.set_cons_zero, List.set_cons_succ]
   repeat (first | (refine Gr.wpX_nil (by first | exact trivial | exact ⟨_, rfl, rfl, rfl⟩) _ rfl rfl rfl rfl rfl ?_; simp only [Act.put, List.setIfInBounds_toArray, List.set_cons_zero, List.set_cons_succ]) | (refine Gr.wpX_pure (by first | exact trivial | exact ⟨_, rfl, rfl, rfl⟩) rfl rfl rfl rfl rfl (fun K hK => ?_); go_big_quiet_op; refine hK _ ?_; clear hK K))
   refine Gr.wpX_endL (fun m f hf => ?_)
   obtain ⟨o9, A8, c8, e30, u, o8, U8⟩ := hf 30 _ rfl
   simp only [fillH]
   simp only [Act.put, List.setIfInBounds_toArray, List.set_cons_zero, List.set_cons_succ]
   rw [e30]
   obtain ⟨q3, ql, qf, z9⟩ := AcM.app Z5.out HOP.out HPS.out U8 o8 (HJL.out m).g
   have HZ9 := Lib.hid z9
   clear hf e30 hw1 HJL HJK HJO HJS ko kg r0 r1 r2 r3 r4 r5 r6 r7 r8 r9 r10 r11 r12 r13 r14 r15 r16 rl o9 o8 U8 z9 k1 HOP
   generalize m.1 = w8 at *
   generalize f 28 = f28 at *
   generalize f 29 = f29 at *
   clear m f
   show wpList _ _ _ _ _ _
   have HO := Lib.hid HZ9.out.o
   have HZ := Lib.hid HZ9.out.z
   have H1 := Lib.hid (stRow_one t0 t1 (A8, t2.2.1 + 1, c8) t3 t4)
   go_wp2_with (first | (refine wpList_load_row rfl 75 _ rfl g rfl 75 (stRow t0 t1 (A8, t2.2.1 + 1, c8) t3 t4) (0, 0) _ HO.out Tryz.underlying75 rfl info_st ?_) | (refine wpRow_store rfl 75 _ _ rfl rfl (w.heap.size + 1 + 1) (stRow t0 t1 (A8, t2.2.1 + 1, c8) t3 t4) rfl rfl 75 #[.slice none 0 0, .slice none 0 0, .slice none 0 0, .slice none 0 0, .slice none 0 0] HZ.out info_st rfl H1.out ?_))
   have HY := Lib.hid (row_at (cells := stRow t0 t1 (A8, t2.2.1 + 1, c8) t3 t4) HZ.out)
   refine bodyPost_ret (v := .tuple #[.agg (stRow t0 t1 (A8, t2.2.1 + 1, c8) t3 t4), .int .i64 0]) ?_ rfl ⟨t0, t1, (A8, t2.2.1 + 1, c8), t3, t4, by rw [HA.out]; rfl, by rw [HA.out]; exact (HZ9.out.fin _).2, (HZ9.out.fin _).1⟩
   simp [results, Tryz.results50, asAddr, run_loadVar_row _ (w.heap.size + 1 + 1) 75 75 (stRow t0 t1 (A8, t2.2.1 + 1, c8) t3 t4) (0, 0) _ HY.out Tryz.underlying75 rfl info_st]
 | some i =>
   have HP := show plM S.ms r.st = (i : Int) by unfold plM; rw [hf]
   rw [HP]
   rw [hf] at HBR
   have hil : i < S.ms.length := (List.findIdx?_eq_some_iff_getElem.1 hf).1
   clear HP hf
   obtain ⟨t, ht⟩ : ∃ t, S.ms[i]? = some t := ⟨_, List.getElem?_eq_getElem hil⟩
   have HG := Lib.hid (show S.ms.getD i zeroM = t by rw [List.getD_eq_getElem?_getD, ht]; rfl)
   obtain ⟨b, o, rfl, hbl, u, hcell, hu⟩ := HEL.out i t ht
   have hn1 : w.cell? ⟨b, o + i * 17 + 1, none⟩ = some (.int .i64 t.num) := by
    have := hcell 1 _ rfl
    rwa [← Nat.add_assoc] at this
   have HN1 := Lib.hid (And.intro hbl hn1)
   clear hcell hu ht hn1 hbl
   have wi1 : IntKind.i64.wrap ((i : Int)) = (i : Int) := IntWalk.i64_in _ (by omega)
   have zi1 : (0 : Int) ≤ (i : Int) := by omega
   have li1 : (i : Int) < (S.ms.length : Int) := by omega
   have ti1 : ((i : Int)).toNat = i := by omega
   go_upto_region 7 with fail
   refine Gd.wp_region_X 12 (by kernel_rfl) (by kernel_rfl) ?_
   simp only [List.take_succ_cons, List.take_zero, List.drop_succ_cons, List.drop_zero]
   intro w1 hw1
   have LL : ∀ m : Lt w1, Ext w4 m.1 := fun m => hw1.tr m.2
   have k3 : ∀ m : Lt w1, m.1.cell? ⟨w.heap.size, 2, none⟩ = some (.slice (some ⟨b, o, none⟩) S.ms.length sc3) := fun m => by rw [cell_of_row _ _ 2 _ _ _ (Z4.out.tr (LL m)).s]; rfl
   have k1 : ∀ m : Lt w1, m.1.cell? ⟨b, o + i * 17 + 1, none⟩ = some (.int .i64 t.num) := fun m => ((Z4.out.tr (LL m)).ext.cell (p := ⟨b, o + i * 17 + 1, none⟩) HN1.out.1).trans HN1.out.2
   have kr : ∀ m : Lt w1, m.1.cell? ⟨w.heap.size + 1, 1, none⟩ = some (.int .i64 r.num) := fun m => (Z4.out.tr (LL m)).r.c1
   have kl : ∀ m : Lt w1, w.heap.size + 1 < m.1.heap.size := fun m => (Z4.out.tr (LL m)).r.lt
   have kl0 : ∀ m : Lt w1, w.heap.size < m.1.heap.size := fun m => Nat.lt_of_succ_lt (kl m)
   have kb : ∀ m : Lt w1, b < m.1.heap.size := fun m => Nat.lt_of_lt_of_le HN1.out.1 (Z4.out.tr (LL m)).ext.size
   repeat (first | (refine Gd.wpX_skip (by exact ⟨_, rfl, rfl, rfl⟩) rfl rfl ?_; simp only [Act.put, List.setIfInBounds_toArray, List.set_cons_zero, List.set_cons_succ]) | (refine Gd.wpX_pure (by first | exact trivial | exact ⟨_, rfl, rfl, rfl⟩) rfl rfl rfl rfl rfl (fun K hK => ?_); go_big_quiet_op; refine hK _ ?_; clear hK K))
   refine Gd.wpX_end0 (fun m => ?_)
   have Z5 := Lib.hid (Z4.out.tr (LL m))
   clear hw1 LL k3 k1 kr kl kl0 kb Z4
   generalize m.1 = w5 at *
   show wpList _ _ _ _ _ _
   by_cases d3 : r.num ≤ t.num
   case pos =>
    have HA := Lib.hid (show ac = (S, 67) by rw [HBR.out]; show (if r.num ≤ (S.ms.getD i zeroM).num then _ else _) = _; rw [HG.out]; exact if_pos d3)
    go_upto_region 8 with fail
    clear d3
    have HO := Lib.hid Z5.out.o
    have HZ := Lib.hid Z5.out.z
    have H1 := Lib.hid (stRow_one t0 t1 t2 t3 t4)
    go_wp2_with (first | (refine wpList_load_row rfl 75 _ rfl g rfl 75 (stRow t0 t1 t2 t3 t4) (0, 0) _ HO.out Tryz.underlying75 rfl info_st ?_) | (refine wpRow_store rfl 75 _ _ rfl rfl (w.heap.size + 1 + 1) (stRow t0 t1 t2 t3 t4) rfl rfl 75 #[.slice none 0 0, .slice none 0 0, .slice none 0 0, .slice none 0 0, .slice none 0 0] HZ.out info_st rfl H1.out ?_))
    have HY := Lib.hid (row_at (cells := stRow t0 t1 t2 t3 t4) HZ.out)
    refine bodyPost_ret (v := .tuple #[.agg (stRow t0 t1 t2 t3 t4), .int .i64 67]) ?_ rfl ⟨t0, t1, t2, t3, t4, by rw [HA.out]; rfl, by rw [HA.out]; exact (Z5.out.fin _).2, (Z5.out.fin _).1⟩
    simp [results, Tryz.results50, asAddr, run_loadVar_row _ (w.heap.size + 1 + 1) 75 75 (stRow t0 t1 t2 t3 t4) (0, 0) _ HY.out Tryz.underlying75 rfl info_st]
   have HA := Lib.hid (show ac = (⟨S.roots, S.pool, S.ms.set i r, S.rs, S.ds⟩, 0) by rw [HBR.out]; show (if r.num ≤ (S.ms.getD i zeroM).num then _ else _) = _; rw [HG.out]; exact if_neg d3)
   obtain ⟨ps, hps, OP⟩ := Z5.out.own.o2
   have hpl : ps.length = S.ms.length := by rw [← hps, List.length_map]
   have hip : i < ps.length := by omega
   obtain ⟨gR, cur, hAt, hnt, hnct, hcmt, hBg, hgR⟩ := OwnP.form (show OwnP kM w5 _ (.slice t2.1 t2.2.1 t2.2.2) ps from OP) hip
   have HT3 := Lib.hid (show (Value.slice t2.1 t2.2.1 t2.2.2) = .slice (some ⟨gR, 0, none⟩) ps.length t2.2.2 by rw [hAt, hnt])
   have HOP := Lib.hid OP
   have HGR := Lib.hid hgR
   have HPS := Lib.hid hps
   have HBG := Lib.hid hBg
   unfold maxLen at hcmt
   rw [hnt] at hnct
   clear hps OP hAt hnt hgR hpl hBg
   go_upto_region 10 with fail
   clear d3
   have wi2 : IntKind.i64.wrap ((i : Int)) = (i : Int) := IntWalk.i64_in _ (by omega)
   have zi2 : (0 : Int) ≤ (i : Int) := by omega
   have li2 : (i : Int) < (ps.length : Int) := by omega
   have ti2 : ((i : Int)).toNat = i := by omega
   refine Gd.wp_region_X 6 (by kernel_rfl) (by kernel_rfl) ?_
   simp only [List.take_succ_cons, List.take_zero, List.drop_succ_cons, List.drop_zero]
   intro wq hw1
   have LL : ∀ m : Lt wq, Ext w5 m.1 := fun m => hw1.tr m.2
   have ko : ∀ m : Lt wq, m.1.cell? ⟨g, 2, none⟩ = some (.slice (some ⟨gR, 0, none⟩) ps.length t2.2.2) := fun m => by rw [cell_of_row _ _ 2 _ _ _ (Z5.out.tr (LL m)).o, ← HT3.out]; rfl
   have kg : ∀ m : Lt wq, g < m.1.heap.size := fun m => block_lt (Z5.out.tr (LL m)).o
   have r0 := fun m : Lt wq => (Z5.out.tr (LL m)).r.c0
   have r1 := fun m : Lt wq => (Z5.out.tr (LL m)).r.c1
   have r2 := fun m : Lt wq => (Z5.out.tr (LL m)).r.c2
   have r3 := fun m : Lt wq => (Z5.out.tr (LL m)).r.c3
   have r4 := fun m : Lt wq => (Z5.out.tr (LL m)).r.c4
   have r5 := fun m : Lt wq => (Z5.out.tr (LL m)).r.c5
   have r6 := fun m : Lt wq => (Z5.out.tr (LL m)).r.c6
   have r7 := fun m : Lt wq => (Z5.out.tr (LL m)).r.c7
   have r8 := fun m : Lt wq => (Z5.out.tr (LL m)).r.c8
   have r9 := fun m : Lt wq => (Z5.out.tr (LL m)).r.c9
   have r10 := fun m : Lt wq => (Z5.out.tr (LL m)).r.c10
   have r11 := fun m : Lt wq => (Z5.out.tr (LL m)).r.c11
   have r12 := fun m : Lt wq => (Z5.out.tr (LL m)).r.c12
   have r13 := fun m : Lt wq => (Z5.out.tr (LL m)).r.c13
   have r14 := fun m : Lt wq => (Z5.out.tr (LL m)).r.c14
   have r15 := fun m : Lt wq => (Z5.out.tr (LL m)).r.c15
   have r16 := fun m : Lt wq => (Z5.out.tr (LL m)).r.c16
   have rl := fun m : Lt wq => (Z5.out.tr (LL m)).r.lt
   repeat (refine Gd.wpX_pure (by first | exact trivial | exact ⟨_, rfl, rfl, rfl⟩) rfl rfl rfl rfl rfl (fun K hK => ?_); go_big_quiet_op; refine hK _ ?_; clear hK K)
   refine Gd.wpX_callF (by first | exact trivial | exact ⟨_, rfl, rfl, rfl⟩) (GRvM w5.heap.size r) (stable_GRvM _ _) (fun _ => [.agg #[.string (bstr r.st), .int .i64 r.num, .int .i64 r.day, .slice A r.roots.length c, .string (bstr r.sg.st), .int .i64 r.sg.kind, .int .i64 r.sg.num, .int .i64 r.sg.iss, .int .i64 r.sg.own, .int .i64 r.sg.key, .int .i64 r.sg.fr, .int .i64 r.sg.un, .int .i64 r.sg.to, .int .i64 r.sg.e, .int .i64 r.sg.s, .int .i64 r.e, .int .i64 r.s]]) rfl rfl rfl rfl rfl (by kernel_rfl) rfl (fun _ => rfl) (fun m f hf => (HCR.out m.1 (Z5.out.tr (LL m)).ext).mono fun e w'' ⟨A6, n6, c6, h1, h2, h3⟩ => ⟨_, h1, h3, A6, n6, c6, rfl, h2.mono (LL m).size⟩) ?_
   simp only [Act.put, List.setIfInBounds_toArray, List.set_cons_zero, List.set_cons_succ]
   repeat (refine Gd.wpX_pure (by first | exact trivial | exact ⟨_, rfl, rfl, rfl⟩) rfl rfl rfl rfl rfl (fun K hK => ?_); go_big_quiet_op; refine hK _ ?_; clear hK K)
   refine Gd.wpX_endL (fun m f hf => ?_)
   obtain ⟨A6, n6, c6, e54, O6⟩ := hf 54 _ rfl
   simp only [fillH]
   simp only [Act.put, List.setIfInBounds_toArray, List.set_cons_zero, List.set_cons_succ]
   rw [e54]
   have Z6 := Lib.hid (Z5.out.tr (LL m))
   have OP6 := HOP.out.ext (LL m)
   have hBw := Z5.out.hg
   have hgw := block_lt Z5.out.o
   obtain ⟨g2, eg, hBg2, hth, hlt2, ⟨cs2, hcs2⟩, OP2⟩ := OwnP.setAt (A := t2.1) (n := t2.2.1) (c := t2.2.2) (a := r) (u := .slice A6 n6 c6) OP6 (O6.mono (by omega)) hip
   have hgg : g2 = gR := by
    have := HT3.out
    rw [eg] at this
    injection this with h1
    injection h1 with h1
    injection h1
   subst hgg
   have HTH := Lib.hid (show m.1.there g2 (i * 17) (maCells r (.slice A6 n6 c6)).length from hth)
   have HONE := Lib.hid (show (maCells r (.slice A6 n6 c6)).toArray.all (·.oneCell') = true from kM_all r (.slice A6 n6 c6) rfl)
   have gb := Gb.setCellsU g2 (maCells r (.slice A6 n6 c6)) (i * 17) m.1
   have hne : g ≠ g2 := fun q => by
    have h1 := Z6.out.o
    rw [q, hcs2] at h1
    injection h1 with h1
    injection h1 with _ h1
    exact absurd h1 (by decide)
   have Z7 : Hid (AcM w (m.1.setCells g2 (i * 17) (maCells r (.slice A6 n6 c6))) s0 s1 (some ⟨b, o, none⟩, S.ms.length, sc3) s3 s4 t0 t1 t2 t3 t4 ⟨S.roots, S.pool, S.ms.set i r, S.rs, S.ds⟩ r (.slice A r.roots.length c) g) := Lib.hid
    ⟨Gb.below Z6.out.ext gb (by have := HBG.out; omega), (gb.block _ (block_lt Z6.out.s) (fun q => by injection q with q; have := HBG.out; omega)).trans Z6.out.s, (gb.block _ Z6.out.r.lt (fun q => by injection q with q; have := HBG.out; omega)).trans Z6.out.r,
      (gb.block _ (block_lt Z6.out.z) (fun q => by injection q with q; have := HBG.out; omega)).trans Z6.out.z, (gb.block _ (block_lt Z6.out.o) (fun q => by injection q with q; exact hne q)).trans Z6.out.o,
      Z6.out.own.grM (S' := ⟨S.roots, S.pool, S.ms.set i r, S.rs, S.ds⟩) hcs2 gb ⟨_, by rw [map_set_fst, HPS.out], OP2⟩ rfl rfl rfl rfl, Z6.out.hg⟩
   clear hf e54 hw1 LL ko kg r0 r1 r2 r3 r4 r5 r6 r7 r8 r9 r10 r11 r12 r13 r14 r15 r16 rl O6 OP6 hBw hgw eg hBg2 hth hlt2 hcs2 OP2 gb hne HCR Z5 Z6 HOP HGR
   generalize m.1 = w6 at *
   clear m f
   show wpList _ _ _ _ _ _
   refine wpMid_store rfl 80 _ _ rfl rfl g2 (i * 17) (maCells r (.slice A6 n6 c6)) rfl rfl HTH.out info_ma HONE.out ?_
   generalize w6.setCells g2 (i * 17) (maCells r (.slice A6 n6 c6)) = w7 at *
   have HO := Lib.hid Z7.out.o
   have HZ := Lib.hid Z7.out.z
   have H1 := Lib.hid (stRow_one t0 t1 t2 t3 t4)
   go_wp2_with (first | (refine wpList_load_row rfl 75 _ rfl g rfl 75 (stRow t0 t1 t2 t3 t4) (0, 0) _ HO.out Tryz.underlying75 rfl info_st ?_) | (refine wpRow_store rfl 75 _ _ rfl rfl (w.heap.size + 1 + 1) (stRow t0 t1 t2 t3 t4) rfl rfl 75 #[.slice none 0 0, .slice none 0 0, .slice none 0 0, .slice none 0 0, .slice none 0 0] HZ.out info_st rfl H1.out ?_))
   have HY := Lib.hid (row_at (cells := stRow t0 t1 t2 t3 t4) HZ.out)
   refine bodyPost_ret (v := .tuple #[.agg (stRow t0 t1 t2 t3 t4), .int .i64 0]) ?_ rfl ⟨t0, t1, t2, t3, t4, by rw [HA.out]; rfl, by rw [HA.out]; exact (Z7.out.fin _).2, (Z7.out.fin _).1⟩
   simp [results, Tryz.results50, asAddr, run_loadVar_row _ (w.heap.size + 1 + 1) 75 75 (stRow t0 t1 t2 t3 t4) (0, 0) _ HY.out Tryz.underlying75 rfl info_st]
end Go.Proofs.YtkjplpmogfmhkaaGreatDoor
namespace Go.Proofs.YtkjplpmogfmhkaaGreatDoor
open Go.RowKit
set_option linter.unusedVariables false
set_option maxRecDepth 100000
theorem updM_ck (m : MA) (e s : Int) : ckM (updM m e s) = ckM m := rfl
theorem updM_body (m : MA) (e s : Int) : bodyMB (updM m e s) = bodyMB m := rfl
theorem isCM_in {k : Int} {m : MA} (hk : inB 1 1073741789 k = true) (hc : ckM m = 0) : isCM k m = updM m (sigE k (bodyMB m)) (sigS k (bodyMB m)) := by
 unfold isCM sE sS
 have hs : sK k = 0 := if_pos hk
 rw [if_pos ⟨hc, hs⟩, if_pos hk, if_pos hk]
theorem isKM_in {k : Int} {m : MA} (hk : inB 1 1073741789 k = true) (hc : ckM m = 0) : isKM k m = 0 := by
 have hs : sK k = 0 := if_pos hk
 unfold isKM; rw [if_pos hc, hs]
theorem verM_issue {k : Int} {m : MA} (hk : inB 1 1073741789 k = true) (hc : ckM m = 0) : verB (pw 4 k) (byM (isCM k m)) (isCM k m).e (isCM k m).s = true := by
 obtain ⟨h0, h1⟩ := inB_true hk
 rw [isCM_in hk hc]
 unfold byM
 rw [updM_ck, if_pos hc, updM_body]
 exact sig_verifies h0 h1 _
theorem pathM_one {r c : NC} {day : Int} (hr : rootP c.st day r) (hf : folB day r c = true) (hk : c.kind ≠ 1) (ho : onN c day = 0) : npK [r] [] c day = 0 := by
 have hm : r ∈ trustT [r] [] c.st day := by
  obtain ⟨t, ht, _⟩ := trust_ext [r] [] c.st day
  rw [ht]
  exact List.mem_append_left _ (firstT_iff.2 ⟨List.mem_singleton.2 rfl, hr⟩)
 have h2 : ¬ (32 < cntN [r] c.st ∨ 32 < cntN [] c.st) := fun q => q.elim (cnt_le _ _ (by show 1 ≤ 32; omega)) (cnt_le _ _ (by show 0 ≤ 32; omega))
 cases hp : pathT day (trustT [r] [] c.st day) c with
 | some p => exact (npK_some ho hk h2 hp).1
 | none =>
   rw [(lad_trust [r] [] c.st day).none_iff] at hp
   obtain ⟨z, hz⟩ := find_of_mem (p := fun a => folB day a c) hm hf
   rw [show fstF day (trustT [r] [] c.st day) c = some z from hz] at hp
   cases hp
theorem pathM_else {r c : NC} {day : Int} (hr : r.st ≠ c.st) (hk : c.kind ≠ 1) (ho : onN c day = 0) : npK [r] [] c day = 66 := by
 have h2 : ¬ (32 < cntN [r] c.st ∨ 32 < cntN [] c.st) := fun q => q.elim (cnt_le _ _ (by show 1 ≤ 32; omega)) (cnt_le _ _ (by show 0 ≤ 32; omega))
 refine (npK_none ho hk h2 (pathT_no ?_)).1
 unfold fstF
 rw [List.find?_eq_none]
 intro x hx
 rcases trust_mem hx with ⟨h1, h3, _⟩ | ⟨h1, _⟩
 · exact absurd h3.1 (by rw [List.mem_singleton.1 h1]; exact hr)
 · cases h1
def awM (k : Int) (r c : NC) : MA := isCM k ⟨utoZ, 1, 40010, [r], c, 0, 0⟩
theorem awake31_plain {a b : AU} (h : AuI a [40000]) (ha : a.st = utoZ) (g : AuI b [40000]) (hb : b.st = deuN) : ∃ ca cb : NC, a.roots = [ca] ∧ b.roots = [cb] ∧ smN ca ∧ smN cb ∧ smN a.ls ∧ isKM a.lsec ⟨utoZ, 1, 40010, [cb], a.ls, 0, 0⟩ = 0 ∧
 accM ⟨[ca], [], [], [], []⟩ (awM a.lsec cb a.ls) 40010 = (⟨[ca], [], [awM a.lsec cb a.ls], [], []⟩, 0) ∧ (accM ⟨[ca], [], [awM a.lsec cb a.ls], [], []⟩ (awM a.lsec cb a.ls) 40010).2 = 67 ∧ (accM ⟨[cb], [], [], [], []⟩ (awM a.lsec cb a.ls) 40010).2 = 66 ∧
 (rootsT ⟨[ca], [], [awM a.lsec cb a.ls], [], []⟩).length = 2 ∧ (awM a.lsec cb a.ls).roots = [cb] ∧ (awM a.lsec cb a.ls).sg = a.ls ∧ (awM a.lsec cb a.ls).st = utoZ := by
 have rl := h.rlen
 have rl2 := g.rlen
 obtain ⟨c, er⟩ : ∃ c, a.roots = [c] := by
  match hr : a.roots, rl with
  | [x], _ => exact ⟨x, rfl⟩
 obtain ⟨d, er2⟩ : ∃ c, b.roots = [c] := by
  match hr : b.roots, rl2 with
  | [x], _ => exact ⟨x, rfl⟩
 obtain ⟨k1, d1, n1, q1, q2, _, _, R⟩ := h.rt 0 c (by rw [er]; rfl)
 obtain ⟨k2, d2, n2, p1, p2, _, _, B⟩ := g.rt 0 d (by rw [er2]; rfl)
 obtain ⟨k3, d3, n3, u1, u2, _, _, hk, L⟩ := h.ls (by simp)
 obtain rfl : (40000 : Int) = d1 := Option.some.inj q2
 obtain rfl : (40000 : Int) = d2 := Option.some.inj p2
 obtain rfl : (40000 : Int) = d3 := Option.some.inj u2
 obtain rfl : k1 = k3 := Option.some.inj (q1.symm.trans u1)
 have hon : onN a.ls 40010 = 0 := L.on (by decide) (by decide)
 have hkd : a.ls.kind ≠ 1 := by rw [L.kind]; decide
 have hls : a.ls.st = utoZ := L.st.trans ha
 have hcs : c.st = utoZ := R.st.trans ha
 have hds : d.st = deuN := B.st.trans hb
 have hfol : folB 40010 c a.ls = true := fol_nat R L (by decide) (.inl rfl) (by decide) rfl (by decide) (by decide) (by decide) (by decide)
 have hroot : rootP a.ls.st 40010 c := by rw [L.st]; exact root_nat R (by decide) (by decide)
 have hp0 : npK [c] [] a.ls 40010 = 0 := pathM_one hroot hfol hkd hon
 have hp1 : npK [d] [] a.ls 40010 = 66 := pathM_else (by rw [hds, hls]; decide) hkd hon
 have hrt : rtN d = true := by unfold rtN; rw [if_pos B.kind, B.key]; exact B.vf
 have hrts : rtsE [d] = 0 := rts_fine (by show ¬ (1 < 1 ∨ 16 < 1); omega) (fun j x hj hx => by
  match j, hj with
  | 0, _ => rw [← Option.some.inj hx]; exact B.ck) (fun j x hj hx => by
  match j, hj with
  | 0, _ => rw [← Option.some.inj hx]; exact hrt)
 have hsg : sgE a.ls utoZ = 0 := by unfold sgE; rw [if_neg (not_not_intro L.ck), if_neg (not_not_intro L.kind), if_neg (not_not_intro hls)]
 have hck : ckM ⟨utoZ, 1, 40010, [d], a.ls, 0, 0⟩ = 0 := by
  unfold ckM
  rw [if_neg (not_not_intro state_utoZ), if_neg (not_not_intro (⟨by show (1 : Int) ≤ 1; omega, by show (1 : Int) ≤ 1073741824; omega⟩)), if_neg (not_not_intro ⟨by show (0 : Int) ≤ 40010; omega, by show (40010 : Int) ≤ 73048; omega⟩), if_neg (not_not_intro hrts)]
  exact hsg
 have hm : awM a.lsec d a.ls = updM ⟨utoZ, 1, 40010, [d], a.ls, 0, 0⟩ (sigE a.lsec (bodyMB ⟨utoZ, 1, 40010, [d], a.ls, 0, 0⟩)) (sigS a.lsec (bodyMB ⟨utoZ, 1, 40010, [d], a.ls, 0, 0⟩)) := isCM_in hk hck
 have hv : verB (pw 4 a.lsec) (byM (awM a.lsec d a.ls)) (awM a.lsec d a.ls).e (awM a.lsec d a.ls).s = true := verM_issue hk hck
 have hmc : ckM (awM a.lsec d a.ls) = 0 := by rw [hm, updM_ck]; exact hck
 have f1 : (awM a.lsec d a.ls).st = utoZ := by rw [hm]; rfl
 have f2 : (awM a.lsec d a.ls).day = 40010 := by rw [hm]; rfl
 have f3 : (awM a.lsec d a.ls).roots = [d] := by rw [hm]; rfl
 have f4 : (awM a.lsec d a.ls).sg = a.ls := by rw [hm]; rfl
 refine ⟨c, d, er, er2, isNat_key R, isNat_key B, isNat_key L, isKM_in hk hck, ?_⟩
 generalize awM a.lsec d a.ls = m at *
 have hpub : pubE m.sg m.day 40010 (byM m) m.e m.s = 0 := by
  unfold pubE
  rw [f4, f2, if_neg (by rw [L.fr]; omega), if_neg (by rw [L.un]; omega), L.key]
  exact if_pos hv
 have hv0 : vfyM [c] [] m 40010 = 0 := by
  unfold vfyM sndE
  rw [if_neg (not_not_intro hmc), f4, if_neg (not_not_intro hp0), ← f4]
  exact hpub
 have hv1 : vfyM [d] [] m 40010 = 66 := by
  unfold vfyM sndE
  rw [if_neg (not_not_intro hmc), f4, hp1]
  rfl
 have hcd : d ∉ [c] := fun q => by
  have := List.mem_singleton.1 q
  rw [this, hcs] at hds
  exact absurd hds (by decide)
 refine ⟨?_, ?_, ?_, ?_, f3, f4, f1⟩
 · unfold accM
   rw [if_neg (fun q => q hv0)]
   rfl
 · unfold accM
   rw [if_neg (fun q => q hv0)]
   have h0 : [m].findIdx? (fun t : MA => decide (t.st = m.st)) = some 0 := by
    rw [List.findIdx?_cons, decide_eq_true rfl]
    rfl
   simp only [h0]
   exact congrArg Prod.snd (if_pos (Int.le_refl _))
 · unfold accM
   rw [if_pos (by rw [hv1]; decide), hv1]
 · show ([m].foldl (fun out m => addT out m.roots) (addT [] [c])).length = 2
   show (addT (addT [] [c]) m.roots).length = 2
   rw [f3]
   have h1 : addT [] [c] = [c] := by
    show addStep [] c = [c]
    unfold addStep
    rw [if_neg (by simp)]
    rfl
   rw [h1]
   show (addStep [c] d).length = 2
   unfold addStep
   rw [if_neg hcd]
   rfl
end Go.Proofs.YtkjplpmogfmhkaaGreatDoor
