/- Parts Mb Mc Md Ud Ab of the proof. -/
import Derived.Test.YtkjplpmogfmhkaaGreatDoorWay
import Derived.Test.YtkjplpmogfmhkaaGreatDoorWaw
import Derived.Test.YtkjplpmogfmhkaaGreatDoorWar
import Derived.Deep.MidRow
namespace Go.Proofs.YtkjplpmogfmhkaaGreatDoor
open Go.RowKit
set_option linter.unusedVariables false
set_option maxRecDepth 100000
theorem rt_range {c : NC} (h : rtN c = true) : inB 0 1073741789 c.e = true ∧ inB 0 1073741789 c.s = true := by
 unfold rtN vfN at h
 split at h
 · split at h
   · unfold verB at h
     simp only [Bool.and_eq_true] at h
     exact ⟨h.1.1.2, h.1.2⟩
   · cases h
 · cases h
def kidsM (a : MA) (k : Nat) : List Nd := [leafN 19 a.st, leafN 130 (be4 a.num), leafN 134 (be3 a.day)] ++ (a.roots.take k).map certN
theorem kidsM_zero (a : MA) : kidsM a 0 = [leafN 19 a.st, leafN 130 (be4 a.num), leafN 134 (be3 a.day)] := by simp [kidsM]
theorem kidsM_succ (a : MA) {k : Nat} {c : NC} (h : a.roots[k]? = some c) : kidsM a (k + 1) = kidsM a k ++ [certN c] := by
 unfold kidsM
 rw [take_snocN h, List.map_append, List.append_assoc]
 rfl
theorem kidsM_len (a : MA) {k : Nat} (h : k ≤ a.roots.length) : (kidsM a k).length = k + 3 := by
 simp [kidsM, List.length_take, Nat.min_eq_left h]
theorem kidsM_all (a : MA) : Nd.mk 49 [] (kidsM a a.roots.length) = bodyMN a := by
 unfold kidsM bodyMN
 rw [List.take_length]
 rfl
structure NdO (w wr : World) (X : Nat → Prop) (A : Option Addr) (n c : Nat) (ts : List Nd) : Prop where
 ext : Ext w wr
 own : ∃ xs, OwnK wr w.heap.size 180 3 (.slice A n c) xs ∧ NdCells (fun b => X b ∧ rowOf (.slice A n c) ≠ some b) 2 wr xs ts
section
variable {w wr wx w8 : World} {X : Nat → Prop} {A A8 : Option Addr} {n c n8 c8 rb : Nat} {ts : List Nd}
theorem NdO.len (h : NdO w wr X A n c ts) : n = ts.length := by
 obtain ⟨xs, ⟨A', n', c', e, hn, _⟩, hx⟩ := h.own
 injection e with e1 e2 e3
 have := hx.1
 omega
theorem NdO.nd (h : NdO w wr X A n c ts) : NdG 0 3 (.mk 49 [] ts) (.agg #[.int .i64 49, .slice none 0 0, .slice A n c]) wr := by
 obtain ⟨xs, O, hx⟩ := h.own
 exact ⟨_, _, _, _, _, _, rfl, RdS.nil _, NdsS.mk O hx (fun b _ => Nat.zero_le _) (fun b _ => Nat.zero_le _)⟩
theorem ndo_app {xs : List Value} {t : Nd} {A1 A2 : Option Addr} {n1 c1 n2 c2 : Nat} (O : OwnK wr w.heap.size 180 3 (.slice A n c) xs) (hN : NdCells (fun b => X b ∧ rowOf (.slice A n c) ≠ some b) 2 wr xs ts) (e : Ext wr wx)
 (hu : NdG wr.heap.size 2 t (.agg #[.int .i64 t.tag, .slice A1 n1 c1, .slice A2 n2 c2]) wx) (hX : ∀ b, wr.heap.size ≤ b → X b)
 (o8 : OwnK w8 w.heap.size 180 3 (.slice A8 n8 c8) (xs ++ [.int .i64 t.tag, .slice A1 n1 c1, .slice A2 n2 c2])) (x8 : Ext w w8) (g8 : wx.grownBy w8 (rowOf (.slice A n c))) (f8 : ∀ r, rowOf (.slice A8 n8 c8) = some r → rowOf (.slice A n c) = some r ∨ wx.heap.size ≤ r) : NdO w w8 X A8 n8 c8 (ts ++ [t]) := by
 obtain ⟨B1, m1, k1, B2, m2, k2, q, r1, r2⟩ := hu
 injection q with q
 injection q with q
 simp only [List.cons.injEq, Value.slice.injEq, and_true, true_and] at q
 obtain ⟨⟨rfl, rfl, rfl⟩, rfl, rfl, rfl⟩ := q
 have hs := e.size
 have old : ∀ b, (X b ∧ rowOf (.slice A n c) ≠ some b) → b < wr.heap.size → (X b ∧ rowOf (.slice A8 n8 c8) ≠ some b) ∧ w8.heap[b]? = wr.heap[b]? := fun b hb hl =>
  ⟨⟨hb.1, fun q => (f8 b q).elim (fun q => hb.2 q) (fun q => by omega)⟩, (g8.block b (by omega) (fun q => hb.2 q.symm)).trans (e.block b hl)⟩
 have new : ∀ b, wr.heap.size ≤ b → b < wx.heap.size → (X b ∧ rowOf (.slice A8 n8 c8) ≠ some b) ∧ w8.heap[b]? = wx.heap[b]? := fun b hb hl => by
  have hne : rowOf (.slice A n c) ≠ some b := fun q => by have := rowOf_bd O b q; omega
  exact ⟨⟨hX b hb, fun q => (f8 b q).elim hne (fun q => by omega)⟩, g8.block b hl (fun q => hne q.symm)⟩
 exact ⟨x8, _, o8, (hN.map old).snoc (r1.map new) (r2.map new)⟩
theorem NdO.poke (h : NdO w wr (fun b => b ≠ rb) A n c ts) (hr : rowOf (.slice A n c) ≠ some rb) (hg : w.heap.size ≤ rb) (i : Nat) (v : Value) : NdO w (wr.setCell ⟨rb, i, none⟩ v) (fun b => b ≠ rb) A n c ts := by
 obtain ⟨xs, O, hx⟩ := h.own
 exact ⟨h.ext.setCell (p := ⟨rb, i, none⟩) hg _, xs, O.grown (Gb.set rb i wr v) (.inr hr), hx.map fun b hb _ => ⟨hb, setCell_block hb.1⟩⟩
structure BdI (w : World) (rb : Nat) (wr : World) (A : Option Addr) (n c : Nat) (ts : List Nd) : Prop where
 nd : NdO w wr (fun b => b ≠ rb) A n c ts
 ge : w.heap.size ≤ rb
 blk : C3 wr rb (.int .i64 49) (.slice none 0 0) (.slice A n c)
 row : rowOf (.slice A n c) ≠ some rb
theorem BdI.app {xs : List Value} {t : Nd} {A1 A2 : Option Addr} {n1 c1 n2 c2 : Nat} (h : BdI w rb wr A n c ts) (O : OwnK wr w.heap.size 180 3 (.slice A n c) xs) (hN : NdCells (fun b => b ≠ rb ∧ rowOf (.slice A n c) ≠ some b) 2 wr xs ts) (e : Ext wr wx)
 (hu : NdG wr.heap.size 2 t (.agg #[.int .i64 t.tag, .slice A1 n1 c1, .slice A2 n2 c2]) wx)
 (o8 : OwnK w8 w.heap.size 180 3 (.slice A8 n8 c8) (xs ++ [.int .i64 t.tag, .slice A1 n1 c1, .slice A2 n2 c2])) (x8 : Ext w w8) (g8 : wx.grownBy w8 (rowOf (.slice A n c))) (f8 : ∀ r, rowOf (.slice A8 n8 c8) = some r → rowOf (.slice A n c) = some r ∨ wx.heap.size ≤ r) :
 w8.cell? ⟨rb, 2, none⟩ = some (.slice A n c) ∧ w8.frozen? ⟨rb, 2, none⟩ = false ∧ rb < w8.heap.size ∧ BdI w rb (w8.setCell ⟨rb, 2, none⟩ (.slice A8 n8 c8)) A8 n8 c8 (ts ++ [t]) := by
 have hl := h.blk.lt
 have hs := e.size
 have hC : C3 w8 rb (.int .i64 49) (.slice none 0 0) (.slice A n c) := (g8.block rb (by omega) (fun q => h.row q.symm)).trans (h.blk.ex e)
 have hr : rowOf (.slice A8 n8 c8) ≠ some rb := fun q => (f8 rb q).elim h.row (fun q => by omega)
 exact ⟨hC.cells.2.2.1, hC.cells.2.2.2.2.2, hC.lt, (ndo_app O hN e hu (fun b hb => by omega) o8 x8 g8 f8).poke hr h.ge 2 _, h.ge, hC.set2 _, hr⟩
end
theorem wide1_3 (x : Int) : wideB 3 [x] = be3 x := by show beN 3 x ++ [] = _; rw [List.append_nil, beN_3]
def NdF2 (B : Nat) (ts : List Nd) : VPred := fun v w => ∃ (g : Nat) (cs : Array Value), v = .slice (some ⟨g, 0, none⟩) ts.length ts.length ∧ B ≤ g ∧ w.heap[g]? = some (.cells cs 180 (0, 0)) ∧ NdCells (fun b => B ≤ b ∧ b ≠ g) 2 w cs.toList ts
theorem stable_NdF2 (B : Nat) (ts : List Nd) : StableP (NdF2 B ts) := fun v w w' e ⟨g, cs, h1, h2, h3, h4⟩ => ⟨g, cs, h1, h2, (e.block g (block_lt h3)).trans h3, h4.map fun b hb hlt => ⟨hb, e.block b hlt⟩⟩
theorem run_nodesG3 {B : Nat} (W : World) (hB : B ≤ W.heap.size) {v0 v1 v2 : Value} {t0 t1 t2 : Nd} (h0 : NdG B 2 t0 v0 W) (h1 : NdG B 2 t1 v1 W) (h2 : NdG B 2 t2 v2 W) : ∃ v' w'', (Instr.buildSlice 178 3 [(0, v0), (1, v1), (2, v2)].toArray).run Tryz.prog W = .ok v' w'' ∧ Ext W w'' ∧ NdF2 B [t0, t1, t2] v' w'' := by
 obtain ⟨a0, n0, c0, b0, m0, d0, rfl, r0, k0⟩ := h0
 obtain ⟨a1, n1, c1, b1, m1, d1, rfl, r1, k1⟩ := h1
 obtain ⟨a2, n2, c2, b2, m2, d2, rfl, r2, k2⟩ := h2
 have e : Ext W (W.alloc (.cells #[.int .i64 t0.tag, .slice a0 n0 c0, .slice b0 m0 d0, .int .i64 t1.tag, .slice a1 n1 c1, .slice b1 m1 d1, .int .i64 t2.tag, .slice a2 n2 c2, .slice b2 m2 d2] 180)) := (Below.refl _ _).alloc (Nat.le_refl _) _
 exact ⟨_, _, run_bs3 W t0.tag a0 b0 n0 c0 m0 d0 t1.tag a1 b1 n1 c1 m1 d1 t2.tag a2 b2 n2 c2 m2 d2, e, _, _, rfl, hB, heap_alloc_new' W _, ((((NdCells.nil _ 2 W).snoc r0 k0).snoc r1 k1).snoc r2 k2).map fun b hb hlt => ⟨⟨hb, by omega⟩, e.block b hlt⟩⟩
def NdH (B : Nat) (ts : List Nd) : VPred := fun v w => ∃ u, v = .agg #[.int .i64 49, .slice none 0 0, u] ∧ NdF2 B ts u w
theorem stable_NdH (B : Nat) (ts : List Nd) : StableP (NdH B ts) := fun v w w' e ⟨u, h1, h2⟩ => ⟨u, h1, stable_NdF2 _ _ _ _ _ e h2⟩
theorem run_ndh {B : Nat} (W : World) {v : Value} {ts : List Nd} (h : NdF2 B ts v W) : ∃ v' w'', (Instr.build 180 [(0, .int .i64 49), (2, v)].toArray).run Tryz.prog W = .ok v' w'' ∧ Ext W w'' ∧ NdH B ts v' w'' := by
 obtain ⟨g, cs, rfl, h⟩ := h
 exact ⟨_, _, run_buildNd2 W 49 _ _ _, Below.refl _ _, _, rfl, g, cs, rfl, h⟩
theorem NdF.own {B : Nat} {ts : List Nd} {g : Nat} {cs : Array Value} {w : World} (hb : B ≤ g) (hg : w.heap[g]? = some (.cells cs 180 (0, 0))) (hl : cs.toList.length = ts.length * 3) (ht : ts.length ≤ 1000) : OwnK w B 180 3 (.slice (some ⟨g, 0, none⟩) ts.length ts.length) cs.toList := by
 exact ⟨_, _, _, rfl, hl.symm, .inr ⟨g, cs, rfl, hb, hg, Nat.le_refl _, by unfold maxLen; omega, by rw [← Array.length_toList]; exact hl, by rw [← hl]; exact List.take_length⟩⟩
theorem run_nodesF1 {B d : Nat} (W : World) (hB : B ≤ W.heap.size) {v0 : Value} {t0 : Nd} (h0 : NdG B d t0 v0 W) : ∃ v' w'', (Instr.buildSlice 178 1 [(0, v0)].toArray).run Tryz.prog W = .ok v' w'' ∧ Ext W w'' ∧ NdF B d [t0] v' w'' := by
 obtain ⟨a0, n0, c0, b0, m0, d0, rfl, r0, k0⟩ := h0
 have e : Ext W (W.alloc (.cells #[.int .i64 t0.tag, .slice a0 n0 c0, .slice b0 m0 d0] 180)) := (Below.refl _ _).alloc (Nat.le_refl _) _
 exact ⟨_, _, (by go_simp : (Instr.buildSlice 178 1 [(0, .agg #[.int .i64 t0.tag, .slice a0 n0 c0, .slice b0 m0 d0])].toArray).run Tryz.prog W = .ok (.slice (some ⟨W.heap.size, 0, none⟩) 1 1) (W.alloc (.cells #[.int .i64 t0.tag, .slice a0 n0 c0, .slice b0 m0 d0] 180))), e, _, _, rfl, hB, heap_alloc_new' W _, ((NdCells.nil _ d W).snoc r0 k0).map fun b hb hlt => ⟨hb, e.block b hlt⟩⟩
def GC3 (B : Nat) : VPred := fun v w => ∃ g, v = .pointer (some ⟨g, 0, none⟩) ∧ B ≤ g ∧ C3 w g (.int .i64 0) (.slice none 0 0) (.slice none 0 0)
theorem stable_GC3 (B : Nat) : StableP (GC3 B) := fun v w w' e ⟨g, h1, h2, h3⟩ => ⟨g, h1, h2, h3.ex e⟩
theorem run_allocN3 (W : World) : (Instr.alloc 180 true (.tuple #[])).run Tryz.prog W = .ok (.pointer (some ⟨W.heap.size, 0, none⟩)) (W.alloc (.cells #[.int .i64 0, .slice none 0 0, .slice none 0 0] 180)) := by go_simp
section
open Go.Proofs.YtkjplpmogfmhkaaGreatDoor.Gd (GRun)
variable {ops : Array Oper} {Q : Exit → Act → World → Prop} {w0 : World} {R : Act → World → Prop}
theorem Gd.wpX_allocN3 {o : Oper} {rest : List Oper} {a : Act} {hs : List (Nat × VPred)} {d : Nat} (B : Nat) (hB : ∀ m : Lt w0, B ≤ m.1.heap.size) (hg : GRun ops o a hs)
 (hd : o.dst = some d) (hz : Nat.blt d a.tmps.size = true) (ho : o.op = .alloc 180) (hin : (opTmps o).all (fun t => Nat.blt t a.tmps.size) = true)
 (hr : Gd.wpX Tryz.prog ops Q w0 R rest (a.put (some d) undef) ((d, GC3 B) :: hs)) : Gd.wpX Tryz.prog ops Q w0 R (o :: rest) a hs :=
 Gd.wpX_newL hg (GC3 B) (stable_GC3 B) (fun _ => Instr.alloc 180 true (.tuple #[])) hd hz (by unfold notSelect; rw [ho]) hin (fun f => by unfold execOp; simp only [ho])
  (fun m f hf => ⟨_, _, run_allocN3 m.1, (Below.refl _ _).alloc (Nat.le_refl _) _, _, rfl, hB m, C3.new _ _ _ _⟩) hr
end
theorem nds_leaf {S S' : Nat → Prop} {w w' : World} {v : Value} (h : NdsS S 2 w v []) : NdsS S' 2 w' v [] := by
 obtain ⟨A, n, c, h1, h2, h3, h4, _⟩ := h
 exact ⟨A, n, c, h1, h2, h3, h4, fun h0 => by rw [h2] at h0; cases h0⟩
theorem leaves_avoid {S : Nat → Prop} {w : World} {xs : List Value} {ts : List Nd} {yb : Nat} {z : Int} {A B : Option Addr} {n c n' c' : Nat} (h : NdCells S 2 w xs ts) (hk : ∀ t ∈ ts, t.kids = []) (hy : C3 w yb (.int .i64 z) (.slice A n c) (.slice B n' c')) : NdCells (fun b => S b ∧ b ≠ yb) 2 w xs ts :=
 ⟨h.1, fun i t ht => by
   obtain ⟨A1, n1, c1, A2, n2, c2, e0, e1, e2, r1, r2⟩ := h.2 i t ht
   have hk := hk t (List.mem_of_getElem? ht)
   rw [hk] at r2
   exact ⟨A1, n1, c1, A2, n2, c2, e0, e1, e2, r1.avoid hy (fun b hb _ hne => ⟨hb, hne⟩), by rw [hk]; exact nds_leaf r2⟩⟩
def GNdO (B : Nat) (ts : List Nd) : VPred := fun v w => ∃ A n c xs, v = .slice A n c ∧ OwnK w B 180 3 (.slice A n c) xs ∧ NdCells (fun b => True ∧ rowOf (.slice A n c) ≠ some b) 2 w xs ts
theorem stable_GNdO (B : Nat) (ts : List Nd) : StableP (GNdO B ts) := fun v w w' e ⟨A, n, c, xs, h1, h2, h3⟩ => ⟨A, n, c, xs, h1, h2.ext e, h3.map fun b hb hl => ⟨hb, e.block b hl⟩⟩
theorem run_appNdsO {B : Nat} {W : World} {ty : TypeId} {v src : Value} {ts us : List Nd} (hB : B ≤ W.heap.size) (hx : NdF B 2 ts v W) (hy : NdF B 2 us src W) (h2 : 0 < us.length) (hs : ts.length + us.length ≤ 1000) :
 ∃ v' w'', (Builtin.append_ #[178, 178] ty #[v, src]).run Tryz.prog W = .ok v' w'' ∧ Ext W w'' ∧ GNdO B (ts ++ us) v' w'' := by
 obtain ⟨i, z, ht, hi, hz, hsz, hby, hzs⟩ := elemNd
 obtain ⟨g, cs, rfl, hg, hb, hc⟩ := hx
 obtain ⟨g2, cs2, rfl, hg2, hb2, hc2⟩ := hy
 obtain ⟨v', w', k1, k2, k3⟩ := run_append_arg_grows (P := Tryz.prog) W 178 ty 180 i z 3 56 ht hi hz hsz hby hzs (by decide) ⟨g, 0, none⟩ ts.length ts.length cs.toList hc.1 (fun j u hu => by rw [Addr.add_lit, Nat.zero_add, cell_of_row W g j cs _ (0, 0) hb]; simpa using hu) ⟨g2, 0, none⟩ us.length us.length cs2.toList hc2.1 (fun j u hu => by rw [Addr.add_lit, Nat.zero_add, cell_of_row W g2 j cs2 _ (0, 0) hb2]; simpa using hu) (by omega) (by unfold maxLen; omega) (by omega)
 have e : Ext W w' := ⟨k3.os, k3.tape, k3.output, k3.size, fun k hk => k3.block k hk (by simp)⟩
 have O := ownsRow_ownK (by decide) k2
 obtain ⟨A', n', c', rfl, _⟩ := id O
 exact ⟨_, w', k1, e, A', n', c', _, rfl, O.mono hB, (hc.append hc2).map fun b hb hlt => ⟨⟨trivial, fun q => by have := rowOf_geK O b q; omega⟩, e.block b hlt⟩⟩
set_option maxHeartbeats 8000000 in
theorem mbody_any (a : MA) (v : Value) (w : World) (hv : RdN w v a.roots) (hs : smL a.roots) (hg : smN a.sg) (ht : a.st.length ≤ maxLen) (E : KTab w 1) : Calls Tryz.prog 60 #[maV a v] w (RetRE w (byM a) (ckM a)) := by
 obtain ⟨wz, hwz, ez, TZ⟩ := ma_alloc w a v
 have HC := Lib.hid (fun W (e : Ext w W) => mcheck_any a v W (RdK.ext hv e) hs hg ht (E.below e))
 have HTR := Lib.hid (fun (c : NC) W (h : c ∈ a.roots) (q : ckN c = 0) (r : rtN c = true) => nTree_new c W (hs c h) q (rt_range r).1 (rt_range r).2)
 obtain ⟨A, n, cp, rfl, hn, hnc, hcm, hel⟩ := hv.at_
 subst hn
 have HEL := Lib.hid hel
 unfold maxLen at hcm
 have EZ := Lib.hid ez
 have HZ := Lib.hid TZ
 clear hv hs hg ht E hel ez TZ
 unfold maV maCells
 go_enter Tryz.func60, Tryz.ntmps60
 go_upto_region 1 with fail
 rw [← hwz]
 clear hwz
 have HROW := Lib.hid HZ.out.row
 go_wp2_with (refine wpList_load_row rfl 80 _ rfl w.heap.size rfl 80 (maCells a (.slice A a.roots.length cp)).toArray (0, 0) _ HROW.out Tryz.underlying80 rfl info_ma ?_)
 refine (HC.out wz EZ.out).mono ?_
 rintro e ww ⟨rfl, b1⟩
 have X1 := Lib.hid (EZ.out.tr b1)
 have T1 := Lib.hid (HZ.out.ext b1)
 clear b1 HZ EZ HROW HC
 by_cases hc : ckM a = 0
 case neg =>
  have hb : (ckM a != 0) = true := by simpa using hc
  have HB := Lib.hid (show byM a = [] from if_neg hc)
  clear hc
  go_wp2_with fail
  go_ret2
  rw [HB.out]
  exact ⟨_, _, _, rfl, (show _ = _ from rfl), Rd.nil_ _, X1.out⟩
 have HK := Lib.hid hc
 have HB := Lib.hid (show byM a = bodyMB a from if_pos hc)
 obtain ⟨hst, ⟨num0, num1⟩, ⟨day0, day1⟩, hrts, _⟩ := ckM_ok hc
 have sa : a.st.length ≤ 4096 := by have := hst.1.2; omega
 obtain ⟨⟨_, h16⟩, hall⟩ := rtsE_ok hrts
 have HALL := Lib.hid hall
 rw [hc]
 clear hc hst hrts hall
 go_upto_region 4 with fail
 refine Gd.wp_region_X 17 (by kernel_rfl) (by kernel_rfl) ?_
 simp only [List.take_succ_cons, List.take_zero, List.drop_succ_cons, List.drop_zero]
 intro wq hw1
 have LL : ∀ m : Lt wq, Ext ww m.1 := fun m => hw1.tr m.2
 have BB : ∀ m : Lt wq, ww.heap.size ≤ m.1.heap.size := fun m => (LL m).size
 have v0 : ∀ m : Lt wq, m.1.cell? ⟨w.heap.size, 0, none⟩ = some (.string (bstr a.st)) := fun m => (T1.out.ext (LL m)).c0
 have v1 : ∀ m : Lt wq, m.1.cell? ⟨w.heap.size, 1, none⟩ = some (.int .i64 a.num) := fun m => (T1.out.ext (LL m)).c1
 have v2 : ∀ m : Lt wq, m.1.cell? ⟨w.heap.size, 2, none⟩ = some (.int .i64 a.day) := fun m => (T1.out.ext (LL m)).c2
 have vl : ∀ m : Lt wq, w.heap.size < m.1.heap.size := fun m => (T1.out.ext (LL m)).lt
 repeat (refine Gd.wpX_pure (by first | exact trivial | exact ⟨_, rfl, rfl, rfl⟩) rfl rfl rfl rfl rfl (fun K hK => ?_); go_big_quiet_op; refine hK _ ?_; clear hK K)
 refine Gd.wpX_convL (by first | exact trivial | exact ⟨_, rfl, rfl, rfl⟩) (GS ww.heap.size a.st) (stable_GS _ _) (fun _ => .string (bstr a.st)) rfl rfl rfl rfl rfl (fun _ => rfl) (fun m f hf => gs_str m.1 (BB m) a.st sa) ?_
 simp only [Act.put, List.setIfInBounds_toArray, List.set_cons_zero, List.set_cons_succ]
 refine Gd.wpX_buildL (by first | exact trivial | exact ⟨_, rfl, rfl, rfl⟩) (NdG ww.heap.size 2 (leafN 19 a.st)) (stable_NdG _ _ _) (fun f => [(0, .int .i64 19), (1, f 17)]) rfl rfl rfl rfl rfl (fun f => rfl) (fun m f hf => run_leaf m.1 19 (hf 17 _ rfl rfl)) ?_
 simp only [Act.put, List.setIfInBounds_toArray, List.set_cons_zero, List.set_cons_succ]
 repeat (refine Gd.wpX_pure (by first | exact trivial | exact ⟨_, rfl, rfl, rfl⟩) rfl rfl rfl rfl rfl (fun K hK => ?_); go_big_quiet_op; refine hK _ ?_; clear hK K)
 refine Gd.wpX_buildSL (by first | exact trivial | exact ⟨_, rfl, rfl, rfl⟩) (GI [a.num]) (stable_GI _) (fun _ => [(0, .int .i64 a.num)]) rfl rfl rfl rfl rfl (fun _ => rfl) (fun m f hf => ⟨_, _, (by go_simp : (Instr.buildSlice 41 1 [(0, .int .i64 a.num)].toArray).run Tryz.prog m.1 = .ok (.slice (some ⟨m.1.heap.size, 0, none⟩) 1 1) (m.1.alloc (.cells #[.int .i64 a.num] 3))), (Below.refl _ _).alloc (Nat.le_refl _) _, gi_lit m.1 #[.int .i64 a.num] [a.num] 1 rfl (by omega) rfl⟩) ?_
 simp only [Act.put, List.setIfInBounds_toArray, List.set_cons_zero, List.set_cons_succ]
 refine Gd.wpX_callF (by first | exact trivial | exact ⟨_, rfl, rfl, rfl⟩) (GS ww.heap.size (be4 a.num)) (stable_GS _ _) (fun f => [.int .i64 4, f 21]) rfl rfl rfl rfl rfl (by kernel_rfl) rfl (fun f => rfl) (fun m f hf => (wide_any 4 m.1 (hf 21 _ rfl rfl) (by omega) (by simp)).mono fun _ _ h => (wide1_4 a.num ▸ h : RetB _ _ _ _).gs (BB m)) ?_
 simp only [Act.put, List.setIfInBounds_toArray, List.set_cons_zero, List.set_cons_succ]
 refine Gd.wpX_buildL (by first | exact trivial | exact ⟨_, rfl, rfl, rfl⟩) (NdG ww.heap.size 2 (leafN 130 (be4 a.num))) (stable_NdG _ _ _) (fun f => [(0, .int .i64 130), (1, f 22)]) rfl rfl rfl rfl rfl (fun f => rfl) (fun m f hf => run_leaf m.1 130 (hf 22 _ rfl rfl)) ?_
 simp only [Act.put, List.setIfInBounds_toArray, List.set_cons_zero, List.set_cons_succ]
 repeat (refine Gd.wpX_pure (by first | exact trivial | exact ⟨_, rfl, rfl, rfl⟩) rfl rfl rfl rfl rfl (fun K hK => ?_); go_big_quiet_op; refine hK _ ?_; clear hK K)
 refine Gd.wpX_buildSL (by first | exact trivial | exact ⟨_, rfl, rfl, rfl⟩) (GI [a.day]) (stable_GI _) (fun _ => [(0, .int .i64 a.day)]) rfl rfl rfl rfl rfl (fun _ => rfl) (fun m f hf => ⟨_, _, (by go_simp : (Instr.buildSlice 41 1 [(0, .int .i64 a.day)].toArray).run Tryz.prog m.1 = .ok (.slice (some ⟨m.1.heap.size, 0, none⟩) 1 1) (m.1.alloc (.cells #[.int .i64 a.day] 3))), (Below.refl _ _).alloc (Nat.le_refl _) _, gi_lit m.1 #[.int .i64 a.day] [a.day] 1 rfl (by omega) rfl⟩) ?_
 simp only [Act.put, List.setIfInBounds_toArray, List.set_cons_zero, List.set_cons_succ]
 refine Gd.wpX_callF (by first | exact trivial | exact ⟨_, rfl, rfl, rfl⟩) (GS ww.heap.size (be3 a.day)) (stable_GS _ _) (fun f => [.int .i64 3, f 26]) rfl rfl rfl rfl rfl (by kernel_rfl) rfl (fun f => rfl) (fun m f hf => (wide_any 3 m.1 (hf 26 _ rfl rfl) (by omega) (by simp)).mono fun _ _ h => (wide1_3 a.day ▸ h : RetB _ _ _ _).gs (BB m)) ?_
 simp only [Act.put, List.setIfInBounds_toArray, List.set_cons_zero, List.set_cons_succ]
 refine Gd.wpX_buildL (by first | exact trivial | exact ⟨_, rfl, rfl, rfl⟩) (NdG ww.heap.size 2 (leafN 134 (be3 a.day))) (stable_NdG _ _ _) (fun f => [(0, .int .i64 134), (1, f 27)]) rfl rfl rfl rfl rfl (fun f => rfl) (fun m f hf => run_leaf m.1 134 (hf 27 _ rfl rfl)) ?_
 simp only [Act.put, List.setIfInBounds_toArray, List.set_cons_zero, List.set_cons_succ]
 refine Gd.wpX_buildSL (by first | exact trivial | exact ⟨_, rfl, rfl, rfl⟩) (NdF2 ww.heap.size [leafN 19 a.st, leafN 130 (be4 a.num), leafN 134 (be3 a.day)]) (stable_NdF2 _ _) (fun f => [(0, f 18), (1, f 23), (2, f 28)]) rfl rfl rfl rfl rfl (fun f => rfl) (fun m f hf => run_nodesG3 m.1 (BB m) (hf 18 _ rfl rfl) (hf 23 _ rfl rfl) (hf 28 _ rfl rfl)) ?_
 simp only [Act.put, List.setIfInBounds_toArray, List.set_cons_zero, List.set_cons_succ]
 refine Gd.wpX_buildL (by first | exact trivial | exact ⟨_, rfl, rfl, rfl⟩) (NdH ww.heap.size [leafN 19 a.st, leafN 130 (be4 a.num), leafN 134 (be3 a.day)]) (stable_NdH _ _) (fun f => [(0, .int .i64 49), (2, f 29)]) rfl rfl rfl rfl rfl (fun f => rfl) (fun m f hf => run_ndh m.1 (hf 29 _ rfl rfl)) ?_
 simp only [Act.put, List.setIfInBounds_toArray, List.set_cons_zero, List.set_cons_succ]
 refine Gd.wpX_allocN3 ww.heap.size BB (by first | exact trivial | exact ⟨_, rfl, rfl, rfl⟩) rfl rfl rfl rfl ?_
 simp only [Act.put, List.setIfInBounds_toArray, List.set_cons_zero, List.set_cons_succ]
 refine Gd.wpX_endL (fun m f hf => ?_)
 obtain ⟨u, e30, g, cs, e29, hBg, hgb, hcl⟩ := hf 30 (NdH ww.heap.size [leafN 19 a.st, leafN 130 (be4 a.num), leafN 134 (be3 a.day)]) rfl
 obtain ⟨rb, e5, hBr, hC⟩ := hf 5 (GC3 ww.heap.size) rfl
 obtain rfl : u = .slice (some ⟨g, 0, none⟩) 3 3 := e29
 simp only [fillH]
 simp only [Act.put, List.setIfInBounds_toArray, List.set_cons_zero, List.set_cons_succ]
 rw [e30, e5]
 have LM := Lib.hid (LL m)
 have BM := Lib.hid (BB m)
 have HCL := Lib.hid hcl
 have HGB := Lib.hid hgb
 have HBG := Lib.hid hBg
 have HBR := Lib.hid hBr
 have HC := Lib.hid hC
 clear hf e30 e5 hw1 LL BB v0 v1 v2 vl hcl hgb hBg hBr hC
 generalize m.1 = w2 at *
 generalize f 17 = f17 at *
 generalize f 18 = f18 at *
 generalize f 21 = f21 at *
 generalize f 22 = f22 at *
 generalize f 23 = f23 at *
 generalize f 26 = f26 at *
 generalize f 27 = f27 at *
 generalize f 28 = f28 at *
 generalize f 29 = f29 at *
 clear m f
 show wpList _ _ _ _ _ _
 obtain ⟨wn, hwn⟩ : ∃ wn, wn = ((w2.setCell ⟨rb, 0, none⟩ (.int .i64 49)).setCell ⟨rb, 1, none⟩ (.slice none 0 0)).setCell ⟨rb, 2, none⟩ (.slice (some ⟨g, 0, none⟩) 3 3) := ⟨_, rfl⟩
 have hgr : g ≠ rb := fun q => by
  subst q
  have h1 := HGB.out.symm.trans HC.out
  injection h1 with h1
  injection h1 with h1
  have h2 := HCL.out.1
  rw [h1] at h2
  simp at h2
 have hX2 : Ext ww wn := by rw [hwn]; exact ext_set3 LM.out HBR.out _ _ _
 have HI : Hid (BdI ww rb wn (some ⟨g, 0, none⟩) 3 3 (kidsM a 0)) := Lib.hid (by
  have hs : ∀ b, b ≠ rb → wn.heap[b]? = w2.heap[b]? := fun b hb => by rw [hwn]; exact set3_block hb
  have O := NdF.own HBG.out ((hs g hgr).trans HGB.out) HCL.out.1 (by simp)
  have hrow : rowOf (.slice (some ⟨g, 0, none⟩) 3 3) ≠ some rb := fun q => hgr (by have q : some g = some rb := q; injection q)
  have hc2 := leaves_avoid HCL.out (by intro t ht; simp only [List.mem_cons, List.not_mem_nil, or_false] at ht; rcases ht with rfl | rfl | rfl <;> rfl) HC.out
  exact ⟨⟨hX2, _, O, by rw [kidsM_zero]; exact hc2.map fun b hb hl => ⟨⟨hb.2, fun q => hb.1.2 (by have q : some g = some b := q; injection q with q; exact q.symm)⟩, hs b hb.2⟩⟩, HBR.out, by rw [hwn]; exact HC.out.set3 _ _ _, hrow⟩)
 obtain ⟨y0, y1, y2, yf0, yf1, yf2⟩ := HC.out.cells
 have hlb := HC.out.lt
 have T2 := Lib.hid (T1.out.ext hX2)
 have XW := Lib.hid (X1.out.tr hX2)
 go_upto_region 5 with fail
 rw [← hwn]
 clear y0 y1 y2 yf0 yf1 yf2 hlb hwn hgr hX2 HCL HGB HBG HBR HC BM LM T1
 have c3 := T2.out.c3
 have cl := T2.out.lt
 go_wp2_with fail
 clear c3 cl
 go_loopw [34] (fun s34 wr => ∃ (k : Nat) (A5 : Option Addr) (n5 c5 : Nat), k ≤ a.roots.length ∧ s34 = .int .i64 (k : Int) ∧ Hid (BdI ww rb wr A5 n5 c5 (kidsM a k))) (fun s34 _ => a.roots.length - (intOf s34).toNat)
 case atStart => exact ⟨0, _, _, _, Nat.zero_le _, rfl, HI⟩
 case round =>
  obtain ⟨k, A5, n5, c5, hk, rfl, I⟩ := hrel
  by_cases hlt : k < a.roots.length
  case neg =>
   obtain rfl : k = a.roots.length := by omega
   have HV := Lib.hid (show NdG 0 3 (bodyMN a) (.agg #[.int .i64 (bodyMN a).tag, .slice none 0 0, .slice A5 n5 c5]) wr by rw [← kidsM_all]; exact I.out.nd.nd)
   obtain ⟨y0, y1, y2, yf0, yf1, yf2⟩ := I.out.blk.cells
   have hlb := I.out.blk.lt
   have X9 := Lib.hid (X1.out.tr I.out.nd.ext)
   clear I hlt hk
   go_wp2_with fail
   refine (encode_ok (d := 4) (ts := [bodyMN a]) _ (ok_bodyMN a) (nds_one (t := bodyMN a) rfl HV.out) (by omega) (cnt_bodyMN h16) (bodyMB_4096 HK.out)).mono ?_
   rintro e w9 ⟨A9, n9, c9, rfl, hn9, o9, b9⟩
   go_wp2_with fail
   go_ret2
   rw [HB.out, HK.out]
   exact ⟨_, _, _, rfl, hn9, o9.rd, Ext.tr (X9.out.alloc X9.out.size _) b9⟩
  case pos =>
  have XR := Lib.hid (X1.out.tr I.out.nd.ext)
  obtain ⟨y, hy⟩ : ∃ y, a.roots[k]? = some y := ⟨_, List.getElem?_eq_getElem hlt⟩
  obtain ⟨b, o, rfl, hbl, hc⟩ := HEL.out (by omega)
  have hcy := hc k y hy
  have HY := Lib.hid hy
  clear hy hc
  have wi1 : IntKind.i64.wrap ((k : Int)) = (k : Int) := IntWalk.i64_in _ (by omega)
  have zi1 : (0 : Int) ≤ (k : Int) := by omega
  have li1 : (k : Int) < (a.roots.length : Int) := by omega
  have ti1 : ((k : Int)).toNat = k := by omega
  have wk : IntKind.i64.wrap ((k : Int) + 1) = (k : Int) + 1 := IntWalk.i64_in _ (by omega)
  have q0 := (XR.out.cell (p := ⟨b, o + k * 11, none⟩) hbl).trans hcy.1
  have q1 := (XR.out.cell (p := ⟨b, o + k * 11 + 1, none⟩) hbl).trans hcy.2.1
  have q2 := (XR.out.cell (p := ⟨b, o + k * 11 + 2, none⟩) hbl).trans hcy.2.2.1
  have q3 := (XR.out.cell (p := ⟨b, o + k * 11 + 3, none⟩) hbl).trans hcy.2.2.2.1
  have q4 := (XR.out.cell (p := ⟨b, o + k * 11 + 4, none⟩) hbl).trans hcy.2.2.2.2.1
  have q5 := (XR.out.cell (p := ⟨b, o + k * 11 + 5, none⟩) hbl).trans hcy.2.2.2.2.2.1
  have q6 := (XR.out.cell (p := ⟨b, o + k * 11 + 6, none⟩) hbl).trans hcy.2.2.2.2.2.2.1
  have q7 := (XR.out.cell (p := ⟨b, o + k * 11 + 7, none⟩) hbl).trans hcy.2.2.2.2.2.2.2.1
  have q8 := (XR.out.cell (p := ⟨b, o + k * 11 + 8, none⟩) hbl).trans hcy.2.2.2.2.2.2.2.2.1
  have q9 := (XR.out.cell (p := ⟨b, o + k * 11 + 9, none⟩) hbl).trans hcy.2.2.2.2.2.2.2.2.2.1
  have q10 := (XR.out.cell (p := ⟨b, o + k * 11 + 10, none⟩) hbl).trans hcy.2.2.2.2.2.2.2.2.2.2
  clear hcy
  obtain ⟨wc, hwc, en, TN⟩ := nc_alloc wr y
  go_upto_region 8 with fail
  rw [← hwc]
  clear hwc q0 q1 q2 q3 q4 q5 q6 q7 q8 q9 q10
  have EN := Lib.hid en
  obtain ⟨t0, t1, t2, t3, t4, t5, t6, t7, t8, t9, t10⟩ := TN.cells
  have hl := TN.lt
  clear en TN
  go_wp2_with fail
  refine (HTR.out y _ (List.mem_of_getElem? HY.out) (HALL.out y (List.mem_of_getElem? HY.out)).1 (HALL.out y (List.mem_of_getElem? HY.out)).2).mono ?_
  rintro e w5 ⟨b5, u, hu, rfl⟩
  obtain ⟨A1, n1, c1, A2, n2, c2, rfl⟩ := node_open hu
  rw [show (certN y).tag = 48 from rfl] at hu ⊢
  clear t0 t1 t2 t3 t4 t5 t6 t7 t8 t9 t10 hl
  obtain ⟨wa, hwa⟩ : ∃ wa, wa = w5.alloc (.cells #[.int .i64 48, .slice A1 n1 c1, .slice A2 n2 c2] 180) := ⟨_, rfl⟩
  have ea : Ext w5 wa := by rw [hwa]; exact (Below.refl _ _).alloc (Nat.le_refl _) _
  have hba : C3 wa w5.heap.size (.int .i64 48) (.slice A1 n1 c1) (.slice A2 n2 c2) := by rw [hwa]; exact C3.new _ _ _ _
  go_upto_region 9 with fail
  rw [← hwa]
  clear hwa
  have ERA := Lib.hid ((EN.out.tr b5).tr ea)
  have ED : Ext wa (wa.alloc (.cells #[.int .i64 48, .slice A1 n1 c1, .slice A2 n2 c2] 180)) := (Below.refl _ _).alloc (Nat.le_refl _) _
  have HU := Lib.hid (stable_NdG _ _ _ _ _ _ (ea.tr ED) (hu.mono (Nat.le_trans EN.out.size (Nat.le_refl _))))
  have hn5 := I.out.nd.len
  rw [kidsM_len a hk] at hn5
  have HNN := Lib.hid hn5
  obtain ⟨xs, O5, N5⟩ := I.out.nd.own
  have HO5 := Lib.hid O5
  have HN5 := Lib.hid N5
  have HNX := Lib.hid (show n5 * 3 = xs.length by rw [N5.1, kidsM_len a hk, hn5])
  have O6 := Lib.hid (O5.ext (ERA.out.tr ED))
  have HRK := Lib.hid (show RdK (wa.alloc (.cells #[.int .i64 48, .slice A1 n1 c1, .slice A2 n2 c2] 180)) 3 (.slice (some ⟨wa.heap.size, 0, none⟩) 1 1) [.int .i64 48, .slice A1 n1 c1, .slice A2 n2 c2] from RdK.lit wa 3 #[.int .i64 48, .slice A1 n1 c1, .slice A2 n2 c2] 180 1 rfl (by unfold maxLen; omega))
  have HONE := Lib.hid (show ∀ u ∈ [Value.int .i64 48, .slice A1 n1 c1, .slice A2 n2 c2], u.oneCell' = true from fun u hu => by simp only [List.mem_cons, List.not_mem_nil, or_false] at hu; rcases hu with rfl | rfl | rfl <;> rfl)
  have X6 := Lib.hid (I.out.nd.ext.tr (ERA.out.tr ED))
  have hcr := I.out.blk.ex ERA.out
  obtain ⟨y0, y1, y2, yf0, yf1, yf2⟩ := hcr.cells
  have hlb := hcr.lt
  obtain ⟨z0, z1, z2, zf0, zf1, zf2⟩ := hba.cells
  have hlz := hba.lt
  have ERD := Lib.hid (ERA.out.tr ED)
  clear O5 N5 b5 ea hu hba hcr ED EN XR hn5
  go_wp2_with (refine wpList_appKR (k := 3) (by decide) elemNd (n := n5) (m := 1) (B := ww.heap.size) (w0 := ww) O6.out HNX.out HRK.out (by rfl) HONE.out X6.out (by have := HNN.out; omega) (by have := HNN.out; unfold maxLen; omega) X6.out.size rfl rfl rfl rfl ?_; intro A8 n8 c8 w8 hn8 o8 x8 g8 f8; obtain ⟨p1, p2, p3, I8⟩ := BdI.app I.out HO5.out HN5.out ERD.out HU.out o8 x8 g8 f8; have HI8 := Lib.hid I8; clear y0 y1 y2 yf0 yf1 yf2 z0 z1 z2 zf0 zf1 zf2 hlb hlz o8 x8 g8 f8 I8)
  rw [← kidsM_succ a HY.out] at HI8
  go_roundw
  case rel => exact ⟨k + 1, A8, n8, c8, by omega, by go_num, HI8⟩
  case measure => simp [intOf]; omega
theorem ndf_deep {B : Nat} {ts : List Nd} {v : Value} {w : World} (h : NdF B 0 ts v w) (hk : ∀ t ∈ ts, t.kids = []) : NdF B 2 ts v w := by
 obtain ⟨g, cs, h1, h2, h3, h4⟩ := h
 refine ⟨g, cs, h1, h2, h3, h4.1, fun i t ht => ?_⟩
 obtain ⟨A1, n1, c1, A2, n2, c2, e0, e1, e2, r1, r2⟩ := h4.2 i t ht
 have hk := hk t (List.mem_of_getElem? ht)
 obtain ⟨_, A, c, q1, q2⟩ := r2
 rw [q1] at e2
 exact ⟨A1, n1, c1, A, 0, c, e0, e1, e2, r1, by rw [hk]; exact ⟨A, 0, c, rfl, rfl, Nat.zero_le _, q2, fun h0 => absurd h0 (Nat.lt_irrefl 0)⟩⟩
set_option maxHeartbeats 8000000 in
theorem refmbody_any (a : MA) (v : Value) (w : World) (hv : RdN w v a.roots) (hs : smL a.roots) (hg : smN a.sg) (ht : a.st.length ≤ maxLen) (E : KTab w 0) : Calls Tryz.prog 61 #[maV a v] w (RetRE w (byM a) (ckM a)) := by
 obtain ⟨wz, hwz, ez, TZ⟩ := ma_alloc w a v
 have HC := Lib.hid (fun W (e : Ext w W) => refmcheck_any a v W (RdK.ext hv e) hs hg ht (E.below e))
 have HTR := Lib.hid (fun (c : NC) W (h : c ∈ a.roots) (q : ckN c = 0) (r : rtN c = true) => nobject_new c W (hs c h) q (rt_range r).1 (rt_range r).2)
 obtain ⟨A, n, cp, rfl, hn, hnc, hcm, hel⟩ := hv.at_
 subst hn
 have HEL := Lib.hid hel
 unfold maxLen at hcm
 have EZ := Lib.hid ez
 have HZ := Lib.hid TZ
 clear hv hs hg ht E hel ez TZ
 unfold maV maCells
 go_enter Tryz.func61, Tryz.ntmps61
 go_upto_region 1 with fail
 rw [← hwz]
 clear hwz
 have HROW := Lib.hid HZ.out.row
 go_wp2_with (refine wpList_load_row rfl 80 _ rfl w.heap.size rfl 80 (maCells a (.slice A a.roots.length cp)).toArray (0, 0) _ HROW.out Tryz.underlying80 rfl info_ma ?_)
 refine (HC.out wz EZ.out).mono ?_
 rintro e ww ⟨rfl, b1⟩
 have X1 := Lib.hid (EZ.out.tr b1)
 have T1 := Lib.hid (HZ.out.ext b1)
 clear b1 HZ EZ HROW HC
 by_cases hc : ckM a = 0
 case neg =>
  have hb : (ckM a != 0) = true := by simpa using hc
  have HB := Lib.hid (show byM a = [] from if_neg hc)
  clear hc
  go_wp2_with fail
  go_ret2
  rw [HB.out]
  exact ⟨_, _, _, rfl, (show _ = _ from rfl), Rd.nil_ _, X1.out⟩
 have HK := Lib.hid hc
 have HB := Lib.hid (show byM a = bodyMB a from if_pos hc)
 obtain ⟨hst, ⟨num0, num1⟩, ⟨day0, day1⟩, hrts, _⟩ := ckM_ok hc
 have sa : a.st.length ≤ 4096 := by have := hst.1.2; omega
 obtain ⟨⟨_, h16⟩, hall⟩ := rtsE_ok hrts
 have HALL := Lib.hid hall
 rw [hc]
 clear hc hst hrts hall
 have n63 : a.num < 9223372036854775808 := by omega
 have d63 : a.day < 9223372036854775808 := by omega
 have nn0 : 0 ≤ a.num := by omega
 go_upto_region 4 with fail
 refine Gd.wp_region_X 11 (by kernel_rfl) (by kernel_rfl) ?_
 simp only [List.take_succ_cons, List.take_zero, List.drop_succ_cons, List.drop_zero]
 intro wq hw1
 have LL : ∀ m : Lt wq, Ext ww m.1 := fun m => hw1.tr m.2
 have BB : ∀ m : Lt wq, ww.heap.size ≤ m.1.heap.size := fun m => (LL m).size
 have v0 : ∀ m : Lt wq, m.1.cell? ⟨w.heap.size, 0, none⟩ = some (.string (bstr a.st)) := fun m => (T1.out.ext (LL m)).c0
 have v1 : ∀ m : Lt wq, m.1.cell? ⟨w.heap.size, 1, none⟩ = some (.int .i64 a.num) := fun m => (T1.out.ext (LL m)).c1
 have v2 : ∀ m : Lt wq, m.1.cell? ⟨w.heap.size, 2, none⟩ = some (.int .i64 a.day) := fun m => (T1.out.ext (LL m)).c2
 have vl : ∀ m : Lt wq, w.heap.size < m.1.heap.size := fun m => (T1.out.ext (LL m)).lt
 repeat (refine Gd.wpX_pure (by first | exact trivial | exact ⟨_, rfl, rfl, rfl⟩) rfl rfl rfl rfl rfl (fun K hK => ?_); go_big_quiet_op; refine hK _ ?_; clear hK K)
 refine Gd.wpX_callF (by first | exact trivial | exact ⟨_, rfl, rfl, rfl⟩) (NdF ww.heap.size 2 [leafN 19 a.st, leafN 130 (be4 a.num)]) (stable_NdF _ _ _) (fun _ => [.string (bstr a.st), .int .i64 a.num]) rfl rfl rfl rfl rfl (by kernel_rfl) rfl (fun _ => rfl) (fun m f hf => (refhead_any a.st a.num m.1 sa nn0 n63).mono fun e w3 ⟨v, h1, h2, h3⟩ => ⟨v, h1, h2, ndf_deep (ndf_mono h3 (BB m)) (by intro t ht; simp only [List.mem_cons, List.not_mem_nil, or_false] at ht; rcases ht with rfl | rfl <;> rfl)⟩) ?_
 simp only [Act.put, List.setIfInBounds_toArray, List.set_cons_zero, List.set_cons_succ]
 repeat (refine Gd.wpX_pure (by first | exact trivial | exact ⟨_, rfl, rfl, rfl⟩) rfl rfl rfl rfl rfl (fun K hK => ?_); go_big_quiet_op; refine hK _ ?_; clear hK K)
 refine Gd.wpX_callF (by first | exact trivial | exact ⟨_, rfl, rfl, rfl⟩) (GS ww.heap.size (be3 a.day)) (stable_GS _ _) (fun _ => [.int .i64 a.day, .int .i64 3]) rfl rfl rfl rfl rfl (by kernel_rfl) rfl (fun _ => rfl) (fun m f hf => (refbytes_any 3 a.day 3 m.1 day0 d63 rfl (by omega)).mono fun _ _ h => (beN_3 a.day ▸ h : RetB _ _ _ _).gs (BB m)) ?_
 simp only [Act.put, List.setIfInBounds_toArray, List.set_cons_zero, List.set_cons_succ]
 refine Gd.wpX_callF (by first | exact trivial | exact ⟨_, rfl, rfl, rfl⟩) (NdG ww.heap.size 2 (leafN 134 (be3 a.day))) (stable_NdG _ _ _) (fun f => [.int .i64 134, f 21]) rfl rfl rfl rfl rfl (by kernel_rfl) rfl (fun f => rfl) (fun m f hf => leafC m.1 134 (hf 21 _ rfl rfl)) ?_
 simp only [Act.put, List.setIfInBounds_toArray, List.set_cons_zero, List.set_cons_succ]
 refine Gd.wpX_buildSL (by first | exact trivial | exact ⟨_, rfl, rfl, rfl⟩) (NdF ww.heap.size 2 [leafN 134 (be3 a.day)]) (stable_NdF _ _ _) (fun f => [(0, f 22)]) rfl rfl rfl rfl rfl (fun f => rfl) (fun m f hf => run_nodesF1 m.1 (BB m) (hf 22 _ rfl rfl)) ?_
 simp only [Act.put, List.setIfInBounds_toArray, List.set_cons_zero, List.set_cons_succ]
 refine Gd.wpX_appF (by first | exact trivial | exact ⟨_, rfl, rfl, rfl⟩) (GNdO ww.heap.size ([leafN 19 a.st, leafN 130 (be4 a.num)] ++ [leafN 134 (be3 a.day)])) (stable_GNdO _ _) (fun f => f 18) (fun f => f 23) rfl rfl rfl rfl rfl rfl (fun _ => rfl) (fun _ => rfl) (fun m f hf => run_appNdsO (BB m) (hf 18 _ rfl rfl) (hf 23 _ rfl rfl) (by simp) (by simp)) ?_
 simp only [Act.put, List.setIfInBounds_toArray, List.set_cons_zero, List.set_cons_succ]
 refine Gd.wpX_endL (fun m f hf => ?_)
 obtain ⟨A24, n24, c24, xs24, e24, O24, N24⟩ := hf 24 (GNdO ww.heap.size ([leafN 19 a.st, leafN 130 (be4 a.num)] ++ [leafN 134 (be3 a.day)])) rfl
 simp only [fillH]
 simp only [Act.put, List.setIfInBounds_toArray, List.set_cons_zero, List.set_cons_succ]
 rw [e24]
 have LM := Lib.hid (LL m)
 have HI : Hid (NdO ww m.1 (fun _ => True) A24 n24 c24 (kidsM a 0)) := Lib.hid ⟨LM.out, xs24, O24, by rw [kidsM_zero]; exact N24⟩
 clear hf e24 hw1 LL BB v0 v1 v2 vl O24 N24 LM
 generalize m.1 = w2 at *
 generalize f 18 = f18 at *
 generalize f 21 = f21 at *
 generalize f 22 = f22 at *
 generalize f 23 = f23 at *
 clear m f
 show wpList _ _ _ _ _ _
 go_wp2_with fail
 go_loopw [5, 6] (fun s5 s6 wr => ∃ (k : Nat) (A5 : Option Addr) (n5 c5 : Nat), k ≤ a.roots.length ∧ s6 = .int .i64 (k : Int) ∧ s5 = .slice A5 n5 c5 ∧ Hid (NdO ww wr (fun _ => True) A5 n5 c5 (kidsM a k))) (fun _ s6 _ => a.roots.length - (intOf s6).toNat)
 case atStart => exact ⟨0, _, _, _, Nat.zero_le _, rfl, rfl, HI⟩
 case round =>
  obtain ⟨k, A5, n5, c5, hk, rfl, rfl, I⟩ := hrel
  have TR := Lib.hid (T1.out.ext I.out.ext)
  have c3 := TR.out.c3
  have cl := TR.out.lt
  by_cases hlt : k < a.roots.length
  case neg =>
   obtain rfl : k = a.roots.length := by omega
   have HV := Lib.hid (show NdG 0 3 (bodyMN a) (.agg #[.int .i64 (bodyMN a).tag, .slice none 0 0, .slice A5 n5 c5]) wr by rw [← kidsM_all]; exact I.out.nd)
   have X9 := Lib.hid (X1.out.tr I.out.ext)
   clear I hlt hk
   go_wp2_with fail
   refine (refencode_ok (d := 4) (ts := [bodyMN a]) _ (ok_bodyMN a) (nds_one (t := bodyMN a) rfl HV.out) (by omega) (cnt_bodyMN h16) (bodyMB_4096 HK.out)).mono ?_
   rintro e w9 ⟨A9, n9, c9, rfl, hn9, o9, b9⟩
   go_wp2_with fail
   go_ret2
   rw [HB.out, HK.out]
   exact ⟨_, _, _, rfl, hn9, o9.rd, Ext.tr (X9.out.alloc X9.out.size _) b9⟩
  case pos =>
  have XR := Lib.hid (X1.out.tr I.out.ext)
  obtain ⟨y, hy⟩ : ∃ y, a.roots[k]? = some y := ⟨_, List.getElem?_eq_getElem hlt⟩
  obtain ⟨b, o, rfl, hbl, hc⟩ := HEL.out (by omega)
  have hcy := hc k y hy
  have HY := Lib.hid hy
  clear hy hc
  have wi1 : IntKind.i64.wrap ((k : Int)) = (k : Int) := IntWalk.i64_in _ (by omega)
  have zi1 : (0 : Int) ≤ (k : Int) := by omega
  have li1 : (k : Int) < (a.roots.length : Int) := by omega
  have ti1 : ((k : Int)).toNat = k := by omega
  have wk : IntKind.i64.wrap ((k : Int) + 1) = (k : Int) + 1 := IntWalk.i64_in _ (by omega)
  have q0 := (XR.out.cell (p := ⟨b, o + k * 11, none⟩) hbl).trans hcy.1
  have q1 := (XR.out.cell (p := ⟨b, o + k * 11 + 1, none⟩) hbl).trans hcy.2.1
  have q2 := (XR.out.cell (p := ⟨b, o + k * 11 + 2, none⟩) hbl).trans hcy.2.2.1
  have q3 := (XR.out.cell (p := ⟨b, o + k * 11 + 3, none⟩) hbl).trans hcy.2.2.2.1
  have q4 := (XR.out.cell (p := ⟨b, o + k * 11 + 4, none⟩) hbl).trans hcy.2.2.2.2.1
  have q5 := (XR.out.cell (p := ⟨b, o + k * 11 + 5, none⟩) hbl).trans hcy.2.2.2.2.2.1
  have q6 := (XR.out.cell (p := ⟨b, o + k * 11 + 6, none⟩) hbl).trans hcy.2.2.2.2.2.2.1
  have q7 := (XR.out.cell (p := ⟨b, o + k * 11 + 7, none⟩) hbl).trans hcy.2.2.2.2.2.2.2.1
  have q8 := (XR.out.cell (p := ⟨b, o + k * 11 + 8, none⟩) hbl).trans hcy.2.2.2.2.2.2.2.2.1
  have q9 := (XR.out.cell (p := ⟨b, o + k * 11 + 9, none⟩) hbl).trans hcy.2.2.2.2.2.2.2.2.2.1
  have q10 := (XR.out.cell (p := ⟨b, o + k * 11 + 10, none⟩) hbl).trans hcy.2.2.2.2.2.2.2.2.2.2
  clear hcy
  go_wp2_with fail
  refine (HTR.out y _ (List.mem_of_getElem? HY.out) (HALL.out y (List.mem_of_getElem? HY.out)).1 (HALL.out y (List.mem_of_getElem? HY.out)).2).mono ?_
  rintro e w5 ⟨b5, u, hu, rfl⟩
  obtain ⟨A1, n1, c1, A2, n2, c2, rfl⟩ := node_open hu
  rw [show (certN y).tag = 48 from rfl] at hu ⊢
  clear q0 q1 q2 q3 q4 q5 q6 q7 q8 q9 q10 c3 cl
  obtain ⟨wa, hwa⟩ : ∃ wa, wa = w5.alloc (.cells #[.int .i64 48, .slice A1 n1 c1, .slice A2 n2 c2] 180) := ⟨_, rfl⟩
  have ea : Ext w5 wa := by rw [hwa]; exact (Below.refl _ _).alloc (Nat.le_refl _) _
  have hba : C3 wa w5.heap.size (.int .i64 48) (.slice A1 n1 c1) (.slice A2 n2 c2) := by rw [hwa]; exact C3.new _ _ _ _
  go_upto_region 9 with fail
  rw [← hwa]
  clear hwa
  have ERA := Lib.hid (b5.tr ea)
  have ED : Ext wa (wa.alloc (.cells #[.int .i64 48, .slice A1 n1 c1, .slice A2 n2 c2] 180)) := (Below.refl _ _).alloc (Nat.le_refl _) _
  have HU := Lib.hid (stable_NdG _ _ _ _ _ _ (ea.tr ED) hu)
  have hn5 := I.out.len
  rw [kidsM_len a hk] at hn5
  have HNN := Lib.hid hn5
  obtain ⟨xs, O5, N5⟩ := I.out.own
  have HO5 := Lib.hid O5
  have HN5 := Lib.hid N5
  have HNX := Lib.hid (show n5 * 3 = xs.length by rw [N5.1, kidsM_len a hk, hn5])
  have O6 := Lib.hid (O5.ext (ERA.out.tr ED))
  have HRK := Lib.hid (show RdK (wa.alloc (.cells #[.int .i64 48, .slice A1 n1 c1, .slice A2 n2 c2] 180)) 3 (.slice (some ⟨wa.heap.size, 0, none⟩) 1 1) [.int .i64 48, .slice A1 n1 c1, .slice A2 n2 c2] from RdK.lit wa 3 #[.int .i64 48, .slice A1 n1 c1, .slice A2 n2 c2] 180 1 rfl (by unfold maxLen; omega))
  have HONE := Lib.hid (show ∀ u ∈ [Value.int .i64 48, .slice A1 n1 c1, .slice A2 n2 c2], u.oneCell' = true from fun u hu => by simp only [List.mem_cons, List.not_mem_nil, or_false] at hu; rcases hu with rfl | rfl | rfl <;> rfl)
  have X6 := Lib.hid (I.out.ext.tr (ERA.out.tr ED))
  obtain ⟨z0, z1, z2, zf0, zf1, zf2⟩ := hba.cells
  have hlz := hba.lt
  have ERD := Lib.hid (ERA.out.tr ED)
  clear O5 N5 b5 ea hu hba ED XR hn5
  go_wp2_with (refine wpList_appKR (k := 3) (by decide) elemNd (n := n5) (m := 1) (B := ww.heap.size) (w0 := ww) O6.out HNX.out HRK.out (by rfl) HONE.out X6.out (by have := HNN.out; omega) (by have := HNN.out; unfold maxLen; omega) X6.out.size rfl rfl rfl rfl ?_; intro A8 n8 c8 w8 hn8 o8 x8 g8 f8; have HI8 := Lib.hid (ndo_app HO5.out HN5.out ERD.out HU.out (fun _ _ => trivial) o8 x8 g8 f8); clear z0 z1 z2 zf0 zf1 zf2 hlz o8 x8 g8 f8)
  rw [← kidsM_succ a HY.out] at HI8
  go_roundw
  case rel => exact ⟨k + 1, A8, n8, c8, by omega, by go_num, rfl, HI8⟩
  case measure => simp [intOf]; omega
def updM (m : MA) (e s : Int) : MA := ⟨m.st, m.num, m.day, m.roots, m.sg, e, s⟩
def isCM (k : Int) (m : MA) : MA := if ckM m = 0 ∧ sK k = 0 then updM m (sE k (bodyMB m)) (sS k (bodyMB m)) else zeroM
def isKM (k : Int) (m : MA) : Int := if ckM m = 0 then sK k else ckM m
theorem byM_len (m : MA) : (byM m).length ≤ 4096 := by
 unfold byM
 split
 · rename_i h; exact bodyMB_4096 h
 · simp
def RetMV (w : World) (m : MA) (k : Int) (e : Ending) (w' : World) : Prop := ∃ A n c, e = .returned (.tuple #[maV m (.slice A n c), .int .i64 k]) ∧ OwnK w' w.heap.size 56 11 (.slice A n c) (ncsCells m.roots) ∧ Ext w w'
def RetMQ (w : World) (v : Value) (m : MA) (k : Int) (e : Ending) (w' : World) : Prop := ∃ A n c, e = .returned (.tuple #[maV m (.slice A n c), .int .i64 k]) ∧ RdN w' (.slice A n c) m.roots ∧ Ext w w' ∧ (.slice A n c = v ∨ .slice A n c = Value.slice none 0 0)
theorem MaAt.frozen {w : World} {g : Nat} {m : MA} {v : Value} (h : MaAt w g m v) (i : Nat) : w.frozen? ⟨g, i, none⟩ = false := by
 unfold MaAt at h
 simp [World.frozen?, h]
theorem MaAt.setSig {w : World} {g : Nat} {m : MA} {v : Value} (h : MaAt w g m v) (e s : Int) : MaAt ((w.setCell ⟨g, 15, none⟩ (.int .i64 e)).setCell ⟨g, 16, none⟩ (.int .i64 s)) g (updM m e s) v := by
 have h9 := row_set (row_set h 15 (.int .i64 e)) 16 (.int .i64 s)
 exact h9
theorem MaAt.other {w : World} {g b i : Nat} {m : MA} {v u : Value} (h : MaAt w g m v) (hne : g ≠ b) : MaAt (w.setCell ⟨b, i, none⟩ u) g m v := (setCell_block hne).trans h
structure TwoM (w wz : World) (m : MA) (v : Value) : Prop where
 ext : Ext w wz
 c : MaAt wz w.heap.size m v
 r : MaAt wz (w.heap.size + 1) zeroM (.slice none 0 0)
theorem two_allocM (w : World) (a : MA) (v : Value) : ∃ wz, wz = (w.alloc (.cells #[.string (bstr a.st), .int .i64 a.num, .int .i64 a.day, v, .string (bstr a.sg.st), .int .i64 a.sg.kind, .int .i64 a.sg.num, .int .i64 a.sg.iss, .int .i64 a.sg.own, .int .i64 a.sg.key, .int .i64 a.sg.fr, .int .i64 a.sg.un, .int .i64 a.sg.to, .int .i64 a.sg.e, .int .i64 a.sg.s, .int .i64 a.e, .int .i64 a.s] 80)).alloc (.cells #[.string ⟨#[]⟩, .int .i64 0, .int .i64 0, .slice none 0 0, .string ⟨#[]⟩, .int .i64 0, .int .i64 0, .int .i64 0, .int .i64 0, .int .i64 0, .int .i64 0, .int .i64 0, .int .i64 0, .int .i64 0, .int .i64 0, .int .i64 0, .int .i64 0] 80) ∧ TwoM w wz a v := by
 have e1 : Ext w (w.alloc (.cells #[.string (bstr a.st), .int .i64 a.num, .int .i64 a.day, v, .string (bstr a.sg.st), .int .i64 a.sg.kind, .int .i64 a.sg.num, .int .i64 a.sg.iss, .int .i64 a.sg.own, .int .i64 a.sg.key, .int .i64 a.sg.fr, .int .i64 a.sg.un, .int .i64 a.sg.to, .int .i64 a.sg.e, .int .i64 a.sg.s, .int .i64 a.e, .int .i64 a.s] 80)) := (Below.refl _ _).alloc (Nat.le_refl _) _
 have e2 : Ext (w.alloc (.cells #[.string (bstr a.st), .int .i64 a.num, .int .i64 a.day, v, .string (bstr a.sg.st), .int .i64 a.sg.kind, .int .i64 a.sg.num, .int .i64 a.sg.iss, .int .i64 a.sg.own, .int .i64 a.sg.key, .int .i64 a.sg.fr, .int .i64 a.sg.un, .int .i64 a.sg.to, .int .i64 a.sg.e, .int .i64 a.sg.s, .int .i64 a.e, .int .i64 a.s] 80)) ((w.alloc (.cells #[.string (bstr a.st), .int .i64 a.num, .int .i64 a.day, v, .string (bstr a.sg.st), .int .i64 a.sg.kind, .int .i64 a.sg.num, .int .i64 a.sg.iss, .int .i64 a.sg.own, .int .i64 a.sg.key, .int .i64 a.sg.fr, .int .i64 a.sg.un, .int .i64 a.sg.to, .int .i64 a.sg.e, .int .i64 a.sg.s, .int .i64 a.e, .int .i64 a.s] 80)).alloc (.cells #[.string ⟨#[]⟩, .int .i64 0, .int .i64 0, .slice none 0 0, .string ⟨#[]⟩, .int .i64 0, .int .i64 0, .int .i64 0, .int .i64 0, .int .i64 0, .int .i64 0, .int .i64 0, .int .i64 0, .int .i64 0, .int .i64 0, .int .i64 0, .int .i64 0] 80)) := (Below.refl _ _).alloc (Nat.le_refl _) _
 refine ⟨_, rfl, e1.tr e2, (e2.block _ (by simp)).trans (heap_alloc_new' w _), ?_⟩
 have := heap_alloc_new' (w.alloc (.cells #[.string (bstr a.st), .int .i64 a.num, .int .i64 a.day, v, .string (bstr a.sg.st), .int .i64 a.sg.kind, .int .i64 a.sg.num, .int .i64 a.sg.iss, .int .i64 a.sg.own, .int .i64 a.sg.key, .int .i64 a.sg.fr, .int .i64 a.sg.un, .int .i64 a.sg.to, .int .i64 a.sg.e, .int .i64 a.sg.s, .int .i64 a.e, .int .i64 a.s] 80)) (.cells #[.string ⟨#[]⟩, .int .i64 0, .int .i64 0, .slice none 0 0, .string ⟨#[]⟩, .int .i64 0, .int .i64 0, .int .i64 0, .int .i64 0, .int .i64 0, .int .i64 0, .int .i64 0, .int .i64 0, .int .i64 0, .int .i64 0, .int .i64 0, .int .i64 0] 80)
 rw [show (w.alloc (.cells #[.string (bstr a.st), .int .i64 a.num, .int .i64 a.day, v, .string (bstr a.sg.st), .int .i64 a.sg.kind, .int .i64 a.sg.num, .int .i64 a.sg.iss, .int .i64 a.sg.own, .int .i64 a.sg.key, .int .i64 a.sg.fr, .int .i64 a.sg.un, .int .i64 a.sg.to, .int .i64 a.sg.e, .int .i64 a.sg.s, .int .i64 a.e, .int .i64 a.s] 80)).heap.size = w.heap.size + 1 by simp] at this
 exact this
theorem TwoM.tr {w wz wy : World} {m : MA} {v : Value} (h : TwoM w wz m v) (e : Ext wz wy) : TwoM w wy m v := ⟨h.ext.tr e, h.c.ext e, h.r.ext e⟩
set_option maxHeartbeats 8000000 in
theorem missue_any (k : Int) (a : MA) (v : Value) (w : World) (hv : RdN w v a.roots) (hs : smL a.roots) (hg : smN a.sg) (ht : a.st.length ≤ maxLen) (hl : a.roots.length ≤ 1000000) (E : KTab w 1) : Calls Tryz.prog 62 #[.int .i64 k, maV a v] w (RetMV w (isCM k a) (isKM k a)) := by
 obtain ⟨wz, hwz, Tz⟩ := two_allocM w a v
 have HB := Lib.hid (fun W (e : Ext w W) => mbody_any a v W (RdK.ext hv e) hs hg ht (E.below e))
 have HCM := Lib.hid (fun W (e : Ext w W) => cmaster_any a v W (RdK.ext hv e) hl)
 have HV := Lib.hid (fun W (e : Ext w W) => (RdK.ext hv e : RdN W v a.roots))
 obtain ⟨A, n, cp, rfl, hn, -⟩ := hv.at_
 subst hn
 have TZ := Lib.hid Tz
 have HE := Lib.hid E
 clear hv hs hg ht Tz E
 unfold maV maCells
 go_enter Tryz.func62, Tryz.ntmps62
 go_upto_region 1 with fail
 rw [← hwz]
 clear hwz
 have HR0 := Lib.hid TZ.out.c.row
 go_wp2_with (refine wpList_load_row rfl 80 _ rfl (w.heap.size) rfl 80 (maCells a (.slice A a.roots.length cp)).toArray (0, 0) _ HR0.out Tryz.underlying80 rfl info_ma ?_)
 refine (HB.out wz TZ.out.ext).mono ?_
 rintro e w1 ⟨A1, n1, c1, rfl, hn1, r1, b1⟩
 have T1 := Lib.hid (TZ.out.tr b1)
 have HRB := Lib.hid r1
 clear b1 TZ HR0 r1 hn1 HB
 have hlr := T1.out.r.lt
 have hlc := T1.out.c.lt
 have HZA := Lib.hid (kM_all zeroM (.slice none 0 0) rfl)
 by_cases hc : ckM a = 0
 case neg =>
  have HI := Lib.hid (show isCM k a = zeroM from if_neg (fun q => hc q.1))
  have HJ := Lib.hid (show isKM k a = ckM a from if_neg hc)
  have hb : (ckM a != 0) = true := by simpa using hc
  clear hc
  have HZ := Lib.hid T1.out.r.row
  go_wp2_with (refine wpRow_store rfl 80 _ _ rfl rfl (w.heap.size + 1) (maCells zeroM (.slice none 0 0)).toArray rfl rfl 80 (maCells zeroM (.slice none 0 0)).toArray HZ.out info_ma rfl HZA.out ?_)
  have HY := Lib.hid (row_at (cells := (maCells zeroM (.slice none 0 0)).toArray) HZ.out)
  refine bodyPost_ret (v := .tuple #[.agg (maCells zeroM (.slice none 0 0)).toArray, .int .i64 (ckM a)]) ?_ rfl ⟨none, 0, 0, by rw [HI.out, HJ.out]; rfl, by rw [HI.out]; exact OwnK.empty _ _ _ _ _, ext_setRow T1.out.ext (by omega) _⟩
  simp [results, Tryz.results62, asAddr, run_loadVar_row _ (w.heap.size + 1) 80 80 (maCells zeroM (.slice none 0 0)).toArray (0, 0) _ HY.out Tryz.underlying80 rfl info_ma]
 have HK := Lib.hid hc
 have hlen := byM_len a
 have HBY := Lib.hid (show byM a = bodyMB a from if_pos hc)
 rw [hc]
 clear hc
 have HR1 := Lib.hid T1.out.c.row
 go_wp2_with (refine wpList_load_row rfl 80 _ rfl (w.heap.size) rfl 80 (maCells a (.slice A a.roots.length cp)).toArray (0, 0) _ HR1.out Tryz.underlying80 rfl info_ma ?_)
 refine (HCM.out w1 T1.out.ext).mono ?_
 rintro e w2 ⟨A2, n2, c2, rfl, o2, b2⟩
 have T2 := Lib.hid (T1.out.tr b2)
 obtain ⟨wa, hwa, xa, ta⟩ := ma_alloc w2 a (.slice A2 n2 c2)
 have s12 := b2.size
 have hlr2 := T2.out.r.lt
 unfold maCells
 go_upto_region 5 with fail
 rw [← hwa]
 clear hwa
 have T3 := Lib.hid (T2.out.tr xa)
 have TA := Lib.hid ta
 have RB := Lib.hid (HRB.out.ext (b2.tr xa))
 have O2 := Lib.hid o2
 have XA := Lib.hid xa
 clear xa ta b2 o2 HR1 T1 T2 HRB hlc
 go_wp2_with fail
 refine (sign_any k _ RB.out (by omega) (HE.out.below T3.out.ext)).mono ?_
 rintro e w3 ⟨rfl, b3⟩
 have T4 := Lib.hid (T3.out.tr b3)
 have TB := Lib.hid (TA.out.ext b3)
 have XB := Lib.hid (XA.out.tr b3)
 clear b3 T3 TA RB XA hlen
 unfold sgV
 rw [HBY.out]
 have c15 := TB.out.c15
 have c16 := TB.out.c16
 have f15 := TB.out.frozen 15
 have f16 := TB.out.frozen 16
 have hl8 := TB.out.lt
 have HZ4 := Lib.hid T4.out.r
 by_cases hk : sK k = 0
 case neg =>
  have HI := Lib.hid (show isCM k a = zeroM from if_neg (fun q => hk q.2))
  have HJ := Lib.hid (show isKM k a = sK k from if_pos HK.out)
  have hb : (sK k != 0) = true := by simpa using hk
  clear hk
  generalize sE k (bodyMB a) = es at *
  generalize sS k (bodyMB a) = ss at *
  have HZ := Lib.hid (((HZ4.out.other (b := w2.heap.size) (i := 15) (u := .int .i64 es) (by omega)).other (b := w2.heap.size) (i := 16) (u := .int .i64 ss) (by omega)).row)
  go_wp2_with (refine wpRow_store rfl 80 _ _ rfl rfl (w.heap.size + 1) (maCells zeroM (.slice none 0 0)).toArray rfl rfl 80 (maCells zeroM (.slice none 0 0)).toArray HZ.out info_ma rfl HZA.out ?_)
  have HY := Lib.hid (row_at (cells := (maCells zeroM (.slice none 0 0)).toArray) HZ.out)
  refine bodyPost_ret (v := .tuple #[.agg (maCells zeroM (.slice none 0 0)).toArray, .int .i64 (sK k)]) ?_ rfl ⟨none, 0, 0, by rw [HI.out, HJ.out]; rfl, by rw [HI.out]; exact OwnK.empty _ _ _ _ _, ext_setRow (ext_set (ext_set T4.out.ext (by omega)) (by omega)) (by omega) _⟩
  simp [results, Tryz.results62, asAddr, run_loadVar_row _ (w.heap.size + 1) 80 80 (maCells zeroM (.slice none 0 0)).toArray (0, 0) _ HY.out Tryz.underlying80 rfl info_ma]
 have HI := Lib.hid (show isCM k a = updM a (sE k (bodyMB a)) (sS k (bodyMB a)) from if_pos ⟨HK.out, hk⟩)
 have HJ := Lib.hid (show isKM k a = 0 by unfold isKM; rw [if_pos HK.out, hk])
 rw [hk]
 clear hk
 generalize sE k (bodyMB a) = es at *
 generalize sS k (bodyMB a) = ss at *
 have HZ := Lib.hid (((HZ4.out.other (b := w2.heap.size) (i := 15) (u := .int .i64 es) (by omega)).other (b := w2.heap.size) (i := 16) (u := .int .i64 ss) (by omega)).row)
 have HS := Lib.hid ((TB.out.setSig es ss).row)
 have HNA := Lib.hid (kM_all (updM a es ss) (.slice A2 n2 c2) rfl)
 have OZ := Lib.hid (show OwnK ((w3.setCell ⟨w2.heap.size, 15, none⟩ (.int .i64 es)).setCell ⟨w2.heap.size, 16, none⟩ (.int .i64 ss)) w1.heap.size 56 11 (.slice A2 n2 c2) (ncsCells a.roots) from ((O2.out.ext XB.out).grown (Gb.set w2.heap.size 15 _ _) (.inr fun q => by have := rowOf_bd O2.out _ q; omega)).grown (Gb.set w2.heap.size 16 _ _) (.inr fun q => by have := rowOf_bd O2.out _ q; omega))
 go_wp2_with (first | (refine wpList_load_row rfl 80 _ rfl (w2.heap.size) rfl 80 (maCells (updM a es ss) (.slice A2 n2 c2)).toArray (0, 0) _ HS.out Tryz.underlying80 rfl info_ma ?_) | (refine wpRow_store rfl 80 _ _ rfl rfl (w.heap.size + 1) (maCells (updM a es ss) (.slice A2 n2 c2)).toArray rfl rfl 80 (maCells zeroM (.slice none 0 0)).toArray HZ.out info_ma rfl HNA.out ?_))
 have HY := Lib.hid (row_at (cells := (maCells (updM a es ss) (.slice A2 n2 c2)).toArray) HZ.out)
 refine bodyPost_ret (v := .tuple #[.agg (maCells (updM a es ss) (.slice A2 n2 c2)).toArray, .int .i64 0]) ?_ rfl ⟨A2, n2, c2, by rw [HI.out, HJ.out]; rfl, by rw [HI.out]; exact (OZ.out.grown (Gb.setRow (w.heap.size + 1) _ _) (.inr fun q => by have := rowOf_geK O2.out _ q; omega)).mono (by omega), ext_setRow (ext_set (ext_set T4.out.ext (by omega)) (by omega)) (by omega) _⟩
 simp [results, Tryz.results62, asAddr, run_loadVar_row _ (w.heap.size + 1) 80 80 (maCells (updM a es ss) (.slice A2 n2 c2)).toArray (0, 0) _ HY.out Tryz.underlying80 rfl info_ma]
set_option maxHeartbeats 8000000 in
theorem refmissue_any (k : Int) (a : MA) (v : Value) (w : World) (hv : RdN w v a.roots) (hs : smL a.roots) (hg : smN a.sg) (ht : a.st.length ≤ maxLen) (E : KTab w 0) : Calls Tryz.prog 63 #[.int .i64 k, maV a v] w (RetMQ w v (isCM k a) (isKM k a)) := by
 obtain ⟨wz, hwz, Tz⟩ := two_allocM w a v
 have HB := Lib.hid (fun W (e : Ext w W) => refmbody_any a v W (RdK.ext hv e) hs hg ht (E.below e))
 have HV := Lib.hid (fun W (e : Ext w W) => (RdK.ext hv e : RdN W v a.roots))
 obtain ⟨A, n, cp, rfl, hn, -⟩ := hv.at_
 subst hn
 have TZ := Lib.hid Tz
 have HE := Lib.hid E
 clear hv hs hg ht Tz E
 unfold maV maCells
 go_enter Tryz.func63, Tryz.ntmps63
 go_upto_region 1 with fail
 rw [← hwz]
 clear hwz
 have HR0 := Lib.hid TZ.out.c.row
 go_wp2_with (refine wpList_load_row rfl 80 _ rfl (w.heap.size) rfl 80 (maCells a (.slice A a.roots.length cp)).toArray (0, 0) _ HR0.out Tryz.underlying80 rfl info_ma ?_)
 refine (HB.out wz TZ.out.ext).mono ?_
 rintro e w1 ⟨A1, n1, c1, rfl, hn1, r1, b1⟩
 have T1 := Lib.hid (TZ.out.tr b1)
 have HRB := Lib.hid r1
 clear b1 TZ HR0 r1 hn1 HB
 have hlr := T1.out.r.lt
 have hlc := T1.out.c.lt
 have HZA := Lib.hid (kM_all zeroM (.slice none 0 0) rfl)
 by_cases hc : ckM a = 0
 case neg =>
  have HI := Lib.hid (show isCM k a = zeroM from if_neg (fun q => hc q.1))
  have HJ := Lib.hid (show isKM k a = ckM a from if_neg hc)
  have hb : (ckM a != 0) = true := by simpa using hc
  clear hc
  have HZ := Lib.hid T1.out.r.row
  go_wp2_with (refine wpRow_store rfl 80 _ _ rfl rfl (w.heap.size + 1) (maCells zeroM (.slice none 0 0)).toArray rfl rfl 80 (maCells zeroM (.slice none 0 0)).toArray HZ.out info_ma rfl HZA.out ?_)
  have HY := Lib.hid (row_at (cells := (maCells zeroM (.slice none 0 0)).toArray) HZ.out)
  refine bodyPost_ret (v := .tuple #[.agg (maCells zeroM (.slice none 0 0)).toArray, .int .i64 (ckM a)]) ?_ rfl ⟨none, 0, 0, by rw [HI.out, HJ.out]; rfl, by rw [HI.out]; exact RdK.nil_ _ _ _, ext_setRow T1.out.ext (by omega) _, .inr rfl⟩
  simp [results, Tryz.results63, asAddr, run_loadVar_row _ (w.heap.size + 1) 80 80 (maCells zeroM (.slice none 0 0)).toArray (0, 0) _ HY.out Tryz.underlying80 rfl info_ma]
 have HK := Lib.hid hc
 have hlen := byM_len a
 have HBY := Lib.hid (show byM a = bodyMB a from if_pos hc)
 rw [hc]
 clear hc
 go_wp2_with fail
 refine (refsign_any k _ HRB.out (by omega) (HE.out.below T1.out.ext)).mono ?_
 rintro e w2 ⟨rfl, b2⟩
 have T2 := Lib.hid (T1.out.tr b2)
 clear T1 hlr hlc b2
 unfold sgV
 rw [HBY.out]
 obtain ⟨es, hes⟩ : ∃ es, sE k (bodyMB a) = es := ⟨_, rfl⟩
 obtain ⟨ss, hss⟩ : ∃ ss, sS k (bodyMB a) = ss := ⟨_, rfl⟩
 rw [hes, hss]
 have HES := Lib.hid hes
 have HSS := Lib.hid hss
 clear hes hss
 obtain ⟨wa, hwa, sa⟩ := sg_alloc w2 es ss
 have T3 := Lib.hid (T2.out.tr sa.ext)
 have s0 := sa.c0
 have s1 := sa.c1
 have sl := sa.lt
 clear sa
 have HZ3 := Lib.hid T3.out.r
 by_cases hk : sK k = 0
 case neg =>
  have HI := Lib.hid (show isCM k a = zeroM from if_neg (fun q => hk q.2))
  have HJ := Lib.hid (show isKM k a = sK k from if_pos HK.out)
  have hb : (sK k != 0) = true := by simpa using hk
  clear hk
  have HZ := Lib.hid HZ3.out.row
  go_upto_region 5 with fail
  rw [← hwa]
  clear hwa
  go_wp2_with (refine wpRow_store rfl 80 _ _ rfl rfl (w.heap.size + 1) (maCells zeroM (.slice none 0 0)).toArray rfl rfl 80 (maCells zeroM (.slice none 0 0)).toArray HZ.out info_ma rfl HZA.out ?_)
  have HY := Lib.hid (row_at (cells := (maCells zeroM (.slice none 0 0)).toArray) HZ.out)
  refine bodyPost_ret (v := .tuple #[.agg (maCells zeroM (.slice none 0 0)).toArray, .int .i64 (sK k)]) ?_ rfl ⟨none, 0, 0, by rw [HI.out, HJ.out]; rfl, by rw [HI.out]; exact RdK.nil_ _ _ _, ext_setRow T3.out.ext (by omega) _, .inr rfl⟩
  simp [results, Tryz.results63, asAddr, run_loadVar_row _ (w.heap.size + 1) 80 80 (maCells zeroM (.slice none 0 0)).toArray (0, 0) _ HY.out Tryz.underlying80 rfl info_ma]
 have HI := Lib.hid (show isCM k a = updM a es ss by rw [← HES.out, ← HSS.out]; exact if_pos ⟨HK.out, hk⟩)
 have HJ := Lib.hid (show isKM k a = 0 by unfold isKM; rw [if_pos HK.out, hk])
 rw [hk]
 clear hk
 go_upto_region 5 with fail
 rw [← hwa]
 clear hwa
 have f15 := T3.out.c.frozen 15
 have f16 := T3.out.c.frozen 16
 have c15 := T3.out.c.c15
 have c16 := T3.out.c.c16
 have hl0 := T3.out.c.lt
 have HZ := Lib.hid (((HZ3.out.other (b := w.heap.size) (i := 15) (u := .int .i64 es) (by omega)).other (b := w.heap.size) (i := 16) (u := .int .i64 ss) (by omega)).row)
 have HS := Lib.hid ((T3.out.c.setSig es ss).row)
 have HNA := Lib.hid (kM_all (updM a es ss) (.slice A a.roots.length cp) rfl)
 go_wp2_with (first | (refine wpList_load_row rfl 80 _ rfl (w.heap.size) rfl 80 (maCells (updM a es ss) (.slice A a.roots.length cp)).toArray (0, 0) _ HS.out Tryz.underlying80 rfl info_ma ?_) | (refine wpRow_store rfl 80 _ _ rfl rfl (w.heap.size + 1) (maCells (updM a es ss) (.slice A a.roots.length cp)).toArray rfl rfl 80 (maCells zeroM (.slice none 0 0)).toArray HZ.out info_ma rfl HNA.out ?_))
 have HY := Lib.hid (row_at (cells := (maCells (updM a es ss) (.slice A a.roots.length cp)).toArray) HZ.out)
 have XZ := Lib.hid (ext_setRow (g := w.heap.size + 1) (ext_set (i := 16) (v := .int .i64 ss) (ext_set (i := 15) (v := .int .i64 es) T3.out.ext (Nat.le_refl _)) (Nat.le_refl _)) (Nat.le_succ _) (maCells (updM a es ss) (.slice A a.roots.length cp)).toArray)
 refine bodyPost_ret (v := .tuple #[.agg (maCells (updM a es ss) (.slice A a.roots.length cp)).toArray, .int .i64 0]) ?_ rfl ⟨A, _, cp, by rw [HI.out, HJ.out]; rfl, by rw [HI.out]; exact HV.out _ XZ.out, XZ.out, .inl rfl⟩
 simp [results, Tryz.results63, asAddr, run_loadVar_row _ (w.heap.size + 1) 80 80 (maCells (updM a es ss) (.slice A a.roots.length cp)).toArray (0, 0) _ HY.out Tryz.underlying80 rfl info_ma]
theorem elemXR : ElemK Tryz.prog 72 103 8 88 := by
 have h : (Tryz.prog.info? 103).map (fun i => (i.zero, i.size, i.bytes)) = some (some (.agg #[.string ⟨#[]⟩, .int .i64 0, .int .i64 0, .int .i64 0, .slice none 0 0, .int .i64 0, .int .i64 0, .int .i64 0]), 8, 88) := by kernel_rfl
 obtain ⟨i, h1, h2, h3, h4⟩ := info_parts h
 exact ⟨i, _, Tryz.underlying72, h1, h2, h3, h4, rfl⟩
theorem oneR_any (t : RV) (u : Value) (W : World) (hu : RdK W 1 u (intsV t.ser)) (hl : t.ser.length ≤ 1000000) : Calls Tryz.prog 160 #[.agg (rvCells t u).toArray] W fun e W' => ∃ A1 n1 c1, e = .returned (.agg (rvCells t (.slice A1 n1 c1)).toArray) ∧ OwnK W' W.heap.size 3 1 (.slice A1 n1 c1) (intsV t.ser) ∧ Ext W W' :=
 (crev_any t u W (RdK.r1 hu) hl).mono fun e W' ⟨A1, n1, c1, h1, h2, h3⟩ => ⟨A1, n1, c1, h1, h2.k1, h3⟩
theorem litR (w : World) (t : RV) (u : Value) : RdK (w.alloc (.cells (rvCells t u).toArray 103)) 8 (.slice (some ⟨w.heap.size, 0, none⟩) 1 1) (rvCells t u) := by
 have := RdK.lit w 8 (rvCells t u).toArray 103 1 rfl (by unfold maxLen; omega)
 simpa using this
set_option maxHeartbeats 4000000 in
theorem eachR_any {v : Value} {l : List RV} (w : World) (hv : RdX kR w v l) (hl : l.length ≤ 100000) (hs : ∀ a ∈ l, a.ser.length ≤ 1000000) :
 Calls Tryz.prog 203 #[v, .func (.func 160) #[] #[]] w fun e w' => ∃ A c, e = .returned (.slice A l.length c) ∧ OwnX kR w' w.heap.size (.slice A l.length c) l ∧ Ext w w' := by
 obtain ⟨A, n, c, rfl, hn, hnc, hcm, hel⟩ := hv.at_
 subst hn
 unfold maxLen at hcm
 have HEL := Lib.hid hel
 have HSL := Lib.hid hs
 have HON := Lib.hid oneR_any
 clear hel hs hv
 go_enter Tryz.func203, Tryz.ntmps203
 go_wp2_with fail
 go_loopw [5, 10] (fun out i wr => ∃ (k : Nat) (Ao : Option Addr) (co : Nat) (ps : List (RV × Value)), k ≤ l.length ∧ i = .int .i64 (k : Int) ∧ out = .slice Ao k co ∧ Hid (ps.map Prod.fst = l.take k) ∧ Hid (OwnP kR wr w.heap.size (.slice Ao k co) ps) ∧ Hid (Ext w wr)) (fun _ i _ => l.length - (intOf i).toNat)
 case atStart => exact ⟨0, none, 0, [], Nat.zero_le _, rfl, rfl, Lib.hid rfl, Lib.hid (OwnP.empty _ _ _ _), Lib.hid (Below.refl _ _)⟩
 case round =>
  obtain ⟨k, Ao, co, ps, hk, rfl, rfl, HP, HO, X⟩ := hrel
  by_cases hlt : k < l.length
  case neg =>
   obtain rfl : k = l.length := by omega
   have HR : Hid (OwnX kR wr w.heap.size (.slice Ao l.length co) l) := Lib.hid ⟨ps, by rw [HP.out, List.take_length], HO.out⟩
   clear HP HO
   go_wp2_with fail
   go_ret
   exact ⟨_, _, rfl, HR.out, X.out⟩
  case pos =>
  obtain ⟨t, ht⟩ : ∃ t, l[k]? = some t := ⟨_, List.getElem?_eq_getElem hlt⟩
  obtain ⟨b, o, rfl, hbl, u, hcell, hu⟩ := HEL.out k t ht
  have HT := Lib.hid ht
  obtain ⟨Au, nu, cu, rfl, -⟩ := id hu
  have HU0 := Lib.hid (RdK.ext hu X.out)
  have HLT := Lib.hid (HSL.out t (List.mem_of_getElem? ht))
  clear ht hu
  have wi1 : IntKind.i64.wrap ((k : Int)) = (k : Int) := IntWalk.i64_in _ (by omega)
  have zi1 : (0 : Int) ≤ (k : Int) := by omega
  have li1 : (k : Int) < (l.length : Int) := by omega
  have ti1 : ((k : Int)).toNat = k := by omega
  have wk : IntKind.i64.wrap ((k : Int) + 1) = (k : Int) + 1 := IntWalk.i64_in _ (by omega)
  have l0 : wr.cell? ⟨b, o + k * 8, none⟩ = some (.string (bstr t.st)) := by
   have := (X.out.cell (p := ⟨b, o + (k * 8 + 0), none⟩) hbl).trans (hcell 0 _ rfl)
   exact this
  have l1 : wr.cell? ⟨b, o + k * 8 + 1, none⟩ = some (.int .i64 t.num) := by
   have := (X.out.cell (p := ⟨b, o + (k * 8 + 1), none⟩) hbl).trans (hcell 1 _ rfl)
   rwa [← Nat.add_assoc] at this
  have l2 : wr.cell? ⟨b, o + k * 8 + 2, none⟩ = some (.int .i64 t.day) := by
   have := (X.out.cell (p := ⟨b, o + (k * 8 + 2), none⟩) hbl).trans (hcell 2 _ rfl)
   rwa [← Nat.add_assoc] at this
  have l3 : wr.cell? ⟨b, o + k * 8 + 3, none⟩ = some (.int .i64 t.nxt) := by
   have := (X.out.cell (p := ⟨b, o + (k * 8 + 3), none⟩) hbl).trans (hcell 3 _ rfl)
   rwa [← Nat.add_assoc] at this
  have l4 : wr.cell? ⟨b, o + k * 8 + 4, none⟩ = some (.slice Au nu cu) := by
   have := (X.out.cell (p := ⟨b, o + (k * 8 + 4), none⟩) hbl).trans (hcell 4 _ rfl)
   rwa [← Nat.add_assoc] at this
  have l5 : wr.cell? ⟨b, o + k * 8 + 5, none⟩ = some (.int .i64 t.iss) := by
   have := (X.out.cell (p := ⟨b, o + (k * 8 + 5), none⟩) hbl).trans (hcell 5 _ rfl)
   rwa [← Nat.add_assoc] at this
  have l6 : wr.cell? ⟨b, o + k * 8 + 6, none⟩ = some (.int .i64 t.e) := by
   have := (X.out.cell (p := ⟨b, o + (k * 8 + 6), none⟩) hbl).trans (hcell 6 _ rfl)
   rwa [← Nat.add_assoc] at this
  have l7 : wr.cell? ⟨b, o + k * 8 + 7, none⟩ = some (.int .i64 t.s) := by
   have := (X.out.cell (p := ⟨b, o + (k * 8 + 7), none⟩) hbl).trans (hcell 7 _ rfl)
   rwa [← Nat.add_assoc] at this
  clear hcell
  obtain ⟨wn, hwn⟩ : ∃ wn, wn = wr.alloc (.cells #[.string (bstr t.st), .int .i64 t.num, .int .i64 t.day, .int .i64 t.nxt, .slice Au nu cu, .int .i64 t.iss, .int .i64 t.e, .int .i64 t.s] 103) := ⟨_, rfl⟩
  have en : Ext wr wn := by rw [hwn]; exact (Below.refl _ _).alloc (Nat.le_refl _) _
  have bn : wn.heap[wr.heap.size]? = some (.cells (rvCells t (.slice Au nu cu)).toArray 103 (0, 0)) := by rw [hwn]; exact heap_alloc_new' wr _
  have HBN := Lib.hid bn
  have HU := Lib.hid (RdK.ext HU0.out en)
  have HON2 := Lib.hid (HO.out.ext en)
  have XN := Lib.hid (X.out.tr en)
  go_upto_region 5 with fail
  rw [← hwn]
  clear hwn l0 l1 l2 l3 l4 l5 l6 l7 HU0 HO X en bn
  unfold rvCells at HBN
  go_wp2_with (refine wpList_load_row rfl 103 _ rfl wr.heap.size rfl 103 #[.string (bstr t.st), .int .i64 t.num, .int .i64 t.day, .int .i64 t.nxt, .slice Au nu cu, .int .i64 t.iss, .int .i64 t.e, .int .i64 t.s] (0, 0) _ HBN.out Tryz.underlying103 rfl info_rv ?_)
  refine (HON.out t (.slice Au nu cu) wn HU.out HLT.out).mono ?_
  rintro e w2 ⟨A1, n1, c1, rfl, o1, b2⟩
  unfold rvCells
  have HO2 := Lib.hid (HON2.out.ext b2)
  have X2 := Lib.hid (XN.out.tr b2)
  have HI2 := Lib.hid (o1.mono XN.out.size)
  clear b2 o1 HU HON2 XN HBN
  have eA : Ext w2 (w2.alloc (.cells (rvCells t (.slice A1 n1 c1)).toArray 103)) := (Below.refl _ _).alloc (Nat.le_refl _) _
  have HO3 := Lib.hid (HO2.out.ext eA)
  have HI3 := Lib.hid (HI2.out.ext eA)
  have X3 := Lib.hid (X2.out.tr eA)
  have HRK := Lib.hid (litR w2 t (.slice A1 n1 c1))
  have HPL := Lib.hid (show k * 8 = (kR.cells ps).length by
   have h1 := congrArg List.length HP.out
   rw [List.length_map, List.length_take, Nat.min_eq_left (Nat.le_of_lt hlt)] at h1
   rw [kR.cells_len, h1]; rfl)
  have HONE := Lib.hid (kR.one t (.slice A1 n1 c1) rfl)
  unfold rvCells at HRK HO3 HI3 X3
  clear eA
  go_wp2_with (refine wpList_appK (k := 8) (by decide) elemXR (n := k) (m := 1) (B := w.heap.size) HO3.out.1 HPL.out HRK.out (by rfl) HONE.out X3.out (by omega) (by unfold maxLen; omega) X3.out.size rfl rfl rfl rfl ?_; intro A8 n8 c8 w8 hn8 o8 x8 g8)
  obtain rfl : n8 = k + 1 := hn8.out
  have HO8 := Lib.hid (show OwnP kR w8 w.heap.size (.slice A8 (k + 1) c8) (ps ++ [(t, .slice A1 n1 c1)]) from HO3.out.app HI3.out o8 g8)
  have HP8 := Lib.hid (show (ps ++ [(t, Value.slice A1 n1 c1)]).map Prod.fst = l.take (k + 1) by rw [List.map_append, HP.out, List.take_succ_eq_append_getElem hlt]; have := HT.out; rw [List.getElem?_eq_getElem hlt] at this; rw [Option.some.inj this]; rfl)
  have X8 := Lib.hid x8
  clear x8 o8 g8
  go_roundw
  case rel => exact ⟨k + 1, A8, c8, _, by omega, by go_num, rfl, HP8, HO8, X8⟩
  case measure => simp [intOf]; omega
theorem elemXM : ElemK Tryz.prog 71 80 17 168 := by
 have h : (Tryz.prog.info? 80).map (fun i => (i.zero, i.size, i.bytes)) = some (some (.agg #[.string ⟨#[]⟩, .int .i64 0, .int .i64 0, .slice none 0 0, .string ⟨#[]⟩, .int .i64 0, .int .i64 0, .int .i64 0, .int .i64 0, .int .i64 0, .int .i64 0, .int .i64 0, .int .i64 0, .int .i64 0, .int .i64 0, .int .i64 0, .int .i64 0]), 17, 168) := by kernel_rfl
 obtain ⟨i, h1, h2, h3, h4⟩ := info_parts h
 exact ⟨i, _, Tryz.underlying71, h1, h2, h3, h4, rfl⟩
theorem oneM_any (t : MA) (u : Value) (W : World) (hu : RdK W 11 u (ncsCells t.roots)) (hl : t.roots.length ≤ 1000000) : Calls Tryz.prog 135 #[.agg (maCells t u).toArray] W fun e W' => ∃ A1 n1 c1, e = .returned (.agg (maCells t (.slice A1 n1 c1)).toArray) ∧ OwnK W' W.heap.size 56 11 (.slice A1 n1 c1) (ncsCells t.roots) ∧ Ext W W' :=
 cmaster_any t u W hu hl
theorem litM (w : World) (t : MA) (u : Value) : RdK (w.alloc (.cells (maCells t u).toArray 80)) 17 (.slice (some ⟨w.heap.size, 0, none⟩) 1 1) (maCells t u) := by
 have := RdK.lit w 17 (maCells t u).toArray 80 1 rfl (by unfold maxLen; omega)
 simpa using this
set_option maxHeartbeats 4000000 in
theorem eachM_any {v : Value} {l : List MA} (w : World) (hv : RdX kM w v l) (hl : l.length ≤ 100000) (hs : ∀ a ∈ l, a.roots.length ≤ 1000000) :
 Calls Tryz.prog 202 #[v, .func (.func 135) #[] #[]] w fun e w' => ∃ A c, e = .returned (.slice A l.length c) ∧ OwnX kM w' w.heap.size (.slice A l.length c) l ∧ Ext w w' := by
 obtain ⟨A, n, c, rfl, hn, hnc, hcm, hel⟩ := hv.at_
 subst hn
 unfold maxLen at hcm
 have HEL := Lib.hid hel
 have HSL := Lib.hid hs
 have HON := Lib.hid oneM_any
 clear hel hs hv
 go_enter Tryz.func202, Tryz.ntmps202
 go_wp2_with fail
 go_loopw [5, 10] (fun out i wr => ∃ (k : Nat) (Ao : Option Addr) (co : Nat) (ps : List (MA × Value)), k ≤ l.length ∧ i = .int .i64 (k : Int) ∧ out = .slice Ao k co ∧ Hid (ps.map Prod.fst = l.take k) ∧ Hid (OwnP kM wr w.heap.size (.slice Ao k co) ps) ∧ Hid (Ext w wr)) (fun _ i _ => l.length - (intOf i).toNat)
 case atStart => exact ⟨0, none, 0, [], Nat.zero_le _, rfl, rfl, Lib.hid rfl, Lib.hid (OwnP.empty _ _ _ _), Lib.hid (Below.refl _ _)⟩
 case round =>
  obtain ⟨k, Ao, co, ps, hk, rfl, rfl, HP, HO, X⟩ := hrel
  by_cases hlt : k < l.length
  case neg =>
   obtain rfl : k = l.length := by omega
   have HR : Hid (OwnX kM wr w.heap.size (.slice Ao l.length co) l) := Lib.hid ⟨ps, by rw [HP.out, List.take_length], HO.out⟩
   clear HP HO
   go_wp2_with fail
   go_ret
   exact ⟨_, _, rfl, HR.out, X.out⟩
  case pos =>
  obtain ⟨t, ht⟩ : ∃ t, l[k]? = some t := ⟨_, List.getElem?_eq_getElem hlt⟩
  obtain ⟨b, o, rfl, hbl, u, hcell, hu⟩ := HEL.out k t ht
  have HT := Lib.hid ht
  obtain ⟨Au, nu, cu, rfl, -⟩ := id hu
  have HU0 := Lib.hid (RdK.ext hu X.out)
  have HLT := Lib.hid (HSL.out t (List.mem_of_getElem? ht))
  clear ht hu
  have wi2 : IntKind.i64.wrap ((k : Int)) = (k : Int) := IntWalk.i64_in _ (by omega)
  have zi2 : (0 : Int) ≤ (k : Int) := by omega
  have li2 : (k : Int) < (l.length : Int) := by omega
  have ti2 : ((k : Int)).toNat = k := by omega
  have wk : IntKind.i64.wrap ((k : Int) + 1) = (k : Int) + 1 := IntWalk.i64_in _ (by omega)
  have l0 : wr.cell? ⟨b, o + k * 17, none⟩ = some (.string (bstr t.st)) := by
   have := (X.out.cell (p := ⟨b, o + (k * 17 + 0), none⟩) hbl).trans (hcell 0 _ rfl)
   exact this
  have l1 : wr.cell? ⟨b, o + k * 17 + 1, none⟩ = some (.int .i64 t.num) := by
   have := (X.out.cell (p := ⟨b, o + (k * 17 + 1), none⟩) hbl).trans (hcell 1 _ rfl)
   rwa [← Nat.add_assoc] at this
  have l2 : wr.cell? ⟨b, o + k * 17 + 2, none⟩ = some (.int .i64 t.day) := by
   have := (X.out.cell (p := ⟨b, o + (k * 17 + 2), none⟩) hbl).trans (hcell 2 _ rfl)
   rwa [← Nat.add_assoc] at this
  have l3 : wr.cell? ⟨b, o + k * 17 + 3, none⟩ = some (.slice Au nu cu) := by
   have := (X.out.cell (p := ⟨b, o + (k * 17 + 3), none⟩) hbl).trans (hcell 3 _ rfl)
   rwa [← Nat.add_assoc] at this
  have l4 : wr.cell? ⟨b, o + k * 17 + 4, none⟩ = some (.string (bstr t.sg.st)) := by
   have := (X.out.cell (p := ⟨b, o + (k * 17 + 4), none⟩) hbl).trans (hcell 4 _ rfl)
   rwa [← Nat.add_assoc] at this
  have l5 : wr.cell? ⟨b, o + k * 17 + 5, none⟩ = some (.int .i64 t.sg.kind) := by
   have := (X.out.cell (p := ⟨b, o + (k * 17 + 5), none⟩) hbl).trans (hcell 5 _ rfl)
   rwa [← Nat.add_assoc] at this
  have l6 : wr.cell? ⟨b, o + k * 17 + 6, none⟩ = some (.int .i64 t.sg.num) := by
   have := (X.out.cell (p := ⟨b, o + (k * 17 + 6), none⟩) hbl).trans (hcell 6 _ rfl)
   rwa [← Nat.add_assoc] at this
  have l7 : wr.cell? ⟨b, o + k * 17 + 7, none⟩ = some (.int .i64 t.sg.iss) := by
   have := (X.out.cell (p := ⟨b, o + (k * 17 + 7), none⟩) hbl).trans (hcell 7 _ rfl)
   rwa [← Nat.add_assoc] at this
  have l8 : wr.cell? ⟨b, o + k * 17 + 8, none⟩ = some (.int .i64 t.sg.own) := by
   have := (X.out.cell (p := ⟨b, o + (k * 17 + 8), none⟩) hbl).trans (hcell 8 _ rfl)
   rwa [← Nat.add_assoc] at this
  have l9 : wr.cell? ⟨b, o + k * 17 + 9, none⟩ = some (.int .i64 t.sg.key) := by
   have := (X.out.cell (p := ⟨b, o + (k * 17 + 9), none⟩) hbl).trans (hcell 9 _ rfl)
   rwa [← Nat.add_assoc] at this
  have l10 : wr.cell? ⟨b, o + k * 17 + 10, none⟩ = some (.int .i64 t.sg.fr) := by
   have := (X.out.cell (p := ⟨b, o + (k * 17 + 10), none⟩) hbl).trans (hcell 10 _ rfl)
   rwa [← Nat.add_assoc] at this
  have l11 : wr.cell? ⟨b, o + k * 17 + 11, none⟩ = some (.int .i64 t.sg.un) := by
   have := (X.out.cell (p := ⟨b, o + (k * 17 + 11), none⟩) hbl).trans (hcell 11 _ rfl)
   rwa [← Nat.add_assoc] at this
  have l12 : wr.cell? ⟨b, o + k * 17 + 12, none⟩ = some (.int .i64 t.sg.to) := by
   have := (X.out.cell (p := ⟨b, o + (k * 17 + 12), none⟩) hbl).trans (hcell 12 _ rfl)
   rwa [← Nat.add_assoc] at this
  have l13 : wr.cell? ⟨b, o + k * 17 + 13, none⟩ = some (.int .i64 t.sg.e) := by
   have := (X.out.cell (p := ⟨b, o + (k * 17 + 13), none⟩) hbl).trans (hcell 13 _ rfl)
   rwa [← Nat.add_assoc] at this
  have l14 : wr.cell? ⟨b, o + k * 17 + 14, none⟩ = some (.int .i64 t.sg.s) := by
   have := (X.out.cell (p := ⟨b, o + (k * 17 + 14), none⟩) hbl).trans (hcell 14 _ rfl)
   rwa [← Nat.add_assoc] at this
  have l15 : wr.cell? ⟨b, o + k * 17 + 15, none⟩ = some (.int .i64 t.e) := by
   have := (X.out.cell (p := ⟨b, o + (k * 17 + 15), none⟩) hbl).trans (hcell 15 _ rfl)
   rwa [← Nat.add_assoc] at this
  have l16 : wr.cell? ⟨b, o + k * 17 + 16, none⟩ = some (.int .i64 t.s) := by
   have := (X.out.cell (p := ⟨b, o + (k * 17 + 16), none⟩) hbl).trans (hcell 16 _ rfl)
   rwa [← Nat.add_assoc] at this
  clear hcell
  obtain ⟨wn, hwn⟩ : ∃ wn, wn = wr.alloc (.cells #[.string (bstr t.st), .int .i64 t.num, .int .i64 t.day, .slice Au nu cu, .string (bstr t.sg.st), .int .i64 t.sg.kind, .int .i64 t.sg.num, .int .i64 t.sg.iss, .int .i64 t.sg.own, .int .i64 t.sg.key, .int .i64 t.sg.fr, .int .i64 t.sg.un, .int .i64 t.sg.to, .int .i64 t.sg.e, .int .i64 t.sg.s, .int .i64 t.e, .int .i64 t.s] 80) := ⟨_, rfl⟩
  have en : Ext wr wn := by rw [hwn]; exact (Below.refl _ _).alloc (Nat.le_refl _) _
  have bn : wn.heap[wr.heap.size]? = some (.cells (maCells t (.slice Au nu cu)).toArray 80 (0, 0)) := by rw [hwn]; exact heap_alloc_new' wr _
  have HBN := Lib.hid bn
  have HU := Lib.hid (RdK.ext HU0.out en)
  have HON2 := Lib.hid (HO.out.ext en)
  have XN := Lib.hid (X.out.tr en)
  go_upto_region 5 with fail
  rw [← hwn]
  clear hwn l0 l1 l2 l3 l4 l5 l6 l7 l8 l9 l10 l11 l12 l13 l14 l15 l16 HU0 HO X en bn
  unfold maCells at HBN
  go_wp2_with (refine wpList_load_row rfl 80 _ rfl wr.heap.size rfl 80 #[.string (bstr t.st), .int .i64 t.num, .int .i64 t.day, .slice Au nu cu, .string (bstr t.sg.st), .int .i64 t.sg.kind, .int .i64 t.sg.num, .int .i64 t.sg.iss, .int .i64 t.sg.own, .int .i64 t.sg.key, .int .i64 t.sg.fr, .int .i64 t.sg.un, .int .i64 t.sg.to, .int .i64 t.sg.e, .int .i64 t.sg.s, .int .i64 t.e, .int .i64 t.s] (0, 0) _ HBN.out Tryz.underlying80 rfl info_ma ?_)
  refine (HON.out t (.slice Au nu cu) wn HU.out HLT.out).mono ?_
  rintro e w2 ⟨A1, n1, c1, rfl, o1, b2⟩
  unfold maCells
  have HO2 := Lib.hid (HON2.out.ext b2)
  have X2 := Lib.hid (XN.out.tr b2)
  have HI2 := Lib.hid (o1.mono XN.out.size)
  clear b2 o1 HU HON2 XN HBN
  have eA : Ext w2 (w2.alloc (.cells (maCells t (.slice A1 n1 c1)).toArray 80)) := (Below.refl _ _).alloc (Nat.le_refl _) _
  have HO3 := Lib.hid (HO2.out.ext eA)
  have HI3 := Lib.hid (HI2.out.ext eA)
  have X3 := Lib.hid (X2.out.tr eA)
  have HRK := Lib.hid (litM w2 t (.slice A1 n1 c1))
  have HPL := Lib.hid (show k * 17 = (kM.cells ps).length by
   have h1 := congrArg List.length HP.out
   rw [List.length_map, List.length_take, Nat.min_eq_left (Nat.le_of_lt hlt)] at h1
   rw [kM.cells_len, h1]; rfl)
  have HONE := Lib.hid (kM.one t (.slice A1 n1 c1) rfl)
  unfold maCells at HRK HO3 HI3 X3
  clear eA
  go_wp2_with (refine wpList_appK (k := 17) (by decide) elemXM (n := k) (m := 1) (B := w.heap.size) HO3.out.1 HPL.out HRK.out (by rfl) HONE.out X3.out (by omega) (by unfold maxLen; omega) X3.out.size rfl rfl rfl rfl ?_; intro A8 n8 c8 w8 hn8 o8 x8 g8)
  obtain rfl : n8 = k + 1 := hn8.out
  have HO8 := Lib.hid (show OwnP kM w8 w.heap.size (.slice A8 (k + 1) c8) (ps ++ [(t, .slice A1 n1 c1)]) from HO3.out.app HI3.out o8 g8)
  have HP8 := Lib.hid (show (ps ++ [(t, Value.slice A1 n1 c1)]).map Prod.fst = l.take (k + 1) by rw [List.map_append, HP.out, List.take_succ_eq_append_getElem hlt]; have := HT.out; rw [List.getElem?_eq_getElem hlt] at this; rw [Option.some.inj this]; rfl)
  have X8 := Lib.hid x8
  clear x8 o8 g8
  go_roundw
  case rel => exact ⟨k + 1, A8, c8, _, by omega, by go_num, rfl, HP8, HO8, X8⟩
  case measure => simp [intOf]; omega
theorem elemXD : ElemK Tryz.prog 73 121 17 168 := by
 have h : (Tryz.prog.info? 121).map (fun i => (i.zero, i.size, i.bytes)) = some (some (.agg #[.string ⟨#[]⟩, .int .i64 0, .int .i64 0, .slice none 0 0, .string ⟨#[]⟩, .int .i64 0, .int .i64 0, .int .i64 0, .int .i64 0, .int .i64 0, .int .i64 0, .int .i64 0, .int .i64 0, .int .i64 0, .int .i64 0, .int .i64 0, .int .i64 0]), 17, 168) := by kernel_rfl
 obtain ⟨i, h1, h2, h3, h4⟩ := info_parts h
 exact ⟨i, _, Tryz.underlying73, h1, h2, h3, h4, rfl⟩
theorem oneD_any (t : DV) (u : Value) (W : World) (hu : RdK W 5 u (dfsCells t.defs)) (hl : t.defs.length ≤ 1000000) : Calls Tryz.prog 171 #[.agg (dvCells t u).toArray] W fun e W' => ∃ A1 n1 c1, e = .returned (.agg (dvCells t (.slice A1 n1 c1)).toArray) ∧ OwnK W' W.heap.size 177 5 (.slice A1 n1 c1) (dfsCells t.defs) ∧ Ext W W' :=
 cdev_any t u W hu hl
theorem litD (w : World) (t : DV) (u : Value) : RdK (w.alloc (.cells (dvCells t u).toArray 121)) 17 (.slice (some ⟨w.heap.size, 0, none⟩) 1 1) (dvCells t u) := by
 have := RdK.lit w 17 (dvCells t u).toArray 121 1 rfl (by unfold maxLen; omega)
 simpa using this
set_option maxHeartbeats 4000000 in
theorem eachD_any {v : Value} {l : List DV} (w : World) (hv : RdX kD w v l) (hl : l.length ≤ 100000) (hs : ∀ a ∈ l, a.defs.length ≤ 1000000) :
 Calls Tryz.prog 204 #[v, .func (.func 171) #[] #[]] w fun e w' => ∃ A c, e = .returned (.slice A l.length c) ∧ OwnX kD w' w.heap.size (.slice A l.length c) l ∧ Ext w w' := by
 obtain ⟨A, n, c, rfl, hn, hnc, hcm, hel⟩ := hv.at_
 subst hn
 unfold maxLen at hcm
 have HEL := Lib.hid hel
 have HSL := Lib.hid hs
 have HON := Lib.hid oneD_any
 clear hel hs hv
 go_enter Tryz.func204, Tryz.ntmps204
 go_wp2_with fail
 go_loopw [5, 10] (fun out i wr => ∃ (k : Nat) (Ao : Option Addr) (co : Nat) (ps : List (DV × Value)), k ≤ l.length ∧ i = .int .i64 (k : Int) ∧ out = .slice Ao k co ∧ Hid (ps.map Prod.fst = l.take k) ∧ Hid (OwnP kD wr w.heap.size (.slice Ao k co) ps) ∧ Hid (Ext w wr)) (fun _ i _ => l.length - (intOf i).toNat)
 case atStart => exact ⟨0, none, 0, [], Nat.zero_le _, rfl, rfl, Lib.hid rfl, Lib.hid (OwnP.empty _ _ _ _), Lib.hid (Below.refl _ _)⟩
 case round =>
  obtain ⟨k, Ao, co, ps, hk, rfl, rfl, HP, HO, X⟩ := hrel
  by_cases hlt : k < l.length
  case neg =>
   obtain rfl : k = l.length := by omega
   have HR : Hid (OwnX kD wr w.heap.size (.slice Ao l.length co) l) := Lib.hid ⟨ps, by rw [HP.out, List.take_length], HO.out⟩
   clear HP HO
   go_wp2_with fail
   go_ret
   exact ⟨_, _, rfl, HR.out, X.out⟩
  case pos =>
  obtain ⟨t, ht⟩ : ∃ t, l[k]? = some t := ⟨_, List.getElem?_eq_getElem hlt⟩
  obtain ⟨b, o, rfl, hbl, u, hcell, hu⟩ := HEL.out k t ht
  have HT := Lib.hid ht
  obtain ⟨Au, nu, cu, rfl, -⟩ := id hu
  have HU0 := Lib.hid (RdK.ext hu X.out)
  have HLT := Lib.hid (HSL.out t (List.mem_of_getElem? ht))
  clear ht hu
  have wi3 : IntKind.i64.wrap ((k : Int)) = (k : Int) := IntWalk.i64_in _ (by omega)
  have zi3 : (0 : Int) ≤ (k : Int) := by omega
  have li3 : (k : Int) < (l.length : Int) := by omega
  have ti3 : ((k : Int)).toNat = k := by omega
  have wk : IntKind.i64.wrap ((k : Int) + 1) = (k : Int) + 1 := IntWalk.i64_in _ (by omega)
  have l0 : wr.cell? ⟨b, o + k * 17, none⟩ = some (.string (bstr t.st)) := by
   have := (X.out.cell (p := ⟨b, o + (k * 17 + 0), none⟩) hbl).trans (hcell 0 _ rfl)
   exact this
  have l1 : wr.cell? ⟨b, o + k * 17 + 1, none⟩ = some (.int .i64 t.num) := by
   have := (X.out.cell (p := ⟨b, o + (k * 17 + 1), none⟩) hbl).trans (hcell 1 _ rfl)
   rwa [← Nat.add_assoc] at this
  have l2 : wr.cell? ⟨b, o + k * 17 + 2, none⟩ = some (.int .i64 t.day) := by
   have := (X.out.cell (p := ⟨b, o + (k * 17 + 2), none⟩) hbl).trans (hcell 2 _ rfl)
   rwa [← Nat.add_assoc] at this
  have l3 : wr.cell? ⟨b, o + k * 17 + 3, none⟩ = some (.slice Au nu cu) := by
   have := (X.out.cell (p := ⟨b, o + (k * 17 + 3), none⟩) hbl).trans (hcell 3 _ rfl)
   rwa [← Nat.add_assoc] at this
  have l4 : wr.cell? ⟨b, o + k * 17 + 4, none⟩ = some (.string (bstr t.sg.st)) := by
   have := (X.out.cell (p := ⟨b, o + (k * 17 + 4), none⟩) hbl).trans (hcell 4 _ rfl)
   rwa [← Nat.add_assoc] at this
  have l5 : wr.cell? ⟨b, o + k * 17 + 5, none⟩ = some (.int .i64 t.sg.kind) := by
   have := (X.out.cell (p := ⟨b, o + (k * 17 + 5), none⟩) hbl).trans (hcell 5 _ rfl)
   rwa [← Nat.add_assoc] at this
  have l6 : wr.cell? ⟨b, o + k * 17 + 6, none⟩ = some (.int .i64 t.sg.num) := by
   have := (X.out.cell (p := ⟨b, o + (k * 17 + 6), none⟩) hbl).trans (hcell 6 _ rfl)
   rwa [← Nat.add_assoc] at this
  have l7 : wr.cell? ⟨b, o + k * 17 + 7, none⟩ = some (.int .i64 t.sg.iss) := by
   have := (X.out.cell (p := ⟨b, o + (k * 17 + 7), none⟩) hbl).trans (hcell 7 _ rfl)
   rwa [← Nat.add_assoc] at this
  have l8 : wr.cell? ⟨b, o + k * 17 + 8, none⟩ = some (.int .i64 t.sg.own) := by
   have := (X.out.cell (p := ⟨b, o + (k * 17 + 8), none⟩) hbl).trans (hcell 8 _ rfl)
   rwa [← Nat.add_assoc] at this
  have l9 : wr.cell? ⟨b, o + k * 17 + 9, none⟩ = some (.int .i64 t.sg.key) := by
   have := (X.out.cell (p := ⟨b, o + (k * 17 + 9), none⟩) hbl).trans (hcell 9 _ rfl)
   rwa [← Nat.add_assoc] at this
  have l10 : wr.cell? ⟨b, o + k * 17 + 10, none⟩ = some (.int .i64 t.sg.fr) := by
   have := (X.out.cell (p := ⟨b, o + (k * 17 + 10), none⟩) hbl).trans (hcell 10 _ rfl)
   rwa [← Nat.add_assoc] at this
  have l11 : wr.cell? ⟨b, o + k * 17 + 11, none⟩ = some (.int .i64 t.sg.un) := by
   have := (X.out.cell (p := ⟨b, o + (k * 17 + 11), none⟩) hbl).trans (hcell 11 _ rfl)
   rwa [← Nat.add_assoc] at this
  have l12 : wr.cell? ⟨b, o + k * 17 + 12, none⟩ = some (.int .i64 t.sg.to) := by
   have := (X.out.cell (p := ⟨b, o + (k * 17 + 12), none⟩) hbl).trans (hcell 12 _ rfl)
   rwa [← Nat.add_assoc] at this
  have l13 : wr.cell? ⟨b, o + k * 17 + 13, none⟩ = some (.int .i64 t.sg.e) := by
   have := (X.out.cell (p := ⟨b, o + (k * 17 + 13), none⟩) hbl).trans (hcell 13 _ rfl)
   rwa [← Nat.add_assoc] at this
  have l14 : wr.cell? ⟨b, o + k * 17 + 14, none⟩ = some (.int .i64 t.sg.s) := by
   have := (X.out.cell (p := ⟨b, o + (k * 17 + 14), none⟩) hbl).trans (hcell 14 _ rfl)
   rwa [← Nat.add_assoc] at this
  have l15 : wr.cell? ⟨b, o + k * 17 + 15, none⟩ = some (.int .i64 t.e) := by
   have := (X.out.cell (p := ⟨b, o + (k * 17 + 15), none⟩) hbl).trans (hcell 15 _ rfl)
   rwa [← Nat.add_assoc] at this
  have l16 : wr.cell? ⟨b, o + k * 17 + 16, none⟩ = some (.int .i64 t.s) := by
   have := (X.out.cell (p := ⟨b, o + (k * 17 + 16), none⟩) hbl).trans (hcell 16 _ rfl)
   rwa [← Nat.add_assoc] at this
  clear hcell
  obtain ⟨wn, hwn⟩ : ∃ wn, wn = wr.alloc (.cells #[.string (bstr t.st), .int .i64 t.num, .int .i64 t.day, .slice Au nu cu, .string (bstr t.sg.st), .int .i64 t.sg.kind, .int .i64 t.sg.num, .int .i64 t.sg.iss, .int .i64 t.sg.own, .int .i64 t.sg.key, .int .i64 t.sg.fr, .int .i64 t.sg.un, .int .i64 t.sg.to, .int .i64 t.sg.e, .int .i64 t.sg.s, .int .i64 t.e, .int .i64 t.s] 121) := ⟨_, rfl⟩
  have en : Ext wr wn := by rw [hwn]; exact (Below.refl _ _).alloc (Nat.le_refl _) _
  have bn : wn.heap[wr.heap.size]? = some (.cells (dvCells t (.slice Au nu cu)).toArray 121 (0, 0)) := by rw [hwn]; exact heap_alloc_new' wr _
  have HBN := Lib.hid bn
  have HU := Lib.hid (RdK.ext HU0.out en)
  have HON2 := Lib.hid (HO.out.ext en)
  have XN := Lib.hid (X.out.tr en)
  go_upto_region 5 with fail
  rw [← hwn]
  clear hwn l0 l1 l2 l3 l4 l5 l6 l7 l8 l9 l10 l11 l12 l13 l14 l15 l16 HU0 HO X en bn
  unfold dvCells at HBN
  go_wp2_with (refine wpList_load_row rfl 121 _ rfl wr.heap.size rfl 121 #[.string (bstr t.st), .int .i64 t.num, .int .i64 t.day, .slice Au nu cu, .string (bstr t.sg.st), .int .i64 t.sg.kind, .int .i64 t.sg.num, .int .i64 t.sg.iss, .int .i64 t.sg.own, .int .i64 t.sg.key, .int .i64 t.sg.fr, .int .i64 t.sg.un, .int .i64 t.sg.to, .int .i64 t.sg.e, .int .i64 t.sg.s, .int .i64 t.e, .int .i64 t.s] (0, 0) _ HBN.out Tryz.underlying121 rfl info_dv ?_)
  refine (HON.out t (.slice Au nu cu) wn HU.out HLT.out).mono ?_
  rintro e w2 ⟨A1, n1, c1, rfl, o1, b2⟩
  unfold dvCells
  have HO2 := Lib.hid (HON2.out.ext b2)
  have X2 := Lib.hid (XN.out.tr b2)
  have HI2 := Lib.hid (o1.mono XN.out.size)
  clear b2 o1 HU HON2 XN HBN
  have eA : Ext w2 (w2.alloc (.cells (dvCells t (.slice A1 n1 c1)).toArray 121)) := (Below.refl _ _).alloc (Nat.le_refl _) _
  have HO3 := Lib.hid (HO2.out.ext eA)
  have HI3 := Lib.hid (HI2.out.ext eA)
  have X3 := Lib.hid (X2.out.tr eA)
  have HRK := Lib.hid (litD w2 t (.slice A1 n1 c1))
  have HPL := Lib.hid (show k * 17 = (kD.cells ps).length by
   have h1 := congrArg List.length HP.out
   rw [List.length_map, List.length_take, Nat.min_eq_left (Nat.le_of_lt hlt)] at h1
   rw [kD.cells_len, h1]; rfl)
  have HONE := Lib.hid (kD.one t (.slice A1 n1 c1) rfl)
  unfold dvCells at HRK HO3 HI3 X3
  clear eA
  go_wp2_with (refine wpList_appK (k := 17) (by decide) elemXD (n := k) (m := 1) (B := w.heap.size) HO3.out.1 HPL.out HRK.out (by rfl) HONE.out X3.out (by omega) (by unfold maxLen; omega) X3.out.size rfl rfl rfl rfl ?_; intro A8 n8 c8 w8 hn8 o8 x8 g8)
  obtain rfl : n8 = k + 1 := hn8.out
  have HO8 := Lib.hid (show OwnP kD w8 w.heap.size (.slice A8 (k + 1) c8) (ps ++ [(t, .slice A1 n1 c1)]) from HO3.out.app HI3.out o8 g8)
  have HP8 := Lib.hid (show (ps ++ [(t, Value.slice A1 n1 c1)]).map Prod.fst = l.take (k + 1) by rw [List.map_append, HP.out, List.take_succ_eq_append_getElem hlt]; have := HT.out; rw [List.getElem?_eq_getElem hlt] at this; rw [Option.some.inj this]; rfl)
  have X8 := Lib.hid x8
  clear x8 o8 g8
  go_roundw
  case rel => exact ⟨k + 1, A8, c8, _, by omega, by go_num, rfl, HP8, HO8, X8⟩
  case measure => simp [intOf]; omega
section
variable {P : Program} {ops : Array Oper} {Q : Exit → Act → World → Prop} {w0 : World} {R : Act → World → Prop}
open Go.Proofs.YtkjplpmogfmhkaaGreatDoor.Gd (GRun)
theorem Gd.wpX_midK {o : Oper} {rest : List Oper} {a : Act} {hs : List (Nat × VPred)} {d : Nat} (hg : GRun ops o a hs) (g i : Nat) (cs : List Value) {ty : TypeId} {x : Operand} {ds : TypeDesc} (hd : o.dst = some d) (hz : Nat.blt d a.tmps.size = true) (ho : o.op = .load ty x) (hx : a.eval x = .pointer (some ⟨g, i, none⟩)) (hn : noHole o hs = true)
 (hrow : ∀ m : Lt w0, m.1.rangeAt g i cs) (hu : P.underlying ty = some ds) (hdd : ds.isRow = true) (hi : (P.info? ty).map (·.size) = some cs.length) (hr : Gd.wpX P ops Q w0 R rest (a.put (some d) (.agg cs.toArray)) hs) : Gd.wpX P ops Q w0 R (o :: rest) a hs :=
 Gd.wpX_call hg (.agg cs.toArray) hd hz (by unfold notSelect; rw [ho]) hn (fun m K hK => by
  unfold Oper.wp execOp
  simp only [ho, hx, Sem.run_bind, run_loadAt_mid m.1 g i ty cs ds (hrow m) hu hdd hi, Result.andThen_ok, Sem.run_pure]
  exact hK _ _ (by rw [hd]; rfl) ⟨Below.refl _ _, by rw [hd, eval_put_same (blt_lt hz)]⟩) hr
end
end Go.Proofs.YtkjplpmogfmhkaaGreatDoor
