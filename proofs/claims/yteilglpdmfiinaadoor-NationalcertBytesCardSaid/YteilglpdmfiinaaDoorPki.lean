/- Parts Fn Cl Fi of the proof. -/
import Derived.Test.YteilglpdmfiinaaDoorPkg
import Derived.Test.YteilglpdmfiinaaDoorCt
namespace Go.Proofs.YteilglpdmfiinaaDoor
open Go.RowKit
set_option linter.unusedVariables false
set_option maxRecDepth 100000

/-- An object by value, whose value reads so. -/
def NdV (w : World) (l : List UInt8) (v : Value) : Prop := ∃ (t : Int) (A1 : Option Addr) (n1 c1 : Nat) (A2 : Option Addr) (n2 c2 : Nat), v = .agg #[.int .i64 t, .slice A1 n1 c1, .slice A2 n2 c2] ∧ Rd w (.slice A1 n1 c1) (bvs l)
/-- A call that returns an object by value and whether it is there. -/
def FindR (w : World) (ts : List Nd) (ps : List Int) (e : Ending) (w' : World) : Prop := Ext w w' ∧ ∃ v, NdV w' (valN ts ps) v ∧ e = .returned (.tuple #[v, .bool (findN ts ps).isSome])
/-- The index of the first object with a tag. -/
def idxN (ts : List Nd) (p : Int) : Option Nat := ts.findIdx? (fun t => t.tag == p)
theorem find_idx {ts : List Nd} {p : Int} : ts.find? (fun t => t.tag == p) = (idxN ts p).bind fun i => ts[i]? := by
  unfold idxN
  induction ts with
  | nil => rfl
  | cons t ts IH =>
    by_cases h : (t.tag == p) = true
    · simp [List.findIdx?_cons, h]
    · have h' : (t.tag == p) = false := by simpa using h
      simp only [List.find?_cons, List.findIdx?_cons, h', IH]
      cases List.findIdx? (fun t => t.tag == p) ts <;> simp
/-- The closure that Find hands to IndexFunc. -/
theorem findFn_any (p : Int) (g : Nat) (t : Int) (A1 : Option Addr) (n1 c1 : Nat) (A2 : Option Addr) (n2 c2 : Nat) (w : World) (hg : w.cell? ⟨g, 0, none⟩ = some (.int .i64 p)) :
    Calls Tryd.prog 109 #[.agg #[.int .i64 t, .slice A1 n1 c1, .slice A2 n2 c2], .pointer (some ⟨g, 0, none⟩)] w (RetQ w (.bool (t == p))) := by
  have hl := World.block_lt_of_cell? w _ hg
  go_enter Tryd.func109, Tryd.ntmps109
  go_wp2
  go_ret
  exact ⟨rfl, (Below.refl _ _).alloc (Nat.le_refl _) _⟩
theorem idxN_some {ts : List Nd} {p : Int} {j : Nat} {t : Nd} (ht : ts[j]? = some t) (hp : (t.tag == p) = true) (hlt : ∀ i u, i < j → ts[i]? = some u → (u.tag == p) = false) : idxN ts p = some j := by
  have hj := (List.getElem?_eq_some_iff.1 ht).1
  unfold idxN
  rw [List.findIdx?_eq_some_iff_getElem]
  refine ⟨hj, ?_, fun i hi => ?_⟩
  · rw [List.getElem?_eq_getElem hj] at ht
    rw [Option.some.inj ht]; exact hp
  · have := hlt i _ hi (List.getElem?_eq_getElem (by omega))
    simp [this]
theorem idxN_none {ts : List Nd} {p : Int} (hlt : ∀ (i : Nat) u, ts[i]? = some u → (u.tag == p) = false) : idxN ts p = none := by
  unfold idxN
  rw [List.findIdx?_eq_none_iff]
  intro u hu
  obtain ⟨i, hi⟩ := List.mem_iff_getElem?.1 hu
  exact hlt i u hi
/-- The index, or -1. -/
def idxV (ts : List Nd) (p : Int) : Int := match idxN ts p with
  | none => -1
  | some i => (i : Int)
set_option maxHeartbeats 2000000 in
theorem indexFn_any {d : Nat} {v : Value} {ts : List Nd} (p : Int) (g : Nat) (w : World) (hr : NdsRd d w v ts) (hg : w.cell? ⟨g, 0, none⟩ = some (.int .i64 p)) :
    Calls Tryd.prog 108 #[v, .func (.func 109) #[] #[.pointer (some ⟨g, 0, none⟩)]] w (RetQ w (.int .i64 (idxV ts p))) := by
  obtain ⟨A, n, c, rfl, hn, hnc, hcm, hel⟩ := hr.open_
  subst hn
  unfold maxLen at hcm
  have hgl := World.block_lt_of_cell? w _ hg
  have HE := Lib.hid hel
  clear hr hel
  obtain ⟨r, hr⟩ : ∃ r, idxV ts p = r := ⟨_, rfl⟩
  rw [hr]
  have HR := Lib.hid hr
  clear hr
  have HF := Lib.hid (fun t A1 n1 c1 A2 n2 c2 (W : World) (h : Ext w W) => findFn_any p g t A1 n1 c1 A2 n2 c2 W ((h.cell (p := ⟨g, 0, none⟩) hgl).trans hg))
  clear hg
  go_enter Tryd.func108, Tryd.ntmps108
  go_wp2
  go_loopw [5, 8] (fun _ i wr => ∃ j : Nat, j ≤ ts.length ∧ i = .int .i64 (j : Int) ∧ Ext w wr ∧ Hid (∀ i u, i < j → ts[i]? = some u → (u.tag == p) = false)) (fun _ i _ => ts.length - (intOf i).toNat)
  case atStart => exact ⟨0, Nat.zero_le _, rfl, Below.refl _ _, Lib.hid (fun i u h => by omega)⟩
  case round =>
    obtain ⟨j, hj, rfl, bb, hlt0⟩ := hrel
    by_cases hlt : j < ts.length
    · obtain ⟨t, ht⟩ : ∃ t, ts[j]? = some t := ⟨_, List.getElem?_eq_getElem hlt⟩
      obtain ⟨d', hd', b, o, rfl, hbl, A1, n1, c1, A2, n2, c2, e0, e1, e2, r1, r2⟩ := HE.out j t ht
      have l0 := (bb.cell (p := ⟨b, o + j * 3, none⟩) hbl).trans e0
      have l1 := (bb.cell (p := ⟨b, o + j * 3 + 1, none⟩) hbl).trans e1
      have l2 := (bb.cell (p := ⟨b, o + j * 3 + 2, none⟩) hbl).trans e2
      have HT := Lib.hid ht
      clear e0 e1 e2 r1 r2 hd' ht
      have wi1 : IntKind.i64.wrap ((j : Int)) = (j : Int) := IntWalk.i64_in _ (by omega)
      have zi1 : (0 : Int) ≤ (j : Int) := by omega
      have li1 : (j : Int) < (ts.length : Int) := by omega
      have ti1 : ((j : Int)).toNat = j := by omega
      go_wp2_with fail
      refine (HF.out _ _ _ _ _ _ _ _ bb).mono ?_
      rintro e wy ⟨rfl, by_⟩
      cases hq : (t.tag == p) with
      | true =>
        have HI := Lib.hid (idxN_some HT.out hq hlt0.out)
        have HN := Lib.hid (show r = (j : Int) by rw [← HR.out]; unfold idxV; rw [HI.out])
        clear hq
        go_wp2_with fail
        go_ret
        exact ⟨by rw [HN.out]; rfl, bb.tr by_⟩
      | false =>
        have HQ := Lib.hid hq
        clear hq
        go_wp2_with fail
        go_roundw
        case rel => exact ⟨j + 1, by omega, by go_num, bb.tr by_, Lib.hid (fun i u hi hu => by
          by_cases h : i = j
          · subst h
            rw [HT.out] at hu
            rw [← Option.some.inj hu]; exact HQ.out
          · exact hlt0.out i u (by omega) hu)⟩
        case measure => simp [intOf]; omega
    · obtain rfl : j = ts.length := by omega
      have HI := Lib.hid (idxN_none (p := p) (fun i u hu => hlt0.out i u (List.getElem?_eq_some_iff.1 hu).1 hu))
      have HN := Lib.hid (show r = -1 by rw [← HR.out]; unfold idxV; rw [HI.out])
      go_wp2
      go_ret
      exact ⟨by rw [HN.out]; rfl, bb⟩
/-- Objects of a size that can be copied. -/
def szNs : Nat → List Nd → Prop
  | 0, ts => ts = []
  | d + 1, ts => ts.length ≤ 256 ∧ ∀ t ∈ ts, t.val.length ≤ 4096 ∧ szNs d t.kids
theorem szNs_nil (d : Nat) : szNs d [] := by
  cases d with
  | zero => rfl
  | succ d => exact ⟨Nat.zero_le _, fun t h => by cases h⟩
theorem objsP_sz : ∀ (k : Nat) (l : List UInt8) (d cnt : Nat) (dep : Int) (ts : List Nd) (c : Nat), l.length ≤ k → l.length ≤ 4096 → dep + (d : Int) = 9 → cnt ≤ 256 → objsP dep cnt l = some (ts, c) → szNs d ts := by
  intro k
  induction k using Nat.strongRecOn with
  | ind k IH =>
    intro l d cnt dep ts c hk h4 hd hc h
    have hlen := objsP_cnt _ _ _ _ _ _ (Nat.le_refl _) h hc
    rw [objsP_eq] at h
    split at h
    · simp only [Option.some.injEq, Prod.mk.injEq] at h
      obtain ⟨rfl, rfl⟩ := h
      exact szNs_nil d
    · rename_i h0
      split at h
      · cases h
      · rename_i x c1 u hx
        obtain ⟨u0, u1⟩ := objP1_used hx
        obtain ⟨k0, k1⟩ := objP1_cnt hx
        have hdep := objP1_dep hx
        split at h
        · cases h
        · rename_i xs c' hxs
          simp only [Option.some.injEq, Prod.mk.injEq] at h
          obtain ⟨rfl, rfl⟩ := h
          have h1 := IH (l.drop u).length (by rw [List.length_drop]; omega) _ d _ _ _ _ (Nat.le_refl _) (by rw [List.length_drop]; omega) hd k0 hxs
          obtain ⟨d', rfl⟩ : ∃ d', d = d' + 1 := ⟨d - 1, by omega⟩
          refine ⟨hlen.2.1, fun t ht => ?_⟩
          rcases List.mem_cons.1 ht with rfl | ht
          · unfold objP1 at hx
            split at hx
            · cases hx
            · rename_i tg o n hh
              obtain ⟨g1, g2, g3, g4, g5, g6, g7⟩ := headP_bd hh
              split at hx
              · split at hx
                · cases hx
                · rename_i ks c2 hk2
                  simp only [Option.some.injEq, Prod.mk.injEq] at hx
                  obtain ⟨rfl, _, _⟩ := hx
                  exact ⟨Nat.zero_le _, IH ((l.drop o).take n).length (by rw [List.length_take, List.length_drop]; omega) _ d' _ _ _ _ (Nat.le_refl _) (by rw [List.length_take, List.length_drop]; omega) (by omega) (by omega) hk2⟩
              · simp only [Option.some.injEq, Prod.mk.injEq] at hx
                obtain ⟨rfl, _, _⟩ := hx
                exact ⟨by show ((l.drop o).take n).length ≤ 4096; rw [List.length_take, List.length_drop]; omega, szNs_nil d'⟩
          · exact h1.2 t ht
end Go.Proofs.YteilglpdmfiinaaDoor

namespace Go.Proofs.YteilglpdmfiinaaDoor
open Go.RowKit
set_option linter.unusedVariables false
set_option maxRecDepth 100000

section
variable {P : Program} {Q : Exit → Act → World → Prop} {w0 : World} {R : Act → World → Prop}
/-- A new variable in a region that draws. -/
theorem wpX_alloc {o : Oper} {rest : List Oper} {a : Act} {hs : List (Nat × VPred)} {d : Nat} {t : TypeId} {cs : Array Value}
    (hrun : ∀ W : World, (Instr.alloc t true (.tuple #[])).run P W = .ok (.pointer (some ⟨W.heap.size, 0, none⟩)) (W.alloc (.cells cs t)))
    (hd : o.dst = some d) (hz : Nat.blt d a.tmps.size = true) (ho : o.op = .alloc t) (hn : noHole o hs = true)
    (hr : wpX P Q w0 R rest (a.put (some d) undef) ((d, fun v w => ∃ g, v = .pointer (some ⟨g, 0, none⟩) ∧ w0.heap.size ≤ g ∧ w.heap[g]? = some (.cells cs t (0, 0))) :: hs)) : wpX P Q w0 R (o :: rest) a hs :=
  wpX_hole _ (fun v w w' hb ⟨g, h1, h2, h3⟩ => ⟨g, h1, h2, (hb.block g (block_lt h3)).trans h3⟩) hd hz (by unfold notSelect; rw [ho]) hn (fun m K hK => wp_newVal (s := Instr.alloc t true (.tuple #[])) (by unfold execOp; simp only [ho]) (hrun m.1)
    (hK _ _ (by rw [hd]; rfl) ⟨(Below.refl _ _).alloc (Nat.le_refl _) _, by rw [hd, eval_put_same (blt_lt hz)]; exact ⟨_, rfl, m.2.size, heap_alloc_new' _ _⟩⟩)) hr
/-- A struct literal that reads a hole. -/
theorem wpX_buildUse {o : Oper} {rest : List Oper} {a : Act} {hs : List (Nat × VPred)} {d : Nat} (t1 : Nat) (p : VPred) (f : Value → Value) {t : TypeId} {ps : Array (Nat × Operand)} (vs : Value → List (Nat × Value)) (hp : StableP p)
    (hrun : ∀ (W : World) (u : Value), p u W → (Instr.build t (vs u).toArray).run P W = .ok (f u) W)
    (hd : o.dst = some d) (hz : Nat.blt d a.tmps.size = true) (ho : o.op = .build t ps) (ha : ∀ u, (ps.toList.map fun q => (q.1, (a.put (some t1) u).eval q.2)) = vs u) (hl : hs.lookup t1 = some p) (hn : oneHole o hs t1 = true) (hin : (opTmps o).contains t1 = true) (hz1 : Nat.blt t1 a.tmps.size = true)
    (hr : wpX P Q w0 R rest (a.put (some d) undef) ((d, fun v w => ∃ u, p u w ∧ v = f u) :: hs)) : wpX P Q w0 R (o :: rest) a hs :=
  wpX_useHole t1 p _ (fun v w w' hb ⟨u, h1, h2⟩ => ⟨u, hp _ _ _ hb h1, h2⟩) hd hz (by unfold notSelect; rw [ho]) hl hn hin hz1 (fun m u hu K hK => wp_newVal (s := Instr.build t (vs u).toArray) (by unfold execOp; simp only [ho]; rw [← ha u, ← List.map_toArray, Array.toArray_toList]) (hrun m.1 u hu)
    (hK _ _ (by rw [hd]; rfl) ⟨Below.refl _ _, by rw [hd, eval_put_same (by simpa [Act.put] using blt_lt hz)]; exact ⟨u, hu, rfl⟩⟩)) hr
/-- A slice literal that reads a hole. -/
theorem wpX_buildSUse {o : Oper} {rest : List Oper} {a : Act} {hs : List (Nat × VPred)} {d : Nat} (t1 : Nat) (p g : VPred) (hst : StableP g) {t : TypeId} {n : Nat} {ps : Array (Nat × Operand)} (vs : Value → List (Nat × Value))
    (hrun : ∀ (m : Lt w0) (u : Value), p u m.1 → ∃ v w'', (Instr.buildSlice t n (vs u).toArray).run P m.1 = .ok v w'' ∧ Ext m.1 w'' ∧ g v w'')
    (hd : o.dst = some d) (hz : Nat.blt d a.tmps.size = true) (ho : o.op = .buildSlice t n ps) (ha : ∀ u, (ps.toList.map fun q => (q.1, (a.put (some t1) u).eval q.2)) = vs u) (hl : hs.lookup t1 = some p) (hn : oneHole o hs t1 = true) (hin : (opTmps o).contains t1 = true) (hz1 : Nat.blt t1 a.tmps.size = true)
    (hr : wpX P Q w0 R rest (a.put (some d) undef) ((d, g) :: hs)) : wpX P Q w0 R (o :: rest) a hs :=
  wpX_useHole t1 p _ hst hd hz (by unfold notSelect; rw [ho]) hl hn hin hz1 (fun m u hu K hK => by
    obtain ⟨v, w'', h1, h2, h3⟩ := hrun m u hu
    exact wp_newVal (s := Instr.buildSlice t n (vs u).toArray) (by unfold execOp; simp only [ho]; rw [← ha u, ← List.map_toArray, Array.toArray_toList]) h1
      (hK _ _ (by rw [hd]; rfl) ⟨h2, by rw [hd, eval_put_same (by simpa [Act.put] using blt_lt hz)]; exact h3⟩)) hr
end
theorem run_allocNd (W : World) : (Instr.alloc 62 true (.tuple #[])).run Tryd.prog W = .ok (.pointer (some ⟨W.heap.size, 0, none⟩)) (W.alloc (.cells #[.int .i64 0, .slice none 0 0, .slice none 0 0] 62)) := by go_simp
theorem run_buildNd (W : World) (t : Int) (A : Option Addr) (n c : Nat) : (Instr.build 62 [(0, .int .i64 t), (1, .slice A n c)].toArray).run Tryd.prog W = .ok (.agg #[.int .i64 t, .slice A n c, .slice none 0 0]) W := run_build W _ _ _ (by kernel_rfl)
theorem C3.ex {W W' : World} {b : Nat} {v0 v1 v2 : Value} (h : C3 W b v0 v1 v2) (k : Ext W W') : C3 W' b v0 v1 v2 := (k.block b (block_lt h)).trans h
theorem RdS.avoid {S S' : Nat → Prop} {w : World} {v : Value} {l : List UInt8} {yb : Nat} {z : Int} {A B : Option Addr} {n c n' c' : Nat} (h : RdS S w v (bvs l)) (hy : C3 w yb (.int .i64 z) (.slice A n c) (.slice B n' c')) (hS : ∀ b, S b → b < w.heap.size → b ≠ yb → S' b) : RdS S' w v (bvs l) := by
  obtain ⟨A, n, c, h1, h2, h3, h4, h5⟩ := h
  refine ⟨A, n, c, h1, h2, h3, h4, fun h0 => ?_⟩
  obtain ⟨b, o, q1, q2, q3⟩ := h5 h0
  rw [bvs_length] at h2
  have c0 := q3 0 _ (bvs_at (by omega))
  refine ⟨b, o, q1, hS b q2 (World.block_lt_of_cell? w _ c0) (fun e => ?_), q3⟩
  subst e
  rw [cell_of_row w b (o + 0) _ _ _ hy] at c0
  match o, c0 with
  | 0, c0 => simp at c0
  | 1, c0 => simp at c0
  | 2, c0 => simp at c0
  | o + 3, c0 => simp at c0
def AggV (v : Value) : Prop := ∃ (t : Int) (A1 : Option Addr) (n1 c1 : Nat) (A2 : Option Addr) (n2 c2 : Nat), v = .agg #[.int .i64 t, .slice A1 n1 c1, .slice A2 n2 c2]
def OneNd (v : Value) (w : World) : Prop := ∃ (t : Int) (A1 : Option Addr) (n1 c1 : Nat) (A2 : Option Addr) (n2 c2 : Nat) (g : Nat), v = .slice (some ⟨g, 0, none⟩) 1 1 ∧ RdK w 3 v [.int .i64 t, .slice A1 n1 c1, .slice A2 n2 c2]
theorem stable_oneNd : StableP OneNd := fun v w w' hb ⟨t, a1, a2, a3, a4, a5, a6, g, h0, h⟩ => ⟨t, a1, a2, a3, a4, a5, a6, g, h0, h.ext hb⟩
theorem run_buildSliceNd (W : World) (t : Int) (A1 : Option Addr) (n1 c1 : Nat) (A2 : Option Addr) (n2 c2 : Nat) : (Instr.buildSlice 60 1 [(0, .agg #[.int .i64 t, .slice A1 n1 c1, .slice A2 n2 c2])].toArray).run Tryd.prog W = .ok (.slice (some ⟨W.heap.size, 0, none⟩) 1 1) (W.alloc (.cells #[.int .i64 t, .slice A1 n1 c1, .slice A2 n2 c2] 62)) := by go_simp
/-- Where the loop of clone stands. -/
def ClL (w : World) (yb rb B : Nat) (t : Int) (Av : Option Addr) (nv cv : Nat) (val : List UInt8) (len : Nat) (i : Value) (wr : World) : Prop :=
  ∃ (j : Nat) (A : Option Addr) (n cc : Nat) (xs : List Value), j ≤ len ∧ i = .int .i64 (j : Int) ∧ n = j ∧ Ext w wr ∧ B ≤ wr.heap.size ∧ C3 wr yb (.int .i64 t) (.slice Av nv cv) (.slice A n cc) ∧ C3 wr rb (.int .i64 0) (.slice none 0 0) (.slice none 0 0) ∧
    OwnK wr B 62 3 (.slice A n cc) xs ∧ n * 3 = xs.length ∧ RdS (fun b => b ≠ yb ∧ b < B ∧ b ≠ rb) wr (.slice Av nv cv) (bvs val)
def CloneOk (d : Nat) : Prop := ∀ (w : World) (t : Int) (A1 : Option Addr) (n1 c1 : Nat) (A2 : Option Addr) (n2 c2 : Nat) (val : List UInt8) (kids : List Nd), Rd w (.slice A1 n1 c1) (bvs val) → val.length ≤ 4096 → NdsRd d w (.slice A2 n2 c2) kids → szNs d kids →
  Calls Tryd.prog 110 #[.agg #[.int .i64 t, .slice A1 n1 c1, .slice A2 n2 c2]] w fun e w' => Ext w w' ∧ ∃ v, NdV w' val v ∧ e = .returned v
set_option maxHeartbeats 4000000 in
theorem clone_of {d : Nat} (H : ∀ d', d = d' + 1 → CloneOk d') : CloneOk d := by
  intro w t A1 n1 c1 A2 n2 c2 val kids hv hv4 hk hs
  have HH := Lib.hid H
  clear H
  obtain ⟨A2', n2', c2', e2, hn2, hnc2, hcm2, hel⟩ := hk.open_
  injection e2 with e2a e2b e2c
  subst e2a e2b e2c hn2
  unfold maxLen at hcm2
  have HE := Lib.hid hel
  have HV := Lib.hid hv
  have HS := Lib.hid hs
  clear hk hel hv hs
  have x2 : Ext w ((w.alloc (.cells #[.int .i64 t, .slice A1 n1 c1, .slice A2 kids.length c2] 62)).alloc (.cells #[.int .i64 0, .slice none 0 0, .slice none 0 0] 62)) := ((Below.refl _ _).alloc (Nat.le_refl _) _).alloc (by simp) _
  have hb := (C3.new w (.int .i64 t) (.slice A1 n1 c1) (.slice A2 kids.length c2)).gb (Gb.of (w.heap.size + 1) ((Below.refl _ _).alloc (Nat.le_refl _) (.cells #[.int .i64 0, .slice none 0 0, .slice none 0 0] 62))) (by omega)
  have hr := C3.new (w.alloc (.cells #[.int .i64 t, .slice A1 n1 c1, .slice A2 kids.length c2] 62)) (.int .i64 0) (.slice none 0 0) (.slice none 0 0)
  rw [show (w.alloc (.cells #[.int .i64 t, .slice A1 n1 c1, .slice A2 kids.length c2] 62)).heap.size = w.heap.size + 1 by simp] at hr
  go_enter Tryd.func110, Tryd.ntmps110
  go_wp2_with fail
  generalize ((w.alloc (.cells #[.int .i64 t, .slice A1 n1 c1, .slice A2 kids.length c2] 62)).alloc (.cells #[.int .i64 0, .slice none 0 0, .slice none 0 0] 62)) = wa at *
  refine wp_region_X 7 (by kernel_rfl) (by kernel_rfl) ?_
  simp only [List.take_succ_cons, List.take_zero, List.drop_succ_cons, List.drop_zero]
  intro w1 hw1
  have LL : ∀ m : Lt w1, Ext wa m.1 := fun m => hw1.tr m.2
  have v0 : ∀ m : Lt w1, m.1.cell? ⟨w.heap.size, 0, none⟩ = some (.int .i64 t) := fun m => (hb.ex (LL m)).cells.1
  have v1 : ∀ m : Lt w1, m.1.cell? ⟨w.heap.size, 1, none⟩ = some (.slice A1 n1 c1) := fun m => (hb.ex (LL m)).cells.2.1
  repeat (refine wpX_pure rfl rfl rfl rfl rfl (fun K hK => ?_); go_big_quiet_op; refine hK _ ?_; clear hK K)
  refine wpX_callHole (fun v w => RdS (fun b => wa.heap.size ≤ b) w v (bvs val)) (fun v w w' hb h => h.map fun k h1 h2 => ⟨h1, hb.block k h2⟩) rfl rfl rfl rfl (by kernel_rfl) rfl rfl (fun m => (cloneB_any _ ((HV.out.ext x2).ext (LL m)) (by omega)).mono fun _ _ ⟨A', n', cc', h1, h2, h3, h4⟩ => ⟨_, h1, h4, RdS.of h3 fun k hk => Nat.le_trans (LL m).size hk⟩) ?_
  simp only [Act.put, List.setIfInBounds_toArray, List.set_cons_zero, List.set_cons_succ]
  refine wpX_buildUse 10 (fun v w => RdS (fun b => wa.heap.size ≤ b) w v (bvs val)) (fun u => .agg #[.int .i64 t, u, .slice none 0 0]) (fun u => [(0, .int .i64 t), (1, u)]) (fun v w w' hb h => h.map fun k h1 h2 => ⟨h1, hb.block k h2⟩) (fun W u ⟨A, n, c, hu, _⟩ => by rw [hu]; exact run_buildNd W t A n c) rfl rfl rfl (fun u => rfl) rfl rfl rfl rfl ?_
  simp only [Act.put, List.setIfInBounds_toArray, List.set_cons_zero, List.set_cons_succ]
  refine wpX_alloc run_allocNd rfl rfl rfl rfl ?_
  simp only [Act.put, List.setIfInBounds_toArray, List.set_cons_zero, List.set_cons_succ]
  refine wpX_end3 (by decide) (by decide) (by decide) (fun m u1 u2 u3 hu1 hu2 hu3 => ?_)
  simp only [Act.put, List.setIfInBounds_toArray, List.set_cons_zero, List.set_cons_succ]
  have Lm := LL m
  obtain ⟨wy, hwy⟩ := m
  clear LL v0 v1 hu1
  obtain ⟨u, hu, rfl⟩ := hu2
  obtain ⟨yb, rfl, hyb, hy⟩ := hu3
  have HU := Lib.hid hu
  obtain ⟨Av, nv, cv, hv'⟩ : ∃ A n c, u = .slice A n c := by obtain ⟨A, n, c, h, _⟩ := hu; exact ⟨_, _, _, h⟩
  clear hu
  subst hv'
  have hy : C3 wy yb (.int .i64 0) (.slice none 0 0) (.slice none 0 0) := hy
  have hry : C3 wy (w.heap.size + 1) (.int .i64 0) (.slice none 0 0) (.slice none 0 0) := hr.ex Lm
  have hrl := hr.lt
  have hwl := x2.size
  have hb2 := hb.ex Lm
  have hybl := hy.lt
  have sy := Lm.size
  have hyb : wa.heap.size ≤ yb := Nat.le_trans hw1.size hyb
  obtain ⟨y0, y1, y2, yf0, yf1, yf2⟩ := hy.cells
  obtain ⟨b0, b1, b2, bf0, bf1, bf2⟩ := hb2.cells
  have hy3 := hy.set3 (.int .i64 t) (.slice Av nv cv) (.slice none 0 0)
  have hne1 : w.heap.size + 1 ≠ yb := by omega
  have hne2 : yb ≠ w.heap.size := by omega
  have hne3 : w.heap.size ≠ yb := by omega
  have R0 : ClL w yb (w.heap.size + 1) wy.heap.size t Av nv cv val kids.length (.int .i64 0) (Go.Proofs.YteilglpdmfiinaaDoor.set3 wy yb (.int .i64 t) (.slice Av nv cv) (.slice none 0 0)) := by
    refine ⟨0, none, 0, 0, [], Nat.zero_le _, rfl, rfl, ?_, by simp, hy3, (set3_block hne1).trans hry, OwnK.empty _ _ _ _ _, rfl, ?_⟩
    · exact (((x2.tr Lm).setCell (p := ⟨yb, 0, none⟩) (by show w.heap.size ≤ yb; omega) _).setCell (p := ⟨yb, 1, none⟩) (by show w.heap.size ≤ yb; omega) _).setCell (p := ⟨yb, 2, none⟩) (by show w.heap.size ≤ yb; omega) _
    · refine (HU.out.avoid (S' := fun b => b ≠ yb ∧ b < wy.heap.size ∧ b ≠ w.heap.size + 1) hy (fun b h0 h1 h2 => ⟨h2, h1, by have h0 : wa.heap.size ≤ b := h0; omega⟩)).map (fun b hb _ => ⟨hb, set3_block hb.1⟩)
  have R0' := Lib.hid R0
  clear R0
  have HSZ := Lib.hid (show yb < wy.heap.size ∧ w.heap.size + 1 < wa.heap.size ∧ wa.heap.size ≤ yb ∧ wa.heap.size ≤ wy.heap.size from ⟨hybl, hrl, hyb, sy⟩)
  clear hy hry hb2 hy3 HU hr hb x2 hw1 Lm
  go_wp2_with fail
  go_loopw [5, 15] (fun _ i wr => ClL w yb (w.heap.size + 1) wy.heap.size t Av nv cv val kids.length i wr) (fun _ i _ => kids.length - (intOf i).toNat)
  case atStart => exact R0'.out
  case round =>
    obtain ⟨j, A, n, cc, xs, hj, rfl, hn, bw, hB, hcy, hcr, ow, hnx, rv⟩ := hrel
    subst hn
    have HNX := Lib.hid hnx
    clear hnx
    obtain ⟨z1, z2, z3, z4⟩ := HSZ.out
    by_cases hlt : n < kids.length
    · obtain ⟨x, hx⟩ : ∃ x, kids[n]? = some x := ⟨_, List.getElem?_eq_getElem hlt⟩
      obtain ⟨d', rfl, b, o, rfl, hbl, B1, m1, k1, B2, m2, k2, e0, e1, e2, q1, q2⟩ := HE.out n x hx
      have hxs := HS.out.2 x (List.mem_of_getElem? hx)
      have hk256 := HS.out.1
      have l0 := (bw.cell (p := ⟨b, o + n * 3, none⟩) hbl).trans e0
      have l1 := (bw.cell (p := ⟨b, o + n * 3 + 1, none⟩) hbl).trans e1
      have l2 := (bw.cell (p := ⟨b, o + n * 3 + 2, none⟩) hbl).trans e2
      have wi1 : IntKind.i64.wrap ((n : Int)) = (n : Int) := IntWalk.i64_in _ (by omega)
      have zi1 : (0 : Int) ≤ (n : Int) := by omega
      have li1 : (n : Int) < (kids.length : Int) := by omega
      have ti1 : ((n : Int)).toNat = n := by omega
      have ek : Ext wr (wr.alloc (.cells #[.int .i64 x.tag, .slice B1 m1 k1, .slice B2 m2 k2] 62)) := (Below.refl _ _).alloc (Nat.le_refl _) _
      have hck := C3.new wr (.int .i64 x.tag) (.slice B1 m1 k1) (.slice B2 m2 k2)
      have hxl := hcy.lt
      clear e0 e1 e2 hx
      go_wp2_with fail
      generalize wr.alloc (.cells #[.int .i64 x.tag, .slice B1 m1 k1, .slice B2 m2 k2] 62) = wk at *
      clear l0 l1 l2 b0 b1 b2 bf0 bf1 bf2 y0 y1 y2 yf0 yf1 yf2
      refine wp_region_X 5 (by kernel_rfl) (by kernel_rfl) ?_
      simp only [List.take_succ_cons, List.take_zero, List.drop_succ_cons, List.drop_zero]
      intro w1 hw1
      have LL : ∀ m : Lt w1, Ext wk m.1 := fun m => hw1.tr m.2
      have v0 : ∀ m : Lt w1, m.1.cell? ⟨yb, 2, none⟩ = some (.slice A n cc) := fun m => (hcy.ex (ek.tr (LL m))).cells.2.2.1
      have v1 : ∀ m : Lt w1, m.1.cell? ⟨wr.heap.size, 0, none⟩ = some (.int .i64 x.tag) := fun m => (hck.ex (LL m)).cells.1
      have v2 : ∀ m : Lt w1, m.1.cell? ⟨wr.heap.size, 1, none⟩ = some (.slice B1 m1 k1) := fun m => (hck.ex (LL m)).cells.2.1
      have v3 : ∀ m : Lt w1, m.1.cell? ⟨wr.heap.size, 2, none⟩ = some (.slice B2 m2 k2) := fun m => (hck.ex (LL m)).cells.2.2.1
      repeat (refine wpX_pure rfl rfl rfl rfl rfl (fun K hK => ?_); go_big_quiet_op; refine hK _ ?_; clear hK K)
      refine wpX_callHole (fun v _ => AggV v) (fun v w w' hb h => h) rfl rfl rfl rfl (by kernel_rfl) rfl rfl (fun m => (HH.out d' rfl m.1 x.tag B1 m1 k1 B2 m2 k2 x.val x.kids (q1.ext (bw.tr (ek.tr (LL m)))) hxs.1 (q2.ext (bw.tr (ek.tr (LL m)))) hxs.2).mono fun _ _ ⟨h1, v, ⟨t', a1, a2, a3, a4, a5, a6, h2, _⟩, h3⟩ => ⟨v, h3, h1, t', a1, a2, a3, a4, a5, a6, h2⟩) ?_
      simp only [Act.put, List.setIfInBounds_toArray, List.set_cons_zero, List.set_cons_succ]
      refine wpX_buildSUse 22 (fun v _ => AggV v) OneNd stable_oneNd (fun u => [(0, u)]) (fun m u hu => by
        obtain ⟨t', a1, a2, a3, a4, a5, a6, rfl⟩ := hu
        exact ⟨_, _, run_buildSliceNd m.1 t' a1 a2 a3 a4 a5 a6, (Below.refl _ _).alloc (Nat.le_refl _) _, t', a1, a2, a3, a4, a5, a6, _, rfl, RdK.lit m.1 3 #[.int .i64 t', .slice a1 a2 a3, .slice a4 a5 a6] _ 1 rfl (by unfold maxLen; omega)⟩) rfl rfl rfl (fun u => rfl) rfl rfl rfl rfl ?_
      simp only [Act.put, List.setIfInBounds_toArray, List.set_cons_zero, List.set_cons_succ]
      refine wpX_end2 (by decide) (fun m u1 u2 hu1 hu2 => ?_)
      simp only [Act.put, List.setIfInBounds_toArray, List.set_cons_zero, List.set_cons_succ]
      have Lm := LL m
      obtain ⟨wm, hwm⟩ := m
      clear LL v0 v1 v2 v3
      obtain ⟨t', a1, a2, a3, a4, a5, a6, g, rfl, R⟩ := hu2
      have em := ek.tr Lm
      have hcm' := hcy.ex em
      have hcr' := hcr.ex em
      have owm := ow.ext em
      have hrow := rowOf_geK owm
      have hyl := hcm'.lt
      obtain ⟨y0, y1, y2, yf0, yf1, yf2⟩ := hcm'.cells
      have hrlt := rowOf_ltK owm
      have sm := em.size
      have hB1 : wy.heap.size ≤ wm.heap.size := Nat.le_trans hB sm
      have rvm := rv.map (S' := fun b => b ≠ yb ∧ b < wy.heap.size ∧ b ≠ w.heap.size + 1) (fun b hb hbl => ⟨hb, em.block b hbl⟩)
      have HNX3 := HNX.out
      go_wp2_with (refine wpList_appKR (k := 3) (by decide) elemNd (n := n) (m := 1) owm HNX.out R (by rfl) (by intro u hu; simp at hu; rcases hu with rfl | rfl | rfl <;> rfl) (Below.refl _ _) (by omega) (by unfold maxLen; omega) hB1 rfl rfl rfl rfl ?_; intro A8 n8 c8 w8 hn8 o8 _ g8 h8
                   have hge8 : ∀ r, rowOf (.slice A n cc) = some r → wy.heap.size ≤ r := hrow
                   have y8 : C3 w8 yb (.int .i64 t) (.slice Av nv cv) (.slice A n cc) := (g8.block yb hyl (fun e => by have := hge8 yb e.symm; omega)).trans hcm'
                   have r8 : C3 w8 (w.heap.size + 1) (.int .i64 0) (.slice none 0 0) (.slice none 0 0) := (g8.block _ hcr'.lt (fun e => by have := hge8 _ e.symm; omega)).trans hcr'
                   have hy8 := y8.lt
                   clear y0 y1 y2 yf0 yf1 yf2
                   obtain ⟨y0, y1, y2, yf0, yf1, yf2⟩ := y8.cells)
      have e8 : Ext w w8 := ((bw.tr em).grown g8 (bw.tr em).size (fun r hr => by have := hge8 r hr; have := bw.size; omega))
      have rv8 := rvm.map (S' := fun b => b ≠ yb ∧ b < wy.heap.size ∧ b ≠ w.heap.size + 1) (w' := w8.setCell ⟨yb, 2, none⟩ (.slice A8 n8 c8)) (fun b hb hbl => ⟨hb, (setCell_block hb.1).trans (g8.block b hbl (fun e => by have := hge8 b e.symm; have := hb.2.1; omega))⟩)
      have HN8 := hn8.out
      go_roundw
      case rel =>
        refine ⟨n + 1, A8, n8, c8, xs ++ [.int .i64 t', .slice a1 a2 a3, .slice a4 a5 a6], by omega, by go_num, HN8, e8.setCell (p := ⟨yb, 2, none⟩) (by show w.heap.size ≤ yb; omega) _, by have := g8.size; simp; omega, y8.set2 _, r8.other (by omega), ?_, by rw [List.length_append, ← HNX3, HN8]; simp; omega, rv8⟩
        refine o8.grown (Gb.set yb 2 w8 (.slice A8 n8 c8)) ?_
        cases hq : rowOf (.slice A8 n8 c8) with
        | none => exact .inl rfl
        | some r => exact .inr (fun h => by have := rowOf_geK o8 r hq; injection h with h; omega)
      case measure => simp [intOf]; omega
    · obtain rfl : n = kids.length := by omega
      obtain ⟨q0, q1, q2, f0, f1, f2⟩ := hcr.cells
      obtain ⟨p0, p1, p2, pf0, pf1, pf2⟩ := hcy.cells
      have hrl' := hcr.lt
      have hyl' := hcy.lt
      clear b0 b1 b2 bf0 bf1 bf2 y0 y1 y2 yf0 yf1 yf2
      obtain ⟨w0', w1', w2', _, _, _⟩ := (hcr.set3 (.int .i64 t) (.slice Av nv cv) (.slice A kids.length cc)).cells
      have rvz := rv.map (S' := fun _ => True) (w' := Go.Proofs.YteilglpdmfiinaaDoor.set3 wr (w.heap.size + 1) (.int .i64 t) (.slice Av nv cv) (.slice A kids.length cc)) (fun b hb hbl => ⟨trivial, set3_block hb.2.2⟩)
      go_wp2
      refine bodyPost_ret (v := .agg #[.int .i64 t, .slice Av nv cv, .slice A kids.length cc]) ?_ rfl ⟨((bw.setCell (p := ⟨w.heap.size + 1, 0, none⟩) (by show w.heap.size ≤ w.heap.size + 1; omega) _).setCell (p := ⟨w.heap.size + 1, 1, none⟩) (by show w.heap.size ≤ w.heap.size + 1; omega) _).setCell (p := ⟨w.heap.size + 1, 2, none⟩) (by show w.heap.size ≤ w.heap.size + 1; omega) _, _, ⟨t, _, _, _, _, _, _, rfl, rvz.rd⟩, rfl⟩
      simp [results, Tryd.results110, go_sem, w0', w1', w2']
theorem clone_all : ∀ d, CloneOk d
  | 0 => clone_of fun d' e => by omega
  | d + 1 => clone_of fun d' e => by
      obtain rfl : d' = d := by omega
      exact clone_all _
end Go.Proofs.YteilglpdmfiinaaDoor

namespace Go.Proofs.YteilglpdmfiinaaDoor
open Go.RowKit
set_option linter.unusedVariables false
set_option maxRecDepth 100000

/-- One step of the path. -/
def stepN (ts : List Nd) (p : Int) : Option Nd := ts.find? (fun t => t.tag == p)
theorem stepN_idx {ts : List Nd} {p : Int} : stepN ts p = (idxN ts p).bind fun i => ts[i]? := find_idx
theorem findN_eq (ts : List Nd) (p : Int) (ps : List Int) : findN ts (p :: ps) = match stepN ts p with
  | none => none
  | some t => if ps = [] then some t else findN t.kids ps := rfl
theorem findN_nil (ts : List Nd) : findN ts [] = none := by cases ts <;> rfl
/-- What the cells of an object hold; its data lie in w. -/
def NdC (d : Nat) (w wr : World) (b : Nat) (f : Option Nd) : Prop := ∃ (t : Int) (A1 : Option Addr) (n1 c1 : Nat) (A2 : Option Addr) (n2 c2 : Nat), C3 wr b (.int .i64 t) (.slice A1 n1 c1) (.slice A2 n2 c2) ∧
  Rd w (.slice A1 n1 c1) (bvs (match f with | none => [] | some t => t.val)) ∧ (match f with | none => [] | some t => t.val).length ≤ 4096 ∧ NdsRd d w (.slice A2 n2 c2) (match f with | none => [] | some t => t.kids) ∧ szNs d (match f with | none => [] | some t => t.kids)
theorem Rd.s {w : World} {v : Value} {xs : List Value} (h : Rd w v xs) : RdS (fun _ => True) w v xs := by
  obtain ⟨A, n, c, h1, h2, h3, h4, h5⟩ := h
  exact ⟨A, n, c, h1, h2, h3, h4, fun h0 => by obtain ⟨b, o, q1, q2⟩ := h5 h0; exact ⟨b, o, q1, trivial, q2⟩⟩
theorem step_none {us : List Nd} {p : Int} (h : stepN us p = none) : idxV us p = -1 := by
  rw [stepN_idx] at h
  unfold idxV
  cases hi : idxN us p with
  | none => rfl
  | some i =>
    rw [hi] at h
    have hl : i < us.length := by
      unfold idxN at hi
      exact (List.findIdx?_eq_some_iff_getElem.1 hi).1
    simp [List.getElem?_eq_getElem hl] at h
theorem step_some {us : List Nd} {p : Int} {t : Nd} (h : stepN us p = some t) : ∃ i : Nat, idxV us p = (i : Int) ∧ us[i]? = some t := by
  rw [stepN_idx] at h
  unfold idxV
  cases hi : idxN us p with
  | none => rw [hi] at h; cases h
  | some i => rw [hi] at h; exact ⟨i, rfl, h⟩
theorem NdC.ext {d : Nat} {w wr w' : World} {b : Nat} {f : Option Nd} (h : NdC d w wr b f) (k : Ext wr w') : NdC d w w' b f := by
  obtain ⟨t, A1, n1, c1, A2, n2, c2, h1, h2⟩ := h
  exact ⟨t, A1, n1, c1, A2, n2, c2, h1.ex k, h2⟩
/-- Where the loop of Find stands. -/
def FiL (w : World) (ts : List Nd) (path : List Int) (fb rb : Nat) (l i : Value) (wr : World) : Prop :=
  ∃ (k d : Nat) (us : List Nd) (fd : Option Nd), k ≤ path.length ∧ i = .int .i64 (k : Int) ∧ Ext w wr ∧ NdsRd d w l us ∧ szNs d us ∧ NdC d w wr fb fd ∧ C3 wr rb (.int .i64 0) (.slice none 0 0) (.slice none 0 0) ∧
    findN ts path = (if path.drop k = [] then fd else findN us (path.drop k)) ∧ fd.isSome = decide (0 < k)
theorem findR_mk {w w' : World} {ts : List Nd} {ps : List Int} {v : Value} {b : Bool} (h : Ext w w') (hv : NdV w' (valN ts ps) v) (hb : b = (findN ts ps).isSome) : FindR w ts ps (.returned (.tuple #[v, .bool b])) w' := ⟨h, v, hv, by rw [hb]⟩
set_option maxHeartbeats 4000000 in
theorem find_any {d : Nat} {v pv : Value} {ts : List Nd} {path : List Int} (w : World) (hr : NdsRd d w v ts) (hs : szNs d ts) (hp : RdI w .i64 pv path) :
    Calls Tryd.prog 67 #[v, pv] w (FindR w ts path) := by
  obtain ⟨A, n, c, rfl, hn, hnc, hcm, _⟩ := hr.open_
  obtain ⟨PA, pn, pc, rfl, hpn, hpnc, hpcm, hpel⟩ := hp.ints
  subst hn hpn
  unfold maxLen at hcm hpcm
  have HR := Lib.hid hr
  have HP := Lib.hid hpel
  have HS := Lib.hid hs
  clear hr hp hpel hs
  obtain ⟨W2, hW2⟩ : ∃ W2, W2 = (w.alloc (.cells #[.int .i64 0, .slice none 0 0, .slice none 0 0] 62)).alloc (.cells #[.int .i64 0, .slice none 0 0, .slice none 0 0] 62) := ⟨_, rfl⟩
  have x2 : Ext w W2 := by rw [hW2]; exact ((Below.refl _ _).alloc (Nat.le_refl _) _).alloc (by simp) _
  have hrb : C3 W2 w.heap.size (.int .i64 0) (.slice none 0 0) (.slice none 0 0) := by
    rw [hW2]; exact (C3.new w _ _ _).ex ((Below.refl _ _).alloc (Nat.le_refl _) _)
  have hfb : C3 W2 (w.heap.size + 1) (.int .i64 0) (.slice none 0 0) (.slice none 0 0) := by
    have := C3.new (w.alloc (.cells #[.int .i64 0, .slice none 0 0, .slice none 0 0] 62)) (.int .i64 0) (.slice none 0 0) (.slice none 0 0)
    rw [show (w.alloc (.cells #[.int .i64 0, .slice none 0 0, .slice none 0 0] 62)).heap.size = w.heap.size + 1 by simp] at this
    rw [hW2]; exact this
  have R0 : FiL w ts path (w.heap.size + 1) w.heap.size (.slice A ts.length c) (.int .i64 0) W2 :=
    ⟨0, d, ts, none, Nat.zero_le _, rfl, x2, HR.out, HS.out, ⟨0, none, 0, 0, none, 0, 0, hfb, Rd.nil_ _, Nat.zero_le _, (by cases d with | zero => exact ⟨rfl, none, 0, rfl, by unfold maxLen; omega⟩ | succ d => exact ⟨none, 0, 0, rfl, rfl, Nat.le_refl _, by unfold maxLen; omega, fun h => absurd h (by omega)⟩), szNs_nil d⟩, hrb, by
      rw [List.drop_zero]
      cases path with
      | nil => rw [if_pos rfl, findN_nil]
      | cons p ps => rw [if_neg (by simp)], rfl⟩
  have R0' := Lib.hid R0
  obtain ⟨r, hr⟩ : ∃ r, findN ts path = r := ⟨_, rfl⟩
  have HF := Lib.hid hr
  clear R0 hr hrb hfb
  go_enter Tryd.func67, Tryd.ntmps67
  go_wp2_with fail
  rw [← hW2]
  clear hW2
  go_loopw [0, 8, 9, 12] (fun l _ _ i wr => FiL w ts path (w.heap.size + 1) w.heap.size l i wr) (fun _ _ _ i _ => path.length - (intOf i).toNat)
  case atStart => exact R0'.out
  case round =>
    obtain ⟨k, d1, us, fd, hk, rfl, bw, nu, su, nc, hrb, hF, hfd⟩ := hrel
    obtain ⟨A', n', c', rfl, hn', hnc', hcm', hel⟩ := nu.open_
    subst hn'
    unfold maxLen at hcm'
    have HF2 := Lib.hid hF
    have HFD := Lib.hid hfd
    have HNU := Lib.hid nu
    have HNC := Lib.hid nc
    have HSU := Lib.hid su
    have HEL := Lib.hid hel
    clear hF hfd nu nc su hel
    by_cases hlt : k < path.length
    · obtain ⟨pb, po, rfl, hpb, hpc⟩ := HP.out (by omega)
      have xk := (bw.cell (p := ⟨pb, po + k, none⟩) hpb).trans (hpc k hlt)
      have hgk : path.getD k 0 = path[k] := by simp [List.getD_eq_getElem?_getD, hlt]
      rw [hgk] at xk
      have hdk : path.drop k = path[k] :: path.drop (k + 1) := List.drop_eq_getElem_cons hlt
      have HDK := Lib.hid hdk
      have wi1 : IntKind.i64.wrap ((k : Int)) = (k : Int) := IntWalk.i64_in _ (by omega)
      have zi1 : (0 : Int) ≤ (k : Int) := by omega
      have li1 : (k : Int) < (path.length : Int) := by omega
      have ti1 : ((k : Int)).toNat = k := by omega
      clear hpc hgk hdk
      generalize path[k] = p at *
      have eg : Ext wr (wr.alloc (.cells #[.int .i64 p] 3)) := (Below.refl _ _).alloc (Nat.le_refl _) _
      have hg : (wr.alloc (.cells #[.int .i64 p] 3)).cell? ⟨wr.heap.size, 0, none⟩ = some (.int .i64 p) := by go_simp
      have hI := indexFn_any p wr.heap.size _ (HNU.out.ext (bw.tr eg)) hg
      have HI := Lib.hid hI
      clear hI hg
      go_wp2_with fail
      generalize wr.alloc (.cells #[.int .i64 p] 3) = wk at *
      refine HI.out.mono ?_
      rintro e wy ⟨rfl, by_⟩
      have ey := eg.tr by_
      have hrby := hrb.ex ey
      have xwy := bw.tr ey
      have HFK := Lib.hid (HF2.out.trans (by rw [HDK.out, if_neg (by simp), findN_eq]))
      obtain ⟨f0, f1, f2, f3, f4, f5, f6, hfb, _⟩ := HNC.out.ext ey
      obtain ⟨y0, y1, y2, yf0, yf1, yf2⟩ := hfb.cells
      obtain ⟨b0, b1, b2, bf0, bf1, bf2⟩ := hrby.cells
      have hfl := hfb.lt
      have hrl := hrby.lt
      cases hst : stepN us p with
      | none =>
        rw [step_none hst]
        have HN := Lib.hid (show findN ts path = none by rw [HFK.out, hst])
        clear hst
        obtain ⟨w0', w1', w2', _, _, _⟩ := (hrby.set3 (.int .i64 0) (.slice none 0 0) (.slice none 0 0)).cells
        go_wp2_with fail
        refine bodyPost_ret (v := .tuple #[.agg #[.int .i64 0, .slice none 0 0, .slice none 0 0], .bool false]) ?_ rfl (findR_mk (((xwy.setCell (p := ⟨w.heap.size, 0, none⟩) (Nat.le_refl _) _).setCell (p := ⟨w.heap.size, 1, none⟩) (Nat.le_refl _) _).setCell (p := ⟨w.heap.size, 2, none⟩) (Nat.le_refl _) _) ⟨0, none, 0, 0, none, 0, 0, rfl, by unfold valN; rw [HN.out]; exact Rd.nil_ _⟩ (by rw [HN.out]; rfl))
        simp [results, Tryd.results67, go_sem, w0', w1', w2']
      | some t =>
        obtain ⟨i, hi, hui⟩ := step_some hst
        rw [hi]
        have HN := Lib.hid (show findN ts path = if path.drop (k + 1) = [] then some t else findN t.kids (path.drop (k + 1)) by rw [HFK.out, hst])
        obtain ⟨d2, rfl, b, o, rfl, hbl, B1, m1, k1, B2, m2, k2, e0, e1, e2, q1, q2⟩ := HEL.out i t hui
        have hil := (List.getElem?_eq_some_iff.1 hui).1
        have hsz := HSU.out.2 t (List.mem_of_getElem? hui)
        have l0 := (xwy.cell (p := ⟨b, o + i * 3, none⟩) hbl).trans e0
        have l1 := (xwy.cell (p := ⟨b, o + i * 3 + 1, none⟩) hbl).trans e1
        have l2 := (xwy.cell (p := ⟨b, o + i * 3 + 2, none⟩) hbl).trans e2
        have hi0 : ¬ (i : Int) < 0 := by omega
        have HUI := Lib.hid hui
        have wi2 : IntKind.i64.wrap ((i : Int)) = (i : Int) := IntWalk.i64_in _ (by omega)
        have zi2 : (0 : Int) ≤ (i : Int) := by omega
        have li2 : (i : Int) < (us.length : Int) := by omega
        have ti2 : ((i : Int)).toNat = i := by omega
        clear hst hi hui e0 e1 e2
        go_wp2_with fail
        go_roundw
        case rel =>
          refine ⟨k + 1, d2, t.kids, some t, by omega, by go_num, ((xwy.setCell (p := ⟨w.heap.size + 1, 0, none⟩) (by show w.heap.size ≤ w.heap.size + 1; omega) _).setCell (p := ⟨w.heap.size + 1, 1, none⟩) (by show w.heap.size ≤ w.heap.size + 1; omega) _).setCell (p := ⟨w.heap.size + 1, 2, none⟩) (by show w.heap.size ≤ w.heap.size + 1; omega) _, q2, hsz.2, ⟨_, _, _, _, _, _, _, hfb.set3 _ _ _, q1, hsz.1, q2, hsz.2⟩, (set3_block (by omega)).trans hrby, HN.out, by simp⟩
        case measure => simp [intOf]; omega
    · obtain rfl : k = path.length := by omega
      have hfin : findN ts path = fd := by rw [HF2.out, List.drop_length, if_pos rfl]
      have HN := Lib.hid hfin
      obtain ⟨f0, f1, f2, f3, f4, f5, f6, hfb, g1, g2, g3, g4⟩ := HNC.out
      obtain ⟨y0, y1, y2, yf0, yf1, yf2⟩ := hfb.cells
      have hfl := hfb.lt
      have hC := clone_all d1 wr f0 f1 f2 f3 f4 f5 f6 _ _ (g1.ext bw) g2 (g3.ext bw) g4
      have HC := Lib.hid hC
      clear hC g1 g2 g3 g4 hfin
      go_wp2_with fail
      refine HC.out.mono ?_
      rintro en wz ⟨ez, v, hv, rfl⟩
      have HV := Lib.hid hv
      obtain ⟨v0, v1, v2, v3, v4, v5, v6, rfl, hvr⟩ := hv
      have hrz := hrb.ex ez
      obtain ⟨b0, b1, b2, bf0, bf1, bf2⟩ := hrz.cells
      have hrl := hrz.lt
      have xwz := bw.tr ez
      obtain ⟨w0', w1', w2', _, _, _⟩ := (hrz.set3 (.int .i64 v0) (.slice v1 v2 v3) (.slice v4 v5 v6)).cells
      have hvs := (hvr.s.avoid (S' := fun b => b ≠ w.heap.size) hrz (fun b _ _ h => h)).map (S' := fun _ => True) (w' := Go.Proofs.YteilglpdmfiinaaDoor.set3 wz w.heap.size (.int .i64 v0) (.slice v1 v2 v3) (.slice v4 v5 v6)) (fun b hb _ => ⟨trivial, set3_block hb⟩)
      have HVS := Lib.hid hvs.rd
      have HFDD := Lib.hid (HFD.out)
      clear hvr hvs
      go_wp2_with fail
      refine bodyPost_ret (v := .tuple #[.agg #[.int .i64 v0, .slice v1 v2 v3, .slice v4 v5 v6], .bool (decide (0 < path.length))]) ?_ rfl (findR_mk (((xwz.setCell (p := ⟨w.heap.size, 0, none⟩) (Nat.le_refl _) _).setCell (p := ⟨w.heap.size, 1, none⟩) (Nat.le_refl _) _).setCell (p := ⟨w.heap.size, 2, none⟩) (Nat.le_refl _) _) ⟨v0, v1, v2, v3, v4, v5, v6, rfl, by unfold valN; rw [HN.out]; exact HVS.out⟩ (by rw [HN.out, HFDD.out]))
      simp [results, Tryd.results67, go_sem, w0', w1', w2']
end Go.Proofs.YteilglpdmfiinaaDoor
