/- Parts YA YB YR Ys YP Hd Pkp FTerminalchainPaths of the proof. -/
import Derived.Test.YtkjplpmogfmhkaaGreatDoorPky
import Derived.Test.YtkjplpmogfmhkaaGreatDoorYy
import Derived.Test.YtkjplpmogfmhkaaGreatDoorPkz
import Derived.Test.YtkjplpmogfmhkaaGreatDoorPko
import Derived.BigRegion
import Derived.Deep.CutRange
import Derived.Test.YtkjplpmogfmhkaaGreatDoorP4
import Derived.Lib.SmallJoins
import Derived.OpenShut
import Derived.Test.YtkjplpmogfmhkaaGreatDoorPkv
import Derived.Deep.Fields
namespace Go.Proofs.YtkjplpmogfmhkaaGreatDoor
open Go.RowKit
set_option linter.unusedVariables false
set_option maxRecDepth 100000

theorem tcsCells_app (a b : List TC) : tcsCells a ++ tcsCells b = tcsCells (a ++ b) := by simp [tcsCells]
theorem tcsCells_one (l : List TC) : ∀ u ∈ tcsCells l, u.oneCell' = true := by
  intro u hu
  obtain ⟨c, _, h⟩ := List.mem_flatMap.1 hu
  exact tcCells_one c u h
theorem RdC.take {w : World} {A : Option Addr} {n c : Nat} {p : List TC} (h : RdC w (.slice A n c) p) (i : Nat) (hi : i ≤ p.length) : RdC w (.slice A i c) (p.take i) := by
  obtain ⟨A', n', c', e, hn, hnc, hcm, hel⟩ := h
  injection e with e1 e2 e3
  subst e1 e2 e3
  have hl := tcsCells_len p
  refine ⟨A, i, c, rfl, ?_, by omega, hcm, fun h0 => ?_⟩
  · rw [tcsCells_len, List.length_take]
    congr 1
    omega
  · obtain ⟨b, o, rfl, hc⟩ := hel (by omega)
    refine ⟨b, o, rfl, fun j u hu => hc j u ?_⟩
    have e : tcsCells p = tcsCells (p.take i) ++ tcsCells (p.drop i) := by rw [tcsCells_app, List.take_append_drop]
    rw [e, List.getElem?_append_left (List.getElem?_eq_some_iff.1 hu).1]
    exact hu
/-- The cells of a list stored in the middle of a row. -/
theorem setL_mid : ∀ (vs pre post : List Value) (w : World) (g : Nat) (cs : List Value) (T : TypeId) (fr : Nat × Nat), w.heap[g]? = some (.cells (pre ++ cs ++ post).toArray T fr) → cs.length = vs.length → (setL w g pre.length vs).heap[g]? = some (.cells (pre ++ vs ++ post).toArray T fr)
  | [], pre, post, w, g, cs, T, fr, h, hl => by
    obtain rfl : cs = [] := List.eq_nil_of_length_eq_zero hl
    exact h
  | v :: vs, pre, post, w, g, c :: cs, T, fr, h, hl => by
    have h1 := row_set h pre.length v
    have h2 : ((pre ++ c :: cs ++ post).toArray.setIfInBounds pre.length v) = ((pre ++ [v]) ++ cs ++ post).toArray := by
      rw [List.setIfInBounds_toArray]
      congr 1
      rw [List.append_assoc, List.set_append_right _ _ (Nat.le_refl _), Nat.sub_self]
      simp
    rw [h2] at h1
    have h3 := setL_mid vs (pre ++ [v]) post (w.setCell ⟨g, pre.length, none⟩ v) g cs T fr h1 (by simpa using hl)
    rw [List.length_append] at h3
    rw [List.append_assoc pre [v] vs] at h3
    exact h3
theorem setL_set (w : World) (g : Nat) {cur : List Value} {p : List TC} {rest : List Value} {T : TypeId} {fr : Nat × Nat} (h : w.heap[g]? = some (.cells cur.toArray T fr)) (hc : cur = tcsCells p ++ rest) (i : Nat) (hi : i < p.length) (x : TC) :
    (setL w g (i * 9) (tcCells x)).heap[g]? = some (.cells (tcsCells (p.set i x) ++ rest).toArray T fr) := by
  have e : p = p.take i ++ [p[i]] ++ p.drop (i + 1) := by
    rw [List.append_assoc, List.singleton_append, ← List.drop_eq_getElem_cons hi, List.take_append_drop]
  have e2 : p.set i x = p.take i ++ [x] ++ p.drop (i + 1) := by
    rw [List.set_eq_take_append_cons_drop, if_pos hi, List.append_assoc]
    rfl
  have hl : (tcsCells (p.take i)).length = i * 9 := by rw [tcsCells_len, List.length_take, Nat.min_eq_left (Nat.le_of_lt hi)]
  have one : ∀ y, tcsCells [y] = tcCells y := fun y => by simp [tcsCells]
  have h' : w.heap[g]? = some (.cells (tcsCells (p.take i) ++ tcCells p[i] ++ (tcsCells (p.drop (i + 1)) ++ rest)).toArray T fr) := by
    rw [h, hc]
    congr 3
    conv => lhs; rw [e, ← tcsCells_app, ← tcsCells_app, one]
    simp only [List.append_assoc]
  have h2 := setL_mid (tcCells x) (tcsCells (p.take i)) (tcsCells (p.drop (i + 1)) ++ rest) w g (tcCells p[i]) T fr h' rfl
  rw [hl] at h2
  rw [h2, e2, ← tcsCells_app, ← tcsCells_app, one]
  simp only [List.append_assoc]
theorem setL_below {w : World} {g B : Nat} (hB : B ≤ g) : ∀ (vs : List Value) (i : Nat) (w' : World), Below B w w' → Below B w (setL w' g i vs)
  | [], i, w', h => h
  | v :: vs, i, w', h => setL_below hB vs (i + 1) _ (h.setCell (p := ⟨g, i, none⟩) hB v)
/-- Two certificates exchanged. -/
def swapC (p : List TC) (i k : Nat) (x y : TC) : List TC := (p.set i y).set k x
theorem swap_mem {p : List TC} {i k : Nat} {x y c : TC} (hx : x ∈ p) (hy : y ∈ p) (h : c ∈ swapC p i k x y) : c ∈ p := by
  rcases List.mem_or_eq_of_mem_set h with h | rfl
  · rcases List.mem_or_eq_of_mem_set h with h | rfl
    · exact h
    · exact hy
  · exact hx
theorem swap_len (p : List TC) (i k : Nat) (x y : TC) : (swapC p i k x y).length = p.length := by simp [swapC]
end Go.Proofs.YtkjplpmogfmhkaaGreatDoor

namespace Go.Proofs.YtkjplpmogfmhkaaGreatDoor
open Go.RowKit
set_option linter.unusedVariables false
set_option maxRecDepth 100000

/-- What the law asks of a path that is accepted. -/
structure RiP (t : TR) (p : List TC) (au : List UInt8) : Prop where
  ok : startB t au = true
  first : bits .andNot .i64 (pathO t p).2.1.rights (startC t au).rights = 0
  each : ∀ (i : Nat) (x : TC), p[i]? = some x → bits .andNot .i64 (pathO t p).2.1.rights x.rights = 0
  day0 : ∀ x, p[0]? = some x → t.dt ≤ x.to
  days : ∀ (i : Nat) (x : TC), p[i]? = some x → i ≠ 0 → (pathO t (p.take i)).2.2 = 0 ∧ (pathO t (p.take i)).1.dt ≤ x.to
theorem rights_plain {t : TR} {x : TC} {l : List TC} (h : (pathO t (x :: l)).2.2 = 0) : RiP t (x :: l) x.au := by
  obtain ⟨f, hs, h4, h1, h2⟩ := path_rights h
  obtain ⟨e1, e2⟩ := startB_eq hs
  refine ⟨e2, by rw [e1]; exact andNot_sub h1, fun i y hy => ?_, fun y hy => ?_, fun i y hy h0 => ?_⟩
  · obtain ⟨hi, rfl⟩ := List.getElem?_eq_some_iff.1 hy
    exact andNot_sub (h2 i hi).1
  · obtain ⟨hi, rfl⟩ := List.getElem?_eq_some_iff.1 hy
    exact (h2 0 hi).2.1 rfl
  · obtain ⟨hi, rfl⟩ := List.getElem?_eq_some_iff.1 hy
    exact (h2 i hi).2.2 h0
end Go.Proofs.YtkjplpmogfmhkaaGreatDoor

namespace Go.Proofs.YtkjplpmogfmhkaaGreatDoor
open Go.RowKit
set_option linter.unusedVariables false
set_option maxRecDepth 100000

/-- Where the law stands: its trust's block, its certificates. -/
structure RiZ (w wr : World) (g : Nat) (t : TR) (A : Option Addr) (n c : Nat) (lv : Value) (p : List TC) : Prop where
  tz : TrAt wr g A n c t.dt
  s : SafeK wr 0 139 5 (.slice A n c) (tpsCells t.ps)
  rc : RdC wr lv p
  ext : Ext w wr
theorem RiZ.tr {w wr wx : World} {g : Nat} {t : TR} {A : Option Addr} {n c : Nat} {lv : Value} {p : List TC} (h : RiZ w wr g t A n c lv p) (e : Ext wr wx) : RiZ w wx g t A n c lv p := ⟨h.tz.ext e, h.s.ext e, h.rc.ext e, h.ext.tr e⟩
theorem RiZ.v {w wr : World} {g : Nat} {t : TR} {A : Option Addr} {n c : Nat} {lv : Value} {p : List TC} (h : RiZ w wr g t A n c lv p) : TrS wr 0 (.agg #[.slice A n c, .int .i64 t.dt]) t := ⟨A, n, c, rfl, h.s⟩
set_option maxHeartbeats 8000000 in
theorem rights_any {v1 v2 : Value} {l m : List Int} (w : World) (h1 : RdI w .i64 v1 l) (h2 : RdI w .i64 v2 m) (hw1 : ∀ x ∈ l, wf64 x) (hw2 : ∀ x ∈ m, wf64 x) (E : Env w) :
    Calls Tryz.prog 6 #[v1, v2] w (RetQ w (.bool true)) := by
  have HA := Lib.hid (fun W (e : Ext w W) => awake26_any W (E.ext e))
  have HL1 := Lib.hid (mlight_any w h1)
  have HL2 := Lib.hid (mlight_any w h2)
  have HT := Lib.hid (fun (q : l.length ≤ 80) => trust26_any w h1 hw1 (by omega))
  have HP := Lib.hid (fun (q : m.length ≤ 80) W (e : Ext w W) => path_any W (h2.ext e) hw2 (by omega) (E.ext e).r)
  have HPA := Lib.hid (fun (t : TR) (p : List TC) (v lv : Value) W (e : Ext w W) (hv : TrR W v t) (hp : RdC W lv p) (hs : smR t.ps) (hx : ∀ x ∈ p, smT x) (hl : t.ps.length ≤ 1000000000000) => path26_any t p W hv hp hs hx hl (E.ext e).d)
  have HS := Lib.hid (fun (u : TR) (v : Value) (h : List UInt8) W (hu : TrR W v u) (hs : smR u.ps) => start_any u h W hu hs)
  clear E h1 h2 hw1 hw2
  go_enter Tryz.func6, Tryz.ntmps6
  go_wp2_with fail
  refine (HL1.out).mono ?_
  rintro e w' ⟨rfl, rfl⟩
  by_cases a1 : l.length ≤ 80
  case neg =>
    rw [decide_eq_false a1]
    go_wp2_with fail
    refine (HA.out _ (Below.refl _ _)).mono ?_
    rintro e w3 ⟨rfl, b3⟩
    go_wp2_with fail
    go_ret
    exact ⟨rfl, b3⟩
  rw [decide_eq_true a1]
  have HT := Lib.hid (HT.out a1)
  clear a1
  go_wp2_with fail
  refine (HL2.out).mono ?_
  rintro e w' ⟨rfl, rfl⟩
  by_cases a2 : m.length ≤ 80
  case neg =>
    rw [decide_eq_false a2]
    go_wp2_with fail
    refine (HA.out _ (Below.refl _ _)).mono ?_
    rintro e w3 ⟨rfl, b3⟩
    go_wp2_with fail
    go_ret
    exact ⟨rfl, b3⟩
  rw [decide_eq_true a2]
  have HP := Lib.hid (fun W e => HP.out a2 W e)
  clear a2 HL1 HL2
  go_wp2_with fail
  refine (HT.out).mono ?_
  rintro e w1 ⟨b1, t, A, n, c, rfl, s1, hs, ht2⟩
  have HSM := Lib.hid hs
  have HLL := Lib.hid (show t.ps.length ≤ 1000000000000 by omega)
  obtain ⟨wa, hwa, ea, Ta⟩ := tr_alloc w1 A n c t.dt
  have xa := b1.tr ea
  have sa := s1.ext ea
  have hg5 : w.heap.size ≤ w1.heap.size := b1.size
  clear HT b1 ea s1 hs ht2
  go_wp2_with fail
  rw [← hwa]
  clear hwa
  refine (HP.out _ xa).mono ?_
  rintro e w2 ⟨b2, Al, nl, cl, p, rfl, o2, hn, p1, p4, hv⟩
  have hn : nl = p.length := hn
  subst hn
  have HXM := Lib.hid (fun (x : TC) (hx : x ∈ p) => (sm_of (hv x hx).1 : smT x))
  have hrd : RdC w2 (.slice Al p.length cl) p := o2.rd
  have Z2 : RiZ w w2 w1.heap.size t A n c (.slice Al p.length cl) p := ⟨Ta.ext b2, sa.ext b2, hrd, xa.tr b2⟩
  clear HP b2 o2 hv Ta sa xa hrd
  generalize w1.heap.size = g5 at *
  obtain ⟨t0, t1⟩ := Z2.tz.cells
  go_wp2_with fail
  refine (HPA.out t p _ _ _ Z2.ext Z2.v.tr Z2.rc HSM.out HXM.out HLL.out).mono ?_
  rintro e w3 ⟨b3, A3, n3, m3, rfl, s3⟩
  have Z3 := Z2.tr b3
  have HDT := Lib.hid (path_dt t p)
  have HBD := Lib.hid (path_bad t p)
  have HRI := Lib.hid (fun (x : TC) (l : List TC) (q : p = x :: l) (h : (pathO t p).2.2 = 0) => (by subst q; exact rights_plain h : RiP t p x.au))
  clear Z2 b3 s3 t0 t1
  unfold chV
  obtain ⟨we, hwe, ee, Te⟩ := tr_alloc w3 A3 n3 m3 (pathO t p).1.dt
  obtain ⟨wf, hwf, ef, Cf⟩ := ch_alloc we (pathO t p).2.1
  have se : we.heap.size = w3.heap.size + 1 := by subst hwe; exact Array.size_push _
  rw [se] at Cf
  have Tf := Te.ext ef
  have Z4 := (Z3.tr ee).tr ef
  clear Te Z3 ee ef se
  obtain ⟨t0, t1⟩ := Z4.tz.cells
  obtain ⟨u0, u1⟩ := Tf.cells
  have HCP := Lib.hid (fun i x => RiP.each (t := t) (p := p) (i := i) (x := x) (au := x.au))
  clear HCP
  generalize hrt : (pathO t p).1 = rt at *
  generalize hrc : (pathO t p).2.1 = rc at *
  generalize hrk : (pathO t p).2.2 = rk at *
  have HRC := Lib.hid hrc
  have HRK := Lib.hid hrk
  have hdt : ¬ rt.dt < t.dt := by have := HDT.out; omega
  clear hrt hrc hrk
  go_upto_region 6 with fail
  rw [← hwe, ← hwf]
  clear hwe hwf
  generalize w3.heap.size + 1 = j1 at *
  generalize w3.heap.size = j2 at *
  by_cases h0 : rk = 0
  case neg =>
    have hb : (rk != 0) = true := by simpa using h0
    obtain rfl : rc = zeroC := HBD.out h0
    obtain ⟨r0, r1, r2, r3, r4, r5⟩ := Cf.cells0
    have X4 := Lib.hid Z4.ext
    clear Cf Tf Z4 h0
    go_wp2_with fail
    refine (HA.out _ X4.out).mono ?_
    rintro e w5 ⟨rfl, b5⟩
    have X5 := Lib.hid (X4.out.tr b5)
    go_wp2_with fail
    go_ret
    exact ⟨rfl, X5.out⟩
  obtain rfl : rk = 0 := h0
  obtain ⟨x, ps, rfl⟩ : ∃ x ps, p = x :: ps := by
    cases p with
    | nil => exact absurd p1 (by simp)
    | cons x l => exact ⟨x, l, rfl⟩
  have RI := HRI.out x ps rfl rfl
  obtain ⟨Al', nl', cl', e9, hn9, hnc, hcm, hel⟩ := Z4.rc.at_
  injection e9 with e1 e2 e3
  subst e1 e2 e3
  clear hn9
  unfold maxLen at hcm
  obtain ⟨bl, ol, rfl, hbl, hcl⟩ := hel (by simp)
  obtain ⟨e0, _⟩ := hcl 0 x rfl
  rw [Nat.zero_mul, Nat.add_zero] at e0
  have HCL := Lib.hid hcl
  have i0 : (0 : Int) < ((x :: ps).length : Int) := by simp
  have i0' : 0 < (x :: ps).length := by simp
  clear hcl hel HRI HBD
  have HRI := Lib.hid RI
  clear RI
  generalize hlen : (x :: ps).length = len at *
  have HLN := Lib.hid hlen
  clear hlen
  go_wp2_with fail
  refine Gt.wp_region_X (r := RG chT (fun k => wf.heap.size ≤ k)) 11 (by kernel_rfl) (by kernel_rfl) ?_
  simp only [List.take_succ_cons, List.take_zero, List.drop_succ_cons, List.drop_zero]
  intro wq hw1
  have LR : ∀ m : (RG chT (fun k => wf.heap.size ≤ k)).Lt wq, RgS chT (fun k => wf.heap.size ≤ k) wf m.1 := fun m => RgS.tr hw1 m.2
  have LB : ∀ m : (RG chT (fun k => wf.heap.size ≤ k)).Lt wq, Ext wf m.1 := fun m => (LR m).below (fun _ h => h) (Nat.le_refl _)
  have LE : ∀ m : (RG chT (fun k => wf.heap.size ≤ k)).Lt wq, Ext w m.1 := fun m => Z4.ext.tr (LB m)
  have TT := fun m : (RG chT (fun k => wf.heap.size ≤ k)).Lt wq => Z4.tz.ext (LB m)
  have g0 := fun m => (TT m).cells.1
  have g1 := fun m => (TT m).cells.2
  have k0 := fun m : (RG chT (fun k => wf.heap.size ≤ k)).Lt wq => ((LB m).cell (p := ⟨bl, ol, none⟩) hbl).trans e0
  repeat (refine Gt.wpX_pure (by first | exact trivial | exact ⟨_, rfl, rfl, rfl⟩) rfl rfl rfl rfl rfl (fun K hK => ?_); go_big_quiet_op; refine hK _ ?_; clear hK K)
  refine Gt.wpX_callFn (by first | exact trivial | exact ⟨_, rfl, rfl, rfl⟩) (.tuple #[chV (startC t x.au), .bool (startB t x.au)]) (args := [.agg #[.slice A n c, .int .i64 t.dt], .string (bstr x.au)]) rfl rfl rfl rfl (by kernel_rfl) rfl rfl (fun m => (HS.out t _ x.au m.1 (Z4.v.tr.ext (LB m)) HSM.out)) ?_
  simp only [Act.put, List.setIfInBounds_toArray, List.set_cons_zero, List.set_cons_succ]
  repeat (refine Gt.wpX_pure (by first | exact trivial | exact ⟨_, rfl, rfl, rfl⟩) rfl rfl rfl rfl rfl (fun K hK => ?_); go_big_quiet_op; refine hK _ ?_; clear hK K)
  refine Gt.wpX_allocCh wf.heap.size (fun m => (LB m).size) (stable_GChB _ _ _) (by first | exact trivial | exact ⟨_, rfl, rfl, rfl⟩) rfl rfl rfl rfl ?_
  simp only [Act.put, List.setIfInBounds_toArray, List.set_cons_zero, List.set_cons_succ]
  refine Gt.wpX_store (by first | exact trivial | exact ⟨_, rfl, rfl, rfl⟩) (GChQ wf.heap.size (startC t x.au)) (fun f => f 10) (fun _ => chV (startC t x.au)) rfl rfl rfl rfl rfl (fun _ => rfl) (fun _ => rfl) GChQ.ext GChQ.st (fun m f hf => ?_) ?_
  · obtain ⟨g, e7, hg, bg⟩ := hf 10 _ rfl rfl
    rw [e7]
    obtain ⟨w9, q1, q2, q3⟩ := ch_store bg (startC t x.au)
    exact ⟨w9, q1, ⟨List.mem_cons_self, q3 _ hg⟩, g, rfl, hg, q2⟩
  refine Gt.wpX_endL (fun m f hf hqs => ?_)
  have hq1 : GChQ wf.heap.size (startC t x.au) (f 10) m.1 := hqs _ List.mem_cons_self
  obtain ⟨g7, e7, hg7, Q7⟩ := hq1
  simp only [fillH]
  simp only [Act.put, List.setIfInBounds_toArray, List.set_cons_zero, List.set_cons_succ]
  rw [e7]
  have Lm := LB m
  obtain ⟨wm, hwm⟩ := m
  have Lm : Ext wf wm := Lm
  have Q7 : ChAt wm g7 (startC t x.au) := Q7
  have PM := Z4.tr Lm
  have C8 := Cf.ext Lm
  have hl5 := PM.tz.lt
  clear LR LB LE TT g0 g1 k0 hf hqs e7 Z4 Tf Cf t0 t1 u0 u1 e0 HCL hbl Lm
  show wpList _ _ _ _ _ _
  have hsb : startB t x.au = true := HRI.out.ok
  rw [hsb]
  have hr7 : bits .andNot .i64 rc.rights (startC t x.au).rights = 0 := by have := HRI.out.first; rwa [HRC.out] at this
  clear hsb
  generalize startC t x.au = c0 at *
  obtain ⟨r0, r1, r2, r3, r4, r5⟩ := C8.cells
  obtain ⟨d0, d1, d2, d3, d4, d5⟩ := Q7.cells
  go_wp2_with fail
  obtain ⟨Al', nl', cl', e9, hn9, hnc9, hcm9, hel⟩ := PM.rc.at_
  injection e9 with e1 e2 e3
  subst e3
  obtain ⟨bl', ol', e4, hbl, hcl⟩ := hel (by rw [← e2]; exact i0')
  rw [← e1] at e4
  injection e4 with e4
  injection e4 with e5 e6 e7
  subst e5 e6
  have HCL := Lib.hid hcl
  have HPM := Lib.hid PM
  have HC8 := Lib.hid C8
  clear hcl hel e1 e2 e7 hn9 hnc9 hcm9 PM C8 Q7 r0 r1 r2 r3 r4 r5 d0 d1 d2 d3 d4 d5
  go_loopw [12] (fun i wr => ∃ k : Nat, k ≤ len ∧ i = .int .i64 (k : Int) ∧ Ext wm wr) (fun i _ => len - (intOf i).toNat)
  case atStart => exact ⟨0, Nat.zero_le _, rfl, Below.refl _ _⟩
  case round =>
    obtain ⟨k, hk, rfl, X⟩ := hrel
    by_cases hlt : k < len
    case neg =>
      obtain rfl : k = len := by omega
      have HX := Lib.hid (HPM.out.ext.tr X)
      clear X
      go_wp2_with fail
      refine (HA.out _ HX.out).mono ?_
      rintro e w5 ⟨rfl, b5⟩
      have HX5 := Lib.hid (HX.out.tr b5)
      go_wp2_with fail
      go_ret
      exact ⟨rfl, HX5.out⟩
    case pos =>
    obtain ⟨y, hy⟩ : ∃ y, (x :: ps)[k]? = some y := ⟨_, List.getElem?_eq_getElem (by rw [HLN.out]; exact hlt)⟩
    have HY := Lib.hid hy
    clear hy
    have hkc : (k : Int) ≤ (cl : Int) := by omega
    have hkc' : k ≤ cl := by omega
    have wi1 : IntKind.i64.wrap ((k : Int)) = (k : Int) := IntWalk.i64_in _ (by omega)
    have zi1 : (0 : Int) ≤ (k : Int) := by omega
    have li1 : (k : Int) < (len : Int) := by omega
    have ti1 : ((k : Int)).toNat = k := by omega
    go_wp2_with fail
    refine Gt.wp_region_X (r := RG resT (fun k => wr.heap.size ≤ k)) 13 (by kernel_rfl) (by kernel_rfl) ?_
    simp only [List.take_succ_cons, List.take_zero, List.drop_succ_cons, List.drop_zero]
    intro wq hw1
    have LR : ∀ m : (RG resT (fun k => wr.heap.size ≤ k)).Lt wq, RgS resT (fun k => wr.heap.size ≤ k) wr m.1 := fun m => RgS.tr hw1 m.2
    have LB : ∀ m : (RG resT (fun k => wr.heap.size ≤ k)).Lt wq, Ext wr m.1 := fun m => (LR m).below (fun _ h => h) (Nat.le_refl _)
    have LM : ∀ m : (RG resT (fun k => wr.heap.size ≤ k)).Lt wq, Ext wm m.1 := fun m => X.tr (LB m)
    have LE : ∀ m : (RG resT (fun k => wr.heap.size ≤ k)).Lt wq, Ext w m.1 := fun m => HPM.out.ext.tr (LM m)
    have hGB : ∀ k, wr.heap.size ≤ k → 0 ≤ k := fun k h => Nat.zero_le _
    have TT := fun m : (RG resT (fun k => wr.heap.size ≤ k)).Lt wq => HPM.out.tz.ext (LM m)
    have g0 := fun m => (TT m).cells.1
    have g1 := fun m => (TT m).cells.2
    repeat (refine Gt.wpX_pure (by first | exact trivial | exact ⟨_, rfl, rfl, rfl⟩) rfl rfl rfl rfl rfl (fun K hK => ?_); go_big_quiet_op; refine hK _ ?_; clear hK K)
    refine Gt.wpX_callF (by first | exact trivial | exact ⟨_, rfl, rfl, rfl⟩) (GIm 0 (pathO t ((x :: ps).take k)).1 (pathO t ((x :: ps).take k)).2.1 (pathO t ((x :: ps).take k)).2.2) (stable_GIm hGB _ _ _) (fun f => [.agg #[.slice A n c, .int .i64 t.dt], .slice (some ⟨bl, ol, none⟩) k cl]) rfl rfl rfl rfl rfl (by kernel_rfl) rfl (fun _ => rfl) (fun m f hf => ?_) ?_
    · exact (HPA.out t ((x :: ps).take k) _ _ m.1 (LE m) (HPM.out.v.tr.ext (LM m)) ((HPM.out.rc.take k (by rw [HLN.out]; omega)).ext (LM m)) HSM.out (fun z hz => HXM.out z (List.mem_of_mem_take hz)) HLL.out).mono fun _ _ h => ImpR.gim h (Nat.le_refl _)
    simp only [Act.put, List.setIfInBounds_toArray, List.set_cons_zero, List.set_cons_succ]
    refine Gt.wpX_moveL (by first | exact trivial | exact ⟨_, rfl, rfl, rfl⟩) (GIm 0 (pathO t ((x :: ps).take k)).1 (pathO t ((x :: ps).take k)).2.1 (pathO t ((x :: ps).take k)).2.2) (stable_GIm hGB _ _ _) (fun f => f 79) rfl rfl rfl rfl rfl (fun _ => rfl) (fun m f hf => hf 79 _ rfl rfl) ?_
    simp only [Act.put, List.setIfInBounds_toArray, List.set_cons_zero, List.set_cons_succ]
    refine Gt.wpX_extL (by first | exact trivial | exact ⟨_, rfl, rfl, rfl⟩) (GTs 0 ((pathO t ((x :: ps).take k)).1).ps ((pathO t ((x :: ps).take k)).1).dt) (stable_GTs _ hGB _ _) (fun f => f 74) rfl rfl rfl rfl rfl (fun _ => rfl) (fun m f hf => by obtain ⟨A1, n1, c1, h1, h2⟩ := hf 74 _ rfl rfl; rw [h1]; exact ⟨_, _, (run_ext3 _ _ _ _).1, Below.refl _ _, A1, n1, c1, rfl, h2⟩) ?_
    simp only [Act.put, List.setIfInBounds_toArray, List.set_cons_zero, List.set_cons_succ]
    refine Gt.wpX_extL (by first | exact trivial | exact ⟨_, rfl, rfl, rfl⟩) (fun v _ => v = chV (pathO t ((x :: ps).take k)).2.1) (Gt.Rl.stable_eq _ _) (fun f => f 74) rfl rfl rfl rfl rfl (fun _ => rfl) (fun m f hf => by obtain ⟨A1, n1, c1, h1, h2⟩ := hf 74 _ rfl rfl; rw [h1]; exact ⟨_, _, (run_ext3 _ _ _ _).2.1, Below.refl _ _, rfl⟩) ?_
    simp only [Act.put, List.setIfInBounds_toArray, List.set_cons_zero, List.set_cons_succ]
    refine Gt.wpX_extL (by first | exact trivial | exact ⟨_, rfl, rfl, rfl⟩) (fun v _ => v = .int .i64 (pathO t ((x :: ps).take k)).2.2) (Gt.Rl.stable_eq _ _) (fun f => f 74) rfl rfl rfl rfl rfl (fun _ => rfl) (fun m f hf => by obtain ⟨A1, n1, c1, h1, h2⟩ := hf 74 _ rfl rfl; rw [h1]; exact ⟨_, _, (run_ext3 _ _ _ _).2.2, Below.refl _ _, rfl⟩) ?_
    simp only [Act.put, List.setIfInBounds_toArray, List.set_cons_zero, List.set_cons_succ]
    refine Gt.wpX_allocTr wr.heap.size (fun m => (LB m).size) (stable_GTrB _ _ _) (by first | exact trivial | exact ⟨_, rfl, rfl, rfl⟩) rfl rfl rfl rfl ?_
    simp only [Act.put, List.setIfInBounds_toArray, List.set_cons_zero, List.set_cons_succ]
    refine Gt.wpX_allocCh wr.heap.size (fun m => (LB m).size) (stable_GChB _ _ _) (by first | exact trivial | exact ⟨_, rfl, rfl, rfl⟩) rfl rfl rfl rfl ?_
    simp only [Act.put, List.setIfInBounds_toArray, List.set_cons_zero, List.set_cons_succ]
    refine Gt.wpX_store (by first | exact trivial | exact ⟨_, rfl, rfl, rfl⟩) (GTrQ wr.heap.size 0 (pathO t ((x :: ps).take k)).1) (fun f => f 13) (fun f => f 80) rfl rfl rfl rfl rfl (fun _ => rfl) (fun _ => rfl) GTrQ.ext (GTrQ.st hGB) (fun m f hf => ?_) ?_
    · obtain ⟨g, e9, hg, bg⟩ := hf 13 _ rfl rfl
      obtain ⟨A1, n1, c1, e5, s5⟩ := hf 80 _ rfl rfl
      rw [e9, e5]
      obtain ⟨w9, q1, q2, q3⟩ := tr_store bg A1 n1 c1 ((pathO t ((x :: ps).take k)).1).dt
      exact ⟨w9, q1, ⟨tr_resT, q3 _ hg⟩, g, A1, n1, c1, rfl, hg, q2, s5.rg1 tp_ne_tr hGB (q3 (fun k => wr.heap.size ≤ k) hg)⟩
    refine Gt.wpX_store (by first | exact trivial | exact ⟨_, rfl, rfl, rfl⟩) (GChQ wr.heap.size (pathO t ((x :: ps).take k)).2.1) (fun f => f 14) (fun f => f 81) rfl rfl rfl rfl rfl (fun _ => rfl) (fun _ => rfl) GChQ.ext GChQ.st (fun m f hf => ?_) ?_
    · obtain ⟨g, e9, hg, bg⟩ := hf 14 _ rfl rfl
      have e5 : f 81 = chV (pathO t ((x :: ps).take k)).2.1 := hf 81 _ rfl rfl
      rw [e9, e5]
      obtain ⟨w9, q1, q2, q3⟩ := ch_store bg (pathO t ((x :: ps).take k)).2.1
      exact ⟨w9, q1, ⟨ch_resT, q3 _ hg⟩, g, rfl, hg, q2⟩
    refine Gt.wpX_endF rfl (fun m f hf hqs => ?_)
    have hq2 : GChQ wr.heap.size (pathO t ((x :: ps).take k)).2.1 (f 14) m.1 := hqs _ List.mem_cons_self
    have hq1 : GTrQ wr.heap.size 0 (pathO t ((x :: ps).take k)).1 (f 13) m.1 := hqs _ (List.mem_cons_of_mem _ List.mem_cons_self)
    have hk2 : f 82 = .int .i64 (pathO t ((x :: ps).take k)).2.2 := hf 82 _ rfl
    obtain ⟨ga, Aa, na, ca, ea, hga, Ta, Sa⟩ := hq1
    obtain ⟨gb, eb, hgb, Qb⟩ := hq2
    simp only [fillH]
    simp only [Act.put, List.setIfInBounds_toArray, List.set_cons_zero, List.set_cons_succ]
    rw [ea, eb, hk2]
    clear hqs hf ea eb hk2
    generalize f 79 = f79 at *
    generalize f 74 = f74 at *
    generalize f 80 = f80 at *
    generalize f 81 = f81 at *
    clear f
    have LMm := LM m
    have LRm := LB m
    obtain ⟨wx, hwx⟩ := m
    have XX : Ext wm wx := LMm
    have Ta1 : TrAt wx ga Aa na ca (pathO t ((x :: ps).take k)).1.dt := Ta
    have hgw : wm.heap.size ≤ ga := Nat.le_trans X.size hga
    clear LR LB LM LE hGB TT g0 g1 hga hgb Ta Sa Qb LMm LRm X hw1
    show wpList _ _ _ _ _ _
    generalize (pathO t ((x :: ps).take k)).2.1 = tc9 at *
    by_cases hk0 : k = 0
    · have hb0 : ((k : Int) == 0) = true := by simp [hk0]
      have hd1 : ¬ y.to < t.dt := by have := HRI.out.day0 y (by rw [← hk0]; exact HY.out); omega
      have hd2 : bits .andNot .i64 rc.rights y.rights = 0 := by have := HRI.out.each k y HY.out; rwa [HRC.out] at this
      clear hk0
      obtain ⟨wn, hwn⟩ : ∃ wn, wn = (wx.setCell ⟨ga, 0, none⟩ (.slice A n c)).setCell ⟨ga, 1, none⟩ (.int .i64 t.dt) := ⟨_, rfl⟩
      have Tn : TrAt wn ga A n c t.dt := by rw [hwn]; exact Ta1.setPs.setDt t.dt
      have Xn : Ext wm wn := by rw [hwn]; exact ext_set (ext_set XX hgw) hgw
      obtain ⟨t0, t1⟩ := (HPM.out.tz.ext XX).cells
      obtain ⟨u0, u1⟩ := Ta1.cells
      have uf0 := Ta1.frozen 0
      have uf1 := Ta1.frozen 1
      have ul := Ta1.lt
      go_upto_region 19 with fail
      rw [← hwn]
      clear hwn t0 t1 u0 u1 uf0 uf1 ul Ta1 XX
      refine Gd.wp_region_X 23 (by kernel_rfl) (by kernel_rfl) ?_
      simp only [List.take_succ_cons, List.take_zero, List.drop_succ_cons, List.drop_zero]
      intro wq hw1
      have LL : ∀ m : Lt wq, Ext wm m.1 := fun m => (Xn.tr hw1).tr m.2
      have LN : ∀ m : Lt wq, Ext wn m.1 := fun m => hw1.tr m.2
      have g1 := fun m : Lt wq => (Tn.ext (LN m)).cells.2
      have g3 := fun m : Lt wq => (HC8.out.ext (LL m)).cells.2.2.2.1
      have l4 := fun m : Lt wq => ((LL m).cell (p := ⟨bl, ol + k * 9 + 4, none⟩) hbl).trans (HCL.out k y HY.out).2.2.2.2.1
      have l6 := fun m : Lt wq => ((LL m).cell (p := ⟨bl, ol + k * 9 + 6, none⟩) hbl).trans (HCL.out k y HY.out).2.2.2.2.2.2.1
      repeat (refine Gd.wpX_pure (by first | exact trivial | exact ⟨_, rfl, rfl, rfl⟩) rfl rfl rfl rfl rfl (fun K hK => ?_); go_big_quiet_op; refine hK _ ?_; clear hK K)
      refine Gd.wpX_end0 (fun m => ?_)
      have Lm := LL m
      obtain ⟨wz, hwz⟩ := m
      have Lm : Ext wm wz := Lm
      clear LL LN g1 g3 l4 l6 Tn Xn hw1
      show wpList _ _ _ _ _ _
      go_wp2_with fail
      go_roundw
      case rel => exact ⟨k + 1, by omega, by go_num, Lm⟩
      case measure => simp [intOf]; omega
    · have hb0 : ((k : Int) == 0) = false := by simpa using hk0
      obtain ⟨q1, q2⟩ := HRI.out.days k y HY.out hk0
      have hd1 : ¬ y.to < (pathO t ((x :: ps).take k)).1.dt := by omega
      have hd2 : bits .andNot .i64 rc.rights y.rights = 0 := by have := HRI.out.each k y HY.out; rwa [HRC.out] at this
      rw [q1]
      clear hk0 q1 q2
      have Tn := Ta1
      have Xn := XX
      clear Ta1 XX
      generalize (pathO t ((x :: ps).take k)).1 = rn at *
      go_upto_region 19 with fail
      refine Gd.wp_region_X 23 (by kernel_rfl) (by kernel_rfl) ?_
      simp only [List.take_succ_cons, List.take_zero, List.drop_succ_cons, List.drop_zero]
      intro wq hw1
      have LL : ∀ m : Lt wq, Ext wm m.1 := fun m => (Xn.tr hw1).tr m.2
      have LN : ∀ m : Lt wq, Ext wx m.1 := fun m => hw1.tr m.2
      have g1 := fun m : Lt wq => (Tn.ext (LN m)).cells.2
      have g3 := fun m : Lt wq => (HC8.out.ext (LL m)).cells.2.2.2.1
      have l4 := fun m : Lt wq => ((LL m).cell (p := ⟨bl, ol + k * 9 + 4, none⟩) hbl).trans (HCL.out k y HY.out).2.2.2.2.1
      have l6 := fun m : Lt wq => ((LL m).cell (p := ⟨bl, ol + k * 9 + 6, none⟩) hbl).trans (HCL.out k y HY.out).2.2.2.2.2.2.1
      repeat (refine Gd.wpX_pure (by first | exact trivial | exact ⟨_, rfl, rfl, rfl⟩) rfl rfl rfl rfl rfl (fun K hK => ?_); go_big_quiet_op; refine hK _ ?_; clear hK K)
      refine Gd.wpX_end0 (fun m => ?_)
      have Lm := LL m
      obtain ⟨wz, hwz⟩ := m
      have Lm : Ext wm wz := Lm
      clear LL LN g1 g3 l4 l6 Tn Xn hw1
      show wpList _ _ _ _ _ _
      go_wp2_with fail
      go_roundw
      case rel => exact ⟨k + 1, by omega, by go_num, Lm⟩
      case measure => simp [intOf]; omega
end Go.Proofs.YtkjplpmogfmhkaaGreatDoor

namespace Go.Proofs.YtkjplpmogfmhkaaGreatDoor
open Go.RowKit
set_option linter.unusedVariables false
set_option maxRecDepth 100000

/-- Where same stands: its trust's block. -/
structure SmZ (w wr : World) (g : Nat) (t : TR) (A : Option Addr) (n c : Nat) : Prop where
  tz : TrAt wr g A n c t.dt
  s : SafeK wr w.heap.size 139 5 (.slice A n c) (tpsCells t.ps)
  ext : Ext w wr
theorem SmZ.tr {w wr wx : World} {g : Nat} {t : TR} {A : Option Addr} {n c : Nat} (h : SmZ w wr g t A n c) (e : Ext wr wx) : SmZ w wx g t A n c := ⟨h.tz.ext e, h.s.ext e, h.ext.tr e⟩
theorem SmZ.v {w wr : World} {g : Nat} {t : TR} {A : Option Addr} {n c : Nat} (h : SmZ w wr g t A n c) : TrS wr w.heap.size (.agg #[.slice A n c, .int .i64 t.dt]) t := ⟨A, n, c, rfl, h.s⟩
theorem imp_sm {t : TR} {b : CH} {x : TC} (hs : smR t.ps) (hx : smT x) : smR (impT t b x).ps := by
  unfold impT
  split
  · exact hs
  · exact learn_sm hs hx
theorem imp_len {t : TR} {b : CH} {x : TC} (h : t.ps.length ≤ 1000000000000) : (impT t b x).ps.length ≤ 1000000000000 := by
  unfold impT
  by_cases h0 : exK t b x = 0
  · rw [if_neg (not_not_intro h0)]
    exact learn_len (exK_zero h0).1
  · rw [if_pos h0]
    exact h
set_option maxHeartbeats 8000000 in
theorem same26_any {v lv : Value} (t : TR) (p : List TC) (w : World) (hv : TrR w v t) (hp : RdC w lv p) (hs : smR t.ps) (hx : ∀ x ∈ p, smT x) (hl : t.ps.length ≤ 1000000000000) (E : Env w) :
    Calls Tryz.prog 29 #[v, lv] w (RetQ w (.bool true)) := by
  have HPA := Lib.hid (fun W (e : Ext w W) => path26_any t p W (hv.ext e) (hp.ext e) hs hx hl (E.ext e).d)
  have HPB := Lib.hid (fun W (e : Ext w W) => refpath26_any t p W (hv.ext e) (hp.ext e) hs hx hl (E.ext e).r)
  have HS := Lib.hid (fun (u : TR) (v : Value) (h : List UInt8) W (hu : TrR W v u) (hs : smR u.ps) => refstart26_any u h W hu hs)
  have HI := Lib.hid (fun (u : TR) (v : Value) (b : CH) (x : TC) W (e : Ext w W) (hu : TrR W v u) (hs : smR u.ps) (hx : smT x) (hl : u.ps.length ≤ 1000000000000) => import_any u b x W hu hs hx hl (E.ext e).d)
  have HJ := Lib.hid (fun (u : TR) (v : Value) (b : CH) (x : TC) W (e : Ext w W) (hu : TrS W w.heap.size v u) (hs : smR u.ps) (hx : smT x) (hl : u.ps.length ≤ 1000000000000) => refimport_any u b x W e.size hu hs hx hl (E.ext e).r)
  have HSA := Lib.hid (fun (u : TR) (v1 v2 : Value) W (h1 : TrR W v1 u) (h2 : TrR W v2 u) => same25_any u W h1 h2)
  have HSM := Lib.hid hs
  have HXM := Lib.hid hx
  have HLL := Lib.hid hl
  have hvs := hv.safe (Nat.le_refl _)
  obtain ⟨A, n, c, rfl, hr⟩ := hvs
  obtain ⟨Al, nl, cl, rfl, hn, hnc, hcm, hel⟩ := hp.at_
  subst hn
  have HEL := Lib.hid hel
  unfold maxLen at hcm
  obtain ⟨wa, hwa, ea, Ta⟩ := tr_alloc w A n c t.dt
  have Z0 : SmZ w wa w.heap.size t A n c := ⟨Ta, hr.ext ea, ea⟩
  clear hr hs hx hl hel hp hv ea Ta E
  subst hwa
  obtain ⟨t0, t1⟩ := Z0.tz.cells
  go_enter Tryz.func29, Tryz.ntmps29
  go_wp2_with fail
  refine (HPA.out _ Z0.ext).mono ?_
  rintro e w2 ⟨b2, A2, n2, m2, rfl, s2⟩
  have R2 : TrR w2 (.agg #[.slice A2 n2 m2, .int .i64 (pathO t p).1.dt]) (pathO t p).1 := ⟨_, _, _, rfl, s2.rd⟩
  have Z2 := Z0.tr b2
  clear HPA Z0 b2 s2 t0 t1
  unfold chV
  obtain ⟨we, hwe, ee, Te⟩ := tr_alloc w2 A2 n2 m2 (pathO t p).1.dt
  obtain ⟨wf, hwf, ef, Cf⟩ := ch_alloc we (pathO t p).2.1
  have se : we.heap.size = w2.heap.size + 1 := by subst hwe; exact Array.size_push _
  rw [se] at Cf
  have Tf := Te.ext ef
  have R3 := (R2.ext ee).ext ef
  have Z3 := (Z2.tr ee).tr ef
  clear Te Z2 R2 ee ef se
  subst hwf
  subst hwe
  obtain ⟨t0, t1⟩ := Z3.tz.cells
  go_wp2_with fail
  refine (HPB.out _ Z3.ext).mono ?_
  rintro e w4 ⟨b4, A4, n4, m4, rfl, s4⟩
  have R4 : TrR w4 (.agg #[.slice A4 n4 m4, .int .i64 (pathO t p).1.dt]) (pathO t p).1 := ⟨_, _, _, rfl, s4.rd⟩
  have Z4 := Z3.tr b4
  have T4 := Tf.ext b4
  have C4 := Cf.ext b4
  have Q4 := R3.ext b4
  clear HPB Z3 b4 s4 t0 t1 Tf Cf R3
  unfold chV
  obtain ⟨we, hwe, ee, Te⟩ := tr_alloc w4 A4 n4 m4 (pathO t p).1.dt
  obtain ⟨wf, hwf, ef, Cf⟩ := ch_alloc we (pathO t p).2.1
  have se : we.heap.size = w4.heap.size + 1 := by subst hwe; exact Array.size_push _
  rw [se] at Cf
  have Tf := Te.ext ef
  have R5 := (R4.ext ee).ext ef
  have Q5 := (Q4.ext ee).ext ef
  have Z5 := (Z4.tr ee).tr ef
  have T5 := (T4.ext ee).ext ef
  have C5 := (C4.ext ee).ext ef
  have HSB := Lib.hid (fun W (e : Ext wf W) => HSA.out (pathO t p).1 _ _ W (Q5.ext e) (R5.ext e))
  clear Te Z4 R4 Q4 R5 Q5 T4 C4 ee ef se
  subst hwf
  subst hwe
  obtain ⟨t0, t1⟩ := T5.cells
  obtain ⟨u0, u1⟩ := Tf.cells
  obtain ⟨r0, r1, r2, r3, r4, r5⟩ := C5.cells
  obtain ⟨d0, d1, d2, d3, d4, d5⟩ := Cf.cells
  clear T5 Tf C5 Cf
  generalize (pathO t p).1 = rt at *
  generalize (pathO t p).2.1 = rc at *
  generalize (pathO t p).2.2 = rk at *
  go_wp2_with fail
  refine (HSB.out _ (Below.refl _ _)).mono ?_
  rintro e w6 ⟨rfl, b6⟩
  have P2 := Z5.tr b6
  clear HSB Z5 b6 t0 t1 u0 u1 r0 r1 r2 r3 r4 r5 d0 d1 d2 d3 d4 d5
  generalize w4.heap.size + 1 = j1 at *
  generalize w4.heap.size = j2 at *
  generalize w2.heap.size + 1 = j3 at *
  generalize w2.heap.size = j4 at *
  by_cases h0 : p.length = 0
  · have hb : ((p.length : Int) == 0) = true := by simp [h0]
    have HX := Lib.hid P2.ext
    clear P2 h0
    go_wp2_with fail
    go_ret
    exact ⟨rfl, HX.out⟩
  have hb : ((p.length : Int) == 0) = false := beq_false_of_ne (by omega)
  obtain ⟨x, l, rfl⟩ : ∃ x l, p = x :: l := by
    cases p with
    | nil => exact absurd rfl h0
    | cons x l => exact ⟨x, l, rfl⟩
  obtain ⟨bl, ol, rfl, hbl, hcl⟩ := HEL.out (by omega)
  obtain ⟨e0, _⟩ := hcl 0 x rfl
  rw [Nat.zero_mul, Nat.add_zero] at e0
  have HCL := Lib.hid hcl
  have i0 : (0 : Int) < ((x :: l).length : Int) := by omega
  have i0' : 0 < (x :: l).length := by omega
  clear hcl h0
  generalize hlen : (x :: l).length = len at *
  have HLN := Lib.hid hlen
  clear hlen
  go_wp2_with fail
  refine Gt.wp_region_X (r := RG chT (fun k => w6.heap.size ≤ k)) 11 (by kernel_rfl) (by kernel_rfl) ?_
  simp only [List.take_succ_cons, List.take_zero, List.drop_succ_cons, List.drop_zero]
  intro wq hw1
  have LR : ∀ m : (RG chT (fun k => w6.heap.size ≤ k)).Lt wq, RgS chT (fun k => w6.heap.size ≤ k) w6 m.1 := fun m => RgS.tr hw1 m.2
  have LB : ∀ m : (RG chT (fun k => w6.heap.size ≤ k)).Lt wq, Ext w6 m.1 := fun m => (LR m).below (fun _ h => h) (Nat.le_refl _)
  have LE : ∀ m : (RG chT (fun k => w6.heap.size ≤ k)).Lt wq, Ext w m.1 := fun m => P2.ext.tr (LB m)
  have TT := fun m : (RG chT (fun k => w6.heap.size ≤ k)).Lt wq => P2.tz.ext (LB m)
  have g0 := fun m => (TT m).cells.1
  have g1 := fun m => (TT m).cells.2
  have k0 := fun m : (RG chT (fun k => w6.heap.size ≤ k)).Lt wq => ((LE m).cell (p := ⟨bl, ol, none⟩) hbl).trans e0
  repeat (refine Gt.wpX_pure (by first | exact trivial | exact ⟨_, rfl, rfl, rfl⟩) rfl rfl rfl rfl rfl (fun K hK => ?_); go_big_quiet_op; refine hK _ ?_; clear hK K)
  refine Gt.wpX_callFn (by first | exact trivial | exact ⟨_, rfl, rfl, rfl⟩) (.tuple #[chV (startC t x.au), .bool (startB t x.au)]) (args := [.agg #[.slice A n c, .int .i64 t.dt], .string (bstr x.au)]) rfl rfl rfl rfl (by kernel_rfl) rfl rfl (fun m => (HS.out t _ x.au m.1 (P2.v.tr.ext (LB m)) HSM.out)) ?_
  simp only [Act.put, List.setIfInBounds_toArray, List.set_cons_zero, List.set_cons_succ]
  repeat (refine Gt.wpX_pure (by first | exact trivial | exact ⟨_, rfl, rfl, rfl⟩) rfl rfl rfl rfl rfl (fun K hK => ?_); go_big_quiet_op; refine hK _ ?_; clear hK K)
  refine Gt.wpX_allocCh w6.heap.size (fun m => (LB m).size) (stable_GChB _ _ _) (by first | exact trivial | exact ⟨_, rfl, rfl, rfl⟩) rfl rfl rfl rfl ?_
  simp only [Act.put, List.setIfInBounds_toArray, List.set_cons_zero, List.set_cons_succ]
  refine Gt.wpX_store (by first | exact trivial | exact ⟨_, rfl, rfl, rfl⟩) (GChQ w6.heap.size (startC t x.au)) (fun f => f 11) (fun _ => chV (startC t x.au)) rfl rfl rfl rfl rfl (fun _ => rfl) (fun _ => rfl) GChQ.ext GChQ.st (fun m f hf => ?_) ?_
  · obtain ⟨g, e7, hg, bg⟩ := hf 11 _ rfl rfl
    rw [e7]
    obtain ⟨w9, q1, q2, q3⟩ := ch_store bg (startC t x.au)
    exact ⟨w9, q1, ⟨List.mem_cons_self, q3 _ hg⟩, g, rfl, hg, q2⟩
  refine Gt.wpX_endL (fun m f hf hqs => ?_)
  have hq1 : GChQ w6.heap.size (startC t x.au) (f 11) m.1 := hqs _ List.mem_cons_self
  obtain ⟨g7, e7, hg7, Q7⟩ := hq1
  simp only [fillH]
  simp only [Act.put, List.setIfInBounds_toArray, List.set_cons_zero, List.set_cons_succ]
  rw [e7]
  have Lm := LB m
  obtain ⟨wm, hwm⟩ := m
  have Lm : Ext w6 wm := Lm
  have Q7 : ChAt wm g7 (startC t x.au) := Q7
  have PM := P2.tr Lm
  have hg8 : w.heap.size < g7 := by have := P2.tz.lt; omega
  have HG8 := Lib.hid hg8
  clear LR LB LE TT g0 g1 k0 hf hqs e7 P2 hg7 hg8 e0
  show wpList _ _ _ _ _ _
  obtain ⟨sb, hsb⟩ : ∃ b, startB t x.au = b := ⟨_, rfl⟩
  rw [hsb]
  have HSB := Lib.hid hsb
  clear hsb
  generalize startC t x.au = c0 at *
  go_wp2_with fail
  go_loopw [13] (fun i wr => ∃ (k : Nat) (tk : TR) (ck : CH) (Ak : Option Addr) (nk cck : Nat), k ≤ len ∧ i = .int .i64 (k : Int) ∧ SmZ w wr w.heap.size tk Ak nk cck ∧ ChAt wr g7 ck ∧ Hid (smR tk.ps) ∧ Hid (tk.ps.length ≤ 1000000000000)) (fun i _ => len - (intOf i).toNat)
  case atStart => exact ⟨0, t, c0, A, n, c, Nat.zero_le _, rfl, PM, Q7, HSM, HLL⟩
  case round =>
    clear PM Q7
    obtain ⟨k, tk, ck, Ak, nk, cck, hk, rfl, Z, QK, HSK, HLK⟩ := hrel
    by_cases hlt : k < len
    case neg =>
      obtain rfl : k = len := by omega
      have HX := Lib.hid Z.ext
      clear Z QK
      go_wp2_with fail
      go_ret
      exact ⟨rfl, HX.out⟩
    case pos =>
    cases sb
    · have HX := Lib.hid Z.ext
      clear Z QK
      go_wp2_with fail
      go_ret
      exact ⟨rfl, HX.out⟩
    obtain ⟨y, hy⟩ : ∃ y, (x :: l)[k]? = some y := ⟨_, List.getElem?_eq_getElem (by rw [HLN.out]; exact hlt)⟩
    have HSY := Lib.hid (HXM.out y (List.mem_of_getElem? hy))
    have HY := Lib.hid hy
    clear hy
    have wi1 : IntKind.i64.wrap ((k : Int)) = (k : Int) := IntWalk.i64_in _ (by omega)
    have zi1 : (0 : Int) ≤ (k : Int) := by omega
    have li1 : (k : Int) < (len : Int) := by omega
    have ti1 : ((k : Int)).toNat = k := by omega
    go_wp2_with fail
    refine Gt.wp_region_X (r := RG resT (fun k => wr.heap.size ≤ k)) 15 (by kernel_rfl) (by kernel_rfl) ?_
    simp only [List.take_succ_cons, List.take_zero, List.drop_succ_cons, List.drop_zero]
    intro wq hw1
    have LR : ∀ m : (RG resT (fun k => wr.heap.size ≤ k)).Lt wq, RgS resT (fun k => wr.heap.size ≤ k) wr m.1 := fun m => RgS.tr hw1 m.2
    have LB : ∀ m : (RG resT (fun k => wr.heap.size ≤ k)).Lt wq, Ext wr m.1 := fun m => (LR m).below (fun _ h => h) (Nat.le_refl _)
    have LE : ∀ m : (RG resT (fun k => wr.heap.size ≤ k)).Lt wq, Ext w m.1 := fun m => Z.ext.tr (LB m)
    have hGB : ∀ k, wr.heap.size ≤ k → w.heap.size ≤ k := fun k h => Nat.le_trans Z.ext.size h
    have TT := fun m : (RG resT (fun k => wr.heap.size ≤ k)).Lt wq => Z.tz.ext (LB m)
    have TQ : ∀ m : (RG resT (fun k => wr.heap.size ≤ k)).Lt wq, ChAt m.1 g7 ck := fun m => QK.ext (LB m)
    have g0 := fun m => (TT m).cells.1
    have g1 := fun m => (TT m).cells.2
    have kb0 := fun m => (TQ m).cells.1
    have kb1 := fun m => (TQ m).cells.2.1
    have kb2 := fun m => (TQ m).cells.2.2.1
    have kb3 := fun m => (TQ m).cells.2.2.2.1
    have kb4 := fun m => (TQ m).cells.2.2.2.2.1
    have kb5 := fun m => (TQ m).cells.2.2.2.2.2
    have l0 := fun m : (RG resT (fun k => wr.heap.size ≤ k)).Lt wq => ((LE m).cell (p := ⟨bl, ol + k * 9, none⟩) hbl).trans (HCL.out k y HY.out).1
    have l1 := fun m : (RG resT (fun k => wr.heap.size ≤ k)).Lt wq => ((LE m).cell (p := ⟨bl, ol + k * 9 + 1, none⟩) hbl).trans (HCL.out k y HY.out).2.1
    have l2 := fun m : (RG resT (fun k => wr.heap.size ≤ k)).Lt wq => ((LE m).cell (p := ⟨bl, ol + k * 9 + 2, none⟩) hbl).trans (HCL.out k y HY.out).2.2.1
    have l3 := fun m : (RG resT (fun k => wr.heap.size ≤ k)).Lt wq => ((LE m).cell (p := ⟨bl, ol + k * 9 + 3, none⟩) hbl).trans (HCL.out k y HY.out).2.2.2.1
    have l4 := fun m : (RG resT (fun k => wr.heap.size ≤ k)).Lt wq => ((LE m).cell (p := ⟨bl, ol + k * 9 + 4, none⟩) hbl).trans (HCL.out k y HY.out).2.2.2.2.1
    have l5 := fun m : (RG resT (fun k => wr.heap.size ≤ k)).Lt wq => ((LE m).cell (p := ⟨bl, ol + k * 9 + 5, none⟩) hbl).trans (HCL.out k y HY.out).2.2.2.2.2.1
    have l6 := fun m : (RG resT (fun k => wr.heap.size ≤ k)).Lt wq => ((LE m).cell (p := ⟨bl, ol + k * 9 + 6, none⟩) hbl).trans (HCL.out k y HY.out).2.2.2.2.2.2.1
    have l7 := fun m : (RG resT (fun k => wr.heap.size ≤ k)).Lt wq => ((LE m).cell (p := ⟨bl, ol + k * 9 + 7, none⟩) hbl).trans (HCL.out k y HY.out).2.2.2.2.2.2.2.1
    have l8 := fun m : (RG resT (fun k => wr.heap.size ≤ k)).Lt wq => ((LE m).cell (p := ⟨bl, ol + k * 9 + 8, none⟩) hbl).trans (HCL.out k y HY.out).2.2.2.2.2.2.2.2
    repeat (refine Gt.wpX_pure (by first | exact trivial | exact ⟨_, rfl, rfl, rfl⟩) rfl rfl rfl rfl rfl (fun K hK => ?_); go_big_quiet_op; refine hK _ ?_; clear hK K)
    refine Gt.wpX_callF (by first | exact trivial | exact ⟨_, rfl, rfl, rfl⟩) (GIm w.heap.size (impT tk ck y) (impC tk ck y) (exK tk ck y)) (stable_GIm hGB _ _ _) (fun f => [.agg #[.slice Ak nk cck, .int .i64 tk.dt], chV ck, tcV y]) rfl rfl rfl rfl rfl (by kernel_rfl) rfl (fun _ => rfl) (fun m f hf => ?_) ?_
    · exact (HI.out tk _ ck y m.1 (LE m) (Z.v.tr.ext (LB m)) HSK.out HSY.out HLK.out).mono fun _ _ h => ImpR.gim h (Nat.zero_le _)
    simp only [Act.put, List.setIfInBounds_toArray, List.set_cons_zero, List.set_cons_succ]
    refine Gt.wpX_moveL (by first | exact trivial | exact ⟨_, rfl, rfl, rfl⟩) (GIm w.heap.size (impT tk ck y) (impC tk ck y) (exK tk ck y)) (stable_GIm hGB _ _ _) (fun f => f 76) rfl rfl rfl rfl rfl (fun _ => rfl) (fun m f hf => hf 76 _ rfl rfl) ?_
    simp only [Act.put, List.setIfInBounds_toArray, List.set_cons_zero, List.set_cons_succ]
    refine Gt.wpX_extL (by first | exact trivial | exact ⟨_, rfl, rfl, rfl⟩) (GTs w.heap.size ((impT tk ck y)).ps ((impT tk ck y)).dt) (stable_GTs _ hGB _ _) (fun f => f 69) rfl rfl rfl rfl rfl (fun _ => rfl) (fun m f hf => by obtain ⟨A1, n1, c1, h1, h2⟩ := hf 69 _ rfl rfl; rw [h1]; exact ⟨_, _, (run_ext3 _ _ _ _).1, Below.refl _ _, A1, n1, c1, rfl, h2⟩) ?_
    simp only [Act.put, List.setIfInBounds_toArray, List.set_cons_zero, List.set_cons_succ]
    refine Gt.wpX_extL (by first | exact trivial | exact ⟨_, rfl, rfl, rfl⟩) (fun v _ => v = chV (impC tk ck y)) (Gt.Rl.stable_eq _ _) (fun f => f 69) rfl rfl rfl rfl rfl (fun _ => rfl) (fun m f hf => by obtain ⟨A1, n1, c1, h1, h2⟩ := hf 69 _ rfl rfl; rw [h1]; exact ⟨_, _, (run_ext3 _ _ _ _).2.1, Below.refl _ _, rfl⟩) ?_
    simp only [Act.put, List.setIfInBounds_toArray, List.set_cons_zero, List.set_cons_succ]
    refine Gt.wpX_extL (by first | exact trivial | exact ⟨_, rfl, rfl, rfl⟩) (fun v _ => v = .int .i64 (exK tk ck y)) (Gt.Rl.stable_eq _ _) (fun f => f 69) rfl rfl rfl rfl rfl (fun _ => rfl) (fun m f hf => by obtain ⟨A1, n1, c1, h1, h2⟩ := hf 69 _ rfl rfl; rw [h1]; exact ⟨_, _, (run_ext3 _ _ _ _).2.2, Below.refl _ _, rfl⟩) ?_
    simp only [Act.put, List.setIfInBounds_toArray, List.set_cons_zero, List.set_cons_succ]
    refine Gt.wpX_allocTr wr.heap.size (fun m => (LB m).size) (stable_GTrB _ _ _) (by first | exact trivial | exact ⟨_, rfl, rfl, rfl⟩) rfl rfl rfl rfl ?_
    simp only [Act.put, List.setIfInBounds_toArray, List.set_cons_zero, List.set_cons_succ]
    refine Gt.wpX_allocCh wr.heap.size (fun m => (LB m).size) (stable_GChB _ _ _) (by first | exact trivial | exact ⟨_, rfl, rfl, rfl⟩) rfl rfl rfl rfl ?_
    simp only [Act.put, List.setIfInBounds_toArray, List.set_cons_zero, List.set_cons_succ]
    refine Gt.wpX_store (by first | exact trivial | exact ⟨_, rfl, rfl, rfl⟩) (GTrQ wr.heap.size w.heap.size (impT tk ck y)) (fun f => f 14) (fun f => f 77) rfl rfl rfl rfl rfl (fun _ => rfl) (fun _ => rfl) GTrQ.ext (GTrQ.st hGB) (fun m f hf => ?_) ?_
    · obtain ⟨g, e9, hg, bg⟩ := hf 14 _ rfl rfl
      obtain ⟨A1, n1, c1, e5, s5⟩ := hf 77 _ rfl rfl
      rw [e9, e5]
      obtain ⟨w9, q1, q2, q3⟩ := tr_store bg A1 n1 c1 ((impT tk ck y)).dt
      exact ⟨w9, q1, ⟨tr_resT, q3 _ hg⟩, g, A1, n1, c1, rfl, hg, q2, s5.rg1 tp_ne_tr hGB (q3 (fun k => wr.heap.size ≤ k) hg)⟩
    refine Gt.wpX_store (by first | exact trivial | exact ⟨_, rfl, rfl, rfl⟩) (GChQ wr.heap.size (impC tk ck y)) (fun f => f 15) (fun f => f 78) rfl rfl rfl rfl rfl (fun _ => rfl) (fun _ => rfl) GChQ.ext GChQ.st (fun m f hf => ?_) ?_
    · obtain ⟨g, e9, hg, bg⟩ := hf 15 _ rfl rfl
      have e5 : f 78 = chV (impC tk ck y) := hf 78 _ rfl rfl
      rw [e9, e5]
      obtain ⟨w9, q1, q2, q3⟩ := ch_store bg (impC tk ck y)
      exact ⟨w9, q1, ⟨ch_resT, q3 _ hg⟩, g, rfl, hg, q2⟩
    refine Gt.wpX_endF rfl (fun m f hf hqs => ?_)
    have hq2 : GChQ wr.heap.size (impC tk ck y) (f 15) m.1 := hqs _ List.mem_cons_self
    have hq1 : GTrQ wr.heap.size w.heap.size (impT tk ck y) (f 14) m.1 := hqs _ (List.mem_cons_of_mem _ List.mem_cons_self)
    have hk2 : f 79 = .int .i64 (exK tk ck y) := hf 79 _ rfl
    obtain ⟨ga, Aa, na, ca, ea, hga, Ta, Sa⟩ := hq1
    obtain ⟨gb, eb, hgb, Qb⟩ := hq2
    simp only [fillH]
    simp only [Act.put, List.setIfInBounds_toArray, List.set_cons_zero, List.set_cons_succ]
    rw [ea, eb, hk2]
    clear hqs hf ea eb hk2
    generalize f 76 = f76 at *
    generalize f 69 = f69 at *
    generalize f 77 = f77 at *
    generalize f 78 = f78 at *
    clear f
    have Lm := LB m
    obtain ⟨wm, hwm⟩ := m
    have Lm : Ext wr wm := Lm
    have ZM := Z.tr Lm
    have QM := QK.ext Lm
    have Ta1 : TrAt wm ga Aa na ca (impT tk ck y).dt := Ta
    have Sa1 : SafeK wm w.heap.size 139 5 (.slice Aa na ca) (tpsCells (impT tk ck y).ps) := Sa
    have Qb1 : ChAt wm gb (impC tk ck y) := Qb
    clear LR LB LE hGB TT TQ g0 g1 kb0 kb1 kb2 kb3 kb4 kb5 l0 l1 l2 l3 l4 l5 l6 l7 l8 Z QK hga hgb Ta Sa Qb Lm
    show wpList _ _ _ _ _ _
    go_wp2_with fail
    refine Gt.wp_region_X (r := RG resT (fun k => wm.heap.size ≤ k)) 15 (by kernel_rfl) (by kernel_rfl) ?_
    simp only [List.take_succ_cons, List.take_zero, List.drop_succ_cons, List.drop_zero]
    intro wq hw1
    have LR : ∀ m : (RG resT (fun k => wm.heap.size ≤ k)).Lt wq, RgS resT (fun k => wm.heap.size ≤ k) wm m.1 := fun m => RgS.tr hw1 m.2
    have LB : ∀ m : (RG resT (fun k => wm.heap.size ≤ k)).Lt wq, Ext wm m.1 := fun m => (LR m).below (fun _ h => h) (Nat.le_refl _)
    have LE : ∀ m : (RG resT (fun k => wm.heap.size ≤ k)).Lt wq, Ext w m.1 := fun m => ZM.ext.tr (LB m)
    have hGB : ∀ k, wm.heap.size ≤ k → w.heap.size ≤ k := fun k h => Nat.le_trans ZM.ext.size h
    have TT := fun m : (RG resT (fun k => wm.heap.size ≤ k)).Lt wq => ZM.tz.ext (LB m)
    have TQ : ∀ m : (RG resT (fun k => wm.heap.size ≤ k)).Lt wq, ChAt m.1 g7 ck := fun m => QM.ext (LB m)
    have g0 := fun m => (TT m).cells.1
    have g1 := fun m => (TT m).cells.2
    have kb0 := fun m => (TQ m).cells.1
    have kb1 := fun m => (TQ m).cells.2.1
    have kb2 := fun m => (TQ m).cells.2.2.1
    have kb3 := fun m => (TQ m).cells.2.2.2.1
    have kb4 := fun m => (TQ m).cells.2.2.2.2.1
    have kb5 := fun m => (TQ m).cells.2.2.2.2.2
    have l0 := fun m : (RG resT (fun k => wm.heap.size ≤ k)).Lt wq => ((LE m).cell (p := ⟨bl, ol + k * 9, none⟩) hbl).trans (HCL.out k y HY.out).1
    have l1 := fun m : (RG resT (fun k => wm.heap.size ≤ k)).Lt wq => ((LE m).cell (p := ⟨bl, ol + k * 9 + 1, none⟩) hbl).trans (HCL.out k y HY.out).2.1
    have l2 := fun m : (RG resT (fun k => wm.heap.size ≤ k)).Lt wq => ((LE m).cell (p := ⟨bl, ol + k * 9 + 2, none⟩) hbl).trans (HCL.out k y HY.out).2.2.1
    have l3 := fun m : (RG resT (fun k => wm.heap.size ≤ k)).Lt wq => ((LE m).cell (p := ⟨bl, ol + k * 9 + 3, none⟩) hbl).trans (HCL.out k y HY.out).2.2.2.1
    have l4 := fun m : (RG resT (fun k => wm.heap.size ≤ k)).Lt wq => ((LE m).cell (p := ⟨bl, ol + k * 9 + 4, none⟩) hbl).trans (HCL.out k y HY.out).2.2.2.2.1
    have l5 := fun m : (RG resT (fun k => wm.heap.size ≤ k)).Lt wq => ((LE m).cell (p := ⟨bl, ol + k * 9 + 5, none⟩) hbl).trans (HCL.out k y HY.out).2.2.2.2.2.1
    have l6 := fun m : (RG resT (fun k => wm.heap.size ≤ k)).Lt wq => ((LE m).cell (p := ⟨bl, ol + k * 9 + 6, none⟩) hbl).trans (HCL.out k y HY.out).2.2.2.2.2.2.1
    have l7 := fun m : (RG resT (fun k => wm.heap.size ≤ k)).Lt wq => ((LE m).cell (p := ⟨bl, ol + k * 9 + 7, none⟩) hbl).trans (HCL.out k y HY.out).2.2.2.2.2.2.2.1
    have l8 := fun m : (RG resT (fun k => wm.heap.size ≤ k)).Lt wq => ((LE m).cell (p := ⟨bl, ol + k * 9 + 8, none⟩) hbl).trans (HCL.out k y HY.out).2.2.2.2.2.2.2.2
    repeat (refine Gt.wpX_pure (by first | exact trivial | exact ⟨_, rfl, rfl, rfl⟩) rfl rfl rfl rfl rfl (fun K hK => ?_); go_big_quiet_op; refine hK _ ?_; clear hK K)
    refine Gt.wpX_callF (by first | exact trivial | exact ⟨_, rfl, rfl, rfl⟩) (GIm w.heap.size (impT tk ck y) (impC tk ck y) (exK tk ck y)) (stable_GIm hGB _ _ _) (fun f => [.agg #[.slice Ak nk cck, .int .i64 tk.dt], chV ck, tcV y]) rfl rfl rfl rfl rfl (by kernel_rfl) rfl (fun _ => rfl) (fun m f hf => ?_) ?_
    · exact (HJ.out tk _ ck y m.1 (LE m) (ZM.v.ext (LB m)) HSK.out HSY.out HLK.out).mono fun _ _ h => ImpR.gim h (Nat.le_refl _)
    simp only [Act.put, List.setIfInBounds_toArray, List.set_cons_zero, List.set_cons_succ]
    refine Gt.wpX_moveL (by first | exact trivial | exact ⟨_, rfl, rfl, rfl⟩) (GIm w.heap.size (impT tk ck y) (impC tk ck y) (exK tk ck y)) (stable_GIm hGB _ _ _) (fun f => f 87) rfl rfl rfl rfl rfl (fun _ => rfl) (fun m f hf => hf 87 _ rfl rfl) ?_
    simp only [Act.put, List.setIfInBounds_toArray, List.set_cons_zero, List.set_cons_succ]
    refine Gt.wpX_extL (by first | exact trivial | exact ⟨_, rfl, rfl, rfl⟩) (GTs w.heap.size ((impT tk ck y)).ps ((impT tk ck y)).dt) (stable_GTs _ hGB _ _) (fun f => f 80) rfl rfl rfl rfl rfl (fun _ => rfl) (fun m f hf => by obtain ⟨A1, n1, c1, h1, h2⟩ := hf 80 _ rfl rfl; rw [h1]; exact ⟨_, _, (run_ext3 _ _ _ _).1, Below.refl _ _, A1, n1, c1, rfl, h2⟩) ?_
    simp only [Act.put, List.setIfInBounds_toArray, List.set_cons_zero, List.set_cons_succ]
    refine Gt.wpX_extL (by first | exact trivial | exact ⟨_, rfl, rfl, rfl⟩) (fun v _ => v = chV (impC tk ck y)) (Gt.Rl.stable_eq _ _) (fun f => f 80) rfl rfl rfl rfl rfl (fun _ => rfl) (fun m f hf => by obtain ⟨A1, n1, c1, h1, h2⟩ := hf 80 _ rfl rfl; rw [h1]; exact ⟨_, _, (run_ext3 _ _ _ _).2.1, Below.refl _ _, rfl⟩) ?_
    simp only [Act.put, List.setIfInBounds_toArray, List.set_cons_zero, List.set_cons_succ]
    refine Gt.wpX_extL (by first | exact trivial | exact ⟨_, rfl, rfl, rfl⟩) (fun v _ => v = .int .i64 (exK tk ck y)) (Gt.Rl.stable_eq _ _) (fun f => f 80) rfl rfl rfl rfl rfl (fun _ => rfl) (fun m f hf => by obtain ⟨A1, n1, c1, h1, h2⟩ := hf 80 _ rfl rfl; rw [h1]; exact ⟨_, _, (run_ext3 _ _ _ _).2.2, Below.refl _ _, rfl⟩) ?_
    simp only [Act.put, List.setIfInBounds_toArray, List.set_cons_zero, List.set_cons_succ]
    refine Gt.wpX_allocTr wm.heap.size (fun m => (LB m).size) (stable_GTrB _ _ _) (by first | exact trivial | exact ⟨_, rfl, rfl, rfl⟩) rfl rfl rfl rfl ?_
    simp only [Act.put, List.setIfInBounds_toArray, List.set_cons_zero, List.set_cons_succ]
    refine Gt.wpX_allocCh wm.heap.size (fun m => (LB m).size) (stable_GChB _ _ _) (by first | exact trivial | exact ⟨_, rfl, rfl, rfl⟩) rfl rfl rfl rfl ?_
    simp only [Act.put, List.setIfInBounds_toArray, List.set_cons_zero, List.set_cons_succ]
    refine Gt.wpX_store (by first | exact trivial | exact ⟨_, rfl, rfl, rfl⟩) (GTrQ wm.heap.size w.heap.size (impT tk ck y)) (fun f => f 17) (fun f => f 88) rfl rfl rfl rfl rfl (fun _ => rfl) (fun _ => rfl) GTrQ.ext (GTrQ.st hGB) (fun m f hf => ?_) ?_
    · obtain ⟨g, e9, hg, bg⟩ := hf 17 _ rfl rfl
      obtain ⟨A1, n1, c1, e5, s5⟩ := hf 88 _ rfl rfl
      rw [e9, e5]
      obtain ⟨w9, q1, q2, q3⟩ := tr_store bg A1 n1 c1 ((impT tk ck y)).dt
      exact ⟨w9, q1, ⟨tr_resT, q3 _ hg⟩, g, A1, n1, c1, rfl, hg, q2, s5.rg1 tp_ne_tr hGB (q3 (fun k => wm.heap.size ≤ k) hg)⟩
    refine Gt.wpX_store (by first | exact trivial | exact ⟨_, rfl, rfl, rfl⟩) (GChQ wm.heap.size (impC tk ck y)) (fun f => f 18) (fun f => f 89) rfl rfl rfl rfl rfl (fun _ => rfl) (fun _ => rfl) GChQ.ext GChQ.st (fun m f hf => ?_) ?_
    · obtain ⟨g, e9, hg, bg⟩ := hf 18 _ rfl rfl
      have e5 : f 89 = chV (impC tk ck y) := hf 89 _ rfl rfl
      rw [e9, e5]
      obtain ⟨w9, q1, q2, q3⟩ := ch_store bg (impC tk ck y)
      exact ⟨w9, q1, ⟨ch_resT, q3 _ hg⟩, g, rfl, hg, q2⟩
    refine Gt.wpX_endF rfl (fun m f hf hqs => ?_)
    have hq2 : GChQ wm.heap.size (impC tk ck y) (f 18) m.1 := hqs _ List.mem_cons_self
    have hq1 : GTrQ wm.heap.size w.heap.size (impT tk ck y) (f 17) m.1 := hqs _ (List.mem_cons_of_mem _ List.mem_cons_self)
    have hk2 : f 90 = .int .i64 (exK tk ck y) := hf 90 _ rfl
    obtain ⟨ga, Aa, na, ca, ea, hga, Ta, Sa⟩ := hq1
    obtain ⟨gb, eb, hgb, Qb⟩ := hq2
    simp only [fillH]
    simp only [Act.put, List.setIfInBounds_toArray, List.set_cons_zero, List.set_cons_succ]
    rw [ea, eb, hk2]
    clear hqs hf ea eb hk2
    generalize f 87 = f87 at *
    generalize f 80 = f80 at *
    generalize f 88 = f88 at *
    generalize f 89 = f89 at *
    clear f
    have Lm := LB m
    obtain ⟨wx, hwx⟩ := m
    have Lm : Ext wm wx := Lm
    have ZX := ZM.tr Lm
    have QX := QM.ext Lm
    have Ta1 := Ta1.ext Lm
    have Sa1 := Sa1.ext Lm
    have Qb1 := Qb1.ext Lm
    have Ta2 : TrAt wx ga Aa na ca (impT tk ck y).dt := Ta
    have Sa2 : SafeK wx w.heap.size 139 5 (.slice Aa na ca) (tpsCells (impT tk ck y).ps) := Sa
    have Qb2 : ChAt wx gb (impC tk ck y) := Qb
    have HZ := Lib.hid (show w.heap.size < wm.heap.size ∧ g7 < wm.heap.size ∧ wm.heap.size ≤ ga ∧ wm.heap.size ≤ gb from ⟨ZM.tz.lt, QM.lt, hga, hgb⟩)
    clear LR LB LE hGB TT TQ g0 g1 kb0 kb1 kb2 kb3 kb4 kb5 l0 l1 l2 l3 l4 l5 l6 l7 l8 ZM QM hga hgb Ta Sa Qb Lm
    show wpList _ _ _ _ _ _
    have HSN := Lib.hid (imp_sm (b := ck) HSK.out HSY.out)
    have HLN2 := Lib.hid (imp_len (b := ck) (x := y) HLK.out)
    generalize impT tk ck y = tn at *
    generalize impC tk ck y = cn at *
    generalize exK tk ck y = ek at *
    have HQS := Lib.hid (HSA.out tn _ _ wx ⟨_, _, _, rfl, Sa1.rd⟩ ⟨_, _, _, rfl, Sa2.rd⟩)
    obtain ⟨t0, t1⟩ := Ta1.cells
    obtain ⟨u0, u1⟩ := Ta2.cells
    obtain ⟨r0, r1, r2, r3, r4, r5⟩ := Qb1.cells
    obtain ⟨d0, d1, d2, d3, d4, d5⟩ := Qb2.cells
    unfold chV
    go_wp2_with fail
    refine HQS.out.mono ?_
    rintro e w7 ⟨rfl, b7⟩
    have ZM := ZX.tr b7
    have QM := QX.ext b7
    have Ta := Ta2.ext b7
    have Sa := Sa2.ext b7
    have Qb := Qb2.ext b7
    clear t0 t1 u0 u1 r0 r1 r2 r3 r4 r5 d0 d1 d2 d3 d4 d5 Ta1 Sa1 Qb1 Ta2 Sa2 Qb2 ZX QX HQS b7
    go_wp2_with fail
    refine Gt.wp_region_X (r := RG resT (fun k => k = w.heap.size ∨ k = g7)) 4 (by kernel_rfl) (by kernel_rfl) ?_
    simp only [List.take_succ_cons, List.take_zero, List.drop_succ_cons, List.drop_zero]
    intro wq2 hw1
    have LR : ∀ m : (RG resT (fun k => k = w.heap.size ∨ k = g7)).Lt wq2, RgS resT (fun k => k = w.heap.size ∨ k = g7) w7 m.1 := fun m => RgS.tr hw1 m.2
    have hG2 : ∀ k, (k = w.heap.size ∨ k = g7) → w.heap.size ≤ k := fun k h => by have := HG8.out; omega
    have LE : ∀ m : (RG resT (fun k => k = w.heap.size ∨ k = g7)).Lt wq2, Ext w m.1 := fun m => ZM.ext.trans ((LR m).below hG2 ZM.ext.size)
    have TT := fun m : (RG resT (fun k => k = w.heap.size ∨ k = g7)).Lt wq2 => (LR m).keep Ta (fun h => by have := HZ.out; omega)
    have TQ := fun m : (RG resT (fun k => k = w.heap.size ∨ k = g7)).Lt wq2 => (LR m).keep Qb (fun h => by have := HZ.out; omega)
    have TT : ∀ m : (RG resT (fun k => k = w.heap.size ∨ k = g7)).Lt wq2, TrAt m.1 ga Aa na ca tn.dt := TT
    have TQ : ∀ m : (RG resT (fun k => k = w.heap.size ∨ k = g7)).Lt wq2, ChAt m.1 gb cn := TQ
    have g0 := fun m => (TT m).cells.1
    have g1 := fun m => (TT m).cells.2
    have kb0 := fun m => (TQ m).cells.1
    have kb1 := fun m => (TQ m).cells.2.1
    have kb2 := fun m => (TQ m).cells.2.2.1
    have kb3 := fun m => (TQ m).cells.2.2.2.1
    have kb4 := fun m => (TQ m).cells.2.2.2.2.1
    have kb5 := fun m => (TQ m).cells.2.2.2.2.2
    repeat (refine Gt.wpX_pure (by first | exact trivial | exact ⟨_, rfl, rfl, rfl⟩) rfl rfl rfl rfl rfl (fun K hK => ?_); go_big_quiet_op; refine hK _ ?_; clear hK K)
    refine Gt.wpX_store (by first | exact trivial | exact ⟨_, rfl, rfl, rfl⟩) (fun _ => TrQ w.heap.size w.heap.size tn.ps tn.dt) (fun _ => .pointer (some ⟨w.heap.size, 0, none⟩)) (fun _ => .agg #[.slice Aa na ca, .int .i64 tn.dt]) rfl rfl rfl rfl rfl (fun _ => rfl) (fun _ => rfl) (fun _ => TrQ.ext) (fun T hT _ => TrQ.st hG2 T hT) (fun m f hf => ?_) ?_
    · obtain ⟨w9, q1, q2, q3⟩ := tr_store (ZM.tz.b.rg (LR m)) Aa na ca tn.dt
      exact ⟨w9, q1, ⟨tr_resT, q3 _ (.inl rfl)⟩, Aa, na, ca, q2, (Sa.rg tp_resT hG2 (LR m)).rg1 tp_ne_tr hG2 (q3 (fun k => k = w.heap.size ∨ k = g7) (.inl rfl))⟩
    refine Gt.wpX_store (by first | exact trivial | exact ⟨_, rfl, rfl, rfl⟩) (fun _ wx => ChAt wx g7 cn) (fun _ => .pointer (some ⟨g7, 0, none⟩)) (fun f => chV cn) rfl rfl rfl rfl rfl (fun _ => rfl) (fun _ => rfl) (fun _ _ _ e h => h.ext e) (fun T hT _ => ch_st T hT) (fun m f hf => ?_) ?_
    · obtain ⟨w9, q1, q2, q3⟩ := ch_store (QM.b.rg (LR m)) cn
      exact ⟨w9, q1, ⟨ch_resT, q3 _ (.inr rfl)⟩, q2⟩
    refine Gt.wpX_endL (fun m f hf hqs => ?_)
    have hq2 := hqs _ List.mem_cons_self
    have hq1 := hqs _ (List.mem_cons_of_mem _ List.mem_cons_self)
    simp only at hq1 hq2
    clear hqs
    obtain ⟨A5, n5, c5, T5, S5⟩ := hq1
    rw [fillH_nil]
    have Lr := LR m
    have Le := LE m
    obtain ⟨wx, hwx⟩ := m
    have ZX : SmZ w wx w.heap.size tn A5 n5 c5 := ⟨T5, S5, Le⟩
    have QX : ChAt wx g7 cn := hq2
    clear g0 g1 kb0 kb1 kb2 kb3 kb4 kb5 TT TQ hf LE LR hG2 T5 S5 Lr Le hq2 ZM QM Ta Sa Qb
    show wpList _ _ _ _ _ _
    go_wp2_with fail
    go_roundw
    case rel =>
      repeat apply Exists.intro
      exact ⟨⟨k + 1, tn, cn, A5, n5, c5, by omega, by go_num, ZX, QX, HSN, HLN2⟩, rfl⟩
    case measure => simp [intOf]; omega
end Go.Proofs.YtkjplpmogfmhkaaGreatDoor

namespace Go.Proofs.YtkjplpmogfmhkaaGreatDoor
open Go.RowKit
set_option linter.unusedVariables false
set_option maxRecDepth 100000

theorem swap_rd {w : World} {g len c : Nat} {cur : Array Value} {rest : List Value} {T : TypeId} {q : List TC} {x y : TC} {i k : Nat} (hg : w.heap[g]? = some (.cells cur T (0, 0))) (hcur : cur.toList = tcsCells q ++ rest) (hi : i < q.length) (hk : k < q.length) (hl : q.length = len) (hc : len ≤ c) (hm : c ≤ maxLen) :
    RdC (setL (setL w g (i * 9) (tcCells y)) g (k * 9) (tcCells x)).drew (.slice (some ⟨g, 0, none⟩) len c) (swapC q i k x y) := by
  have h1 : w.heap[g]? = some (.cells (tcsCells q ++ rest).toArray T (0, 0)) := by rw [hg, ← hcur, Array.toArray_toList]
  have h2 := setL_set w g h1 rfl i hi y
  have h3 := setL_set (setL w g (i * 9) (tcCells y)) g h2 rfl k (by rw [List.length_set]; exact hk) x
  have hlq : (swapC q i k x y).length = len := by rw [swap_len, hl]
  change (setL (setL w g (i * 9) (tcCells y)) g (k * 9) (tcCells x)).heap[g]? = some (.cells (tcsCells (swapC q i k x y) ++ rest).toArray T (0, 0)) at h3
  generalize setL (setL w g (i * 9) (tcCells y)) g (k * 9) (tcCells x) = W at *
  generalize swapC q i k x y = qs at *
  refine ⟨_, len, c, rfl, by rw [tcsCells_len, hlq], hc, hm, fun _ => ⟨g, 0, rfl, fun j u hu => ?_⟩⟩
  rw [Nat.zero_add]
  show W.cell? ⟨g, j, none⟩ = some u
  rw [cell_of_row W g j _ T (0, 0) h3, List.getElem?_toArray, List.getElem?_append_left (List.getElem?_eq_some_iff.1 hu).1]
  exact hu
set_option maxHeartbeats 8000000 in
theorem paths_any {v1 v2 v3 : Value} {l m n : List Int} (sw : Int) (w : World) (h1 : RdI w .i64 v1 l) (h2 : RdI w .i64 v2 m) (h3 : RdI w .i64 v3 n) (hw1 : ∀ x ∈ l, wf64 x) (hw2 : ∀ x ∈ m, wf64 x) (hw3 : ∀ x ∈ n, wf64 x) (hs : wf64 sw) (E : Env w) :
    Calls Tryz.prog 5 #[v1, v2, v3, .int .i64 sw] w (RetQ w (.bool true)) := by
  have HA := Lib.hid (fun W (e : Ext w W) => awake26_any W (E.ext e))
  have HL1 := Lib.hid (mlight_any w h1)
  have HL2 := Lib.hid (mlight_any w h2)
  have HL3 := Lib.hid (mlight_any w h3)
  have HT := Lib.hid (fun (q : l.length ≤ 80) => trust26_any w h1 hw1 (by omega))
  have HP := Lib.hid (fun (q : m.length ≤ 80) W (e : Ext w W) => path_any W (h2.ext e) hw2 (by omega) (E.ext e).r)
  have HP3 := Lib.hid (fun (q : n.length ≤ 80) W (e : Ext w W) => path_any W (h3.ext e) hw3 (by omega) (E.ext e).r)
  have HSA := Lib.hid (fun (t : TR) (p : List TC) (v lv : Value) W (e : Ext w W) (hv : TrR W v t) (hp : RdC W lv p) (hs : smR t.ps) (hx : ∀ x ∈ p, smT x) (hl : t.ps.length ≤ 1000000000000) => same26_any t p W hv hp hs hx hl (E.ext e))
  have HSW := Lib.hid hs
  clear E h1 h2 h3 hw1 hw2 hw3 hs
  go_enter Tryz.func5, Tryz.ntmps5
  go_wp2_with fail
  refine (HL1.out).mono ?_
  rintro e w' ⟨rfl, rfl⟩
  by_cases a1 : l.length ≤ 80
  case neg =>
    rw [decide_eq_false a1]
    go_wp2_with fail
    refine (HA.out _ (Below.refl _ _)).mono ?_
    rintro e w3 ⟨rfl, b3⟩
    go_wp2_with fail
    go_ret
    exact ⟨rfl, b3⟩
  rw [decide_eq_true a1]
  have HT := Lib.hid (HT.out a1)
  clear a1
  go_wp2_with fail
  refine (HL2.out).mono ?_
  rintro e w' ⟨rfl, rfl⟩
  by_cases a2 : m.length ≤ 80
  case neg =>
    rw [decide_eq_false a2]
    go_wp2_with fail
    refine (HA.out _ (Below.refl _ _)).mono ?_
    rintro e w3 ⟨rfl, b3⟩
    go_wp2_with fail
    go_ret
    exact ⟨rfl, b3⟩
  rw [decide_eq_true a2]
  have HP := Lib.hid (fun W e => HP.out a2 W e)
  clear a2
  go_wp2_with fail
  refine (HL3.out).mono ?_
  rintro e w' ⟨rfl, rfl⟩
  by_cases a3 : n.length ≤ 80
  case neg =>
    rw [decide_eq_false a3]
    go_wp2_with fail
    refine (HA.out _ (Below.refl _ _)).mono ?_
    rintro e w3 ⟨rfl, b3⟩
    go_wp2_with fail
    go_ret
    exact ⟨rfl, b3⟩
  rw [decide_eq_true a3]
  have HP3 := Lib.hid (fun W e => HP3.out a3 W e)
  clear a3 HL1 HL2 HL3
  go_wp2_with fail
  refine (HT.out).mono ?_
  rintro e w1 ⟨b1, t, A, n, c, rfl, s1, hs, ht2⟩
  have HSM := Lib.hid hs
  have HLL := Lib.hid (show t.ps.length ≤ 1000000000000 by omega)
  obtain ⟨wa, hwa, ea, Ta⟩ := tr_alloc w1 A n c t.dt
  have xa := b1.tr ea
  have sa := s1.ext ea
  have hg5 : w.heap.size ≤ w1.heap.size := b1.size
  clear HT b1 ea s1 hs ht2
  go_wp2_with fail
  rw [← hwa]
  clear hwa
  refine (HP.out _ xa).mono ?_
  rintro e w2 ⟨b2, Al, nl, cl, p, rfl, o2, hn, p1, p4, hv⟩
  have hn : nl = p.length := hn
  subst hn
  have HXM := Lib.hid (fun (x : TC) (hx : x ∈ p) => (sm_of (hv x hx).1 : smT x))
  have hrd : RdC w2 (.slice Al p.length cl) p := o2.rd
  have Z2 : RiZ w w2 w1.heap.size t A n c (.slice Al p.length cl) p := ⟨Ta.ext b2, sa.ext b2, hrd, xa.tr b2⟩
  clear HP b2 o2 hv Ta sa xa hrd
  generalize w1.heap.size = g5 at *
  obtain ⟨t0, t1⟩ := Z2.tz.cells
  go_wp2_with fail
  refine (HSA.out t p _ _ _ Z2.ext Z2.v.tr Z2.rc HSM.out HXM.out HLL.out).mono ?_
  rintro e w3 ⟨rfl, b3⟩
  have Z3 := Z2.tr b3
  clear Z2 b3 t0 t1
  obtain ⟨t0, t1⟩ := Z3.tz.cells
  go_wp2_with fail
  refine (HSA.out t [] _ (.slice none 0 0) _ Z3.ext Z3.v.tr (RdK.nil_ _ _ _) HSM.out (fun x hx => by cases hx) HLL.out).mono ?_
  rintro e w4 ⟨rfl, b4⟩
  have Z4 := Z3.tr b4
  clear Z3 b4 t0 t1
  have HZ4 := Lib.hid Z4
  clear Z4
  go_upto_region 7 with fail
  have e6 : Ext w4 (w4.alloc (.cells #[] 35)) := (Below.refl _ _).alloc (Nat.le_refl _) _
  have HP4 := Lib.hid p4
  have R6 := Lib.hid ((HZ4.out.rc).ext e6)
  have E6 := Lib.hid e6
  clear e6 p4 p1
  go_wp2_with (refine wpList_appK (k := 9) (by decide) elemTc (n := 0) (m := p.length) (B := w4.heap.size) (OwnK.empty _ _ _ _ _) rfl R6.out (by rw [tcsCells_len]) (tcsCells_one p) E6.out (by have := HP4.out; omega) (by have := HP4.out; unfold maxLen; omega) E6.out.size rfl rfl rfl rfl ?_; intro A7 n7 c7 w7 hn7 o7 b7 _)
  have hn7 : n7 = p.length := by have := hn7.out; omega
  subst hn7
  have Z7 := HZ4.out.tr b7
  refine (HP3.out _ Z7.ext).mono ?_
  rintro e w8 ⟨b8, A8, n8, c8, p2, rfl, o8, hn8, q1, q4, hv8⟩
  have hn8 : n8 = p2.length := hn8
  subst hn8
  have e8 : Ext w4 w8 := Ext.tr b7 b8
  have HO8 := Lib.hid (show OwnK w8 w4.heap.size 35 9 (.slice A7 p.length c7) (tcsCells p) by have := o7.ext b8; rwa [List.nil_append] at this)
  have HR8 := Lib.hid o8.rd
  have HE8 := Lib.hid e8
  have HQ4 := Lib.hid (show p2.length ≤ 4 ∧ 1 ≤ p2.length from ⟨q4, q1⟩)
  have HXN := Lib.hid (fun (x : TC) (hx : x ∈ p2) => (sm_of (hv8 x hx).1 : smT x))
  clear b7 b8 e8 o7 o8 hn q1 q4 hv8 Z7 R6 E6 HP3
  go_wp2_with (refine wpList_appK (k := 9) (by decide) elemTc (n := p.length) (m := p2.length) HO8.out (by rw [tcsCells_len]) HR8.out (by rw [tcsCells_len]) (tcsCells_one p2) HE8.out (by have := HP4.out; have := HQ4.out; omega) (by have := HP4.out; have := HQ4.out; unfold maxLen; omega) HE8.out.size rfl rfl rfl rfl ?_; intro A9 n9 c9 w9 hn9 o9 b9 _)
  have Z9 := HZ4.out.tr b9
  have o9 : OwnK w9 w4.heap.size 35 9 (.slice A9 n9 c9) (tcsCells (p ++ p2)) := by rw [← tcsCells_app]; exact o9
  have hn9 : n9 = (p ++ p2).length := by rw [List.length_append]; exact hn9.out
  have HXQ := Lib.hid (fun (x : TC) (hx : x ∈ p ++ p2) => ((List.mem_append.1 hx).elim (HXM.out x) (HXN.out x) : smT x))
  have hlq : 1 ≤ (p ++ p2).length ∧ (p ++ p2).length ≤ 8 := by have := HP4.out; have := HQ4.out; rw [List.length_append]; omega
  subst hn9
  generalize p ++ p2 = q at *
  have HE9 := Lib.hid b9
  clear b9 HO8 HR8 HE8 HQ4 HXN HXM HP4
  have HZ9 := Lib.hid Z9
  have HO9 := Lib.hid o9
  clear Z9 o9
  obtain ⟨s0, s1⟩ := HSW.out
  generalize hlen : q.length = len at *
  have HLN := Lib.hid hlen
  clear hlen
  obtain ⟨i, hi, hi2⟩ : ∃ i : Nat, modI sw (len : Int) = (i : Int) ∧ i < len := by
    have := modI_bd (x := sw) (m := (len : Int)) (by omega)
    exact ⟨(modI sw (len : Int)).toNat, by omega, by omega⟩
  have hq5 := wrap_bd (sw.tdiv 5)
  generalize hs5 : wrap64 (sw.tdiv 5) = s5 at *
  obtain ⟨k, hk, hk2⟩ : ∃ k : Nat, modI s5 (len : Int) = (k : Int) ∧ k < len := by
    have := modI_bd (x := s5) (m := (len : Int)) (by omega)
    exact ⟨(modI s5 (len : Int)).toNat, by omega, by omega⟩
  have HM1 := Lib.hid (fun W => mod_any sw (len : Int) W s0 s1 (by omega))
  have HM2 := Lib.hid (fun W => mod_any s5 (len : Int) W hq5.1 hq5.2 (by omega))
  rw [hi] at HM1
  rw [hk] at HM2
  have HL8 := Lib.hid hlq
  have HS5 := Lib.hid hs5
  clear hi hk hq5 s0 s1 hlq hs5
  go_wp2_with fail
  refine (HM1.out _).mono ?_
  rintro e w' ⟨rfl, rfl⟩
  go_wp2_with fail
  rw [HS5.out]
  refine (HM2.out _).mono ?_
  rintro e w' ⟨rfl, rfl⟩
  obtain ⟨Aq, nq, cq, e9, hnq, hrow⟩ := HO9.out
  injection e9 with e1 e2 e3
  subst e1 e2 e3
  rcases hrow with ⟨h0, _⟩ | ⟨g, cur, rfl, hge, hg, hnc, hcm, hcs, htk⟩
  · exfalso; have := HL8.out; omega
  unfold maxLen at hcm
  have hcur : cur.toList = tcsCells q ++ cur.toList.drop (len * 9) := by rw [← htk, List.take_append_drop]
  obtain ⟨x, hx⟩ : ∃ x, q[i]? = some x := ⟨_, List.getElem?_eq_getElem (by rw [HLN.out]; exact hi2)⟩
  obtain ⟨y, hy⟩ : ∃ y, q[k]? = some y := ⟨_, List.getElem?_eq_getElem (by rw [HLN.out]; exact hk2)⟩
  have HRQ := Lib.hid (HO9.out.rd : RdC w9 _ q)
  obtain ⟨Ar, nr, cr, e9, hnr, _, _, hcl⟩ := RdC.at_ HRQ.out
  injection e9 with e1 e2 e3
  subst e2 e3
  obtain ⟨br, o0, e4, hbl, hcl⟩ := hcl (by omega)
  rw [← e1] at e4
  injection e4 with e4
  injection e4 with e5 e6 e7
  subst e5 e6
  obtain ⟨x0, x1, x2, x3, x4, x5, x6, x7, x8⟩ := hcl i x hx
  obtain ⟨y0, y1, y2, y3, y4, y5, y6, y7, y8⟩ := hcl k y hy
  simp only [Nat.zero_add] at x0 x1 x2 x3 x4 x5 x6 x7 x8 y0 y1 y2 y3 y4 y5 y6 y7 y8
  have hfz : ∀ j, w9.frozen? ⟨g, j, none⟩ = false := fun j => by simp [World.frozen?, hg]
  have gl : g < w9.heap.size := hbl
  have HCU := Lib.hid (And.intro hg (And.intro hcur (And.intro hge (And.intro hx hy))))
  clear hg hcur hge hx hy hcs htk hcl e1 e7 hnr hnq
  have ii : (i : Int) < (len : Int) := by omega
  have kk : (k : Int) < (len : Int) := by omega
  go_upto_region 9 with fail
  go_cut [] from 56 to 69 (fun wx => wx = (setL (setL w9 g (i * 9) (tcCells y)) g (k * 9) (tcCells x)).drew)
  case first =>
    rcases Nat.lt_trichotomy i k with h | h | h
    · have h9 : i * 9 + 9 ≤ k * 9 := by omega
      go_region
      all_goals (go_wp2_with fail; go_meet; rfl)
    · subst h
      obtain rfl : x = y := by obtain ⟨_, _, _, q1, q2⟩ := HCU.out; rw [q1] at q2; exact Option.some.inj q2
      go_region
      all_goals (go_wp2_with fail; go_meet; rfl)
    · have h9 : k * 9 + 9 ≤ i * 9 := by omega
      go_region
      all_goals (go_wp2_with fail; go_meet; rfl)
  case rest =>
  obtain ⟨hg, hcur, hge, hx, hy⟩ := HCU.out
  have RQ : RdC wc (.slice (some ⟨g, 0, none⟩) len c9) (swapC q i k x y) := by
    rw [hcut]
    exact swap_rd hg hcur (by rw [HLN.out]; exact hi2) (by rw [HLN.out]; exact hk2) HLN.out hnc (by unfold maxLen; exact hcm)
  have EC : Ext w4 wc := by
    rw [hcut]
    exact (setL_below hge _ _ _ (setL_below hge _ _ _ HE9.out)).drew
  have Zc := HZ4.out.tr EC
  have hlc : (swapC q i k x y).length = len := by rw [swap_len, HLN.out]
  have HXS := Lib.hid (fun (z : TC) (hz : z ∈ swapC q i k x y) => (HXQ.out z (swap_mem (List.mem_of_getElem? hx) (List.mem_of_getElem? hy) hz) : smT z))
  clear hg hcur hge hx hy hcut EC x0 x1 x2 x3 x4 x5 x6 x7 x8 y0 y1 y2 y3 y4 y5 y6 y7 y8 HCU hfz gl ii kk HO9 HZ9 HRQ hbl
  generalize swapC q i k x y = qs at *
  have hl8 := HL8.out
  obtain ⟨m3, hm3, hm4⟩ : ∃ m3 : Nat, min (len : Int) 3 = (m3 : Int) ∧ m3 ≤ len := ⟨min len 3, by omega, by omega⟩
  have mk1 : (m3 : Int) ≤ (c9 : Int) := by omega
  have mk2 : m3 ≤ c9 := by omega
  have mk3 : (0 : Int) ≤ (m3 : Int) := by omega
  have mk4 : ((m3 : Int)).toNat = m3 := by omega
  have R3 : RdC wc (.slice (some ⟨g, 0, none⟩) m3 c9) (qs.take m3) := RQ.take m3 (by omega)
  go_upto_region 10 with fail
  refine Gd.wp_region_X 16 (by kernel_rfl) (by kernel_rfl) ?_
  simp only [List.take_succ_cons, List.take_zero, List.drop_succ_cons, List.drop_zero]
  intro wq hw1
  have LL : ∀ m : Lt wq, Ext wc m.1 := fun m => hw1.tr m.2
  have LE : ∀ m : Lt wq, Ext w m.1 := fun m => Zc.ext.tr (LL m)
  have g0 := fun m : Lt wq => (Zc.tz.ext (LL m)).cells.1
  have g1 := fun m : Lt wq => (Zc.tz.ext (LL m)).cells.2
  repeat (refine Gd.wpX_pure (by first | exact trivial | exact ⟨_, rfl, rfl, rfl⟩) rfl rfl rfl rfl rfl (fun K hK => ?_); go_big_quiet_op; refine hK _ ?_; clear hK K)
  refine Gd.wpX_callFn (by first | exact trivial | exact ⟨_, rfl, rfl, rfl⟩) (.bool true) (args := [.agg #[.slice A n c, .int .i64 t.dt], .slice (some ⟨g, 0, none⟩) len c9]) rfl rfl rfl rfl (by kernel_rfl) rfl rfl (fun m => (HSA.out t qs _ _ m.1 (LE m) (Zc.v.tr.ext (LL m)) (RdK.ext RQ (LL m)) HSM.out HXS.out HLL.out).mono fun _ _ ⟨h1, h2⟩ => ⟨h1, h2⟩) ?_
  simp only [Act.put, List.setIfInBounds_toArray, List.set_cons_zero, List.set_cons_succ]
  repeat (refine Gd.wpX_pure (by first | exact trivial | exact ⟨_, rfl, rfl, rfl⟩) rfl rfl rfl rfl rfl (fun K hK => ?_); go_big_quiet_op; refine hK _ ?_; clear hK K)
  refine Gd.wpX_call (by first | exact trivial | exact ⟨_, rfl, rfl, rfl⟩) (.int .i64 (m3 : Int)) rfl rfl rfl rfl (fun m K hK => ?_) ?_
  · unfold Oper.wp
    go_simp
    refine hK _ _ rfl ⟨Below.refl _ _, ?_⟩
    rfl
  simp only [Act.put, List.setIfInBounds_toArray, List.set_cons_zero, List.set_cons_succ]
  repeat (refine Gd.wpX_pure (by first | exact trivial | exact ⟨_, rfl, rfl, rfl⟩) rfl rfl rfl rfl rfl (fun K hK => ?_); go_big_quiet_op; refine hK _ ?_; clear hK K)
  refine Gd.wpX_callFn (by first | exact trivial | exact ⟨_, rfl, rfl, rfl⟩) (.bool true) (args := [.agg #[.slice A n c, .int .i64 t.dt], .slice (some ⟨g, 0, none⟩) m3 c9]) rfl rfl rfl rfl (by kernel_rfl) rfl rfl (fun m => (HSA.out t (qs.take m3) _ _ m.1 (LE m) (Zc.v.tr.ext (LL m)) (RdK.ext R3 (LL m)) HSM.out (fun z hz => HXS.out z (List.mem_of_mem_take hz)) HLL.out).mono fun _ _ ⟨h1, h2⟩ => ⟨h1, h2⟩) ?_
  simp only [Act.put, List.setIfInBounds_toArray, List.set_cons_zero, List.set_cons_succ]
  repeat (refine Gd.wpX_pure (by first | exact trivial | exact ⟨_, rfl, rfl, rfl⟩) rfl rfl rfl rfl rfl (fun K hK => ?_); go_big_quiet_op; refine hK _ ?_; clear hK K)
  refine Gd.wpX_callFn (by first | exact trivial | exact ⟨_, rfl, rfl, rfl⟩) (.bool true) (args := []) rfl rfl rfl rfl (by kernel_rfl) rfl rfl (fun m => (HA.out m.1 (LE m)).mono fun _ _ ⟨h1, h2⟩ => ⟨h1, h2⟩) ?_
  simp only [Act.put, List.setIfInBounds_toArray, List.set_cons_zero, List.set_cons_succ]
  repeat (refine Gd.wpX_pure (by first | exact trivial | exact ⟨_, rfl, rfl, rfl⟩) rfl rfl rfl rfl rfl (fun K hK => ?_); go_big_quiet_op; refine hK _ ?_; clear hK K)
  refine Gd.wpX_end0 (fun m => ?_)
  have Lm := LE m
  obtain ⟨wm, hwm⟩ := m
  have Lm : Ext w wm := Lm
  clear LL LE g0 g1 hw1
  show wpList _ _ _ _ _ _
  go_wp2_with fail
  go_ret
  exact ⟨rfl, Lm⟩
end Go.Proofs.YtkjplpmogfmhkaaGreatDoor

namespace Go.Proofs.YtkjplpmogfmhkaaGreatDoor
open Go.ChangeShapes Go.WideShapes Go.ChangeAt Go.RowKit
def sg (l : List Nat) : List Char := l.map Char.ofNat
def headNums : List Nat := [104, 97, 114, 110, 101, 115, 115, 32, 48, 55, 97, 55, 53, 57, 101, 52, 48, 97, 99, 49, 52, 50, 98, 52, 55, 56, 57, 55, 55, 54, 49, 52, 53, 100, 99, 56, 54, 56, 99, 50,
  100, 49, 54, 48, 98, 99, 100, 99, 52, 98, 51, 57, 51, 52, 57, 102, 55, 50, 99, 100, 50, 102, 50, 56, 51, 57, 54, 55, 102, 101, 98, 52, 32, 99, 117, 116, 32, 97, 116, 32,
  116, 114, 97, 118, 101, 108, 100, 111, 99, 47, 116, 114, 97, 118, 101, 108, 100, 111, 99, 108, 97, 119, 50, 54, 46, 84, 101, 114, 109, 105, 110, 97, 108, 99, 104, 97, 105, 110, 83, 116,
  97, 114, 116, 115, 32, 116, 114, 97, 118, 101, 108, 100, 111, 99, 47, 116, 114, 97, 118, 101, 108, 100, 111, 99, 108, 97, 119, 50, 54, 46, 84, 101, 114, 109, 105, 110, 97, 108, 99, 104,
  97, 105, 110, 73, 109, 112, 111, 114, 116, 115, 32, 116, 114, 97, 118, 101, 108, 100, 111, 99, 47, 116, 114, 97, 118, 101, 108, 100, 111, 99, 108, 97, 119, 50, 54, 46, 84, 101, 114, 109,
  105, 110, 97, 108, 99, 104, 97, 105, 110, 80, 97, 116, 104, 115, 32, 116, 114, 97, 118, 101, 108, 100, 111, 99, 47, 116, 114, 97, 118, 101, 108, 100, 111, 99, 108, 97, 119, 50, 54, 46,
  84, 101, 114, 109, 105, 110, 97, 108, 99, 104, 97, 105, 110, 82, 105, 103, 104, 116, 115, 32, 116, 114, 97, 118, 101, 108, 100, 111, 99, 47, 116, 114, 97, 118, 101, 108, 100, 111, 99, 108,
  97, 119, 51, 48, 46, 78, 97, 116, 105, 111, 110, 97, 108, 99, 104, 97, 105, 110, 80, 114, 111, 118, 101, 115, 32, 116, 114, 97, 118, 101, 108, 100, 111, 99, 47, 116, 114, 97, 118, 101,
  108, 100, 111, 99, 108, 97, 119, 51, 48, 46, 78, 97, 116, 105, 111, 110, 97, 108, 99, 104, 97, 105, 110, 77, 97, 100, 101, 32, 116, 114, 97, 118, 101, 108, 100, 111, 99, 47, 116, 114,
  97, 118, 101, 108, 100, 111, 99, 108, 97, 119, 51, 48, 46, 78, 97, 116, 105, 111, 110, 97, 108, 99, 104, 97, 105, 110, 71, 114, 111, 119, 115, 32, 116, 114, 97, 118, 101, 108, 100, 111,
  99, 47, 116, 114, 97, 118, 101, 108, 100, 111, 99, 108, 97, 119, 51, 49, 46, 77, 97, 115, 116, 101, 114, 108, 105, 115, 116, 77, 97, 100, 101, 32, 116, 114, 97, 118, 101, 108, 100, 111,
  99, 47, 116, 114, 97, 118, 101, 108, 100, 111, 99, 108, 97, 119, 51, 49, 46, 77, 97, 115, 116, 101, 114, 108, 105, 115, 116, 82, 97, 119, 32, 116, 114, 97, 118, 101, 108, 100, 111, 99,
  47, 116, 114, 97, 118, 101, 108, 100, 111, 99, 108, 97, 119, 51, 49, 46, 77, 97, 115, 116, 101, 114, 108, 105, 115, 116, 78, 101, 119, 101, 114, 32, 116, 114, 97, 118, 101, 108, 100, 111,
  99, 47, 116, 114, 97, 118, 101, 108, 100, 111, 99, 108, 97, 119, 51, 50, 46, 82, 101, 118, 111, 99, 97, 116, 105, 111, 110, 77, 97, 100, 101, 32, 116, 114, 97, 118, 101, 108, 100, 111,
  99, 47, 116, 114, 97, 118, 101, 108, 100, 111, 99, 108, 97, 119, 51, 50, 46, 82, 101, 118, 111, 99, 97, 116, 105, 111, 110, 78, 101, 119, 101, 115, 116, 32, 116, 114, 97, 118, 101, 108,
  100, 111, 99, 47, 116, 114, 97, 118, 101, 108, 100, 111, 99, 108, 97, 119, 51, 50, 46, 82, 101, 118, 111, 99, 97, 116, 105, 111, 110, 82, 97, 119, 32, 116, 114, 97, 118, 101, 108, 100,
  111, 99, 47, 116, 114, 97, 118, 101, 108, 100, 111, 99, 108, 97, 119, 51, 51, 46, 68, 101, 118, 105, 97, 116, 105, 111, 110, 77, 97, 100, 101, 32, 116, 114, 97, 118, 101, 108, 100, 111,
  99, 47, 116, 114, 97, 118, 101, 108, 100, 111, 99, 108, 97, 119, 51, 51, 46, 68, 101, 118, 105, 97, 116, 105, 111, 110, 82, 97, 119, 32, 116, 114, 97, 118, 101, 108, 100, 111, 99, 47,
  116, 114, 97, 118, 101, 108, 100, 111, 99, 108, 97, 119, 51, 51, 46, 68, 101, 118, 105, 97, 116, 105, 111, 110, 79, 119, 110]
def headSigns : List Char := sg headNums
def headTail : List (List Char) := [sg [97, 116],
  sg [116, 114, 97, 118, 101, 108, 100, 111, 99, 47, 116, 114, 97, 118, 101, 108, 100, 111, 99, 108, 97, 119, 50, 54, 46, 84, 101, 114, 109, 105, 110, 97, 108, 99, 104, 97, 105, 110, 83, 116, 97, 114, 116, 115],
  sg [116, 114, 97, 118, 101, 108, 100, 111, 99, 47, 116, 114, 97, 118, 101, 108, 100, 111, 99, 108, 97, 119, 50, 54, 46, 84, 101, 114, 109, 105, 110, 97, 108, 99, 104, 97, 105, 110, 73, 109, 112, 111, 114, 116, 115],
  sg [116, 114, 97, 118, 101, 108, 100, 111, 99, 47, 116, 114, 97, 118, 101, 108, 100, 111, 99, 108, 97, 119, 50, 54, 46, 84, 101, 114, 109, 105, 110, 97, 108, 99, 104, 97, 105, 110, 80, 97, 116, 104, 115],
  sg [116, 114, 97, 118, 101, 108, 100, 111, 99, 47, 116, 114, 97, 118, 101, 108, 100, 111, 99, 108, 97, 119, 50, 54, 46, 84, 101, 114, 109, 105, 110, 97, 108, 99, 104, 97, 105, 110, 82, 105, 103, 104, 116, 115],
  sg [116, 114, 97, 118, 101, 108, 100, 111, 99, 47, 116, 114, 97, 118, 101, 108, 100, 111, 99, 108, 97, 119, 51, 48, 46, 78, 97, 116, 105, 111, 110, 97, 108, 99, 104, 97, 105, 110, 80, 114, 111, 118, 101, 115],
  sg [116, 114, 97, 118, 101, 108, 100, 111, 99, 47, 116, 114, 97, 118, 101, 108, 100, 111, 99, 108, 97, 119, 51, 48, 46, 78, 97, 116, 105, 111, 110, 97, 108, 99, 104, 97, 105, 110, 77, 97, 100, 101],
  sg [116, 114, 97, 118, 101, 108, 100, 111, 99, 47, 116, 114, 97, 118, 101, 108, 100, 111, 99, 108, 97, 119, 51, 48, 46, 78, 97, 116, 105, 111, 110, 97, 108, 99, 104, 97, 105, 110, 71, 114, 111, 119, 115],
  sg [116, 114, 97, 118, 101, 108, 100, 111, 99, 47, 116, 114, 97, 118, 101, 108, 100, 111, 99, 108, 97, 119, 51, 49, 46, 77, 97, 115, 116, 101, 114, 108, 105, 115, 116, 77, 97, 100, 101],
  sg [116, 114, 97, 118, 101, 108, 100, 111, 99, 47, 116, 114, 97, 118, 101, 108, 100, 111, 99, 108, 97, 119, 51, 49, 46, 77, 97, 115, 116, 101, 114, 108, 105, 115, 116, 82, 97, 119],
  sg [116, 114, 97, 118, 101, 108, 100, 111, 99, 47, 116, 114, 97, 118, 101, 108, 100, 111, 99, 108, 97, 119, 51, 49, 46, 77, 97, 115, 116, 101, 114, 108, 105, 115, 116, 78, 101, 119, 101, 114],
  sg [116, 114, 97, 118, 101, 108, 100, 111, 99, 47, 116, 114, 97, 118, 101, 108, 100, 111, 99, 108, 97, 119, 51, 50, 46, 82, 101, 118, 111, 99, 97, 116, 105, 111, 110, 77, 97, 100, 101],
  sg [116, 114, 97, 118, 101, 108, 100, 111, 99, 47, 116, 114, 97, 118, 101, 108, 100, 111, 99, 108, 97, 119, 51, 50, 46, 82, 101, 118, 111, 99, 97, 116, 105, 111, 110, 78, 101, 119, 101, 115, 116],
  sg [116, 114, 97, 118, 101, 108, 100, 111, 99, 47, 116, 114, 97, 118, 101, 108, 100, 111, 99, 108, 97, 119, 51, 50, 46, 82, 101, 118, 111, 99, 97, 116, 105, 111, 110, 82, 97, 119],
  sg [116, 114, 97, 118, 101, 108, 100, 111, 99, 47, 116, 114, 97, 118, 101, 108, 100, 111, 99, 108, 97, 119, 51, 51, 46, 68, 101, 118, 105, 97, 116, 105, 111, 110, 77, 97, 100, 101],
  sg [116, 114, 97, 118, 101, 108, 100, 111, 99, 47, 116, 114, 97, 118, 101, 108, 100, 111, 99, 108, 97, 119, 51, 51, 46, 68, 101, 118, 105, 97, 116, 105, 111, 110, 82, 97, 119],
  sg [116, 114, 97, 118, 101, 108, 100, 111, 99, 47, 116, 114, 97, 118, 101, 108, 100, 111, 99, 108, 97, 119, 51, 51, 46, 68, 101, 118, 105, 97, 116, 105, 111, 110, 79, 119, 110]]
def headWords : List (List Char) := sg [99, 117, 116] :: headTail
def sumSigns : List Char := sg [48, 55, 97, 55, 53, 57, 101, 52, 48, 97, 99, 49, 52, 50, 98, 52, 55, 56, 57, 55, 55, 54, 49, 52, 53, 100, 99, 56, 54, 56, 99, 50, 100, 49, 54, 48, 98, 99, 100, 99, 52, 98, 51, 57, 51, 52, 57, 102, 55, 50, 99, 100, 50, 102, 50, 56, 51, 57, 54, 55, 102, 101, 98, 52]
theorem head_of : Tryz.prog.initOrder = String.ofList headSigns := by kernel_rfl
theorem sum_of : "07a759e40ac142b4789776145dc868c2d160bcdc4b39349f72cd2f283967feb4" = String.ofList sumSigns := by kernel_rfl
theorem head_signs : Tryz.prog.initOrder.toList = headSigns := by
  rw [head_of, String.toList_ofList]
set_option maxRecDepth 100000 in
theorem head_words : behindMainWord (wordsSigns headSigns) = headWords := by decide +kernel
theorem head_all : behindMainWord (wordsSigns Tryz.prog.initOrder.toList) = sg [99, 117, 116] :: headTail := by rw [head_signs, head_words]; rfl
set_option maxRecDepth 100000 in
theorem head_main : (match wordsSigns headSigns with
  | h :: s :: _ => if !isSumSigns s then none else if h == "harness".toList then some (true, s) else if h == "ownmain".toList then some (false, s) else none
  | _ => none) = some (true, sumSigns) := by decide +kernel
theorem pf_main : Tryz.prog.mainIs = some (true, ("07a759e40ac142b4789776145dc868c2d160bcdc4b39349f72cd2f283967feb4" : String).toList) := by
  rw [sum_of, String.toList_ofList]
  unfold Program.mainIs
  rw [head_signs]
  exact head_main
theorem cut_signs : sg [99, 117, 116] = "cut".toList := by decide +kernel
theorem make_cut {P : Program} {r : List (List Char)} (h : behindMainWord (wordsSigns P.initOrder.toList) = sg [99, 117, 116] :: r) : P.make = some .cut := by
  unfold Program.make
  rw [h]
  rfl
theorem lifts_cut {P : Program} {r : List (List Char)} (h : behindMainWord (wordsSigns P.initOrder.toList) = sg [99, 117, 116] :: r) : P.headLifts = [] := by
  unfold Program.headLifts
  rw [h]
  rfl
theorem final_cut {P : Program} {r : List (List Char)} (h : behindMainWord (wordsSigns P.initOrder.toList) = sg [99, 117, 116] :: r) : P.liftsFinal = false := by
  unfold Program.liftsFinal
  rw [lifts_cut h, h]
  rfl
theorem enter_cut {P : Program} {r : List (List Char)} (h : behindMainWord (wordsSigns P.initOrder.toList) = sg [99, 117, 116] :: r) (h1 : P.laysLater = false) (h2 : P.bearsReflect = false) (h3 : P.doorFits [] = true) : P.mayEnter = true := by
  have e : stripLifts liftWords (sg [99, 117, 116] :: r) = ([], sg [99, 117, 116] :: r) := rfl
  unfold Program.mayEnter
  rw [h]
  simp only [e, h1, h2, h3]
  rfl
theorem pf_make : Tryz.prog.make = some .cut := make_cut head_all
theorem pf_final : Tryz.prog.liftsFinal = false := final_cut head_all
theorem pf_later : Tryz.prog.laysLater = false := by kernel_rfl
theorem pf_reflect : Tryz.prog.bearsReflect = false := by kernel_rfl
theorem pf_door : Tryz.prog.doorFits [] = true := by kernel_rfl
theorem pf_enter : Tryz.prog.mayEnter = true := enter_cut head_all pf_later pf_reflect pf_door
theorem pf_looks : false = Tryz.prog.looks [] := by kernel_rfl
end Go.Proofs.YtkjplpmogfmhkaaGreatDoor

namespace Go.Proofs.YtkjplpmogfmhkaaGreatDoor
open Go.Joins Go.ChangeShapes Go.WideShapes Go.ChangeAt Go.RowKit
set_option linter.unusedVariables false
set_option maxRecDepth 100000

theorem wf_i64 {z : Int} (h : (Lit.int .i64 z).wf = true) : -9223372036854775808 ≤ z ∧ z < 9223372036854775808 := by
  simp only [Lit.wf, Bool.and_eq_true, decide_eq_true_eq] at h
  obtain ⟨h1, h2⟩ := h
  have e1 : IntKind.i64.min = -9223372036854775808 := rfl
  have e2 : IntKind.i64.max = 9223372036854775807 := rfl
  omega
section
variable {H : Type} {enc : TypeId × Value → H} {W : World} {base : Nat} {v : Value} {d : DataW H} {p : List MemPlace}
theorem open_sig (hv : Value.okWide Tryz.prog W .any base 33 v) (h : DataW.Trod enc Tryz.prog W 0 (fun _ => true) true 33 v d p) :
    ∃ e s : Int, v = .agg #[.int .i64 e, .int .i64 s] ∧ (Lit.int .i64 e).wf = true ∧ (Lit.int .i64 s).wf = true := by
  obtain ⟨v0, v1, y0, y1, n, rfl, _, _, h0, h1⟩ := open_agg2 Tryz.underlying33 (by kernel_rfl) (by kernel_rfl) hv h
  obtain ⟨e, he, _, we⟩ := DataW.trod_int Tryz.underlying3 h0
  obtain ⟨s, hs, _, ws⟩ := DataW.trod_int Tryz.underlying3 h1
  cases he
  cases hs
  exact ⟨e, s, rfl, we, ws⟩
theorem open_pair (hv : Value.okWide Tryz.prog W .any base 255 v) (h : DataW.Trod enc Tryz.prog W 0 (fun _ => true) true 255 v d p) :
    ∃ e s : Int, v = .agg #[.int .i64 e, .int .i64 s] ∧ (Lit.int .i64 e).wf = true ∧ (Lit.int .i64 s).wf = true := by
  have hu := Tryz.underlying255
  have hc : Tryz.prog.cellsOf 255 = 2 := by kernel_rfl
  have hc1 : Tryz.prog.cellsOf 3 = 1 := by kernel_rfl
  have hv' : ∃ cs : Array Value, v = .agg cs ∧ cs.size = 2 := by
    simp only [Value.okWide, hu] at hv
    obtain ⟨cs, h1, h2, _⟩ := hv
    exact ⟨cs, h1, h2.trans hc⟩
  obtain ⟨cs, rfl, hsz⟩ := hv'
  obtain ⟨c0, c1, rfl⟩ := array2 hsz
  obtain ⟨fuel, hf⟩ := h
  obtain ⟨xs, m, _, _, _, hlen, hg⟩ := DataW.trod_array hu hf
  match xs, hlen with
  | [y0, y1], _ =>
    have g0 := hg 0 (by omega)
    have g1 := hg 1 (by omega)
    simp only [hc1, Value.cells] at g0 g1
    obtain ⟨e, he, _, we⟩ := DataW.trod_int Tryz.underlying3 g0
    obtain ⟨s, hs, _, ws⟩ := DataW.trod_int Tryz.underlying3 g1
    simp at he hs
    subst he hs
    exact ⟨e, s, rfl, we, ws⟩
end
end Go.Proofs.YtkjplpmogfmhkaaGreatDoor

namespace Go.Proofs.YtkjplpmogfmhkaaGreatDoor
open Go.Joins Go.ChangeShapes Go.WideShapes Go.ChangeAt Go.RowKit Go.Deep
set_option linter.unusedVariables false
set_option maxRecDepth 100000

section
variable {H : Type} {enc : TypeId × Value → H} {P : Program} {W : World} {spare : Nat → Bool} {held : Bool}
/-- A slice whose elements take k cells each. -/
theorem trod_rows {α : Type} {cells : α → List Value} {Good : α → Prop} {t e : TypeId} {k fuel : Nat} {cs : List Value} {x : DataW H × List MemPlace} (ht : P.underlying t = some (.slice e)) (hc : P.cellsOf e = k) (h0 : 0 < k) (hlen : ∀ a, (cells a).length = k)
    (hel : ∀ (n : Nat) (cs : List Value) (y : DataW H × List MemPlace), cs.length = k → DataW.trod enc P W 0 spare held n e cs = some y → ∃ a, cs = cells a ∧ Good a)
    (h : DataW.trod enc P W 0 spare held fuel t cs = some x) :
    ∃ (A : Option Addr) (n c : Nat) (l : List α), cs = [.slice A n c] ∧ RdK W k (.slice A n c) (l.flatMap cells) ∧ (∀ a ∈ l, Good a) ∧ n = l.length := by
  rcases Deep.open_slice ht h with ⟨rfl, rfl⟩ | ⟨a, len, cap, m, n, D, Pl, rfl, hb, hl, hm, hmm, rfl, hx⟩
  · exact ⟨none, 0, 0, [], rfl, RdK.nil_ W k none, fun a ha => (by cases ha), rfl⟩
  have hlm : len ≤ m := by rw [hmm]; split <;> omega
  have hi : ∀ i : Fin len, ∃ y : α, W.cells? 0 (a.add (i.1 * k)) k = some (cells y) ∧ Good y := fun i => by
    obtain ⟨cs', h1, h2⟩ := hx i.1 (Nat.lt_of_lt_of_le i.2 hlm)
    rw [hc] at h1
    obtain ⟨_, hl', _⟩ := World.cells?_some h1
    obtain ⟨y, rfl, hg⟩ := hel n cs' _ hl' h2
    exact ⟨y, h1, hg⟩
  have hL : (List.ofFn fun i => Classical.choose (hi i)).length = len := by simp
  have hG : ∀ i (h : i < (List.ofFn fun i => Classical.choose (hi i)).length), W.cells? 0 (a.add (i * k)) k = some (cells (List.ofFn fun i => Classical.choose (hi i))[i]) ∧ Good (List.ofFn fun i => Classical.choose (hi i))[i] := fun i h => by
    rw [List.getElem_ofFn]
    exact Classical.choose_spec (hi ⟨i, by simpa using h⟩)
  generalize (List.ofFn fun i => Classical.choose (hi i)) = l at hL hG
  refine ⟨some a, len, cap, l, rfl, ⟨some a, len, cap, rfl, ?_, hl, hm, fun hp => ?_⟩, fun y hy => ?_, hL.symm⟩
  · rw [flat_len cells k hlen l, hL]
  · obtain ⟨b, off, sp⟩ := a
    have hsp : sp = none := by
      obtain ⟨_, hl', hcell⟩ := World.cells?_some (hG 0 (by omega)).1
      have h1 := hcell 0 h0
      rw [List.getElem?_eq_getElem (by rw [hl']; exact h0)] at h1
      have h2 := World.cell?_spot h1
      cases sp with
      | none => rfl
      | some q => simp [Addr.add] at h2
    subst hsp
    refine ⟨b, off, rfl, fun j u hu => ?_⟩
    have hj : j < l.length * k := by rw [← flat_len cells k hlen l]; exact (List.getElem?_eq_some_iff.1 hu).1
    have hdiv : j / k < l.length := Nat.div_lt_of_lt_mul (by rw [Nat.mul_comm]; exact hj)
    obtain ⟨_, hl', hcell⟩ := World.cells?_some (hG (j / k) hdiv).1
    have h1 := hcell (j % k) (Nat.mod_lt _ h0)
    have ej : j / k * k + j % k = j := by rw [Nat.mul_comm]; exact Nat.div_add_mod j k
    have e1 := flat_get cells k hlen l (j / k) hdiv (j % k) (Nat.mod_lt _ h0)
    rw [ej, hu] at e1
    rw [← e1, Addr.add_lit, Addr.add_lit, Nat.add_assoc, ej] at h1
    exact h1
  · obtain ⟨i, hi', rfl⟩ := List.getElem_of_mem hy
    exact (hG i hi').2
end

section
variable {H : Type} {enc : TypeId × Value → H} {W : World}
theorem trod_sig {fuel : Nat} {cs : List Value} {x : DataW H × List MemPlace} (hl : cs.length = 2) (h : DataW.trod enc Tryz.prog W 0 (fun _ => true) true fuel 33 cs = some x) : ∃ (e : Int) (s : Int), cs = [.int .i64 e, .int .i64 s] := by
  have c2 : Tryz.prog.cellsOf 3 = 1 := by kernel_rfl
  obtain ⟨xs, n, _, _, _, hlen, hg⟩ := DataW.trod_struct Tryz.underlying33 h
  match cs, hl, xs, hlen with
  | [v0, v1], _, [y0, y1], _ =>
    have g0 : DataW.trod enc Tryz.prog W 0 (fun _ => true) true n 3 (([v0, v1].drop 0).take (Tryz.prog.cellsOf 3)) = some y0 := hg 0 _ rfl
    rw [c2] at g0
    have g1 : DataW.trod enc Tryz.prog W 0 (fun _ => true) true n 3 (([v0, v1].drop 1).take (Tryz.prog.cellsOf 3)) = some y1 := hg 1 _ rfl
    rw [c2] at g1
    simp only [List.drop_succ_cons, List.drop_zero, List.take_succ_cons, List.take_zero] at g0 g1
    obtain ⟨z0, e0, _, _⟩ := DataW.trod_int Tryz.underlying3 g0
    obtain ⟨z1, e1, _, _⟩ := DataW.trod_int Tryz.underlying3 g1
    injection e0 with e0
    subst e0
    injection e1 with e1
    subst e1
    exact ⟨z0, z1, rfl⟩
theorem trod_tp {fuel : Nat} {cs : List Value} {x : DataW H × List MemPlace} (hl : cs.length = 5) (h : DataW.trod enc Tryz.prog W 0 (fun _ => true) true fuel 139 cs = some x) : ∃ a : TP, cs = tpCells a ∧ a.ho.length ≤ maxLen := by
  have c1 : Tryz.prog.cellsOf 9 = 1 := by kernel_rfl
  have c2 : Tryz.prog.cellsOf 3 = 1 := by kernel_rfl
  obtain ⟨xs, n, _, _, _, hlen, hg⟩ := DataW.trod_struct Tryz.underlying139 h
  match cs, hl, xs, hlen with
  | [v0, v1, v2, v3, v4], _, [y0, y1, y2, y3, y4], _ =>
    have g0 : DataW.trod enc Tryz.prog W 0 (fun _ => true) true n 9 (([v0, v1, v2, v3, v4].drop 0).take (Tryz.prog.cellsOf 9)) = some y0 := hg 0 _ rfl
    rw [c1] at g0
    have g1 : DataW.trod enc Tryz.prog W 0 (fun _ => true) true n 3 (([v0, v1, v2, v3, v4].drop 1).take (Tryz.prog.cellsOf 3)) = some y1 := hg 1 _ rfl
    rw [c2] at g1
    have g2 : DataW.trod enc Tryz.prog W 0 (fun _ => true) true n 3 (([v0, v1, v2, v3, v4].drop 2).take (Tryz.prog.cellsOf 3)) = some y2 := hg 2 _ rfl
    rw [c2] at g2
    have g3 : DataW.trod enc Tryz.prog W 0 (fun _ => true) true n 3 (([v0, v1, v2, v3, v4].drop 3).take (Tryz.prog.cellsOf 3)) = some y3 := hg 3 _ rfl
    rw [c2] at g3
    have g4 : DataW.trod enc Tryz.prog W 0 (fun _ => true) true n 3 (([v0, v1, v2, v3, v4].drop 4).take (Tryz.prog.cellsOf 3)) = some y4 := hg 4 _ rfl
    rw [c2] at g4
    simp only [List.drop_succ_cons, List.drop_zero, List.take_succ_cons, List.take_zero] at g0 g1 g2 g3 g4
    obtain ⟨z0, e0, _, b0⟩ := DataW.trod_string Tryz.underlying9 g0
    obtain ⟨z1, e1, _, _⟩ := DataW.trod_int Tryz.underlying3 g1
    obtain ⟨z2, e2, _, _⟩ := DataW.trod_int Tryz.underlying3 g2
    obtain ⟨z3, e3, _, _⟩ := DataW.trod_int Tryz.underlying3 g3
    obtain ⟨z4, e4, _, _⟩ := DataW.trod_int Tryz.underlying3 g4
    injection e0 with e0
    subst e0
    injection e1 with e1
    subst e1
    injection e2 with e2
    subst e2
    injection e3 with e3
    subst e3
    injection e4 with e4
    subst e4
    exact ⟨⟨z0.data.toList, z1, z2, z3, z4⟩, rfl, (by simpa using b0)⟩
theorem trod_tr {fuel : Nat} {cs : List Value} {x : DataW H × List MemPlace} (hl : cs.length = 2) (h : DataW.trod enc Tryz.prog W 0 (fun _ => true) true fuel 24 cs = some x) : ∃ (Aps : Option Addr) (nps cps : Nat) (ps : List TP) (dt : Int), cs = [.slice Aps nps cps, .int .i64 dt] ∧ RdK W 5 (.slice Aps nps cps) (ps.flatMap tpCells) ∧ (∀ a ∈ ps, (fun p : TP => p.ho.length ≤ maxLen) a) ∧ nps = ps.length := by
  have c2 : Tryz.prog.cellsOf 3 = 1 := by kernel_rfl
  have c_tp : Tryz.prog.cellsOf 22 = 1 := by kernel_rfl
  obtain ⟨xs, n, _, _, _, hlen, hg⟩ := DataW.trod_struct Tryz.underlying24 h
  match cs, hl, xs, hlen with
  | [v0, v1], _, [y0, y1], _ =>
    have g0 : DataW.trod enc Tryz.prog W 0 (fun _ => true) true n 22 (([v0, v1].drop 0).take (Tryz.prog.cellsOf 22)) = some y0 := hg 0 _ rfl
    rw [c_tp] at g0
    have g1 : DataW.trod enc Tryz.prog W 0 (fun _ => true) true n 3 (([v0, v1].drop 1).take (Tryz.prog.cellsOf 3)) = some y1 := hg 1 _ rfl
    rw [c2] at g1
    simp only [List.drop_succ_cons, List.drop_zero, List.take_succ_cons, List.take_zero] at g0 g1
    obtain ⟨A0, n0, k0, l0, e0, r0, gd0, hn0⟩ := trod_rows (cells := tpCells) (Good := (fun p : TP => p.ho.length ≤ maxLen)) (k := 5) Tryz.underlying22 (by kernel_rfl) (by omega) (fun _ => rfl) (fun n cs y hl h => trod_tp hl h) g0
    obtain ⟨z1, e1, _, _⟩ := DataW.trod_int Tryz.underlying3 g1
    injection e0 with e0
    subst e0
    injection e1 with e1
    subst e1
    exact ⟨A0, n0, k0, l0, z1, rfl, r0, gd0, hn0⟩
end
section
variable {H : Type} {enc : TypeId × Value → H} {W : World} {base : Nat} {v : Value} {d : DataW H} {p : List MemPlace}
theorem open_tr (hv : Value.okWide Tryz.prog W .any base 24 v) (h : DataW.Trod enc Tryz.prog W 0 (fun _ => true) true 24 v d p) :
    ∃ t : TR, TrR W v t ∧ smR t.ps := by
  have hC : Tryz.prog.cellsOf 24 = 2 := by kernel_rfl
  obtain ⟨⟨cs⟩, rfl, hsz⟩ := okWide_struct Tryz.underlying24 hv
  rw [hC] at hsz
  obtain ⟨fuel, hf⟩ := h
  obtain ⟨A, n, c, l, dt, e, r, hg, hn⟩ := trod_tr hsz hf
  have e' : cs = [.slice A n c, .int .i64 dt] := e
  subst e'
  exact ⟨⟨l, dt⟩, ⟨A, n, c, rfl, r⟩, hg⟩
theorem open_str (hv : Value.okWide Tryz.prog W .any base 9 v) (h : DataW.Trod enc Tryz.prog W 0 (fun _ => true) true 9 v d p) : ∃ l : List UInt8, v = .string (bstr l) ∧ l.length ≤ maxLen := by
  obtain ⟨s, rfl⟩ := okWide_string Tryz.underlying9 hv
  obtain ⟨fuel, hf⟩ := h
  obtain ⟨z, e, _, hz⟩ := DataW.trod_string Tryz.underlying9 hf
  have e' : [Value.string s] = [Value.string z] := e
  injection e' with e' _
  injection e' with e'
  subst e'
  exact ⟨s.data.toList, rfl, by simpa using hz⟩
end
end Go.Proofs.YtkjplpmogfmhkaaGreatDoor

namespace Go.Proofs.YtkjplpmogfmhkaaGreatDoor
open Go.ChangeShapes Go.WideShapes Go.ChangeAt Go.RowKit
set_option linter.unusedVariables false

set_option maxRecDepth 100000 in
set_option maxHeartbeats 2000000 in
theorem terminalchainPaths_lifted (os : Os) (started : os.Started) (H : Type) (enc : TypeId × Value → H) :
    ReturnsInHanded {} Tryz.checked os 5 .any (fun w args => (Rows.terminalchainPathsSpec.pre enc Tryz.prog Tryz.f5 [] false w args ∧ laidMetH Tryz.prog Rows.terminalchainPathsRow.laid w) ∧ sizedMet enc Tryz.prog Tryz.f5 (OpenSpec.ofChange Rows.terminalchainPathsSpec) false w args)
      (Rows.terminalchainPathsSpec.post enc Tryz.prog Tryz.f5 false true false false) := by
  refine returnsInHanded_of_change_and (C := Tryz.checked) (X := fun w _ => laidMetH Tryz.prog Rows.terminalchainPathsRow.laid w) (fun _ _ _ hh h => h.of_heap hh) own started (by kernel_rfl) Tryz.func5
    (ChangeSpec.witness_shaped (enc := enc) (C := Tryz.checked) (os := os) (X := fun w _ => laidMetH Tryz.prog Rows.terminalchainPathsRow.laid w) false (World.laidAll Tryz.prog os Rows.terminalchainPathsRow.laid) #[.slice none 0 0, .slice none 0 0, .slice none 0 0, .int .i64 0] 8 (World.laidAll_os _ _ _)
      (World.shaped_of_ZipB (by kernel_rfl) (by kernel_rfl)) (by kernel_rfl) (by kernel_rfl) (by kernel_rfl)
      (by rw [MakeChecks.laidMetH_plain _ _ _ (by kernel_rfl)]; exact laidMet_laidAll _ (by kernel_rfl) (by kernel_rfl))) ?_
  intro W base args ds gs before hval0 hW _ hsz hL _
  have hval : ∀ (j : Nat) t v, Tryz.f5.params[j]? = some t → args[j]? = some v → Value.okWide Tryz.prog W .any base t v := hval0
  have hW' := hW
  obtain ⟨p, q, hA0, hV, rfl, hfz, hnd⟩ := hW
  have hA : DataW.TrodAll enc Tryz.prog W 0 (fun _ => true) true Tryz.f5.params.toList args.toList ds p := hA0
  rw [Tryz.params5] at hA hval
  obtain ⟨v0, vs0, d0, ds0, p0, q0, hargs, rfl, rfl, h0, r0⟩ := trodAll_cons hA
  obtain ⟨v1, vs1, d1, ds1, p1, q1, rfl, rfl, rfl, h1, r1⟩ := trodAll_cons r0
  obtain ⟨v2, vs2, d2, ds2, p2, q2, rfl, rfl, rfl, h2, r2⟩ := trodAll_cons r1
  obtain ⟨v3, vs3, d3, ds3, p3, q3, rfl, rfl, rfl, h3, r3⟩ := trodAll_cons r2
  obtain ⟨rfl, rfl, rfl⟩ := trodAll_nil r3
  obtain rfl : args = #[v0, v1, v2, v3] := by cases args; simp_all
  obtain ⟨rfl, rfl⟩ := trodVars_none hV
  have k0 := h0
  have lt0 : ∀ x ∈ p0, x.block < W.heap.size := by obtain ⟨m, hm⟩ := k0; exact DataW.trod_lt m _ _ _ hm
  obtain ⟨l0, hr0, wf0, hn0⟩ := open_slice Tryz.underlying41 Tryz.underlying3 (by kernel_rfl) (hval 0 41 v0 rfl rfl) h0
  have k1 := h1
  have lt1 : ∀ x ∈ p1, x.block < W.heap.size := by obtain ⟨m, hm⟩ := k1; exact DataW.trod_lt m _ _ _ hm
  obtain ⟨l1, hr1, wf1, hn1⟩ := open_slice Tryz.underlying41 Tryz.underlying3 (by kernel_rfl) (hval 1 41 v1 rfl rfl) h1
  have k2 := h2
  have lt2 : ∀ x ∈ p2, x.block < W.heap.size := by obtain ⟨m, hm⟩ := k2; exact DataW.trod_lt m _ _ _ hm
  obtain ⟨l2, hr2, wf2, hn2⟩ := open_slice Tryz.underlying41 Tryz.underlying3 (by kernel_rfl) (hval 2 41 v2 rfl rfl) h2
  obtain ⟨a3, rfl, rfl, rfl, w3⟩ := open_int Tryz.underlying3 (hval 3 3 v3 rfl rfl) h3
  clear hA0 hval0
  refine (paths_any a3 W hr0 hr1 hr2 (fun x hx => wf_i64 (wf0 x hx)) (fun x hx => wf_i64 (wf1 x hx)) (fun x hx => wf_i64 (wf2 x hx)) (wf_i64 w3) ⟨(of_laid2 hL).1, (of_laid2 hL).2⟩).mono fun e W' ⟨he, bel⟩ => ?_
  subst he
  exact ⟨_, rfl, _, _, _, [], _, [], hW', trodAll_mk1 (shut_bool Tryz.underlying4 _), (trodAll_cons_mk (Below.trod laidOut (by kernel_rfl) (of_decide_eq_true (by kernel_rfl)) k0 bel lt0) (trodAll_cons_mk (Below.trod laidOut (by kernel_rfl) (of_decide_eq_true (by kernel_rfl)) k1 bel lt1) (trodAll_cons_mk (Below.trod laidOut (by kernel_rfl) (of_decide_eq_true (by kernel_rfl)) k2 bel lt2) (trodAll_cons_mk (shut_int Tryz.underlying3 w3) trodAll_mk0)))), rfl, bel.frame _, fun h => by cases h⟩
theorem terminalchainPaths_joined : joinedFacts Tryz.prog 5 Tryz.f5 Rows.terminalchainPathsSpec Rows.terminalchainPathsRow = true := by
  unfold joinedFacts
  rw [pf_enter, pf_final, pf_make, laidOut]
  kernel_rfl
theorem terminalchainPaths_holds : Rows.TerminalchainPathsSaid :=
  OpenClaim.holds_of_wide 5 Tryz.f5 rfl rfl rfl rfl rfl rfl rfl ⟨rfl, rfl, rfl, rfl, rfl⟩ rfl rfl rfl rfl rfl (by kernel_rfl) Tryz.func5 terminalchainPaths_joined
    (of_decide_eq_true (by kernel_rfl)) (by unfold Func.isWrapper; first | (rw [if_pos (by decide +kernel)]; kernel_rfl) | (rw [if_neg (by decide +kernel)]; exact ⟨rfl, rfl⟩))
    (fun os started H enc _ => terminalchainPaths_lifted os started H enc)
theorem terminalchainPaths_text : Rows.terminalchainPathsRow.wfByText (OpenSpec.ofChange Rows.terminalchainPathsSpec) = true := by kernel_rfl
theorem terminalchainPaths_goes : false = Rows.terminalchainPathsRow.goesBy Tryz.prog := by kernel_rfl
theorem terminalchainPaths_named : Tryz.prog.funcNamed Rows.terminalchainPathsRow.func = some 5 := by kernel_rfl
/-- THE STATEMENT. -/
theorem terminalchainPaths_card : Rows.TerminalchainPathsCardSaid :=
  Claim7.holds_tied_plain_at .later [] [.data, .data] true (true, "07a759e40ac142b4789776145dc868c2d160bcdc4b39349f72cd2f283967feb4") false
    terminalchainPaths_holds (fun _ h => by cases h) terminalchainPaths_text (fun _ h => by cases h) terminalchainPaths_row_tie rfl ⟨rfl, rfl⟩ pf_main rfl
    (fun f fn hf hfn => by
      obtain rfl : f = 5 := Option.some.inj (terminalchainPaths_named.symm.trans hf) |>.symm
      obtain rfl : fn = Tryz.f5 := (Option.some.inj (Tryz.func5.symm.trans hfn)).symm
      exact ⟨pf_looks, fun j t ht => by
        rw [Tryz.params5] at ht
        have hm : t ∈ [41, 41, 41, 3] := by simpa using Array.mem_of_getElem? ht
        have hall : ([41, 41, 41, 3].all fun u => !Tryz.prog.wantsStandIn u) = true := by kernel_rfl
        exact (show Tryz.prog.wantsStandIn t = false by simpa using List.all_eq_true.1 hall t hm)⟩)
    terminalchainPaths_goes

end Go.Proofs.YtkjplpmogfmhkaaGreatDoor
