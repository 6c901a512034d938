/- Parts Yq Gi Yr Yt Yu Yv Yw of the proof. -/
import Derived.Test.YtkjplpmogfmhkaaGreatDoorPky
namespace Go.Proofs.YtkjplpmogfmhkaaGreatDoor
open Go.RowKit
set_option linter.unusedVariables false
set_option maxRecDepth 100000

/-- The results stored, the chain zero. -/
def ptF0 (w wr : World) (A : Option Addr) (n c : Nat) (d : Int) : World := set6 ((wr.setCell ⟨w.heap.size + 1, 0, none⟩ (.slice A n c)).setCell ⟨w.heap.size + 1, 1, none⟩ (.int .i64 d)) (w.heap.size + 1 + 1) (.string ⟨#[]⟩) (.int .i64 0) (.int .i64 0) (.int .i64 0) (.int .i64 0) (.int .i64 0)
theorem PtZ.fin0 {w wr : World} {B : Nat} {t : TR} {A : Option Addr} {n c : Nat} (h : PtZ w wr B t A n c) (hB : B ≤ w.heap.size + 1) :
    Ext w (ptF0 w wr A n c t.dt) ∧ TrAt (ptF0 w wr A n c t.dt) (w.heap.size + 1) A n c t.dt ∧ SafeK (ptF0 w wr A n c t.dt) B 139 5 (.slice A n c) (tpsCells t.ps) ∧ ChAt (ptF0 w wr A n c t.dt) (w.heap.size + 1 + 1) zeroC := h.fin hB zeroC
/-- A new chain's block, whatever it holds. -/
def GChB (B : Nat) : VPred := fun v w => ∃ g, v = .pointer (some ⟨g, 0, none⟩) ∧ B ≤ g ∧ BlkT w g 28 6
/-- A new chain's block that holds the chain. -/
def GChQ (B : Nat) (c : CH) : VPred := fun v w => ∃ g, v = .pointer (some ⟨g, 0, none⟩) ∧ B ≤ g ∧ ChAt w g c
theorem GChQ.ext {B : Nat} {c : CH} (v : Value) (w w' : World) (e : Ext w w') (h : GChQ B c v w) : GChQ B c v w' := by
  obtain ⟨g, h1, h2, h3⟩ := h
  exact ⟨g, h1, h2, h3.ext e⟩
/-- The type of a chain's block alone. -/
def chT : List Nat := [28]
theorem GChQ.st {B : Nat} {c : CH} {S : List Nat} {G : Nat → Prop} (T : Nat) (hT : T ≠ 28) (v : Value) (w w' : World) (e : (RG S G).st T w w') (h : GChQ B c v w) : GChQ B c v w' := by
  obtain ⟨g, h1, h2, h3⟩ := h
  exact ⟨g, h1, h2, e.2.other h3 (fun q => hT (List.mem_singleton.1 q).symm)⟩
theorem stable_GChB (B : Nat) (S : List Nat) (G : Nat → Prop) : (RG S G).stable (GChB B) := fun v w w' r ⟨g, h1, h2, h3⟩ => ⟨g, h1, h2, h3.rg r⟩
theorem run_allocCh (W : World) : (Instr.alloc 28 true (.tuple #[])).run Tryz.prog W = .ok (.pointer (some ⟨W.heap.size, 0, none⟩)) (W.alloc (.cells #[.string ⟨#[]⟩, .int .i64 0, .int .i64 0, .int .i64 0, .int .i64 0, .int .i64 0] 28)) := by go_simp
section
open Go.Proofs.YtkjplpmogfmhkaaGreatDoor.Gd (GRun)
variable {r : Gt.Rl} {ops : Array Oper} {Q : Exit → Act → World → Prop} {w0 : World} {R : Act → World → Prop} {ss : List (Nat × VPred)}
theorem Gt.wpX_allocCh {o : Oper} {rest : List Oper} {a : Act} {hs : List (Nat × VPred)} {d : Nat} (B : Nat) (hB : ∀ m : r.Lt w0, B ≤ m.1.heap.size) (hst : r.stable (GChB B)) (hg : GRun ops o a hs)
    (hd : o.dst = some d) (hz : Nat.blt d a.tmps.size = true) (ho : o.op = .alloc 28) (hin : (opTmps o).all (fun t => Nat.blt t a.tmps.size) = true)
    (hr : Gt.wpX r Tryz.prog ops Q w0 R ss rest (a.put (some d) undef) ((d, GChB B) :: hs)) : Gt.wpX r Tryz.prog ops Q w0 R ss (o :: rest) a hs :=
  Gt.wpX_newL hg (GChB B) hst (fun _ => Instr.alloc 28 true (.tuple #[])) hd hz (by unfold notSelect; rw [ho]) hin (fun f => by unfold execOp; simp only [ho])
    (fun m f hf => ⟨_, _, run_allocCh m.1, (Below.refl _ _).alloc (Nat.le_refl _) _, _, rfl, hB m, _, heap_alloc_new' m.1 _, rfl⟩) hr
end
/-- What Path comes to from a state on. -/
def ptR (t : TR) (l : List TC) (r : TR × CH × Int) : Prop := pathO t l = r
theorem pathO_nil (t : TR) : pathO t [] = (t, zeroC, 16) := rfl
theorem pathO_long {t : TR} {l : List TC} (h : 4 < l.length) : pathO t l = (t, zeroC, 72) := by
  cases l with
  | nil => simp at h
  | cons x l =>
    unfold pathO
    simp only [if_pos h]
theorem pathO_no {t : TR} {x : TC} {l : List TC} (h4 : (x :: l).length ≤ 4) (hs : startO t x.au = none) : pathO t (x :: l) = (t, zeroC, 70) := by
  unfold pathO
  simp only [if_neg (show ¬ 4 < (x :: l).length by omega), hs]
theorem startB_some {t : TR} {h : List UInt8} (q : startB t h = true) : startO t h = some (startC t h) := by
  unfold startB startC at *
  cases hs : startO t h with
  | none => rw [hs] at q; cases q
  | some c => rfl
theorem startB_none {t : TR} {h : List UInt8} (q : startB t h = false) : startO t h = none := by
  unfold startB at q
  cases hs : startO t h with
  | none => rfl
  | some c => rw [hs] at q; cases q
theorem runP_at {t : TR} {c : CH} {p : List TC} {k : Nat} {x : TC} (hp : p[k]? = some x) : runP t c (p.drop k) = if exK t c x ≠ 0 then (t, zeroC, exK t c x) else runP (learnT t c x) (nextC c x) (p.drop (k + 1)) := by
  obtain ⟨hk, rfl⟩ := List.getElem?_eq_some_iff.1 hp
  rw [List.drop_eq_getElem_cons hk]
  rfl
theorem runP_nil (t : TR) (c : CH) : runP t c [] = (t, c, 0) := rfl
set_option maxHeartbeats 8000000 in
theorem path26_any {v lv : Value} (t : TR) (p : List TC) (w : World) (hv : TrR w v t) (hp : RdC w lv p) (hs : smR t.ps) (hx : ∀ x ∈ p, smT x) (hl : t.ps.length ≤ 1000000000000) (E : KTab w 1) :
    Calls Tryz.prog 31 #[v, lv] w (ImpR w 0 (pathO t p).1 (pathO t p).2.1 (pathO t p).2.2) := by
  have HP := Lib.hid (fun W (e : Ext w W) => copied_any t W (hv.ext e) hl)
  have HS := Lib.hid (fun (u : TR) (v : Value) (h : List UInt8) W (hu : TrR W v u) (hs : smR u.ps) => start_any u h W hu hs)
  have HI := Lib.hid (fun (u : TR) (v : Value) (b : CH) (x : TC) W (e : Ext w W) (hu : TrR W v u) (hs : smR u.ps) (hx : smT x) (hl : u.ps.length ≤ 1000000000000) => import_any u b x W hu hs hx hl (E.below e))
  obtain ⟨r, hr0⟩ : ∃ r, pathO t p = r := ⟨_, rfl⟩
  rw [hr0]
  have HR := Lib.hid hr0
  have HSM := Lib.hid hs
  have HXM := Lib.hid hx
  have HLL := Lib.hid hl
  obtain ⟨A, n, c, rfl, hr⟩ := hv
  obtain ⟨Al, nl, cl, rfl, hn, hnc, hcm, hel⟩ := hp.at_
  subst hn
  have HEL := Lib.hid hel
  unfold maxLen at hcm
  obtain ⟨wz, hwz, T0, R0, Q0, x0⟩ := pt_alloc w A n c t.dt
  clear hr hs hx hl hel hp hr0 E
  go_enter Tryz.func31, Tryz.ntmps31
  go_upto_region 1 with fail
  rw [← hwz]
  clear hwz
  obtain ⟨z0, z1⟩ := T0.cells
  have zl := T0.lt
  go_wp2_with fail
  refine (HP.out _ x0).mono ?_
  rintro e w2 ⟨b2, A2, n2, c2, rfl, S2⟩
  have P2 : PtZ w ((w2.setCell ⟨w.heap.size, 0, none⟩ (.slice A2 n2 c2)).setCell ⟨w.heap.size, 1, none⟩ (.int .i64 t.dt)) 0 t A2 n2 c2 := by
    have T2 := T0.ext b2
    have R2 := R0.ext b2
    have Q2 := Q0.ext b2
    exact ⟨T2.setPs.setDt t.dt, S2.putT T2 (Nat.zero_le _) A2 n2 c2 t.dt, (R2.other (by omega)).other (by omega), (Q2.other (by omega)).other (by omega), ext_set (ext_set (x0.tr b2) (Nat.le_refl _)) (Nat.le_refl _)⟩
  have T2 := T0.ext b2
  obtain ⟨y0, y1⟩ := T2.cells
  have yf0 := T2.frozen 0
  have yf1 := T2.frozen 1
  have yl := T2.lt
  clear z0 z1 zl T0 R0 Q0
  obtain ⟨wn, hwn⟩ : ∃ wn, wn = (w2.setCell ⟨w.heap.size, 0, none⟩ (.slice A2 n2 c2)).setCell ⟨w.heap.size, 1, none⟩ (.int .i64 t.dt) := ⟨_, rfl⟩
  rw [← hwn] at P2
  go_upto_region 2 with fail
  rw [← hwn]
  clear hwn y0 y1 yf0 yf1 yl T2 S2 b2 x0
  by_cases h0 : p.length = 0
  · have hp0 : p = [] := List.eq_nil_of_length_eq_zero h0
    have hb : ((p.length : Int) == 0) = true := by simp [h0]
    have HN := Lib.hid (show r = (t, zeroC, 16) by rw [← HR.out, hp0]; rfl)
    clear h0 hp0
    have FI := Lib.hid (P2.fin0 (Nat.zero_le _))
    obtain ⟨z0, z1⟩ := P2.tz.cells
    have zl := P2.tz.lt
    obtain ⟨y0, y1⟩ := P2.r.cells
    have yf0 := P2.r.frozen 0
    have yf1 := P2.r.frozen 1
    have yl := P2.r.lt
    obtain ⟨q0, q1, q2, q3, q4, q5⟩ := P2.q.cells0
    have qf0 := P2.q.frozen 0
    have qf1 := P2.q.frozen 1
    have qf2 := P2.q.frozen 2
    have qf3 := P2.q.frozen 3
    have qf4 := P2.q.frozen 4
    have qf5 := P2.q.frozen 5
    have ql := P2.q.lt
    go_wp2_with fail
    refine bodyPost_ret (v := .tuple #[.agg #[.slice A2 n2 c2, .int .i64 t.dt], chV zeroC, .int .i64 16]) ?_ rfl ⟨FI.out.1, _, _, _, by rw [HN.out], by rw [HN.out]; exact FI.out.2.2.1⟩
    obtain ⟨t0, t1⟩ := FI.out.2.1.cells
    obtain ⟨r0, r1, r2, r3, r4, r5⟩ := FI.out.2.2.2.cells0
    clear z0 z1 zl y0 y1 yf0 yf1 yl q0 q1 q2 q3 q4 q5 qf0 qf1 qf2 qf3 qf4 qf5 ql
    unfold ptF0 at t0 t1 r0 r1 r2 r3 r4 r5
    simp [results, Tryz.results31, go_sem, chV, zeroC, bstr, t0, t1, r0, r1, r2, r3, r4, r5]
  have hb : ((p.length : Int) == 0) = false := beq_false_of_ne (by omega)
  by_cases h4 : 4 < p.length
  · have h4' : (4 : Int) < (p.length : Int) := by omega
    have HN := Lib.hid (show r = (t, zeroC, 72) by rw [← HR.out]; exact pathO_long h4)
    clear h0 h4
    have FI := Lib.hid (P2.fin0 (Nat.zero_le _))
    obtain ⟨z0, z1⟩ := P2.tz.cells
    have zl := P2.tz.lt
    obtain ⟨y0, y1⟩ := P2.r.cells
    have yf0 := P2.r.frozen 0
    have yf1 := P2.r.frozen 1
    have yl := P2.r.lt
    obtain ⟨q0, q1, q2, q3, q4, q5⟩ := P2.q.cells0
    have qf0 := P2.q.frozen 0
    have qf1 := P2.q.frozen 1
    have qf2 := P2.q.frozen 2
    have qf3 := P2.q.frozen 3
    have qf4 := P2.q.frozen 4
    have qf5 := P2.q.frozen 5
    have ql := P2.q.lt
    go_wp2_with fail
    refine bodyPost_ret (v := .tuple #[.agg #[.slice A2 n2 c2, .int .i64 t.dt], chV zeroC, .int .i64 72]) ?_ rfl ⟨FI.out.1, _, _, _, by rw [HN.out], by rw [HN.out]; exact FI.out.2.2.1⟩
    obtain ⟨t0, t1⟩ := FI.out.2.1.cells
    obtain ⟨r0, r1, r2, r3, r4, r5⟩ := FI.out.2.2.2.cells0
    clear z0 z1 zl y0 y1 yf0 yf1 yl q0 q1 q2 q3 q4 q5 qf0 qf1 qf2 qf3 qf4 qf5 ql
    unfold ptF0 at t0 t1 r0 r1 r2 r3 r4 r5
    simp [results, Tryz.results31, go_sem, chV, zeroC, bstr, t0, t1, r0, r1, r2, r3, r4, r5]
  have h4' : ¬ (4 : Int) < (p.length : Int) := by omega
  obtain ⟨x, l, rfl⟩ : ∃ x l, p = x :: l := by
    cases p with
    | nil => exact absurd rfl h0
    | cons x l => exact ⟨x, l, rfl⟩
  have HLE := Lib.hid (show (x :: l).length ≤ 4 by omega)
  obtain ⟨bl, ol, rfl, hbl, hcl⟩ := HEL.out (by omega)
  obtain ⟨e0, _⟩ := hcl 0 x rfl
  rw [Nat.zero_mul, Nat.add_zero] at e0
  have HCL := Lib.hid hcl
  have i0 : (0 : Int) < ((x :: l).length : Int) := by omega
  have i0' : 0 < (x :: l).length := by omega
  have HR2 := HR
  clear hcl h0 h4
  generalize hlen : (x :: l).length = len at *
  have HLN := Lib.hid hlen
  clear hlen

  go_wp2_with fail
  refine Gt.wp_region_X (r := RG chT (fun k => wn.heap.size ≤ k)) 11 (by kernel_rfl) (by kernel_rfl) ?_
  simp only [List.take_succ_cons, List.take_zero, List.drop_succ_cons, List.drop_zero]
  intro wq hw1
  have LR : ∀ m : (RG chT (fun k => wn.heap.size ≤ k)).Lt wq, RgS chT (fun k => wn.heap.size ≤ k) wn m.1 := fun m => RgS.tr hw1 m.2
  have LB : ∀ m : (RG chT (fun k => wn.heap.size ≤ k)).Lt wq, Ext wn m.1 := fun m => (LR m).below (fun _ h => h) (Nat.le_refl _)
  have LE : ∀ m : (RG chT (fun k => wn.heap.size ≤ k)).Lt wq, Ext w m.1 := fun m => P2.ext.tr (LB m)
  have TT := fun m : (RG chT (fun k => wn.heap.size ≤ k)).Lt wq => P2.tz.ext (LB m)
  have g0 := fun m => (TT m).cells.1
  have g1 := fun m => (TT m).cells.2
  have k0 := fun m : (RG chT (fun k => wn.heap.size ≤ k)).Lt wq => ((LE m).cell (p := ⟨bl, ol, none⟩) hbl).trans e0
  repeat (refine Gt.wpX_pure (by first | exact trivial | exact ⟨_, rfl, rfl, rfl⟩) rfl rfl rfl rfl rfl (fun K hK => ?_); go_big_quiet_op; refine hK _ ?_; clear hK K)
  refine Gt.wpX_callFn (by first | exact trivial | exact ⟨_, rfl, rfl, rfl⟩) (.tuple #[chV (startC t x.au), .bool (startB t x.au)]) (args := [.agg #[.slice A2 n2 c2, .int .i64 t.dt], .string (bstr x.au)]) rfl rfl rfl rfl (by kernel_rfl) rfl rfl (fun m => (HS.out t _ x.au m.1 (P2.v.tr.ext (LB m)) HSM.out)) ?_
  simp only [Act.put, List.setIfInBounds_toArray, List.set_cons_zero, List.set_cons_succ]
  repeat (refine Gt.wpX_pure (by first | exact trivial | exact ⟨_, rfl, rfl, rfl⟩) rfl rfl rfl rfl rfl (fun K hK => ?_); go_big_quiet_op; refine hK _ ?_; clear hK K)
  refine Gt.wpX_allocCh wn.heap.size (fun m => (LB m).size) (stable_GChB _ _ _) (by first | exact trivial | exact ⟨_, rfl, rfl, rfl⟩) rfl rfl rfl rfl ?_
  simp only [Act.put, List.setIfInBounds_toArray, List.set_cons_zero, List.set_cons_succ]
  refine Gt.wpX_store (by first | exact trivial | exact ⟨_, rfl, rfl, rfl⟩) (GChQ wn.heap.size (startC t x.au)) (fun f => f 7) (fun _ => chV (startC t x.au)) rfl rfl rfl rfl rfl (fun _ => rfl) (fun _ => rfl) GChQ.ext GChQ.st (fun m f hf => ?_) ?_
  · obtain ⟨g, e7, hg, bg⟩ := hf 7 _ rfl rfl
    rw [e7]
    obtain ⟨w9, q1, q2, q3⟩ := ch_store bg (startC t x.au)
    exact ⟨w9, q1, ⟨List.mem_cons_self, q3 _ hg⟩, g, rfl, hg, q2⟩
  refine Gt.wpX_endL (fun m f hf hqs => ?_)
  have hq1 : GChQ wn.heap.size (startC t x.au) (f 7) m.1 := hqs _ List.mem_cons_self
  obtain ⟨g7, e7, hg7, Q7⟩ := hq1
  simp only [fillH]
  simp only [Act.put, List.setIfInBounds_toArray, List.set_cons_zero, List.set_cons_succ]
  rw [e7]
  have Lm := LB m
  obtain ⟨wm, hwm⟩ := m
  have Lm : Ext wn wm := Lm
  have Q7 : ChAt wm g7 (startC t x.au) := Q7
  have PM := P2.tr Lm
  have hg8 : w.heap.size + 1 + 1 < g7 := by have := P2.q.lt; omega
  have HG8 := Lib.hid hg8
  clear LR LB LE TT g0 g1 k0 hf hqs e7 P2 hg7 hg8 e0
  show wpList _ _ _ _ _ _
  obtain ⟨sb, hsb⟩ : ∃ b, startB t x.au = b := ⟨_, rfl⟩
  rw [hsb]
  have HSB := Lib.hid hsb
  clear hsb
  cases sb
  · have HN := Lib.hid (show r = (t, zeroC, 70) by rw [← HR.out]; exact pathO_no (by rw [HLN.out]; exact HLE.out) (startB_none HSB.out))
    have FI := Lib.hid (PM.fin0 (Nat.zero_le _))
    obtain ⟨z0, z1⟩ := PM.tz.cells
    have zl := PM.tz.lt
    obtain ⟨y0, y1⟩ := PM.r.cells
    have yf0 := PM.r.frozen 0
    have yf1 := PM.r.frozen 1
    have yl := PM.r.lt
    obtain ⟨q0, q1, q2, q3, q4, q5⟩ := PM.q.cells0
    have qf0 := PM.q.frozen 0
    have qf1 := PM.q.frozen 1
    have qf2 := PM.q.frozen 2
    have qf3 := PM.q.frozen 3
    have qf4 := PM.q.frozen 4
    have qf5 := PM.q.frozen 5
    have ql := PM.q.lt
    go_wp2_with fail
    refine bodyPost_ret (v := .tuple #[.agg #[.slice A2 n2 c2, .int .i64 t.dt], chV zeroC, .int .i64 70]) ?_ rfl ⟨FI.out.1, _, _, _, by rw [HN.out], by rw [HN.out]; exact FI.out.2.2.1⟩
    obtain ⟨t0, t1⟩ := FI.out.2.1.cells
    obtain ⟨r0, r1, r2, r3, r4, r5⟩ := FI.out.2.2.2.cells0
    clear z0 z1 zl y0 y1 yf0 yf1 yl q0 q1 q2 q3 q4 q5 qf0 qf1 qf2 qf3 qf4 qf5 ql
    unfold ptF0 at t0 t1 r0 r1 r2 r3 r4 r5
    simp [results, Tryz.results31, go_sem, chV, zeroC, bstr, t0, t1, r0, r1, r2, r3, r4, r5]
  have HRN := Lib.hid (show r = runP t (startC t x.au) (x :: l) by rw [← HR.out]; exact pathO_cons (by rw [HLN.out]; exact HLE.out) (startB_some HSB.out))
  generalize startC t x.au = c0 at *
  go_wp2_with fail
  go_loopw [39] (fun i wr => ∃ (k : Nat) (tk : TR) (ck : CH) (Ak : Option Addr) (nk ckk : Nat), k ≤ len ∧ i = .int .i64 (k : Int) ∧ PtZ w wr 0 tk Ak nk ckk ∧ ChAt wr g7 ck ∧ Hid (r = runP tk ck ((x :: l).drop k)) ∧ Hid (smR tk.ps) ∧ Hid (tk.ps.length ≤ 1000000000000)) (fun i _ => len - (intOf i).toNat)
  case atStart => exact ⟨0, t, c0, A2, n2, c2, Nat.zero_le _, rfl, PM, Q7, HRN, HSM, HLL⟩
  case round =>
    clear PM Q7 HRN
    obtain ⟨k, tk, ck, Ak, nk, cck, hk, rfl, Z, QK, HRK, HSK, HLK⟩ := hrel
    by_cases hlt : k < len
    case neg =>
      obtain rfl : k = len := by omega
      have HN := Lib.hid (show r = (tk, ck, 0) by rw [HRK.out, ← HLN.out, List.drop_length]; rfl)
      go_wp2_with fail
      refine Gt.wp_region_X (r := RG resT (fun k => w.heap.size + 1 ≤ k ∧ k < w.heap.size + 1 + 1 + 1)) 4 (by kernel_rfl) (by kernel_rfl) ?_
      simp only [List.take_succ_cons, List.take_zero, List.drop_succ_cons, List.drop_zero]
      intro wq hw1
      have hgo : ∀ k, (w.heap.size + 1 ≤ k ∧ k < w.heap.size + 1 + 1 + 1) → w.heap.size + 1 ≤ k := fun k h => h.1
      have hB9 : w.heap.size + 1 ≤ wr.heap.size := Nat.le_of_lt Z.r.lt
      have LR : ∀ m : (RG resT (fun k => w.heap.size + 1 ≤ k ∧ k < w.heap.size + 1 + 1 + 1)).Lt wq, RgS resT (fun k => w.heap.size + 1 ≤ k ∧ k < w.heap.size + 1 + 1 + 1) wr m.1 := fun m => RgS.tr hw1 m.2
      have LB : ∀ m : (RG resT (fun k => w.heap.size + 1 ≤ k ∧ k < w.heap.size + 1 + 1 + 1)).Lt wq, Below (w.heap.size + 1) wr m.1 := fun m => (LR m).below hgo hB9
      have LE : ∀ m : (RG resT (fun k => w.heap.size + 1 ≤ k ∧ k < w.heap.size + 1 + 1 + 1)).Lt wq, Ext w m.1 := fun m => Z.ext.trans ((LB m).mono (by omega))
      have TT := fun m : (RG resT (fun k => w.heap.size + 1 ≤ k ∧ k < w.heap.size + 1 + 1 + 1)).Lt wq => Z.tz.bel (LB m) (by omega)
      have TQ : ∀ m : (RG resT (fun k => w.heap.size + 1 ≤ k ∧ k < w.heap.size + 1 + 1 + 1)).Lt wq, ChAt m.1 g7 ck := fun m => (LR m).keep QK (fun h => by have := HG8.out; omega)
      have g0 := fun m => (TT m).cells.1
      have g1 := fun m => (TT m).cells.2
      have kb0 := fun m => (TQ m).cells.1
      have kb1 := fun m => (TQ m).cells.2.1
      have kb2 := fun m => (TQ m).cells.2.2.1
      have kb3 := fun m => (TQ m).cells.2.2.2.1
      have kb4 := fun m => (TQ m).cells.2.2.2.2.1
      have kb5 := fun m => (TQ m).cells.2.2.2.2.2
      repeat (refine Gt.wpX_pure (by first | exact trivial | exact ⟨_, rfl, rfl, rfl⟩) rfl rfl rfl rfl rfl (fun K hK => ?_); go_big_quiet_op; refine hK _ ?_; clear hK K)
      refine Gt.wpX_store (by first | exact trivial | exact ⟨_, rfl, rfl, rfl⟩) (fun _ => TrQ (w.heap.size + 1) 0 tk.ps tk.dt) (fun _ => .pointer (some ⟨w.heap.size + 1, 0, none⟩)) (fun _ => .agg #[.slice Ak nk cck, .int .i64 tk.dt]) rfl rfl rfl rfl rfl (fun _ => rfl) (fun _ => rfl) (fun _ => TrQ.ext) (fun T hT _ => TrQ.st (fun _ _ => Nat.zero_le _) T hT) (fun m f hf => ?_) ?_
      · obtain ⟨w9, q1, q2, q3⟩ := tr_store (Z.r.b.rg (LR m)) Ak nk cck tk.dt
        have hin : w.heap.size + 1 ≤ w.heap.size + 1 ∧ w.heap.size + 1 < w.heap.size + 1 + 1 + 1 := by omega
        exact ⟨w9, q1, ⟨tr_resT, q3 _ hin⟩, Ak, nk, cck, q2, (Z.s.rg tp_resT (fun _ _ => Nat.zero_le _) (LR m)).rg1 tp_ne_tr (fun _ _ => Nat.zero_le _) (q3 (fun k => w.heap.size + 1 ≤ k ∧ k < w.heap.size + 1 + 1 + 1) hin)⟩
      refine Gt.wpX_store (by first | exact trivial | exact ⟨_, rfl, rfl, rfl⟩) (fun _ wx => ChAt wx (w.heap.size + 1 + 1) ck) (fun _ => .pointer (some ⟨w.heap.size + 1 + 1, 0, none⟩)) (fun f => chV ck) rfl rfl rfl rfl rfl (fun _ => rfl) (fun _ => rfl) (fun _ _ _ e h => h.ext e) (fun T hT _ => ch_st T hT) (fun m f hf => ?_) ?_
      · obtain ⟨w9, q1, q2, q3⟩ := ch_store (Z.q.b.rg (LR m)) ck
        exact ⟨w9, q1, ⟨ch_resT, q3 _ (by omega)⟩, q2⟩
      refine Gt.wpX_endL (fun m f hf hqs => ?_)
      have hq2 := hqs _ List.mem_cons_self
      have hq1 := hqs _ (List.mem_cons_of_mem _ List.mem_cons_self)
      simp only at hq1 hq2
      clear hqs
      obtain ⟨A5, n5, c5, T5, S5⟩ := hq1
      rw [fillH_nil]
      have Lm := LE m
      obtain ⟨wm, hwm⟩ := m
      have Lm : Ext w wm := Lm
      have HQ2 := Lib.hid hq2
      clear g0 g1 kb0 kb1 kb2 kb3 kb4 kb5 TT TQ hf LE LB LR hq2
      show wpList _ _ _ _ _ _
      go_wp2_with fail
      refine bodyPost_ret (v := .tuple #[.agg #[.slice A5 n5 c5, .int .i64 tk.dt], chV ck, .int .i64 0]) ?_ rfl ⟨Lm, A5, n5, c5, by rw [HN.out], by rw [HN.out]; exact S5⟩
      obtain ⟨t0, t1⟩ := T5.cells
      obtain ⟨q0, q1, q2, q3, q4, q5⟩ := HQ2.out.cells
      simp [results, Tryz.results31, go_sem, chV, t0, t1, q0, q1, q2, q3, q4, q5]
    case pos =>
    obtain ⟨y, hy⟩ : ∃ y, (x :: l)[k]? = some y := ⟨_, List.getElem?_eq_getElem (by rw [HLN.out]; exact hlt)⟩
    have HSY := Lib.hid (HXM.out y (List.mem_of_getElem? hy))
    have hcy := HCL.out k y hy
    have HY := Lib.hid hy
    have xw := Z.ext
    have l0 := (xw.cell (p := ⟨bl, ol + k * 9, none⟩) hbl).trans hcy.1
    have l1 := (xw.cell (p := ⟨bl, ol + k * 9 + 1, none⟩) hbl).trans hcy.2.1
    have l2 := (xw.cell (p := ⟨bl, ol + k * 9 + 2, none⟩) hbl).trans hcy.2.2.1
    have l3 := (xw.cell (p := ⟨bl, ol + k * 9 + 3, none⟩) hbl).trans hcy.2.2.2.1
    have l4 := (xw.cell (p := ⟨bl, ol + k * 9 + 4, none⟩) hbl).trans hcy.2.2.2.2.1
    have l5 := (xw.cell (p := ⟨bl, ol + k * 9 + 5, none⟩) hbl).trans hcy.2.2.2.2.2.1
    have l6 := (xw.cell (p := ⟨bl, ol + k * 9 + 6, none⟩) hbl).trans hcy.2.2.2.2.2.2.1
    have l7 := (xw.cell (p := ⟨bl, ol + k * 9 + 7, none⟩) hbl).trans hcy.2.2.2.2.2.2.2.1
    have l8 := (xw.cell (p := ⟨bl, ol + k * 9 + 8, none⟩) hbl).trans hcy.2.2.2.2.2.2.2.2
    have hbw : bl < wr.heap.size := Nat.lt_of_lt_of_le hbl xw.size
    clear hcy hy xw
    have wi1 : IntKind.i64.wrap ((k : Int)) = (k : Int) := IntWalk.i64_in _ (by omega)
    have zi1 : (0 : Int) ≤ (k : Int) := by omega
    have li1 : (k : Int) < (len : Int) := by omega
    have ti1 : ((k : Int)).toNat = k := by omega
    obtain ⟨wa, hwa, ea, TA⟩ := tc_alloc wr y
    go_upto_region 12 with fail
    rw [← hwa]
    clear hwa l0 l1 l2 l3 l4 l5 l6 l7 l8 hbw
    have ZA := Z.tr ea
    have QA := QK.ext ea
    obtain ⟨z0, z1⟩ := ZA.tz.cells
    have zl := ZA.tz.lt
    obtain ⟨y0, y1, y2, y3, y4, y5⟩ := QA.cells
    have yl := QA.lt
    obtain ⟨p0, p1, p2, p3, p4, p5, p6, p7, p8⟩ := (TA).cells
    have pf0 := (TA).frozen 0
    have pf1 := (TA).frozen 1
    have pf2 := (TA).frozen 2
    have pf3 := (TA).frozen 3
    have pf4 := (TA).frozen 4
    have pf5 := (TA).frozen 5
    have pf6 := (TA).frozen 6
    have pf7 := (TA).frozen 7
    have pf8 := (TA).frozen 8
    have pl := (TA).lt
    go_wp2_with fail
    refine (HI.out tk _ ck y _ ZA.ext ZA.v.tr HSK.out HSY.out HLK.out).mono ?_
    rintro e w3 ⟨b3, A3, n3, c3, rfl, S3⟩
    have Z3 := ZA.tr b3
    have Q3 := QA.ext b3
    clear z0 z1 zl y0 y1 y2 y3 y4 y5 yl ZA QA TA ea b3
    clear p0 pf0 p1 pf1 p2 pf2 p3 pf3 p4 pf4 p5 pf5 p6 pf6 p7 pf7 p8 pf8 pl
    obtain ⟨tn, htn⟩ : ∃ u, impT tk ck y = u := ⟨_, rfl⟩
    obtain ⟨cn, hcn⟩ : ∃ u, impC tk ck y = u := ⟨_, rfl⟩
    obtain ⟨ek, hek⟩ : ∃ u, exK tk ck y = u := ⟨_, rfl⟩
    rw [htn] at S3 ⊢
    rw [hcn, hek]
    have HTN := Lib.hid htn
    have HCN := Lib.hid hcn
    have HEK := Lib.hid hek
    clear htn hcn hek
    unfold chV
    have P3 := Z3.put (t' := tn) (Nat.zero_le _) S3
    have hne : g7 ≠ w.heap.size := by have := HG8.out; omega
    have Qp : ChAt ((w3.setCell ⟨w.heap.size, 0, none⟩ (.slice A3 n3 c3)).setCell ⟨w.heap.size, 1, none⟩ (.int .i64 tn.dt)) g7 ck := (Q3.other hne).other hne
    have P4 := P3.putC (Nat.zero_le _) Qp HG8.out cn
    have Q4 := ChAt.setC Qp cn
    obtain ⟨wn4, hwn4⟩ : ∃ wx, wx = setC ((w3.setCell ⟨w.heap.size, 0, none⟩ (.slice A3 n3 c3)).setCell ⟨w.heap.size, 1, none⟩ (.int .i64 tn.dt)) g7 cn := ⟨_, rfl⟩
    rw [← hwn4] at P4 Q4
    have hwn5 : wn4 = (((((((w3.setCell ⟨w.heap.size, 0, none⟩ (.slice A3 n3 c3)).setCell ⟨w.heap.size, 1, none⟩ (.int .i64 tn.dt)).setCell ⟨g7, 0, none⟩ (.string (bstr cn.ho))).setCell ⟨g7, 1, none⟩ (.int .i64 cn.key)).setCell ⟨g7, 2, none⟩ (.int .i64 cn.role)).setCell ⟨g7, 3, none⟩ (.int .i64 cn.rights)).setCell ⟨g7, 4, none⟩ (.int .i64 cn.fr)).setCell ⟨g7, 5, none⟩ (.int .i64 cn.to) := hwn4
    clear hwn4
    clear P3 Qp hne
    have HNE := Lib.hid (show w.heap.size ≠ g7 by have := HG8.out; omega)
    obtain ⟨z0, z1⟩ := Z3.tz.cells
    have zf0 := Z3.tz.frozen 0
    have zf1 := Z3.tz.frozen 1
    have zl := Z3.tz.lt
    obtain ⟨y0, y1, y2, y3, y4, y5⟩ := Q3.cells
    have yf0 := Q3.frozen 0
    have yf1 := Q3.frozen 1
    have yf2 := Q3.frozen 2
    have yf3 := Q3.frozen 3
    have yf4 := Q3.frozen 4
    have yf5 := Q3.frozen 5
    have yl := Q3.lt
    have hgw := HG8.out
    go_upto_region 14 with fail
    rw [← hwn5]
    clear hwn5 z0 z1 zf0 zf1 zl y0 y1 y2 y3 y4 y5 yf0 yf1 yf2 yf3 yf4 yf5 yl Z3 Q3 S3 hgw
    by_cases hk0 : ek = 0
    case neg =>
      have hb0 : (ek != 0) = true := by simpa using hk0
      have HN := Lib.hid (show r = (tn, zeroC, ek) by
        rw [HRK.out, runP_at HY.out, HEK.out, if_pos hk0, ← HTN.out]
        unfold impT
        rw [HEK.out, if_pos hk0])
      clear hk0
      have FI := Lib.hid (P4.fin0 (Nat.zero_le _))
      obtain ⟨z0, z1⟩ := P4.tz.cells
      have zl := P4.tz.lt
      obtain ⟨y0, y1⟩ := P4.r.cells
      have yf0 := P4.r.frozen 0
      have yf1 := P4.r.frozen 1
      have yl := P4.r.lt
      obtain ⟨q0, q1, q2, q3, q4, q5⟩ := P4.q.cells0
      have qf0 := P4.q.frozen 0
      have qf1 := P4.q.frozen 1
      have qf2 := P4.q.frozen 2
      have qf3 := P4.q.frozen 3
      have qf4 := P4.q.frozen 4
      have qf5 := P4.q.frozen 5
      have ql := P4.q.lt
      go_wp2_with fail
      refine bodyPost_ret (v := .tuple #[.agg #[.slice A3 n3 c3, .int .i64 tn.dt], chV zeroC, .int .i64 ek]) ?_ rfl ⟨FI.out.1, _, _, _, by rw [HN.out], by rw [HN.out]; exact FI.out.2.2.1⟩
      obtain ⟨t0, t1⟩ := FI.out.2.1.cells
      obtain ⟨r0, r1, r2, r3, r4, r5⟩ := FI.out.2.2.2.cells0
      clear z0 z1 zl y0 y1 yf0 yf1 yl q0 q1 q2 q3 q4 q5 qf0 qf1 qf2 qf3 qf4 qf5 ql
      unfold ptF0 at t0 t1 r0 r1 r2 r3 r4 r5
      simp [results, Tryz.results31, go_sem, chV, zeroC, bstr, t0, t1, r0, r1, r2, r3, r4, r5]
    have hb0 : (ek != 0) = false := by simp [hk0]
    have HRK2 := Lib.hid (show r = runP tn cn ((x :: l).drop (k + 1)) by
      rw [HRK.out, runP_at HY.out, HEK.out, if_neg (not_not_intro hk0), ← HTN.out, ← HCN.out]
      unfold impT impC
      rw [HEK.out, if_neg (not_not_intro hk0), if_neg (not_not_intro hk0)])
    have HE0 := Lib.hid (show exK tk ck y = 0 by rw [HEK.out, hk0])
    have HSN := Lib.hid (show smR tn.ps by
      rw [← HTN.out]
      unfold impT
      rw [if_neg (not_not_intro HE0.out)]
      exact learn_sm HSK.out HSY.out)
    have HLN2 := Lib.hid (show tn.ps.length ≤ 1000000000000 by
      rw [← HTN.out]
      unfold impT
      rw [if_neg (not_not_intro HE0.out)]
      exact learn_len (exK_zero HE0.out).1)
    subst hk0
    go_wp2_with fail
    go_roundw
    case rel =>
      repeat apply Exists.intro
      exact ⟨⟨k + 1, tn, cn, A3, n3, c3, by omega, by go_num, P4, Q4, HRK2, HSN, HLN2⟩, rfl⟩
    case measure => simp [intOf]; omega
end Go.Proofs.YtkjplpmogfmhkaaGreatDoor

namespace Go.Proofs.YtkjplpmogfmhkaaGreatDoor
open Go.RowKit
set_option linter.unusedVariables false
set_option maxRecDepth 100000

/-- The three results, as they come. -/
def GIm (B : Nat) (t : TR) (c : CH) (k : Int) : VPred := fun v w => ∃ A n cc, v = .tuple #[.agg #[.slice A n cc, .int .i64 t.dt], chV c, .int .i64 k] ∧ SafeK w B 139 5 (.slice A n cc) (tpsCells t.ps)
theorem stable_GIm {B : Nat} {G : Nat → Prop} (hB : ∀ k, G k → B ≤ k) (t : TR) (c : CH) (k : Int) : (RG resT G).stable (GIm B t c k) := fun v w w' r ⟨A, n, cc, h1, h2⟩ => ⟨A, n, cc, h1, h2.rg tp_resT hB r⟩
theorem ImpR.gim {w w' : World} {B B' : Nat} {t : TR} {c : CH} {k : Int} {e : Ending} (h : ImpR w B t c k e w') (hB : B ≤ B') : ∃ v, e = .returned v ∧ Ext w w' ∧ GIm B' t c k v w' := by
  obtain ⟨h1, A, n, cc, h2, h3⟩ := h
  exact ⟨_, h2, h1, A, n, cc, rfl, h3.mono hB⟩
/-- A new trust's block, whatever it holds. -/
def GTrB (B : Nat) : VPred := fun v w => ∃ g, v = .pointer (some ⟨g, 0, none⟩) ∧ B ≤ g ∧ BlkT w g 24 2
theorem stable_GTrB (B : Nat) (S : List Nat) (G : Nat → Prop) : (RG S G).stable (GTrB B) := fun v w w' r ⟨g, h1, h2, h3⟩ => ⟨g, h1, h2, h3.rg r⟩
/-- A new trust's block that holds the trust. -/
def GTrQ (B B1 : Nat) (t : TR) : VPred := fun v w => ∃ g A n c, v = .pointer (some ⟨g, 0, none⟩) ∧ B ≤ g ∧ TrAt w g A n c t.dt ∧ SafeK w B1 139 5 (.slice A n c) (tpsCells t.ps)
theorem GTrQ.ext {B B1 : Nat} {t : TR} (v : Value) (w w' : World) (e : Ext w w') (h : GTrQ B B1 t v w) : GTrQ B B1 t v w' := by
  obtain ⟨g, A, n, c, h1, h2, h3, h4⟩ := h
  exact ⟨g, A, n, c, h1, h2, h3.ext e, h4.ext e⟩
theorem GTrQ.st {B B1 : Nat} {t : TR} {G : Nat → Prop} (hB : ∀ k, G k → B1 ≤ k) (T : Nat) (hT : T ≠ 24) (v : Value) (w w' : World) (e : (RG resT G).st T w w') (h : GTrQ B B1 t v w) : GTrQ B B1 t v w' := by
  obtain ⟨g, A, n, c, h1, h2, h3, h4⟩ := h
  obtain ⟨h5, h6⟩ := e
  obtain rfl := resT_ch hT h5
  exact ⟨g, A, n, c, h1, h2, h6.other h3 (fun q => ch_ne_tr (List.mem_singleton.1 q).symm), h4.rg1 tp_ne_ch hB h6⟩
section
open Go.Proofs.YtkjplpmogfmhkaaGreatDoor.Gd (GRun)
variable {r : Gt.Rl} {P : Program} {ops : Array Oper} {Q : Exit → Act → World → Prop} {w0 : World} {R : Act → World → Prop} {ss : List (Nat × VPred)}
/-- At the end, the stores' pointers looked up. -/
theorem Gt.wpX_endF {a : Act} {hs : List (Nat × VPred)} (hok : (ss.all fun q => okOp a (.tmp q.1)) = true)
    (h : ∀ (m : r.Lt w0) (f : Nat → Value), (∀ t p, hs.lookup t = some p → p (f t) m.1) → (∀ q ∈ ss, q.2 (evF a hs f (.tmp q.1)) m.1) → R (fillH a hs f) m.1) : Gt.wpX r P ops Q w0 R ss [] a hs :=
  Gt.wpX_endL fun m f hf hqs => h m f hf fun q hq => by
    have := hqs q hq
    rwa [Gt.ev_fill (List.all_eq_true.1 hok q hq)] at this
/-- A slot copied. -/
theorem Gt.wpX_moveL {o : Oper} {rest : List Oper} {a : Act} {hs : List (Nat × VPred)} {d : Nat} (hg : GRun ops o a hs) (g : VPred) (hst : r.stable g) {x : Operand} (xv : (Nat → Value) → Value)
    (hd : o.dst = some d) (hz : Nat.blt d a.tmps.size = true) (ho : o.op = .move x) (hin : (opTmps o).all (fun t => Nat.blt t a.tmps.size) = true) (hq : okOp a x = true) (ha : ∀ f, evF a hs f x = xv f)
    (h : ∀ (m : r.Lt w0) (f : Nat → Value), (∀ t p, hs.lookup t = some p → (opTmps o).contains t = true → p (f t) m.1) → g (xv f) m.1)
    (hr : Gt.wpX r P ops Q w0 R ss rest (a.put (some d) undef) ((d, g) :: hs)) : Gt.wpX r P ops Q w0 R ss (o :: rest) a hs :=
  Gt.wpX_newL hg g hst (fun f => pure (xv f)) hd hz (by unfold notSelect; rw [ho]) hin (fun f => by unfold execOp; simp only [ho]; rw [Gt.ev_fill hq, ha f]; rfl) (fun m f hf => ⟨_, _, rfl, Below.refl _ _, h m f hf⟩) hr
end
section
open Go.Proofs.YtkjplpmogfmhkaaGreatDoor.Gd (GRun)
variable {r : Gt.Rl} {ops : Array Oper} {Q : Exit → Act → World → Prop} {w0 : World} {R : Act → World → Prop} {ss : List (Nat × VPred)}
theorem Gt.wpX_allocTr {o : Oper} {rest : List Oper} {a : Act} {hs : List (Nat × VPred)} {d : Nat} (B : Nat) (hB : ∀ m : r.Lt w0, B ≤ m.1.heap.size) (hst : r.stable (GTrB B)) (hg : GRun ops o a hs)
    (hd : o.dst = some d) (hz : Nat.blt d a.tmps.size = true) (ho : o.op = .alloc 24) (hin : (opTmps o).all (fun t => Nat.blt t a.tmps.size) = true)
    (hr : Gt.wpX r Tryz.prog ops Q w0 R ss rest (a.put (some d) undef) ((d, GTrB B) :: hs)) : Gt.wpX r Tryz.prog ops Q w0 R ss (o :: rest) a hs :=
  Gt.wpX_newL hg (GTrB B) hst (fun _ => Instr.alloc 24 true (.tuple #[])) hd hz (by unfold notSelect; rw [ho]) hin (fun f => by unfold execOp; simp only [ho])
    (fun m f hf => ⟨_, _, run_allocTr m.1, (Below.refl _ _).alloc (Nat.le_refl _) _, _, rfl, hB m, _, heap_alloc_new' m.1 _, rfl⟩) hr
end
theorem run_ext3 (W : World) (a b c : Value) : (Instr.extract (.tuple #[a, b, c]) 0).run Tryz.prog W = .ok a W ∧ (Instr.extract (.tuple #[a, b, c]) 1).run Tryz.prog W = .ok b W ∧ (Instr.extract (.tuple #[a, b, c]) 2).run Tryz.prog W = .ok c W := by
  refine ⟨?_, ?_, ?_⟩ <;> go_simp
end Go.Proofs.YtkjplpmogfmhkaaGreatDoor

namespace Go.Proofs.YtkjplpmogfmhkaaGreatDoor
open Go.RowKit
set_option linter.unusedVariables false
set_option maxRecDepth 100000

set_option maxHeartbeats 8000000 in
theorem refpath26_any {v lv : Value} (t : TR) (p : List TC) (w : World) (hv : TrR w v t) (hp : RdC w lv p) (hs : smR t.ps) (hx : ∀ x ∈ p, smT x) (hl : t.ps.length ≤ 1000000000000) (E : KTab w 0) :
    Calls Tryz.prog 114 #[v, lv] w (ImpR w w.heap.size (pathO t p).1 (pathO t p).2.1 (pathO t p).2.2) := by
  have HS := Lib.hid (fun (u : TR) (v : Value) (h : List UInt8) W (hu : TrR W v u) (hs : smR u.ps) => refstart26_any u h W hu hs)
  have HI := Lib.hid (fun (u : TR) (v : Value) (b : CH) (x : TC) W (e : Ext w W) (hu : TrS W w.heap.size v u) (hs : smR u.ps) (hx : smT x) (hl : u.ps.length ≤ 1000000000000) => refimport_any u b x W e.size hu hs hx hl (E.below e))
  obtain ⟨r, hr0⟩ : ∃ r, pathO t p = r := ⟨_, rfl⟩
  rw [hr0]
  have HR := Lib.hid hr0
  have HSM := Lib.hid hs
  have HXM := Lib.hid hx
  have HLL := Lib.hid hl
  have hvs := hv.safe (Nat.le_refl _)
  obtain ⟨A, n, c, rfl, hr⟩ := hvs
  obtain ⟨Al, nl, cl, rfl, hn, hnc, hcm, hel⟩ := hp.at_
  subst hn
  have HEL := Lib.hid hel
  unfold maxLen at hcm
  obtain ⟨wn, hwn, T0, R0, Q0, x0⟩ := pt_alloc w A n c t.dt
  have P2 : PtZ w wn w.heap.size t A n c := ⟨T0, hr.ext x0, R0, Q0, x0⟩
  clear hr hs hx hl hel hp hr0 E hv T0 R0 Q0 x0
  go_enter Tryz.func114, Tryz.ntmps114
  go_upto_region 1 with fail
  rw [← hwn]
  clear hwn
  by_cases h0 : p.length = 0
  · have hp0 : p = [] := List.eq_nil_of_length_eq_zero h0
    have hb : ((p.length : Int) == 0) = true := by simp [h0]
    have HN := Lib.hid (show r = (t, zeroC, 16) by rw [← HR.out, hp0]; rfl)
    clear h0 hp0
    have FI := Lib.hid (P2.fin0 (Nat.le_succ _))
    obtain ⟨z0, z1⟩ := P2.tz.cells
    have zl := P2.tz.lt
    obtain ⟨y0, y1⟩ := P2.r.cells
    have yf0 := P2.r.frozen 0
    have yf1 := P2.r.frozen 1
    have yl := P2.r.lt
    obtain ⟨q0, q1, q2, q3, q4, q5⟩ := P2.q.cells0
    have qf0 := P2.q.frozen 0
    have qf1 := P2.q.frozen 1
    have qf2 := P2.q.frozen 2
    have qf3 := P2.q.frozen 3
    have qf4 := P2.q.frozen 4
    have qf5 := P2.q.frozen 5
    have ql := P2.q.lt
    go_wp2_with fail
    refine bodyPost_ret (v := .tuple #[.agg #[.slice A n c, .int .i64 t.dt], chV zeroC, .int .i64 16]) ?_ rfl ⟨FI.out.1, _, _, _, by rw [HN.out], by rw [HN.out]; exact FI.out.2.2.1⟩
    obtain ⟨t0, t1⟩ := FI.out.2.1.cells
    obtain ⟨r0, r1, r2, r3, r4, r5⟩ := FI.out.2.2.2.cells0
    clear z0 z1 zl y0 y1 yf0 yf1 yl q0 q1 q2 q3 q4 q5 qf0 qf1 qf2 qf3 qf4 qf5 ql
    unfold ptF0 at t0 t1 r0 r1 r2 r3 r4 r5
    simp [results, Tryz.results114, go_sem, chV, zeroC, bstr, t0, t1, r0, r1, r2, r3, r4, r5]
  have hb : ((p.length : Int) == 0) = false := beq_false_of_ne (by omega)
  by_cases h4 : 4 < p.length
  · have h4' : (4 : Int) < (p.length : Int) := by omega
    have HN := Lib.hid (show r = (t, zeroC, 72) by rw [← HR.out]; exact pathO_long h4)
    clear h0 h4
    have FI := Lib.hid (P2.fin0 (Nat.le_succ _))
    obtain ⟨z0, z1⟩ := P2.tz.cells
    have zl := P2.tz.lt
    obtain ⟨y0, y1⟩ := P2.r.cells
    have yf0 := P2.r.frozen 0
    have yf1 := P2.r.frozen 1
    have yl := P2.r.lt
    obtain ⟨q0, q1, q2, q3, q4, q5⟩ := P2.q.cells0
    have qf0 := P2.q.frozen 0
    have qf1 := P2.q.frozen 1
    have qf2 := P2.q.frozen 2
    have qf3 := P2.q.frozen 3
    have qf4 := P2.q.frozen 4
    have qf5 := P2.q.frozen 5
    have ql := P2.q.lt
    go_wp2_with fail
    refine bodyPost_ret (v := .tuple #[.agg #[.slice A n c, .int .i64 t.dt], chV zeroC, .int .i64 72]) ?_ rfl ⟨FI.out.1, _, _, _, by rw [HN.out], by rw [HN.out]; exact FI.out.2.2.1⟩
    obtain ⟨t0, t1⟩ := FI.out.2.1.cells
    obtain ⟨r0, r1, r2, r3, r4, r5⟩ := FI.out.2.2.2.cells0
    clear z0 z1 zl y0 y1 yf0 yf1 yl q0 q1 q2 q3 q4 q5 qf0 qf1 qf2 qf3 qf4 qf5 ql
    unfold ptF0 at t0 t1 r0 r1 r2 r3 r4 r5
    simp [results, Tryz.results114, go_sem, chV, zeroC, bstr, t0, t1, r0, r1, r2, r3, r4, r5]
  have h4' : ¬ (4 : Int) < (p.length : Int) := by omega
  obtain ⟨x, l, rfl⟩ : ∃ x l, p = x :: l := by
    cases p with
    | nil => exact absurd rfl h0
    | cons x l => exact ⟨x, l, rfl⟩
  have HLE := Lib.hid (show (x :: l).length ≤ 4 by omega)
  obtain ⟨bl, ol, rfl, hbl, hcl⟩ := HEL.out (by omega)
  obtain ⟨e0, _⟩ := hcl 0 x rfl
  rw [Nat.zero_mul, Nat.add_zero] at e0
  have HCL := Lib.hid hcl
  have i0 : (0 : Int) < ((x :: l).length : Int) := by omega
  have i0' : 0 < (x :: l).length := by omega
  have HR2 := HR
  clear hcl h0 h4
  generalize hlen : (x :: l).length = len at *
  have HLN := Lib.hid hlen
  clear hlen

  go_wp2_with fail
  refine Gt.wp_region_X (r := RG chT (fun k => wn.heap.size ≤ k)) 11 (by kernel_rfl) (by kernel_rfl) ?_
  simp only [List.take_succ_cons, List.take_zero, List.drop_succ_cons, List.drop_zero]
  intro wq hw1
  have LR : ∀ m : (RG chT (fun k => wn.heap.size ≤ k)).Lt wq, RgS chT (fun k => wn.heap.size ≤ k) wn m.1 := fun m => RgS.tr hw1 m.2
  have LB : ∀ m : (RG chT (fun k => wn.heap.size ≤ k)).Lt wq, Ext wn m.1 := fun m => (LR m).below (fun _ h => h) (Nat.le_refl _)
  have LE : ∀ m : (RG chT (fun k => wn.heap.size ≤ k)).Lt wq, Ext w m.1 := fun m => P2.ext.tr (LB m)
  have TT := fun m : (RG chT (fun k => wn.heap.size ≤ k)).Lt wq => P2.tz.ext (LB m)
  have g0 := fun m => (TT m).cells.1
  have g1 := fun m => (TT m).cells.2
  have k0 := fun m : (RG chT (fun k => wn.heap.size ≤ k)).Lt wq => ((LE m).cell (p := ⟨bl, ol, none⟩) hbl).trans e0
  repeat (refine Gt.wpX_pure (by first | exact trivial | exact ⟨_, rfl, rfl, rfl⟩) rfl rfl rfl rfl rfl (fun K hK => ?_); go_big_quiet_op; refine hK _ ?_; clear hK K)
  refine Gt.wpX_callFn (by first | exact trivial | exact ⟨_, rfl, rfl, rfl⟩) (.tuple #[chV (startC t x.au), .bool (startB t x.au)]) (args := [.agg #[.slice A n c, .int .i64 t.dt], .string (bstr x.au)]) rfl rfl rfl rfl (by kernel_rfl) rfl rfl (fun m => (HS.out t _ x.au m.1 (P2.v.tr.ext (LB m)) HSM.out)) ?_
  simp only [Act.put, List.setIfInBounds_toArray, List.set_cons_zero, List.set_cons_succ]
  repeat (refine Gt.wpX_pure (by first | exact trivial | exact ⟨_, rfl, rfl, rfl⟩) rfl rfl rfl rfl rfl (fun K hK => ?_); go_big_quiet_op; refine hK _ ?_; clear hK K)
  refine Gt.wpX_allocCh wn.heap.size (fun m => (LB m).size) (stable_GChB _ _ _) (by first | exact trivial | exact ⟨_, rfl, rfl, rfl⟩) rfl rfl rfl rfl ?_
  simp only [Act.put, List.setIfInBounds_toArray, List.set_cons_zero, List.set_cons_succ]
  refine Gt.wpX_store (by first | exact trivial | exact ⟨_, rfl, rfl, rfl⟩) (GChQ wn.heap.size (startC t x.au)) (fun f => f 7) (fun _ => chV (startC t x.au)) rfl rfl rfl rfl rfl (fun _ => rfl) (fun _ => rfl) GChQ.ext GChQ.st (fun m f hf => ?_) ?_
  · obtain ⟨g, e7, hg, bg⟩ := hf 7 _ rfl rfl
    rw [e7]
    obtain ⟨w9, q1, q2, q3⟩ := ch_store bg (startC t x.au)
    exact ⟨w9, q1, ⟨List.mem_cons_self, q3 _ hg⟩, g, rfl, hg, q2⟩
  refine Gt.wpX_endL (fun m f hf hqs => ?_)
  have hq1 : GChQ wn.heap.size (startC t x.au) (f 7) m.1 := hqs _ List.mem_cons_self
  obtain ⟨g7, e7, hg7, Q7⟩ := hq1
  simp only [fillH]
  simp only [Act.put, List.setIfInBounds_toArray, List.set_cons_zero, List.set_cons_succ]
  rw [e7]
  have Lm := LB m
  obtain ⟨wm, hwm⟩ := m
  have Lm : Ext wn wm := Lm
  have Q7 : ChAt wm g7 (startC t x.au) := Q7
  have PM := P2.tr Lm
  have hg8 : w.heap.size + 1 + 1 < g7 := by have := P2.q.lt; omega
  have HG8 := Lib.hid hg8
  clear LR LB LE TT g0 g1 k0 hf hqs e7 P2 hg7 hg8 e0
  show wpList _ _ _ _ _ _
  obtain ⟨sb, hsb⟩ : ∃ b, startB t x.au = b := ⟨_, rfl⟩
  rw [hsb]
  have HSB := Lib.hid hsb
  clear hsb
  cases sb
  · have HN := Lib.hid (show r = (t, zeroC, 70) by rw [← HR.out]; exact pathO_no (by rw [HLN.out]; exact HLE.out) (startB_none HSB.out))
    have FI := Lib.hid (PM.fin0 (Nat.le_succ _))
    obtain ⟨z0, z1⟩ := PM.tz.cells
    have zl := PM.tz.lt
    obtain ⟨y0, y1⟩ := PM.r.cells
    have yf0 := PM.r.frozen 0
    have yf1 := PM.r.frozen 1
    have yl := PM.r.lt
    obtain ⟨q0, q1, q2, q3, q4, q5⟩ := PM.q.cells0
    have qf0 := PM.q.frozen 0
    have qf1 := PM.q.frozen 1
    have qf2 := PM.q.frozen 2
    have qf3 := PM.q.frozen 3
    have qf4 := PM.q.frozen 4
    have qf5 := PM.q.frozen 5
    have ql := PM.q.lt
    go_wp2_with fail
    refine bodyPost_ret (v := .tuple #[.agg #[.slice A n c, .int .i64 t.dt], chV zeroC, .int .i64 70]) ?_ rfl ⟨FI.out.1, _, _, _, by rw [HN.out], by rw [HN.out]; exact FI.out.2.2.1⟩
    obtain ⟨t0, t1⟩ := FI.out.2.1.cells
    obtain ⟨r0, r1, r2, r3, r4, r5⟩ := FI.out.2.2.2.cells0
    clear z0 z1 zl y0 y1 yf0 yf1 yl q0 q1 q2 q3 q4 q5 qf0 qf1 qf2 qf3 qf4 qf5 ql
    unfold ptF0 at t0 t1 r0 r1 r2 r3 r4 r5
    simp [results, Tryz.results114, go_sem, chV, zeroC, bstr, t0, t1, r0, r1, r2, r3, r4, r5]
  have HRN := Lib.hid (show r = runP t (startC t x.au) (x :: l) by rw [← HR.out]; exact pathO_cons (by rw [HLN.out]; exact HLE.out) (startB_some HSB.out))
  generalize startC t x.au = c0 at *
  go_wp2_with fail
  go_loopw [9] (fun i wr => ∃ (k : Nat) (tk : TR) (ck : CH) (Ak : Option Addr) (nk ckk : Nat), k ≤ len ∧ i = .int .i64 (k : Int) ∧ PtZ w wr w.heap.size tk Ak nk ckk ∧ ChAt wr g7 ck ∧ Hid (r = runP tk ck ((x :: l).drop k)) ∧ Hid (smR tk.ps) ∧ Hid (tk.ps.length ≤ 1000000000000)) (fun i _ => len - (intOf i).toNat)
  case atStart => exact ⟨0, t, c0, A, n, c, Nat.zero_le _, rfl, PM, Q7, HRN, HSM, HLL⟩
  case round =>
    clear PM Q7 HRN
    obtain ⟨k, tk, ck, Ak, nk, cck, hk, rfl, Z, QK, HRK, HSK, HLK⟩ := hrel
    by_cases hlt : k < len
    case neg =>
      obtain rfl : k = len := by omega
      have HN := Lib.hid (show r = (tk, ck, 0) by rw [HRK.out, ← HLN.out, List.drop_length]; rfl)
      go_wp2_with fail
      refine Gt.wp_region_X (r := RG resT (fun k => w.heap.size + 1 ≤ k ∧ k < w.heap.size + 1 + 1 + 1)) 4 (by kernel_rfl) (by kernel_rfl) ?_
      simp only [List.take_succ_cons, List.take_zero, List.drop_succ_cons, List.drop_zero]
      intro wq hw1
      have hgo : ∀ k, (w.heap.size + 1 ≤ k ∧ k < w.heap.size + 1 + 1 + 1) → w.heap.size + 1 ≤ k := fun k h => h.1
      have hgB : ∀ k, (w.heap.size + 1 ≤ k ∧ k < w.heap.size + 1 + 1 + 1) → w.heap.size ≤ k := fun k h => by omega
      have hB9 : w.heap.size + 1 ≤ wr.heap.size := Nat.le_of_lt Z.r.lt
      have LR : ∀ m : (RG resT (fun k => w.heap.size + 1 ≤ k ∧ k < w.heap.size + 1 + 1 + 1)).Lt wq, RgS resT (fun k => w.heap.size + 1 ≤ k ∧ k < w.heap.size + 1 + 1 + 1) wr m.1 := fun m => RgS.tr hw1 m.2
      have LB : ∀ m : (RG resT (fun k => w.heap.size + 1 ≤ k ∧ k < w.heap.size + 1 + 1 + 1)).Lt wq, Below (w.heap.size + 1) wr m.1 := fun m => (LR m).below hgo hB9
      have LE : ∀ m : (RG resT (fun k => w.heap.size + 1 ≤ k ∧ k < w.heap.size + 1 + 1 + 1)).Lt wq, Ext w m.1 := fun m => Z.ext.trans ((LB m).mono (by omega))
      have TT := fun m : (RG resT (fun k => w.heap.size + 1 ≤ k ∧ k < w.heap.size + 1 + 1 + 1)).Lt wq => Z.tz.bel (LB m) (by omega)
      have TQ : ∀ m : (RG resT (fun k => w.heap.size + 1 ≤ k ∧ k < w.heap.size + 1 + 1 + 1)).Lt wq, ChAt m.1 g7 ck := fun m => (LR m).keep QK (fun h => by have := HG8.out; omega)
      have g0 := fun m => (TT m).cells.1
      have g1 := fun m => (TT m).cells.2
      have kb0 := fun m => (TQ m).cells.1
      have kb1 := fun m => (TQ m).cells.2.1
      have kb2 := fun m => (TQ m).cells.2.2.1
      have kb3 := fun m => (TQ m).cells.2.2.2.1
      have kb4 := fun m => (TQ m).cells.2.2.2.2.1
      have kb5 := fun m => (TQ m).cells.2.2.2.2.2
      repeat (refine Gt.wpX_pure (by first | exact trivial | exact ⟨_, rfl, rfl, rfl⟩) rfl rfl rfl rfl rfl (fun K hK => ?_); go_big_quiet_op; refine hK _ ?_; clear hK K)
      refine Gt.wpX_store (by first | exact trivial | exact ⟨_, rfl, rfl, rfl⟩) (fun _ => TrQ (w.heap.size + 1) w.heap.size tk.ps tk.dt) (fun _ => .pointer (some ⟨w.heap.size + 1, 0, none⟩)) (fun _ => .agg #[.slice Ak nk cck, .int .i64 tk.dt]) rfl rfl rfl rfl rfl (fun _ => rfl) (fun _ => rfl) (fun _ => TrQ.ext) (fun T hT _ => TrQ.st hgB T hT) (fun m f hf => ?_) ?_
      · obtain ⟨w9, q1, q2, q3⟩ := tr_store (Z.r.b.rg (LR m)) Ak nk cck tk.dt
        have hin : w.heap.size + 1 ≤ w.heap.size + 1 ∧ w.heap.size + 1 < w.heap.size + 1 + 1 + 1 := by omega
        exact ⟨w9, q1, ⟨tr_resT, q3 _ hin⟩, Ak, nk, cck, q2, (Z.s.rg tp_resT hgB (LR m)).rg1 tp_ne_tr hgB (q3 (fun k => w.heap.size + 1 ≤ k ∧ k < w.heap.size + 1 + 1 + 1) hin)⟩
      refine Gt.wpX_store (by first | exact trivial | exact ⟨_, rfl, rfl, rfl⟩) (fun _ wx => ChAt wx (w.heap.size + 1 + 1) ck) (fun _ => .pointer (some ⟨w.heap.size + 1 + 1, 0, none⟩)) (fun f => chV ck) rfl rfl rfl rfl rfl (fun _ => rfl) (fun _ => rfl) (fun _ _ _ e h => h.ext e) (fun T hT _ => ch_st T hT) (fun m f hf => ?_) ?_
      · obtain ⟨w9, q1, q2, q3⟩ := ch_store (Z.q.b.rg (LR m)) ck
        exact ⟨w9, q1, ⟨ch_resT, q3 _ (by omega)⟩, q2⟩
      refine Gt.wpX_endL (fun m f hf hqs => ?_)
      have hq2 := hqs _ List.mem_cons_self
      have hq1 := hqs _ (List.mem_cons_of_mem _ List.mem_cons_self)
      simp only at hq1 hq2
      clear hqs
      obtain ⟨A5, n5, c5, T5, S5⟩ := hq1
      rw [fillH_nil]
      have Lm := LE m
      obtain ⟨wm, hwm⟩ := m
      have Lm : Ext w wm := Lm
      have HQ2 := Lib.hid hq2
      clear g0 g1 kb0 kb1 kb2 kb3 kb4 kb5 TT TQ hf LE LB LR hq2
      show wpList _ _ _ _ _ _
      go_wp2_with fail
      refine bodyPost_ret (v := .tuple #[.agg #[.slice A5 n5 c5, .int .i64 tk.dt], chV ck, .int .i64 0]) ?_ rfl ⟨Lm, A5, n5, c5, by rw [HN.out], by rw [HN.out]; exact S5⟩
      obtain ⟨t0, t1⟩ := T5.cells
      obtain ⟨q0, q1, q2, q3, q4, q5⟩ := HQ2.out.cells
      simp [results, Tryz.results114, go_sem, chV, t0, t1, q0, q1, q2, q3, q4, q5]
    case pos =>
    obtain ⟨y, hy⟩ : ∃ y, (x :: l)[k]? = some y := ⟨_, List.getElem?_eq_getElem (by rw [HLN.out]; exact hlt)⟩
    have HSY := Lib.hid (HXM.out y (List.mem_of_getElem? hy))
    have HY := Lib.hid hy
    clear hy
    have wi1 : IntKind.i64.wrap ((k : Int)) = (k : Int) := IntWalk.i64_in _ (by omega)
    have zi1 : (0 : Int) ≤ (k : Int) := by omega
    have li1 : (k : Int) < (len : Int) := by omega
    have ti1 : ((k : Int)).toNat = k := by omega
    go_wp2_with fail
    refine Gt.wp_region_X (r := RG resT (fun k => wr.heap.size ≤ k)) 15 (by kernel_rfl) (by kernel_rfl) ?_
    simp only [List.take_succ_cons, List.take_zero, List.drop_succ_cons, List.drop_zero]
    intro wq hw1
    have LR : ∀ m : (RG resT (fun k => wr.heap.size ≤ k)).Lt wq, RgS resT (fun k => wr.heap.size ≤ k) wr m.1 := fun m => RgS.tr hw1 m.2
    have LB : ∀ m : (RG resT (fun k => wr.heap.size ≤ k)).Lt wq, Ext wr m.1 := fun m => (LR m).below (fun _ h => h) (Nat.le_refl _)
    have LE : ∀ m : (RG resT (fun k => wr.heap.size ≤ k)).Lt wq, Ext w m.1 := fun m => Z.ext.tr (LB m)
    have hGB : ∀ k, wr.heap.size ≤ k → w.heap.size ≤ k := fun k h => Nat.le_trans Z.ext.size h
    have TT := fun m : (RG resT (fun k => wr.heap.size ≤ k)).Lt wq => Z.tz.ext (LB m)
    have TQ : ∀ m : (RG resT (fun k => wr.heap.size ≤ k)).Lt wq, ChAt m.1 g7 ck := fun m => QK.ext (LB m)
    have g0 := fun m => (TT m).cells.1
    have g1 := fun m => (TT m).cells.2
    have kb0 := fun m => (TQ m).cells.1
    have kb1 := fun m => (TQ m).cells.2.1
    have kb2 := fun m => (TQ m).cells.2.2.1
    have kb3 := fun m => (TQ m).cells.2.2.2.1
    have kb4 := fun m => (TQ m).cells.2.2.2.2.1
    have kb5 := fun m => (TQ m).cells.2.2.2.2.2
    have l0 := fun m : (RG resT (fun k => wr.heap.size ≤ k)).Lt wq => ((LE m).cell (p := ⟨bl, ol + k * 9, none⟩) hbl).trans (HCL.out k y HY.out).1
    have l1 := fun m : (RG resT (fun k => wr.heap.size ≤ k)).Lt wq => ((LE m).cell (p := ⟨bl, ol + k * 9 + 1, none⟩) hbl).trans (HCL.out k y HY.out).2.1
    have l2 := fun m : (RG resT (fun k => wr.heap.size ≤ k)).Lt wq => ((LE m).cell (p := ⟨bl, ol + k * 9 + 2, none⟩) hbl).trans (HCL.out k y HY.out).2.2.1
    have l3 := fun m : (RG resT (fun k => wr.heap.size ≤ k)).Lt wq => ((LE m).cell (p := ⟨bl, ol + k * 9 + 3, none⟩) hbl).trans (HCL.out k y HY.out).2.2.2.1
    have l4 := fun m : (RG resT (fun k => wr.heap.size ≤ k)).Lt wq => ((LE m).cell (p := ⟨bl, ol + k * 9 + 4, none⟩) hbl).trans (HCL.out k y HY.out).2.2.2.2.1
    have l5 := fun m : (RG resT (fun k => wr.heap.size ≤ k)).Lt wq => ((LE m).cell (p := ⟨bl, ol + k * 9 + 5, none⟩) hbl).trans (HCL.out k y HY.out).2.2.2.2.2.1
    have l6 := fun m : (RG resT (fun k => wr.heap.size ≤ k)).Lt wq => ((LE m).cell (p := ⟨bl, ol + k * 9 + 6, none⟩) hbl).trans (HCL.out k y HY.out).2.2.2.2.2.2.1
    have l7 := fun m : (RG resT (fun k => wr.heap.size ≤ k)).Lt wq => ((LE m).cell (p := ⟨bl, ol + k * 9 + 7, none⟩) hbl).trans (HCL.out k y HY.out).2.2.2.2.2.2.2.1
    have l8 := fun m : (RG resT (fun k => wr.heap.size ≤ k)).Lt wq => ((LE m).cell (p := ⟨bl, ol + k * 9 + 8, none⟩) hbl).trans (HCL.out k y HY.out).2.2.2.2.2.2.2.2
    repeat (refine Gt.wpX_pure (by first | exact trivial | exact ⟨_, rfl, rfl, rfl⟩) rfl rfl rfl rfl rfl (fun K hK => ?_); go_big_quiet_op; refine hK _ ?_; clear hK K)
    refine Gt.wpX_callF (by first | exact trivial | exact ⟨_, rfl, rfl, rfl⟩) (GIm w.heap.size (impT tk ck y) (impC tk ck y) (exK tk ck y)) (stable_GIm hGB _ _ _) (fun f => [.agg #[.slice Ak nk cck, .int .i64 tk.dt], chV ck, tcV y]) rfl rfl rfl rfl rfl (by kernel_rfl) rfl (fun _ => rfl) (fun m f hf => (HI.out tk _ ck y m.1 (LE m) (Z.v.ext (LB m)) HSK.out HSY.out HLK.out).mono fun _ _ h => ImpR.gim h (Nat.le_refl _)) ?_
    simp only [Act.put, List.setIfInBounds_toArray, List.set_cons_zero, List.set_cons_succ]
    refine Gt.wpX_moveL (by first | exact trivial | exact ⟨_, rfl, rfl, rfl⟩) (GIm w.heap.size (impT tk ck y) (impC tk ck y) (exK tk ck y)) (stable_GIm hGB _ _ _) (fun f => f 49) rfl rfl rfl rfl rfl (fun _ => rfl) (fun m f hf => hf 49 _ rfl rfl) ?_
    simp only [Act.put, List.setIfInBounds_toArray, List.set_cons_zero, List.set_cons_succ]
    refine Gt.wpX_extL (by first | exact trivial | exact ⟨_, rfl, rfl, rfl⟩) (GTs w.heap.size ((impT tk ck y)).ps ((impT tk ck y)).dt) (stable_GTs _ hGB _ _) (fun f => f 42) rfl rfl rfl rfl rfl (fun _ => rfl) (fun m f hf => by obtain ⟨A1, n1, c1, h1, h2⟩ := hf 42 _ rfl rfl; rw [h1]; exact ⟨_, _, (run_ext3 _ _ _ _).1, Below.refl _ _, A1, n1, c1, rfl, h2⟩) ?_
    simp only [Act.put, List.setIfInBounds_toArray, List.set_cons_zero, List.set_cons_succ]
    refine Gt.wpX_extL (by first | exact trivial | exact ⟨_, rfl, rfl, rfl⟩) (fun v _ => v = chV (impC tk ck y)) (Gt.Rl.stable_eq _ _) (fun f => f 42) rfl rfl rfl rfl rfl (fun _ => rfl) (fun m f hf => by obtain ⟨A1, n1, c1, h1, h2⟩ := hf 42 _ rfl rfl; rw [h1]; exact ⟨_, _, (run_ext3 _ _ _ _).2.1, Below.refl _ _, rfl⟩) ?_
    simp only [Act.put, List.setIfInBounds_toArray, List.set_cons_zero, List.set_cons_succ]
    refine Gt.wpX_extL (by first | exact trivial | exact ⟨_, rfl, rfl, rfl⟩) (fun v _ => v = .int .i64 (exK tk ck y)) (Gt.Rl.stable_eq _ _) (fun f => f 42) rfl rfl rfl rfl rfl (fun _ => rfl) (fun m f hf => by obtain ⟨A1, n1, c1, h1, h2⟩ := hf 42 _ rfl rfl; rw [h1]; exact ⟨_, _, (run_ext3 _ _ _ _).2.2, Below.refl _ _, rfl⟩) ?_
    simp only [Act.put, List.setIfInBounds_toArray, List.set_cons_zero, List.set_cons_succ]
    refine Gt.wpX_allocTr wr.heap.size (fun m => (LB m).size) (stable_GTrB _ _ _) (by first | exact trivial | exact ⟨_, rfl, rfl, rfl⟩) rfl rfl rfl rfl ?_
    simp only [Act.put, List.setIfInBounds_toArray, List.set_cons_zero, List.set_cons_succ]
    refine Gt.wpX_allocCh wr.heap.size (fun m => (LB m).size) (stable_GChB _ _ _) (by first | exact trivial | exact ⟨_, rfl, rfl, rfl⟩) rfl rfl rfl rfl ?_
    simp only [Act.put, List.setIfInBounds_toArray, List.set_cons_zero, List.set_cons_succ]
    refine Gt.wpX_store (by first | exact trivial | exact ⟨_, rfl, rfl, rfl⟩) (GTrQ wr.heap.size w.heap.size (impT tk ck y)) (fun f => f 10) (fun f => f 50) rfl rfl rfl rfl rfl (fun _ => rfl) (fun _ => rfl) GTrQ.ext (GTrQ.st hGB) (fun m f hf => ?_) ?_
    · obtain ⟨g, e9, hg, bg⟩ := hf 10 _ rfl rfl
      obtain ⟨A1, n1, c1, e5, s5⟩ := hf 50 _ rfl rfl
      rw [e9, e5]
      obtain ⟨w9, q1, q2, q3⟩ := tr_store bg A1 n1 c1 ((impT tk ck y)).dt
      exact ⟨w9, q1, ⟨tr_resT, q3 _ hg⟩, g, A1, n1, c1, rfl, hg, q2, s5.rg1 tp_ne_tr hGB (q3 (fun k => wr.heap.size ≤ k) hg)⟩
    refine Gt.wpX_store (by first | exact trivial | exact ⟨_, rfl, rfl, rfl⟩) (GChQ wr.heap.size (impC tk ck y)) (fun f => f 11) (fun f => f 51) rfl rfl rfl rfl rfl (fun _ => rfl) (fun _ => rfl) GChQ.ext GChQ.st (fun m f hf => ?_) ?_
    · obtain ⟨g, e9, hg, bg⟩ := hf 11 _ rfl rfl
      have e5 : f 51 = chV (impC tk ck y) := hf 51 _ rfl rfl
      rw [e9, e5]
      obtain ⟨w9, q1, q2, q3⟩ := ch_store bg (impC tk ck y)
      exact ⟨w9, q1, ⟨ch_resT, q3 _ hg⟩, g, rfl, hg, q2⟩
    refine Gt.wpX_endF rfl (fun m f hf hqs => ?_)
    have hq2 : GChQ wr.heap.size (impC tk ck y) (f 11) m.1 := hqs _ List.mem_cons_self
    have hq1 : GTrQ wr.heap.size w.heap.size (impT tk ck y) (f 10) m.1 := hqs _ (List.mem_cons_of_mem _ List.mem_cons_self)
    have hk2 : f 52 = .int .i64 (exK tk ck y) := hf 52 _ rfl
    obtain ⟨ga, Aa, na, ca, ea, hga, Ta, Sa⟩ := hq1
    obtain ⟨gb, eb, hgb, Qb⟩ := hq2
    simp only [fillH]
    simp only [Act.put, List.setIfInBounds_toArray, List.set_cons_zero, List.set_cons_succ]
    rw [ea, eb, hk2]
    clear hqs hf ea eb hk2
    generalize f 49 = f49 at *
    generalize f 42 = f42 at *
    generalize f 50 = f50 at *
    generalize f 51 = f51 at *
    clear f
    have Lm := LB m
    obtain ⟨wm, hwm⟩ := m
    have Lm : Ext wr wm := Lm
    have ZM := Z.tr Lm
    have QM := QK.ext Lm
    have Ta : TrAt wm ga Aa na ca (impT tk ck y).dt := Ta
    have Sa : SafeK wm w.heap.size 139 5 (.slice Aa na ca) (tpsCells (impT tk ck y).ps) := Sa
    have Qb : ChAt wm gb (impC tk ck y) := Qb
    have HZ := Lib.hid (show w.heap.size + 1 + 1 < wr.heap.size ∧ g7 < wr.heap.size ∧ wr.heap.size ≤ ga ∧ wr.heap.size ≤ gb from ⟨Z.q.lt, QK.lt, hga, hgb⟩)
    clear LR LB LE hGB TT TQ g0 g1 kb0 kb1 kb2 kb3 kb4 kb5 l0 l1 l2 l3 l4 l5 l6 l7 l8 Z QK hga hgb
    show wpList _ _ _ _ _ _
    obtain ⟨tn, htn⟩ : ∃ u, impT tk ck y = u := ⟨_, rfl⟩
    obtain ⟨cn, hcn⟩ : ∃ u, impC tk ck y = u := ⟨_, rfl⟩
    obtain ⟨ek, hek⟩ : ∃ u, exK tk ck y = u := ⟨_, rfl⟩
    rw [htn] at Ta Sa
    rw [hcn] at Qb
    rw [hek]
    have HTN := Lib.hid htn
    have HCN := Lib.hid hcn
    have HEK := Lib.hid hek
    clear htn hcn hek
    by_cases hk0 : ek = 0
    case neg =>
      have hb0 : (ek != 0) = true := by simpa using hk0
      have HN := Lib.hid (show r = (tk, zeroC, ek) by
        rw [HRK.out, runP_at HY.out, HEK.out, if_pos hk0])
      clear hk0
      have FI := Lib.hid (ZM.fin0 (Nat.le_succ _))
      obtain ⟨z0, z1⟩ := ZM.tz.cells
      have zl := ZM.tz.lt
      obtain ⟨y0, y1⟩ := ZM.r.cells
      have yf0 := ZM.r.frozen 0
      have yf1 := ZM.r.frozen 1
      have yl := ZM.r.lt
      obtain ⟨q0, q1, q2, q3, q4, q5⟩ := ZM.q.cells0
      have qf0 := ZM.q.frozen 0
      have qf1 := ZM.q.frozen 1
      have qf2 := ZM.q.frozen 2
      have qf3 := ZM.q.frozen 3
      have qf4 := ZM.q.frozen 4
      have qf5 := ZM.q.frozen 5
      have ql := ZM.q.lt
      go_wp2_with fail
      refine bodyPost_ret (v := .tuple #[.agg #[.slice Ak nk cck, .int .i64 tk.dt], chV zeroC, .int .i64 ek]) ?_ rfl ⟨FI.out.1, _, _, _, by rw [HN.out], by rw [HN.out]; exact FI.out.2.2.1⟩
      obtain ⟨t0, t1⟩ := FI.out.2.1.cells
      obtain ⟨r0, r1, r2, r3, r4, r5⟩ := FI.out.2.2.2.cells0
      clear z0 z1 zl y0 y1 yf0 yf1 yl q0 q1 q2 q3 q4 q5 qf0 qf1 qf2 qf3 qf4 qf5 ql
      unfold ptF0 at t0 t1 r0 r1 r2 r3 r4 r5
      simp [results, Tryz.results114, go_sem, chV, zeroC, bstr, t0, t1, r0, r1, r2, r3, r4, r5]
    have hb0 : (ek != 0) = false := by simp [hk0]
    have HRK2 := Lib.hid (show r = runP tn cn ((x :: l).drop (k + 1)) by
      rw [HRK.out, runP_at HY.out, HEK.out, if_neg (not_not_intro hk0), ← HTN.out, ← HCN.out]
      unfold impT impC
      rw [HEK.out, if_neg (not_not_intro hk0), if_neg (not_not_intro hk0)])
    have HE0 := Lib.hid (show exK tk ck y = 0 by rw [HEK.out, hk0])
    have HSN := Lib.hid (show smR tn.ps by
      rw [← HTN.out]
      unfold impT
      rw [if_neg (not_not_intro HE0.out)]
      exact learn_sm HSK.out HSY.out)
    have HLN2 := Lib.hid (show tn.ps.length ≤ 1000000000000 by
      rw [← HTN.out]
      unfold impT
      rw [if_neg (not_not_intro HE0.out)]
      exact learn_len (exK_zero HE0.out).1)
    subst hk0
    go_wp2_with fail
    refine Gt.wp_region_X (r := RG resT (fun k => k = w.heap.size ∨ k = g7)) 4 (by kernel_rfl) (by kernel_rfl) ?_
    simp only [List.take_succ_cons, List.take_zero, List.drop_succ_cons, List.drop_zero]
    intro wq2 hw1
    have LR : ∀ m : (RG resT (fun k => k = w.heap.size ∨ k = g7)).Lt wq2, RgS resT (fun k => k = w.heap.size ∨ k = g7) wm m.1 := fun m => RgS.tr hw1 m.2
    have hG2 : ∀ k, (k = w.heap.size ∨ k = g7) → w.heap.size ≤ k := fun k h => by have := HG8.out; omega
    have LE : ∀ m : (RG resT (fun k => k = w.heap.size ∨ k = g7)).Lt wq2, Ext w m.1 := fun m => ZM.ext.trans ((LR m).below hG2 ZM.ext.size)
    have TT := fun m : (RG resT (fun k => k = w.heap.size ∨ k = g7)).Lt wq2 => (LR m).keep Ta (fun h => by have := HZ.out; omega)
    have TQ := fun m : (RG resT (fun k => k = w.heap.size ∨ k = g7)).Lt wq2 => (LR m).keep Qb (fun h => by have := HZ.out; omega)
    have TT : ∀ m : (RG resT (fun k => k = w.heap.size ∨ k = g7)).Lt wq2, TrAt m.1 ga Aa na ca tn.dt := TT
    have TQ : ∀ m : (RG resT (fun k => k = w.heap.size ∨ k = g7)).Lt wq2, ChAt m.1 gb cn := TQ
    have g0 := fun m => (TT m).cells.1
    have g1 := fun m => (TT m).cells.2
    have kb0 := fun m => (TQ m).cells.1
    have kb1 := fun m => (TQ m).cells.2.1
    have kb2 := fun m => (TQ m).cells.2.2.1
    have kb3 := fun m => (TQ m).cells.2.2.2.1
    have kb4 := fun m => (TQ m).cells.2.2.2.2.1
    have kb5 := fun m => (TQ m).cells.2.2.2.2.2
    repeat (refine Gt.wpX_pure (by first | exact trivial | exact ⟨_, rfl, rfl, rfl⟩) rfl rfl rfl rfl rfl (fun K hK => ?_); go_big_quiet_op; refine hK _ ?_; clear hK K)
    refine Gt.wpX_store (by first | exact trivial | exact ⟨_, rfl, rfl, rfl⟩) (fun _ => TrQ w.heap.size w.heap.size tn.ps tn.dt) (fun _ => .pointer (some ⟨w.heap.size, 0, none⟩)) (fun _ => .agg #[.slice Aa na ca, .int .i64 tn.dt]) rfl rfl rfl rfl rfl (fun _ => rfl) (fun _ => rfl) (fun _ => TrQ.ext) (fun T hT _ => TrQ.st hG2 T hT) (fun m f hf => ?_) ?_
    · obtain ⟨w9, q1, q2, q3⟩ := tr_store (ZM.tz.b.rg (LR m)) Aa na ca tn.dt
      exact ⟨w9, q1, ⟨tr_resT, q3 _ (.inl rfl)⟩, Aa, na, ca, q2, (Sa.rg tp_resT hG2 (LR m)).rg1 tp_ne_tr hG2 (q3 (fun k => k = w.heap.size ∨ k = g7) (.inl rfl))⟩
    refine Gt.wpX_store (by first | exact trivial | exact ⟨_, rfl, rfl, rfl⟩) (fun _ wx => ChAt wx g7 cn) (fun _ => .pointer (some ⟨g7, 0, none⟩)) (fun f => chV cn) rfl rfl rfl rfl rfl (fun _ => rfl) (fun _ => rfl) (fun _ _ _ e h => h.ext e) (fun T hT _ => ch_st T hT) (fun m f hf => ?_) ?_
    · obtain ⟨w9, q1, q2, q3⟩ := ch_store (QM.b.rg (LR m)) cn
      exact ⟨w9, q1, ⟨ch_resT, q3 _ (.inr rfl)⟩, q2⟩
    refine Gt.wpX_endL (fun m f hf hqs => ?_)
    have hq2 := hqs _ List.mem_cons_self
    have hq1 := hqs _ (List.mem_cons_of_mem _ List.mem_cons_self)
    simp only at hq1 hq2
    clear hqs
    obtain ⟨A5, n5, c5, T5, S5⟩ := hq1
    rw [fillH_nil]
    have Lr := LR m
    have Le := LE m
    obtain ⟨wx, hwx⟩ := m
    have Lr : RgS resT (fun k => k = w.heap.size ∨ k = g7) wm wx := Lr
    have ZX : PtZ w wx w.heap.size tn A5 n5 c5 := ⟨T5, S5, Lr.keep ZM.r (fun h => by have := HG8.out; omega), Lr.keep ZM.q (fun h => by have := HG8.out; omega), Le⟩
    have QX : ChAt wx g7 cn := hq2
    clear g0 g1 kb0 kb1 kb2 kb3 kb4 kb5 TT TQ hf LE LR hG2 T5 S5 Lr Le hq2 ZM QM Ta Sa Qb
    show wpList _ _ _ _ _ _
    go_wp2_with fail
    go_roundw
    case rel =>
      exact ⟨k + 1, tn, cn, A5, n5, c5, by omega, by go_num, ZX, QX, HRK2, HSN, HLN2⟩
    case measure => simp [intOf]; omega
end Go.Proofs.YtkjplpmogfmhkaaGreatDoor

namespace Go.Proofs.YtkjplpmogfmhkaaGreatDoor
open Go.RowKit
set_option linter.unusedVariables false
set_option maxRecDepth 100000

set_option maxHeartbeats 1000000 in
theorem lawtrust26_any (w : World) : Calls Tryz.prog 100 #[] w (LearnR w (trust0 (pw 4 kRoot))) := by
  obtain ⟨wz, hwz, x0, T0⟩ := tr_alloc w none 0 0 0
  have HH := Lib.hid holder_root
  generalize pw 4 kRoot = K at *
  go_enter Tryz.func100, Tryz.ntmps100
  go_upto_region 1 with fail
  rw [← hwz]
  clear hwz
  obtain ⟨z0, z1⟩ := T0.cells
  have zf0 := T0.frozen 0
  have zf1 := T0.frozen 1
  have zl := T0.lt
  go_wp2_with fail
  refine (HH.out _).mono ?_
  rintro e w' ⟨rfl, rfl⟩
  go_wp2_with fail
  have T1 := (T0.setPs (A' := some ⟨wz.heap.size, 0, none⟩) (n' := 1) (c' := 1)).setDt 100
  obtain ⟨wb, hwb⟩ : ∃ wb, wb = (wz.setCell ⟨w.heap.size, 0, none⟩ (.slice (some ⟨wz.heap.size, 0, none⟩) 1 1)).setCell ⟨w.heap.size, 1, none⟩ (.int .i64 100) := ⟨_, rfl⟩
  have hs : wb.heap.size = wz.heap.size := by rw [hwb]; simp
  have xf : Ext w wb := by rw [hwb]; exact ext_set (ext_set x0 (Nat.le_refl _)) (Nat.le_refl _)
  rw [← hwb] at T1 ⊢
  clear hwb z0 z1 zf0 zf1 zl T0 x0
  have O := OwnK.lit wb 5 #[.string ⟨#[82, 79, 79, 84, 49]⟩, .int .i64 K, .int .i64 7, .int .i64 0, .int .i64 500] 139 1 rfl (by unfold maxLen; omega)
  rw [hs] at O
  have ea : Ext wb (wb.alloc (.cells #[.string ⟨#[82, 79, 79, 84, 49]⟩, .int .i64 K, .int .i64 7, .int .i64 0, .int .i64 500] 139)) := (Below.refl _ _).alloc (Nat.le_refl _) _
  have T2 := T1.ext ea
  refine bodyPost_ret (v := .agg #[.slice (some ⟨wz.heap.size, 0, none⟩) 1 1, .int .i64 100]) ?_ rfl ⟨xf.tr ea, _, _, _, rfl, O.safe 0⟩
  obtain ⟨t0, t1⟩ := T2.cells
  clear T1 T2 O hs xf ea
  simp [results, Tryz.results100, go_sem, t0, t1]
theorem light26_any {v : Value} (t : TR) (w : World) (hv : TrR w v t) : Calls Tryz.prog 19 #[v] w (RetQ w (.bool (decide (t.ps.length ≤ 10)))) := by
  obtain ⟨A, n, c, rfl, hr⟩ := hv
  obtain ⟨A', n', c', e, hn, hnc, hcm, hel⟩ := hr.at_
  injection e with e1 e2 e3
  subst e1 e2 e3
  subst hn
  clear hel hr
  have x0 : Ext w (w.alloc (.cells #[.slice A t.ps.length c, .int .i64 t.dt] 24)) := (Below.refl _ _).alloc (Nat.le_refl _) _
  by_cases h : t.ps.length ≤ 10
  · have h' : decide ((t.ps.length : Int) ≤ 10) = true := decide_eq_true (by omega)
    have HN := Lib.hid (decide_eq_true h)
    clear h
    go_enter Tryz.func19, Tryz.ntmps19
    go_wp2_with fail
    go_ret
    exact ⟨by rw [HN.out]; simp, x0⟩
  · have h' : decide ((t.ps.length : Int) ≤ 10) = false := decide_eq_false (by omega)
    have HN := Lib.hid (decide_eq_false h)
    clear h
    go_enter Tryz.func19, Tryz.ntmps19
    go_wp2_with fail
    go_ret
    exact ⟨by rw [HN.out]; simp, x0⟩
end Go.Proofs.YtkjplpmogfmhkaaGreatDoor

namespace Go.Proofs.YtkjplpmogfmhkaaGreatDoor
open Go.RowKit
set_option linter.unusedVariables false
set_option maxRecDepth 100000

/-- Certificates in a new slice, in a slot. -/
def GCs (l : List TC) : VPred := fun v w => ∃ A n c, v = .slice A n c ∧ SafeK w 0 35 9 (.slice A n c) (tcsCells l)
theorem tc_resT : 35 ∉ resT := by decide
theorem stable_GCs {G : Nat → Prop} (l : List TC) : (RG resT G).stable (GCs l) := fun v w w' r ⟨A, n, c, h1, h2⟩ => ⟨A, n, c, h1, h2.rg tc_resT (fun _ _ => Nat.zero_le _) r⟩
theorem run_bsTC2 (W : World) (x y : TC) : (Instr.buildSlice 44 2 [(0, tcV x), (1, tcV y)].toArray).run Tryz.prog W = .ok (.slice (some ⟨W.heap.size, 0, none⟩) 2 2) (W.alloc (.cells #[.string (bstr x.au), .string (bstr x.ho), .int .i64 x.key, .int .i64 x.role, .int .i64 x.rights, .int .i64 x.fr, .int .i64 x.to, .int .i64 x.e, .int .i64 x.s, .string (bstr y.au), .string (bstr y.ho), .int .i64 y.key, .int .i64 y.role, .int .i64 y.rights, .int .i64 y.fr, .int .i64 y.to, .int .i64 y.e, .int .i64 y.s] 35)) := by
  unfold tcV
  go_simp
theorem gcs2 (W : World) (x y : TC) : GCs [x, y] (.slice (some ⟨W.heap.size, 0, none⟩) 2 2) (W.alloc (.cells #[.string (bstr x.au), .string (bstr x.ho), .int .i64 x.key, .int .i64 x.role, .int .i64 x.rights, .int .i64 x.fr, .int .i64 x.to, .int .i64 x.e, .int .i64 x.s, .string (bstr y.au), .string (bstr y.ho), .int .i64 y.key, .int .i64 y.role, .int .i64 y.rights, .int .i64 y.fr, .int .i64 y.to, .int .i64 y.e, .int .i64 y.s] 35)) :=
  ⟨_, _, _, rfl, (OwnK.lit W 9 #[.string (bstr x.au), .string (bstr x.ho), .int .i64 x.key, .int .i64 x.role, .int .i64 x.rights, .int .i64 x.fr, .int .i64 x.to, .int .i64 x.e, .int .i64 x.s, .string (bstr y.au), .string (bstr y.ho), .int .i64 y.key, .int .i64 y.role, .int .i64 y.rights, .int .i64 y.fr, .int .i64 y.to, .int .i64 y.e, .int .i64 y.s] 35 2 rfl (by unfold maxLen; omega)).safe 0⟩
theorem sm_cert {a h : List UInt8} {role rights fr td : Int} {c : TC} (h : IsCert c a h role rights fr td) : smT c := sm_of h.ck
set_option maxHeartbeats 8000000 in
theorem awake26_any (w : World) (E : Env w) : Calls Tryz.prog 20 #[] w (RetQ w (.bool true)) := by
  have HC1 := Lib.hid (fun W (e : Ext w W) => cert_any rootN homeN 2 3 90 300 W (by decide) (by decide) (E.ext e).r)
  have HC2 := Lib.hid (fun W (e : Ext w W) => cert_any homeN term1N 4 6 120 200 W (by decide) (by decide) (E.ext e).r)
  have HC3 := Lib.hid (fun W (e : Ext w W) => cert_any rootN term1N 4 6 120 200 W (by decide) (by decide) (E.ext e).r)
  have HI1 := Lib.hid (isCert (a := rootN) (h := homeN) (role := 2) (rights := 3) (fr := 90) (td := 300) name_root name_home (by omega) (by omega) (by show (0 : Int) ≤ 90 ∧ (90 : Int) ≤ 300 ∧ (300 : Int) ≤ 73048; omega))
  have HI2 := Lib.hid (isCert (a := homeN) (h := term1N) (role := 4) (rights := 6) (fr := 120) (td := 200) name_home name_term1 (by omega) (by omega) (by show (0 : Int) ≤ 120 ∧ (120 : Int) ≤ 200 ∧ (200 : Int) ≤ 73048; omega))
  have HI3 := Lib.hid (isCert (a := rootN) (h := term1N) (role := 4) (rights := 6) (fr := 120) (td := 200) name_root name_term1 (by omega) (by omega) (by show (0 : Int) ≤ 120 ∧ (120 : Int) ≤ 200 ∧ (200 : Int) ≤ 73048; omega))
  have HT := Lib.hid lawtrust26_any
  obtain ⟨K, hK⟩ : ∃ K, pw 4 kRoot = K := ⟨_, rfl⟩
  rw [hK] at HT
  have HK := Lib.hid (show K = pw 4 (holderK rootN) from hK.symm)
  clear hK
  have HP := Lib.hid (fun (l : List TC) (v lv : Value) W (e : Ext w W) (hv : TrR W v (trust0 K)) (hp : RdC W lv l) (hx : ∀ x ∈ l, smT x) => path26_any (trust0 K) l W hv hp (fun p hp => by rw [List.mem_singleton.1 hp]; exact (by decide : rootN.length ≤ maxLen)) hx (by show (1 : Nat) ≤ _; omega) (E.ext e).d)
  clear E
  go_enter Tryz.func20, Tryz.ntmps20
  go_wp2_with fail
  refine (HC1.out _ (Below.refl _ _)).mono ?_
  rintro e w1 ⟨rfl, b1⟩
  generalize certC rootN homeN 2 3 90 300 = v1 at *
  obtain ⟨wa1, hwb1, ea1, TA1⟩ := zero_alloc w1
  have hwa1 := hwb1.symm
  clear hwb1
  obtain ⟨wc1, hwc1, ec1, TC1⟩ : ∃ wc, wc = (((((((((wa1.setCell ⟨w1.heap.size, 0, none⟩ (.string (bstr v1.au))).setCell ⟨w1.heap.size, 1, none⟩ (.string (bstr v1.ho))).setCell ⟨w1.heap.size, 2, none⟩ (.int .i64 v1.key)).setCell ⟨w1.heap.size, 3, none⟩ (.int .i64 v1.role)).setCell ⟨w1.heap.size, 4, none⟩ (.int .i64 v1.rights)).setCell ⟨w1.heap.size, 5, none⟩ (.int .i64 v1.fr)).setCell ⟨w1.heap.size, 6, none⟩ (.int .i64 v1.to)).setCell ⟨w1.heap.size, 7, none⟩ (.int .i64 v1.e)).setCell ⟨w1.heap.size, 8, none⟩ (.int .i64 v1.s)) ∧ Ext w1 wc ∧ TcAt wc w1.heap.size v1 := ⟨_, rfl, ext_setT ea1 (Nat.le_refl _) v1, TA1.setT v1⟩
  have HZ1 := Lib.hid (show wc1.heap.size = wa1.heap.size by rw [hwc1]; simp)
  have hla1 := TA1.lt
  obtain ⟨ra0, ra1, ra2, ra3, ra4, ra5, ra6, ra7, ra8⟩ := TA1.cells
  have ga0 := TA1.frozen 0
  have ga1 := TA1.frozen 1
  have ga2 := TA1.frozen 2
  have ga3 := TA1.frozen 3
  have ga4 := TA1.frozen 4
  have ga5 := TA1.frozen 5
  have ga6 := TA1.frozen 6
  have ga7 := TA1.frozen 7
  have ga8 := TA1.frozen 8
  clear ea1
  unfold tcV
  go_wp2_with fail
  rw [← hwc1]
  clear hwc1 hwa1 hla1 TA1 ra0 ga0 ra1 ga1 ra2 ga2 ra3 ga3 ra4 ga4 ra5 ga5 ra6 ga6 ra7 ga7 ra8 ga8
  have x1 := b1.tr ec1
  refine (HC2.out _ x1).mono ?_
  rintro e w2 ⟨rfl, b2⟩
  have T2 := TC1.ext b2
  have x2 := x1.tr b2
  generalize certC homeN term1N 4 6 120 200 = v2 at *
  clear HZ1 TC1 ec1 x1 b1 b2
  obtain ⟨wa2, hwb2, ea2, TA2⟩ := zero_alloc w2
  have hwa2 := hwb2.symm
  clear hwb2
  obtain ⟨wc2, hwc2, ec2, TC2⟩ : ∃ wc, wc = (((((((((wa2.setCell ⟨w2.heap.size, 0, none⟩ (.string (bstr v2.au))).setCell ⟨w2.heap.size, 1, none⟩ (.string (bstr v2.ho))).setCell ⟨w2.heap.size, 2, none⟩ (.int .i64 v2.key)).setCell ⟨w2.heap.size, 3, none⟩ (.int .i64 v2.role)).setCell ⟨w2.heap.size, 4, none⟩ (.int .i64 v2.rights)).setCell ⟨w2.heap.size, 5, none⟩ (.int .i64 v2.fr)).setCell ⟨w2.heap.size, 6, none⟩ (.int .i64 v2.to)).setCell ⟨w2.heap.size, 7, none⟩ (.int .i64 v2.e)).setCell ⟨w2.heap.size, 8, none⟩ (.int .i64 v2.s)) ∧ Ext w2 wc ∧ TcAt wc w2.heap.size v2 := ⟨_, rfl, ext_setT ea2 (Nat.le_refl _) v2, TA2.setT v2⟩
  have HZ2 := Lib.hid (show wc2.heap.size = wa2.heap.size by rw [hwc2]; simp)
  have hla2 := TA2.lt
  obtain ⟨ra0, ra1, ra2, ra3, ra4, ra5, ra6, ra7, ra8⟩ := TA2.cells
  have ga0 := TA2.frozen 0
  have ga1 := TA2.frozen 1
  have ga2 := TA2.frozen 2
  have ga3 := TA2.frozen 3
  have ga4 := TA2.frozen 4
  have ga5 := TA2.frozen 5
  have ga6 := TA2.frozen 6
  have ga7 := TA2.frozen 7
  have ga8 := TA2.frozen 8
  clear ea2
  unfold tcV
  go_wp2_with fail
  rw [← hwc2]
  clear hwc2 hwa2 hla2 TA2 ra0 ga0 ra1 ga1 ra2 ga2 ra3 ga3 ra4 ga4 ra5 ga5 ra6 ga6 ra7 ga7 ra8 ga8
  have T3 := T2.ext ec2
  have x3 := x2.tr ec2
  clear HZ2 T2 ec2 x2
  refine Gt.wp_region_X (r := RG resT (fun k => wc2.heap.size ≤ k)) 13 (by kernel_rfl) (by kernel_rfl) ?_
  simp only [List.take_succ_cons, List.take_zero, List.drop_succ_cons, List.drop_zero]
  intro wq hw1
  have LR : ∀ m : (RG resT (fun k => wc2.heap.size ≤ k)).Lt wq, RgS resT (fun k => wc2.heap.size ≤ k) wc2 m.1 := fun m => RgS.tr hw1 m.2
  have LB : ∀ m : (RG resT (fun k => wc2.heap.size ≤ k)).Lt wq, Ext wc2 m.1 := fun m => (LR m).below (fun _ h => h) (Nat.le_refl _)
  have LE : ∀ m : (RG resT (fun k => wc2.heap.size ≤ k)).Lt wq, Ext w m.1 := fun m => x3.tr (LB m)
  have TA := fun m : (RG resT (fun k => wc2.heap.size ≤ k)).Lt wq => T3.ext (LB m)
  have TB := fun m : (RG resT (fun k => wc2.heap.size ≤ k)).Lt wq => TC2.ext (LB m)
  have ka0 := fun m => (TA m).cells.1
  have ka1 := fun m => (TA m).cells.2.1
  have ka2 := fun m => (TA m).cells.2.2.1
  have ka3 := fun m => (TA m).cells.2.2.2.1
  have ka4 := fun m => (TA m).cells.2.2.2.2.1
  have ka5 := fun m => (TA m).cells.2.2.2.2.2.1
  have ka6 := fun m => (TA m).cells.2.2.2.2.2.2.1
  have ka7 := fun m => (TA m).cells.2.2.2.2.2.2.2.1
  have ka8 := fun m => (TA m).cells.2.2.2.2.2.2.2.2
  have kb0 := fun m => (TB m).cells.1
  have kb1 := fun m => (TB m).cells.2.1
  have kb2 := fun m => (TB m).cells.2.2.1
  have kb3 := fun m => (TB m).cells.2.2.2.1
  have kb4 := fun m => (TB m).cells.2.2.2.2.1
  have kb5 := fun m => (TB m).cells.2.2.2.2.2.1
  have kb6 := fun m => (TB m).cells.2.2.2.2.2.2.1
  have kb7 := fun m => (TB m).cells.2.2.2.2.2.2.2.1
  have kb8 := fun m => (TB m).cells.2.2.2.2.2.2.2.2
  refine Gt.wpX_callF (by first | exact trivial | exact ⟨_, rfl, rfl, rfl⟩) (GTs 0 (trust0 K).ps (trust0 K).dt) (stable_GTs _ (fun _ _ => Nat.zero_le _) _ _) (fun _ => []) rfl rfl rfl rfl rfl (by kernel_rfl) rfl (fun _ => rfl) (fun m f hf => (HT.out m.1).mono fun _ _ h => h.gts) ?_
  simp only [Act.put, List.setIfInBounds_toArray, List.set_cons_zero, List.set_cons_succ]
  repeat (refine Gt.wpX_pure (by first | exact trivial | exact ⟨_, rfl, rfl, rfl⟩) rfl rfl rfl rfl rfl (fun K hK => ?_); go_big_quiet_op; refine hK _ ?_; clear hK K)
  refine Gt.wpX_buildSL (by first | exact trivial | exact ⟨_, rfl, rfl, rfl⟩) (GCs [v1, v2]) (stable_GCs _) (fun _ => [(0, tcV v1), (1, tcV v2)]) rfl rfl rfl rfl rfl (fun _ => rfl) (fun m f hf => ⟨_, _, run_bsTC2 m.1 v1 v2, (Below.refl _ _).alloc (Nat.le_refl _) _, gcs2 m.1 v1 v2⟩) ?_
  simp only [Act.put, List.setIfInBounds_toArray, List.set_cons_zero, List.set_cons_succ]
  obtain ⟨rp, hrp⟩ : ∃ r, pathO (trust0 K) [v1, v2] = r := ⟨_, rfl⟩
  have HRP := Lib.hid hrp
  refine Gt.wpX_callF (by first | exact trivial | exact ⟨_, rfl, rfl, rfl⟩) (GIm 0 rp.1 rp.2.1 rp.2.2) (stable_GIm (fun _ _ => Nat.zero_le _) _ _ _) (fun f => [f 12, f 15]) rfl rfl rfl rfl rfl (by kernel_rfl) rfl (fun _ => rfl) (fun m f hf => ?_) ?_
  · obtain ⟨A1, n1, c1, h1, s1⟩ := hf 12 _ rfl rfl
    obtain ⟨A2, n2, c2, h2, s2⟩ := hf 15 _ rfl rfl
    rw [h1, h2, ← hrp]
    exact (HP.out [v1, v2] _ _ m.1 (LE m) ⟨A1, n1, c1, rfl, s1.rd⟩ s2.rd (by simp only [List.mem_cons, List.not_mem_nil, or_false]; rintro x (rfl | rfl); exact sm_cert HI1.out; exact sm_cert HI2.out)).mono fun _ _ h => ImpR.gim h (Nat.le_refl _)
  simp only [Act.put, List.setIfInBounds_toArray, List.set_cons_zero, List.set_cons_succ]
  refine Gt.wpX_moveL (by first | exact trivial | exact ⟨_, rfl, rfl, rfl⟩) (GIm 0 rp.1 rp.2.1 rp.2.2) (stable_GIm (fun _ _ => Nat.zero_le _) _ _ _) (fun f => f 16) rfl rfl rfl rfl rfl (fun _ => rfl) (fun m f hf => hf 16 _ rfl rfl) ?_
  simp only [Act.put, List.setIfInBounds_toArray, List.set_cons_zero, List.set_cons_succ]
  refine Gt.wpX_extL (by first | exact trivial | exact ⟨_, rfl, rfl, rfl⟩) (GTs 0 (rp.1).ps (rp.1).dt) (stable_GTs _ (fun _ _ => Nat.zero_le _) _ _) (fun f => f 11) rfl rfl rfl rfl rfl (fun _ => rfl) (fun m f hf => by obtain ⟨A1, n1, c1, h1, h2⟩ := hf 11 _ rfl rfl; rw [h1]; exact ⟨_, _, (run_ext3 _ _ _ _).1, Below.refl _ _, A1, n1, c1, rfl, h2⟩) ?_
  simp only [Act.put, List.setIfInBounds_toArray, List.set_cons_zero, List.set_cons_succ]
  refine Gt.wpX_extL (by first | exact trivial | exact ⟨_, rfl, rfl, rfl⟩) (fun v _ => v = chV rp.2.1) (Gt.Rl.stable_eq _ _) (fun f => f 11) rfl rfl rfl rfl rfl (fun _ => rfl) (fun m f hf => by obtain ⟨A1, n1, c1, h1, h2⟩ := hf 11 _ rfl rfl; rw [h1]; exact ⟨_, _, (run_ext3 _ _ _ _).2.1, Below.refl _ _, rfl⟩) ?_
  simp only [Act.put, List.setIfInBounds_toArray, List.set_cons_zero, List.set_cons_succ]
  refine Gt.wpX_extL (by first | exact trivial | exact ⟨_, rfl, rfl, rfl⟩) (fun v _ => v = .int .i64 rp.2.2) (Gt.Rl.stable_eq _ _) (fun f => f 11) rfl rfl rfl rfl rfl (fun _ => rfl) (fun m f hf => by obtain ⟨A1, n1, c1, h1, h2⟩ := hf 11 _ rfl rfl; rw [h1]; exact ⟨_, _, (run_ext3 _ _ _ _).2.2, Below.refl _ _, rfl⟩) ?_
  simp only [Act.put, List.setIfInBounds_toArray, List.set_cons_zero, List.set_cons_succ]
  refine Gt.wpX_allocTr wc2.heap.size (fun m => (LB m).size) (stable_GTrB _ _ _) (by first | exact trivial | exact ⟨_, rfl, rfl, rfl⟩) rfl rfl rfl rfl ?_
  simp only [Act.put, List.setIfInBounds_toArray, List.set_cons_zero, List.set_cons_succ]
  refine Gt.wpX_allocCh wc2.heap.size (fun m => (LB m).size) (stable_GChB _ _ _) (by first | exact trivial | exact ⟨_, rfl, rfl, rfl⟩) rfl rfl rfl rfl ?_
  simp only [Act.put, List.setIfInBounds_toArray, List.set_cons_zero, List.set_cons_succ]
  refine Gt.wpX_store (by first | exact trivial | exact ⟨_, rfl, rfl, rfl⟩) (GTrQ wc2.heap.size 0 rp.1) (fun f => f 3) (fun f => f 17) rfl rfl rfl rfl rfl (fun _ => rfl) (fun _ => rfl) GTrQ.ext (GTrQ.st (fun _ _ => Nat.zero_le _)) (fun m f hf => ?_) ?_
  · obtain ⟨g, e9, hg, bg⟩ := hf 3 _ rfl rfl
    obtain ⟨A1, n1, c1, e5, s5⟩ := hf 17 _ rfl rfl
    rw [e9, e5]
    obtain ⟨w9, q1, q2, q3⟩ := tr_store bg A1 n1 c1 (rp.1).dt
    exact ⟨w9, q1, ⟨tr_resT, q3 _ hg⟩, g, A1, n1, c1, rfl, hg, q2, s5.rg1 tp_ne_tr (fun _ _ => Nat.zero_le _) (q3 (fun k => wc2.heap.size ≤ k) hg)⟩
  refine Gt.wpX_store (by first | exact trivial | exact ⟨_, rfl, rfl, rfl⟩) (GChQ wc2.heap.size rp.2.1) (fun f => f 4) (fun f => f 18) rfl rfl rfl rfl rfl (fun _ => rfl) (fun _ => rfl) GChQ.ext GChQ.st (fun m f hf => ?_) ?_
  · obtain ⟨g, e9, hg, bg⟩ := hf 4 _ rfl rfl
    have e5 : f 18 = chV rp.2.1 := hf 18 _ rfl rfl
    rw [e9, e5]
    obtain ⟨w9, q1, q2, q3⟩ := ch_store bg rp.2.1
    exact ⟨w9, q1, ⟨ch_resT, q3 _ hg⟩, g, rfl, hg, q2⟩
  refine Gt.wpX_endF rfl (fun m f hf hqs => ?_)
  have hq2 : GChQ wc2.heap.size rp.2.1 (f 4) m.1 := hqs _ List.mem_cons_self
  have hq1 : GTrQ wc2.heap.size 0 rp.1 (f 3) m.1 := hqs _ (List.mem_cons_of_mem _ List.mem_cons_self)
  have hk2 : f 19 = .int .i64 rp.2.2 := hf 19 _ rfl
  obtain ⟨ga, Aa, na, ca, ea, hga, Ta, Sa⟩ := hq1
  obtain ⟨gb, eb, hgb, Qb⟩ := hq2
  simp only [fillH]
  simp only [Act.put, List.setIfInBounds_toArray, List.set_cons_zero, List.set_cons_succ]
  rw [ea, eb, hk2]
  clear hqs hf ea eb hk2
  generalize f 16 = f16 at *
  generalize f 11 = f11 at *
  generalize f 17 = f17 at *
  generalize f 18 = f18 at *
  generalize f 12 = f12 at *
  generalize f 15 = f15 at *
  clear f hrp
  have Lm := LE m
  have Lb := LB m
  obtain ⟨wm, hwm⟩ := m
  have Lm : Ext w wm := Lm
  have Ta : TrAt wm ga Aa na ca rp.1.dt := Ta
  have Qb : ChAt wm gb rp.2.1 := Qb
  clear LR LB LE TA TB Sa Lb hga hgb ka0 ka1 ka2 ka3 ka4 ka5 ka6 ka7 ka8 kb0 kb1 kb2 kb3 kb4 kb5 kb6 kb7 kb8 T3 TC2 x3
  show wpList _ _ _ _ _ _
  go_wp2_with fail
  refine (HT.out _).mono ?_
  rintro e w5 ⟨b5, A5, n5, c5, rfl, s5⟩
  have x5 := Lm.tr b5
  have Ta5 := Ta.ext b5
  have Qb5 := Qb.ext b5
  clear Ta Qb Lm
  go_wp2_with fail
  refine (HC3.out _ x5).mono ?_
  rintro e w6 ⟨rfl, b6⟩
  have x6 := x5.tr b6
  have Ta6 := Ta5.ext b6
  have Qb6 := Qb5.ext b6
  have s6 := s5.ext b6
  generalize certC rootN term1N 4 6 120 200 = v3 at *
  clear Ta5 Qb5 x5 s5
  unfold tcV
  go_wp2_with fail
  have e7 : Ext w6 (w6.alloc (.cells #[.string (bstr v3.au), .string (bstr v3.ho), .int .i64 v3.key, .int .i64 v3.role, .int .i64 v3.rights, .int .i64 v3.fr, .int .i64 v3.to, .int .i64 v3.e, .int .i64 v3.s] 35)) := (Below.refl _ _).alloc (Nat.le_refl _) _
  have R7 := RdK.lit w6 9 #[.string (bstr v3.au), .string (bstr v3.ho), .int .i64 v3.key, .int .i64 v3.role, .int .i64 v3.rights, .int .i64 v3.fr, .int .i64 v3.to, .int .i64 v3.e, .int .i64 v3.s] 35 1 rfl (by unfold maxLen; omega)
  refine (HP.out [v3] _ _ _ (x6.tr e7) ⟨A5, n5, c5, rfl, s6.rd.ext e7⟩ R7 (by simp only [List.mem_cons, List.not_mem_nil, or_false]; rintro x rfl; exact sm_cert HI3.out)).mono ?_
  rintro e w8 ⟨b8, A8, n8, c8, rfl, S8⟩
  have P1 := awake_path1 HK.out HI1.out HI2.out
  rw [HRP.out] at P1
  have P2 := awake_path2 HK.out HI3.out
  obtain ⟨p1, p2, p3, p4⟩ := P1
  rw [P2, p1]
  have Ta8 := (Ta6.ext e7).ext b8
  have Qb8 := (Qb6.ext e7).ext b8
  have x8 := (x6.tr e7).tr b8
  clear Ta6 Qb6 e7 b8 x6 S8 R7
  obtain ⟨t0, t1⟩ := Ta8.cells
  have tl := Ta8.lt
  obtain ⟨q0, q1, q2, q3, q4, q5⟩ := Qb8.cells
  have ql := Qb8.lt
  rw [p4] at t1
  rw [p2] at q3
  rw [p3] at q0
  have q0 : w8.cell? ⟨gb, 0, none⟩ = some (.string ⟨#[84, 69, 82, 77, 49]⟩) := q0
  have HX8 := Lib.hid x8
  clear p1 p2 p3 p4 P2 x8
  generalize (pathO (trust0 K) [v3]).1.dt = d8 at *
  generalize (pathO (trust0 K) [v3]).2.1 = c9 at *
  unfold chV
  have hs : ((bstr term1N).toList == ([84, 69, 82, 77, 49] : List UInt8)) = true := by rw [bstr_toList]; rfl
  go_wp2_with fail
  go_ret
  exact ⟨rfl, (HX8.out.tr ((Below.refl _ _).alloc (Nat.le_refl _) _)).tr ((Below.refl _ _).alloc (Nat.le_refl _) _)⟩
end Go.Proofs.YtkjplpmogfmhkaaGreatDoor

namespace Go.Proofs.YtkjplpmogfmhkaaGreatDoor
open Go.RowKit
set_option linter.unusedVariables false
set_option maxRecDepth 100000

theorem eql_ch (w : World) (c : CH) : (binOp .eql 28 (chV c) (chV c)).run Tryz.prog w = .ok (.bool true) w := by
  unfold chV
  go_simp
theorem starts_any {v : Value} (t : TR) (h : List UInt8) (w : World) (hv : TrR w v t) (hs : smR t.ps) (E : Env w) :
    Calls Tryz.prog 3 #[v, .string (bstr h)] w (RetQ w (.bool true)) := by
  have HL := Lib.hid (fun W (e : Ext w W) => light26_any t W (hv.ext e))
  have HA := Lib.hid (fun W (e : Ext w W) => awake26_any W (E.ext e))
  have HS := Lib.hid (fun W (e : Ext w W) => start_any t h W (hv.ext e) hs)
  have HR := Lib.hid (fun W (e : Ext w W) => refstart26_any t h W (hv.ext e) hs)
  obtain ⟨A, n, c, rfl, hr⟩ := hv
  clear hr E hs
  have x0 : Ext w (w.alloc (.cells #[.slice A n c, .int .i64 t.dt] 24)) := (Below.refl _ _).alloc (Nat.le_refl _) _
  have T0 : TrAt (w.alloc (.cells #[.slice A n c, .int .i64 t.dt] 24)) w.heap.size A n c t.dt := by obtain ⟨_, rfl, _, q⟩ := tr_alloc w A n c t.dt; exact q
  obtain ⟨b, hb⟩ : ∃ b, decide (t.ps.length ≤ 10) = b := ⟨_, rfl⟩
  rw [hb] at HL
  obtain ⟨z, hz⟩ : ∃ z, decide (((bstr h).size : Int) > 100) = z := ⟨_, rfl⟩
  cases b
  · go_enter Tryz.func3, Tryz.ntmps3
    go_wp2_with fail
    refine (HL.out _ x0).mono ?_
    rintro e w1 ⟨rfl, b1⟩
    have x1 := x0.tr b1
    clear HL
    go_wp2_with fail
    refine (HA.out _ x1).mono ?_
    rintro e w2 ⟨rfl, b2⟩
    have x2 := x1.tr b2
    go_wp2_with fail
    go_ret
    exact ⟨rfl, x2⟩
  · cases z
    · go_enter Tryz.func3, Tryz.ntmps3
      go_wp2_with fail
      refine (HL.out _ x0).mono ?_
      rintro e w1 ⟨rfl, b1⟩
      have x1 := x0.tr b1
      have T1 := T0.ext b1
      clear HL T0 x0
      obtain ⟨p0, p1⟩ := T1.cells
      go_wp2_with fail
      refine (HS.out _ x1).mono ?_
      rintro e w2 ⟨rfl, b2⟩
      have x2 := x1.tr b2
      have T2 := T1.ext b2
      clear HS T1 p0 p1 x1
      obtain ⟨p0, p1⟩ := T2.cells
      generalize startC t h = k at *
      generalize startB t h = kb at *
      obtain ⟨ho, key, role, rights, fr, dto⟩ := k
      unfold chV at *
      have e3 : Ext w2 (w2.alloc (.cells #[.string (bstr ho), .int .i64 key, .int .i64 role, .int .i64 rights, .int .i64 fr, .int .i64 dto] 28)) := (Below.refl _ _).alloc (Nat.le_refl _) _
      have x3 := x2.tr e3
      have T3 := T2.ext e3
      have C3 : ChAt (w2.alloc (.cells #[.string (bstr ho), .int .i64 key, .int .i64 role, .int .i64 rights, .int .i64 fr, .int .i64 dto] 28)) w2.heap.size ⟨ho, key, role, rights, fr, dto⟩ := heap_alloc_new' w2 _
      obtain ⟨q0, q1⟩ := T3.cells
      clear T2 e3 x2 b2 b1
      go_wp2_with fail
      refine (HR.out _ x3).mono ?_
      rintro e w4 ⟨rfl, b4⟩
      have x4 := x3.tr b4
      have T4 := T3.ext b4
      have C4 := C3.ext b4
      clear HR T3 C3 p0 p1 q0 q1 x3 b4
      have e5 : Ext w4 (w4.alloc (.cells #[.string (bstr ho), .int .i64 key, .int .i64 role, .int .i64 rights, .int .i64 fr, .int .i64 dto] 28)) := (Below.refl _ _).alloc (Nat.le_refl _) _
      have x5 := x4.tr e5
      have D5 : ChAt (w4.alloc (.cells #[.string (bstr ho), .int .i64 key, .int .i64 role, .int .i64 rights, .int .i64 fr, .int .i64 dto] 28)) w4.heap.size ⟨ho, key, role, rights, fr, dto⟩ := heap_alloc_new' w4 _
      have C5 := C4.ext e5
      clear T4 C4 e5 x4
      go_wp2_with fail
      refine (HA.out _ x5).mono ?_
      rintro e w6 ⟨rfl, b6⟩
      have x6 := x5.tr b6
      have C6 := C5.ext b6
      have D6 := D5.ext b6
      clear C5 D5 x5 b6 HA
      obtain ⟨a0, a1, a2, a3, a4, a5⟩ := C6.cells
      obtain ⟨d0, d1, d2, d3, d4, d5⟩ := D6.cells
      clear C6 D6
      have HX := Lib.hid x6
      clear x6
      go_wp2_with fail
      go_ret
      exact ⟨rfl, HX.out⟩
    · go_enter Tryz.func3, Tryz.ntmps3
      go_wp2_with fail
      refine (HL.out _ x0).mono ?_
      rintro e w1 ⟨rfl, b1⟩
      have x1 := x0.tr b1
      clear HL
      go_wp2_with fail
      refine (HA.out _ x1).mono ?_
      rintro e w2 ⟨rfl, b2⟩
      have x2 := x1.tr b2
      go_wp2_with fail
      go_ret
      exact ⟨rfl, x2⟩
end Go.Proofs.YtkjplpmogfmhkaaGreatDoor

namespace Go.Proofs.YtkjplpmogfmhkaaGreatDoor
open Go.RowKit
set_option linter.unusedVariables false
set_option maxRecDepth 100000

theorem bstr_sz (l : List UInt8) : (bstr l).size = l.length := by show l.toArray.size = _; simp
set_option maxHeartbeats 2000000 in
theorem imports_any {v : Value} (t : TR) (b : CH) (x : TC) (w : World) (hv : TrR w v t) (hs : smR t.ps) (E : Env w) :
    Calls Tryz.prog 4 #[v, chV b, tcV x] w (RetQ w (.bool true)) := by
  have HL := Lib.hid (fun W (e : Ext w W) => light26_any t W (hv.ext e))
  have HA := Lib.hid (fun W (e : Ext w W) => awake26_any W (E.ext e))
  have HS := Lib.hid (fun W (e : Ext w W) (hx : smT x) (hl : t.ps.length ≤ 1000000000000) => import_any t b x W (hv.ext e) hs hx hl (E.ext e).d)
  have HR := Lib.hid (fun W (e : Ext w W) (hx : smT x) (hl : t.ps.length ≤ 1000000000000) => refimport_any (B := W.heap.size) t b x W (Nat.le_refl _) ((hv.ext e).safe (Nat.le_refl _)) hs hx hl (E.ext e).r)
  obtain ⟨A, n, c, rfl, hr⟩ := hv
  clear hr E hs
  unfold chV tcV at *
  obtain ⟨wa, hwa, xa, Ta⟩ := tr_alloc w A n c t.dt
  obtain ⟨wb, hwb⟩ : ∃ wb, wb = wa.alloc (.cells #[.string (bstr b.ho), .int .i64 b.key, .int .i64 b.role, .int .i64 b.rights, .int .i64 b.fr, .int .i64 b.to] 28) := ⟨_, rfl⟩
  obtain ⟨wd, hwd⟩ : ∃ wd, wd = wb.alloc (.cells #[.string (bstr x.au), .string (bstr x.ho), .int .i64 x.key, .int .i64 x.role, .int .i64 x.rights, .int .i64 x.fr, .int .i64 x.to, .int .i64 x.e, .int .i64 x.s] 35) := ⟨_, rfl⟩
  have eb : Ext wa wb := by subst hwb; exact (Below.refl _ _).alloc (Nat.le_refl _) _
  have ed : Ext wb wd := by subst hwd; exact (Below.refl _ _).alloc (Nat.le_refl _) _
  have Cb : ChAt wb wa.heap.size b := by subst hwb; exact heap_alloc_new' wa _
  have Xd : TcAt wd wb.heap.size x := by subst hwd; exact heap_alloc_new' wb _
  have sa : wa.heap.size = w.heap.size + 1 := by subst hwa; exact Array.size_push _
  have sb : wb.heap.size = w.heap.size + 1 + 1 := by subst hwb; rw [← sa]; exact Array.size_push _
  rw [sa] at Cb
  rw [sb] at Xd
  have Td := (Ta.ext eb).ext ed
  have Cd := Cb.ext ed
  have xd := (xa.tr eb).tr ed
  clear Ta Cb xa eb ed sa sb
  obtain ⟨q, hb⟩ : ∃ q, decide (t.ps.length ≤ 10) = q := ⟨_, rfl⟩
  rw [hb] at HL
  obtain ⟨z, hz⟩ : ∃ z, decide (((bstr x.ho).size : Int) > 100) = z := ⟨_, rfl⟩
  obtain ⟨y, hy⟩ : ∃ y, decide (((bstr x.au).size : Int) > 100) = y := ⟨_, rfl⟩
  cases q
  · go_enter Tryz.func4, Tryz.ntmps4
    go_wp2_with fail
    rw [← hwa, ← hwb, ← hwd]
    refine (HL.out _ xd).mono ?_
    rintro e w1 ⟨rfl, b1⟩
    have x1 := xd.tr b1
    have T1 := Td.ext b1
    have C1 := Cd.ext b1
    have X1 := Xd.ext b1
    clear HL Td Cd Xd xd hwa hwb hwd
    obtain ⟨p0, p1, p2, p3, p4, p5, p6, p7, p8⟩ := X1.cells
    clear T1 C1 X1
    go_wp2_with fail
    refine (HA.out _ x1).mono ?_
    rintro e w2 ⟨rfl, b2⟩
    have x2 := x1.tr b2
    go_wp2_with fail
    go_ret
    exact ⟨rfl, x2⟩
  · cases z
    · cases y
      · go_enter Tryz.func4, Tryz.ntmps4
        go_wp2_with fail
        rw [← hwa, ← hwb, ← hwd]
        refine (HL.out _ xd).mono ?_
        rintro e w1 ⟨rfl, b1⟩
        have x1 := xd.tr b1
        have T1 := Td.ext b1
        have C1 := Cd.ext b1
        have X1 := Xd.ext b1
        clear HL Td Cd Xd xd hwa hwb hwd
        obtain ⟨p0, p1, p2, p3, p4, p5, p6, p7, p8⟩ := X1.cells
        obtain ⟨q0, q1⟩ := T1.cells
        obtain ⟨r0, r1, r2, r3, r4, r5⟩ := C1.cells
        have hx : smT x := ⟨by have h1 := of_decide_eq_false hy; rw [bstr_sz] at h1; omega, by have h1 := of_decide_eq_false hz; rw [bstr_sz] at h1; omega⟩
        have hl : t.ps.length ≤ 1000000000000 := by have := of_decide_eq_true hb; omega
        go_wp2_with fail
        refine (HS.out _ x1 hx hl).mono ?_
        rintro e w2 ⟨b2, A2, n2, m2, rfl, s2⟩
        have x2 := x1.tr b2
        have R2 : TrR w2 (.agg #[.slice A2 n2 m2, .int .i64 (impT t b x).dt]) (impT t b x) := ⟨_, _, _, rfl, s2.rd⟩
        have T2 := T1.ext b2
        have C2 := C1.ext b2
        have X2 := X1.ext b2
        generalize impT t b x = rt at *
        generalize impC t b x = rc at *
        generalize exK t b x = k at *
        obtain ⟨ho, key, role, rights, fr, dto⟩ := rc
        obtain ⟨ps, dt⟩ := rt
        clear HS T1 C1 X1 x1 b2 s2 p0 p1 p2 p3 p4 p5 p6 p7 p8 q0 q1 r0 r1 r2 r3 r4 r5 b1
        unfold chV
        obtain ⟨we2, hwe2, ee, Te⟩ := tr_alloc w2 A2 n2 m2 dt
        obtain ⟨wf2, hwf2⟩ : ∃ wf, wf = we2.alloc (.cells #[.string (bstr ho), .int .i64 key, .int .i64 role, .int .i64 rights, .int .i64 fr, .int .i64 dto] 28) := ⟨_, rfl⟩
        have ef : Ext we2 wf2 := by subst hwf2; exact (Below.refl _ _).alloc (Nat.le_refl _) _
        have Cf : ChAt wf2 we2.heap.size ⟨ho, key, role, rights, fr, dto⟩ := by subst hwf2; exact heap_alloc_new' we2 _
        have se : we2.heap.size = w2.heap.size + 1 := by subst hwe2; exact Array.size_push _
        rw [se] at Cf
        have Tf := Te.ext ef
        have xf := (x2.tr ee).tr ef
        have R3 := (R2.ext ee).ext ef
        have T3 := (T2.ext ee).ext ef
        have C3 := (C2.ext ee).ext ef
        have X3 := (X2.ext ee).ext ef
        clear T2 C2 X2 R2 ee ef Te se x2
        subst hwf2 hwe2
        obtain ⟨q0, q1⟩ := T3.cells
        obtain ⟨r0, r1, r2, r3, r4, r5⟩ := C3.cells
        obtain ⟨p0, p1, p2, p3, p4, p5, p6, p7, p8⟩ := X3.cells
        go_wp2_with fail
        refine (HR.out _ xf hx hl).mono ?_
        rintro e w4 ⟨b4, A4, n4, m4, rfl, s4⟩
        have x4 := xf.tr b4
        have R4 : TrR w4 (.agg #[.slice A4 n4 m4, .int .i64 dt]) ⟨ps, dt⟩ := ⟨_, _, _, rfl, s4.rd⟩
        have P4 := R3.ext b4
        have T4 := Tf.ext b4
        have C4 := Cf.ext b4
        clear HR T3 C3 X3 xf b4 s4 R3 Tf Cf q0 q1 r0 r1 r2 r3 r4 r5 p0 p1 p2 p3 p4 p5 p6 p7 p8
        unfold chV
        obtain ⟨we4, hwe4, ee, Te⟩ := tr_alloc w4 A4 n4 m4 dt
        obtain ⟨wf4, hwf4⟩ : ∃ wf, wf = we4.alloc (.cells #[.string (bstr ho), .int .i64 key, .int .i64 role, .int .i64 rights, .int .i64 fr, .int .i64 dto] 28) := ⟨_, rfl⟩
        have ef : Ext we4 wf4 := by subst hwf4; exact (Below.refl _ _).alloc (Nat.le_refl _) _
        have Cf : ChAt wf4 we4.heap.size ⟨ho, key, role, rights, fr, dto⟩ := by subst hwf4; exact heap_alloc_new' we4 _
        have se : we4.heap.size = w4.heap.size + 1 := by subst hwe4; exact Array.size_push _
        rw [se] at Cf
        have Tf := Te.ext ef
        have xf := (x4.tr ee).tr ef
        have R5 := (R4.ext ee).ext ef
        have P5 := (P4.ext ee).ext ef
        have T5 := (T4.ext ee).ext ef
        have C5 := (C4.ext ee).ext ef
        clear T4 C4 R4 P4 ee ef Te se x4
        subst hwf4 hwe4
        go_wp2_with fail
        refine (HA.out _ xf).mono ?_
        rintro e w6 ⟨rfl, b6⟩
        have x6 := xf.tr b6
        have C6 := C5.ext b6
        have D6 := Cf.ext b6
        have T6 := T5.ext b6
        have U6 := Tf.ext b6
        have P6 := P5.ext b6
        have R6 := R5.ext b6
        clear C5 Cf T5 Tf P5 R5 xf b6 HA
        obtain ⟨q0, q1⟩ := T6.cells
        obtain ⟨p0, p1⟩ := U6.cells
        obtain ⟨r0, r1, r2, r3, r4, r5⟩ := C6.cells
        obtain ⟨d0, d1, d2, d3, d4, d5⟩ := D6.cells
        clear C6 D6 T6 U6
        have HX := Lib.hid x6
        clear x6
        have HQ := Lib.hid (fun W (e : Ext w6 W) => same25_any ⟨ps, dt⟩ W (P6.ext e) (R6.ext e))
        clear P6 R6
        go_wp2_with fail
        refine (HQ.out _ (Below.refl _ _)).mono ?_
        rintro e w7 ⟨rfl, b7⟩
        go_wp2_with fail
        go_ret
        exact ⟨rfl, HX.out.tr b7⟩
      · go_enter Tryz.func4, Tryz.ntmps4
        go_wp2_with fail
        rw [← hwa, ← hwb, ← hwd]
        refine (HL.out _ xd).mono ?_
        rintro e w1 ⟨rfl, b1⟩
        have x1 := xd.tr b1
        have T1 := Td.ext b1
        have C1 := Cd.ext b1
        have X1 := Xd.ext b1
        clear HL Td Cd Xd xd hwa hwb hwd
        obtain ⟨p0, p1, p2, p3, p4, p5, p6, p7, p8⟩ := X1.cells
        clear T1 C1 X1
        go_wp2_with fail
        refine (HA.out _ x1).mono ?_
        rintro e w2 ⟨rfl, b2⟩
        have x2 := x1.tr b2
        go_wp2_with fail
        go_ret
        exact ⟨rfl, x2⟩
    · go_enter Tryz.func4, Tryz.ntmps4
      go_wp2_with fail
      rw [← hwa, ← hwb, ← hwd]
      refine (HL.out _ xd).mono ?_
      rintro e w1 ⟨rfl, b1⟩
      have x1 := xd.tr b1
      have T1 := Td.ext b1
      have C1 := Cd.ext b1
      have X1 := Xd.ext b1
      clear HL Td Cd Xd xd hwa hwb hwd
      obtain ⟨p0, p1, p2, p3, p4, p5, p6, p7, p8⟩ := X1.cells
      clear T1 C1 X1
      go_wp2_with fail
      refine (HA.out _ x1).mono ?_
      rintro e w2 ⟨rfl, b2⟩
      have x2 := x1.tr b2
      go_wp2_with fail
      go_ret
      exact ⟨rfl, x2⟩
end Go.Proofs.YtkjplpmogfmhkaaGreatDoor
