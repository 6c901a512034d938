/- Parts Yl Yo Yp of the proof. -/
import Derived.Test.YtkjplpmogfmhkaaGreatDoorPkx
import Derived.Test.YtkjplpmogfmhkaaGreatDoorYf
import Derived.Test.YtkjplpmogfmhkaaGreatDoorYm
import Derived.Test.YtkjplpmogfmhkaaGreatDoorPks
import Derived.Test.YtkjplpmogfmhkaaGreatDoorPkw
namespace Go.Proofs.YtkjplpmogfmhkaaGreatDoor
open Go.RowKit
set_option linter.unusedVariables false
set_option maxRecDepth 100000

/-- The value v is the trust t; its points' row lies below B, or is one of points. -/
def TrS (w : World) (B : Nat) (v : Value) (t : TR) : Prop := ∃ A n c, v = .agg #[.slice A n c, .int .i64 t.dt] ∧ SafeK w B 139 5 (.slice A n c) (tpsCells t.ps)
theorem TrS.tr {w : World} {B : Nat} {v : Value} {t : TR} (h : TrS w B v t) : TrR w v t := by
  obtain ⟨A, n, c, h1, h2⟩ := h
  exact ⟨A, n, c, h1, h2.rd⟩
theorem TrR.safe {w : World} {B : Nat} {v : Value} {t : TR} (h : TrR w v t) (hB : w.heap.size ≤ B) : TrS w B v t := by
  obtain ⟨A, n, c, h1, h2⟩ := h
  exact ⟨A, n, c, h1, h2.safe (by omega) hB⟩
theorem TrS.ext {w w' : World} {B : Nat} {v : Value} {t : TR} (h : TrS w B v t) (e : Ext w w') : TrS w' B v t := by
  obtain ⟨A, n, c, h1, h2⟩ := h
  exact ⟨A, n, c, h1, h2.ext e⟩
theorem TrS.mono {w : World} {B B' : Nat} {v : Value} {t : TR} (h : TrS w B v t) (e : B ≤ B') : TrS w B' v t := by
  obtain ⟨A, n, c, h1, h2⟩ := h
  exact ⟨A, n, c, h1, h2.mono e⟩
/-- What Import and Path return. -/
def ImpR (w : World) (B : Nat) (t : TR) (c : CH) (k : Int) (e : Ending) (w' : World) : Prop :=
  Ext w w' ∧ ∃ A n cc, e = .returned (.tuple #[.agg #[.slice A n cc, .int .i64 t.dt], chV c, .int .i64 k]) ∧ SafeK w' B 139 5 (.slice A n cc) (tpsCells t.ps)
theorem TrAt.bel {w w' : World} {B g : Nat} {A : Option Addr} {n c : Nat} {d : Int} (h : TrAt w g A n c d) (e : Below B w w') (hg : g < B) : TrAt w' g A n c d := (e.block g hg).trans h
theorem ChAt.bel {w w' : World} {B g : Nat} {c : CH} (h : ChAt w g c) (e : Below B w w') (hg : g < B) : ChAt w' g c := (e.block g hg).trans h
theorem TcAt.bel {w w' : World} {B g : Nat} {c : TC} (h : TcAt w g c) (e : Below B w w') (hg : g < B) : TcAt w' g c := (e.block g hg).trans h
/-- A trust by value, in a slot. -/
def GTs (B : Nat) (l : List TP) (d : Int) : VPred := fun v w => ∃ A n c, v = .agg #[.slice A n c, .int .i64 d] ∧ SafeK w B 139 5 (.slice A n c) (tpsCells l)
theorem tp_ne_ch : 139 ≠ 28 := by decide
theorem ch_ne_tr : 28 ≠ 24 := by decide
/-- The types of the blocks in which results are put together. -/
def resT : List Nat := [24, 28]
theorem tp_resT : 139 ∉ resT := by decide
theorem tr_resT : 24 ∈ resT := by decide
theorem ch_resT : 28 ∈ resT := by decide
theorem resT_ch {T : Nat} (h : T ≠ 24) (h2 : T ∈ resT) : T = 28 := by
  simp only [resT, List.mem_cons, List.not_mem_nil, or_false] at h2
  exact h2.resolve_left h
theorem resT_tr {T : Nat} (h : T ≠ 28) (h2 : T ∈ resT) : T = 24 := by
  simp only [resT, List.mem_cons, List.not_mem_nil, or_false] at h2
  exact h2.resolve_right h
theorem stable_GTs (B1 : Nat) {G : Nat → Prop} (hB : ∀ k, G k → B1 ≤ k) (l : List TP) (d : Int) : (RG resT G).stable (GTs B1 l d) := fun v w w' r ⟨A, n, c, h1, h2⟩ => ⟨A, n, c, h1, h2.rg tp_resT hB r⟩
theorem TrAt.b {w : World} {g : Nat} {A : Option Addr} {n c : Nat} {d : Int} (h : TrAt w g A n c d) : BlkT w g 24 2 := ⟨_, h, rfl⟩
theorem ChAt.b {w : World} {g : Nat} {c : CH} (h : ChAt w g c) : BlkT w g 28 6 := ⟨_, h, rfl⟩
/-- A trust stored into its block. -/
theorem tr_store {w : World} {g : Nat} (h : BlkT w g 24 2) (A : Option Addr) (n c : Nat) (d : Int) :
    ∃ w', (Instr.storeAt 24 (.pointer (some ⟨g, 0, none⟩)) (.agg #[.slice A n c, .int .i64 d])).run Tryz.prog w = .ok () w' ∧ TrAt w' g A n c d ∧ ∀ G : Nat → Prop, G g → RgS [24] G w w' := by
  obtain ⟨⟨cs⟩, h1, h2⟩ := h
  match cs, h2 with
  | [x, y], _ =>
    have hl := block_lt h1
    have c0 : w.cell? ⟨g, 0, none⟩ = some x := by rw [cell_of_row w g 0 _ _ _ h1]; rfl
    have c1 : w.cell? ⟨g, 1, none⟩ = some y := by rw [cell_of_row w g 1 _ _ _ h1]; rfl
    have f0 : w.frozen? ⟨g, 0, none⟩ = false := by simp [World.frozen?, h1]
    have f1 : w.frozen? ⟨g, 1, none⟩ = false := by simp [World.frozen?, h1]
    have r1 := row_set h1 0 (.slice A n c)
    have r2 := row_set r1 1 (.int .i64 d)
    refine ⟨_, by go_simp, ?_, fun G hB => (RgS.set h1 List.mem_cons_self hB 0 (.slice A n c)).tr (RgS.set r1 List.mem_cons_self hB 1 (.int .i64 d))⟩
    simp only [List.setIfInBounds_toArray, List.set_cons_zero, List.set_cons_succ] at r2
    exact r2
/-- A chain stored into its block. -/
theorem ch_store {w : World} {g : Nat} (h : BlkT w g 28 6) (b : CH) :
    ∃ w', (Instr.storeAt 28 (.pointer (some ⟨g, 0, none⟩)) (chV b)).run Tryz.prog w = .ok () w' ∧ ChAt w' g b ∧ ∀ G : Nat → Prop, G g → RgS [28] G w w' := by
  obtain ⟨⟨cs⟩, h1, h2⟩ := h
  match cs, h2 with
  | [x0, x1, x2, x3, x4, x5], _ =>
    have hl := block_lt h1
    have c0 : w.cell? ⟨g, 0, none⟩ = some x0 := by rw [cell_of_row w g 0 _ _ _ h1]; rfl
    have c1 : w.cell? ⟨g, 1, none⟩ = some x1 := by rw [cell_of_row w g 1 _ _ _ h1]; rfl
    have c2 : w.cell? ⟨g, 2, none⟩ = some x2 := by rw [cell_of_row w g 2 _ _ _ h1]; rfl
    have c3 : w.cell? ⟨g, 3, none⟩ = some x3 := by rw [cell_of_row w g 3 _ _ _ h1]; rfl
    have c4 : w.cell? ⟨g, 4, none⟩ = some x4 := by rw [cell_of_row w g 4 _ _ _ h1]; rfl
    have c5 : w.cell? ⟨g, 5, none⟩ = some x5 := by rw [cell_of_row w g 5 _ _ _ h1]; rfl
    have f0 : w.frozen? ⟨g, 0, none⟩ = false := by simp [World.frozen?, h1]
    have f1 : w.frozen? ⟨g, 1, none⟩ = false := by simp [World.frozen?, h1]
    have f2 : w.frozen? ⟨g, 2, none⟩ = false := by simp [World.frozen?, h1]
    have f3 : w.frozen? ⟨g, 3, none⟩ = false := by simp [World.frozen?, h1]
    have f4 : w.frozen? ⟨g, 4, none⟩ = false := by simp [World.frozen?, h1]
    have f5 : w.frozen? ⟨g, 5, none⟩ = false := by simp [World.frozen?, h1]
    have r0 := row_set h1 0 (.string (bstr b.ho))
    have r1 := row_set r0 1 (.int .i64 b.key)
    have r2 := row_set r1 2 (.int .i64 b.role)
    have r3 := row_set r2 3 (.int .i64 b.rights)
    have r4 := row_set r3 4 (.int .i64 b.fr)
    have r5 := row_set r4 5 (.int .i64 b.to)
    refine ⟨setC w g b, by unfold chV; go_simp, ?_, fun G hB => (((((RgS.set h1 List.mem_cons_self hB 0 _).tr (RgS.set r0 List.mem_cons_self hB 1 _)).tr (RgS.set r1 List.mem_cons_self hB 2 _)).tr (RgS.set r2 List.mem_cons_self hB 3 _)).tr (RgS.set r3 List.mem_cons_self hB 4 _)).tr (RgS.set r4 List.mem_cons_self hB 5 _)⟩
    simp only [List.setIfInBounds_toArray, List.set_cons_zero, List.set_cons_succ] at r5
    exact r5
/-- Where the two results stand: the trust in block g, the chain in block g2. -/
def TrQ (g B1 : Nat) (l : List TP) (d : Int) (w : World) : Prop := ∃ A n c, TrAt w g A n c d ∧ SafeK w B1 139 5 (.slice A n c) (tpsCells l)
theorem TrQ.ext {g B1 : Nat} {l : List TP} {d : Int} (w w' : World) (e : Ext w w') (h : TrQ g B1 l d w) : TrQ g B1 l d w' := by
  obtain ⟨A, n, c, h1, h2⟩ := h
  exact ⟨A, n, c, h1.ext e, h2.ext e⟩
theorem TrQ.st {g B1 : Nat} {G : Nat → Prop} {l : List TP} {d : Int} (hB : ∀ k, G k → B1 ≤ k) (T : Nat) (hT : T ≠ 24) (w w' : World) (e : (RG resT G).st T w w') (h : TrQ g B1 l d w) : TrQ g B1 l d w' := by
  obtain ⟨A, n, c, h1, h2⟩ := h
  obtain ⟨h3, h4⟩ := e
  obtain rfl := resT_ch hT h3
  exact ⟨A, n, c, h4.other h1 (fun q => ch_ne_tr (List.mem_singleton.1 q).symm), h2.rg1 tp_ne_ch hB h4⟩
theorem ch_st {g : Nat} {G : Nat → Prop} {c : CH} (T : Nat) (hT : T ≠ 28) (w w' : World) (e : (RG resT G).st T w w') (h : ChAt w g c) : ChAt w' g c := by
  obtain ⟨h3, h4⟩ := e
  obtain rfl := resT_tr hT h3
  exact h4.other h (fun q => ch_ne_tr (List.mem_singleton.1 q))
structure ImZ (w wr : World) (A : Option Addr) (n c : Nat) (d : Int) (b : CH) (x : TC) : Prop where
  z : ExZ w wr A n c d b x
  r : TrAt wr (w.heap.size + 1 + 1 + 1) none 0 0 0
  q : ChAt wr (w.heap.size + 1 + 1 + 1 + 1) zeroC
theorem ImZ.tr {w wr wx : World} {A : Option Addr} {n c : Nat} {d : Int} {b : CH} {x : TC} (h : ImZ w wr A n c d b x) (e : Ext wr wx) : ImZ w wx A n c d b x := ⟨h.z.tr e, h.r.ext e, h.q.ext e⟩
theorem im_alloc (w : World) (A : Option Addr) (n c : Nat) (d : Int) (b : CH) (x : TC) : ∃ wz, wz = ((((w.alloc (.cells #[.slice A n c, .int .i64 d] 24)).alloc (.cells #[.string (bstr b.ho), .int .i64 b.key, .int .i64 b.role, .int .i64 b.rights, .int .i64 b.fr, .int .i64 b.to] 28)).alloc (.cells #[.string (bstr x.au), .string (bstr x.ho), .int .i64 x.key, .int .i64 x.role, .int .i64 x.rights, .int .i64 x.fr, .int .i64 x.to, .int .i64 x.e, .int .i64 x.s] 35)).alloc (.cells #[.slice none 0 0, .int .i64 0] 24)).alloc (.cells #[.string ⟨#[]⟩, .int .i64 0, .int .i64 0, .int .i64 0, .int .i64 0, .int .i64 0] 28) ∧ ImZ w wz A n c d b x := by
  obtain ⟨w3, hw3, Z⟩ := ex_alloc w A n c d b x
  have s3 : w3.heap.size = w.heap.size + 1 + 1 + 1 := by rw [hw3]; simp
  rw [← hw3]
  clear hw3
  obtain ⟨w4, hw4, e4, T4⟩ := tr_alloc w3 none 0 0 0
  have s4 : w4.heap.size = w.heap.size + 1 + 1 + 1 + 1 := by rw [hw4]; simp [s3]
  rw [← hw4]
  clear hw4
  obtain ⟨w5, hw5, e5, T5⟩ := ch_alloc w4 zeroC
  rw [s3] at T4
  rw [s4] at T5
  exact ⟨w5, hw5, Z.tr (e4.tr e5), T4.ext e5, T5⟩
/-- The blocks of Import's results. -/
def imG (w : World) (k : Nat) : Prop := k = w.heap.size + 1 + 1 + 1 ∨ k = w.heap.size + 1 + 1 + 1 + 1
theorem imG_ge {w : World} (k : Nat) (h : imG w k) : w.heap.size + 1 + 1 + 1 ≤ k := by
  rcases h with h | h <;> omega
theorem LearnR.gts {w w' : World} {t : TR} {e : Ending} (h : LearnR w t e w') : ∃ v, e = .returned v ∧ Ext w w' ∧ GTs 0 t.ps t.dt v w' := by
  obtain ⟨h1, A, n, c, h2, h3⟩ := h
  exact ⟨_, h2, h1, A, n, c, rfl, h3⟩
set_option maxHeartbeats 4000000 in
theorem import_any {v : Value} (t : TR) (b : CH) (x : TC) (w : World) (hv : TrR w v t) (hs : smR t.ps) (hx : smT x) (hl : t.ps.length ≤ 1000000000000) (E : KTab w 1) :
    Calls Tryz.prog 23 #[v, chV b, tcV x] w (ImpR w 0 (impT t b x) (impC t b x) (exK t b x)) := by
  have HX := Lib.hid (fun W (e : Ext w W) => examine_any t b x W (hv.ext e) hs hx (E.below e))
  have HP := Lib.hid (fun W (e : Ext w W) => copied_any t W (hv.ext e) hl)
  have HN := Lib.hid (fun W (e : Ext w W) => learn25_any t b x W (hv.ext e) hs hx hl)
  obtain ⟨A, n, c, rfl, hr⟩ := hv
  obtain ⟨l, dt⟩ := t
  obtain ⟨wz, hwz, zz⟩ := im_alloc w A n c dt b x
  clear hr hs hx hl
  unfold chV tcV
  go_enter Tryz.func23, Tryz.ntmps23
  go_upto_region 1 with fail
  rw [← hwz]
  clear hwz
  obtain ⟨z0, z1⟩ := zz.z.t.cells
  have zl := zz.z.t.lt
  obtain ⟨y0, y1, y2, y3, y4, y5⟩ := zz.z.b.cells
  have yl := zz.z.b.lt
  obtain ⟨p0, p1, p2, p3, p4, p5, p6, p7, p8⟩ := (zz.z.x).cells
  have pf0 := (zz.z.x).frozen 0
  have pf1 := (zz.z.x).frozen 1
  have pf2 := (zz.z.x).frozen 2
  have pf3 := (zz.z.x).frozen 3
  have pf4 := (zz.z.x).frozen 4
  have pf5 := (zz.z.x).frozen 5
  have pf6 := (zz.z.x).frozen 6
  have pf7 := (zz.z.x).frozen 7
  have pf8 := (zz.z.x).frozen 8
  have pl := (zz.z.x).lt
  go_wp2_with fail
  refine (HX.out _ zz.z.ext).mono ?_
  rintro e w2 ⟨rfl, b2⟩
  have Z2 := zz.tr b2
  clear z0 z1 zl y0 y1 y2 y3 y4 y5 yl zz
  clear p0 pf0 p1 pf1 p2 pf2 p3 pf3 p4 pf4 p5 pf5 p6 pf6 p7 pf7 p8 pf8 pl
  by_cases hk : exK ⟨l, dt⟩ b x = 0
  case neg =>
    have hb : (exK ⟨l, dt⟩ b x != 0) = true := by simpa using hk
    have HK := Lib.hid (show impT ⟨l, dt⟩ b x = ⟨l, dt⟩ ∧ impC ⟨l, dt⟩ b x = b from ⟨if_pos hk, if_pos hk⟩)
    clear hk
    generalize exK ⟨l, dt⟩ b x = ek at *
    go_wp2_with fail
    refine Gt.wp_region_X (r := RG resT (imG w)) 6 (by kernel_rfl) (by kernel_rfl) ?_
    simp only [List.take_succ_cons, List.take_zero, List.drop_succ_cons, List.drop_zero]
    intro wq hw1
    have hB2 : w.heap.size + 1 + 1 + 1 ≤ w2.heap.size := Nat.le_of_lt Z2.r.lt
    have LR : ∀ m : (RG resT (imG w)).Lt wq, RgS resT (imG w) w2 m.1 := fun m => RgS.tr hw1 m.2
    have LB : ∀ m : (RG resT (imG w)).Lt wq, Below (w.heap.size + 1 + 1 + 1) w2 m.1 := fun m => (LR m).below imG_ge hB2
    have LE : ∀ m : (RG resT (imG w)).Lt wq, Ext w m.1 := fun m => Z2.z.ext.trans ((LB m).mono (by omega))
    have TT := fun m : (RG resT (imG w)).Lt wq => Z2.z.t.bel (LB m) (by omega)
    have TB := fun m : (RG resT (imG w)).Lt wq => Z2.z.b.bel (LB m) (by omega)
    have g0 := fun m => (TT m).cells.1
    have g1 := fun m => (TT m).cells.2
    have kb0 := fun m => (TB m).cells.1
    have kb1 := fun m => (TB m).cells.2.1
    have kb2 := fun m => (TB m).cells.2.2.1
    have kb3 := fun m => (TB m).cells.2.2.2.1
    have kb4 := fun m => (TB m).cells.2.2.2.2.1
    have kb5 := fun m => (TB m).cells.2.2.2.2.2
    repeat (refine Gt.wpX_pure (by first | exact trivial | exact ⟨_, rfl, rfl, rfl⟩) rfl rfl rfl rfl rfl (fun K hK => ?_); go_big_quiet_op; refine hK _ ?_; clear hK K)
    refine Gt.wpX_callF (by first | exact trivial | exact ⟨_, rfl, rfl, rfl⟩) (GTs 0 l dt) (stable_GTs _ (fun _ _ => Nat.zero_le _) _ _) (fun _ => [.agg #[.slice A n c, .int .i64 dt]]) rfl rfl rfl rfl rfl (by kernel_rfl) rfl (fun _ => rfl) (fun m f hf => (HP.out m.1 (LE m)).mono fun _ _ h => h.gts) ?_
    simp only [Act.put, List.setIfInBounds_toArray, List.set_cons_zero, List.set_cons_succ]
    repeat (refine Gt.wpX_pure (by first | exact trivial | exact ⟨_, rfl, rfl, rfl⟩) rfl rfl rfl rfl rfl (fun K hK => ?_); go_big_quiet_op; refine hK _ ?_; clear hK K)
    refine Gt.wpX_store (by first | exact trivial | exact ⟨_, rfl, rfl, rfl⟩) (fun _ => TrQ (w.heap.size + 1 + 1 + 1) 0 (l) (dt)) (fun _ => .pointer (some ⟨w.heap.size + 1 + 1 + 1, 0, none⟩)) (fun f => f 18) rfl rfl rfl rfl rfl (fun _ => rfl) (fun _ => rfl) (fun _ => TrQ.ext) (fun T hT _ => TrQ.st (fun _ _ => Nat.zero_le _) T hT) (fun m f hf => ?_) ?_
    · obtain ⟨A5, n5, c5, e5, s5⟩ := hf 18 _ rfl rfl
      rw [e5]
      obtain ⟨w9, q1, q2, q3⟩ := tr_store (Z2.r.b.rg (LR m)) A5 n5 c5 (dt)
      exact ⟨w9, q1, ⟨tr_resT, q3 _ (.inl rfl)⟩, A5, n5, c5, q2, s5.rg1 tp_ne_tr (fun _ _ => Nat.zero_le _) (q3 (imG w) (.inl rfl))⟩
    refine Gt.wpX_store (by first | exact trivial | exact ⟨_, rfl, rfl, rfl⟩) (fun _ wx => ChAt wx (w.heap.size + 1 + 1 + 1 + 1) (b)) (fun _ => .pointer (some ⟨w.heap.size + 1 + 1 + 1 + 1, 0, none⟩)) (fun f => chV (b)) rfl rfl rfl rfl rfl (fun _ => rfl) (fun _ => rfl) (fun _ _ _ e h => h.ext e) (fun T hT _ => ch_st T hT) (fun m f hf => ?_) ?_
    · obtain ⟨w9, q1, q2, q3⟩ := ch_store (Z2.q.b.rg (LR m)) (b)
      exact ⟨w9, q1, ⟨ch_resT, q3 _ (.inr rfl)⟩, q2⟩
    refine Gt.wpX_endL (fun m f hf hqs => ?_)
    have hq2 := hqs _ List.mem_cons_self
    have hq1 := hqs _ (List.mem_cons_of_mem _ List.mem_cons_self)
    simp only at hq1 hq2
    clear hqs
    obtain ⟨A6, n6, c6, e6, _⟩ := hf 18 _ rfl
    obtain ⟨A5, n5, c5, T5, S5⟩ := hq1
    simp only [fillH]
    simp only [Act.put, List.setIfInBounds_toArray, List.set_cons_zero, List.set_cons_succ]
    rw [e6]
    have Lm := LE m
    obtain ⟨wm, hwm⟩ := m
    have Lm : Ext w wm := Lm
    clear g0 g1 kb0 kb1 kb2 kb3 kb4 kb5 TT TB hf e6 LE LB LR
    show wpList _ _ _ _ _ _
    go_wp2_with fail
    refine bodyPost_ret (v := .tuple #[.agg #[.slice A5 n5 c5, .int .i64 (dt)], chV (b), .int .i64 ek]) ?_ rfl ⟨Lm, A5, n5, c5, by rw [HK.out.1, HK.out.2], by rw [HK.out.1]; exact S5⟩
    obtain ⟨t0, t1⟩ := T5.cells
    obtain ⟨q0, q1, q2, q3, q4, q5⟩ := hq2.cells
    simp [results, Tryz.results23, go_sem, chV, t0, t1, q0, q1, q2, q3, q4, q5]
  have hb : (exK ⟨l, dt⟩ b x != 0) = false := by simp [hk]
  have HK := Lib.hid (show impT ⟨l, dt⟩ b x = learnT ⟨l, dt⟩ b x ∧ impC ⟨l, dt⟩ b x = nextC b x from ⟨if_neg (not_not_intro hk), if_neg (not_not_intro hk)⟩)
  have HK0 := Lib.hid hk
  clear hk
  obtain ⟨z0, z1⟩ := Z2.z.t.cells
  have zl := Z2.z.t.lt
  obtain ⟨y0, y1, y2, y3, y4, y5⟩ := Z2.z.b.cells
  have yl := Z2.z.b.lt
  obtain ⟨p0, p1, p2, p3, p4, p5, p6, p7, p8⟩ := (Z2.z.x).cells
  have pf0 := (Z2.z.x).frozen 0
  have pf1 := (Z2.z.x).frozen 1
  have pf2 := (Z2.z.x).frozen 2
  have pf3 := (Z2.z.x).frozen 3
  have pf4 := (Z2.z.x).frozen 4
  have pf5 := (Z2.z.x).frozen 5
  have pf6 := (Z2.z.x).frozen 6
  have pf7 := (Z2.z.x).frozen 7
  have pf8 := (Z2.z.x).frozen 8
  have pl := (Z2.z.x).lt
  have hB2 : w.heap.size + 1 + 1 + 1 + 1 < w2.heap.size := Z2.q.lt
  obtain ⟨wn, hwn0, en, TN⟩ := ch_alloc w2 (nextC b x)
  have hwn : wn = w2.alloc (.cells #[.string (bstr x.ho), .int .i64 x.key, .int .i64 x.role, .int .i64 (bits .and .i64 b.rights x.rights), .int .i64 x.fr, .int .i64 x.to] 28) := hwn0
  clear hwn0
  have hB2' : w.heap.size + 1 + 1 + 1 ≤ w2.heap.size := by omega
  have HW2 := Lib.hid hB2
  have HWN := Lib.hid hwn
  have HE9 := Lib.hid en
  have HT9 := Lib.hid TN
  have HB9 := Lib.hid hB2'
  clear hwn en TN hB2 hB2'
  go_upto_region 5 with fail
  rw [← HWN.out]
  clear HWN z0 z1 zl y0 y1 y2 y3 y4 y5 yl
  have en := HE9.out
  have TN := HT9.out
  have hB2' := HB9.out
  clear HE9 HT9 HB9
  clear p0 pf0 p1 pf1 p2 pf2 p3 pf3 p4 pf4 p5 pf5 p6 pf6 p7 pf7 p8 pf8 pl
  have Z3 := Z2.tr en
  have hB3 : w.heap.size + 1 + 1 + 1 ≤ wn.heap.size := Nat.le_trans hB2' en.size
  have hlo : w.heap.size + 1 + 1 + 1 ≤ w2.heap.size := hB2'
  refine Gt.wp_region_X (r := RG resT (imG w)) 7 (by kernel_rfl) (by kernel_rfl) ?_
  simp only [List.take_succ_cons, List.take_zero, List.drop_succ_cons, List.drop_zero]
  intro wq hw1
  have LR : ∀ m : (RG resT (imG w)).Lt wq, RgS resT (imG w) wn m.1 := fun m => RgS.tr hw1 m.2
  have LB : ∀ m : (RG resT (imG w)).Lt wq, Below (w.heap.size + 1 + 1 + 1) wn m.1 := fun m => (LR m).below imG_ge hB3
  have LE : ∀ m : (RG resT (imG w)).Lt wq, Ext w m.1 := fun m => Z3.z.ext.trans ((LB m).mono (by omega))
  have TT := fun m : (RG resT (imG w)).Lt wq => Z3.z.t.bel (LB m) (by omega)
  have TB := fun m : (RG resT (imG w)).Lt wq => Z3.z.b.bel (LB m) (by omega)
  have TX := fun m : (RG resT (imG w)).Lt wq => Z3.z.x.bel (LB m) (by omega)
  have TW : ∀ m : (RG resT (imG w)).Lt wq, ChAt m.1 w2.heap.size (nextC b x) := fun m => (LR m).keep TN (by rintro (h | h) <;> (have := HW2.out; omega))
  have g0 := fun m => (TT m).cells.1
  have g1 := fun m => (TT m).cells.2
  have kb0 := fun m => (TB m).cells.1
  have kb1 := fun m => (TB m).cells.2.1
  have kb2 := fun m => (TB m).cells.2.2.1
  have kb3 := fun m => (TB m).cells.2.2.2.1
  have kb4 := fun m => (TB m).cells.2.2.2.2.1
  have kb5 := fun m => (TB m).cells.2.2.2.2.2
  have kx0 := fun m => (TX m).cells.1
  have kx1 := fun m => (TX m).cells.2.1
  have kx2 := fun m => (TX m).cells.2.2.1
  have kx3 := fun m => (TX m).cells.2.2.2.1
  have kx4 := fun m => (TX m).cells.2.2.2.2.1
  have kx5 := fun m => (TX m).cells.2.2.2.2.2.1
  have kx6 := fun m => (TX m).cells.2.2.2.2.2.2.1
  have kx7 := fun m => (TX m).cells.2.2.2.2.2.2.2.1
  have kx8 := fun m => (TX m).cells.2.2.2.2.2.2.2.2
  have kw0 := fun m => (TW m).cells.1
  have kw1 := fun m => (TW m).cells.2.1
  have kw2 := fun m => (TW m).cells.2.2.1
  have kw3 := fun m => (TW m).cells.2.2.2.1
  have kw4 := fun m => (TW m).cells.2.2.2.2.1
  have kw5 := fun m => (TW m).cells.2.2.2.2.2
  repeat (refine Gt.wpX_pure (by first | exact trivial | exact ⟨_, rfl, rfl, rfl⟩) rfl rfl rfl rfl rfl (fun K hK => ?_); go_big_quiet_op; refine hK _ ?_; clear hK K)
  refine Gt.wpX_callF (by first | exact trivial | exact ⟨_, rfl, rfl, rfl⟩) (GTs 0 (learnT ⟨l, dt⟩ b x).ps (learnT ⟨l, dt⟩ b x).dt) (stable_GTs _ (fun _ _ => Nat.zero_le _) _ _) (fun _ => [.agg #[.slice A n c, .int .i64 dt], chV b, tcV x]) rfl rfl rfl rfl rfl (by kernel_rfl) rfl (fun _ => rfl) (fun m f hf => (HN.out m.1 (LE m)).mono fun _ _ h => h.gts) ?_
  simp only [Act.put, List.setIfInBounds_toArray, List.set_cons_zero, List.set_cons_succ]
  repeat (refine Gt.wpX_pure (by first | exact trivial | exact ⟨_, rfl, rfl, rfl⟩) rfl rfl rfl rfl rfl (fun K hK => ?_); go_big_quiet_op; refine hK _ ?_; clear hK K)
  refine Gt.wpX_store (by first | exact trivial | exact ⟨_, rfl, rfl, rfl⟩) (fun _ => TrQ (w.heap.size + 1 + 1 + 1) 0 ((learnT ⟨l, dt⟩ b x).ps) ((learnT ⟨l, dt⟩ b x).dt)) (fun _ => .pointer (some ⟨w.heap.size + 1 + 1 + 1, 0, none⟩)) (fun f => f 40) rfl rfl rfl rfl rfl (fun _ => rfl) (fun _ => rfl) (fun _ => TrQ.ext) (fun T hT _ => TrQ.st (fun _ _ => Nat.zero_le _) T hT) (fun m f hf => ?_) ?_
  · obtain ⟨A5, n5, c5, e5, s5⟩ := hf 40 _ rfl rfl
    rw [e5]
    obtain ⟨w9, q1, q2, q3⟩ := tr_store (Z3.r.b.rg (LR m)) A5 n5 c5 ((learnT ⟨l, dt⟩ b x).dt)
    exact ⟨w9, q1, ⟨tr_resT, q3 _ (.inl rfl)⟩, A5, n5, c5, q2, s5.rg1 tp_ne_tr (fun _ _ => Nat.zero_le _) (q3 (imG w) (.inl rfl))⟩
  refine Gt.wpX_store (by first | exact trivial | exact ⟨_, rfl, rfl, rfl⟩) (fun _ wx => ChAt wx (w.heap.size + 1 + 1 + 1 + 1) (nextC b x)) (fun _ => .pointer (some ⟨w.heap.size + 1 + 1 + 1 + 1, 0, none⟩)) (fun f => chV (nextC b x)) rfl rfl rfl rfl rfl (fun _ => rfl) (fun _ => rfl) (fun _ _ _ e h => h.ext e) (fun T hT _ => ch_st T hT) (fun m f hf => ?_) ?_
  · obtain ⟨w9, q1, q2, q3⟩ := ch_store (Z3.q.b.rg (LR m)) (nextC b x)
    exact ⟨w9, q1, ⟨ch_resT, q3 _ (.inr rfl)⟩, q2⟩
  refine Gt.wpX_endL (fun m f hf hqs => ?_)
  have hq2 := hqs _ List.mem_cons_self
  have hq1 := hqs _ (List.mem_cons_of_mem _ List.mem_cons_self)
  simp only at hq1 hq2
  clear hqs
  obtain ⟨A6, n6, c6, e6, _⟩ := hf 40 _ rfl
  obtain ⟨A5, n5, c5, T5, S5⟩ := hq1
  simp only [fillH]
  simp only [Act.put, List.setIfInBounds_toArray, List.set_cons_zero, List.set_cons_succ]
  rw [e6]
  have Lm := LE m
  obtain ⟨wm, hwm⟩ := m
  have Lm : Ext w wm := Lm
  have HQ2 := Lib.hid hq2
  clear g0 g1 kb0 kb1 kb2 kb3 kb4 kb5 kx0 kx1 kx2 kx3 kx4 kx5 kx6 kx7 kx8 kw0 kw1 kw2 kw3 kw4 kw5 TT TB TX TW hf e6 LE LB LR hq2
  show wpList _ _ _ _ _ _
  go_wp2_with fail
  refine bodyPost_ret (v := .tuple #[.agg #[.slice A5 n5 c5, .int .i64 (learnT ⟨l, dt⟩ b x).dt], chV (nextC b x), .int .i64 0]) ?_ rfl ⟨Lm, A5, n5, c5, by rw [HK.out.1, HK.out.2, HK0.out], by rw [HK.out.1]; exact S5⟩
  obtain ⟨t0, t1⟩ := T5.cells
  obtain ⟨q0, q1, q2, q3, q4, q5⟩ := HQ2.out.cells
  simp [results, Tryz.results23, go_sem, chV, t0, t1, q0, q1, q2, q3, q4, q5]
end Go.Proofs.YtkjplpmogfmhkaaGreatDoor

namespace Go.Proofs.YtkjplpmogfmhkaaGreatDoor
open Go.RowKit
set_option linter.unusedVariables false
set_option maxRecDepth 100000

theorem run_buildCh (W : World) (h : ByteArray) (a b c d e : Int) : (Instr.build 28 [(0, .string h), (1, .int .i64 a), (2, .int .i64 b), (3, .int .i64 c), (4, .int .i64 d), (5, .int .i64 e)].toArray).run Tryz.prog W = .ok (.agg #[.string h, .int .i64 a, .int .i64 b, .int .i64 c, .int .i64 d, .int .i64 e]) W := run_build W _ _ _ (by kernel_rfl)
theorem fillH_nil (a : Act) (f : Nat → Value) : fillH a [] f = a := rfl
theorem imGB {w : World} {B : Nat} (hB : B ≤ w.heap.size) (k : Nat) (h : imG w k) : B ≤ k := by
  have := imG_ge k h
  omega
theorem SafeK.gts {w : World} {B : Nat} {A : Option Addr} {n c : Nat} {l : List TP} (d : Int) (h : SafeK w B 139 5 (.slice A n c) (tpsCells l)) : GTs B l d (.agg #[.slice A n c, .int .i64 d]) w := ⟨A, n, c, rfl, h⟩
theorem LearnR.gtsB {w w' : World} {t : TR} {e : Ending} (h : LearnR w t e w') (B : Nat) : ∃ v, e = .returned v ∧ Ext w w' ∧ GTs B t.ps t.dt v w' := by
  obtain ⟨h1, A, n, c, h2, h3⟩ := h
  exact ⟨_, h2, h1, A, n, c, rfl, h3.mono (Nat.zero_le _)⟩
set_option maxHeartbeats 4000000 in
theorem refimport_any {v : Value} (t : TR) (b : CH) (x : TC) (w : World) {B : Nat} (hB : B ≤ w.heap.size) (hv : TrS w B v t) (hs : smR t.ps) (hx : smT x) (hl : t.ps.length ≤ 1000000000000) (E : KTab w 0) :
    Calls Tryz.prog 24 #[v, chV b, tcV x] w (ImpR w B (impT t b x) (impC t b x) (exK t b x)) := by
  have HX := Lib.hid (fun W (e : Ext w W) => refused_any t b x W (hv.tr.ext e) hs hx (E.below e))
  have HN := Lib.hid (fun W (e : Ext w W) => reflearn25_any t b x W (hv.tr.ext e) hs hx hl)
  obtain ⟨A, n, c, rfl, hr⟩ := hv
  obtain ⟨l, dt⟩ := t
  have HRS := Lib.hid hr
  have HBB := Lib.hid (imGB hB)
  obtain ⟨wz, hwz, zz⟩ := im_alloc w A n c dt b x
  clear hr hs hx hl hB
  unfold chV tcV
  go_enter Tryz.func24, Tryz.ntmps24
  go_upto_region 1 with fail
  rw [← hwz]
  clear hwz
  obtain ⟨z0, z1⟩ := zz.z.t.cells
  have zl := zz.z.t.lt
  obtain ⟨y0, y1, y2, y3, y4, y5⟩ := zz.z.b.cells
  have yl := zz.z.b.lt
  obtain ⟨p0, p1, p2, p3, p4, p5, p6, p7, p8⟩ := (zz.z.x).cells
  have pf0 := (zz.z.x).frozen 0
  have pf1 := (zz.z.x).frozen 1
  have pf2 := (zz.z.x).frozen 2
  have pf3 := (zz.z.x).frozen 3
  have pf4 := (zz.z.x).frozen 4
  have pf5 := (zz.z.x).frozen 5
  have pf6 := (zz.z.x).frozen 6
  have pf7 := (zz.z.x).frozen 7
  have pf8 := (zz.z.x).frozen 8
  have pl := (zz.z.x).lt
  go_wp2_with fail
  refine (HX.out _ zz.z.ext).mono ?_
  rintro e w2 ⟨rfl, b2⟩
  have Z2 := zz.tr b2
  clear z0 z1 zl y0 y1 y2 y3 y4 y5 yl zz
  clear p0 pf0 p1 pf1 p2 pf2 p3 pf3 p4 pf4 p5 pf5 p6 pf6 p7 pf7 p8 pf8 pl
  have hB2 : w.heap.size + 1 + 1 + 1 ≤ w2.heap.size := Nat.le_of_lt Z2.r.lt
  by_cases hk : exK ⟨l, dt⟩ b x = 0
  case neg =>
    have hb : (exK ⟨l, dt⟩ b x != 0) = true := by simpa using hk
    have HK := Lib.hid (show impT ⟨l, dt⟩ b x = ⟨l, dt⟩ ∧ impC ⟨l, dt⟩ b x = b from ⟨if_pos hk, if_pos hk⟩)
    clear hk
    generalize exK ⟨l, dt⟩ b x = ek at *
    go_wp2_with fail
    refine Gt.wp_region_X (r := RG resT (imG w)) 5 (by kernel_rfl) (by kernel_rfl) ?_
    simp only [List.take_succ_cons, List.take_zero, List.drop_succ_cons, List.drop_zero]
    intro wq hw1
    have LR : ∀ m : (RG resT (imG w)).Lt wq, RgS resT (imG w) w2 m.1 := fun m => RgS.tr hw1 m.2
    have LB : ∀ m : (RG resT (imG w)).Lt wq, Below (w.heap.size + 1 + 1 + 1) w2 m.1 := fun m => (LR m).below imG_ge hB2
    have LE : ∀ m : (RG resT (imG w)).Lt wq, Ext w m.1 := fun m => Z2.z.ext.trans ((LB m).mono (by omega))
    have TT := fun m : (RG resT (imG w)).Lt wq => Z2.z.t.bel (LB m) (by omega)
    have TB := fun m : (RG resT (imG w)).Lt wq => Z2.z.b.bel (LB m) (by omega)
    have TX := fun m : (RG resT (imG w)).Lt wq => Z2.z.x.bel (LB m) (by omega)
    have g0 := fun m => (TT m).cells.1
    have g1 := fun m => (TT m).cells.2
    have kb0 := fun m => (TB m).cells.1
    have kb1 := fun m => (TB m).cells.2.1
    have kb2 := fun m => (TB m).cells.2.2.1
    have kb3 := fun m => (TB m).cells.2.2.2.1
    have kb4 := fun m => (TB m).cells.2.2.2.2.1
    have kb5 := fun m => (TB m).cells.2.2.2.2.2
    repeat (refine Gt.wpX_pure (by first | exact trivial | exact ⟨_, rfl, rfl, rfl⟩) rfl rfl rfl rfl rfl (fun K hK => ?_); go_big_quiet_op; refine hK _ ?_; clear hK K)
    refine Gt.wpX_store (by first | exact trivial | exact ⟨_, rfl, rfl, rfl⟩) (fun _ => TrQ (w.heap.size + 1 + 1 + 1) B (l) (dt)) (fun _ => .pointer (some ⟨w.heap.size + 1 + 1 + 1, 0, none⟩)) (fun f => .agg #[.slice A n c, .int .i64 dt]) rfl rfl rfl rfl rfl (fun _ => rfl) (fun _ => rfl) (fun _ => TrQ.ext) (fun T hT _ => TrQ.st HBB.out T hT) (fun m f hf => ?_) ?_
    · obtain ⟨w9, q1, q2, q3⟩ := tr_store (Z2.r.b.rg (LR m)) A n c dt
      exact ⟨w9, q1, ⟨tr_resT, q3 _ (.inl rfl)⟩, A, n, c, q2, (HRS.out.ext (LE m)).rg1 tp_ne_tr HBB.out (q3 (imG w) (.inl rfl))⟩
    refine Gt.wpX_store (by first | exact trivial | exact ⟨_, rfl, rfl, rfl⟩) (fun _ wx => ChAt wx (w.heap.size + 1 + 1 + 1 + 1) (b)) (fun _ => .pointer (some ⟨w.heap.size + 1 + 1 + 1 + 1, 0, none⟩)) (fun f => chV (b)) rfl rfl rfl rfl rfl (fun _ => rfl) (fun _ => rfl) (fun _ _ _ e h => h.ext e) (fun T hT _ => ch_st T hT) (fun m f hf => ?_) ?_
    · obtain ⟨w9, q1, q2, q3⟩ := ch_store (Z2.q.b.rg (LR m)) (b)
      exact ⟨w9, q1, ⟨ch_resT, q3 _ (.inr rfl)⟩, q2⟩
    refine Gt.wpX_endL (fun m f hf hqs => ?_)
    have hq2 := hqs _ List.mem_cons_self
    have hq1 := hqs _ (List.mem_cons_of_mem _ List.mem_cons_self)
    simp only at hq1 hq2
    clear hqs
    obtain ⟨A5, n5, c5, T5, S5⟩ := hq1
    rw [fillH_nil]
    have Lm := LE m
    obtain ⟨wm, hwm⟩ := m
    have Lm : Ext w wm := Lm
    have HQ2 := Lib.hid hq2
    clear g0 g1 kb0 kb1 kb2 kb3 kb4 kb5 TT TB TX hf LE LB LR hq2
    show wpList _ _ _ _ _ _
    go_wp2_with fail
    refine bodyPost_ret (v := .tuple #[.agg #[.slice A5 n5 c5, .int .i64 (dt)], chV (b), .int .i64 ek]) ?_ rfl ⟨Lm, A5, n5, c5, by rw [HK.out.1, HK.out.2], by rw [HK.out.1]; exact S5⟩
    obtain ⟨t0, t1⟩ := T5.cells
    obtain ⟨q0, q1, q2, q3, q4, q5⟩ := HQ2.out.cells
    simp [results, Tryz.results24, go_sem, chV, t0, t1, q0, q1, q2, q3, q4, q5]
  have hb : (exK ⟨l, dt⟩ b x != 0) = false := by simp [hk]
  have HK := Lib.hid (show impT ⟨l, dt⟩ b x = learnT ⟨l, dt⟩ b x ∧ impC ⟨l, dt⟩ b x = nextC b x from ⟨if_neg (not_not_intro hk), if_neg (not_not_intro hk)⟩)
  have HK0 := Lib.hid hk
  clear hk
  go_wp2_with fail
  refine Gt.wp_region_X (r := RG resT (imG w)) 22 (by kernel_rfl) (by kernel_rfl) ?_
  simp only [List.take_succ_cons, List.take_zero, List.drop_succ_cons, List.drop_zero]
  intro wq hw1
  have LR : ∀ m : (RG resT (imG w)).Lt wq, RgS resT (imG w) w2 m.1 := fun m => RgS.tr hw1 m.2
  have LB : ∀ m : (RG resT (imG w)).Lt wq, Below (w.heap.size + 1 + 1 + 1) w2 m.1 := fun m => (LR m).below imG_ge hB2
  have LE : ∀ m : (RG resT (imG w)).Lt wq, Ext w m.1 := fun m => Z2.z.ext.trans ((LB m).mono (by omega))
  have TT := fun m : (RG resT (imG w)).Lt wq => Z2.z.t.bel (LB m) (by omega)
  have TB := fun m : (RG resT (imG w)).Lt wq => Z2.z.b.bel (LB m) (by omega)
  have TX := fun m : (RG resT (imG w)).Lt wq => Z2.z.x.bel (LB m) (by omega)
  have g0 := fun m => (TT m).cells.1
  have g1 := fun m => (TT m).cells.2
  have kb0 := fun m => (TB m).cells.1
  have kb1 := fun m => (TB m).cells.2.1
  have kb2 := fun m => (TB m).cells.2.2.1
  have kb3 := fun m => (TB m).cells.2.2.2.1
  have kb4 := fun m => (TB m).cells.2.2.2.2.1
  have kb5 := fun m => (TB m).cells.2.2.2.2.2
  have kx0 := fun m => (TX m).cells.1
  have kx1 := fun m => (TX m).cells.2.1
  have kx2 := fun m => (TX m).cells.2.2.1
  have kx3 := fun m => (TX m).cells.2.2.2.1
  have kx4 := fun m => (TX m).cells.2.2.2.2.1
  have kx5 := fun m => (TX m).cells.2.2.2.2.2.1
  have kx6 := fun m => (TX m).cells.2.2.2.2.2.2.1
  have kx7 := fun m => (TX m).cells.2.2.2.2.2.2.2.1
  have kx8 := fun m => (TX m).cells.2.2.2.2.2.2.2.2
  repeat (refine Gt.wpX_pure (by first | exact trivial | exact ⟨_, rfl, rfl, rfl⟩) rfl rfl rfl rfl rfl (fun K hK => ?_); go_big_quiet_op; refine hK _ ?_; clear hK K)
  refine Gt.wpX_callF (by first | exact trivial | exact ⟨_, rfl, rfl, rfl⟩) (GTs B (learnT ⟨l, dt⟩ b x).ps (learnT ⟨l, dt⟩ b x).dt) (stable_GTs _ HBB.out _ _) (fun _ => [.agg #[.slice A n c, .int .i64 dt], chV b, tcV x]) rfl rfl rfl rfl rfl (by kernel_rfl) rfl (fun _ => rfl) (fun m f hf => (HN.out m.1 (LE m)).mono fun _ _ h => h.gtsB B) ?_
  simp only [Act.put, List.setIfInBounds_toArray, List.set_cons_zero, List.set_cons_succ]
  repeat (refine Gt.wpX_pure (by first | exact trivial | exact ⟨_, rfl, rfl, rfl⟩) rfl rfl rfl rfl rfl (fun K hK => ?_); go_big_quiet_op; refine hK _ ?_; clear hK K)
  refine Gt.wpX_buildL (by first | exact trivial | exact ⟨_, rfl, rfl, rfl⟩) (fun v _ => v = chV (nextC b x)) (Gt.Rl.stable_eq _ _) (fun _ => [(0, .string (bstr x.ho)), (1, .int .i64 x.key), (2, .int .i64 x.role), (3, .int .i64 (bits .and .i64 b.rights x.rights)), (4, .int .i64 x.fr), (5, .int .i64 x.to)]) rfl rfl rfl rfl rfl (fun _ => rfl) (fun m f hf => ⟨_, _, run_buildCh m.1 _ _ _ _ _ _, Below.refl _ _, rfl⟩) ?_
  simp only [Act.put, List.setIfInBounds_toArray, List.set_cons_zero, List.set_cons_succ]
  refine Gt.wpX_store (by first | exact trivial | exact ⟨_, rfl, rfl, rfl⟩) (fun _ => TrQ (w.heap.size + 1 + 1 + 1) B ((learnT ⟨l, dt⟩ b x).ps) ((learnT ⟨l, dt⟩ b x).dt)) (fun _ => .pointer (some ⟨w.heap.size + 1 + 1 + 1, 0, none⟩)) (fun f => f 22) rfl rfl rfl rfl rfl (fun _ => rfl) (fun _ => rfl) (fun _ => TrQ.ext) (fun T hT _ => TrQ.st HBB.out T hT) (fun m f hf => ?_) ?_
  · obtain ⟨A5, n5, c5, e5, s5⟩ := hf 22 _ rfl rfl
    rw [e5]
    obtain ⟨w9, q1, q2, q3⟩ := tr_store (Z2.r.b.rg (LR m)) A5 n5 c5 ((learnT ⟨l, dt⟩ b x).dt)
    exact ⟨w9, q1, ⟨tr_resT, q3 _ (.inl rfl)⟩, A5, n5, c5, q2, s5.rg1 tp_ne_tr HBB.out (q3 (imG w) (.inl rfl))⟩
  refine Gt.wpX_store (by first | exact trivial | exact ⟨_, rfl, rfl, rfl⟩) (fun _ wx => ChAt wx (w.heap.size + 1 + 1 + 1 + 1) (nextC b x)) (fun _ => .pointer (some ⟨w.heap.size + 1 + 1 + 1 + 1, 0, none⟩)) (fun f => f 38) rfl rfl rfl rfl rfl (fun _ => rfl) (fun _ => rfl) (fun _ _ _ e h => h.ext e) (fun T hT _ => ch_st T hT) (fun m f hf => ?_) ?_
  · have e9 : f 38 = chV (nextC b x) := hf 38 _ rfl rfl
    rw [e9]
    obtain ⟨w9, q1, q2, q3⟩ := ch_store (Z2.q.b.rg (LR m)) (nextC b x)
    exact ⟨w9, q1, ⟨ch_resT, q3 _ (.inr rfl)⟩, q2⟩
  refine Gt.wpX_endL (fun m f hf hqs => ?_)
  have hq2 := hqs _ List.mem_cons_self
  have hq1 := hqs _ (List.mem_cons_of_mem _ List.mem_cons_self)
  simp only at hq1 hq2
  clear hqs
  obtain ⟨A5, n5, c5, T5, S5⟩ := hq1
  obtain ⟨A6, n6, c6, e6, _⟩ := hf 22 _ rfl
  have e9 : f 38 = chV (nextC b x) := hf 38 _ rfl
  simp only [fillH]
  simp only [Act.put, List.setIfInBounds_toArray, List.set_cons_zero, List.set_cons_succ]
  rw [e6, e9]
  clear e6 e9
  have Lm := LE m
  obtain ⟨wm, hwm⟩ := m
  have Lm : Ext w wm := Lm
  have HQ2 := Lib.hid hq2
  clear g0 g1 kb0 kb1 kb2 kb3 kb4 kb5 kx0 kx1 kx2 kx3 kx4 kx5 kx6 kx7 kx8 TT TB TX hf LE LB LR hq2
  show wpList _ _ _ _ _ _
  go_wp2_with fail
  refine bodyPost_ret (v := .tuple #[.agg #[.slice A5 n5 c5, .int .i64 ((learnT ⟨l, dt⟩ b x).dt)], chV (nextC b x), .int .i64 0]) ?_ rfl ⟨Lm, A5, n5, c5, by rw [HK.out.1, HK.out.2, HK0.out], by rw [HK.out.1]; exact S5⟩
  obtain ⟨t0, t1⟩ := T5.cells
  obtain ⟨q0, q1, q2, q3, q4, q5⟩ := HQ2.out.cells
  simp [results, Tryz.results24, go_sem, chV, t0, t1, q0, q1, q2, q3, q4, q5]
end Go.Proofs.YtkjplpmogfmhkaaGreatDoor

namespace Go.Proofs.YtkjplpmogfmhkaaGreatDoor
open Go.RowKit
set_option linter.unusedVariables false
set_option maxRecDepth 100000

/-- A slice that reads as certificates. -/
abbrev RdC (w : World) (v : Value) (l : List TC) : Prop := RdK w 9 v (tcsCells l)
theorem tcCells_len (c : TC) : (tcCells c).length = 9 := rfl
/-- The nine cells of certificate i. -/
theorem RdC.at_ {w : World} {v : Value} {l : List TC} (h : RdC w v l) : ∃ A n c, v = .slice A n c ∧ n = l.length ∧ n ≤ c ∧ c ≤ maxLen ∧ (0 < n → ∃ b o, A = some ⟨b, o, none⟩ ∧ b < w.heap.size ∧ ∀ (i : Nat) (x : TC), l[i]? = some x →
    w.cell? ⟨b, o + i * 9, none⟩ = some (.string (bstr x.au)) ∧ w.cell? ⟨b, o + i * 9 + 1, none⟩ = some (.string (bstr x.ho)) ∧ w.cell? ⟨b, o + i * 9 + 2, none⟩ = some (.int .i64 x.key) ∧ w.cell? ⟨b, o + i * 9 + 3, none⟩ = some (.int .i64 x.role) ∧ w.cell? ⟨b, o + i * 9 + 4, none⟩ = some (.int .i64 x.rights) ∧ w.cell? ⟨b, o + i * 9 + 5, none⟩ = some (.int .i64 x.fr) ∧ w.cell? ⟨b, o + i * 9 + 6, none⟩ = some (.int .i64 x.to) ∧ w.cell? ⟨b, o + i * 9 + 7, none⟩ = some (.int .i64 x.e) ∧ w.cell? ⟨b, o + i * 9 + 8, none⟩ = some (.int .i64 x.s)) := by
  obtain ⟨A, n, c, rfl, hn, hnc, hcm, hc⟩ := RdK.flat (f := tcCells) (k := 9) (by omega) tcCells_len h
  refine ⟨A, n, c, rfl, hn, hnc, hcm, fun h0 => ?_⟩
  obtain ⟨b, o, rfl, hb, hcell⟩ := hc h0
  refine ⟨b, o, rfl, hb, fun i p hp => ?_⟩
  obtain ⟨hi, rfl⟩ := List.getElem?_eq_some_iff.1 hp
  exact ⟨hcell i hi 0 _ rfl, hcell i hi 1 _ rfl, hcell i hi 2 _ rfl, hcell i hi 3 _ rfl, hcell i hi 4 _ rfl, hcell i hi 5 _ rfl, hcell i hi 6 _ rfl, hcell i hi 7 _ rfl, hcell i hi 8 _ rfl⟩
theorem SafeK.put {w : World} {B g : Nat} {e T : TypeId} {k : Nat} {v : Value} {xs : List Value} (h : SafeK w B e k v xs) {cs : Array Value} {fr : Nat × Nat} (hg : w.heap[g]? = some (.cells cs T fr)) (he : e ≠ T) (hB : B ≤ g) (i : Nat) (x : Value) : SafeK (w.setCell ⟨g, i, none⟩ x) B e k v xs :=
  h.rg1 (G := fun k => k = g) he (fun k hk => by rw [hk]; exact hB) (RgS.set (G := fun k => k = g) hg List.mem_cons_self rfl i x)
theorem SafeK.putT {w : World} {B g : Nat} {v : Value} {l : List TP} {A : Option Addr} {n c : Nat} {d : Int} (h : SafeK w B 139 5 v (tpsCells l)) (T : TrAt w g A n c d) (hB : B ≤ g) (A' : Option Addr) (n' c' : Nat) (d' : Int) : SafeK ((w.setCell ⟨g, 0, none⟩ (.slice A' n' c')).setCell ⟨g, 1, none⟩ (.int .i64 d')) B 139 5 v (tpsCells l) :=
  (h.put T tp_ne_tr hB 0 _).put (T.setPs (A' := A') (n' := n') (c' := c')) tp_ne_tr hB 1 _
theorem SafeK.putC {w : World} {B g : Nat} {v : Value} {l : List TP} {c : CH} (h : SafeK w B 139 5 v (tpsCells l)) (Q : ChAt w g c) (hB : B ≤ g) (d : CH) : SafeK (setC w g d) B 139 5 v (tpsCells l) := by
  have r0 := row_set Q 0 (.string (bstr d.ho))
  have r1 := row_set r0 1 (.int .i64 d.key)
  have r2 := row_set r1 2 (.int .i64 d.role)
  have r3 := row_set r2 3 (.int .i64 d.rights)
  have r4 := row_set r3 4 (.int .i64 d.fr)
  exact (((((h.put Q tp_ne_ch hB 0 _).put r0 tp_ne_ch hB 1 _).put r1 tp_ne_ch hB 2 _).put r2 tp_ne_ch hB 3 _).put r3 tp_ne_ch hB 4 _).put r4 tp_ne_ch hB 5 _
theorem tr_otherC {w : World} {g b : Nat} {A : Option Addr} {n c : Nat} {d : Int} (h : TrAt w g A n c d) (ne : g ≠ b) (c9 : CH) : TrAt (setC w b c9) g A n c d := (((((h.other ne).other ne).other ne).other ne).other ne).other ne
theorem ch_otherC {w : World} {g b : Nat} {c : CH} (h : ChAt w g c) (ne : g ≠ b) (c9 : CH) : ChAt (setC w b c9) g c := (((((h.other ne).other ne).other ne).other ne).other ne).other ne
/-- Where Path stands: its trust, the results' blocks. -/
structure PtZ (w wr : World) (B : Nat) (t : TR) (A : Option Addr) (n c : Nat) : Prop where
  tz : TrAt wr w.heap.size A n c t.dt
  s : SafeK wr B 139 5 (.slice A n c) (tpsCells t.ps)
  r : TrAt wr (w.heap.size + 1) none 0 0 0
  q : ChAt wr (w.heap.size + 1 + 1) zeroC
  ext : Ext w wr
theorem PtZ.tr {w wr wx : World} {B : Nat} {t : TR} {A : Option Addr} {n c : Nat} (h : PtZ w wr B t A n c) (e : Ext wr wx) : PtZ w wx B t A n c := ⟨h.tz.ext e, h.s.ext e, h.r.ext e, h.q.ext e, h.ext.tr e⟩
theorem PtZ.v {w wr : World} {B : Nat} {t : TR} {A : Option Addr} {n c : Nat} (h : PtZ w wr B t A n c) : TrS wr B (.agg #[.slice A n c, .int .i64 t.dt]) t := ⟨A, n, c, rfl, h.s⟩
theorem pt_alloc (w : World) (A : Option Addr) (n c : Nat) (d : Int) : ∃ wz, wz = ((w.alloc (.cells #[.slice A n c, .int .i64 d] 24)).alloc (.cells #[.slice none 0 0, .int .i64 0] 24)).alloc (.cells #[.string ⟨#[]⟩, .int .i64 0, .int .i64 0, .int .i64 0, .int .i64 0, .int .i64 0] 28) ∧
    TrAt wz w.heap.size A n c d ∧ TrAt wz (w.heap.size + 1) none 0 0 0 ∧ ChAt wz (w.heap.size + 1 + 1) zeroC ∧ Ext w wz := by
  obtain ⟨w1, hw1, e1, T1⟩ := tr_alloc w A n c d
  have s1 : w1.heap.size = w.heap.size + 1 := by rw [hw1]; simp
  rw [← hw1]
  clear hw1
  obtain ⟨w2, hw2, e2, T2⟩ := tr_alloc w1 none 0 0 0
  have s2 : w2.heap.size = w.heap.size + 1 + 1 := by rw [hw2]; simp [s1]
  rw [← hw2]
  clear hw2
  obtain ⟨w3, hw3, e3, T3⟩ := ch_alloc w2 zeroC
  rw [s1] at T2
  rw [s2] at T3
  exact ⟨w3, hw3, T1.ext (e2.tr e3), T2.ext e3, T3, (e1.tr e2).tr e3⟩
/-- The results stored, one after the other. -/
def ptF (w wr : World) (A : Option Addr) (n c : Nat) (d : Int) (c9 : CH) : World := setC ((wr.setCell ⟨w.heap.size + 1, 0, none⟩ (.slice A n c)).setCell ⟨w.heap.size + 1, 1, none⟩ (.int .i64 d)) (w.heap.size + 1 + 1) c9
theorem PtZ.fin {w wr : World} {B : Nat} {t : TR} {A : Option Addr} {n c : Nat} (h : PtZ w wr B t A n c) (hB : B ≤ w.heap.size + 1) (c9 : CH) :
    Ext w (ptF w wr A n c t.dt c9) ∧ TrAt (ptF w wr A n c t.dt c9) (w.heap.size + 1) A n c t.dt ∧ SafeK (ptF w wr A n c t.dt c9) B 139 5 (.slice A n c) (tpsCells t.ps) ∧ ChAt (ptF w wr A n c t.dt c9) (w.heap.size + 1 + 1) c9 := by
  have T2 := (h.r.setPs (A' := A) (n' := n) (c' := c)).setDt t.dt
  have S2 := h.s.putT h.r hB A n c t.dt
  have q2 : ChAt ((wr.setCell ⟨w.heap.size + 1, 0, none⟩ (.slice A n c)).setCell ⟨w.heap.size + 1, 1, none⟩ (.int .i64 t.dt)) (w.heap.size + 1 + 1) zeroC := (h.q.other (by omega)).other (by omega)
  exact ⟨ext_setC (ext_set (ext_set h.ext (by omega)) (by omega)) (by omega) c9, tr_otherC T2 (by omega) c9, S2.putC q2 (by omega) c9, q2.setC c9⟩
/-- A trust stored into the block of Path's trust. -/
theorem PtZ.put {w wr : World} {B : Nat} {t t' : TR} {A A' : Option Addr} {n c n' c' : Nat} (h : PtZ w wr B t A n c) (hB : B ≤ w.heap.size) (s : SafeK wr B 139 5 (.slice A' n' c') (tpsCells t'.ps)) :
    PtZ w ((wr.setCell ⟨w.heap.size, 0, none⟩ (.slice A' n' c')).setCell ⟨w.heap.size, 1, none⟩ (.int .i64 t'.dt)) B t' A' n' c' :=
  ⟨h.tz.setPs.setDt t'.dt, s.putT h.tz hB A' n' c' t'.dt, (h.r.other (by omega)).other (by omega), (h.q.other (by omega)).other (by omega), ext_set (ext_set h.ext (Nat.le_refl _)) (Nat.le_refl _)⟩
theorem PtZ.putC {w wr : World} {B g : Nat} {t : TR} {A : Option Addr} {n c : Nat} {c0 : CH} (h : PtZ w wr B t A n c) (hB : B ≤ g) (Q : ChAt wr g c0) (hg : w.heap.size + 1 + 1 < g) (c9 : CH) : PtZ w (setC wr g c9) B t A n c :=
  ⟨tr_otherC h.tz (by omega) c9, h.s.putC Q hB c9, tr_otherC h.r (by omega) c9, ch_otherC h.q (by omega) c9, ext_setC h.ext (by omega) c9⟩
theorem kept_len (t : TR) (b : CH) (x : TC) : (lnKept t b x).length ≤ t.ps.length + 1 := by
  unfold lnKept
  rw [List.length_append]
  have := List.length_filter_le (fun p : TP => decide (lnDt t b x ≤ p.to)) t.ps
  simp only [List.length_cons, List.length_nil]
  omega
theorem learn_len {t : TR} {b : CH} {x : TC} (h : vdK t = 0) : (learnT t b x).ps.length ≤ 1000000000000 := by
  have h2 := (vdK_zero h).2.1
  have h3 := kept_len t b x
  unfold learnT
  split
  · omega
  · split
    · show t.ps.length ≤ _
      omega
    · show (if 2 < (lnKept t b x).length then (lnKept t b x).drop 1 else lnKept t b x).length ≤ _
      split
      · rw [List.length_drop]; omega
      · omega
theorem kept_sm {t : TR} {b : CH} {x : TC} (hs : smR t.ps) (hx : smT x) : smR (lnKept t b x) := by
  intro p hp
  rcases List.mem_append.1 hp with hp | hp
  · exact hs p (List.mem_filter.1 hp).1
  · rw [List.mem_singleton.1 hp]
    have := hx.2
    show x.ho.length ≤ maxLen
    unfold maxLen
    omega
theorem learn_sm {t : TR} {b : CH} {x : TC} (hs : smR t.ps) (hx : smT x) : smR (learnT t b x).ps := by
  have h3 := kept_sm (b := b) hs hx
  unfold learnT
  split
  · exact hs
  · split
    · exact hs
    · show smR (if 2 < (lnKept t b x).length then (lnKept t b x).drop 1 else lnKept t b x)
      split
      · exact fun p hp => h3 p (List.mem_of_mem_drop hp)
      · exact h3
end Go.Proofs.YtkjplpmogfmhkaaGreatDoor
