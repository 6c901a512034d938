/- Parts Xs Xf of the proof. -/
import Derived.Test.YthbpdhanljpigaaGreatDoorVay
import Derived.Deep.Cut
import Derived.Test.YthbpdhanljpigaaGreatDoorVav
import Derived.Test.YthbpdhanljpigaaGreatDoorVaw
import Derived.Test.YthbpdhanljpigaaGreatDoorVag
namespace Go.Proofs.YthbpdhanljpigaaGreatDoor
open Go.RowKit
set_option linter.unusedVariables false
set_option maxRecDepth 100000
/-- One hash in a row. -/
def OneH (z : Int) (u : Value) : VPred := fun v w => ∃ g : Nat, v = .slice (some ⟨g, 0, none⟩) 1 1 ∧ RdK w 2 v [.int .i64 z, u]
theorem stable_OneH (z : Int) (u : Value) : StableP (OneH z u) := fun v w w' e ⟨g, h1, h2⟩ => ⟨g, h1, h2.ext e⟩
theorem run_oneH (W : World) (z : Int) (A : Option Addr) (n c : Nat) : ∃ v' w'', (Instr.buildSlice 30 1 [(0, .agg #[.int .i64 z, .slice A n c])].toArray).run Tryz.prog W = .ok v' w'' ∧ Ext W w'' ∧ OneH z (.slice A n c) v' w'' :=
  ⟨.slice (some ⟨W.heap.size, 0, none⟩) 1 1, W.alloc (.cells #[.int .i64 z, .slice A n c] 72), by go_simp, (Below.refl _ _).alloc (Nat.le_refl _) _, _, rfl, RdK.lit W 2 #[.int .i64 z, .slice A n c] _ 1 rfl (by unfold maxLen; omega)⟩
theorem run_aggH (W : World) (z : Int) (A : Option Addr) (n c : Nat) : ∃ v' w'', (Instr.build 72 [(0, .int .i64 z), (1, .slice A n c)].toArray).run Tryz.prog W = .ok v' w'' ∧ Ext W w'' ∧ v' = .agg #[.int .i64 z, .slice A n c] :=
  ⟨.agg #[.int .i64 z, .slice A n c], W, by go_simp, Below.refl _ _, rfl⟩
set_option maxHeartbeats 8000000 in
theorem read_any {d : Nat} {v : Value} {ts : List Nd} (w : World) (hr : NdsRd d w v ts) (hb : ∀ x q, x ∈ ts → q ∈ x.kids → q.kids.length < 1000000) : Calls Tryz.prog 69 #[v] w (RdMQ w (rdM ts)) := by
  obtain ⟨A, n, c, rfl, hn, hnc, hcm, hel⟩ := hr.open_
  have HE := Lib.hid hel
  have HB := Lib.hid hb
  have HN := Lib.hid hn
  unfold maxLen at hcm
  clear hr hel hb hn
  obtain ⟨wz, hwz⟩ : ∃ wz, wz = w.alloc (.cells #[.int .i64 0, .slice none 0 0, .slice none 0 0, .int .i64 0, .int .i64 0] 37) := ⟨_, rfl⟩
  have xz := Lib.hid (show Ext w wz by rw [hwz]; exact (Below.refl _ _).alloc (Nat.le_refl _) _)
  have Z := Lib.hid (show SeAt wz w.heap.size seZ (.slice none 0 0) (.slice none 0 0) by rw [hwz]; exact heap_alloc_new' w _)
  by_cases h1 : ts.length = 1
  case neg =>
    have h1b : ((n : Int) != 1) = true := by simp; have := HN.out; omega
    have HNO := Lib.hid (rdM_len h1)
    clear h1
    have X0 := Lib.hid (show Ext w (w.alloc (.cells #[.int .i64 0, .slice none 0 0, .slice none 0 0, .int .i64 0, .int .i64 0] 37)) by rw [← hwz]; exact xz.out)
    clear hwz
    go_enter Tryz.func69, Tryz.ntmps69
    go_wp2_with fail
    refine bodyPost_ret (v := .tuple #[.agg (seRow 0 (.slice none 0 0) (.slice none 0 0) 0 0), .bool false]) ?_ rfl ⟨X0.out, .inl ⟨HNO.out, rfl⟩⟩
    simp [results, Tryz.results69, go_sem, seRow]
  obtain ⟨x, rfl⟩ := one_of h1
  obtain rfl : n = 1 := HN.out
  obtain ⟨d1, rfl, bb, o, rfl, hbl, a1, m1, k1, a2, m2, k2, e0, e1, e2, r1, r2⟩ := HE.out 0 x rfl
  simp only [Nat.zero_mul, Nat.add_zero] at e0 e1 e2
  have CX := Lib.hid (show ∀ W, Ext w W → W.cell? ⟨bb, o, none⟩ = some (.int .i64 x.tag) ∧ W.cell? ⟨bb, o + 1, none⟩ = some (.slice a1 m1 k1) ∧ W.cell? ⟨bb, o + 2, none⟩ = some (.slice a2 m2 k2) from fun W e => ⟨(e.cell (p := ⟨bb, o, none⟩) hbl).trans e0, (e.cell (p := ⟨bb, o + 1, none⟩) hbl).trans e1, (e.cell (p := ⟨bb, o + 2, none⟩) hbl).trans e2⟩)
  have R2 := Lib.hid r2
  obtain ⟨c0, c1, c2⟩ := CX.out wz xz.out
  clear h1 e0 e1 e2 r1 r2
  obtain ⟨P, hP⟩ : ∃ P, pairX x 2 48 = P := ⟨_, rfl⟩
  have HP := Lib.hid hP
  clear hP
  rw [hwz] at c0 c1 c2
  go_enter Tryz.func69, Tryz.ntmps69
  go_wp2_with fail
  rw [← hwz]
  clear hwz
  refine (pair_any 2 48 wz (R2.out.ext xz.out)).mono ?_
  rintro e w2 ⟨rfl, b2⟩
  rw [HP.out]
  have X2 := Lib.hid (xz.out.tr b2)
  have Z2 := Lib.hid (Z.out.ext b2)
  clear b2 c0 c1 c2
  cases P
  case false =>
    have HNO := Lib.hid (rdM_pair HP.out)
    go_wp2_with (refine wpRow_store rfl 37 _ _ rfl rfl w.heap.size (seRow 0 (.slice none 0 0) (.slice none 0 0) 0 0) rfl rfl 37 #[.int .i64 0, .slice none 0 0, .slice none 0 0, .int .i64 0, .int .i64 0] Z2.out info_se rfl (seRow_one _ _ _ rfl rfl) ?_)
    have RZ : SeAt (w2.setRow w.heap.size (seRow 0 (.slice none 0 0) (.slice none 0 0) 0 0)) w.heap.size seZ (.slice none 0 0) (.slice none 0 0) := row_at Z2.out
    have q0 : _ = some (Value.int .i64 0) := RZ.c0
    have q1 := RZ.c1
    have q2 := RZ.c2
    have q3 : _ = some (Value.int .i64 0) := RZ.c3
    have q4 : _ = some (Value.int .i64 0) := RZ.c4
    refine bodyPost_ret (v := .tuple #[.agg #[.int .i64 0, .slice none 0 0, .slice none 0 0, .int .i64 0, .int .i64 0], .bool false]) ?_ rfl ⟨ext_setRow X2.out (Nat.le_refl _) _, .inl ⟨HNO.out, rfl⟩⟩
    simp [results, Tryz.results69, go_sem, q0, q1, q2, q3, q4]
  obtain ⟨p, q, hk, t1, t2, t3⟩ := pair_kids HP.out
  have HK := Lib.hid hk
  have HT := Lib.hid (show x.tag = 48 ∧ p.tag = 2 ∧ q.tag = 48 from ⟨t1, t2, t3⟩)
  have R2' := R2.out
  rw [hk] at R2'
  obtain ⟨A', n', c', e', hn', hnc', hcm', hel'⟩ := R2'.open_
  injection e' with e1' e2' e3'
  subst e1' e2' e3'
  obtain rfl : m2 = 2 := hn'
  obtain ⟨d2, rfl, b2, o2, rfl, hbl2, pa, pm, pk, pa2, pm2, pk2, f0, f1, f2, rp, rpk⟩ := hel' 0 p rfl
  obtain ⟨d3, e3, b2', o2', e4, hbl2', qa, qm, qk, qa2, qm2, qk2, g0, g1, g2, rq, rqk⟩ := hel' 1 q rfl
  injection e4 with e4
  injection e4 with e5 e6
  subst e5 e6
  obtain rfl : d2 = d3 := by omega
  simp only [Nat.zero_mul, Nat.add_zero, Nat.one_mul] at f0 f1 f2 g0 g1 g2
  have CP := Lib.hid (show ∀ W, Ext w W → W.cell? ⟨b2, o2, none⟩ = some (.int .i64 p.tag) ∧ W.cell? ⟨b2, o2 + 1, none⟩ = some (.slice pa pm pk) ∧ W.cell? ⟨b2, o2 + 2, none⟩ = some (.slice pa2 pm2 pk2) ∧ W.cell? ⟨b2, o2 + 3 + 2, none⟩ = some (.slice qa2 qm2 qk2) from fun W e => ⟨(e.cell (p := ⟨b2, o2, none⟩) hbl2).trans f0, (e.cell (p := ⟨b2, o2 + 1, none⟩) hbl2).trans f1, (e.cell (p := ⟨b2, o2 + 2, none⟩) hbl2).trans f2, (e.cell (p := ⟨b2, o2 + 3 + 2, none⟩) hbl2).trans g2⟩)
  have RP := Lib.hid rp
  have RQ := Lib.hid rqk
  clear hk t1 t2 t3 R2' hel' e3 f0 f1 f2 g0 g1 g2 rp rpk rq rqk hbl2'
  obtain ⟨w3, hw3⟩ : ∃ w3, w3 = w2.alloc (.cells #[.int .i64 0, .slice none 0 0, .slice none 0 0, .int .i64 0, .int .i64 0] 37) := ⟨_, rfl⟩
  have x3 : Ext w2 w3 := by rw [hw3]; exact (Below.refl _ _).alloc (Nat.le_refl _) _
  have G3 := Lib.hid (show SeAt w3 w2.heap.size seZ (.slice none 0 0) (.slice none 0 0) by rw [hw3]; exact heap_alloc_new' w2 _)
  have X3 := Lib.hid (X2.out.tr x3)
  have Z3 := Lib.hid (Z2.out.ext x3)
  obtain ⟨_, _, c2⟩ := CX.out w3 X3.out
  obtain ⟨u0, u1, u2, _⟩ := CP.out w3 X3.out
  have HSZ := Lib.hid Z2.out.lt
  clear x3
  rw [hw3] at c2 u0 u1 u2
  go_wp2_with fail
  rw [← hw3]
  clear hw3 c2 u0 u1 u2
  refine (one_any (x := p) w3 (RP.out.ext X3.out)).mono ?_
  rintro e w4 ⟨rfl, b4⟩
  have X4 := Lib.hid (X3.out.tr b4)
  have Z4 := Lib.hid (Z3.out.ext b4)
  have G4 := Lib.hid (G3.out.ext b4)
  have gl := G4.out.lt
  have v0 : _ = some (Value.int .i64 0) := G4.out.c0
  have v1 := G4.out.frozen 0
  obtain ⟨g, hg⟩ : ∃ g, w2.heap.size = g := ⟨_, rfl⟩
  rw [hg] at G3 G4 HSZ gl v0 v1
  rw [hg]
  clear b4 hg
  obtain ⟨O, hO⟩ : ∃ O, oneB p = O := ⟨_, rfl⟩
  have HO := Lib.hid hO
  rw [hO]
  clear hO
  have Z5 := Lib.hid (show SeAt (w4.setCell ⟨g, 0, none⟩ (.int .i64 (oneI p))) w.heap.size seZ (.slice none 0 0) (.slice none 0 0) from (setCell_block (by have := HSZ.out; omega)).trans Z4.out)
  have X5 := Lib.hid (X4.out.setCell (p := ⟨g, 0, none⟩) (by have := HSZ.out; show w.heap.size ≤ g; omega) (.int .i64 (oneI p)))
  have G5 := Lib.hid (G4.out.set0 (oneI p))
  obtain ⟨w5, hw5⟩ : ∃ w5, w4.setCell ⟨g, 0, none⟩ (.int .i64 (oneI p)) = w5 := ⟨_, rfl⟩
  rw [hw5] at Z5 X5 G5
  cases O
  case false =>
    have HNO := Lib.hid (rdM_one HK.out (show p.val.length ≠ 1 from by have h := HO.out; unfold oneB at h; simpa using h))
    go_wp2_with (refine wpRow_store rfl 37 _ _ rfl rfl w.heap.size (seRow 0 (.slice none 0 0) (.slice none 0 0) 0 0) rfl rfl 37 #[.int .i64 0, .slice none 0 0, .slice none 0 0, .int .i64 0, .int .i64 0] Z5.out info_se rfl (seRow_one _ _ _ rfl rfl) ?_)
    have RZ : SeAt (w5.setRow w.heap.size (seRow 0 (.slice none 0 0) (.slice none 0 0) 0 0)) w.heap.size seZ (.slice none 0 0) (.slice none 0 0) := row_at Z5.out
    have q0 : _ = some (Value.int .i64 0) := RZ.c0
    have q1 := RZ.c1
    have q2 := RZ.c2
    have q3 : _ = some (Value.int .i64 0) := RZ.c3
    have q4 : _ = some (Value.int .i64 0) := RZ.c4
    refine bodyPost_ret (v := .tuple #[.agg #[.int .i64 0, .slice none 0 0, .slice none 0 0, .int .i64 0, .int .i64 0], .bool false]) ?_ rfl ⟨ext_setRow X5.out (Nat.le_refl _) _, .inl ⟨HNO.out, rfl⟩⟩
    simp [results, Tryz.results69, go_sem, q0, q1, q2, q3, q4]
  have HP1 := Lib.hid (show p.val.length = 1 from by have h := HO.out; unfold oneB at h; simpa using h)
  have HV := Lib.hid (rdM_go HK.out HT.out.1 HT.out.2.1 HT.out.2.2 HP1.out)
  have HI := Lib.hid (show oneI p = byteI p.val 0 from if_pos HP1.out)
  have HBQ := Lib.hid (show q.kids.length < 1000000 from HB.out x q (by simp) (by rw [HK.out]; simp))
  obtain ⟨A', n', c', e', hqn, hqc, hqm, hqel⟩ := RQ.out.open_
  injection e' with e1' e2' e3'
  subst e1' e2' e3'
  subst hqn
  unfold maxLen at hqm
  have HQ := Lib.hid hqel
  obtain ⟨_, _, c2⟩ := CX.out w5 X5.out
  obtain ⟨_, _, _, u3⟩ := CP.out w5 X5.out
  have HS5 := Lib.hid (show w.heap.size < g ∧ g < w5.heap.size from ⟨HSZ.out, G5.out.lt⟩)
  clear hqel RQ
  go_wp2_with fail
  clear c2 u3 v0 v1 gl hw5
  generalize oneI p = zp at *
  go_loopw [7, 8, 9, 43] (fun _ _ _ i wr => ∃ (j : Nat) (A : Option Addr) (n cc : Nat) (ps : List ((Int × List UInt8) × Value)), j ≤ q.kids.length ∧ i = .int .i64 (j : Int) ∧ Hid (n = ps.length ∧ ps.length = j) ∧ Hid (rdHs (q.kids.take j) = some (ps.map (·.1))) ∧ Hid (∀ p ∈ ps, Rd w p.2 (bvs p.1.2)) ∧ Hid (Ext w wr) ∧ Hid (w5.heap.size ≤ wr.heap.size) ∧ Hid (SeAt wr w.heap.size seZ (.slice none 0 0) (.slice none 0 0)) ∧ Hid (SeAt wr g ⟨zp, [], [], 0, 0⟩ (.slice A n cc) (.slice none 0 0)) ∧
    Hid (OwnK wr w5.heap.size 72 2 (.slice A n cc) (ps.flatMap hsCells))) (fun _ _ _ i _ => q.kids.length - (intOf i).toNat)
  case atStart => exact ⟨0, none, 0, 0, [], Nat.zero_le _, rfl, Lib.hid ⟨rfl, rfl⟩, Lib.hid (by rw [List.take_zero]; rfl), Lib.hid (fun _ h => by cases h), X5, Lib.hid (Nat.le_refl _), Z5, G5, Lib.hid (OwnK.empty _ _ _ _ _)⟩
  case round =>
  obtain ⟨j, A, n, cc, ps, hj, rfl, HN, HR, HG, EW, HW, ZW, GW, OW⟩ := hrel
  by_cases hlt : j < q.kids.length
  case pos =>
    obtain ⟨y, hy⟩ : ∃ y, q.kids[j]? = some y := ⟨_, List.getElem?_eq_getElem hlt⟩
    obtain ⟨dj, ed, bq, oq, rfl, hblq, ya, ym, yk, ya2, ym2, yk2, h0, h1, h2, ry, ryk⟩ := HQ.out j y hy
    have l0 := (EW.out.cell (p := ⟨bq, oq + j * 3, none⟩) hblq).trans h0
    have l1 := (EW.out.cell (p := ⟨bq, oq + j * 3 + 1, none⟩) hblq).trans h1
    have l2 := (EW.out.cell (p := ⟨bq, oq + j * 3 + 2, none⟩) hblq).trans h2
    have RYK := Lib.hid ryk
    have HY := Lib.hid hy
    have HYM := Lib.hid (List.mem_of_getElem? hy)
    have wi1 : IntKind.i64.wrap ((j : Int)) = (j : Int) := IntWalk.i64_in _ (by omega)
    have zi1 : (0 : Int) ≤ (j : Int) := by omega
    have li1 : (j : Int) < (q.kids.length : Int) := by omega
    have ti1 : ((j : Int)).toNat = j := by omega
    obtain ⟨wk, hwk⟩ : ∃ wk, wr.alloc (.cells #[.int .i64 y.tag, .slice ya ym yk, .slice ya2 ym2 yk2] 83) = wk := ⟨_, rfl⟩
    have EK : Ext wr wk := by rw [← hwk]; exact (Below.refl _ _).alloc (Nat.le_refl _) _
    have CK := Lib.hid (show C3 wk wr.heap.size (.int .i64 y.tag) (.slice ya ym yk) (.slice ya2 ym2 yk2) by rw [← hwk]; exact C3.new wr _ _ _)
    obtain ⟨y0, y1, y2, yf0, yf1, yf2⟩ := CK.out.cells
    have XK := Lib.hid (EW.out.tr EK)
    have EKH := Lib.hid EK
    clear h0 h1 h2 ry ryk hy EK
    obtain ⟨P, hP⟩ : ∃ P, pairX y 2 4 = P := ⟨_, rfl⟩
    have HPY := Lib.hid hP
    clear hP
    go_wp2_with fail
    clear hwk l0 l1 l2 y0 y1 y2 yf0 yf1 yf2
    refine (pair_any (x := y) 2 4 wk (RYK.out.ext XK.out)).mono ?_
    rintro e w6 ⟨rfl, b6⟩
    rw [HPY.out]
    have X6 := Lib.hid (XK.out.tr b6)
    have E6 := Lib.hid (EKH.out.tr b6)
    have C6 := Lib.hid (show C3 w6 wr.heap.size (.int .i64 y.tag) (.slice ya ym yk) (.slice ya2 ym2 yk2) from (b6.block _ (block_lt CK.out)).trans CK.out)
    have Z6 := Lib.hid (ZW.out.ext E6.out)
    clear b6
    cases P
    case false =>
      have HNO := Lib.hid (show rdM [x] = none by rw [HV.out, rdHs_none (rdH_pair HPY.out) HYM.out])
      go_wp2_with (refine wpRow_store rfl 37 _ _ rfl rfl w.heap.size (seRow 0 (.slice none 0 0) (.slice none 0 0) 0 0) rfl rfl 37 #[.int .i64 0, .slice none 0 0, .slice none 0 0, .int .i64 0, .int .i64 0] Z6.out info_se rfl (seRow_one _ _ _ rfl rfl) ?_)
      have RZ : SeAt (w6.setRow w.heap.size (seRow 0 (.slice none 0 0) (.slice none 0 0) 0 0)) w.heap.size seZ (.slice none 0 0) (.slice none 0 0) := row_at Z6.out
      have q0 : _ = some (Value.int .i64 0) := RZ.c0
      have q1 := RZ.c1
      have q2 := RZ.c2
      have q3 : _ = some (Value.int .i64 0) := RZ.c3
      have q4 : _ = some (Value.int .i64 0) := RZ.c4
      refine bodyPost_ret (v := .tuple #[.agg #[.int .i64 0, .slice none 0 0, .slice none 0 0, .int .i64 0, .int .i64 0], .bool false]) ?_ rfl ⟨ext_setRow X6.out (Nat.le_refl _) _, .inl ⟨HNO.out, rfl⟩⟩
      simp [results, Tryz.results69, go_sem, q0, q1, q2, q3, q4]
    obtain ⟨r, s, hk2, t4, t5, t6⟩ := pair_kids HPY.out
    have HK2 := Lib.hid hk2
    have HT2 := Lib.hid (show y.tag = 48 ∧ r.tag = 2 ∧ s.tag = 4 from ⟨t4, t5, t6⟩)
    have RY := RYK.out
    rw [hk2] at RY
    obtain ⟨A', n', c', e', hn', hnc', hcm', hel'⟩ := RY.open_
    injection e' with e1' e2' e3'
    subst e1' e2' e3'
    obtain rfl : ym2 = 2 := hn'
    obtain ⟨d5, ed5, b5, o5, rfl, hbl5, ra, rm, rk, ra2, rm2, rk2, f0, f1, f2, rr, rrk⟩ := hel' 0 r rfl
    obtain ⟨d6, ed6, b5', o5', e4, hbl5', sa, sm, sk, sa2, sm2, sk2, g0, g1, g2, rs, rsk⟩ := hel' 1 s rfl
    injection e4 with e4
    injection e4 with e5 e6
    subst e5 e6
    simp only [Nat.zero_mul, Nat.add_zero, Nat.one_mul] at f0 f1 f2 g0 g1 g2
    have CR := Lib.hid (show ∀ W, Ext w W → W.cell? ⟨b5, o5, none⟩ = some (.int .i64 r.tag) ∧ W.cell? ⟨b5, o5 + 1, none⟩ = some (.slice ra rm rk) ∧ W.cell? ⟨b5, o5 + 2, none⟩ = some (.slice ra2 rm2 rk2) ∧ W.cell? ⟨b5, o5 + 3 + 1, none⟩ = some (.slice sa sm sk) from fun W e => ⟨(e.cell (p := ⟨b5, o5, none⟩) hbl5).trans f0, (e.cell (p := ⟨b5, o5 + 1, none⟩) hbl5).trans f1, (e.cell (p := ⟨b5, o5 + 2, none⟩) hbl5).trans f2, (e.cell (p := ⟨b5, o5 + 3 + 1, none⟩) hbl5).trans g1⟩)
    have RR := Lib.hid rr
    have RS := Lib.hid rs
    clear hk2 t4 t5 t6 RY hel' f0 f1 f2 g0 g1 g2 rr rrk rs rsk hbl5' ed5 ed6
    obtain ⟨y0, y1, y2, yf0, yf1, yf2⟩ := C6.out.cells
    obtain ⟨u0, u1, u2, _⟩ := CR.out w6 X6.out
    go_wp2_with fail
    clear y0 y1 y2 yf0 yf1 yf2 u0 u1 u2
    refine (one_any (x := r) w6 (RR.out.ext X6.out)).mono ?_
    rintro e w7 ⟨rfl, b7⟩
    have X7 := Lib.hid (X6.out.tr b7)
    have E7 := Lib.hid (E6.out.tr b7)
    have C7 := Lib.hid (show C3 w7 wr.heap.size (.int .i64 y.tag) (.slice ya ym yk) (.slice (some ⟨b5, o5, none⟩) 2 yk2) from (b7.block _ (block_lt C6.out)).trans C6.out)
    have Z7 := Lib.hid (Z6.out.ext b7)
    clear b7
    obtain ⟨O, hO⟩ : ∃ O, oneB r = O := ⟨_, rfl⟩
    have HO2 := Lib.hid hO
    rw [hO]
    clear hO
    cases O
    case false =>
      have HNO := Lib.hid (show rdM [x] = none by rw [HV.out, rdHs_none (rdH_one HK2.out (show r.val.length ≠ 1 from by have h := HO2.out; unfold oneB at h; simpa using h)) HYM.out])
      go_wp2_with (refine wpRow_store rfl 37 _ _ rfl rfl w.heap.size (seRow 0 (.slice none 0 0) (.slice none 0 0) 0 0) rfl rfl 37 #[.int .i64 0, .slice none 0 0, .slice none 0 0, .int .i64 0, .int .i64 0] Z7.out info_se rfl (seRow_one _ _ _ rfl rfl) ?_)
      have RZ : SeAt (w7.setRow w.heap.size (seRow 0 (.slice none 0 0) (.slice none 0 0) 0 0)) w.heap.size seZ (.slice none 0 0) (.slice none 0 0) := row_at Z7.out
      have q0 : _ = some (Value.int .i64 0) := RZ.c0
      have q1 := RZ.c1
      have q2 := RZ.c2
      have q3 : _ = some (Value.int .i64 0) := RZ.c3
      have q4 : _ = some (Value.int .i64 0) := RZ.c4
      refine bodyPost_ret (v := .tuple #[.agg #[.int .i64 0, .slice none 0 0, .slice none 0 0, .int .i64 0, .int .i64 0], .bool false]) ?_ rfl ⟨ext_setRow X7.out (Nat.le_refl _) _, .inl ⟨HNO.out, rfl⟩⟩
      simp [results, Tryz.results69, go_sem, q0, q1, q2, q3, q4]
    have HR1 := Lib.hid (show r.val.length = 1 from by have h := HO2.out; unfold oneB at h; simpa using h)
    have HI2 := Lib.hid (show oneI r = byteI r.val 0 from if_pos HR1.out)
    have HRN := Lib.hid (rdH_go HK2.out HT2.out.1 HT2.out.2.1 HT2.out.2.2 HR1.out)
    rw [HI2.out]
    generalize byteI r.val 0 = zr at *
    go_wp2_with fail
    refine Gd.wp_region_X 10 (by kernel_rfl) (by kernel_rfl) ?_
    simp only [List.take_succ_cons, List.take_zero, List.drop_succ_cons, List.drop_zero]
    intro w1 hw1
    have LL : ∀ m : Lt w1, Ext w7 m.1 := fun m => hw1.tr m.2
    have v0 : ∀ m : Lt w1, m.1.cell? ⟨g, 1, none⟩ = some (.slice A n cc) := fun m => (GW.out.ext (E7.out.tr (LL m))).c1
    have v1 : ∀ m : Lt w1, m.1.cell? ⟨wr.heap.size, 2, none⟩ = some (.slice (some ⟨b5, o5, none⟩) 2 yk2) := fun m => (show C3 m.1 wr.heap.size (.int .i64 y.tag) (.slice ya ym yk) (.slice (some ⟨b5, o5, none⟩) 2 yk2) from ((LL m).block _ (block_lt C7.out)).trans C7.out).cells.2.2.1
    have v2 : ∀ m : Lt w1, m.1.cell? ⟨b5, o5 + 3 + 1, none⟩ = some (.slice sa sm sk) := fun m => (CR.out m.1 (X7.out.tr (LL m))).2.2.2
    repeat (refine Gd.wpX_pureP rfl fun K hK => ?_; go_big_quiet_op; refine hK _ ?_; clear hK K)
    refine Gd.wpX_buildL (Gd.gR rfl) (fun v _ => v = .agg #[.int .i64 zr, .slice sa sm sk]) (fun _ _ _ _ h => h) (fun _ => [(0, .int .i64 zr), (1, .slice sa sm sk)]) rfl rfl rfl rfl rfl (fun _ => rfl) (fun m f hf => run_aggH m.1 zr sa sm sk) ?_
    simp only [Act.put, List.setIfInBounds_toArray, List.set_cons_zero, List.set_cons_succ]
    refine Gd.wpX_buildSL (Gd.gR rfl) (OneH zr (.slice sa sm sk)) (stable_OneH _ _) (fun f => [(0, f 70)]) rfl rfl rfl rfl rfl (fun _ => rfl) (fun m f hf => by rw [hf 70 (fun v _ => v = .agg #[.int .i64 zr, .slice sa sm sk]) rfl rfl]; exact run_oneH m.1 zr sa sm sk) ?_
    simp only [Act.put, List.setIfInBounds_toArray, List.set_cons_zero, List.set_cons_succ]
    refine Gd.wpX_endL (fun m f hf => ?_)
    obtain ⟨g9, e71, K⟩ := hf 71 (OneH zr (.slice sa sm sk)) rfl
    simp only [fillH]
    simp only [Act.put, List.setIfInBounds_toArray, List.set_cons_zero, List.set_cons_succ]
    rw [e71]
    rw [e71] at K
    have em := E7.out.tr (LL m)
    have xm := X7.out.tr (LL m)
    obtain ⟨wm, hwm⟩ := m
    clear LL v0 v1 v2 hf e71
    have OM := OW.out.ext em
    have GM := GW.out.ext em
    have ZM := ZW.out.ext em
    have y1 := GM.c1
    have yf1 := GM.frozen 1
    have hgl := GM.lt
    have hB1 : w5.heap.size ≤ wm.heap.size := Nat.le_trans HW.out em.size
    have hts : ps.length < 1000000 := by have := HBQ.out; have := HN.out; omega
    show wpList _ _ _ _ _ _
    go_wp2_with (refine appHs (B := w5.heap.size) (ps := ps) (p := ((zr, s.val), .slice sa sm sk)) OM HN.out.1 K rfl hts hB1 rfl rfl rfl rfl ?_; intro A8 n8 c8 w8 hn8 o8 g8 hge
                 have y8 : SeAt w8 g ⟨zp, [], [], 0, 0⟩ (.slice A n cc) (.slice none 0 0) := (g8.block _ hgl (fun e => by have := hge _ e.symm; have := HS5.out; omega)).trans GM
                 have hy8 := y8.lt
                 clear y1 yf1
                 have y1 := y8.c1
                 have yf1 := y8.frozen 1)
    have GL := Gb.set g 1 w8 (.slice A8 n8 c8)
    have e8 : Ext w w8 := xm.grown g8 xm.size (fun r hr => by have := hge r hr; have := HS5.out; omega)
    have z8 : SeAt w8 w.heap.size seZ (.slice none 0 0) (.slice none 0 0) := (g8.block _ ZM.lt (fun e => by have := hge _ e.symm; have := HS5.out; omega)).trans ZM
    have hB8 : w5.heap.size ≤ w8.heap.size := Nat.le_trans hB1 g8.size
    go_roundw
    case rel =>
      refine ⟨j + 1, A8, n8, c8, ps ++ [((zr, s.val), .slice sa sm sk)], by omega, by go_num, Lib.hid ⟨by rw [hn8.out, List.length_append]; rfl, by rw [List.length_append, HN.out.2]; rfl⟩, Lib.hid ?_, Lib.hid ?_, Lib.hid (e8.setCell (p := ⟨g, 1, none⟩) (by have := HS5.out; show w.heap.size ≤ g; omega) _), Lib.hid (by simp; exact hB8), Lib.hid ((setCell_block (by have := HS5.out; omega)).trans z8), Lib.hid (y8.set1 _), Lib.hid (o8.grown GL ?_)⟩
      · rw [take_snoc HY.out, rdHs_snoc HRN.out HR.out, List.map_append]
        rfl
      · intro u hu
        rcases List.mem_append.1 hu with hu | hu
        · exact HG.out u hu
        · rw [List.mem_singleton.1 hu]
          exact RS.out
      · cases hq : rowOf (.slice A8 n8 c8) with
        | none => exact .inl rfl
        | some r => exact .inr (fun h => by have := rowOf_geK o8 r hq; have := HS5.out; injection h with h; omega)
    case measure => simp [intOf]; omega
  case neg =>
  obtain rfl : j = q.kids.length := by omega
  have HVV := Lib.hid (show rdM [x] = some (zp, ps.map (·.1)) by rw [HV.out, ← HI.out]; have h := HR.out; rw [List.take_length] at h; rw [h])
  have HH := Lib.hid (hsRd_of OW.out.rd fun u hu => (HG.out u hu).ext EW.out)
  go_wp2_with (first | (refine wpList_load_row rfl 37 _ rfl g rfl 37 (seRow zp (.slice A n cc) (.slice none 0 0) 0 0) (0, 0) _ GW.out Tryz.underlying37 rfl info_se ?_) | (refine wpRow_store rfl 37 _ _ rfl rfl w.heap.size (seRow zp (.slice A n cc) (.slice none 0 0) 0 0) rfl rfl 37 #[.int .i64 0, .slice none 0 0, .slice none 0 0, .int .i64 0, .int .i64 0] ZW.out info_se rfl (seRow_one _ _ _ rfl rfl) ?_))
  have RZ : SeAt (wr.setRow w.heap.size (seRow zp (.slice A n cc) (.slice none 0 0) 0 0)) w.heap.size ⟨zp, [], [], 0, 0⟩ (.slice A n cc) (.slice none 0 0) := row_at ZW.out
  have q0 : _ = some (Value.int .i64 zp) := RZ.c0
  have q1 := RZ.c1
  have q2 := RZ.c2
  have q3 : _ = some (Value.int .i64 0) := RZ.c3
  have q4 : _ = some (Value.int .i64 0) := RZ.c4
  refine bodyPost_ret (v := .tuple #[.agg #[.int .i64 zp, .slice A n cc, .slice none 0 0, .int .i64 0, .int .i64 0], .bool true]) ?_ rfl ⟨ext_setRow EW.out (Nat.le_refl _) _, .inr ⟨zp, _, A, n, cc, HVV.out, rfl, ?_⟩⟩
  · simp [results, Tryz.results69, go_sem, q0, q1, q2, q3, q4]
  · refine hsRd_of (OW.out.grown (Gb.setRow w.heap.size wr (seRow zp (.slice A n cc) (.slice none 0 0) 0 0)) ?_).rd fun u hu => (HG.out u hu).ext (ext_setRow EW.out (Nat.le_refl _) _)
    cases hq : rowOf (.slice A n cc) with
    | none => exact .inl rfl
    | some r => exact .inr (fun h => by have := rowOf_geK OW.out r hq; have := HS5.out; injection h with h; omega)
end Go.Proofs.YthbpdhanljpigaaGreatDoor
namespace Go.Proofs.YthbpdhanljpigaaGreatDoor
open Go.RowKit
set_option linter.unusedVariables false
set_option maxRecDepth 100000
theorem nd_lens {d : Nat} {x : Nd} {A1 A2 : Option Addr} {n1 c1 n2 c2 : Nat} {w : World} (r1 : Rd w (.slice A1 n1 c1) (bvs x.val)) (r2 : NdsRd d w (.slice A2 n2 c2) x.kids) : n1 = x.val.length ∧ n2 = x.kids.length ∧ n1 ≤ 9223372036854775807 ∧ n2 ≤ 9223372036854775807 := by
  obtain ⟨_, _, _, e, h1, h2, h3, _⟩ := r1.bytes
  injection e with _ e1 e2
  subst e1 e2
  obtain ⟨_, _, _, e, k1, k2, k3, _⟩ := r2.open_
  injection e with _ e1 e2
  subst e1 e2
  unfold maxLen at h3 k3
  exact ⟨h1, k1, by omega, by omega⟩
theorem cons13_nd {d : Nat} {x : Nd} {A1 A2 : Option Addr} {n1 c1 n2 c2 : Nat} (a k : Int) (w : World) (r1 : Rd w (.slice A1 n1 c1) (bvs x.val)) (r2 : NdsRd d w (.slice A2 n2 c2) x.kids) :
    Calls Tryz.prog 71 #[.agg #[.int .i64 x.tag, .slice A1 n1 c1, .slice A2 n2 c2], .int .i64 a, .int .i64 k] w (RetQ w (.bool (consX x a k))) := by
  obtain ⟨h1, h2, h3, h4⟩ := nd_lens r1 r2
  exact cons13_any a k w h1 h2 h3 h4
theorem prim13_nd {d : Nat} {x : Nd} {A1 A2 : Option Addr} {n1 c1 n2 c2 : Nat} (a k : Int) (w : World) (r1 : Rd w (.slice A1 n1 c1) (bvs x.val)) (r2 : NdsRd d w (.slice A2 n2 c2) x.kids) :
    Calls Tryz.prog 72 #[.agg #[.int .i64 x.tag, .slice A1 n1 c1, .slice A2 n2 c2], .int .i64 a, .int .i64 k] w (RetQ w (.bool (primX x a k))) := by
  obtain ⟨h1, h2, h3, h4⟩ := nd_lens r1 r2
  exact prim13_any a k w h1 h2 h3 h4
/-- append of bytes to nothing. -/
def GBR (S : Nat → Prop) (l : List UInt8) : VPred := fun v w => ∃ A n c, v = .slice A n c ∧ RdS S w (.slice A n c) (bvs l)
theorem stable_GBR (S : Nat → Prop) (l : List UInt8) : StableP (GBR S l) := fun v w w' e ⟨A, n, c, h1, h2⟩ => ⟨A, n, c, h1, h2.map fun b hb hlt => ⟨hb, e.block b hlt⟩⟩
theorem run_app0B {S : Nat → Prop} {ty : TypeId} {W : World} {v : Value} {l : List UInt8} (h : Rd W v (bvs l)) (hl : l.length ≤ 100000) (hS : ∀ b, W.heap.size ≤ b → S b) : ∃ v' w'', (Builtin.append_ #[26, 26] ty #[.slice none 0 0, v]).run Tryz.prog W = .ok v' w'' ∧ Ext W w'' ∧ GBR S l v' w'' := by
  obtain ⟨A, c, w', q1, q2, q3, _⟩ := run_appR (P := Tryz.prog) (ty := ty) (w := W) elemB (Own.nil_ W W.heap.size 5) h (bvs_one _) (by simp [bvs_length]; omega) (by unfold maxLen; simp [bvs_length]; omega) (Nat.le_refl _)
  rw [List.nil_append] at q2
  exact ⟨_, w', q1, ⟨q3.os, q3.tape, q3.output, q3.size, fun k hk => q3.block k hk (by simp [rowOf])⟩, A, _, c, rfl, RdS.of q2 hS⟩
/-- A row of one hash. -/
def GHR (S : Nat → Prop) (z : Int) (l : List UInt8) : VPred := fun v w => ∃ A n c, v = .agg #[.int .i64 z, .slice A n c] ∧ RdS S w (.slice A n c) (bvs l)
theorem stable_GHR (S : Nat → Prop) (z : Int) (l : List UInt8) : StableP (GHR S z l) := fun v w w' e ⟨A, n, c, h1, h2⟩ => ⟨A, n, c, h1, h2.map fun b hb hlt => ⟨hb, e.block b hlt⟩⟩
def OHR (S : Nat → Prop) (z : Int) (l : List UInt8) : VPred := fun v w => ∃ g A n c, v = .slice (some ⟨g, 0, none⟩) 1 1 ∧ RdK w 2 v [.int .i64 z, .slice A n c] ∧ RdS S w (.slice A n c) (bvs l)
theorem stable_OHR (S : Nat → Prop) (z : Int) (l : List UInt8) : StableP (OHR S z l) := fun v w w' e ⟨g, A, n, c, h1, h2, h3⟩ => ⟨g, A, n, c, h1, h2.ext e, h3.map fun b hb hlt => ⟨hb, e.block b hlt⟩⟩
theorem run_ghr {S : Nat → Prop} {W : World} {z : Int} {l : List UInt8} {v : Value} (h : GBR S l v W) : ∃ v' w'', (Instr.build 72 [(0, .int .i64 z), (1, v)].toArray).run Tryz.prog W = .ok v' w'' ∧ Ext W w'' ∧ GHR S z l v' w'' := by
  obtain ⟨A, n, c, rfl, h⟩ := h
  exact ⟨.agg #[.int .i64 z, .slice A n c], W, by go_simp, Below.refl _ _, A, n, c, rfl, h⟩
theorem run_ohr {S : Nat → Prop} {W : World} {z : Int} {l : List UInt8} {v : Value} (h : GHR S z l v W) : ∃ v' w'', (Instr.buildSlice 30 1 [(0, v)].toArray).run Tryz.prog W = .ok v' w'' ∧ Ext W w'' ∧ OHR S z l v' w'' := by
  obtain ⟨A, n, c, rfl, h⟩ := h
  have e : Ext W (W.alloc (.cells #[.int .i64 z, .slice A n c] 72)) := (Below.refl _ _).alloc (Nat.le_refl _) _
  exact ⟨.slice (some ⟨W.heap.size, 0, none⟩) 1 1, W.alloc (.cells #[.int .i64 z, .slice A n c] 72), by go_simp, e, _, A, n, c, rfl, RdK.lit W 2 #[.int .i64 z, .slice A n c] _ 1 rfl (by unfold maxLen; omega), h.map fun b hb hlt => ⟨hb, e.block b hlt⟩⟩
section
variable {ops : Array Oper} {rest : List Oper} {o : Oper} {a : Act} {Q : Exit → Act → World → Prop} {w : World}
/-- hashes = append(hashes, h), with what stays. -/
theorem appHsS {B : Nat} {A0 : Option Addr} {n0 c0 : Nat} {src : Value} {ps : List ((Int × List UInt8) × Value)} {p : (Int × List UInt8) × Value} (hown : OwnK w B 72 2 (.slice A0 n0 c0) (ps.flatMap hsCells))
    (hn : n0 = ps.length) (hr : RdK w 2 src (hsCells p)) (h1 : p.2.oneCell' = true) (hb : ps.length < 1000000) (hB : B ≤ w.heap.size)
    {s x : Operand} (hgd : o.guard = none) (ho : o.op = .call { callee := .builtin .append, args := #[s, x], argTypes := #[30, 30] }) (hs : a.eval s = .slice A0 n0 c0) (hx : a.eval x = src)
    (h : ∀ A n c w', Hid (n = ps.length + 1) → OwnK w' B 72 2 (.slice A n c) ((ps ++ [p]).flatMap hsCells) → w.grownBy w' (rowOf (.slice A0 n0 c0)) → (∀ r, rowOf (.slice A0 n0 c0) = some r → B ≤ r) →
      (∀ b, rowOf (.slice A0 n0 c0) ≠ some b → b < w.heap.size → rowOf (.slice A n c) ≠ some b ∧ w'.heap[b]? = w.heap[b]?) → wpList Tryz.prog ops Q rest (a.put o.dst (.slice A n c)) w') : wpList Tryz.prog ops Q (o :: rest) a w := by
  subst hn
  have hge := rowOf_geK hown
  have hl := (hs_flat_len ps).symm
  refine wpList_appKR (k := 2) (by decide) elemHs (n := ps.length) (m := 1) hown hl hr (by rfl) (by intro u hu; simp [hsCells] at hu; rcases hu with rfl | rfl <;> first | rfl | exact h1) (Below.refl B w) (by omega) (by unfold maxLen; omega) hB hgd ho hs hx ?_
  intro A n c w' hn' h2 _ h3 h4
  refine h A n c w' hn' ?_ h3 hge fun b hb hlt => ⟨fun he => (h4 b he).elim (fun q => hb q) (fun q => by omega), h3.block b hlt (fun he => hb he.symm)⟩
  rw [List.flatMap_append, List.flatMap_cons, List.flatMap_nil, List.append_nil]
  exact h2
end
set_option maxHeartbeats 8000000 in
theorem refmsg_any {a : Value} {l : List UInt8} (w : World) (ha : Rd w a (bvs l)) : Calls Tryz.prog 73 #[a] w (MsgQ w (mgX l)) := by
  obtain ⟨wz, hwz⟩ : ∃ wz, wz = w.alloc (.cells #[.int .i64 0, .slice none 0 0, .slice none 0 0, .int .i64 0, .int .i64 0] 37) := ⟨_, rfl⟩
  have xz := Lib.hid (show Ext w wz by rw [hwz]; exact (Below.refl _ _).alloc (Nat.le_refl _) _)
  have Z := Lib.hid (show SeAt wz w.heap.size seZ (.slice none 0 0) (.slice none 0 0) by rw [hwz]; exact heap_alloc_new' w _)
  have HO := Lib.hid (refparseq_any true wz (ha.ext xz.out))
  obtain ⟨A0, n0, c0, rfl, hn0, _⟩ := ha.bytes
  subst hn0
  clear ha
  go_enter Tryz.func73, Tryz.ntmps73
  go_wp2_with fail
  rw [← hwz]
  clear hwz
  refine HO.out.mono ?_
  rintro e w2 ⟨b2, h⟩
  have X2 := Lib.hid (xz.out.tr b2)
  have Z2 := Lib.hid (Z.out.ext b2)
  clear b2
  rcases h with ⟨A, n, c, k, hE, hk, rfl⟩ | ⟨ts, A, n, c, hE, rfl, hr⟩
  · have HE := Lib.hid (mg_err hE)
    have HK := Lib.hid hk
    have hkb : (k != 0) = true := by simpa using hk
    clear hE hk
    go_wp2_with (refine wpRow_store rfl 37 _ _ rfl rfl w.heap.size (seRow 0 (.slice none 0 0) (.slice none 0 0) 0 0) rfl rfl 37 #[.int .i64 0, .slice none 0 0, .slice none 0 0, .int .i64 0, .int .i64 0] Z2.out info_se rfl (seRow_one _ _ _ rfl rfl) ?_)
    have RZ : SeAt (w2.setRow w.heap.size (seRow 0 (.slice none 0 0) (.slice none 0 0) 0 0)) w.heap.size seZ (.slice none 0 0) (.slice none 0 0) := row_at Z2.out
    have q0 : _ = some (Value.int .i64 0) := RZ.c0
    have q1 := RZ.c1
    have q2 := RZ.c2
    have q3 : _ = some (Value.int .i64 0) := RZ.c3
    have q4 : _ = some (Value.int .i64 0) := RZ.c4
    refine bodyPost_ret (v := .tuple #[.agg #[.int .i64 0, .slice none 0 0, .slice none 0 0, .int .i64 0, .int .i64 0], .int .i64 k]) ?_ rfl ⟨ext_setRow X2.out (Nat.le_refl _) _, .inl ⟨k, HE.out, HK.out, rfl⟩⟩
    simp [results, Tryz.results73, go_sem, q0, q1, q2, q3, q4]
  have HE := Lib.hid hE
  have HOK := Lib.hid (parX_ok hE).1
  have HFW := Lib.hid (parX_fewK hE)
  clear hE
  obtain ⟨A', n', c', e', hn, hnc, hcm, hel⟩ := hr.open_
  injection e' with e1' e2' e3'
  subst e1' e2' e3'
  have HN := Lib.hid hn
  have HEL := Lib.hid hel
  unfold maxLen at hcm
  clear hr hel hn
  by_cases h1 : ts.length = 1
  case neg =>
    have h1b : ((n : Int) != 1) = true := by simp; have := HN.out; omega
    have HQ := Lib.hid (mg_no HE.out (rdM_len h1))
    clear h1
    go_wp2_with (refine wpRow_store rfl 37 _ _ rfl rfl w.heap.size (seRow 0 (.slice none 0 0) (.slice none 0 0) 0 0) rfl rfl 37 #[.int .i64 0, .slice none 0 0, .slice none 0 0, .int .i64 0, .int .i64 0] Z2.out info_se rfl (seRow_one _ _ _ rfl rfl) ?_)
    have RZ : SeAt (w2.setRow w.heap.size (seRow 0 (.slice none 0 0) (.slice none 0 0) 0 0)) w.heap.size seZ (.slice none 0 0) (.slice none 0 0) := row_at Z2.out
    have q0 : _ = some (Value.int .i64 0) := RZ.c0
    have q1 := RZ.c1
    have q2 := RZ.c2
    have q3 : _ = some (Value.int .i64 0) := RZ.c3
    have q4 : _ = some (Value.int .i64 0) := RZ.c4
    refine bodyPost_ret (v := .tuple #[.agg #[.int .i64 0, .slice none 0 0, .slice none 0 0, .int .i64 0, .int .i64 0], .int .i64 1]) ?_ rfl ⟨ext_setRow X2.out (Nat.le_refl _) _, .inl ⟨1, HQ.out, (by decide), rfl⟩⟩
    simp [results, Tryz.results73, go_sem, q0, q1, q2, q3, q4]
  obtain ⟨x, rfl⟩ := one_of h1
  obtain rfl : n = 1 := HN.out
  obtain ⟨d1, ed1, bb, o, rfl, hbl, a1, m1, k1, a2, m2, k2, e0, e1, e2, r1, r2⟩ := HEL.out 0 x rfl
  simp only [Nat.zero_mul, Nat.add_zero] at e0 e1 e2
  have CX := Lib.hid (show ∀ W, Ext w2 W → W.cell? ⟨bb, o, none⟩ = some (.int .i64 x.tag) ∧ W.cell? ⟨bb, o + 1, none⟩ = some (.slice a1 m1 k1) ∧ W.cell? ⟨bb, o + 2, none⟩ = some (.slice a2 m2 k2) from fun W e => ⟨(e.cell (p := ⟨bb, o, none⟩) hbl).trans e0, (e.cell (p := ⟨bb, o + 1, none⟩) hbl).trans e1, (e.cell (p := ⟨bb, o + 2, none⟩) hbl).trans e2⟩)
  have R1 := Lib.hid r1
  have R2 := Lib.hid r2
  have HOX := Lib.hid (okx_of HOK.out (List.mem_singleton.2 rfl) : okx x ∧ _)
  clear h1 r1 r2 ed1 e0 e1 e2
  obtain ⟨c0, c1, c2⟩ := CX.out w2 (Below.refl _ _)
  go_wp2_with fail
  clear c0 c1 c2
  refine (cons13_nd 48 2 w2 R1.out R2.out).mono ?_
  rintro e w3 ⟨rfl, b3⟩
  have X3 := Lib.hid (X2.out.tr b3)
  have Z3 := Lib.hid (Z2.out.ext b3)
  have E3 := Lib.hid b3
  obtain ⟨P, hP⟩ : ∃ P, consX x 48 2 = P := ⟨_, rfl⟩
  have HP := Lib.hid hP
  rw [hP]
  clear hP b3
  cases P
  case false =>
    have HQ := Lib.hid (mg_no HE.out (rdM_cons HOX.out.1 HP.out))
    go_wp2_with (refine wpRow_store rfl 37 _ _ rfl rfl w.heap.size (seRow 0 (.slice none 0 0) (.slice none 0 0) 0 0) rfl rfl 37 #[.int .i64 0, .slice none 0 0, .slice none 0 0, .int .i64 0, .int .i64 0] Z3.out info_se rfl (seRow_one _ _ _ rfl rfl) ?_)
    have RZ : SeAt (w3.setRow w.heap.size (seRow 0 (.slice none 0 0) (.slice none 0 0) 0 0)) w.heap.size seZ (.slice none 0 0) (.slice none 0 0) := row_at Z3.out
    have q0 : _ = some (Value.int .i64 0) := RZ.c0
    have q1 := RZ.c1
    have q2 := RZ.c2
    have q3 : _ = some (Value.int .i64 0) := RZ.c3
    have q4 : _ = some (Value.int .i64 0) := RZ.c4
    refine bodyPost_ret (v := .tuple #[.agg #[.int .i64 0, .slice none 0 0, .slice none 0 0, .int .i64 0, .int .i64 0], .int .i64 1]) ?_ rfl ⟨ext_setRow X3.out (Nat.le_refl _) _, .inl ⟨1, HQ.out, (by decide), rfl⟩⟩
    simp [results, Tryz.results73, go_sem, q0, q1, q2, q3, q4]
  have HXC := Lib.hid ((consX_go HOX.out.1).1 HP.out)
  obtain ⟨p, q, hpq⟩ := two_of (show x.kids.length = 2 from by rcases HXC.out.2 with h | h <;> omega)
  have HK := Lib.hid hpq
  have R2' := R2.out
  rw [hpq] at R2'
  obtain ⟨A', n', c', e', hn', hnc', hcm', hel'⟩ := R2'.open_
  injection e' with e1' e2' e3'
  subst e1' e2' e3'
  obtain rfl : m2 = 2 := hn'
  obtain ⟨d2, ed2, b2, o2, rfl, hbl2, pa, pm, pk, pa2, pm2, pk2, f0, f1, f2, rp, rpk⟩ := hel' 0 p rfl
  obtain ⟨d3, ed3, b2', o2', e4, hbl2', qa, qm, qk, qa2, qm2, qk2, g0, g1, g2, rq, rqk⟩ := hel' 1 q rfl
  injection e4 with e4
  injection e4 with e5 e6
  subst e5 e6
  simp only [Nat.zero_mul, Nat.add_zero, Nat.one_mul] at f0 f1 f2 g0 g1 g2
  have CP := Lib.hid (show ∀ W, Ext w2 W → W.cell? ⟨b2, o2, none⟩ = some (.int .i64 p.tag) ∧ W.cell? ⟨b2, o2 + 1, none⟩ = some (.slice pa pm pk) ∧ W.cell? ⟨b2, o2 + 2, none⟩ = some (.slice pa2 pm2 pk2) from fun W e => ⟨(e.cell (p := ⟨b2, o2, none⟩) hbl2).trans f0, (e.cell (p := ⟨b2, o2 + 1, none⟩) hbl2).trans f1, (e.cell (p := ⟨b2, o2 + 2, none⟩) hbl2).trans f2⟩)
  have CQ := Lib.hid (show ∀ W, Ext w2 W → W.cell? ⟨b2, o2 + 3, none⟩ = some (.int .i64 q.tag) ∧ W.cell? ⟨b2, o2 + 3 + 1, none⟩ = some (.slice qa qm qk) ∧ W.cell? ⟨b2, o2 + 3 + 2, none⟩ = some (.slice qa2 qm2 qk2) from fun W e => ⟨(e.cell (p := ⟨b2, o2 + 3, none⟩) hbl2).trans g0, (e.cell (p := ⟨b2, o2 + 3 + 1, none⟩) hbl2).trans g1, (e.cell (p := ⟨b2, o2 + 3 + 2, none⟩) hbl2).trans g2⟩)
  have RP := Lib.hid rp
  have RPK := Lib.hid rpk
  have RQ := Lib.hid rq
  have RQK := Lib.hid rqk
  have HOP := Lib.hid (okx_kid HOK.out (List.mem_singleton.2 rfl) (show p ∈ x.kids by rw [hpq]; simp))
  have HOQ := Lib.hid (okx_kid HOK.out (List.mem_singleton.2 rfl) (show q ∈ x.kids by rw [hpq]; simp))
  have HOQK := Lib.hid (show ∃ d, okNs d q.kids from by
    obtain ⟨_, d, _, h⟩ := HOX.out
    obtain ⟨_, d', _, h'⟩ := okx_of h (show q ∈ x.kids by rw [hpq]; simp)
    exact ⟨d', h'⟩)
  have HFQ := Lib.hid (show q.kids.length < 1000000 ∧ ∀ y ∈ q.kids, ∀ s ∈ y.kids, s.val.length ≤ 4096 from by
    have h := HFW.out 4 x (by simp)
    have hq := h.2.2 q (by rw [hpq]; simp)
    exact ⟨by have := hq.1; omega, fun y hy s hs => ((hq.2.2 y hy).2.2 s hs).2.1⟩)
  clear hpq R2' hel' ed2 ed3 f0 f1 f2 g0 g1 g2 rp rpk rq rqk hbl2'
  obtain ⟨_, _, c2⟩ := CX.out w3 E3.out
  obtain ⟨u0, u1, u2⟩ := CP.out w3 E3.out
  go_wp2_with fail
  clear c2 u0 u1 u2
  refine (prim13_nd 2 1 w3 (RP.out.ext E3.out) (RPK.out.ext E3.out)).mono ?_
  rintro e w4 ⟨rfl, b4⟩
  have X4 := Lib.hid (X3.out.tr b4)
  have Z4 := Lib.hid (Z3.out.ext b4)
  have E4 := Lib.hid (E3.out.tr b4)
  obtain ⟨P, hP⟩ : ∃ P, primX p 2 1 = P := ⟨_, rfl⟩
  have HP2 := Lib.hid hP
  rw [hP]
  clear hP b4
  cases P
  case false =>
    have HQ := Lib.hid (mg_no HE.out (rdM_prim HK.out HOP.out HP2.out))
    go_wp2_with (refine wpRow_store rfl 37 _ _ rfl rfl w.heap.size (seRow 0 (.slice none 0 0) (.slice none 0 0) 0 0) rfl rfl 37 #[.int .i64 0, .slice none 0 0, .slice none 0 0, .int .i64 0, .int .i64 0] Z4.out info_se rfl (seRow_one _ _ _ rfl rfl) ?_)
    have RZ : SeAt (w4.setRow w.heap.size (seRow 0 (.slice none 0 0) (.slice none 0 0) 0 0)) w.heap.size seZ (.slice none 0 0) (.slice none 0 0) := row_at Z4.out
    have q0 : _ = some (Value.int .i64 0) := RZ.c0
    have q1 := RZ.c1
    have q2 := RZ.c2
    have q3 : _ = some (Value.int .i64 0) := RZ.c3
    have q4 : _ = some (Value.int .i64 0) := RZ.c4
    refine bodyPost_ret (v := .tuple #[.agg #[.int .i64 0, .slice none 0 0, .slice none 0 0, .int .i64 0, .int .i64 0], .int .i64 1]) ?_ rfl ⟨ext_setRow X4.out (Nat.le_refl _) _, .inl ⟨1, HQ.out, (by decide), rfl⟩⟩
    simp [results, Tryz.results73, go_sem, q0, q1, q2, q3, q4]
  obtain ⟨_, _, c2⟩ := CX.out w4 E4.out
  obtain ⟨u0, u1, u2⟩ := CQ.out w4 E4.out
  go_wp2_with fail
  clear c2 u0 u1 u2
  refine (cons13_nd 48 (-1) w4 (RQ.out.ext E4.out) (RQK.out.ext E4.out)).mono ?_
  rintro e w5 ⟨rfl, b5⟩
  have X5 := Lib.hid (X4.out.tr b5)
  have Z5 := Lib.hid (Z4.out.ext b5)
  have E5 := Lib.hid (E4.out.tr b5)
  obtain ⟨P, hP⟩ : ∃ P, consX q 48 (-1) = P := ⟨_, rfl⟩
  have HP3 := Lib.hid hP
  rw [hP]
  clear hP b5
  cases P
  case false =>
    have HQ := Lib.hid (mg_no HE.out (rdM_cons2 HK.out HOQ.out HP3.out))
    go_wp2_with (refine wpRow_store rfl 37 _ _ rfl rfl w.heap.size (seRow 0 (.slice none 0 0) (.slice none 0 0) 0 0) rfl rfl 37 #[.int .i64 0, .slice none 0 0, .slice none 0 0, .int .i64 0, .int .i64 0] Z5.out info_se rfl (seRow_one _ _ _ rfl rfl) ?_)
    have RZ : SeAt (w5.setRow w.heap.size (seRow 0 (.slice none 0 0) (.slice none 0 0) 0 0)) w.heap.size seZ (.slice none 0 0) (.slice none 0 0) := row_at Z5.out
    have q0 : _ = some (Value.int .i64 0) := RZ.c0
    have q1 := RZ.c1
    have q2 := RZ.c2
    have q3 : _ = some (Value.int .i64 0) := RZ.c3
    have q4 : _ = some (Value.int .i64 0) := RZ.c4
    refine bodyPost_ret (v := .tuple #[.agg #[.int .i64 0, .slice none 0 0, .slice none 0 0, .int .i64 0, .int .i64 0], .int .i64 1]) ?_ rfl ⟨ext_setRow X5.out (Nat.le_refl _) _, .inl ⟨1, HQ.out, (by decide), rfl⟩⟩
    simp [results, Tryz.results73, go_sem, q0, q1, q2, q3, q4]
  have HXP := Lib.hid ((primX_go ct2 HOP.out).1 HP2.out)
  have HXQ := Lib.hid ((consX_go HOQ.out).1 HP3.out)
  have HP1 := Lib.hid (show p.val.length = 1 from by rcases HXP.out.2 with h | h <;> omega)
  have HV := Lib.hid (rdM_go HK.out HXC.out.1 HXP.out.1 HXQ.out.1 HP1.out)
  obtain ⟨A', n', c', e', hpn, hpc, hpm, hpel⟩ := RP.out.bytes
  injection e' with e1' e2' e3'
  subst e1' e2' e3'
  obtain rfl : pm = 1 := hpn.trans HP1.out
  obtain ⟨bp, op, rfl, hblp, hcp⟩ := hpel (by omega)
  have z0 := hcp 0 (by omega)
  rw [Nat.add_zero] at z0
  have CB := Lib.hid (show ∀ W, Ext w2 W → W.cell? ⟨bp, op, none⟩ = some (.int .u8 (byteI p.val 0)) from fun W e => (e.cell (p := ⟨bp, op, none⟩) hblp).trans z0)
  unfold maxLen at hpm
  clear hpel hcp z0 hpn
  have p0 := byteI_lo p.val 0
  have p1 := byteI_hi p.val 0
  generalize byteI p.val 0 = zp at *
  obtain ⟨w6, hw6⟩ : ∃ w6, w6 = w5.alloc (.cells #[.int .i64 zp, .slice none 0 0, .slice none 0 0, .int .i64 0, .int .i64 0] 37) := ⟨_, rfl⟩
  have F6 := Lib.hid (show Ext w5 w6 by rw [hw6]; exact (Below.refl _ _).alloc (Nat.le_refl _) _)
  have S6 := Lib.hid (show SeAt w6 w5.heap.size ⟨zp, [], [], 0, 0⟩ (.slice none 0 0) (.slice none 0 0) by rw [hw6]; exact heap_alloc_new' w5 _)
  obtain ⟨_, _, c2⟩ := CX.out w5 E5.out
  obtain ⟨u0, u1, u2⟩ := CP.out w5 E5.out
  have z0 := CB.out w5 E5.out
  go_upto_region 7 with fail
  rw [← hw6]
  clear hw6 c2 u0 u1 u2 z0
  obtain ⟨g, hg⟩ : ∃ g, w5.heap.size = g := ⟨_, rfl⟩
  have HWG := Lib.hid (show w.heap.size < g from hg ▸ Z5.out.lt)
  have HG2 := Lib.hid (show w2.heap.size ≤ g from hg ▸ E5.out.size)
  rw [hg] at S6 ⊢
  clear hg
  have E6 := Lib.hid (E5.out.tr F6.out)
  have X6 := Lib.hid (X5.out.tr F6.out)
  have Z6 := Lib.hid (Z5.out.ext F6.out)
  have HG6 := Lib.hid S6.out.lt
  clear p0 p1
  obtain ⟨_, _, c2⟩ := CX.out w6 E6.out
  obtain ⟨u0, u1, u2⟩ := CQ.out w6 E6.out
  obtain ⟨A', n', c', e', hqn, hqc, hqm, hqel⟩ := RQK.out.open_
  injection e' with e1' e2' e3'
  subst e1' e2' e3'
  subst hqn
  unfold maxLen at hqm
  have HQ := Lib.hid hqel
  clear hqel
  go_wp2_with fail
  clear c2 u0 u1 u2
  go_loopw [8] (fun i wr => ∃ (j : Nat) (A : Option Addr) (n cc : Nat) (ps : List ((Int × List UInt8) × Value)), j ≤ q.kids.length ∧ i = .int .i64 (j : Int) ∧ Hid (n = ps.length ∧ ps.length = j) ∧ Hid (rdHs (q.kids.take j) = some (ps.map (·.1))) ∧ Hid (∀ p ∈ ps, RdS (fun b => w6.heap.size ≤ b ∧ rowOf (.slice A n cc) ≠ some b) wr p.2 (bvs p.1.2)) ∧ Hid (Ext w2 wr) ∧ Hid (Ext w wr) ∧ Hid (w6.heap.size ≤ wr.heap.size) ∧ Hid (SeAt wr w.heap.size seZ (.slice none 0 0) (.slice none 0 0)) ∧ Hid (SeAt wr g ⟨zp, [], [], 0, 0⟩ (.slice A n cc) (.slice none 0 0)) ∧
    Hid (OwnK wr w6.heap.size 72 2 (.slice A n cc) (ps.flatMap hsCells))) (fun i _ => q.kids.length - (intOf i).toNat)
  case atStart => exact ⟨0, none, 0, 0, [], Nat.zero_le _, rfl, Lib.hid ⟨rfl, rfl⟩, Lib.hid (by rw [List.take_zero]; rfl), Lib.hid (fun _ h => by cases h), E6, X6, Lib.hid (Nat.le_refl _), Z6, S6, Lib.hid (OwnK.empty _ _ _ _ _)⟩
  case round =>
  obtain ⟨j, A, n, cc, ps, hj, rfl, HN, HR, HG, EW, XW, HW, ZW, GW, OW⟩ := hrel
  by_cases hlt : j < q.kids.length
  case pos =>
    obtain ⟨y, hy⟩ : ∃ y, q.kids[j]? = some y := ⟨_, List.getElem?_eq_getElem hlt⟩
    obtain ⟨dj, ed, bq, oq, rfl, hblq, ya, ym, yk, ya2, ym2, yk2, h0, h1, h2, ry, ryk⟩ := HQ.out j y hy
    have CY := Lib.hid (show ∀ W, Ext w2 W → W.cell? ⟨bq, oq + j * 3, none⟩ = some (.int .i64 y.tag) ∧ W.cell? ⟨bq, oq + j * 3 + 1, none⟩ = some (.slice ya ym yk) ∧ W.cell? ⟨bq, oq + j * 3 + 2, none⟩ = some (.slice ya2 ym2 yk2) from fun W e => ⟨(e.cell (p := ⟨bq, oq + j * 3, none⟩) hblq).trans h0, (e.cell (p := ⟨bq, oq + j * 3 + 1, none⟩) hblq).trans h1, (e.cell (p := ⟨bq, oq + j * 3 + 2, none⟩) hblq).trans h2⟩)
    have RY := Lib.hid ry
    have RYK := Lib.hid ryk
    have HY := Lib.hid hy
    have HYM := Lib.hid (List.mem_of_getElem? hy)
    have HOY := Lib.hid (show okx y ∧ ∃ d, okNs d y.kids from by
      obtain ⟨d, h⟩ := HOQK.out
      obtain ⟨h1, d', _, h2⟩ := okx_of h HYM.out
      exact ⟨h1, d', h2⟩)
    have wi1 : IntKind.i64.wrap ((j : Int)) = (j : Int) := IntWalk.i64_in _ (by omega)
    have zi1 : (0 : Int) ≤ (j : Int) := by omega
    have li1 : (j : Int) < (q.kids.length : Int) := by omega
    have ti1 : ((j : Int)).toNat = j := by omega
    clear h0 h1 h2 ry ryk hy ed
    obtain ⟨l0, l1, l2⟩ := CY.out wr EW.out
    go_wp2_with fail
    clear l0 l1 l2
    refine (cons13_nd 48 2 wr (RY.out.ext EW.out) (RYK.out.ext EW.out)).mono ?_
    rintro e wk ⟨rfl, bk⟩
    have XK := Lib.hid (XW.out.tr bk)
    have ZK := Lib.hid (ZW.out.ext bk)
    have EK := Lib.hid (EW.out.tr bk)
    have FK := Lib.hid bk
    obtain ⟨P, hP⟩ : ∃ P, consX y 48 2 = P := ⟨_, rfl⟩
    have HPY := Lib.hid hP
    rw [hP]
    clear hP bk
    cases P
    case false =>
      have HQ := Lib.hid (mg_no HE.out (show rdM [x] = none by rw [HV.out, rdHs_none (rdH_cons HOY.out.1 HPY.out) HYM.out]))
      go_wp2_with (refine wpRow_store rfl 37 _ _ rfl rfl w.heap.size (seRow 0 (.slice none 0 0) (.slice none 0 0) 0 0) rfl rfl 37 #[.int .i64 0, .slice none 0 0, .slice none 0 0, .int .i64 0, .int .i64 0] ZK.out info_se rfl (seRow_one _ _ _ rfl rfl) ?_)
      have RZ : SeAt (wk.setRow w.heap.size (seRow 0 (.slice none 0 0) (.slice none 0 0) 0 0)) w.heap.size seZ (.slice none 0 0) (.slice none 0 0) := row_at ZK.out
      have q0 : _ = some (Value.int .i64 0) := RZ.c0
      have q1 := RZ.c1
      have q2 := RZ.c2
      have q3 : _ = some (Value.int .i64 0) := RZ.c3
      have q4 : _ = some (Value.int .i64 0) := RZ.c4
      refine bodyPost_ret (v := .tuple #[.agg #[.int .i64 0, .slice none 0 0, .slice none 0 0, .int .i64 0, .int .i64 0], .int .i64 1]) ?_ rfl ⟨ext_setRow XK.out (Nat.le_refl _) _, .inl ⟨1, HQ.out, (by decide), rfl⟩⟩
      simp [results, Tryz.results73, go_sem, q0, q1, q2, q3, q4]
    have HYC := Lib.hid ((consX_go HOY.out.1).1 HPY.out)
    obtain ⟨r, s, hrs⟩ := two_of (show y.kids.length = 2 from by rcases HYC.out.2 with h | h <;> omega)
    have HK2 := Lib.hid hrs
    have R2' := RYK.out
    rw [hrs] at R2'
    obtain ⟨A', n', c', e', hn', hnc', hcm', hel'⟩ := R2'.open_
    injection e' with e1' e2' e3'
    subst e1' e2' e3'
    obtain rfl : ym2 = 2 := hn'
    obtain ⟨d5, ed5, b5, o5, rfl, hbl5, ra, rm, rk, ra2, rm2, rk2, f0, f1, f2, rr, rrk⟩ := hel' 0 r rfl
    obtain ⟨d6, ed6, b5', o5', e4, hbl5', sa, sm, sk, sa2, sm2, sk2, g0, g1, g2, rs, rsk⟩ := hel' 1 s rfl
    injection e4 with e4
    injection e4 with e5 e6
    subst e5 e6
    simp only [Nat.zero_mul, Nat.add_zero, Nat.one_mul] at f0 f1 f2 g0 g1 g2
    have CR := Lib.hid (show ∀ W, Ext w2 W → W.cell? ⟨b5, o5, none⟩ = some (.int .i64 r.tag) ∧ W.cell? ⟨b5, o5 + 1, none⟩ = some (.slice ra rm rk) ∧ W.cell? ⟨b5, o5 + 2, none⟩ = some (.slice ra2 rm2 rk2) from fun W e => ⟨(e.cell (p := ⟨b5, o5, none⟩) hbl5).trans f0, (e.cell (p := ⟨b5, o5 + 1, none⟩) hbl5).trans f1, (e.cell (p := ⟨b5, o5 + 2, none⟩) hbl5).trans f2⟩)
    have CS := Lib.hid (show ∀ W, Ext w2 W → W.cell? ⟨b5, o5 + 3, none⟩ = some (.int .i64 s.tag) ∧ W.cell? ⟨b5, o5 + 3 + 1, none⟩ = some (.slice sa sm sk) ∧ W.cell? ⟨b5, o5 + 3 + 2, none⟩ = some (.slice sa2 sm2 sk2) from fun W e => ⟨(e.cell (p := ⟨b5, o5 + 3, none⟩) hbl5).trans g0, (e.cell (p := ⟨b5, o5 + 3 + 1, none⟩) hbl5).trans g1, (e.cell (p := ⟨b5, o5 + 3 + 2, none⟩) hbl5).trans g2⟩)
    have RR := Lib.hid rr
    have RRK := Lib.hid rrk
    have RS := Lib.hid rs
    have RSK := Lib.hid rsk
    have HOR := Lib.hid (show okx r from by obtain ⟨d, h⟩ := HOY.out.2; exact (okx_of h (show r ∈ y.kids by rw [hrs]; simp)).1)
    have HOS := Lib.hid (show okx s from by obtain ⟨d, h⟩ := HOY.out.2; exact (okx_of h (show s ∈ y.kids by rw [hrs]; simp)).1)
    have HSL := Lib.hid (show s.val.length ≤ 4096 from HFQ.out.2 y HYM.out s (by rw [hrs]; simp))
    clear hrs R2' hel' ed5 ed6 f0 f1 f2 g0 g1 g2 rr rrk rs rsk hbl5'
    obtain ⟨_, _, l2⟩ := CY.out wk EK.out
    obtain ⟨u0, u1, u2⟩ := CR.out wk EK.out
    go_wp2_with fail
    clear l2 u0 u1 u2
    refine (prim13_nd 2 1 wk (RR.out.ext EK.out) (RRK.out.ext EK.out)).mono ?_
    rintro e wl ⟨rfl, bl⟩
    have XL := Lib.hid (XK.out.tr bl)
    have ZL := Lib.hid (ZK.out.ext bl)
    have EL := Lib.hid (EK.out.tr bl)
    have FL := Lib.hid (FK.out.tr bl)
    obtain ⟨P, hP⟩ : ∃ P, primX r 2 1 = P := ⟨_, rfl⟩
    have HPR := Lib.hid hP
    rw [hP]
    clear hP bl
    cases P
    case false =>
      have HQ := Lib.hid (mg_no HE.out (show rdM [x] = none by rw [HV.out, rdHs_none (rdH_prim HK2.out HOR.out HPR.out) HYM.out]))
      go_wp2_with (refine wpRow_store rfl 37 _ _ rfl rfl w.heap.size (seRow 0 (.slice none 0 0) (.slice none 0 0) 0 0) rfl rfl 37 #[.int .i64 0, .slice none 0 0, .slice none 0 0, .int .i64 0, .int .i64 0] ZL.out info_se rfl (seRow_one _ _ _ rfl rfl) ?_)
      have RZ : SeAt (wl.setRow w.heap.size (seRow 0 (.slice none 0 0) (.slice none 0 0) 0 0)) w.heap.size seZ (.slice none 0 0) (.slice none 0 0) := row_at ZL.out
      have q0 : _ = some (Value.int .i64 0) := RZ.c0
      have q1 := RZ.c1
      have q2 := RZ.c2
      have q3 : _ = some (Value.int .i64 0) := RZ.c3
      have q4 : _ = some (Value.int .i64 0) := RZ.c4
      refine bodyPost_ret (v := .tuple #[.agg #[.int .i64 0, .slice none 0 0, .slice none 0 0, .int .i64 0, .int .i64 0], .int .i64 1]) ?_ rfl ⟨ext_setRow XL.out (Nat.le_refl _) _, .inl ⟨1, HQ.out, (by decide), rfl⟩⟩
      simp [results, Tryz.results73, go_sem, q0, q1, q2, q3, q4]
    obtain ⟨_, _, l2⟩ := CY.out wl EL.out
    obtain ⟨u0, u1, u2⟩ := CS.out wl EL.out
    go_wp2_with fail
    clear l2 u0 u1 u2
    refine (prim13_nd 4 (-1) wl (RS.out.ext EL.out) (RSK.out.ext EL.out)).mono ?_
    rintro e w7 ⟨rfl, b7⟩
    have X7 := Lib.hid (XL.out.tr b7)
    have Z7 := Lib.hid (ZL.out.ext b7)
    have E7 := Lib.hid (EL.out.tr b7)
    have F7 := Lib.hid (FL.out.tr b7)
    obtain ⟨P, hP⟩ : ∃ P, primX s 4 (-1) = P := ⟨_, rfl⟩
    have HPS := Lib.hid hP
    rw [hP]
    clear hP b7
    cases P
    case false =>
      have HQ := Lib.hid (mg_no HE.out (show rdM [x] = none by rw [HV.out, rdHs_none (rdH_prim2 HK2.out HOS.out HPS.out) HYM.out]))
      go_wp2_with (refine wpRow_store rfl 37 _ _ rfl rfl w.heap.size (seRow 0 (.slice none 0 0) (.slice none 0 0) 0 0) rfl rfl 37 #[.int .i64 0, .slice none 0 0, .slice none 0 0, .int .i64 0, .int .i64 0] Z7.out info_se rfl (seRow_one _ _ _ rfl rfl) ?_)
      have RZ : SeAt (w7.setRow w.heap.size (seRow 0 (.slice none 0 0) (.slice none 0 0) 0 0)) w.heap.size seZ (.slice none 0 0) (.slice none 0 0) := row_at Z7.out
      have q0 : _ = some (Value.int .i64 0) := RZ.c0
      have q1 := RZ.c1
      have q2 := RZ.c2
      have q3 : _ = some (Value.int .i64 0) := RZ.c3
      have q4 : _ = some (Value.int .i64 0) := RZ.c4
      refine bodyPost_ret (v := .tuple #[.agg #[.int .i64 0, .slice none 0 0, .slice none 0 0, .int .i64 0, .int .i64 0], .int .i64 1]) ?_ rfl ⟨ext_setRow X7.out (Nat.le_refl _) _, .inl ⟨1, HQ.out, (by decide), rfl⟩⟩
      simp [results, Tryz.results73, go_sem, q0, q1, q2, q3, q4]
    have HXR := Lib.hid ((primX_go ct2 HOR.out).1 HPR.out)
    have HR1 := Lib.hid (show r.val.length = 1 from by rcases HXR.out.2 with h | h <;> omega)
    have HRN := Lib.hid (rdH_go HK2.out HYC.out.1 HXR.out.1 ((primX_go ct4 HOS.out).1 HPS.out).1 HR1.out)
    obtain ⟨A', n', c', e', hpn, hpc, hpm, hpel⟩ := RR.out.bytes
    injection e' with e1' e2' e3'
    subst e1' e2' e3'
    obtain rfl : rm = 1 := hpn.trans HR1.out
    obtain ⟨br, orr, rfl, hblr, hcr⟩ := hpel (by omega)
    have z0 := hcr 0 (by omega)
    rw [Nat.add_zero] at z0
    have CB := Lib.hid (show ∀ W, Ext w2 W → W.cell? ⟨br, orr, none⟩ = some (.int .u8 (byteI r.val 0)) from fun W e => (e.cell (p := ⟨br, orr, none⟩) hblr).trans z0)
    unfold maxLen at hpm
    clear hpel hcr z0 hpn
    have p0 := byteI_lo r.val 0
    have p1 := byteI_hi r.val 0
    generalize byteI r.val 0 = zr at *
    have NEWS := Lib.hid (show ∀ b, wr.heap.size ≤ b → (fun b => w6.heap.size ≤ b ∧ rowOf (.slice A n cc) ≠ some b) b from fun b hb => ⟨Nat.le_trans HW.out hb, fun h => by have := rowOf_ltK OW.out b h; omega⟩)
    go_wp2_with fail
    refine Gd.wp_region_X 24 (by kernel_rfl) (by kernel_rfl) ?_
    simp only [List.take_succ_cons, List.take_zero, List.drop_succ_cons, List.drop_zero]
    intro w1 hw1
    have LL : ∀ m : Lt w1, Ext w7 m.1 := fun m => hw1.tr m.2
    have BB : ∀ m : Lt w1, wr.heap.size ≤ m.1.heap.size := fun m => (F7.out.tr (LL m)).size
    have v0 : ∀ m : Lt w1, m.1.cell? ⟨g, 1, none⟩ = some (.slice A n cc) := fun m => (GW.out.ext (F7.out.tr (LL m))).c1
    have v1 : ∀ m : Lt w1, m.1.cell? ⟨bq, oq + j * 3 + 2, none⟩ = some (.slice (some ⟨b5, o5, none⟩) 2 yk2) := fun m => (CY.out m.1 (E7.out.tr (LL m))).2.2
    have v2 : ∀ m : Lt w1, m.1.cell? ⟨b5, o5 + 1, none⟩ = some (.slice (some ⟨br, orr, none⟩) 1 rk) := fun m => (CR.out m.1 (E7.out.tr (LL m))).2.1
    have v3 : ∀ m : Lt w1, m.1.cell? ⟨br, orr, none⟩ = some (.int .u8 zr) := fun m => CB.out m.1 (E7.out.tr (LL m))
    have v4 : ∀ m : Lt w1, m.1.cell? ⟨b5, o5 + 3 + 1, none⟩ = some (.slice sa sm sk) := fun m => (CS.out m.1 (E7.out.tr (LL m))).2.1
    repeat (refine Gd.wpX_pureP rfl fun K hK => ?_; go_big_quiet_op; refine hK _ ?_; clear hK K)
    refine Gd.wpX_appF (Gd.gR rfl) (GBR (fun b => w6.heap.size ≤ b ∧ rowOf (.slice A n cc) ≠ some b) s.val) (stable_GBR _ _) (fun _ => .slice none 0 0) (fun _ => .slice sa sm sk) rfl rfl rfl rfl rfl rfl (fun _ => rfl) (fun _ => rfl) (fun m f hf => run_app0B (RS.out.ext (E7.out.tr (LL m))) (Nat.le_trans HSL.out (by omega)) (fun b hb => NEWS.out b (Nat.le_trans (BB m) hb))) ?_
    simp only [Act.put, List.setIfInBounds_toArray, List.set_cons_zero, List.set_cons_succ]
    refine Gd.wpX_buildL (Gd.gR rfl) (GHR (fun b => w6.heap.size ≤ b ∧ rowOf (.slice A n cc) ≠ some b) zr s.val) (stable_GHR _ _ _) (fun f => [(0, .int .i64 zr), (1, f 123)]) rfl rfl rfl rfl rfl (fun _ => rfl) (fun m f hf => run_ghr (hf 123 _ rfl rfl)) ?_
    simp only [Act.put, List.setIfInBounds_toArray, List.set_cons_zero, List.set_cons_succ]
    refine Gd.wpX_buildSL (Gd.gR rfl) (OHR (fun b => w6.heap.size ≤ b ∧ rowOf (.slice A n cc) ≠ some b) zr s.val) (stable_OHR _ _ _) (fun f => [(0, f 124)]) rfl rfl rfl rfl rfl (fun _ => rfl) (fun m f hf => run_ohr (hf 124 _ rfl rfl)) ?_
    simp only [Act.put, List.setIfInBounds_toArray, List.set_cons_zero, List.set_cons_succ]
    refine Gd.wpX_endL (fun m f hf => ?_)
    obtain ⟨g9, A9, n9, c9, e125, K, RB⟩ := hf 125 (OHR (fun b => w6.heap.size ≤ b ∧ rowOf (.slice A n cc) ≠ some b) zr s.val) rfl
    simp only [fillH]
    simp only [Act.put, List.setIfInBounds_toArray, List.set_cons_zero, List.set_cons_succ]
    rw [e125]
    rw [e125] at K
    have em := F7.out.tr (LL m)
    obtain ⟨wm, hwm⟩ := m
    clear LL BB v0 v1 v2 v3 v4 hf e125
    have RBM : RdS (fun b => w6.heap.size ≤ b ∧ rowOf (.slice A n cc) ≠ some b) wm (.slice A9 n9 c9) (bvs s.val) := RB
    have HGM : ∀ u ∈ ps, RdS (fun b => w6.heap.size ≤ b ∧ rowOf (.slice A n cc) ≠ some b) wm u.2 (bvs u.1.2) := fun u hu => (HG.out u hu).map fun b hb hlt => ⟨hb, em.block b hlt⟩
    have xm := XW.out.tr em
    have EM := EW.out.tr em
    have OM := OW.out.ext em
    have GM := GW.out.ext em
    have ZM := ZW.out.ext em
    have y1 := GM.c1
    have yf1 := GM.frozen 1
    have hgl := GM.lt
    have hB1 : w6.heap.size ≤ wm.heap.size := Nat.le_trans HW.out em.size
    have hts : ps.length < 1000000 := by have := HFQ.out.1; have := HN.out; omega
    clear RB
    show wpList _ _ _ _ _ _
    go_wp2_with (refine appHsS (B := w6.heap.size) (ps := ps) (p := ((zr, s.val), .slice A9 n9 c9)) OM HN.out.1 K rfl hts hB1 rfl rfl rfl rfl ?_; intro A8 n8 c8 w8 hn8 o8 g8 hge hst
                 have y8 : SeAt w8 g ⟨zp, [], [], 0, 0⟩ (.slice A n cc) (.slice none 0 0) := (g8.block _ hgl (fun e => by have := hge _ e.symm; have := HG6.out; omega)).trans GM
                 have hy8 := y8.lt
                 clear y1 yf1
                 have y1 := y8.c1
                 have yf1 := y8.frozen 1)
    have GL := Gb.set g 1 w8 (.slice A8 n8 c8)
    have e8w : Ext w w8 := xm.grown g8 xm.size (fun r hr => by have := hge r hr; have := HWG.out; have := HG6.out; omega)
    have e8 : Ext w2 w8 := EM.grown g8 EM.size (fun r hr => by have := hge r hr; have := E6.out.size; omega)
    have z8 : SeAt w8 w.heap.size seZ (.slice none 0 0) (.slice none 0 0) := (g8.block _ ZM.lt (fun e => by have := hge _ e.symm; have := HWG.out; have := HG6.out; omega)).trans ZM
    have hB8 : w6.heap.size ≤ w8.heap.size := Nat.le_trans hB1 g8.size
    go_roundw
    case rel =>
      refine ⟨j + 1, A8, n8, c8, ps ++ [((zr, s.val), .slice A9 n9 c9)], by omega, by go_num, Lib.hid ⟨by rw [hn8.out, List.length_append]; rfl, by rw [List.length_append, HN.out.2]; rfl⟩, Lib.hid ?_, Lib.hid ?_, Lib.hid (e8.setCell (p := ⟨g, 1, none⟩) HG2.out _), Lib.hid (e8w.setCell (p := ⟨g, 1, none⟩) (Nat.le_of_lt HWG.out) _), Lib.hid (by simp; exact hB8), Lib.hid ((setCell_block (by have := HWG.out; omega)).trans z8), Lib.hid (y8.set1 _), Lib.hid (o8.grown GL ?_)⟩
      · rw [take_snoc HY.out, rdHs_snoc HRN.out HR.out, List.map_append]
        rfl
      · have hmm : ∀ b, (fun b => w6.heap.size ≤ b ∧ rowOf (.slice A n cc) ≠ some b) b → b < wm.heap.size → (w6.heap.size ≤ b ∧ rowOf (.slice A8 n8 c8) ≠ some b) ∧ (w8.setCell ⟨g, 1, none⟩ (.slice A8 n8 c8)).heap[b]? = wm.heap[b]? := fun b hb hlt =>
          ⟨⟨hb.1, (hst b hb.2 hlt).1⟩, (setCell_block (by have := hb.1; have := HG6.out; omega)).trans (hst b hb.2 hlt).2⟩
        intro u hu
        rcases List.mem_append.1 hu with hu | hu
        · exact (HGM u hu).map hmm
        · rw [List.mem_singleton.1 hu]
          exact RBM.map hmm
      · cases hq : rowOf (.slice A8 n8 c8) with
        | none => exact .inl rfl
        | some r => exact .inr (fun h => by have := rowOf_geK o8 r hq; have := HG6.out; injection h with h; omega)
    case measure => simp [intOf]; omega
  case neg =>
  obtain rfl : j = q.kids.length := by omega
  have HVV := Lib.hid (mg_yes HE.out (show rdM [x] = some (zp, ps.map (·.1)) by rw [HV.out]; have h := HR.out; rw [List.take_length] at h; rw [h]))
  go_wp2_with (first | (refine wpList_load_row rfl 37 _ rfl g rfl 37 (seRow zp (.slice A n cc) (.slice none 0 0) 0 0) (0, 0) _ GW.out Tryz.underlying37 rfl info_se ?_) | (refine wpRow_store rfl 37 _ _ rfl rfl w.heap.size (seRow zp (.slice A n cc) (.slice none 0 0) 0 0) rfl rfl 37 #[.int .i64 0, .slice none 0 0, .slice none 0 0, .int .i64 0, .int .i64 0] ZW.out info_se rfl (seRow_one _ _ _ rfl rfl) ?_))
  have RZ : SeAt (wr.setRow w.heap.size (seRow zp (.slice A n cc) (.slice none 0 0) 0 0)) w.heap.size ⟨zp, [], [], 0, 0⟩ (.slice A n cc) (.slice none 0 0) := row_at ZW.out
  have q0 : _ = some (Value.int .i64 zp) := RZ.c0
  have q1 := RZ.c1
  have q2 := RZ.c2
  have q3 : _ = some (Value.int .i64 0) := RZ.c3
  have q4 : _ = some (Value.int .i64 0) := RZ.c4
  refine bodyPost_ret (v := .tuple #[.agg #[.int .i64 zp, .slice A n cc, .slice none 0 0, .int .i64 0, .int .i64 0], .int .i64 0]) ?_ rfl ⟨ext_setRow XW.out (Nat.le_refl _) _, .inr ⟨zp, _, A, n, cc, HVV.out, rfl, ?_⟩⟩
  · simp [results, Tryz.results73, go_sem, q0, q1, q2, q3, q4]
  · refine hsRd_of (OW.out.grown (Gb.setRow w.heap.size wr (seRow zp (.slice A n cc) (.slice none 0 0) 0 0)) ?_).rd fun u hu => RdS.rd (S := (fun b => w6.heap.size ≤ b ∧ rowOf (.slice A n cc) ≠ some b)) ((HG.out u hu).map fun b hb hlt => ⟨hb, setRow_block (by have := hb.1; have := HWG.out; have := HG6.out; omega)⟩)
    cases hq : rowOf (.slice A n cc) with
    | none => exact .inl rfl
    | some r => exact .inr (fun h => by have := rowOf_geK OW.out r hq; have := HWG.out; have := HG6.out; injection h with h; omega)
end Go.Proofs.YthbpdhanljpigaaGreatDoor
