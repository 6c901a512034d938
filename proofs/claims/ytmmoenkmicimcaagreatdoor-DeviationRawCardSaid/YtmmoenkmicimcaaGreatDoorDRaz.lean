/- Parts Eg Ud Eh Ei Un Ui of the proof. -/
import Derived.Test.YtmmoenkmicimcaaGreatDoorDRay
import Derived.Test.YtmmoenkmicimcaaGreatDoorDRaw
import Derived.Test.YtmmoenkmicimcaaGreatDoorDRat
import Derived.Test.YtmmoenkmicimcaaGreatDoorDRao
namespace Go.Proofs.YtmmoenkmicimcaaGreatDoor
open Go.RowKit
set_option linter.unusedVariables false
set_option maxRecDepth 100000
def updD (m : DV) (e s : Int) : DV := ⟨m.st, m.num, m.day, m.defs, m.sg, e, s⟩
def isCD (k : Int) (m : DV) : DV := if ckD m = 0 ∧ sK k = 0 then updD m (sE k (bodyDB m)) (sS k (bodyDB m)) else zeroD
def isKD (k : Int) (m : DV) : Int := if ckD m = 0 then sK k else ckD m
theorem byD_len (m : DV) : (byD m).length ≤ 4096 := by
  unfold byD
  split
  · rename_i h; exact bodyDB_4096 h
  · simp
/-- A list and a number are returned; its roots' row is new. -/
def RetDV (w : World) (m : DV) (k : Int) (e : Ending) (w' : World) : Prop := ∃ A n c, e = .returned (.tuple #[dvV m (.slice A n c), .int .i64 k]) ∧ OwnK w' w.heap.size 65 5 (.slice A n c) (dfsCells m.defs) ∧ Ext w w'
/-- .. its roots may be read. -/
def RetDQ (w : World) (v : Value) (m : DV) (k : Int) (e : Ending) (w' : World) : Prop := ∃ A n c, e = .returned (.tuple #[dvV m (.slice A n c), .int .i64 k]) ∧ RdD w' (.slice A n c) m.defs ∧ Ext w w' ∧ (.slice A n c = v ∨ .slice A n c = Value.slice none 0 0)
theorem DvAt.frozen {w : World} {g : Nat} {m : DV} {v : Value} (h : DvAt w g m v) (i : Nat) : w.frozen? ⟨g, i, none⟩ = false := by
  unfold DvAt at h
  simp [World.frozen?, h]
theorem DvAt.setSig {w : World} {g : Nat} {m : DV} {v : Value} (h : DvAt w g m v) (e s : Int) : DvAt ((w.setCell ⟨g, 15, none⟩ (.int .i64 e)).setCell ⟨g, 16, none⟩ (.int .i64 s)) g (updD m e s) v := by
  have h9 := row_set (row_set h 15 (.int .i64 e)) 16 (.int .i64 s)
  exact h9
theorem DvAt.other {w : World} {g b i : Nat} {m : DV} {v u : Value} (h : DvAt w g m v) (hne : g ≠ b) : DvAt (w.setCell ⟨b, i, none⟩ u) g m v := (setCell_block hne).trans h
/-- Two blocks: a list that came, and the result. -/
structure TwoD (w wz : World) (m : DV) (v : Value) : Prop where
  ext : Ext w wz
  c : DvAt wz w.heap.size m v
  r : DvAt wz (w.heap.size + 1) zeroD (.slice none 0 0)
theorem two_allocD (w : World) (a : DV) (v : Value) : ∃ wz, wz = (w.alloc (.cells #[.string (bstr a.st), .int .i64 a.num, .int .i64 a.day, v, .string (bstr a.sg.st), .int .i64 a.sg.kind, .int .i64 a.sg.num, .int .i64 a.sg.iss, .int .i64 a.sg.own, .int .i64 a.sg.key, .int .i64 a.sg.fr, .int .i64 a.sg.un, .int .i64 a.sg.to, .int .i64 a.sg.e, .int .i64 a.sg.s, .int .i64 a.e, .int .i64 a.s] 41)).alloc (.cells #[.string ⟨#[]⟩, .int .i64 0, .int .i64 0, .slice none 0 0, .string ⟨#[]⟩, .int .i64 0, .int .i64 0, .int .i64 0, .int .i64 0, .int .i64 0, .int .i64 0, .int .i64 0, .int .i64 0, .int .i64 0, .int .i64 0, .int .i64 0, .int .i64 0] 41) ∧ TwoD w wz a v := by
  have e1 : Ext w (w.alloc (.cells #[.string (bstr a.st), .int .i64 a.num, .int .i64 a.day, v, .string (bstr a.sg.st), .int .i64 a.sg.kind, .int .i64 a.sg.num, .int .i64 a.sg.iss, .int .i64 a.sg.own, .int .i64 a.sg.key, .int .i64 a.sg.fr, .int .i64 a.sg.un, .int .i64 a.sg.to, .int .i64 a.sg.e, .int .i64 a.sg.s, .int .i64 a.e, .int .i64 a.s] 41)) := (Below.refl _ _).alloc (Nat.le_refl _) _
  have e2 : Ext (w.alloc (.cells #[.string (bstr a.st), .int .i64 a.num, .int .i64 a.day, v, .string (bstr a.sg.st), .int .i64 a.sg.kind, .int .i64 a.sg.num, .int .i64 a.sg.iss, .int .i64 a.sg.own, .int .i64 a.sg.key, .int .i64 a.sg.fr, .int .i64 a.sg.un, .int .i64 a.sg.to, .int .i64 a.sg.e, .int .i64 a.sg.s, .int .i64 a.e, .int .i64 a.s] 41)) ((w.alloc (.cells #[.string (bstr a.st), .int .i64 a.num, .int .i64 a.day, v, .string (bstr a.sg.st), .int .i64 a.sg.kind, .int .i64 a.sg.num, .int .i64 a.sg.iss, .int .i64 a.sg.own, .int .i64 a.sg.key, .int .i64 a.sg.fr, .int .i64 a.sg.un, .int .i64 a.sg.to, .int .i64 a.sg.e, .int .i64 a.sg.s, .int .i64 a.e, .int .i64 a.s] 41)).alloc (.cells #[.string ⟨#[]⟩, .int .i64 0, .int .i64 0, .slice none 0 0, .string ⟨#[]⟩, .int .i64 0, .int .i64 0, .int .i64 0, .int .i64 0, .int .i64 0, .int .i64 0, .int .i64 0, .int .i64 0, .int .i64 0, .int .i64 0, .int .i64 0, .int .i64 0] 41)) := (Below.refl _ _).alloc (Nat.le_refl _) _
  refine ⟨_, rfl, e1.tr e2, (e2.block _ (by simp)).trans (heap_alloc_new' w _), ?_⟩
  have := heap_alloc_new' (w.alloc (.cells #[.string (bstr a.st), .int .i64 a.num, .int .i64 a.day, v, .string (bstr a.sg.st), .int .i64 a.sg.kind, .int .i64 a.sg.num, .int .i64 a.sg.iss, .int .i64 a.sg.own, .int .i64 a.sg.key, .int .i64 a.sg.fr, .int .i64 a.sg.un, .int .i64 a.sg.to, .int .i64 a.sg.e, .int .i64 a.sg.s, .int .i64 a.e, .int .i64 a.s] 41)) (.cells #[.string ⟨#[]⟩, .int .i64 0, .int .i64 0, .slice none 0 0, .string ⟨#[]⟩, .int .i64 0, .int .i64 0, .int .i64 0, .int .i64 0, .int .i64 0, .int .i64 0, .int .i64 0, .int .i64 0, .int .i64 0, .int .i64 0, .int .i64 0, .int .i64 0] 41)
  rw [show (w.alloc (.cells #[.string (bstr a.st), .int .i64 a.num, .int .i64 a.day, v, .string (bstr a.sg.st), .int .i64 a.sg.kind, .int .i64 a.sg.num, .int .i64 a.sg.iss, .int .i64 a.sg.own, .int .i64 a.sg.key, .int .i64 a.sg.fr, .int .i64 a.sg.un, .int .i64 a.sg.to, .int .i64 a.sg.e, .int .i64 a.sg.s, .int .i64 a.e, .int .i64 a.s] 41)).heap.size = w.heap.size + 1 by simp] at this
  exact this
theorem TwoD.tr {w wz wy : World} {m : DV} {v : Value} (h : TwoD w wz m v) (e : Ext wz wy) : TwoD w wy m v := ⟨h.ext.tr e, h.c.ext e, h.r.ext e⟩
set_option maxHeartbeats 8000000 in
theorem dissue_any (k : Int) (a : DV) (v : Value) (w : World) (hv : RdD w v a.defs) (hs : smD a.defs) (hg : smN a.sg) (ht : a.st.length ≤ maxLen) (E : KTab w 1) : Calls Tryz.prog 20 #[.int .i64 k, dvV a v] w (RetDV w (isCD k a) (isKD k a)) := by
  obtain ⟨wz, hwz, Tz⟩ := two_allocD w a v
  have HB := Lib.hid (fun W (e : Ext w W) => dbody_any a v W (RdK.ext hv e) hs hg ht)
  have HCM := Lib.hid (fun (h0 : ckD a = 0) W (e : Ext w W) => cdev_any a v W (RdK.ext hv e) (by have := (ckD_ok h0).2.2.2.1; omega))
  have HV := Lib.hid (fun W (e : Ext w W) => (RdK.ext hv e : RdD W v a.defs))
  obtain ⟨A, n, cp, rfl, hn, -⟩ := hv.at_
  subst hn
  have TZ := Lib.hid Tz
  have HE := Lib.hid E
  clear hv hs hg ht Tz E
  unfold dvV dvCells
  go_enter Tryz.func20, Tryz.ntmps20
  go_upto_region 1 with fail
  rw [← hwz]
  clear hwz
  have HR0 := Lib.hid TZ.out.c.row
  go_wp2_with (refine wpList_load_row rfl 41 _ rfl (w.heap.size) rfl 41 (dvCells a (.slice A a.defs.length cp)).toArray (0, 0) _ HR0.out Tryz.underlying41 rfl info_dv ?_)
  refine (HB.out wz TZ.out.ext).mono ?_
  rintro e w1 ⟨A1, n1, c1, rfl, hn1, r1, b1⟩
  have T1 := Lib.hid (TZ.out.tr b1)
  have HRB := Lib.hid r1
  clear b1 TZ HR0 r1 hn1 HB
  have hlr := T1.out.r.lt
  have hlc := T1.out.c.lt
  have HZA := Lib.hid (kD_all zeroD (.slice none 0 0) rfl)
  by_cases hc : ckD a = 0
  case neg =>
    have HI := Lib.hid (show isCD k a = zeroD from if_neg (fun q => hc q.1))
    have HJ := Lib.hid (show isKD k a = ckD a from if_neg hc)
    have hb : (ckD a != 0) = true := by simpa using hc
    clear hc
    have HZ := Lib.hid T1.out.r.row
    go_wp2_with (refine wpRow_store rfl 41 _ _ rfl rfl (w.heap.size + 1) (dvCells zeroD (.slice none 0 0)).toArray rfl rfl 41 (dvCells zeroD (.slice none 0 0)).toArray HZ.out info_dv rfl HZA.out ?_)
    have HY := Lib.hid (row_at (cells := (dvCells zeroD (.slice none 0 0)).toArray) HZ.out)
    refine bodyPost_ret (v := .tuple #[.agg (dvCells zeroD (.slice none 0 0)).toArray, .int .i64 (ckD a)]) ?_ rfl ⟨none, 0, 0, by rw [HI.out, HJ.out]; rfl, by rw [HI.out]; exact OwnK.empty _ _ _ _ _, ext_setRow T1.out.ext (by omega) _⟩
    simp [results, Tryz.results20, asAddr, run_loadVar_row _ (w.heap.size + 1) 41 41 (dvCells zeroD (.slice none 0 0)).toArray (0, 0) _ HY.out Tryz.underlying41 rfl info_dv]
  have HK := Lib.hid hc
  have hlen := byD_len a
  have HBY := Lib.hid (show byD a = bodyDB a from if_pos hc)
  rw [hc]
  clear hc
  have HR1 := Lib.hid T1.out.c.row
  go_wp2_with (refine wpList_load_row rfl 41 _ rfl (w.heap.size) rfl 41 (dvCells a (.slice A a.defs.length cp)).toArray (0, 0) _ HR1.out Tryz.underlying41 rfl info_dv ?_)
  refine (HCM.out HK.out w1 T1.out.ext).mono ?_
  rintro e w2 ⟨A2, n2, c2, rfl, o2, b2⟩
  have T2 := Lib.hid (T1.out.tr b2)
  obtain ⟨wa, hwa, xa, ta⟩ := dv_alloc w2 a (.slice A2 n2 c2)
  have s12 := b2.size
  have hlr2 := T2.out.r.lt
  unfold dvCells
  go_upto_region 5 with fail
  rw [← hwa]
  clear hwa
  have T3 := Lib.hid (T2.out.tr xa)
  have TA := Lib.hid ta
  have RB := Lib.hid (HRB.out.ext (b2.tr xa))
  have O2 := Lib.hid o2
  have XA := Lib.hid xa
  clear xa ta b2 o2 HR1 T1 T2 HRB hlc
  go_wp2_with fail
  refine (sign_any k _ RB.out (by omega) (HE.out.below T3.out.ext)).mono ?_
  rintro e w3 ⟨rfl, b3⟩
  have T4 := Lib.hid (T3.out.tr b3)
  have TB := Lib.hid (TA.out.ext b3)
  have XB := Lib.hid (XA.out.tr b3)
  clear b3 T3 TA RB XA hlen
  unfold sgV
  rw [HBY.out]
  have c15 := TB.out.c15
  have c16 := TB.out.c16
  have f15 := TB.out.frozen 15
  have f16 := TB.out.frozen 16
  have hl8 := TB.out.lt
  have HZ4 := Lib.hid T4.out.r
  by_cases hk : sK k = 0
  case neg =>
    have HI := Lib.hid (show isCD k a = zeroD from if_neg (fun q => hk q.2))
    have HJ := Lib.hid (show isKD k a = sK k from if_pos HK.out)
    have hb : (sK k != 0) = true := by simpa using hk
    clear hk
    generalize sE k (bodyDB a) = es at *
    generalize sS k (bodyDB a) = ss at *
    have HZ := Lib.hid (((HZ4.out.other (b := w2.heap.size) (i := 15) (u := .int .i64 es) (by omega)).other (b := w2.heap.size) (i := 16) (u := .int .i64 ss) (by omega)).row)
    go_wp2_with (refine wpRow_store rfl 41 _ _ rfl rfl (w.heap.size + 1) (dvCells zeroD (.slice none 0 0)).toArray rfl rfl 41 (dvCells zeroD (.slice none 0 0)).toArray HZ.out info_dv rfl HZA.out ?_)
    have HY := Lib.hid (row_at (cells := (dvCells zeroD (.slice none 0 0)).toArray) HZ.out)
    refine bodyPost_ret (v := .tuple #[.agg (dvCells zeroD (.slice none 0 0)).toArray, .int .i64 (sK k)]) ?_ rfl ⟨none, 0, 0, by rw [HI.out, HJ.out]; rfl, by rw [HI.out]; exact OwnK.empty _ _ _ _ _, ext_setRow (ext_set (ext_set T4.out.ext (by omega)) (by omega)) (by omega) _⟩
    simp [results, Tryz.results20, asAddr, run_loadVar_row _ (w.heap.size + 1) 41 41 (dvCells zeroD (.slice none 0 0)).toArray (0, 0) _ HY.out Tryz.underlying41 rfl info_dv]
  have HI := Lib.hid (show isCD k a = updD a (sE k (bodyDB a)) (sS k (bodyDB a)) from if_pos ⟨HK.out, hk⟩)
  have HJ := Lib.hid (show isKD k a = 0 by unfold isKD; rw [if_pos HK.out, hk])
  rw [hk]
  clear hk
  generalize sE k (bodyDB a) = es at *
  generalize sS k (bodyDB a) = ss at *
  have HZ := Lib.hid (((HZ4.out.other (b := w2.heap.size) (i := 15) (u := .int .i64 es) (by omega)).other (b := w2.heap.size) (i := 16) (u := .int .i64 ss) (by omega)).row)
  have HS := Lib.hid ((TB.out.setSig es ss).row)
  have HNA := Lib.hid (kD_all (updD a es ss) (.slice A2 n2 c2) rfl)
  have OZ := Lib.hid (show OwnK ((w3.setCell ⟨w2.heap.size, 15, none⟩ (.int .i64 es)).setCell ⟨w2.heap.size, 16, none⟩ (.int .i64 ss)) w1.heap.size 65 5 (.slice A2 n2 c2) (dfsCells a.defs) from ((O2.out.ext XB.out).grown (Gb.set w2.heap.size 15 _ _) (.inr fun q => by have := rowOf_bd O2.out _ q; omega)).grown (Gb.set w2.heap.size 16 _ _) (.inr fun q => by have := rowOf_bd O2.out _ q; omega))
  go_wp2_with (first | (refine wpList_load_row rfl 41 _ rfl (w2.heap.size) rfl 41 (dvCells (updD a es ss) (.slice A2 n2 c2)).toArray (0, 0) _ HS.out Tryz.underlying41 rfl info_dv ?_) | (refine wpRow_store rfl 41 _ _ rfl rfl (w.heap.size + 1) (dvCells (updD a es ss) (.slice A2 n2 c2)).toArray rfl rfl 41 (dvCells zeroD (.slice none 0 0)).toArray HZ.out info_dv rfl HNA.out ?_))
  have HY := Lib.hid (row_at (cells := (dvCells (updD a es ss) (.slice A2 n2 c2)).toArray) HZ.out)
  refine bodyPost_ret (v := .tuple #[.agg (dvCells (updD a es ss) (.slice A2 n2 c2)).toArray, .int .i64 0]) ?_ rfl ⟨A2, n2, c2, by rw [HI.out, HJ.out]; rfl, by rw [HI.out]; exact (OZ.out.grown (Gb.setRow (w.heap.size + 1) _ _) (.inr fun q => by have := rowOf_geK O2.out _ q; omega)).mono (by omega), ext_setRow (ext_set (ext_set T4.out.ext (by omega)) (by omega)) (by omega) _⟩
  simp [results, Tryz.results20, asAddr, run_loadVar_row _ (w.heap.size + 1) 41 41 (dvCells (updD a es ss) (.slice A2 n2 c2)).toArray (0, 0) _ HY.out Tryz.underlying41 rfl info_dv]
set_option maxHeartbeats 8000000 in
theorem refdissue_any (k : Int) (a : DV) (v : Value) (w : World) (hv : RdD w v a.defs) (hs : smD a.defs) (hg : smN a.sg) (ht : a.st.length ≤ maxLen) (E : KTab w 0) : Calls Tryz.prog 21 #[.int .i64 k, dvV a v] w (RetDQ w v (isCD k a) (isKD k a)) := by
  obtain ⟨wz, hwz, Tz⟩ := two_allocD w a v
  have HB := Lib.hid (fun W (e : Ext w W) => refdbody_any a v W (RdK.ext hv e) hs hg ht)
  have HV := Lib.hid (fun W (e : Ext w W) => (RdK.ext hv e : RdD W v a.defs))
  obtain ⟨A, n, cp, rfl, hn, -⟩ := hv.at_
  subst hn
  have TZ := Lib.hid Tz
  have HE := Lib.hid E
  clear hv hs hg ht Tz E
  unfold dvV dvCells
  go_enter Tryz.func21, Tryz.ntmps21
  go_upto_region 1 with fail
  rw [← hwz]
  clear hwz
  have HR0 := Lib.hid TZ.out.c.row
  go_wp2_with (refine wpList_load_row rfl 41 _ rfl (w.heap.size) rfl 41 (dvCells a (.slice A a.defs.length cp)).toArray (0, 0) _ HR0.out Tryz.underlying41 rfl info_dv ?_)
  refine (HB.out wz TZ.out.ext).mono ?_
  rintro e w1 ⟨A1, n1, c1, rfl, hn1, r1, b1⟩
  have T1 := Lib.hid (TZ.out.tr b1)
  have HRB := Lib.hid r1
  clear b1 TZ HR0 r1 hn1 HB
  have hlr := T1.out.r.lt
  have hlc := T1.out.c.lt
  have HZA := Lib.hid (kD_all zeroD (.slice none 0 0) rfl)
  by_cases hc : ckD a = 0
  case neg =>
    have HI := Lib.hid (show isCD k a = zeroD from if_neg (fun q => hc q.1))
    have HJ := Lib.hid (show isKD k a = ckD a from if_neg hc)
    have hb : (ckD a != 0) = true := by simpa using hc
    clear hc
    have HZ := Lib.hid T1.out.r.row
    go_wp2_with (refine wpRow_store rfl 41 _ _ rfl rfl (w.heap.size + 1) (dvCells zeroD (.slice none 0 0)).toArray rfl rfl 41 (dvCells zeroD (.slice none 0 0)).toArray HZ.out info_dv rfl HZA.out ?_)
    have HY := Lib.hid (row_at (cells := (dvCells zeroD (.slice none 0 0)).toArray) HZ.out)
    refine bodyPost_ret (v := .tuple #[.agg (dvCells zeroD (.slice none 0 0)).toArray, .int .i64 (ckD a)]) ?_ rfl ⟨none, 0, 0, by rw [HI.out, HJ.out]; rfl, by rw [HI.out]; exact RdK.nil_ _ _ _, ext_setRow T1.out.ext (by omega) _, .inr rfl⟩
    simp [results, Tryz.results21, asAddr, run_loadVar_row _ (w.heap.size + 1) 41 41 (dvCells zeroD (.slice none 0 0)).toArray (0, 0) _ HY.out Tryz.underlying41 rfl info_dv]
  have HK := Lib.hid hc
  have hlen := byD_len a
  have HBY := Lib.hid (show byD a = bodyDB a from if_pos hc)
  rw [hc]
  clear hc
  go_wp2_with fail
  refine (refsign_any k _ HRB.out (by omega) (HE.out.below T1.out.ext)).mono ?_
  rintro e w2 ⟨rfl, b2⟩
  have T2 := Lib.hid (T1.out.tr b2)
  clear T1 hlr hlc b2
  unfold sgV
  rw [HBY.out]
  obtain ⟨es, hes⟩ : ∃ es, sE k (bodyDB a) = es := ⟨_, rfl⟩
  obtain ⟨ss, hss⟩ : ∃ ss, sS k (bodyDB a) = ss := ⟨_, rfl⟩
  rw [hes, hss]
  have HES := Lib.hid hes
  have HSS := Lib.hid hss
  clear hes hss
  obtain ⟨wa, hwa, sa⟩ := sg_alloc w2 es ss
  have T3 := Lib.hid (T2.out.tr sa.ext)
  have s0 := sa.c0
  have s1 := sa.c1
  have sl := sa.lt
  clear sa
  have HZ3 := Lib.hid T3.out.r
  by_cases hk : sK k = 0
  case neg =>
    have HI := Lib.hid (show isCD k a = zeroD from if_neg (fun q => hk q.2))
    have HJ := Lib.hid (show isKD k a = sK k from if_pos HK.out)
    have hb : (sK k != 0) = true := by simpa using hk
    clear hk
    have HZ := Lib.hid HZ3.out.row
    go_upto_region 5 with fail
    rw [← hwa]
    clear hwa
    go_wp2_with (refine wpRow_store rfl 41 _ _ rfl rfl (w.heap.size + 1) (dvCells zeroD (.slice none 0 0)).toArray rfl rfl 41 (dvCells zeroD (.slice none 0 0)).toArray HZ.out info_dv rfl HZA.out ?_)
    have HY := Lib.hid (row_at (cells := (dvCells zeroD (.slice none 0 0)).toArray) HZ.out)
    refine bodyPost_ret (v := .tuple #[.agg (dvCells zeroD (.slice none 0 0)).toArray, .int .i64 (sK k)]) ?_ rfl ⟨none, 0, 0, by rw [HI.out, HJ.out]; rfl, by rw [HI.out]; exact RdK.nil_ _ _ _, ext_setRow T3.out.ext (by omega) _, .inr rfl⟩
    simp [results, Tryz.results21, asAddr, run_loadVar_row _ (w.heap.size + 1) 41 41 (dvCells zeroD (.slice none 0 0)).toArray (0, 0) _ HY.out Tryz.underlying41 rfl info_dv]
  have HI := Lib.hid (show isCD k a = updD a es ss by rw [← HES.out, ← HSS.out]; exact if_pos ⟨HK.out, hk⟩)
  have HJ := Lib.hid (show isKD k a = 0 by unfold isKD; rw [if_pos HK.out, hk])
  rw [hk]
  clear hk
  go_upto_region 5 with fail
  rw [← hwa]
  clear hwa
  have f15 := T3.out.c.frozen 15
  have f16 := T3.out.c.frozen 16
  have c15 := T3.out.c.c15
  have c16 := T3.out.c.c16
  have hl0 := T3.out.c.lt
  have HZ := Lib.hid (((HZ3.out.other (b := w.heap.size) (i := 15) (u := .int .i64 es) (by omega)).other (b := w.heap.size) (i := 16) (u := .int .i64 ss) (by omega)).row)
  have HS := Lib.hid ((T3.out.c.setSig es ss).row)
  have HNA := Lib.hid (kD_all (updD a es ss) (.slice A a.defs.length cp) rfl)
  go_wp2_with (first | (refine wpList_load_row rfl 41 _ rfl (w.heap.size) rfl 41 (dvCells (updD a es ss) (.slice A a.defs.length cp)).toArray (0, 0) _ HS.out Tryz.underlying41 rfl info_dv ?_) | (refine wpRow_store rfl 41 _ _ rfl rfl (w.heap.size + 1) (dvCells (updD a es ss) (.slice A a.defs.length cp)).toArray rfl rfl 41 (dvCells zeroD (.slice none 0 0)).toArray HZ.out info_dv rfl HNA.out ?_))
  have HY := Lib.hid (row_at (cells := (dvCells (updD a es ss) (.slice A a.defs.length cp)).toArray) HZ.out)
  have XZ := Lib.hid (ext_setRow (g := w.heap.size + 1) (ext_set (i := 16) (v := .int .i64 ss) (ext_set (i := 15) (v := .int .i64 es) T3.out.ext (Nat.le_refl _)) (Nat.le_refl _)) (Nat.le_succ _) (dvCells (updD a es ss) (.slice A a.defs.length cp)).toArray)
  refine bodyPost_ret (v := .tuple #[.agg (dvCells (updD a es ss) (.slice A a.defs.length cp)).toArray, .int .i64 0]) ?_ rfl ⟨A, _, cp, by rw [HI.out, HJ.out]; rfl, by rw [HI.out]; exact HV.out _ XZ.out, XZ.out, .inl rfl⟩
  simp [results, Tryz.results21, asAddr, run_loadVar_row _ (w.heap.size + 1) 41 41 (dvCells (updD a es ss) (.slice A a.defs.length cp)).toArray (0, 0) _ HY.out Tryz.underlying41 rfl info_dv]
end Go.Proofs.YtmmoenkmicimcaaGreatDoor
namespace Go.Proofs.YtmmoenkmicimcaaGreatDoor
open Go.RowKit
set_option linter.unusedVariables false
set_option maxRecDepth 100000
theorem elemXR : ElemK Tryz.prog 28 88 8 88 := by
  have h : (Tryz.prog.info? 88).map (fun i => (i.zero, i.size, i.bytes)) = some (some (.agg #[.string ⟨#[]⟩, .int .i64 0, .int .i64 0, .int .i64 0, .slice none 0 0, .int .i64 0, .int .i64 0, .int .i64 0]), 8, 88) := by kernel_rfl
  obtain ⟨i, h1, h2, h3, h4⟩ := info_parts h
  exact ⟨i, _, Tryz.underlying28, h1, h2, h3, h4, rfl⟩
theorem oneR_any (t : RV) (u : Value) (W : World) (hu : RdK W 1 u (intsV t.ser)) (hl : t.ser.length ≤ 1000000) : Calls Tryz.prog 76 #[.agg (rvCells t u).toArray] W fun e W' => ∃ A1 n1 c1, e = .returned (.agg (rvCells t (.slice A1 n1 c1)).toArray) ∧ OwnK W' W.heap.size 3 1 (.slice A1 n1 c1) (intsV t.ser) ∧ Ext W W' :=
  (crev_any t u W (RdK.r1 hu) hl).mono fun e W' ⟨A1, n1, c1, h1, h2, h3⟩ => ⟨A1, n1, c1, h1, h2.k1, h3⟩
theorem litR (w : World) (t : RV) (u : Value) : RdK (w.alloc (.cells (rvCells t u).toArray 88)) 8 (.slice (some ⟨w.heap.size, 0, none⟩) 1 1) (rvCells t u) := by
  have := RdK.lit w 8 (rvCells t u).toArray 88 1 rfl (by unfold maxLen; omega)
  simpa using this
set_option maxHeartbeats 4000000 in
theorem eachR_any {v : Value} {l : List RV} (w : World) (hv : RdX kR w v l) (hl : l.length ≤ 100000) (hs : ∀ a ∈ l, a.ser.length ≤ 1000000) :
    Calls Tryz.prog 75 #[v, .func (.func 76) #[] #[]] w fun e w' => ∃ A c, e = .returned (.slice A l.length c) ∧ OwnX kR w' w.heap.size (.slice A l.length c) l ∧ Ext w w' := by
  obtain ⟨A, n, c, rfl, hn, hnc, hcm, hel⟩ := hv.at_
  subst hn
  unfold maxLen at hcm
  have HEL := Lib.hid hel
  have HSL := Lib.hid hs
  have HON := Lib.hid oneR_any
  clear hel hs hv
  go_enter Tryz.func75, Tryz.ntmps75
  go_wp2_with fail
  go_loopw [5, 10] (fun out i wr => ∃ (k : Nat) (Ao : Option Addr) (co : Nat) (ps : List (RV × Value)), k ≤ l.length ∧ i = .int .i64 (k : Int) ∧ out = .slice Ao k co ∧ Hid (ps.map Prod.fst = l.take k) ∧ Hid (OwnP kR wr w.heap.size (.slice Ao k co) ps) ∧ Hid (Ext w wr)) (fun _ i _ => l.length - (intOf i).toNat)
  case atStart => exact ⟨0, none, 0, [], Nat.zero_le _, rfl, rfl, Lib.hid rfl, Lib.hid (OwnP.empty _ _ _ _), Lib.hid (Below.refl _ _)⟩
  case round =>
    obtain ⟨k, Ao, co, ps, hk, rfl, rfl, HP, HO, X⟩ := hrel
    by_cases hlt : k < l.length
    case neg =>
      obtain rfl : k = l.length := by omega
      have HR : Hid (OwnX kR wr w.heap.size (.slice Ao l.length co) l) := Lib.hid ⟨ps, by rw [HP.out, List.take_length], HO.out⟩
      clear HP HO
      go_wp2_with fail
      go_ret
      exact ⟨_, _, rfl, HR.out, X.out⟩
    case pos =>
    obtain ⟨t, ht⟩ : ∃ t, l[k]? = some t := ⟨_, List.getElem?_eq_getElem hlt⟩
    obtain ⟨b, o, rfl, hbl, u, hcell, hu⟩ := HEL.out k t ht
    have HT := Lib.hid ht
    obtain ⟨Au, nu, cu, rfl, -⟩ := id hu
    have HU0 := Lib.hid (RdK.ext hu X.out)
    have HLT := Lib.hid (HSL.out t (List.mem_of_getElem? ht))
    clear ht hu
    have wi1 : IntKind.i64.wrap ((k : Int)) = (k : Int) := IntWalk.i64_in _ (by omega)
    have zi1 : (0 : Int) ≤ (k : Int) := by omega
    have li1 : (k : Int) < (l.length : Int) := by omega
    have ti1 : ((k : Int)).toNat = k := by omega
    have wk : IntKind.i64.wrap ((k : Int) + 1) = (k : Int) + 1 := IntWalk.i64_in _ (by omega)
    have l0 : wr.cell? ⟨b, o + k * 8, none⟩ = some (.string (bstr t.st)) := by
      have := (X.out.cell (p := ⟨b, o + (k * 8 + 0), none⟩) hbl).trans (hcell 0 _ rfl)
      exact this
    have l1 : wr.cell? ⟨b, o + k * 8 + 1, none⟩ = some (.int .i64 t.num) := by
      have := (X.out.cell (p := ⟨b, o + (k * 8 + 1), none⟩) hbl).trans (hcell 1 _ rfl)
      rwa [← Nat.add_assoc] at this
    have l2 : wr.cell? ⟨b, o + k * 8 + 2, none⟩ = some (.int .i64 t.day) := by
      have := (X.out.cell (p := ⟨b, o + (k * 8 + 2), none⟩) hbl).trans (hcell 2 _ rfl)
      rwa [← Nat.add_assoc] at this
    have l3 : wr.cell? ⟨b, o + k * 8 + 3, none⟩ = some (.int .i64 t.nxt) := by
      have := (X.out.cell (p := ⟨b, o + (k * 8 + 3), none⟩) hbl).trans (hcell 3 _ rfl)
      rwa [← Nat.add_assoc] at this
    have l4 : wr.cell? ⟨b, o + k * 8 + 4, none⟩ = some (.slice Au nu cu) := by
      have := (X.out.cell (p := ⟨b, o + (k * 8 + 4), none⟩) hbl).trans (hcell 4 _ rfl)
      rwa [← Nat.add_assoc] at this
    have l5 : wr.cell? ⟨b, o + k * 8 + 5, none⟩ = some (.int .i64 t.iss) := by
      have := (X.out.cell (p := ⟨b, o + (k * 8 + 5), none⟩) hbl).trans (hcell 5 _ rfl)
      rwa [← Nat.add_assoc] at this
    have l6 : wr.cell? ⟨b, o + k * 8 + 6, none⟩ = some (.int .i64 t.e) := by
      have := (X.out.cell (p := ⟨b, o + (k * 8 + 6), none⟩) hbl).trans (hcell 6 _ rfl)
      rwa [← Nat.add_assoc] at this
    have l7 : wr.cell? ⟨b, o + k * 8 + 7, none⟩ = some (.int .i64 t.s) := by
      have := (X.out.cell (p := ⟨b, o + (k * 8 + 7), none⟩) hbl).trans (hcell 7 _ rfl)
      rwa [← Nat.add_assoc] at this
    clear hcell
    obtain ⟨wn, hwn⟩ : ∃ wn, wn = wr.alloc (.cells #[.string (bstr t.st), .int .i64 t.num, .int .i64 t.day, .int .i64 t.nxt, .slice Au nu cu, .int .i64 t.iss, .int .i64 t.e, .int .i64 t.s] 88) := ⟨_, rfl⟩
    have en : Ext wr wn := by rw [hwn]; exact (Below.refl _ _).alloc (Nat.le_refl _) _
    have bn : wn.heap[wr.heap.size]? = some (.cells (rvCells t (.slice Au nu cu)).toArray 88 (0, 0)) := by rw [hwn]; exact heap_alloc_new' wr _
    have HBN := Lib.hid bn
    have HU := Lib.hid (RdK.ext HU0.out en)
    have HON2 := Lib.hid (HO.out.ext en)
    have XN := Lib.hid (X.out.tr en)
    go_upto_region 5 with fail
    rw [← hwn]
    clear hwn l0 l1 l2 l3 l4 l5 l6 l7 HU0 HO X en bn
    unfold rvCells at HBN
    go_wp2_with (refine wpList_load_row rfl 88 _ rfl wr.heap.size rfl 88 #[.string (bstr t.st), .int .i64 t.num, .int .i64 t.day, .int .i64 t.nxt, .slice Au nu cu, .int .i64 t.iss, .int .i64 t.e, .int .i64 t.s] (0, 0) _ HBN.out Tryz.underlying88 rfl info_rv ?_)
    refine (HON.out t (.slice Au nu cu) wn HU.out HLT.out).mono ?_
    rintro e w2 ⟨A1, n1, c1, rfl, o1, b2⟩
    unfold rvCells
    have HO2 := Lib.hid (HON2.out.ext b2)
    have X2 := Lib.hid (XN.out.tr b2)
    have HI2 := Lib.hid (o1.mono XN.out.size)
    clear b2 o1 HU HON2 XN HBN
    have eA : Ext w2 (w2.alloc (.cells (rvCells t (.slice A1 n1 c1)).toArray 88)) := (Below.refl _ _).alloc (Nat.le_refl _) _
    have HO3 := Lib.hid (HO2.out.ext eA)
    have HI3 := Lib.hid (HI2.out.ext eA)
    have X3 := Lib.hid (X2.out.tr eA)
    have HRK := Lib.hid (litR w2 t (.slice A1 n1 c1))
    have HPL := Lib.hid (show k * 8 = (kR.cells ps).length by
      have h1 := congrArg List.length HP.out
      rw [List.length_map, List.length_take, Nat.min_eq_left (Nat.le_of_lt hlt)] at h1
      rw [kR.cells_len, h1]; rfl)
    have HONE := Lib.hid (kR.one t (.slice A1 n1 c1) rfl)
    unfold rvCells at HRK HO3 HI3 X3
    clear eA
    go_wp2_with (refine wpList_appK (k := 8) (by decide) elemXR (n := k) (m := 1) (B := w.heap.size) HO3.out.1 HPL.out HRK.out (by rfl) HONE.out X3.out (by omega) (by unfold maxLen; omega) X3.out.size rfl rfl rfl rfl ?_; intro A8 n8 c8 w8 hn8 o8 x8 g8)
    obtain rfl : n8 = k + 1 := hn8.out
    have HO8 := Lib.hid (show OwnP kR w8 w.heap.size (.slice A8 (k + 1) c8) (ps ++ [(t, .slice A1 n1 c1)]) from HO3.out.app HI3.out o8 g8)
    have HP8 := Lib.hid (show (ps ++ [(t, Value.slice A1 n1 c1)]).map Prod.fst = l.take (k + 1) by rw [List.map_append, HP.out, List.take_succ_eq_append_getElem hlt]; have := HT.out; rw [List.getElem?_eq_getElem hlt] at this; rw [Option.some.inj this]; rfl)
    have X8 := Lib.hid x8
    clear x8 o8 g8
    go_roundw
    case rel => exact ⟨k + 1, A8, c8, _, by omega, by go_num, rfl, HP8, HO8, X8⟩
    case measure => simp [intOf]; omega
theorem elemXM : ElemK Tryz.prog 27 86 17 168 := by
  have h : (Tryz.prog.info? 86).map (fun i => (i.zero, i.size, i.bytes)) = some (some (.agg #[.string ⟨#[]⟩, .int .i64 0, .int .i64 0, .slice none 0 0, .string ⟨#[]⟩, .int .i64 0, .int .i64 0, .int .i64 0, .int .i64 0, .int .i64 0, .int .i64 0, .int .i64 0, .int .i64 0, .int .i64 0, .int .i64 0, .int .i64 0, .int .i64 0]), 17, 168) := by kernel_rfl
  obtain ⟨i, h1, h2, h3, h4⟩ := info_parts h
  exact ⟨i, _, Tryz.underlying27, h1, h2, h3, h4, rfl⟩
theorem oneM_any (t : MA) (u : Value) (W : World) (hu : RdK W 11 u (ncsCells t.roots)) (hl : t.roots.length ≤ 1000000) : Calls Tryz.prog 74 #[.agg (maCells t u).toArray] W fun e W' => ∃ A1 n1 c1, e = .returned (.agg (maCells t (.slice A1 n1 c1)).toArray) ∧ OwnK W' W.heap.size 39 11 (.slice A1 n1 c1) (ncsCells t.roots) ∧ Ext W W' :=
  cmaster_any t u W hu hl
theorem litM (w : World) (t : MA) (u : Value) : RdK (w.alloc (.cells (maCells t u).toArray 86)) 17 (.slice (some ⟨w.heap.size, 0, none⟩) 1 1) (maCells t u) := by
  have := RdK.lit w 17 (maCells t u).toArray 86 1 rfl (by unfold maxLen; omega)
  simpa using this
set_option maxHeartbeats 4000000 in
theorem eachM_any {v : Value} {l : List MA} (w : World) (hv : RdX kM w v l) (hl : l.length ≤ 100000) (hs : ∀ a ∈ l, a.roots.length ≤ 1000000) :
    Calls Tryz.prog 73 #[v, .func (.func 74) #[] #[]] w fun e w' => ∃ A c, e = .returned (.slice A l.length c) ∧ OwnX kM w' w.heap.size (.slice A l.length c) l ∧ Ext w w' := by
  obtain ⟨A, n, c, rfl, hn, hnc, hcm, hel⟩ := hv.at_
  subst hn
  unfold maxLen at hcm
  have HEL := Lib.hid hel
  have HSL := Lib.hid hs
  have HON := Lib.hid oneM_any
  clear hel hs hv
  go_enter Tryz.func73, Tryz.ntmps73
  go_wp2_with fail
  go_loopw [5, 10] (fun out i wr => ∃ (k : Nat) (Ao : Option Addr) (co : Nat) (ps : List (MA × Value)), k ≤ l.length ∧ i = .int .i64 (k : Int) ∧ out = .slice Ao k co ∧ Hid (ps.map Prod.fst = l.take k) ∧ Hid (OwnP kM wr w.heap.size (.slice Ao k co) ps) ∧ Hid (Ext w wr)) (fun _ i _ => l.length - (intOf i).toNat)
  case atStart => exact ⟨0, none, 0, [], Nat.zero_le _, rfl, rfl, Lib.hid rfl, Lib.hid (OwnP.empty _ _ _ _), Lib.hid (Below.refl _ _)⟩
  case round =>
    obtain ⟨k, Ao, co, ps, hk, rfl, rfl, HP, HO, X⟩ := hrel
    by_cases hlt : k < l.length
    case neg =>
      obtain rfl : k = l.length := by omega
      have HR : Hid (OwnX kM wr w.heap.size (.slice Ao l.length co) l) := Lib.hid ⟨ps, by rw [HP.out, List.take_length], HO.out⟩
      clear HP HO
      go_wp2_with fail
      go_ret
      exact ⟨_, _, rfl, HR.out, X.out⟩
    case pos =>
    obtain ⟨t, ht⟩ : ∃ t, l[k]? = some t := ⟨_, List.getElem?_eq_getElem hlt⟩
    obtain ⟨b, o, rfl, hbl, u, hcell, hu⟩ := HEL.out k t ht
    have HT := Lib.hid ht
    obtain ⟨Au, nu, cu, rfl, -⟩ := id hu
    have HU0 := Lib.hid (RdK.ext hu X.out)
    have HLT := Lib.hid (HSL.out t (List.mem_of_getElem? ht))
    clear ht hu
    have wi2 : IntKind.i64.wrap ((k : Int)) = (k : Int) := IntWalk.i64_in _ (by omega)
    have zi2 : (0 : Int) ≤ (k : Int) := by omega
    have li2 : (k : Int) < (l.length : Int) := by omega
    have ti2 : ((k : Int)).toNat = k := by omega
    have wk : IntKind.i64.wrap ((k : Int) + 1) = (k : Int) + 1 := IntWalk.i64_in _ (by omega)
    have l0 : wr.cell? ⟨b, o + k * 17, none⟩ = some (.string (bstr t.st)) := by
      have := (X.out.cell (p := ⟨b, o + (k * 17 + 0), none⟩) hbl).trans (hcell 0 _ rfl)
      exact this
    have l1 : wr.cell? ⟨b, o + k * 17 + 1, none⟩ = some (.int .i64 t.num) := by
      have := (X.out.cell (p := ⟨b, o + (k * 17 + 1), none⟩) hbl).trans (hcell 1 _ rfl)
      rwa [← Nat.add_assoc] at this
    have l2 : wr.cell? ⟨b, o + k * 17 + 2, none⟩ = some (.int .i64 t.day) := by
      have := (X.out.cell (p := ⟨b, o + (k * 17 + 2), none⟩) hbl).trans (hcell 2 _ rfl)
      rwa [← Nat.add_assoc] at this
    have l3 : wr.cell? ⟨b, o + k * 17 + 3, none⟩ = some (.slice Au nu cu) := by
      have := (X.out.cell (p := ⟨b, o + (k * 17 + 3), none⟩) hbl).trans (hcell 3 _ rfl)
      rwa [← Nat.add_assoc] at this
    have l4 : wr.cell? ⟨b, o + k * 17 + 4, none⟩ = some (.string (bstr t.sg.st)) := by
      have := (X.out.cell (p := ⟨b, o + (k * 17 + 4), none⟩) hbl).trans (hcell 4 _ rfl)
      rwa [← Nat.add_assoc] at this
    have l5 : wr.cell? ⟨b, o + k * 17 + 5, none⟩ = some (.int .i64 t.sg.kind) := by
      have := (X.out.cell (p := ⟨b, o + (k * 17 + 5), none⟩) hbl).trans (hcell 5 _ rfl)
      rwa [← Nat.add_assoc] at this
    have l6 : wr.cell? ⟨b, o + k * 17 + 6, none⟩ = some (.int .i64 t.sg.num) := by
      have := (X.out.cell (p := ⟨b, o + (k * 17 + 6), none⟩) hbl).trans (hcell 6 _ rfl)
      rwa [← Nat.add_assoc] at this
    have l7 : wr.cell? ⟨b, o + k * 17 + 7, none⟩ = some (.int .i64 t.sg.iss) := by
      have := (X.out.cell (p := ⟨b, o + (k * 17 + 7), none⟩) hbl).trans (hcell 7 _ rfl)
      rwa [← Nat.add_assoc] at this
    have l8 : wr.cell? ⟨b, o + k * 17 + 8, none⟩ = some (.int .i64 t.sg.own) := by
      have := (X.out.cell (p := ⟨b, o + (k * 17 + 8), none⟩) hbl).trans (hcell 8 _ rfl)
      rwa [← Nat.add_assoc] at this
    have l9 : wr.cell? ⟨b, o + k * 17 + 9, none⟩ = some (.int .i64 t.sg.key) := by
      have := (X.out.cell (p := ⟨b, o + (k * 17 + 9), none⟩) hbl).trans (hcell 9 _ rfl)
      rwa [← Nat.add_assoc] at this
    have l10 : wr.cell? ⟨b, o + k * 17 + 10, none⟩ = some (.int .i64 t.sg.fr) := by
      have := (X.out.cell (p := ⟨b, o + (k * 17 + 10), none⟩) hbl).trans (hcell 10 _ rfl)
      rwa [← Nat.add_assoc] at this
    have l11 : wr.cell? ⟨b, o + k * 17 + 11, none⟩ = some (.int .i64 t.sg.un) := by
      have := (X.out.cell (p := ⟨b, o + (k * 17 + 11), none⟩) hbl).trans (hcell 11 _ rfl)
      rwa [← Nat.add_assoc] at this
    have l12 : wr.cell? ⟨b, o + k * 17 + 12, none⟩ = some (.int .i64 t.sg.to) := by
      have := (X.out.cell (p := ⟨b, o + (k * 17 + 12), none⟩) hbl).trans (hcell 12 _ rfl)
      rwa [← Nat.add_assoc] at this
    have l13 : wr.cell? ⟨b, o + k * 17 + 13, none⟩ = some (.int .i64 t.sg.e) := by
      have := (X.out.cell (p := ⟨b, o + (k * 17 + 13), none⟩) hbl).trans (hcell 13 _ rfl)
      rwa [← Nat.add_assoc] at this
    have l14 : wr.cell? ⟨b, o + k * 17 + 14, none⟩ = some (.int .i64 t.sg.s) := by
      have := (X.out.cell (p := ⟨b, o + (k * 17 + 14), none⟩) hbl).trans (hcell 14 _ rfl)
      rwa [← Nat.add_assoc] at this
    have l15 : wr.cell? ⟨b, o + k * 17 + 15, none⟩ = some (.int .i64 t.e) := by
      have := (X.out.cell (p := ⟨b, o + (k * 17 + 15), none⟩) hbl).trans (hcell 15 _ rfl)
      rwa [← Nat.add_assoc] at this
    have l16 : wr.cell? ⟨b, o + k * 17 + 16, none⟩ = some (.int .i64 t.s) := by
      have := (X.out.cell (p := ⟨b, o + (k * 17 + 16), none⟩) hbl).trans (hcell 16 _ rfl)
      rwa [← Nat.add_assoc] at this
    clear hcell
    obtain ⟨wn, hwn⟩ : ∃ wn, wn = wr.alloc (.cells #[.string (bstr t.st), .int .i64 t.num, .int .i64 t.day, .slice Au nu cu, .string (bstr t.sg.st), .int .i64 t.sg.kind, .int .i64 t.sg.num, .int .i64 t.sg.iss, .int .i64 t.sg.own, .int .i64 t.sg.key, .int .i64 t.sg.fr, .int .i64 t.sg.un, .int .i64 t.sg.to, .int .i64 t.sg.e, .int .i64 t.sg.s, .int .i64 t.e, .int .i64 t.s] 86) := ⟨_, rfl⟩
    have en : Ext wr wn := by rw [hwn]; exact (Below.refl _ _).alloc (Nat.le_refl _) _
    have bn : wn.heap[wr.heap.size]? = some (.cells (maCells t (.slice Au nu cu)).toArray 86 (0, 0)) := by rw [hwn]; exact heap_alloc_new' wr _
    have HBN := Lib.hid bn
    have HU := Lib.hid (RdK.ext HU0.out en)
    have HON2 := Lib.hid (HO.out.ext en)
    have XN := Lib.hid (X.out.tr en)
    go_upto_region 5 with fail
    rw [← hwn]
    clear hwn l0 l1 l2 l3 l4 l5 l6 l7 l8 l9 l10 l11 l12 l13 l14 l15 l16 HU0 HO X en bn
    unfold maCells at HBN
    go_wp2_with (refine wpList_load_row rfl 86 _ rfl wr.heap.size rfl 86 #[.string (bstr t.st), .int .i64 t.num, .int .i64 t.day, .slice Au nu cu, .string (bstr t.sg.st), .int .i64 t.sg.kind, .int .i64 t.sg.num, .int .i64 t.sg.iss, .int .i64 t.sg.own, .int .i64 t.sg.key, .int .i64 t.sg.fr, .int .i64 t.sg.un, .int .i64 t.sg.to, .int .i64 t.sg.e, .int .i64 t.sg.s, .int .i64 t.e, .int .i64 t.s] (0, 0) _ HBN.out Tryz.underlying86 rfl info_ma ?_)
    refine (HON.out t (.slice Au nu cu) wn HU.out HLT.out).mono ?_
    rintro e w2 ⟨A1, n1, c1, rfl, o1, b2⟩
    unfold maCells
    have HO2 := Lib.hid (HON2.out.ext b2)
    have X2 := Lib.hid (XN.out.tr b2)
    have HI2 := Lib.hid (o1.mono XN.out.size)
    clear b2 o1 HU HON2 XN HBN
    have eA : Ext w2 (w2.alloc (.cells (maCells t (.slice A1 n1 c1)).toArray 86)) := (Below.refl _ _).alloc (Nat.le_refl _) _
    have HO3 := Lib.hid (HO2.out.ext eA)
    have HI3 := Lib.hid (HI2.out.ext eA)
    have X3 := Lib.hid (X2.out.tr eA)
    have HRK := Lib.hid (litM w2 t (.slice A1 n1 c1))
    have HPL := Lib.hid (show k * 17 = (kM.cells ps).length by
      have h1 := congrArg List.length HP.out
      rw [List.length_map, List.length_take, Nat.min_eq_left (Nat.le_of_lt hlt)] at h1
      rw [kM.cells_len, h1]; rfl)
    have HONE := Lib.hid (kM.one t (.slice A1 n1 c1) rfl)
    unfold maCells at HRK HO3 HI3 X3
    clear eA
    go_wp2_with (refine wpList_appK (k := 17) (by decide) elemXM (n := k) (m := 1) (B := w.heap.size) HO3.out.1 HPL.out HRK.out (by rfl) HONE.out X3.out (by omega) (by unfold maxLen; omega) X3.out.size rfl rfl rfl rfl ?_; intro A8 n8 c8 w8 hn8 o8 x8 g8)
    obtain rfl : n8 = k + 1 := hn8.out
    have HO8 := Lib.hid (show OwnP kM w8 w.heap.size (.slice A8 (k + 1) c8) (ps ++ [(t, .slice A1 n1 c1)]) from HO3.out.app HI3.out o8 g8)
    have HP8 := Lib.hid (show (ps ++ [(t, Value.slice A1 n1 c1)]).map Prod.fst = l.take (k + 1) by rw [List.map_append, HP.out, List.take_succ_eq_append_getElem hlt]; have := HT.out; rw [List.getElem?_eq_getElem hlt] at this; rw [Option.some.inj this]; rfl)
    have X8 := Lib.hid x8
    clear x8 o8 g8
    go_roundw
    case rel => exact ⟨k + 1, A8, c8, _, by omega, by go_num, rfl, HP8, HO8, X8⟩
    case measure => simp [intOf]; omega
theorem elemXD : ElemK Tryz.prog 29 41 17 168 := by
  have h : (Tryz.prog.info? 41).map (fun i => (i.zero, i.size, i.bytes)) = some (some (.agg #[.string ⟨#[]⟩, .int .i64 0, .int .i64 0, .slice none 0 0, .string ⟨#[]⟩, .int .i64 0, .int .i64 0, .int .i64 0, .int .i64 0, .int .i64 0, .int .i64 0, .int .i64 0, .int .i64 0, .int .i64 0, .int .i64 0, .int .i64 0, .int .i64 0]), 17, 168) := by kernel_rfl
  obtain ⟨i, h1, h2, h3, h4⟩ := info_parts h
  exact ⟨i, _, Tryz.underlying29, h1, h2, h3, h4, rfl⟩
theorem oneD_any (t : DV) (u : Value) (W : World) (hu : RdK W 5 u (dfsCells t.defs)) (hl : t.defs.length ≤ 1000000) : Calls Tryz.prog 38 #[.agg (dvCells t u).toArray] W fun e W' => ∃ A1 n1 c1, e = .returned (.agg (dvCells t (.slice A1 n1 c1)).toArray) ∧ OwnK W' W.heap.size 65 5 (.slice A1 n1 c1) (dfsCells t.defs) ∧ Ext W W' :=
  cdev_any t u W hu hl
theorem litD (w : World) (t : DV) (u : Value) : RdK (w.alloc (.cells (dvCells t u).toArray 41)) 17 (.slice (some ⟨w.heap.size, 0, none⟩) 1 1) (dvCells t u) := by
  have := RdK.lit w 17 (dvCells t u).toArray 41 1 rfl (by unfold maxLen; omega)
  simpa using this
set_option maxHeartbeats 4000000 in
theorem eachD_any {v : Value} {l : List DV} (w : World) (hv : RdX kD w v l) (hl : l.length ≤ 100000) (hs : ∀ a ∈ l, a.defs.length ≤ 1000000) :
    Calls Tryz.prog 77 #[v, .func (.func 38) #[] #[]] w fun e w' => ∃ A c, e = .returned (.slice A l.length c) ∧ OwnX kD w' w.heap.size (.slice A l.length c) l ∧ Ext w w' := by
  obtain ⟨A, n, c, rfl, hn, hnc, hcm, hel⟩ := hv.at_
  subst hn
  unfold maxLen at hcm
  have HEL := Lib.hid hel
  have HSL := Lib.hid hs
  have HON := Lib.hid oneD_any
  clear hel hs hv
  go_enter Tryz.func77, Tryz.ntmps77
  go_wp2_with fail
  go_loopw [5, 10] (fun out i wr => ∃ (k : Nat) (Ao : Option Addr) (co : Nat) (ps : List (DV × Value)), k ≤ l.length ∧ i = .int .i64 (k : Int) ∧ out = .slice Ao k co ∧ Hid (ps.map Prod.fst = l.take k) ∧ Hid (OwnP kD wr w.heap.size (.slice Ao k co) ps) ∧ Hid (Ext w wr)) (fun _ i _ => l.length - (intOf i).toNat)
  case atStart => exact ⟨0, none, 0, [], Nat.zero_le _, rfl, rfl, Lib.hid rfl, Lib.hid (OwnP.empty _ _ _ _), Lib.hid (Below.refl _ _)⟩
  case round =>
    obtain ⟨k, Ao, co, ps, hk, rfl, rfl, HP, HO, X⟩ := hrel
    by_cases hlt : k < l.length
    case neg =>
      obtain rfl : k = l.length := by omega
      have HR : Hid (OwnX kD wr w.heap.size (.slice Ao l.length co) l) := Lib.hid ⟨ps, by rw [HP.out, List.take_length], HO.out⟩
      clear HP HO
      go_wp2_with fail
      go_ret
      exact ⟨_, _, rfl, HR.out, X.out⟩
    case pos =>
    obtain ⟨t, ht⟩ : ∃ t, l[k]? = some t := ⟨_, List.getElem?_eq_getElem hlt⟩
    obtain ⟨b, o, rfl, hbl, u, hcell, hu⟩ := HEL.out k t ht
    have HT := Lib.hid ht
    obtain ⟨Au, nu, cu, rfl, -⟩ := id hu
    have HU0 := Lib.hid (RdK.ext hu X.out)
    have HLT := Lib.hid (HSL.out t (List.mem_of_getElem? ht))
    clear ht hu
    have wi3 : IntKind.i64.wrap ((k : Int)) = (k : Int) := IntWalk.i64_in _ (by omega)
    have zi3 : (0 : Int) ≤ (k : Int) := by omega
    have li3 : (k : Int) < (l.length : Int) := by omega
    have ti3 : ((k : Int)).toNat = k := by omega
    have wk : IntKind.i64.wrap ((k : Int) + 1) = (k : Int) + 1 := IntWalk.i64_in _ (by omega)
    have l0 : wr.cell? ⟨b, o + k * 17, none⟩ = some (.string (bstr t.st)) := by
      have := (X.out.cell (p := ⟨b, o + (k * 17 + 0), none⟩) hbl).trans (hcell 0 _ rfl)
      exact this
    have l1 : wr.cell? ⟨b, o + k * 17 + 1, none⟩ = some (.int .i64 t.num) := by
      have := (X.out.cell (p := ⟨b, o + (k * 17 + 1), none⟩) hbl).trans (hcell 1 _ rfl)
      rwa [← Nat.add_assoc] at this
    have l2 : wr.cell? ⟨b, o + k * 17 + 2, none⟩ = some (.int .i64 t.day) := by
      have := (X.out.cell (p := ⟨b, o + (k * 17 + 2), none⟩) hbl).trans (hcell 2 _ rfl)
      rwa [← Nat.add_assoc] at this
    have l3 : wr.cell? ⟨b, o + k * 17 + 3, none⟩ = some (.slice Au nu cu) := by
      have := (X.out.cell (p := ⟨b, o + (k * 17 + 3), none⟩) hbl).trans (hcell 3 _ rfl)
      rwa [← Nat.add_assoc] at this
    have l4 : wr.cell? ⟨b, o + k * 17 + 4, none⟩ = some (.string (bstr t.sg.st)) := by
      have := (X.out.cell (p := ⟨b, o + (k * 17 + 4), none⟩) hbl).trans (hcell 4 _ rfl)
      rwa [← Nat.add_assoc] at this
    have l5 : wr.cell? ⟨b, o + k * 17 + 5, none⟩ = some (.int .i64 t.sg.kind) := by
      have := (X.out.cell (p := ⟨b, o + (k * 17 + 5), none⟩) hbl).trans (hcell 5 _ rfl)
      rwa [← Nat.add_assoc] at this
    have l6 : wr.cell? ⟨b, o + k * 17 + 6, none⟩ = some (.int .i64 t.sg.num) := by
      have := (X.out.cell (p := ⟨b, o + (k * 17 + 6), none⟩) hbl).trans (hcell 6 _ rfl)
      rwa [← Nat.add_assoc] at this
    have l7 : wr.cell? ⟨b, o + k * 17 + 7, none⟩ = some (.int .i64 t.sg.iss) := by
      have := (X.out.cell (p := ⟨b, o + (k * 17 + 7), none⟩) hbl).trans (hcell 7 _ rfl)
      rwa [← Nat.add_assoc] at this
    have l8 : wr.cell? ⟨b, o + k * 17 + 8, none⟩ = some (.int .i64 t.sg.own) := by
      have := (X.out.cell (p := ⟨b, o + (k * 17 + 8), none⟩) hbl).trans (hcell 8 _ rfl)
      rwa [← Nat.add_assoc] at this
    have l9 : wr.cell? ⟨b, o + k * 17 + 9, none⟩ = some (.int .i64 t.sg.key) := by
      have := (X.out.cell (p := ⟨b, o + (k * 17 + 9), none⟩) hbl).trans (hcell 9 _ rfl)
      rwa [← Nat.add_assoc] at this
    have l10 : wr.cell? ⟨b, o + k * 17 + 10, none⟩ = some (.int .i64 t.sg.fr) := by
      have := (X.out.cell (p := ⟨b, o + (k * 17 + 10), none⟩) hbl).trans (hcell 10 _ rfl)
      rwa [← Nat.add_assoc] at this
    have l11 : wr.cell? ⟨b, o + k * 17 + 11, none⟩ = some (.int .i64 t.sg.un) := by
      have := (X.out.cell (p := ⟨b, o + (k * 17 + 11), none⟩) hbl).trans (hcell 11 _ rfl)
      rwa [← Nat.add_assoc] at this
    have l12 : wr.cell? ⟨b, o + k * 17 + 12, none⟩ = some (.int .i64 t.sg.to) := by
      have := (X.out.cell (p := ⟨b, o + (k * 17 + 12), none⟩) hbl).trans (hcell 12 _ rfl)
      rwa [← Nat.add_assoc] at this
    have l13 : wr.cell? ⟨b, o + k * 17 + 13, none⟩ = some (.int .i64 t.sg.e) := by
      have := (X.out.cell (p := ⟨b, o + (k * 17 + 13), none⟩) hbl).trans (hcell 13 _ rfl)
      rwa [← Nat.add_assoc] at this
    have l14 : wr.cell? ⟨b, o + k * 17 + 14, none⟩ = some (.int .i64 t.sg.s) := by
      have := (X.out.cell (p := ⟨b, o + (k * 17 + 14), none⟩) hbl).trans (hcell 14 _ rfl)
      rwa [← Nat.add_assoc] at this
    have l15 : wr.cell? ⟨b, o + k * 17 + 15, none⟩ = some (.int .i64 t.e) := by
      have := (X.out.cell (p := ⟨b, o + (k * 17 + 15), none⟩) hbl).trans (hcell 15 _ rfl)
      rwa [← Nat.add_assoc] at this
    have l16 : wr.cell? ⟨b, o + k * 17 + 16, none⟩ = some (.int .i64 t.s) := by
      have := (X.out.cell (p := ⟨b, o + (k * 17 + 16), none⟩) hbl).trans (hcell 16 _ rfl)
      rwa [← Nat.add_assoc] at this
    clear hcell
    obtain ⟨wn, hwn⟩ : ∃ wn, wn = wr.alloc (.cells #[.string (bstr t.st), .int .i64 t.num, .int .i64 t.day, .slice Au nu cu, .string (bstr t.sg.st), .int .i64 t.sg.kind, .int .i64 t.sg.num, .int .i64 t.sg.iss, .int .i64 t.sg.own, .int .i64 t.sg.key, .int .i64 t.sg.fr, .int .i64 t.sg.un, .int .i64 t.sg.to, .int .i64 t.sg.e, .int .i64 t.sg.s, .int .i64 t.e, .int .i64 t.s] 41) := ⟨_, rfl⟩
    have en : Ext wr wn := by rw [hwn]; exact (Below.refl _ _).alloc (Nat.le_refl _) _
    have bn : wn.heap[wr.heap.size]? = some (.cells (dvCells t (.slice Au nu cu)).toArray 41 (0, 0)) := by rw [hwn]; exact heap_alloc_new' wr _
    have HBN := Lib.hid bn
    have HU := Lib.hid (RdK.ext HU0.out en)
    have HON2 := Lib.hid (HO.out.ext en)
    have XN := Lib.hid (X.out.tr en)
    go_upto_region 5 with fail
    rw [← hwn]
    clear hwn l0 l1 l2 l3 l4 l5 l6 l7 l8 l9 l10 l11 l12 l13 l14 l15 l16 HU0 HO X en bn
    unfold dvCells at HBN
    go_wp2_with (refine wpList_load_row rfl 41 _ rfl wr.heap.size rfl 41 #[.string (bstr t.st), .int .i64 t.num, .int .i64 t.day, .slice Au nu cu, .string (bstr t.sg.st), .int .i64 t.sg.kind, .int .i64 t.sg.num, .int .i64 t.sg.iss, .int .i64 t.sg.own, .int .i64 t.sg.key, .int .i64 t.sg.fr, .int .i64 t.sg.un, .int .i64 t.sg.to, .int .i64 t.sg.e, .int .i64 t.sg.s, .int .i64 t.e, .int .i64 t.s] (0, 0) _ HBN.out Tryz.underlying41 rfl info_dv ?_)
    refine (HON.out t (.slice Au nu cu) wn HU.out HLT.out).mono ?_
    rintro e w2 ⟨A1, n1, c1, rfl, o1, b2⟩
    unfold dvCells
    have HO2 := Lib.hid (HON2.out.ext b2)
    have X2 := Lib.hid (XN.out.tr b2)
    have HI2 := Lib.hid (o1.mono XN.out.size)
    clear b2 o1 HU HON2 XN HBN
    have eA : Ext w2 (w2.alloc (.cells (dvCells t (.slice A1 n1 c1)).toArray 41)) := (Below.refl _ _).alloc (Nat.le_refl _) _
    have HO3 := Lib.hid (HO2.out.ext eA)
    have HI3 := Lib.hid (HI2.out.ext eA)
    have X3 := Lib.hid (X2.out.tr eA)
    have HRK := Lib.hid (litD w2 t (.slice A1 n1 c1))
    have HPL := Lib.hid (show k * 17 = (kD.cells ps).length by
      have h1 := congrArg List.length HP.out
      rw [List.length_map, List.length_take, Nat.min_eq_left (Nat.le_of_lt hlt)] at h1
      rw [kD.cells_len, h1]; rfl)
    have HONE := Lib.hid (kD.one t (.slice A1 n1 c1) rfl)
    unfold dvCells at HRK HO3 HI3 X3
    clear eA
    go_wp2_with (refine wpList_appK (k := 17) (by decide) elemXD (n := k) (m := 1) (B := w.heap.size) HO3.out.1 HPL.out HRK.out (by rfl) HONE.out X3.out (by omega) (by unfold maxLen; omega) X3.out.size rfl rfl rfl rfl ?_; intro A8 n8 c8 w8 hn8 o8 x8 g8)
    obtain rfl : n8 = k + 1 := hn8.out
    have HO8 := Lib.hid (show OwnP kD w8 w.heap.size (.slice A8 (k + 1) c8) (ps ++ [(t, .slice A1 n1 c1)]) from HO3.out.app HI3.out o8 g8)
    have HP8 := Lib.hid (show (ps ++ [(t, Value.slice A1 n1 c1)]).map Prod.fst = l.take (k + 1) by rw [List.map_append, HP.out, List.take_succ_eq_append_getElem hlt]; have := HT.out; rw [List.getElem?_eq_getElem hlt] at this; rw [Option.some.inj this]; rfl)
    have X8 := Lib.hid x8
    clear x8 o8 g8
    go_roundw
    case rel => exact ⟨k + 1, A8, c8, _, by omega, by go_num, rfl, HP8, HO8, X8⟩
    case measure => simp [intOf]; omega
end Go.Proofs.YtmmoenkmicimcaaGreatDoor
namespace Go.Proofs.YtmmoenkmicimcaaGreatDoor
open Go.RowKit
set_option linter.unusedVariables false
set_option maxRecDepth 100000
/-- Where the first list of a state lies, or -1. -/
def plD (l : List DV) (st : List UInt8) : Int := match l.findIdx? (fun t => decide (t.st = st)) with
  | none => -1
  | some i => (i : Int)
theorem plD_some {l : List DV} {st : List UInt8} {j : Nat} {t : DV} (ht : l[j]? = some t) (hp : (decide (t.st = st)) = true) (hlt : ∀ i u, i < j → l[i]? = some u → (decide (u.st = st)) = false) : plD l st = (j : Int) := by
  have hj := (List.getElem?_eq_some_iff.1 ht).1
  unfold plD
  have : l.findIdx? (fun t => decide (t.st = st)) = some j := by
    rw [List.findIdx?_eq_some_iff_getElem]
    refine ⟨hj, ?_, fun i hi => ?_⟩
    · rw [List.getElem?_eq_getElem hj] at ht
      rw [Option.some.inj ht]; exact hp
    · have := hlt i _ hi (List.getElem?_eq_getElem (by omega))
      simpa using this
  rw [this]
theorem plD_none {l : List DV} {st : List UInt8} (hlt : ∀ (i : Nat) u, l[i]? = some u → (decide (u.st = st)) = false) : plD l st = -1 := by
  unfold plD
  have : l.findIdx? (fun t => decide (t.st = st)) = none := by
    rw [List.findIdx?_eq_none_iff]
    intro u hu
    obtain ⟨i, hi⟩ := List.mem_iff_getElem?.1 hu
    exact hlt i u hi
  rw [this]
/-- The closure that Accept hands to IndexFunc. -/
theorem dplaceFn_any (st : List UInt8) (g : Nat) (r : DV) (A : Option Addr) (n c : Nat) (w : World) (hg : w.cell? ⟨g, 0, none⟩ = some (.string (bstr st))) :
    Calls Tryz.prog 37 #[dvV r (.slice A n c), .pointer (some ⟨g, 0, none⟩)] w (RetQ w (.bool (decide (r.st = st)))) := by
  have hl := World.block_lt_of_cell? w _ hg
  unfold dvV dvCells
  go_enter Tryz.func37, Tryz.ntmps37
  go_wp2
  go_ret
  exact ⟨by show Ending.returned (Value.bool _) = _; rw [bstr_eqJ], (Below.refl _ _).alloc (Nat.le_refl _) _⟩
set_option maxHeartbeats 4000000 in
theorem dplaceIx_any {v : Value} {l : List DV} (st : List UInt8) (g : Nat) (w : World) (hr : RdX kD w v l) (hg : w.cell? ⟨g, 0, none⟩ = some (.string (bstr st))) :
    Calls Tryz.prog 36 #[v, .func (.func 37) #[] #[.pointer (some ⟨g, 0, none⟩)]] w (RetQ w (.int .i64 (plD l st))) := by
  obtain ⟨A, n, c, rfl, hn, hnc, hcm, hel⟩ := hr.at_
  subst hn
  unfold maxLen at hcm
  have hgl := World.block_lt_of_cell? w _ hg
  have HE := Lib.hid hel
  clear hel hr
  obtain ⟨r, hr⟩ : ∃ r, plD l st = r := ⟨_, rfl⟩
  rw [hr]
  have HR := Lib.hid hr
  clear hr
  have HF := Lib.hid (fun t A1 n1 c1 (W : World) (h : Ext w W) => dplaceFn_any st g t A1 n1 c1 W ((h.cell (p := ⟨g, 0, none⟩) hgl).trans hg))
  clear hg
  go_enter Tryz.func36, Tryz.ntmps36
  go_wp2
  go_loopw [5, 8] (fun _ i wr => ∃ j : Nat, j ≤ l.length ∧ i = .int .i64 (j : Int) ∧ Ext w wr ∧ Hid (∀ i u, i < j → l[i]? = some u → (decide (u.st = st)) = false)) (fun _ i _ => l.length - (intOf i).toNat)
  case atStart => exact ⟨0, Nat.zero_le _, rfl, Below.refl _ _, Lib.hid (fun i u h => by omega)⟩
  case round =>
    obtain ⟨j, hj, rfl, bb, hlt0⟩ := hrel
    by_cases hlt : j < l.length
    · obtain ⟨t, ht⟩ : ∃ t, l[j]? = some t := ⟨_, List.getElem?_eq_getElem hlt⟩
      obtain ⟨b, o, rfl, hbl, u, hcell, hu⟩ := HE.out j t ht
      obtain ⟨A1, n1, c1, rfl, -⟩ := id hu
      have l0 : wr.cell? ⟨b, o + j * 17, none⟩ = some (.string (bstr t.st)) := by
        have := (bb.cell (p := ⟨b, o + (j * 17 + 0), none⟩) hbl).trans (hcell 0 _ rfl)
        exact this
      have l1 : wr.cell? ⟨b, o + j * 17 + 1, none⟩ = some (.int .i64 t.num) := by
        have := (bb.cell (p := ⟨b, o + (j * 17 + 1), none⟩) hbl).trans (hcell 1 _ rfl)
        rwa [← Nat.add_assoc] at this
      have l2 : wr.cell? ⟨b, o + j * 17 + 2, none⟩ = some (.int .i64 t.day) := by
        have := (bb.cell (p := ⟨b, o + (j * 17 + 2), none⟩) hbl).trans (hcell 2 _ rfl)
        rwa [← Nat.add_assoc] at this
      have l3 : wr.cell? ⟨b, o + j * 17 + 3, none⟩ = some (.slice A1 n1 c1) := by
        have := (bb.cell (p := ⟨b, o + (j * 17 + 3), none⟩) hbl).trans (hcell 3 _ rfl)
        rwa [← Nat.add_assoc] at this
      have l4 : wr.cell? ⟨b, o + j * 17 + 4, none⟩ = some (.string (bstr t.sg.st)) := by
        have := (bb.cell (p := ⟨b, o + (j * 17 + 4), none⟩) hbl).trans (hcell 4 _ rfl)
        rwa [← Nat.add_assoc] at this
      have l5 : wr.cell? ⟨b, o + j * 17 + 5, none⟩ = some (.int .i64 t.sg.kind) := by
        have := (bb.cell (p := ⟨b, o + (j * 17 + 5), none⟩) hbl).trans (hcell 5 _ rfl)
        rwa [← Nat.add_assoc] at this
      have l6 : wr.cell? ⟨b, o + j * 17 + 6, none⟩ = some (.int .i64 t.sg.num) := by
        have := (bb.cell (p := ⟨b, o + (j * 17 + 6), none⟩) hbl).trans (hcell 6 _ rfl)
        rwa [← Nat.add_assoc] at this
      have l7 : wr.cell? ⟨b, o + j * 17 + 7, none⟩ = some (.int .i64 t.sg.iss) := by
        have := (bb.cell (p := ⟨b, o + (j * 17 + 7), none⟩) hbl).trans (hcell 7 _ rfl)
        rwa [← Nat.add_assoc] at this
      have l8 : wr.cell? ⟨b, o + j * 17 + 8, none⟩ = some (.int .i64 t.sg.own) := by
        have := (bb.cell (p := ⟨b, o + (j * 17 + 8), none⟩) hbl).trans (hcell 8 _ rfl)
        rwa [← Nat.add_assoc] at this
      have l9 : wr.cell? ⟨b, o + j * 17 + 9, none⟩ = some (.int .i64 t.sg.key) := by
        have := (bb.cell (p := ⟨b, o + (j * 17 + 9), none⟩) hbl).trans (hcell 9 _ rfl)
        rwa [← Nat.add_assoc] at this
      have l10 : wr.cell? ⟨b, o + j * 17 + 10, none⟩ = some (.int .i64 t.sg.fr) := by
        have := (bb.cell (p := ⟨b, o + (j * 17 + 10), none⟩) hbl).trans (hcell 10 _ rfl)
        rwa [← Nat.add_assoc] at this
      have l11 : wr.cell? ⟨b, o + j * 17 + 11, none⟩ = some (.int .i64 t.sg.un) := by
        have := (bb.cell (p := ⟨b, o + (j * 17 + 11), none⟩) hbl).trans (hcell 11 _ rfl)
        rwa [← Nat.add_assoc] at this
      have l12 : wr.cell? ⟨b, o + j * 17 + 12, none⟩ = some (.int .i64 t.sg.to) := by
        have := (bb.cell (p := ⟨b, o + (j * 17 + 12), none⟩) hbl).trans (hcell 12 _ rfl)
        rwa [← Nat.add_assoc] at this
      have l13 : wr.cell? ⟨b, o + j * 17 + 13, none⟩ = some (.int .i64 t.sg.e) := by
        have := (bb.cell (p := ⟨b, o + (j * 17 + 13), none⟩) hbl).trans (hcell 13 _ rfl)
        rwa [← Nat.add_assoc] at this
      have l14 : wr.cell? ⟨b, o + j * 17 + 14, none⟩ = some (.int .i64 t.sg.s) := by
        have := (bb.cell (p := ⟨b, o + (j * 17 + 14), none⟩) hbl).trans (hcell 14 _ rfl)
        rwa [← Nat.add_assoc] at this
      have l15 : wr.cell? ⟨b, o + j * 17 + 15, none⟩ = some (.int .i64 t.e) := by
        have := (bb.cell (p := ⟨b, o + (j * 17 + 15), none⟩) hbl).trans (hcell 15 _ rfl)
        rwa [← Nat.add_assoc] at this
      have l16 : wr.cell? ⟨b, o + j * 17 + 16, none⟩ = some (.int .i64 t.s) := by
        have := (bb.cell (p := ⟨b, o + (j * 17 + 16), none⟩) hbl).trans (hcell 16 _ rfl)
        rwa [← Nat.add_assoc] at this
      have HT := Lib.hid ht
      clear hcell hu ht
      have wi1 : IntKind.i64.wrap ((j : Int)) = (j : Int) := IntWalk.i64_in _ (by omega)
      have zi1 : (0 : Int) ≤ (j : Int) := by omega
      have li1 : (j : Int) < (l.length : Int) := by omega
      have ti1 : ((j : Int)).toNat = j := by omega
      go_wp2_with fail
      refine (HF.out t A1 n1 c1 _ bb).mono ?_
      rintro e wy ⟨rfl, by_⟩
      cases hq : (decide (t.st = st)) with
      | true =>
        have HN := Lib.hid (show r = (j : Int) by rw [← HR.out]; exact plD_some HT.out hq hlt0.out)
        clear hq
        go_wp2_with fail
        go_ret
        exact ⟨by rw [HN.out]; rfl, bb.tr by_⟩
      | false =>
        have HQ := Lib.hid hq
        clear hq
        go_wp2_with fail
        go_roundw
        case rel => exact ⟨j + 1, by omega, by go_num, bb.tr by_, Lib.hid (fun i u hi hu => by
          by_cases h : i = j
          · subst h
            rw [HT.out] at hu
            rw [← Option.some.inj hu]; exact HQ.out
          · exact hlt0.out i u (by omega) hu)⟩
        case measure => simp [intOf]; omega
    · obtain rfl : j = l.length := by omega
      have HN := Lib.hid (show r = -1 by rw [← HR.out]; exact plD_none fun i u hu => hlt0.out i u (List.getElem?_eq_some_iff.1 hu).1 hu)
      go_wp2
      go_ret
      exact ⟨by rw [HN.out]; rfl, bb⟩
/-- The closure that Applying hands to IndexFunc. -/
theorem aplaceFn_any (st : List UInt8) (g : Nat) (r : DV) (A : Option Addr) (n c : Nat) (w : World) (hg : w.cell? ⟨g, 0, none⟩ = some (.string (bstr st))) :
    Calls Tryz.prog 43 #[dvV r (.slice A n c), .pointer (some ⟨g, 0, none⟩)] w (RetQ w (.bool (decide (r.st = st)))) := by
  have hl := World.block_lt_of_cell? w _ hg
  unfold dvV dvCells
  go_enter Tryz.func43, Tryz.ntmps43
  go_wp2
  go_ret
  exact ⟨by show Ending.returned (Value.bool _) = _; rw [bstr_eqJ], (Below.refl _ _).alloc (Nat.le_refl _) _⟩
set_option maxHeartbeats 4000000 in
theorem aplaceIx_any {v : Value} {l : List DV} (st : List UInt8) (g : Nat) (w : World) (hr : RdX kD w v l) (hg : w.cell? ⟨g, 0, none⟩ = some (.string (bstr st))) :
    Calls Tryz.prog 36 #[v, .func (.func 43) #[] #[.pointer (some ⟨g, 0, none⟩)]] w (RetQ w (.int .i64 (plD l st))) := by
  obtain ⟨A, n, c, rfl, hn, hnc, hcm, hel⟩ := hr.at_
  subst hn
  unfold maxLen at hcm
  have hgl := World.block_lt_of_cell? w _ hg
  have HE := Lib.hid hel
  clear hel hr
  obtain ⟨r, hr⟩ : ∃ r, plD l st = r := ⟨_, rfl⟩
  rw [hr]
  have HR := Lib.hid hr
  clear hr
  have HF := Lib.hid (fun t A1 n1 c1 (W : World) (h : Ext w W) => aplaceFn_any st g t A1 n1 c1 W ((h.cell (p := ⟨g, 0, none⟩) hgl).trans hg))
  clear hg
  go_enter Tryz.func36, Tryz.ntmps36
  go_wp2
  go_loopw [5, 8] (fun _ i wr => ∃ j : Nat, j ≤ l.length ∧ i = .int .i64 (j : Int) ∧ Ext w wr ∧ Hid (∀ i u, i < j → l[i]? = some u → (decide (u.st = st)) = false)) (fun _ i _ => l.length - (intOf i).toNat)
  case atStart => exact ⟨0, Nat.zero_le _, rfl, Below.refl _ _, Lib.hid (fun i u h => by omega)⟩
  case round =>
    obtain ⟨j, hj, rfl, bb, hlt0⟩ := hrel
    by_cases hlt : j < l.length
    · obtain ⟨t, ht⟩ : ∃ t, l[j]? = some t := ⟨_, List.getElem?_eq_getElem hlt⟩
      obtain ⟨b, o, rfl, hbl, u, hcell, hu⟩ := HE.out j t ht
      obtain ⟨A1, n1, c1, rfl, -⟩ := id hu
      have l0 : wr.cell? ⟨b, o + j * 17, none⟩ = some (.string (bstr t.st)) := by
        have := (bb.cell (p := ⟨b, o + (j * 17 + 0), none⟩) hbl).trans (hcell 0 _ rfl)
        exact this
      have l1 : wr.cell? ⟨b, o + j * 17 + 1, none⟩ = some (.int .i64 t.num) := by
        have := (bb.cell (p := ⟨b, o + (j * 17 + 1), none⟩) hbl).trans (hcell 1 _ rfl)
        rwa [← Nat.add_assoc] at this
      have l2 : wr.cell? ⟨b, o + j * 17 + 2, none⟩ = some (.int .i64 t.day) := by
        have := (bb.cell (p := ⟨b, o + (j * 17 + 2), none⟩) hbl).trans (hcell 2 _ rfl)
        rwa [← Nat.add_assoc] at this
      have l3 : wr.cell? ⟨b, o + j * 17 + 3, none⟩ = some (.slice A1 n1 c1) := by
        have := (bb.cell (p := ⟨b, o + (j * 17 + 3), none⟩) hbl).trans (hcell 3 _ rfl)
        rwa [← Nat.add_assoc] at this
      have l4 : wr.cell? ⟨b, o + j * 17 + 4, none⟩ = some (.string (bstr t.sg.st)) := by
        have := (bb.cell (p := ⟨b, o + (j * 17 + 4), none⟩) hbl).trans (hcell 4 _ rfl)
        rwa [← Nat.add_assoc] at this
      have l5 : wr.cell? ⟨b, o + j * 17 + 5, none⟩ = some (.int .i64 t.sg.kind) := by
        have := (bb.cell (p := ⟨b, o + (j * 17 + 5), none⟩) hbl).trans (hcell 5 _ rfl)
        rwa [← Nat.add_assoc] at this
      have l6 : wr.cell? ⟨b, o + j * 17 + 6, none⟩ = some (.int .i64 t.sg.num) := by
        have := (bb.cell (p := ⟨b, o + (j * 17 + 6), none⟩) hbl).trans (hcell 6 _ rfl)
        rwa [← Nat.add_assoc] at this
      have l7 : wr.cell? ⟨b, o + j * 17 + 7, none⟩ = some (.int .i64 t.sg.iss) := by
        have := (bb.cell (p := ⟨b, o + (j * 17 + 7), none⟩) hbl).trans (hcell 7 _ rfl)
        rwa [← Nat.add_assoc] at this
      have l8 : wr.cell? ⟨b, o + j * 17 + 8, none⟩ = some (.int .i64 t.sg.own) := by
        have := (bb.cell (p := ⟨b, o + (j * 17 + 8), none⟩) hbl).trans (hcell 8 _ rfl)
        rwa [← Nat.add_assoc] at this
      have l9 : wr.cell? ⟨b, o + j * 17 + 9, none⟩ = some (.int .i64 t.sg.key) := by
        have := (bb.cell (p := ⟨b, o + (j * 17 + 9), none⟩) hbl).trans (hcell 9 _ rfl)
        rwa [← Nat.add_assoc] at this
      have l10 : wr.cell? ⟨b, o + j * 17 + 10, none⟩ = some (.int .i64 t.sg.fr) := by
        have := (bb.cell (p := ⟨b, o + (j * 17 + 10), none⟩) hbl).trans (hcell 10 _ rfl)
        rwa [← Nat.add_assoc] at this
      have l11 : wr.cell? ⟨b, o + j * 17 + 11, none⟩ = some (.int .i64 t.sg.un) := by
        have := (bb.cell (p := ⟨b, o + (j * 17 + 11), none⟩) hbl).trans (hcell 11 _ rfl)
        rwa [← Nat.add_assoc] at this
      have l12 : wr.cell? ⟨b, o + j * 17 + 12, none⟩ = some (.int .i64 t.sg.to) := by
        have := (bb.cell (p := ⟨b, o + (j * 17 + 12), none⟩) hbl).trans (hcell 12 _ rfl)
        rwa [← Nat.add_assoc] at this
      have l13 : wr.cell? ⟨b, o + j * 17 + 13, none⟩ = some (.int .i64 t.sg.e) := by
        have := (bb.cell (p := ⟨b, o + (j * 17 + 13), none⟩) hbl).trans (hcell 13 _ rfl)
        rwa [← Nat.add_assoc] at this
      have l14 : wr.cell? ⟨b, o + j * 17 + 14, none⟩ = some (.int .i64 t.sg.s) := by
        have := (bb.cell (p := ⟨b, o + (j * 17 + 14), none⟩) hbl).trans (hcell 14 _ rfl)
        rwa [← Nat.add_assoc] at this
      have l15 : wr.cell? ⟨b, o + j * 17 + 15, none⟩ = some (.int .i64 t.e) := by
        have := (bb.cell (p := ⟨b, o + (j * 17 + 15), none⟩) hbl).trans (hcell 15 _ rfl)
        rwa [← Nat.add_assoc] at this
      have l16 : wr.cell? ⟨b, o + j * 17 + 16, none⟩ = some (.int .i64 t.s) := by
        have := (bb.cell (p := ⟨b, o + (j * 17 + 16), none⟩) hbl).trans (hcell 16 _ rfl)
        rwa [← Nat.add_assoc] at this
      have HT := Lib.hid ht
      clear hcell hu ht
      have wi2 : IntKind.i64.wrap ((j : Int)) = (j : Int) := IntWalk.i64_in _ (by omega)
      have zi2 : (0 : Int) ≤ (j : Int) := by omega
      have li2 : (j : Int) < (l.length : Int) := by omega
      have ti2 : ((j : Int)).toNat = j := by omega
      go_wp2_with fail
      refine (HF.out t A1 n1 c1 _ bb).mono ?_
      rintro e wy ⟨rfl, by_⟩
      cases hq : (decide (t.st = st)) with
      | true =>
        have HN := Lib.hid (show r = (j : Int) by rw [← HR.out]; exact plD_some HT.out hq hlt0.out)
        clear hq
        go_wp2_with fail
        go_ret
        exact ⟨by rw [HN.out]; rfl, bb.tr by_⟩
      | false =>
        have HQ := Lib.hid hq
        clear hq
        go_wp2_with fail
        go_roundw
        case rel => exact ⟨j + 1, by omega, by go_num, bb.tr by_, Lib.hid (fun i u hi hu => by
          by_cases h : i = j
          · subst h
            rw [HT.out] at hu
            rw [← Option.some.inj hu]; exact HQ.out
          · exact hlt0.out i u (by omega) hu)⟩
        case measure => simp [intOf]; omega
    · obtain rfl : j = l.length := by omega
      have HN := Lib.hid (show r = -1 by rw [← HR.out]; exact plD_none fun i u hu => hlt0.out i u (List.getElem?_eq_some_iff.1 hu).1 hu)
      go_wp2
      go_ret
      exact ⟨by rw [HN.out]; rfl, bb⟩
end Go.Proofs.YtmmoenkmicimcaaGreatDoor
namespace Go.Proofs.YtmmoenkmicimcaaGreatDoor
open Go.RowKit
set_option linter.unusedVariables false
set_option maxRecDepth 100000
/-- A list of entries is returned; its row is new. -/
def RetDs (w : World) (l : List DF) (e : Ending) (w' : World) : Prop := ∃ A n c, e = .returned (.slice A n c) ∧ RdD w' (.slice A n c) l ∧ Ext w w'
/-- What a slice of lists asks of its parts. -/
def smDs (l : List DV) : Prop := ∀ d ∈ l, smD d.defs ∧ d.defs.length ≤ 2513169434843
/-- The entries of the first k that apply. -/
def apT (d : DV) (signer : Int) (number : List UInt8) (k : Nat) : List DF := (d.defs.take k).filter fun x => appQ x signer number
theorem apT_zero (d : DV) (signer : Int) (number : List UInt8) : apT d signer number 0 = [] := rfl
theorem apT_yes {d : DV} {signer : Int} {number : List UInt8} {k : Nat} {y : DF} (h : d.defs[k]? = some y) (q : appQ y signer number = true) : apT d signer number (k + 1) = apT d signer number k ++ [y] := by
  unfold apT
  rw [take_snocDf h, List.filter_append]
  simp [q]
theorem apT_no {d : DV} {signer : Int} {number : List UInt8} {k : Nat} {y : DF} (h : d.defs[k]? = some y) (q : appQ y signer number = false) : apT d signer number (k + 1) = apT d signer number k := by
  unfold apT
  rw [take_snocDf h, List.filter_append]
  simp [q]
theorem apT_len (d : DV) (signer : Int) (number : List UInt8) (k : Nat) : (apT d signer number k).length ≤ d.defs.length := by
  unfold apT
  exact Nat.le_trans (List.length_filter_le _ _) (by rw [List.length_take]; exact Nat.min_le_right _ _)
theorem dfs_app (l : List DF) (y : DF) : dfsCells (l ++ [y]) = dfsCells l ++ dfCells y := by simp [dfsCells]
theorem ofD_none {l : List DV} {st : List UInt8} (h : plD l st = -1) : ofD l st = none := by
  unfold plD at h
  unfold ofD
  cases hc : l.findIdx? (fun t => decide (t.st = st)) with
  | none =>
    rw [List.find?_eq_none]
    intro x hx
    have := List.findIdx?_eq_none_iff.1 hc x hx
    simpa using this
  | some i => rw [hc] at h; simp at h
theorem ofD_some {l : List DV} {st : List UInt8} {j : Nat} (h : plD l st = (j : Int)) : ∃ d, l[j]? = some d ∧ ofD l st = some d := by
  unfold plD at h
  unfold ofD
  cases hc : l.findIdx? (fun t => decide (t.st = st)) with
  | none => rw [hc] at h; simp at h
  | some i =>
    rw [hc] at h
    have e : i = j := by have h : (i : Int) = (j : Int) := h; omega
    subst e
    obtain ⟨hi, h1, h2⟩ := List.findIdx?_eq_some_iff_getElem.1 hc
    refine ⟨l[i], List.getElem?_eq_getElem hi, ?_⟩
    rw [List.find?_eq_some_iff_getElem]
    exact ⟨h1, i, hi, rfl, fun j hj => by have := h2 j hj; simpa using this⟩
theorem plD_ge (l : List DV) (st : List UInt8) : plD l st = -1 ∨ ∃ j : Nat, plD l st = (j : Int) := by
  unfold plD
  split
  · exact .inl rfl
  · exact .inr ⟨_, rfl⟩
theorem df_one (y : DF) : ∀ u ∈ dfCells y, u.oneCell' = true := by
  intro u hu
  simp only [dfCells, List.mem_cons, List.not_mem_nil, or_false] at hu
  rcases hu with rfl | rfl | rfl | rfl | rfl <;> rfl
theorem litDf (w : World) (y : DF) : RdK (w.alloc (.cells #[.int .i64 y.kind, .int .i64 y.param, .int .i64 y.signer, .string (bstr y.fi), .string (bstr y.la)] 65)) 5 (.slice (some ⟨w.heap.size, 0, none⟩) 1 1) (dfCells y) := by
  have := RdK.lit w 5 (dfCells y).toArray 65 1 rfl (by unfold maxLen; omega)
  exact this
set_option maxHeartbeats 8000000 in
theorem applying_any (s0 s1 s2 s3 s4 : SlT) (l : List DV) (st num : List UInt8) (signer : Int) (w : World) (h : RdX kD w (slV s4) l) (hs : smDs l) (hn : num.length ≤ maxLen) : Calls Tryz.prog 15 #[storeV s0 s1 s2 s3 s4, .string (bstr st), .int .i64 signer, .string (bstr num)] w (RetDs w (appD l st signer num)) := by
  obtain ⟨wz, hwz⟩ : ∃ wz, wz = (w.alloc (stO s0 s1 s2 s3 s4)).alloc (.cells #[.string (bstr st)] 9) := ⟨_, rfl⟩
  have e1 : Ext w (w.alloc (stO s0 s1 s2 s3 s4)) := (Below.refl _ _).alloc (Nat.le_refl _) _
  have x0 : Ext w wz := by rw [hwz]; exact e1.tr ((Below.refl _ _).alloc (Nat.le_refl _) _)
  have hz : wz.heap[w.heap.size]? = some (.cells #[.slice s0.1 s0.2.1 s0.2.2, .slice s1.1 s1.2.1 s1.2.2, .slice s2.1 s2.2.1 s2.2.2, .slice s3.1 s3.2.1 s3.2.2, .slice s4.1 s4.2.1 s4.2.2] 31 (0, 0)) := by
    rw [hwz]
    exact (((Below.refl _ _).alloc (Nat.le_refl _) _ : Ext (w.alloc (stO s0 s1 s2 s3 s4)) _).block _ (by simp)).trans (heap_alloc_new' w _)
  have hy : wz.heap[w.heap.size + 1]? = some (.cells #[.string (bstr st)] 9 (0, 0)) := by
    have := heap_alloc_new' (w.alloc (stO s0 s1 s2 s3 s4)) (.cells #[.string (bstr st)] 9)
    rw [show (w.alloc (stO s0 s1 s2 s3 s4)).heap.size = w.heap.size + 1 by simp] at this
    rw [hwz]; exact this
  have hlz : w.heap.size < wz.heap.size := block_lt hz
  have hly : w.heap.size + 1 < wz.heap.size := block_lt hy
  have HIX := Lib.hid (aplaceIx_any st (w.heap.size + 1) wz (h.ext x0) (by rw [cell_of_row wz _ 0 _ _ _ hy]; rfl))
  have HDC := Lib.hid (fun W => doc_any num W hn)
  have HCF := Lib.hid (fun (y : DF) W (q : y.fi.length ≤ maxLen) => compare_any y.fi num W q hn)
  have HCL := Lib.hid (fun (y : DF) W (q : y.la.length ≤ maxLen) => compare_any num y.la W hn q)
  obtain ⟨L, hL⟩ : ∃ L, appD l st signer num = L := ⟨_, rfl⟩
  rw [hL]
  have HL := Lib.hid hL
  clear hL
  obtain ⟨A4, n4, c4, hs4, hn4, hnc4, hcm4, hel⟩ := h.at_
  subst hn4
  have HS4 := Lib.hid hs4
  clear hs4
  have HEL := Lib.hid hel
  have HSM := Lib.hid hs
  have X0 := Lib.hid x0
  unfold maxLen at hcm4
  clear hel hs x0 e1 hn h
  have z4 : wz.cell? ⟨w.heap.size, 4, none⟩ = some (.slice s4.1 s4.2.1 s4.2.2) := by rw [cell_of_row wz _ 4 _ _ _ hz]; rfl
  have HZ := Lib.hid hz
  clear hz hy
  unfold storeV
  go_enter Tryz.func15, Tryz.ntmps15
  go_upto_region 2 with fail
  rw [← hwz]
  clear hwz
  go_wp2_with fail
  refine HIX.out.mono ?_
  rintro e w1 ⟨rfl, b1⟩
  have X1 := Lib.hid (X0.out.tr b1)
  have HZ1 := Lib.hid ((b1.block _ hlz).trans HZ.out)
  clear z4 hlz hly HIX
  rcases plD_ge l st with hp | ⟨j, hp⟩
  · have HR := Lib.hid (show L = [] by rw [← HL.out]; unfold appD; rw [ofD_none hp])
    rw [hp]
    clear hp b1
    go_wp2_with fail
    go_ret
    rw [HR.out]
    exact ⟨none, 0, 0, rfl, RdK.nil_ _ _ _, X1.out⟩
  obtain ⟨d, hd, ho⟩ := ofD_some hp
  rw [hp]
  have HOF := Lib.hid ho
  have HD := Lib.hid hd
  have hjl := (List.getElem?_eq_some_iff.1 hd).1
  clear hp ho b1
  have hj0 : ¬ ((j : Int) < 0) := by omega
  go_wp2_with fail
  refine (HDC.out _).mono ?_
  rintro e w2 ⟨rfl, rfl⟩
  by_cases hdc : docP num
  case neg =>
    have HR := Lib.hid (show L = [] by rw [← HL.out]; unfold appD; rw [HOF.out]; exact if_neg hdc)
    rw [decide_eq_false hdc]
    clear hdc
    go_wp2_with fail
    go_ret
    rw [HR.out]
    exact ⟨none, 0, 0, rfl, RdK.nil_ _ _ _, X1.out⟩
  have HR := Lib.hid (show L = apT d signer num d.defs.length by rw [← HL.out]; unfold appD apT; rw [HOF.out, List.take_length]; exact if_pos hdc)
  rw [decide_eq_true hdc]
  clear hdc HL HOF HDC
  obtain ⟨b4, o4, hA4, hb4, u, hcell, hu⟩ := HEL.out j d hd
  obtain ⟨Au, nu, cu, hu1, hnu, hncu, hcmu, helu⟩ := RdD.at_ hu
  subst hu1
  subst hnu
  have HEU := Lib.hid helu
  unfold maxLen at hcmu
  have z4 : w1.cell? ⟨w.heap.size, 4, none⟩ = some (.slice (some ⟨b4, o4, none⟩) l.length c4) := (cell_of_row w1 _ 4 _ _ _ HZ1.out).trans (by show some (slV s4) = _; rw [HS4.out, hA4])
  have hlz := block_lt HZ1.out
  have k3 : w1.cell? ⟨b4, o4 + j * 17 + 3, none⟩ = some (.slice Au d.defs.length cu) := by
    have := (X1.out.cell (p := ⟨b4, o4 + (j * 17 + 3), none⟩) hb4).trans (hcell 3 _ rfl)
    rwa [← Nat.add_assoc] at this
  obtain ⟨hsd, hld⟩ := HSM.out d (List.mem_of_getElem? hd)
  have HSD := Lib.hid hsd
  have wj : IntKind.i64.wrap (j : Int) = (j : Int) := IntWalk.i64_in _ (by omega)
  have zj : (0 : Int) ≤ (j : Int) := by omega
  have lj : (j : Int) < (l.length : Int) := by omega
  have tj : ((j : Int)).toNat = j := by omega
  clear hcell hu helu hd hsd HEL HSM
  go_wp2_with fail
  clear z4 hlz k3 wj zj lj tj
  go_loopw [9, 31] (fun s9 s31 wr => ∃ (k : Nat) (A5 : Option Addr) (n5 c5 : Nat), k ≤ d.defs.length ∧ s31 = .int .i64 (k : Int) ∧ s9 = .slice A5 n5 c5 ∧ Hid (OwnK wr w.heap.size 65 5 (.slice A5 n5 c5) (dfsCells (apT d signer num k))) ∧ Hid (Ext w wr)) (fun _ s31 _ => d.defs.length - (intOf s31).toNat)
  case atStart => exact ⟨0, none, 0, 0, Nat.zero_le _, rfl, rfl, Lib.hid (by rw [apT_zero]; exact OwnK.empty _ _ _ _ _), X1⟩
  case round =>
    obtain ⟨k, A5, n5, c5, hk, rfl, rfl, O, X⟩ := hrel
    by_cases hlt : k < d.defs.length
    case neg =>
      obtain rfl : k = d.defs.length := by omega
      go_wp2_with fail
      go_ret
      rw [HR.out]
      exact ⟨A5, n5, c5, rfl, O.out.rd, X.out⟩
    case pos =>
    obtain ⟨y, hy⟩ : ∃ y, d.defs[k]? = some y := ⟨_, List.getElem?_eq_getElem hlt⟩
    obtain ⟨b, o, rfl, hbl, hc⟩ := HEU.out (by omega)
    have hcy := hc k y hy
    have HY := Lib.hid hy
    obtain ⟨yfi, yla⟩ := HSD.out y (List.mem_of_getElem? hy)
    clear hy hc
    have wi1 : IntKind.i64.wrap ((k : Int)) = (k : Int) := IntWalk.i64_in _ (by omega)
    have zi1 : (0 : Int) ≤ (k : Int) := by omega
    have li1 : (k : Int) < (d.defs.length : Int) := by omega
    have ti1 : ((k : Int)).toNat = k := by omega
    have wk : IntKind.i64.wrap ((k : Int) + 1) = (k : Int) + 1 := IntWalk.i64_in _ (by omega)
    have q0 := (X.out.cell (p := ⟨b, o + k * 5, none⟩) hbl).trans hcy.1
    have q1 := (X.out.cell (p := ⟨b, o + k * 5 + 1, none⟩) hbl).trans hcy.2.1
    have q2 := (X.out.cell (p := ⟨b, o + k * 5 + 2, none⟩) hbl).trans hcy.2.2.1
    have q3 := (X.out.cell (p := ⟨b, o + k * 5 + 3, none⟩) hbl).trans hcy.2.2.2.1
    have q4 := (X.out.cell (p := ⟨b, o + k * 5 + 4, none⟩) hbl).trans hcy.2.2.2.2
    clear hcy
    obtain ⟨wn, hwn, en, TN⟩ := df_alloc wr y
    go_upto_region 8 with fail
    rw [← hwn]
    clear hwn q0 q1 q2 q3 q4
    have XN := Lib.hid (X.out.tr en)
    have ON := Lib.hid (O.out.ext en)
    have t0 := TN.c0
    have t1 := TN.c1
    have t2 := TN.c2
    have t3 := TN.c3
    have t4 := TN.c4
    have hl := TN.lt
    have HTN := Lib.hid TN
    clear X O en TN
    by_cases hsg : y.signer = signer
    case neg =>
      have HN := Lib.hid (apT_no (signer := signer) (number := num) HY.out (by unfold appQ; rw [decide_eq_false hsg]; rfl))
      have hb : (y.signer == signer) = false := by simpa using hsg
      clear hsg
      have O2 := Lib.hid (show OwnK wn w.heap.size 65 5 (.slice A5 n5 c5) (dfsCells (apT d signer num (k + 1))) by rw [HN.out]; exact ON.out)
      go_wp2_with fail
      go_roundw
      case rel => exact ⟨k + 1, A5, n5, c5, by omega, by go_num, rfl, O2, XN⟩
      case measure => simp [intOf]; omega
    have hb : (y.signer == signer) = true := by simpa using hsg
    have HSG := Lib.hid hsg
    clear hsg
    go_wp2_with fail
    refine (HCF.out y _ yfi).mono ?_
    rintro e w3 ⟨rfl, b3⟩
    have X3 := Lib.hid (XN.out.tr b3)
    have O3 := Lib.hid (ON.out.ext b3)
    have T3 := Lib.hid (HTN.out.ext b3)
    clear XN ON HTN t0 t1 t2 t3 t4 hl
    have t0 := T3.out.c0
    have t1 := T3.out.c1
    have t2 := T3.out.c2
    have t3 := T3.out.c3
    have t4 := T3.out.c4
    have hl := T3.out.lt
    clear b3
    have HF := Lib.hid (cmpL_pos y.fi num)
    by_cases h1 : cmpL y.fi num ≤ 0
    case neg =>
      have HN := Lib.hid (apT_no (signer := signer) (number := num) HY.out (by unfold appQ; rw [← HF.out, decide_eq_false h1]; simp))
      have O2 := Lib.hid (show OwnK w3 w.heap.size 65 5 (.slice A5 n5 c5) (dfsCells (apT d signer num (k + 1))) by rw [HN.out]; exact O3.out)
      go_wp2_with fail
      go_roundw
      case rel => exact ⟨k + 1, A5, n5, c5, by omega, by go_num, rfl, O2, X3⟩
      case measure => simp [intOf]; omega
    have HF1 := Lib.hid (show (!befL num y.fi) = true by rw [← HF.out]; exact decide_eq_true h1)
    go_wp2_with fail
    refine (HCL.out y _ yla).mono ?_
    rintro e w4 ⟨rfl, b4⟩
    have X4 := Lib.hid (X3.out.tr b4)
    have O4 := Lib.hid (O3.out.ext b4)
    have T4 := Lib.hid (T3.out.ext b4)
    clear X3 O3 T3 t0 t1 t2 t3 t4 hl h1
    have t0 := T4.out.c0
    have t1 := T4.out.c1
    have t2 := T4.out.c2
    have t3 := T4.out.c3
    have t4 := T4.out.c4
    have hl := T4.out.lt
    clear b4
    have HG := Lib.hid (cmpL_pos num y.la)
    by_cases h2 : cmpL num y.la ≤ 0
    case neg =>
      have HN := Lib.hid (apT_no (signer := signer) (number := num) HY.out (by unfold appQ; rw [← HG.out, decide_eq_false h2]; simp))
      have O2 := Lib.hid (show OwnK w4 w.heap.size 65 5 (.slice A5 n5 c5) (dfsCells (apT d signer num (k + 1))) by rw [HN.out]; exact O4.out)
      go_wp2_with fail
      go_roundw
      case rel => exact ⟨k + 1, A5, n5, c5, by omega, by go_num, rfl, O2, X4⟩
      case measure => simp [intOf]; omega
    have HYS := Lib.hid (apT_yes (signer := signer) (number := num) HY.out (by unfold appQ; rw [decide_eq_true HSG.out, HF1.out, ← HG.out, decide_eq_true h2]; rfl))
    have HRK := Lib.hid (litDf w4 y)
    have HONE := Lib.hid (df_one y)
    have eD : Ext w4 (w4.alloc (.cells #[.int .i64 y.kind, .int .i64 y.param, .int .i64 y.signer, .string (bstr y.fi), .string (bstr y.la)] 65)) := (Below.refl _ _).alloc (Nat.le_refl _) _
    have O5 := Lib.hid (O4.out.ext eD)
    have X5 := Lib.hid (X4.out.tr eD)
    obtain ⟨A9, n9, c9, e9, hn9, -⟩ := id O4.out
    have HNN := Lib.hid (show n5 ≤ 2513169434843 by injection e9 with e91 e92 e93; subst e92; rw [dfsCells_len] at hn9; have := apT_len d signer num k; omega)
    have HNX := Lib.hid (show n5 * 5 = (dfsCells (apT d signer num k)).length by injection e9 with e91 e92 e93; subst e92; exact hn9)
    clear eD e9 hn9
    go_wp2_with (refine wpList_appKR (k := 5) (by decide) elemDf (n := n5) (m := 1) (B := w.heap.size) (w0 := w) O5.out HNX.out HRK.out (by rfl) HONE.out X5.out (by have := HNN.out; omega) (by have := HNN.out; unfold maxLen; omega) X5.out.size rfl rfl rfl rfl ?_; intro A8 n8 c8 w8 hn8 o8 x8 g8 f8; have HO8 := Lib.hid o8; have HX8 := Lib.hid x8; clear o8 x8 g8 f8)
    have O8 := Lib.hid (show OwnK w8 w.heap.size 65 5 (.slice A8 n8 c8) (dfsCells (apT d signer num (k + 1))) by rw [HYS.out, dfs_app]; exact HO8.out)
    go_roundw
    case rel => exact ⟨k + 1, A8, n8, c8, by omega, by go_num, rfl, O8, HX8⟩
    case measure => simp [intOf]; omega
end Go.Proofs.YtmmoenkmicimcaaGreatDoor
namespace Go.Proofs.YtmmoenkmicimcaaGreatDoor
open Go.RowKit
set_option linter.unusedVariables false
set_option maxRecDepth 100000
theorem run_appKT {P : Program} {w : World} {t ty e : TypeId} {k bytes B : Nat} (hk : 0 < k) (he : ElemK P t e k bytes) {v src : Value} {n m : Nat} {xs news : List Value} (hown : OwnK w B e k v xs) (hnx : n * k = xs.length) (hr : RdK w k src news) (hmx : m * k = news.length) (hm : 0 < m) (h1 : ∀ u ∈ news, u.oneCell' = true)
    (hb : (n + m) * bytes ≤ 140737488355328) (h63 : n + m ≤ maxLen) (hB : B ≤ w.heap.size) :
    ∃ A c w', (Builtin.append_ #[t, t] ty #[v, src]).run P w = .ok (.slice A (n + m) c) w' ∧ OwnK w' B e k (.slice A (n + m) c) (xs ++ news) ∧ w.grownBy w' (rowOf v) ∧ OwnK w' B e k v xs ∧
      ∀ A1 c1 (news1 : List Value), news1.length = news.length → OwnK w B e k (.slice A1 (n + m) c1) (xs ++ news1) → OwnK w' B e k (.slice A1 (n + m) c1) (xs ++ news1) ∨ OwnK w' B e k (.slice A1 (n + m) c1) (xs ++ news) := by
  obtain ⟨A', c', w', r1, o1, g1, f1⟩ := run_appKR (P := P) (ty := ty) hk he hown hnx hr hmx h1 hb h63 hB
  obtain ⟨i, z, ht, hi, hz, hsz, hby, hzs⟩ := he.ex
  obtain ⟨A2, m', c2, rfl, hm', hmc, hcm2, hcells⟩ := hr
  obtain rfl : m' = m := Nat.eq_of_mul_eq_mul_right hk (hm'.trans hmx.symm)
  obtain ⟨b2, o2, rfl, hc2⟩ := hcells hm
  have hnews : ∀ j u, news[j]? = some u → w.cell? ((⟨b2, o2, none⟩ : Addr).add j) = some u := by
    intro j u hu
    rw [Addr.add_lit]
    exact hc2 j u hu
  refine ⟨A', c', w', r1, o1, g1, ?_⟩
  have hown0 := hown
  obtain ⟨A, n', c, rfl, hn, hcase⟩ := hown
  obtain rfl : n' = n := Nat.eq_of_mul_eq_mul_right hk (hn.trans hnx.symm)
  -- where the block stays as it was
  have ext : Ext w w' → OwnK w' B e k (.slice A n' c) xs ∧ ∀ A1 c1 (news1 : List Value), news1.length = news.length → OwnK w B e k (.slice A1 (n' + m') c1) (xs ++ news1) → OwnK w' B e k (.slice A1 (n' + m') c1) (xs ++ news1) ∨ OwnK w' B e k (.slice A1 (n' + m') c1) (xs ++ news) := fun h => ⟨hown0.ext h, fun A1 c1 n1 _ h2 => .inl (h2.ext h)⟩
  rcases hcase with ⟨h0, hc0⟩ | ⟨g, cur, rfl, hbg, hg, hnc, hcm, hcs, htk⟩
  · subst hc0
    refine ext ((Below.refl w.heap.size w).grown g1 (Nat.le_refl _) fun r hr => ?_)
    cases A <;> simp [rowOf] at hr
  · by_cases hc0 : c = 0
    · subst hc0
      refine ext ((Below.refl w.heap.size w).grown g1 (Nat.le_refl _) fun r hr => ?_)
      simp [rowOf] at hr
    · by_cases hroom : n' + m' ≤ c
      · have hfit : n' * i.size + news.length ≤ cur.size := by rw [hsz, hcs, ← hmx, ← Nat.add_mul]; exact Nat.mul_le_mul_right _ hroom
        have r2 := run_append_room (P := P) w t ty e i ht hi g n' c cur hg ⟨b2, o2, none⟩ m' c2 news (by rw [hsz]; exact hmx.symm) hnews h1 hroom hfit
        rw [r2] at r1
        injection r1 with q1 q2
        have hw : w'.heap[g]? = some (.cells (cur.toList.take (n' * i.size) ++ news ++ cur.toList.drop (n' * i.size + news.length)).toArray e (0, 0)) := by
          rw [← q2]
          exact setRow_heap w g cur _ e _ hg
        rw [hsz] at hw hfit
        have hsize : (cur.toList.take (n' * k) ++ news ++ cur.toList.drop (n' * k + news.length)).toArray.size = cur.size := by
          simp only [List.size_toArray, List.length_append, List.length_take, List.length_drop, Array.length_toList]
          omega
        have htk2 : cur.toList.take (n' * k) = xs := htk
        have hl : (xs ++ news).length = (n' + m') * k := by rw [List.length_append, ← hnx, ← hmx, Nat.add_mul]
        refine ⟨⟨_, n', c, rfl, hn, .inr ⟨g, _, rfl, hbg, hw, hnc, hcm, by rw [hsize]; exact hcs, ?_⟩⟩, fun A1 c1 n1 hl1 h2 => ?_⟩
        · rw [htk2, List.append_assoc, hn]
          exact List.take_left
        · obtain ⟨A9, n9, c9, e9, hn9, h2⟩ := h2
          injection e9 with e1 e2 e3
          subst e1 e2 e3
          rcases h2 with h2 | ⟨g9, cur9, rfl, hb9, hg9, hnc9, hcm9, hcs9, ht9⟩
          · exact .inl ⟨_, _, _, rfl, hn9, .inl h2⟩
          · by_cases hgg : g9 = g
            · subst hgg
              rw [hg] at hg9
              injection hg9 with hg9
              injection hg9 with hg9
              subst hg9
              refine .inr ⟨_, _, _, rfl, hl.symm, .inr ⟨g9, _, rfl, hbg, hw, hnc9, hcm9, by rw [hsize]; exact hcs9, ?_⟩⟩
              rw [htk2, ← hl]
              exact List.take_left
            · refine .inl ⟨_, _, _, rfl, hn9, .inr ⟨g9, cur9, rfl, hb9, (g1.block g9 (block_lt hg9) fun q => ?_).trans hg9, hnc9, hcm9, hcs9, ht9⟩⟩
              obtain ⟨c', rfl⟩ : ∃ c', c = c' + 1 := ⟨c - 1, by omega⟩
              have q : some g = some g9 := by first | exact q | exact q.symm
              injection q with q
              exact hgg q.symm
      · have holds : ∀ j u, xs[j]? = some u → w.cell? ((⟨g, 0, none⟩ : Addr).add j) = some u := by
          intro j u hu
          rw [Addr.add_lit]
          show w.cell? ⟨g, 0 + j, none⟩ = _
          rw [Nat.zero_add, cell_of_row w g j cur e (0, 0) hg]
          rw [← htk, List.getElem?_take] at hu
          split at hu
          · simpa using hu
          · cases hu
        have hbb : (n' + m') * i.bytes ≤ 140737488355328 := by rw [hby]; exact hb
        have r2 := run_append_grow (P := P) w t ty e i z ht hi hz ⟨g, 0, none⟩ n' c xs (by rw [hsz]; exact hn.symm) holds ⟨b2, o2, none⟩ m' c2 news (by rw [hsz]; exact hmx.symm) hnews (by omega) (by unfold maxLen at h63; omega) (growslice_fits (by omega) hbb)
        rw [r2] at r1
        injection r1 with q1 q2
        refine ext ?_
        rw [← q2]
        exact (Below.refl _ _).drew.alloc (Nat.le_refl _) _
end Go.Proofs.YtmmoenkmicimcaaGreatDoor
namespace Go.Proofs.YtmmoenkmicimcaaGreatDoor
open Go.RowKit
set_option linter.unusedVariables false
set_option maxRecDepth 100000
/-- New slices in slots; a new store. -/
def GOwS (B : Nat) (l : List NC) : VPred := fun v w => ∃ s : SlT, v = slV s ∧ OwnK w B 39 11 (slV s) (ncsCells l)
theorem stable_GOwS (B : Nat) (l : List NC) : StableP (GOwS B l) := fun v w w' e ⟨s, h1, h2⟩ => ⟨s, h1, h2.ext e⟩
def GOwX {α : Type} (K : LK α) (B : Nat) (l : List α) : VPred := fun v w => ∃ s : SlT, v = slV s ∧ OwnX K w B (slV s) l
theorem stable_GOwX {α : Type} (K : LK α) (B : Nat) (l : List α) : StableP (GOwX K B l) := fun v w w' e ⟨s, h1, h2⟩ => ⟨s, h1, h2.ext e⟩
def GStO (B : Nat) (S : ST) : VPred := fun v w => ∃ s0 s1 s2 s3 s4 : SlT, v = storeV s0 s1 s2 s3 s4 ∧ StO w B s0 s1 s2 s3 s4 S
theorem stable_GStO (B : Nat) (S : ST) : StableP (GStO B S) := fun v w w' e ⟨s0, s1, s2, s3, s4, h1, h2⟩ => ⟨s0, s1, s2, s3, s4, h1, h2.ext e⟩
theorem run_buildSt (W : World) (s0 s1 s2 s3 s4 : SlT) : (Instr.build 31 [(0, slV s0), (1, slV s1), (2, slV s2), (3, slV s3), (4, slV s4)].toArray).run Tryz.prog W = .ok (storeV s0 s1 s2 s3 s4) W := by
  unfold slV storeV
  go_simp
theorem clone_gs {B : Nat} {a : Value} {l : List NC} (W : World) (ha : RdN W a l) (hl : l.length ≤ 1000000) (hB : B ≤ W.heap.size) : Calls Tryz.prog 72 #[a] W fun e w' => ∃ v, e = .returned v ∧ Ext W w' ∧ GOwS B l v w' :=
  (cloneN_any W ha hl).mono fun e w' ⟨A, n, c, h1, h2, h3⟩ => ⟨_, h1, h3, (A, n, c), rfl, h2.mono hB⟩
/-- What copies.Store returns. -/
def CStR (w : World) (S : ST) (e : Ending) (w' : World) : Prop := ∃ t0 t1 t2 t3 t4 : SlT, e = .returned (storeV t0 t1 t2 t3 t4) ∧ StO w' w.heap.size t0 t1 t2 t3 t4 S ∧ Ext w w'
set_option maxHeartbeats 8000000 in
theorem cstore_any (s0 s1 s2 s3 s4 : SlT) (S : ST) (w : World) (hS : StR w s0 s1 s2 s3 s4 S) (hB : StB S) : Calls Tryz.prog 33 #[storeV s0 s1 s2 s3 s4] w (CStR w S) := by
  obtain ⟨wz, hwz⟩ : ∃ wz, wz = (w.alloc (stO s0 s1 s2 s3 s4)).alloc (.cells #[.slice none 0 0, .slice none 0 0, .slice none 0 0, .slice none 0 0, .slice none 0 0] 31) := ⟨_, rfl⟩
  have e1 : Ext w (w.alloc (stO s0 s1 s2 s3 s4)) := (Below.refl _ _).alloc (Nat.le_refl _) _
  have ez : Ext w wz := by rw [hwz]; exact e1.alloc (by simp) _
  have hz : wz.heap[w.heap.size]? = some (.cells #[.slice s0.1 s0.2.1 s0.2.2, .slice s1.1 s1.2.1 s1.2.2, .slice s2.1 s2.2.1 s2.2.2, .slice s3.1 s3.2.1 s3.2.2, .slice s4.1 s4.2.1 s4.2.2] 31 (0, 0)) := by
    rw [hwz]
    exact (((Below.refl _ _).alloc (Nat.le_refl _) _ : Ext (w.alloc (stO s0 s1 s2 s3 s4)) _).block _ (by simp)).trans (heap_alloc_new' w _)
  have hy : wz.heap[w.heap.size + 1]? = some (.cells #[.slice none 0 0, .slice none 0 0, .slice none 0 0, .slice none 0 0, .slice none 0 0] 31 (0, 0)) := by
    have := heap_alloc_new' (w.alloc (stO s0 s1 s2 s3 s4)) (.cells #[.slice none 0 0, .slice none 0 0, .slice none 0 0, .slice none 0 0, .slice none 0 0] 31)
    rw [show (w.alloc (stO s0 s1 s2 s3 s4)).heap.size = w.heap.size + 1 by simp] at this
    rw [hwz]
    exact this
  have hsz : wz.heap.size = w.heap.size + 1 + 1 := by rw [hwz]; simp
  have H0 := Lib.hid (fun W (e : Ext w W) (hW : wz.heap.size ≤ W.heap.size) => clone_gs (a := slV s0) W (RdK.ext hS.r0 e) (by have := hB.lr; omega) hW)
  have H1 := Lib.hid (fun W (e : Ext w W) (hW : wz.heap.size ≤ W.heap.size) => clone_gs (a := slV s1) W (RdK.ext hS.r1 e) (by have := hB.lp; omega) hW)
  have H2 := Lib.hid (fun W (e : Ext w W) (hW : wz.heap.size ≤ W.heap.size) => (eachM_any (v := slV s2) W (hS.r2.ext e) (by have := hB.lm; omega) (fun a ha => by have := (hB.m a ha).2; omega)).mono fun e' w' ⟨A, c, h1, h2, h3⟩ => (⟨_, h1, h3, (A, _, c), rfl, h2.mono hW⟩ : ∃ v, e' = Ending.returned v ∧ Ext W w' ∧ GOwX kM wz.heap.size S.ms v w'))
  have H3 := Lib.hid (fun W (e : Ext w W) (hW : wz.heap.size ≤ W.heap.size) => (eachR_any (v := slV s3) W (hS.r3.ext e) (by have := hB.ls; omega) (fun a ha => by have := hB.s a ha; omega)).mono fun e' w' ⟨A, c, h1, h2, h3⟩ => (⟨_, h1, h3, (A, _, c), rfl, h2.mono hW⟩ : ∃ v, e' = Ending.returned v ∧ Ext W w' ∧ GOwX kR wz.heap.size S.rs v w'))
  have H4 := Lib.hid (fun W (e : Ext w W) (hW : wz.heap.size ≤ W.heap.size) => (eachD_any (v := slV s4) W (hS.r4.ext e) (by have := hB.ld; omega) (fun a ha => by have := hB.d a ha; omega)).mono fun e' w' ⟨A, c, h1, h2, h3⟩ => (⟨_, h1, h3, (A, _, c), rfl, h2.mono hW⟩ : ∃ v, e' = Ending.returned v ∧ Ext W w' ∧ GOwX kD wz.heap.size S.ds v w'))
  have HZ := Lib.hid hz
  have HY := Lib.hid hy
  have EZ := Lib.hid ez
  clear e1 ez hz hy hS hB
  unfold storeV
  go_enter Tryz.func33, Tryz.ntmps33
  go_upto_region 1 with fail
  rw [← hwz]
  clear hwz
  refine Gd.wp_region_X 16 (by kernel_rfl) (by kernel_rfl) ?_
  simp only [List.take_succ_cons, List.take_zero, List.drop_succ_cons, List.drop_zero]
  intro wq hw1
  have LL : ∀ m : Lt wq, Ext wz m.1 := fun m => hw1.tr m.2
  have LW : ∀ m : Lt wq, Ext w m.1 := fun m => EZ.out.tr (LL m)
  have k0 : ∀ m : Lt wq, m.1.cell? ⟨w.heap.size, 0, none⟩ = some (.slice s0.1 s0.2.1 s0.2.2) := fun m => by rw [cell_of_row m.1 _ 0 _ _ _ (((LL m).block _ (block_lt HZ.out)).trans HZ.out)]; rfl
  have k1 : ∀ m : Lt wq, m.1.cell? ⟨w.heap.size, 1, none⟩ = some (.slice s1.1 s1.2.1 s1.2.2) := fun m => by rw [cell_of_row m.1 _ 1 _ _ _ (((LL m).block _ (block_lt HZ.out)).trans HZ.out)]; rfl
  have k2 : ∀ m : Lt wq, m.1.cell? ⟨w.heap.size, 2, none⟩ = some (.slice s2.1 s2.2.1 s2.2.2) := fun m => by rw [cell_of_row m.1 _ 2 _ _ _ (((LL m).block _ (block_lt HZ.out)).trans HZ.out)]; rfl
  have k3 : ∀ m : Lt wq, m.1.cell? ⟨w.heap.size, 3, none⟩ = some (.slice s3.1 s3.2.1 s3.2.2) := fun m => by rw [cell_of_row m.1 _ 3 _ _ _ (((LL m).block _ (block_lt HZ.out)).trans HZ.out)]; rfl
  have k4 : ∀ m : Lt wq, m.1.cell? ⟨w.heap.size, 4, none⟩ = some (.slice s4.1 s4.2.1 s4.2.2) := fun m => by rw [cell_of_row m.1 _ 4 _ _ _ (((LL m).block _ (block_lt HZ.out)).trans HZ.out)]; rfl
  have kl : ∀ m : Lt wq, w.heap.size < m.1.heap.size := fun m => Nat.lt_of_lt_of_le (block_lt HZ.out) (LL m).size
  repeat (refine Gd.wpX_pureP rfl fun K hK => ?_; go_big_quiet_op; refine hK _ ?_; clear hK K)
  refine Gd.wpX_callF (Gd.gR rfl) (GOwS wz.heap.size S.roots) (stable_GOwS _ _) (fun _ => [.slice s0.1 s0.2.1 s0.2.2]) rfl rfl rfl rfl rfl (by kernel_rfl) rfl (fun _ => rfl) (fun m f hf => H0.out m.1 (LW m) (LL m).size) ?_
  simp only [Act.put, List.setIfInBounds_toArray, List.set_cons_zero, List.set_cons_succ]
  repeat (refine Gd.wpX_pureP rfl fun K hK => ?_; go_big_quiet_op; refine hK _ ?_; clear hK K)
  refine Gd.wpX_callF (Gd.gR rfl) (GOwS wz.heap.size S.pool) (stable_GOwS _ _) (fun _ => [.slice s1.1 s1.2.1 s1.2.2]) rfl rfl rfl rfl rfl (by kernel_rfl) rfl (fun _ => rfl) (fun m f hf => H1.out m.1 (LW m) (LL m).size) ?_
  simp only [Act.put, List.setIfInBounds_toArray, List.set_cons_zero, List.set_cons_succ]
  repeat (refine Gd.wpX_pureP rfl fun K hK => ?_; go_big_quiet_op; refine hK _ ?_; clear hK K)
  refine Gd.wpX_callF (Gd.gR rfl) (GOwX kM wz.heap.size S.ms) (stable_GOwX _ _ _) (fun _ => [.slice s2.1 s2.2.1 s2.2.2, .func (.func 74) #[] #[]]) rfl rfl rfl rfl rfl (by kernel_rfl) rfl (fun _ => rfl) (fun m f hf => H2.out m.1 (LW m) (LL m).size) ?_
  simp only [Act.put, List.setIfInBounds_toArray, List.set_cons_zero, List.set_cons_succ]
  repeat (refine Gd.wpX_pureP rfl fun K hK => ?_; go_big_quiet_op; refine hK _ ?_; clear hK K)
  refine Gd.wpX_callF (Gd.gR rfl) (GOwX kR wz.heap.size S.rs) (stable_GOwX _ _ _) (fun _ => [.slice s3.1 s3.2.1 s3.2.2, .func (.func 76) #[] #[]]) rfl rfl rfl rfl rfl (by kernel_rfl) rfl (fun _ => rfl) (fun m f hf => H3.out m.1 (LW m) (LL m).size) ?_
  simp only [Act.put, List.setIfInBounds_toArray, List.set_cons_zero, List.set_cons_succ]
  repeat (refine Gd.wpX_pureP rfl fun K hK => ?_; go_big_quiet_op; refine hK _ ?_; clear hK K)
  refine Gd.wpX_callF (Gd.gR rfl) (GOwX kD wz.heap.size S.ds) (stable_GOwX _ _ _) (fun _ => [.slice s4.1 s4.2.1 s4.2.2, .func (.func 38) #[] #[]]) rfl rfl rfl rfl rfl (by kernel_rfl) rfl (fun _ => rfl) (fun m f hf => H4.out m.1 (LW m) (LL m).size) ?_
  simp only [Act.put, List.setIfInBounds_toArray, List.set_cons_zero, List.set_cons_succ]
  refine Gd.wpX_buildL (Gd.gR rfl) (GStO wz.heap.size S) (stable_GStO _ _) (fun f => [(0, f 5), (1, f 8), (2, f 11), (3, f 14), (4, f 17)]) rfl rfl rfl rfl rfl (fun _ => rfl) (fun m f hf => ?_) ?_
  · obtain ⟨t0, h0, o0⟩ := hf 5 _ rfl rfl
    obtain ⟨t1, h1, o1⟩ := hf 8 _ rfl rfl
    obtain ⟨t2, h2, o2⟩ := hf 11 _ rfl rfl
    obtain ⟨t3, h3, o3⟩ := hf 14 _ rfl rfl
    obtain ⟨t4, h4, o4⟩ := hf 17 _ rfl rfl
    rw [h0, h1, h2, h3, h4]
    exact ⟨_, _, run_buildSt m.1 t0 t1 t2 t3 t4, Below.refl _ _, t0, t1, t2, t3, t4, rfl, o0, o1, o2, o3, o4⟩
  simp only [Act.put, List.setIfInBounds_toArray, List.set_cons_zero, List.set_cons_succ]
  refine Gd.wpX_endL (fun m f hf => ?_)
  obtain ⟨t0, t1, t2, t3, t4, e18, SO⟩ := hf 18 _ rfl
  simp only [fillH]
  simp only [Act.put, List.setIfInBounds_toArray, List.set_cons_zero, List.set_cons_succ]
  rw [e18]
  have LM := Lib.hid (LL m)
  have HSO := Lib.hid SO
  clear hf e18 hw1 LL LW k0 k1 k2 k3 k4 kl SO H0 H1 H2 H3 H4
  generalize m.1 = w2 at *
  generalize f 5 = f5 at *
  generalize f 8 = f8 at *
  generalize f 11 = f11 at *
  generalize f 14 = f14 at *
  generalize f 17 = f17 at *
  clear m f
  have HY2 := Lib.hid ((LM.out.block _ (block_lt HY.out)).trans HY.out)
  have H1 := Lib.hid (stRow_one t0 t1 t2 t3 t4)
  show wpList _ _ _ _ _ _
  unfold storeV
  go_wp2_with (refine wpRow_store rfl 31 _ _ rfl rfl (w.heap.size + 1) (stRow t0 t1 t2 t3 t4) rfl rfl 31 #[.slice none 0 0, .slice none 0 0, .slice none 0 0, .slice none 0 0, .slice none 0 0] HY2.out info_st rfl H1.out ?_)
  refine bodyPost_ret (v := storeV t0 t1 t2 t3 t4) ?_ rfl ⟨t0, t1, t2, t3, t4, rfl, ?_, ?_⟩
  · exact results_cell_row rfl _ _ (w.heap.size + 1) 31 (stRow t0 t1 t2 t3 t4) (0, 0) _ rfl (row_at HY2.out) Tryz.underlying31 rfl info_st
  · exact (HSO.out.gbB (g := w.heap.size + 1) (by omega) (Gb.setRow _ _ _)).mono (by omega)
  · exact ext_setRow (EZ.out.tr LM.out) (by omega) _
end Go.Proofs.YtmmoenkmicimcaaGreatDoor
