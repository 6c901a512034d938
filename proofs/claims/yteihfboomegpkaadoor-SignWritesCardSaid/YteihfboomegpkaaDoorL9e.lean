/- The walks of the laws 09: SignWrites. -/
import Derived.Test.YteihfboomegpkaaDoorL9b
import Derived.Test.YteihfboomegpkaaDoorSd
namespace Go.Proofs.YteihfboomegpkaaDoor
open Go.RowKit
set_option linter.unusedVariables false
set_option maxRecDepth 100000

set_option maxHeartbeats 4000000 in
theorem writes_any {a : Value} {l : List UInt8} (e s k : Int) (w : World) (k0 : -9223372036854775808 ≤ k) (k1 : k < 9223372036854775808) (ha : Rd w a (bvs l)) (hl : l.length ≤ 140737488351232) (E : KTab w 0) :
    Calls Tryd.prog 16 #[.agg #[.int .i64 e, .int .i64 s], a, .int .i64 k] w (RetQ w (.bool true)) := by
  have hn := near_in k
  obtain ⟨e0, e1⟩ := sigE_bd (nearI k) l
  obtain ⟨s0, s1⟩ := sigS_bd (nearI k) l
  have he := inB_yes e0 e1
  have hs := inB_yes s0 s1
  have DC := Lib.hid (dc_enc he hs)
  obtain ⟨wp, hwp, sp⟩ := sg_alloc w e s
  go_enter Tryd.func16, Tryd.ntmps16
  go_wp2_with fail
  rw [← hwp]
  clear hwp
  have x0 := sp.ext
  refine (enc_any _ _ _).mono ?_
  rintro e' w1 ⟨A1, n1, c1, rfl, hn1, r1, b1⟩
  have p1 := sp.keep b1
  have q0 := p1.c0
  have q1 := p1.c1
  go_wp2_with fail
  refine (refenc_any _ _ _).mono ?_
  rintro e' w2 ⟨A2, n2, c2, rfl, hn2, r2, b2⟩
  clear q0 q1
  have x2 := (x0.tr b1).tr b2
  go_wp2_with fail
  refine (decode_any _ (ha.ext x2)).mono ?_
  rintro e' w3 ⟨rfl, b3⟩
  unfold sgV
  obtain ⟨wz, hwz, sz⟩ := sg_alloc w3 (dcE l) (dcS l)
  go_wp2_with fail
  rw [← hwz]
  clear hwz
  have x3 := (x2.tr b3).tr sz.ext
  refine (refdecode_any _ (ha.ext x3)).mono ?_
  rintro e' w4 ⟨rfl, b4⟩
  unfold sgV
  obtain ⟨wv, hwv, sv⟩ := sg_alloc w4 (dcE l) (dcS l)
  go_wp2_with fail
  rw [← hwv]
  clear hwv
  have x4 := (x3.tr b4).tr sv.ext
  refine (near_any _ _ k0 k1).mono ?_
  rintro e' w' ⟨rfl, rfl⟩
  go_wp2_with fail
  refine (sign_yes _ _ hn (ha.ext x4) (by omega) (E.below x4)).mono ?_
  rintro e' w5 ⟨rfl, b5⟩
  unfold sgV
  obtain ⟨wt, hwt, st⟩ := sg_alloc w5 (sigE (nearI k) l) (sigS (nearI k) l)
  go_wp2_with fail
  rw [← hwt]
  clear hwt
  have x5 := (x4.tr b5).tr st.ext
  refine (enc_yes _ _ _ he hs).mono ?_
  rintro e' w6 ⟨A6, n6, c6, rfl, hn6, o6, b6⟩
  have x6 := x5.tr b6
  go_wp2_with fail
  refine (decode_any _ o6.rd).mono ?_
  rw [DC.out.1, DC.out.2.1, DC.out.2.2]
  rintro e' w7 ⟨rfl, b7⟩
  unfold sgV
  obtain ⟨wu, hwu, su⟩ := sg_alloc w7 (sigE (nearI k) l) (sigS (nearI k) l)
  go_wp2_with fail
  rw [← hwu]
  clear hwu
  have x7 := (x6.tr b7).tr su.ext
  refine (awake9_any _ (E.below x7)).mono ?_
  rintro e' w8 ⟨rfl, b8⟩
  have x8 := x7.tr b8
  go_wp2_with fail
  have y2 := ((((((((b3.tr sz.ext).tr b4).tr sv.ext).tr b5).tr st.ext).tr b6).tr b7).tr su.ext).tr b8
  refine (same_any _ (r1.ext (b2.tr y2)) (r2.ext y2)).mono ?_
  rw [decide_eq_true rfl]
  rintro e' w9 ⟨rfl, b9⟩
  have tz := sz.keep ((((((((b4.tr sv.ext).tr b5).tr st.ext).tr b6).tr b7).tr su.ext).tr b8).tr b9)
  have tv := sv.keep ((((((b5.tr st.ext).tr b6).tr b7).tr su.ext).tr b8).tr b9)
  have tt := st.keep ((((b6.tr b7).tr su.ext).tr b8).tr b9)
  have tu := su.keep (b8.tr b9)
  have qz0 := tz.c0
  have qz1 := tz.c1
  have qv0 := tv.c0
  have qv1 := tv.c1
  have qt0 := tt.c0
  have qt1 := tt.c1
  have qu0 := tu.c0
  have qu1 := tu.c1
  go_wp2_with fail
  go_ret
  exact ⟨rfl, x8.tr b9⟩
end Go.Proofs.YteihfboomegpkaaDoor
