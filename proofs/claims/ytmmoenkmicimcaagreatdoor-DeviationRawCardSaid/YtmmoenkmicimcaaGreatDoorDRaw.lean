/- Parts Ja Jb Jc Jd Ra Rd Rh Rc of the proof. -/
import Derived.Test.YtmmoenkmicimcaaGreatDoorDRav
import Derived.Deep.CutRange
import Derived.BigQuiet
import Derived.Test.YtmmoenkmicimcaaGreatDoorDRar
import Derived.Test.YtmmoenkmicimcaaGreatDoorDRat
import Derived.Test.YtmmoenkmicimcaaGreatDoorDRao
namespace Go.Proofs.YtmmoenkmicimcaaGreatDoor
open Go.RowKit
set_option linter.unusedVariables false
set_option maxRecDepth 100000
/-- Two certificates that came. -/
structure FoZ (w wr : World) (a b : NC) : Prop where
  a : NcAt wr w.heap.size a
  b : NcAt wr (w.heap.size + 1) b
  ext : Ext w wr
theorem FoZ.tr {w wr wx : World} {a b : NC} (h : FoZ w wr a b) (e : Ext wr wx) : FoZ w wx a b := ⟨h.a.ext e, h.b.ext e, h.ext.tr e⟩
theorem fo_alloc (w : World) (a b : NC) : ∃ wz, wz = (w.alloc (.cells #[.string (bstr a.st), .int .i64 a.kind, .int .i64 a.num, .int .i64 a.iss, .int .i64 a.own, .int .i64 a.key, .int .i64 a.fr, .int .i64 a.un, .int .i64 a.to, .int .i64 a.e, .int .i64 a.s] 39)).alloc (.cells #[.string (bstr b.st), .int .i64 b.kind, .int .i64 b.num, .int .i64 b.iss, .int .i64 b.own, .int .i64 b.key, .int .i64 b.fr, .int .i64 b.un, .int .i64 b.to, .int .i64 b.e, .int .i64 b.s] 39) ∧ FoZ w wz a b := by
  obtain ⟨w1, hw1, e1, T1⟩ := nc_alloc w a
  have s1 : w1.heap.size = w.heap.size + 1 := by rw [hw1]; simp
  rw [← hw1]
  clear hw1
  obtain ⟨w2, hw2, e2, T2⟩ := nc_alloc w1 b
  rw [s1] at T2
  exact ⟨w2, hw2, T1.ext e2, T2, e1.tr e2⟩
theorem bstr_eqJ (s t : List UInt8) : ((bstr s).toList == (bstr t).toList) = decide (s = t) := by
  unfold bstr
  rw [Bool.eq_iff_iff]
  simp
theorem fol_no {day : Int} {a b : NC} {r : Bool} (hr : folB day a b = r) (h : ¬ folP day a b) : r = false := by rw [← hr]; exact decide_eq_false h
theorem fol_yes {day : Int} {a b : NC} {r : Bool} (hr : folB day a b = r) (h : folP day a b) : r = true := by rw [← hr]; exact decide_eq_true h
set_option maxHeartbeats 2000000 in
theorem nationalchain_follows (a b : NC) (day : Int) (w : World) (ha : smN a) (hb : smN b) (E : KTab w 1) :
    Calls Tryz.prog 154 #[ncV a, ncV b, .int .i64 day] w (RetQ w (.bool (folB day a b))) := by
  have HA := Lib.hid (fun W => nationalcert_on a day W ha)
  have HB := Lib.hid (fun W => nationalcert_on b day W hb)
  have HF := Lib.hid (fun W (e : Ext w W) => nverify_any a.key b W hb (E.below e))
  obtain ⟨r, hr⟩ : ∃ r, folB day a b = r := ⟨_, rfl⟩
  rw [hr]
  have HR := Lib.hid hr
  have HQ := Lib.hid (bstr_eqJ a.st b.st)
  clear hr ha hb
  obtain ⟨wz, hwz, zz⟩ := fo_alloc w a b
  unfold ncV
  go_enter Tryz.func154, Tryz.ntmps154
  go_upto_region 1 with fail
  rw [← hwz]
  clear hwz
  obtain ⟨p0, p1, p2, p3, p4, p5, p6, p7, p8, p9, p10⟩ := (zz.a).cells
  have pf0 := (zz.a).frozen 0
  have pf1 := (zz.a).frozen 1
  have pf2 := (zz.a).frozen 2
  have pf3 := (zz.a).frozen 3
  have pf4 := (zz.a).frozen 4
  have pf5 := (zz.a).frozen 5
  have pf6 := (zz.a).frozen 6
  have pf7 := (zz.a).frozen 7
  have pf8 := (zz.a).frozen 8
  have pf9 := (zz.a).frozen 9
  have pf10 := (zz.a).frozen 10
  have pl := (zz.a).lt
  obtain ⟨q0, q1, q2, q3, q4, q5, q6, q7, q8, q9, q10⟩ := (zz.b).cells
  have qf0 := (zz.b).frozen 0
  have qf1 := (zz.b).frozen 1
  have qf2 := (zz.b).frozen 2
  have qf3 := (zz.b).frozen 3
  have qf4 := (zz.b).frozen 4
  have qf5 := (zz.b).frozen 5
  have qf6 := (zz.b).frozen 6
  have qf7 := (zz.b).frozen 7
  have qf8 := (zz.b).frozen 8
  have qf9 := (zz.b).frozen 9
  have qf10 := (zz.b).frozen 10
  have ql := (zz.b).lt
  by_cases h1 : a.st = b.st
  case neg =>
    have hs : ((bstr a.st).toList == (bstr b.st).toList) = false := by rw [HQ.out]; exact decide_eq_false h1
    have HN := Lib.hid (fol_no HR.out fun q => h1 q.1)
    clear h1
    go_wp2_with fail
    go_ret
    exact ⟨by rw [HN.out]; rfl, zz.ext⟩
  have hs : ((bstr a.st).toList == (bstr b.st).toList) = true := by rw [HQ.out]; exact decide_eq_true h1
  have H1 := Lib.hid h1
  clear h1
  by_cases h2 : b.iss = a.own
  case neg =>
    have hb2 : (b.iss == a.own) = false := by simpa using h2
    have HN := Lib.hid (fol_no HR.out fun q => h2 q.2.1)
    clear h2
    go_wp2_with fail
    go_ret
    exact ⟨by rw [HN.out]; rfl, zz.ext⟩
  have hb2 : (b.iss == a.own) = true := by simpa using h2
  have H2 := Lib.hid h2
  clear h2
  by_cases h3 : a.kind = 1
  · have hb3 : (a.kind == 1) = true := by simpa using h3
    have H3 := Lib.hid (show a.kind = 1 ∨ a.kind = 2 from .inl h3)
    clear h3
    by_cases h4 : b.kind ≠ 1
    case neg =>
      have hb5 : (b.kind != 1) = false := by simpa using h4
      have HN := Lib.hid (fol_no HR.out fun q => h4 q.2.2.2.1)
      clear h4
      go_wp2_with fail
      go_ret
      exact ⟨by rw [HN.out]; rfl, zz.ext⟩
    have hb5 : (b.kind != 1) = true := by simpa using h4
    have H4 := Lib.hid h4
    clear h4
    go_wp2_with fail
    refine (HA.out _).mono ?_
    rintro e w2 ⟨rfl, b2⟩
    have Z2 := zz.tr b2
    clear p0 pf0 p1 pf1 p2 pf2 p3 pf3 p4 pf4 p5 pf5 p6 pf6 p7 pf7 p8 pf8 p9 pf9 p10 pf10 pl
    clear q0 qf0 q1 qf1 q2 qf2 q3 qf3 q4 qf4 q5 qf5 q6 qf6 q7 qf7 q8 qf8 q9 qf9 q10 qf10 ql
    clear zz b2
    by_cases h5 : onN a day = 0
    case neg =>
      have hb6 : (onN a day == 0) = false := by simpa using h5
      have HN := Lib.hid (fol_no HR.out fun q => h5 q.2.2.2.2.1)
      clear h5
      go_wp2_with fail
      go_ret
      exact ⟨by rw [HN.out]; rfl, Z2.ext⟩
    have hb6 : (onN a day == 0) = true := by simpa using h5
    have H5 := Lib.hid h5
    clear h5
    obtain ⟨p0, p1, p2, p3, p4, p5, p6, p7, p8, p9, p10⟩ := (Z2.a).cells
    have pf0 := (Z2.a).frozen 0
    have pf1 := (Z2.a).frozen 1
    have pf2 := (Z2.a).frozen 2
    have pf3 := (Z2.a).frozen 3
    have pf4 := (Z2.a).frozen 4
    have pf5 := (Z2.a).frozen 5
    have pf6 := (Z2.a).frozen 6
    have pf7 := (Z2.a).frozen 7
    have pf8 := (Z2.a).frozen 8
    have pf9 := (Z2.a).frozen 9
    have pf10 := (Z2.a).frozen 10
    have pl := (Z2.a).lt
    obtain ⟨q0, q1, q2, q3, q4, q5, q6, q7, q8, q9, q10⟩ := (Z2.b).cells
    have qf0 := (Z2.b).frozen 0
    have qf1 := (Z2.b).frozen 1
    have qf2 := (Z2.b).frozen 2
    have qf3 := (Z2.b).frozen 3
    have qf4 := (Z2.b).frozen 4
    have qf5 := (Z2.b).frozen 5
    have qf6 := (Z2.b).frozen 6
    have qf7 := (Z2.b).frozen 7
    have qf8 := (Z2.b).frozen 8
    have qf9 := (Z2.b).frozen 9
    have qf10 := (Z2.b).frozen 10
    have ql := (Z2.b).lt
    go_wp2_with fail
    refine (HB.out _).mono ?_
    rintro e w3 ⟨rfl, b3⟩
    have Z3 := Z2.tr b3
    clear p0 pf0 p1 pf1 p2 pf2 p3 pf3 p4 pf4 p5 pf5 p6 pf6 p7 pf7 p8 pf8 p9 pf9 p10 pf10 pl
    clear q0 qf0 q1 qf1 q2 qf2 q3 qf3 q4 qf4 q5 qf5 q6 qf6 q7 qf7 q8 qf8 q9 qf9 q10 qf10 ql
    clear Z2 b3
    by_cases h6 : onN b day = 0
    case neg =>
      have hb7 : (onN b day == 0) = false := by simpa using h6
      have HN := Lib.hid (fol_no HR.out fun q => h6 q.2.2.2.2.2.1)
      clear h6
      go_wp2_with fail
      go_ret
      exact ⟨by rw [HN.out]; rfl, Z3.ext⟩
    have hb7 : (onN b day == 0) = true := by simpa using h6
    have H6 := Lib.hid h6
    clear h6
    obtain ⟨p0, p1, p2, p3, p4, p5, p6, p7, p8, p9, p10⟩ := (Z3.a).cells
    have pf0 := (Z3.a).frozen 0
    have pf1 := (Z3.a).frozen 1
    have pf2 := (Z3.a).frozen 2
    have pf3 := (Z3.a).frozen 3
    have pf4 := (Z3.a).frozen 4
    have pf5 := (Z3.a).frozen 5
    have pf6 := (Z3.a).frozen 6
    have pf7 := (Z3.a).frozen 7
    have pf8 := (Z3.a).frozen 8
    have pf9 := (Z3.a).frozen 9
    have pf10 := (Z3.a).frozen 10
    have pl := (Z3.a).lt
    obtain ⟨q0, q1, q2, q3, q4, q5, q6, q7, q8, q9, q10⟩ := (Z3.b).cells
    have qf0 := (Z3.b).frozen 0
    have qf1 := (Z3.b).frozen 1
    have qf2 := (Z3.b).frozen 2
    have qf3 := (Z3.b).frozen 3
    have qf4 := (Z3.b).frozen 4
    have qf5 := (Z3.b).frozen 5
    have qf6 := (Z3.b).frozen 6
    have qf7 := (Z3.b).frozen 7
    have qf8 := (Z3.b).frozen 8
    have qf9 := (Z3.b).frozen 9
    have qf10 := (Z3.b).frozen 10
    have ql := (Z3.b).lt
    go_wp2_with fail
    refine (HF.out _ Z3.ext).mono ?_
    rintro e w4 ⟨rfl, b4⟩
    have Z4 := Z3.tr b4
    clear p0 pf0 p1 pf1 p2 pf2 p3 pf3 p4 pf4 p5 pf5 p6 pf6 p7 pf7 p8 pf8 p9 pf9 p10 pf10 pl
    clear q0 qf0 q1 qf1 q2 qf2 q3 qf3 q4 qf4 q5 qf5 q6 qf6 q7 qf7 q8 qf8 q9 qf9 q10 qf10 ql
    clear Z3 b4
    have HN := Lib.hid (show r = vfN a.key b from by
      cases hv : vfN a.key b with
      | true => exact fol_yes HR.out ⟨H1.out, H2.out, H3.out, H4.out, H5.out, H6.out, hv⟩
      | false => exact fol_no HR.out fun q => by have := q.2.2.2.2.2.2; rw [hv] at this; cases this)
    go_wp2_with fail
    go_ret
    exact ⟨by rw [HN.out]; rfl, Z4.ext⟩
  have hb3 : (a.kind == 1) = false := by simpa using h3
  by_cases h8 : a.kind = 2
  case neg =>
    have hb4 : (a.kind == 2) = false := by simpa using h8
    have HN := Lib.hid (fol_no HR.out fun q => q.2.2.1.elim h3 h8)
    clear h3 h8
    go_wp2_with fail
    go_ret
    exact ⟨by rw [HN.out]; rfl, zz.ext⟩
  have hb4 : (a.kind == 2) = true := by simpa using h8
  have H3 := Lib.hid (show a.kind = 1 ∨ a.kind = 2 from .inr h8)
  clear h3 h8
  by_cases h4 : b.kind ≠ 1
  case neg =>
    have hb5 : (b.kind != 1) = false := by simpa using h4
    have HN := Lib.hid (fol_no HR.out fun q => h4 q.2.2.2.1)
    clear h4
    go_wp2_with fail
    go_ret
    exact ⟨by rw [HN.out]; rfl, zz.ext⟩
  have hb5 : (b.kind != 1) = true := by simpa using h4
  have H4 := Lib.hid h4
  clear h4
  go_wp2_with fail
  refine (HA.out _).mono ?_
  rintro e w2 ⟨rfl, b2⟩
  have Z2 := zz.tr b2
  clear p0 pf0 p1 pf1 p2 pf2 p3 pf3 p4 pf4 p5 pf5 p6 pf6 p7 pf7 p8 pf8 p9 pf9 p10 pf10 pl
  clear q0 qf0 q1 qf1 q2 qf2 q3 qf3 q4 qf4 q5 qf5 q6 qf6 q7 qf7 q8 qf8 q9 qf9 q10 qf10 ql
  clear zz b2
  by_cases h5 : onN a day = 0
  case neg =>
    have hb6 : (onN a day == 0) = false := by simpa using h5
    have HN := Lib.hid (fol_no HR.out fun q => h5 q.2.2.2.2.1)
    clear h5
    go_wp2_with fail
    go_ret
    exact ⟨by rw [HN.out]; rfl, Z2.ext⟩
  have hb6 : (onN a day == 0) = true := by simpa using h5
  have H5 := Lib.hid h5
  clear h5
  obtain ⟨p0, p1, p2, p3, p4, p5, p6, p7, p8, p9, p10⟩ := (Z2.a).cells
  have pf0 := (Z2.a).frozen 0
  have pf1 := (Z2.a).frozen 1
  have pf2 := (Z2.a).frozen 2
  have pf3 := (Z2.a).frozen 3
  have pf4 := (Z2.a).frozen 4
  have pf5 := (Z2.a).frozen 5
  have pf6 := (Z2.a).frozen 6
  have pf7 := (Z2.a).frozen 7
  have pf8 := (Z2.a).frozen 8
  have pf9 := (Z2.a).frozen 9
  have pf10 := (Z2.a).frozen 10
  have pl := (Z2.a).lt
  obtain ⟨q0, q1, q2, q3, q4, q5, q6, q7, q8, q9, q10⟩ := (Z2.b).cells
  have qf0 := (Z2.b).frozen 0
  have qf1 := (Z2.b).frozen 1
  have qf2 := (Z2.b).frozen 2
  have qf3 := (Z2.b).frozen 3
  have qf4 := (Z2.b).frozen 4
  have qf5 := (Z2.b).frozen 5
  have qf6 := (Z2.b).frozen 6
  have qf7 := (Z2.b).frozen 7
  have qf8 := (Z2.b).frozen 8
  have qf9 := (Z2.b).frozen 9
  have qf10 := (Z2.b).frozen 10
  have ql := (Z2.b).lt
  go_wp2_with fail
  refine (HB.out _).mono ?_
  rintro e w3 ⟨rfl, b3⟩
  have Z3 := Z2.tr b3
  clear p0 pf0 p1 pf1 p2 pf2 p3 pf3 p4 pf4 p5 pf5 p6 pf6 p7 pf7 p8 pf8 p9 pf9 p10 pf10 pl
  clear q0 qf0 q1 qf1 q2 qf2 q3 qf3 q4 qf4 q5 qf5 q6 qf6 q7 qf7 q8 qf8 q9 qf9 q10 qf10 ql
  clear Z2 b3
  by_cases h6 : onN b day = 0
  case neg =>
    have hb7 : (onN b day == 0) = false := by simpa using h6
    have HN := Lib.hid (fol_no HR.out fun q => h6 q.2.2.2.2.2.1)
    clear h6
    go_wp2_with fail
    go_ret
    exact ⟨by rw [HN.out]; rfl, Z3.ext⟩
  have hb7 : (onN b day == 0) = true := by simpa using h6
  have H6 := Lib.hid h6
  clear h6
  obtain ⟨p0, p1, p2, p3, p4, p5, p6, p7, p8, p9, p10⟩ := (Z3.a).cells
  have pf0 := (Z3.a).frozen 0
  have pf1 := (Z3.a).frozen 1
  have pf2 := (Z3.a).frozen 2
  have pf3 := (Z3.a).frozen 3
  have pf4 := (Z3.a).frozen 4
  have pf5 := (Z3.a).frozen 5
  have pf6 := (Z3.a).frozen 6
  have pf7 := (Z3.a).frozen 7
  have pf8 := (Z3.a).frozen 8
  have pf9 := (Z3.a).frozen 9
  have pf10 := (Z3.a).frozen 10
  have pl := (Z3.a).lt
  obtain ⟨q0, q1, q2, q3, q4, q5, q6, q7, q8, q9, q10⟩ := (Z3.b).cells
  have qf0 := (Z3.b).frozen 0
  have qf1 := (Z3.b).frozen 1
  have qf2 := (Z3.b).frozen 2
  have qf3 := (Z3.b).frozen 3
  have qf4 := (Z3.b).frozen 4
  have qf5 := (Z3.b).frozen 5
  have qf6 := (Z3.b).frozen 6
  have qf7 := (Z3.b).frozen 7
  have qf8 := (Z3.b).frozen 8
  have qf9 := (Z3.b).frozen 9
  have qf10 := (Z3.b).frozen 10
  have ql := (Z3.b).lt
  go_wp2_with fail
  refine (HF.out _ Z3.ext).mono ?_
  rintro e w4 ⟨rfl, b4⟩
  have Z4 := Z3.tr b4
  clear p0 pf0 p1 pf1 p2 pf2 p3 pf3 p4 pf4 p5 pf5 p6 pf6 p7 pf7 p8 pf8 p9 pf9 p10 pf10 pl
  clear q0 qf0 q1 qf1 q2 qf2 q3 qf3 q4 qf4 q5 qf5 q6 qf6 q7 qf7 q8 qf8 q9 qf9 q10 qf10 ql
  clear Z3 b4
  have HN := Lib.hid (show r = vfN a.key b from by
    cases hv : vfN a.key b with
    | true => exact fol_yes HR.out ⟨H1.out, H2.out, H3.out, H4.out, H5.out, H6.out, hv⟩
    | false => exact fol_no HR.out fun q => by have := q.2.2.2.2.2.2; rw [hv] at this; cases this)
  go_wp2_with fail
  go_ret
  exact ⟨by rw [HN.out]; rfl, Z4.ext⟩
end Go.Proofs.YtmmoenkmicimcaaGreatDoor
namespace Go.Proofs.YtmmoenkmicimcaaGreatDoor
open Go.RowKit
set_option linter.unusedVariables false
set_option maxRecDepth 100000
theorem if_okB (w : World) (p : Prop) [Decidable p] (q : Bool) : (if p then (Result.ok (Value.bool q) w) else Result.ok (Value.bool false) w) = Result.ok (Value.bool (decide p && q)) w := by
  by_cases h : p
  · simp [h]
  · simp [h]
theorem bstr_eqP (s t : List UInt8) : ((bstr s).toList = (bstr t).toList) = (s = t) := by
  unfold bstr
  simp
theorem nc_eqB (x y : NC) : (decide (x.st = y.st) && (decide (x.kind = y.kind) && (decide (x.num = y.num) && (decide (x.iss = y.iss) && (decide (x.own = y.own) && (decide (x.key = y.key) && (decide (x.fr = y.fr) && (decide (x.un = y.un) && (decide (x.to = y.to) && (decide (x.e = y.e) && decide (x.s = y.s))))))))))) = decide (x = y) := by
  have h : (x = y) ↔ (x.st = y.st ∧ x.kind = y.kind ∧ x.num = y.num ∧ x.iss = y.iss ∧ x.own = y.own ∧ x.key = y.key ∧ x.fr = y.fr ∧ x.un = y.un ∧ x.to = y.to ∧ x.e = y.e ∧ x.s = y.s) := by
    constructor
    · rintro rfl; simp
    · intro h; exact NC.tup_inj ⟨h.1, by simp only [NC.nums, h.2.1, h.2.2.1, h.2.2.2.1, h.2.2.2.2.1, h.2.2.2.2.2.1, h.2.2.2.2.2.2.1, h.2.2.2.2.2.2.2.1, h.2.2.2.2.2.2.2.2.1, h.2.2.2.2.2.2.2.2.2.1, h.2.2.2.2.2.2.2.2.2.2]⟩
  rw [Bool.eq_iff_iff]
  simp only [Bool.and_eq_true, decide_eq_true_eq]
  exact h.symm
theorem run_eqlNc (w : World) (x y : NC) : (binOp .eql 39 (ncV x) (ncV y)).run Tryz.prog w = .ok (.bool (decide (x = y))) w := by
  rw [← nc_eqB]
  unfold ncV
  go_simp
  simp only [bstr_eqP, if_okB, Bool.and_true]
/-- What Index returns. -/
def idxN (l : List NC) (c : NC) : Int := if c ∈ l then (l.idxOf c : Int) else -1
theorem idx_atN : ∀ {l : List NC} {c : NC} {k : Nat}, l[k]? = some c → (∀ j, j < k → l[j]? ≠ some c) → l.idxOf c = k
  | [], c, k, h, _ => by simp at h
  | x :: l, c, 0, h, _ => by
    have : x = c := by simpa using h
    rw [this, List.idxOf_cons_self]
  | x :: l, c, k + 1, h, hn => by
    have hx : x ≠ c := fun e => hn 0 (Nat.zero_lt_succ _) (by simp [e])
    rw [List.idxOf_cons, beq_false_of_ne hx, cond_false, idx_atN (l := l) (k := k) (by simpa using h) (fun j hj e => hn (j + 1) (Nat.succ_lt_succ hj) (by simpa using e))]
theorem idx_at {l : List NC} {c : NC} {k : Nat} (h : l[k]? = some c) (hn : ∀ j, j < k → l[j]? ≠ some c) : idxN l c = (k : Int) := by
  unfold idxN
  rw [if_pos (List.mem_of_getElem? h), idx_atN h hn]
theorem idx_no {l : List NC} {c : NC} (hn : ∀ j, j < l.length → l[j]? ≠ some c) : c ∉ l := fun hm => by
  obtain ⟨j, hj, e⟩ := List.getElem_of_mem hm
  exact hn j hj (by rw [List.getElem?_eq_getElem hj, e])
theorem not_upto {l : List NC} {c y : NC} {k : Nat} (hn : ∀ j, j < k → l[j]? ≠ some c) (hy : l[k]? = some y) (hne : y ≠ c) : ∀ j, j < k + 1 → l[j]? ≠ some c := fun j hj e => by
  rcases Nat.lt_succ_iff_lt_or_eq.1 hj with h | rfl
  · exact hn j h e
  · rw [hy] at e
    injection e with e
    exact hne e
/-- How many certificates are of a state. -/
def cntN (l : List NC) (st : List UInt8) : Nat := (l.filter fun c => decide (c.st = st)).length
theorem take_snocN {l : List NC} {y : NC} {k : Nat} (h : l[k]? = some y) : l.take (k + 1) = l.take k ++ [y] := by
  rw [List.take_add_one, h]
  rfl
theorem num_yes {l : List NC} {st : List UInt8} {y : NC} {k : Nat} (h : l[k]? = some y) (e : y.st = st) : cntN (l.take (k + 1)) st = cntN (l.take k) st + 1 := by
  unfold cntN
  rw [take_snocN h, List.filter_append, List.filter_cons_of_pos (by simpa using e)]
  simp
theorem num_no {l : List NC} {st : List UInt8} {y : NC} {k : Nat} (h : l[k]? = some y) (e : y.st ≠ st) : cntN (l.take (k + 1)) st = cntN (l.take k) st := by
  unfold cntN
  rw [take_snocN h, List.filter_append, List.filter_cons_of_neg (by simpa using e)]
  simp
theorem num_le (l : List NC) (st : List UInt8) : cntN l st ≤ l.length := List.length_filter_le _ _
set_option maxHeartbeats 2000000 in
theorem indexN_any {v : Value} {l : List NC} (c : NC) (w : World) (hv : RdN w v l) :
    Calls Tryz.prog 124 #[v, ncV c] w (RetQ w (.int .i64 (idxN l c))) := by
  obtain ⟨A, n, cp, rfl, hn, hnc, hcm, hel⟩ := hv.at_
  subst hn
  have HEL := Lib.hid hel
  unfold maxLen at hcm
  clear hel
  obtain ⟨wz, hwz, ez, TZ⟩ := nc_alloc w c
  have HEQ := Lib.hid (fun W y => run_eqlNc W c y)
  have HZ := Lib.hid TZ
  clear TZ
  unfold ncV
  go_enter Tryz.func124, Tryz.ntmps124
  go_wp2_with fail
  rw [← hwz]
  clear hwz
  go_loopw [8] (fun i wr => ∃ k : Nat, k ≤ l.length ∧ i = .int .i64 (k : Int) ∧ Hid (∀ j, j < k → l[j]? ≠ some c) ∧ Ext wz wr) (fun i _ => l.length - (intOf i).toNat)
  case atStart => exact ⟨0, Nat.zero_le _, rfl, fun j hj => absurd hj (Nat.not_lt_zero _), Below.refl _ _⟩
  case round =>
    obtain ⟨k, hk, rfl, HN, X⟩ := hrel
    by_cases hlt : k < l.length
    case neg =>
      obtain rfl : k = l.length := by omega
      have HR := Lib.hid (idx_no HN.out)
      have XX := Lib.hid (ez.tr X)
      clear X
      go_wp2_with fail
      go_ret
      exact ⟨by unfold idxN; rw [if_neg HR.out]; rfl, XX.out⟩
    case pos =>
    obtain ⟨y, hy⟩ : ∃ y, l[k]? = some y := ⟨_, List.getElem?_eq_getElem hlt⟩
    obtain ⟨b, o, rfl, hbl, hc⟩ := HEL.out (by omega)
    have hcy := hc k y hy
    have HY := Lib.hid hy
    have eqq := fun W => HEQ.out W y
    unfold ncV at eqq
    clear hy hc
    have wi1 : IntKind.i64.wrap ((k : Int)) = (k : Int) := IntWalk.i64_in _ (by omega)
    have zi1 : (0 : Int) ≤ (k : Int) := by omega
    have li1 : (k : Int) < (l.length : Int) := by omega
    have ti1 : ((k : Int)).toNat = k := by omega
    have q0 := ((ez.tr X).cell (p := ⟨b, o + k * 11, none⟩) hbl).trans hcy.1
    have q1 := ((ez.tr X).cell (p := ⟨b, o + k * 11 + 1, none⟩) hbl).trans hcy.2.1
    have q2 := ((ez.tr X).cell (p := ⟨b, o + k * 11 + 2, none⟩) hbl).trans hcy.2.2.1
    have q3 := ((ez.tr X).cell (p := ⟨b, o + k * 11 + 3, none⟩) hbl).trans hcy.2.2.2.1
    have q4 := ((ez.tr X).cell (p := ⟨b, o + k * 11 + 4, none⟩) hbl).trans hcy.2.2.2.2.1
    have q5 := ((ez.tr X).cell (p := ⟨b, o + k * 11 + 5, none⟩) hbl).trans hcy.2.2.2.2.2.1
    have q6 := ((ez.tr X).cell (p := ⟨b, o + k * 11 + 6, none⟩) hbl).trans hcy.2.2.2.2.2.2.1
    have q7 := ((ez.tr X).cell (p := ⟨b, o + k * 11 + 7, none⟩) hbl).trans hcy.2.2.2.2.2.2.2.1
    have q8 := ((ez.tr X).cell (p := ⟨b, o + k * 11 + 8, none⟩) hbl).trans hcy.2.2.2.2.2.2.2.2.1
    have q9 := ((ez.tr X).cell (p := ⟨b, o + k * 11 + 9, none⟩) hbl).trans hcy.2.2.2.2.2.2.2.2.2.1
    have q10 := ((ez.tr X).cell (p := ⟨b, o + k * 11 + 10, none⟩) hbl).trans hcy.2.2.2.2.2.2.2.2.2.2
    clear hcy
    obtain ⟨p0, p1, p2, p3, p4, p5, p6, p7, p8, p9, p10⟩ := (HZ.out.ext X).cells
    have pl := (HZ.out.ext X).lt
    obtain ⟨d, hd⟩ : ∃ d, decide (c = y) = d := ⟨_, rfl⟩
    rw [hd] at eqq
    have HD := Lib.hid hd
    clear hd
    go_upto_region 4 with fail
    (go_quiet (fail); have x9 := Ext.drewN_ wr nq; generalize wr.drewN nq = wb at *)
    have X9 := X.tr x9
    clear x9 X q0 q1 q2 q3 q4 q5 q6 q7 q8 q9 q10 p0 p1 p2 p3 p4 p5 p6 p7 p8 p9 p10 pl eqq
    cases d
    · have HNN := Lib.hid (not_upto HN.out HY.out (by have := HD.out; intro e; rw [e] at this; simp at this))
      go_wp2_with fail
      go_roundw
      case rel => exact ⟨k + 1, by omega, by go_num, HNN, X9⟩
      case measure => simp [intOf]; omega
    · have HC : Hid (l[k]? = some c) := Lib.hid (by have := HD.out; have e := of_decide_eq_true this; rw [HY.out, e])
      have XX := Lib.hid (ez.tr X9)
      clear X9
      go_wp2_with fail
      go_ret
      exact ⟨by rw [idx_at HC.out HN.out]; rfl, XX.out⟩
set_option maxHeartbeats 1000000 in
theorem containsN_any {v : Value} {l : List NC} (c : NC) (w : World) (hv : RdN w v l) :
    Calls Tryz.prog 81 #[v, ncV c] w (RetQ w (.bool (decide (c ∈ l)))) := by
  obtain ⟨wz, hwz, ez, TZ⟩ := nc_alloc w c
  have HX := Lib.hid (indexN_any c wz (hv.ext ez))
  clear hv
  unfold ncV
  go_enter Tryz.func81, Tryz.ntmps81
  go_upto_region 1 with fail
  rw [← hwz]
  clear hwz
  obtain ⟨p0, p1, p2, p3, p4, p5, p6, p7, p8, p9, p10⟩ := (TZ).cells
  have pf0 := (TZ).frozen 0
  have pf1 := (TZ).frozen 1
  have pf2 := (TZ).frozen 2
  have pf3 := (TZ).frozen 3
  have pf4 := (TZ).frozen 4
  have pf5 := (TZ).frozen 5
  have pf6 := (TZ).frozen 6
  have pf7 := (TZ).frozen 7
  have pf8 := (TZ).frozen 8
  have pf9 := (TZ).frozen 9
  have pf10 := (TZ).frozen 10
  have pl := (TZ).lt
  go_wp2_with fail
  refine HX.out.mono ?_
  rintro e w2 ⟨rfl, b2⟩
  have XX := Lib.hid (ez.tr b2)
  clear p0 pf0 p1 pf1 p2 pf2 p3 pf3 p4 pf4 p5 pf5 p6 pf6 p7 pf7 p8 pf8 p9 pf9 p10 pf10 pl
  clear TZ ez b2 HX
  by_cases h : c ∈ l
  · have e1 : idxN l c = (l.idxOf c : Int) := if_pos h
    rw [e1]
    have HD := Lib.hid (decide_eq_true h)
    have hg : (0 : Int) ≤ (l.idxOf c : Int) := Int.natCast_nonneg _
    clear e1 h
    generalize (l.idxOf c : Int) = z at *
    go_wp2_with fail
    go_ret
    exact ⟨by rw [HD.out]; rfl, XX.out⟩
  · have e1 : idxN l c = -1 := if_neg h
    rw [e1]
    have HD := Lib.hid (decide_eq_false h)
    clear e1 h
    go_wp2_with fail
    go_ret
    exact ⟨by rw [HD.out]; rfl, XX.out⟩
set_option maxHeartbeats 2000000 in
theorem numberN_any {v : Value} {l : List NC} (st : List UInt8) (w : World) (hv : RdN w v l) :
    Calls Tryz.prog 117 #[v, .string (bstr st)] w (RetQ w (.int .i64 (cntN l st : Int))) := by
  obtain ⟨A, n, cp, rfl, hn, hnc, hcm, hel⟩ := hv.at_
  subst hn
  have HEL := Lib.hid hel
  unfold maxLen at hcm
  clear hel
  have HQ := Lib.hid (fun s => bstr_eqJ s st)
  go_enter Tryz.func117, Tryz.ntmps117
  go_wp2_with fail
  go_loopw [5, 10] (fun s i wr => ∃ k q : Nat, k ≤ l.length ∧ i = .int .i64 (k : Int) ∧ s = .int .i64 (q : Int) ∧ q ≤ k ∧ Hid (q = cntN (l.take k) st) ∧ Ext w wr) (fun _ i _ => l.length - (intOf i).toNat)
  case atStart => exact ⟨0, 0, Nat.zero_le _, rfl, rfl, Nat.le_refl _, rfl, Below.refl _ _⟩
  case round =>
    obtain ⟨k, q, hk, rfl, rfl, hqk, HN, X⟩ := hrel
    by_cases hlt : k < l.length
    case neg =>
      obtain rfl : k = l.length := by omega
      have HR := Lib.hid (show q = cntN l st by have := HN.out; rwa [List.take_length] at this)
      have XX := Lib.hid X
      clear X
      go_wp2_with fail
      go_ret
      exact ⟨by rw [HR.out]; rfl, XX.out⟩
    case pos =>
    obtain ⟨y, hy⟩ : ∃ y, l[k]? = some y := ⟨_, List.getElem?_eq_getElem hlt⟩
    obtain ⟨b, o, rfl, hbl, hc⟩ := HEL.out (by omega)
    have hcy := hc k y hy
    have HY := Lib.hid hy
    clear hy hc
    have wi3 : IntKind.i64.wrap ((k : Int)) = (k : Int) := IntWalk.i64_in _ (by omega)
    have zi3 : (0 : Int) ≤ (k : Int) := by omega
    have li3 : (k : Int) < (l.length : Int) := by omega
    have ti3 : ((k : Int)).toNat = k := by omega
    have wj : IntKind.i64.wrap ((q : Int) + 1) = (q : Int) + 1 := IntWalk.i64_in _ (by omega)
    have wk : IntKind.i64.wrap ((k : Int) + 1) = (k : Int) + 1 := IntWalk.i64_in _ (by omega)
    have q0 := (X.cell (p := ⟨b, o + k * 11, none⟩) hbl).trans hcy.1
    have q1 := (X.cell (p := ⟨b, o + k * 11 + 1, none⟩) hbl).trans hcy.2.1
    have q2 := (X.cell (p := ⟨b, o + k * 11 + 2, none⟩) hbl).trans hcy.2.2.1
    have q3 := (X.cell (p := ⟨b, o + k * 11 + 3, none⟩) hbl).trans hcy.2.2.2.1
    have q4 := (X.cell (p := ⟨b, o + k * 11 + 4, none⟩) hbl).trans hcy.2.2.2.2.1
    have q5 := (X.cell (p := ⟨b, o + k * 11 + 5, none⟩) hbl).trans hcy.2.2.2.2.2.1
    have q6 := (X.cell (p := ⟨b, o + k * 11 + 6, none⟩) hbl).trans hcy.2.2.2.2.2.2.1
    have q7 := (X.cell (p := ⟨b, o + k * 11 + 7, none⟩) hbl).trans hcy.2.2.2.2.2.2.2.1
    have q8 := (X.cell (p := ⟨b, o + k * 11 + 8, none⟩) hbl).trans hcy.2.2.2.2.2.2.2.2.1
    have q9 := (X.cell (p := ⟨b, o + k * 11 + 9, none⟩) hbl).trans hcy.2.2.2.2.2.2.2.2.2.1
    have q10 := (X.cell (p := ⟨b, o + k * 11 + 10, none⟩) hbl).trans hcy.2.2.2.2.2.2.2.2.2.2
    clear hcy
    obtain ⟨wn, hwn, en, TN⟩ := nc_alloc wr y
    obtain ⟨p0, p1, p2, p3, p4, p5, p6, p7, p8, p9, p10⟩ := (TN).cells
    have pf0 := (TN).frozen 0
    have pf1 := (TN).frozen 1
    have pf2 := (TN).frozen 2
    have pf3 := (TN).frozen 3
    have pf4 := (TN).frozen 4
    have pf5 := (TN).frozen 5
    have pf6 := (TN).frozen 6
    have pf7 := (TN).frozen 7
    have pf8 := (TN).frozen 8
    have pf9 := (TN).frozen 9
    have pf10 := (TN).frozen 10
    have pl := (TN).lt
    go_upto_region 5 with fail
    rw [← hwn]
    clear hwn q0 q1 q2 q3 q4 q5 q6 q7 q8 q9 q10
    have X9 := X.tr en
    clear X en
    by_cases hs : y.st = st
    · have hb : ((bstr y.st).toList == (bstr st).toList) = true := by rw [HQ.out]; exact decide_eq_true hs
      have HNN := Lib.hid (show q + 1 = cntN (l.take (k + 1)) st by rw [num_yes HY.out hs, ← HN.out])
      clear hs
      go_wp2_with fail
      go_roundw
      case rel => exact ⟨k + 1, q + 1, by omega, by go_num, by go_num, by omega, HNN, X9⟩
      case measure => simp [intOf]; omega
    · have hb : ((bstr y.st).toList == (bstr st).toList) = false := by rw [HQ.out]; exact decide_eq_false hs
      have HNN := Lib.hid (show q = cntN (l.take (k + 1)) st by rw [num_no HY.out hs, ← HN.out])
      clear hs
      go_wp2_with fail
      go_roundw
      case rel => exact ⟨k + 1, q, by omega, by go_num, rfl, by omega, HNN, X9⟩
      case measure => simp [intOf]; omega
end Go.Proofs.YtmmoenkmicimcaaGreatDoor
namespace Go.Proofs.YtmmoenkmicimcaaGreatDoor
open Go.RowKit
set_option linter.unusedVariables false
set_option maxRecDepth 100000
def intsV (R : List Int) : List Value := R.map (Value.int .i64)
theorem intsV_len (R : List Int) : (intsV R).length = R.length := List.length_map _
theorem tn_ti : 39 ≠ 3 := by decide
theorem tn_ts : 39 ≠ 160 := by decide
theorem ti_ts : 3 ≠ 160 := by decide
/-- A search that lies in block S: its certificates, and the round of each. -/
structure SeAt (w : World) (B S : Nat) (day : Int) (v1 v2 : Value) (L : List NC) (R : List Int) : Prop where
  row : w.heap[S]? = some (.cells #[.int .i64 day, v1, v2] 160 (0, 0))
  own1 : OwnK w B 39 11 v1 (ncsCells L)
  own2 : OwnK w B 3 1 v2 (intsV R)
  len : R.length = L.length
theorem SeAt.lt {w : World} {B S : Nat} {day : Int} {v1 v2 : Value} {L : List NC} {R : List Int} (h : SeAt w B S day v1 v2 L R) : S < w.heap.size := block_lt h.row
theorem SeAt.ext {w w' : World} {B S : Nat} {day : Int} {v1 v2 : Value} {L : List NC} {R : List Int} (h : SeAt w B S day v1 v2 L R) (e : Ext w w') : SeAt w' B S day v1 v2 L R := ⟨(e.block S h.lt).trans h.row, h.own1.ext e, h.own2.ext e, h.len⟩
theorem SeAt.cells {w : World} {B S : Nat} {day : Int} {v1 v2 : Value} {L : List NC} {R : List Int} (h : SeAt w B S day v1 v2 L R) : w.cell? ⟨S, 0, none⟩ = some (.int .i64 day) ∧ w.cell? ⟨S, 1, none⟩ = some v1 ∧ w.cell? ⟨S, 2, none⟩ = some v2 :=
  ⟨cell_of_row w S 0 _ _ _ h.row, cell_of_row w S 1 _ _ _ h.row, cell_of_row w S 2 _ _ _ h.row⟩
theorem SeAt.frozen {w : World} {B S : Nat} {day : Int} {v1 v2 : Value} {L : List NC} {R : List Int} (h : SeAt w B S day v1 v2 L R) (i : Nat) : w.frozen? ⟨S, i, none⟩ = false := by
  have := h.row
  simp [World.frozen?, this]
/-- The lists as slices. -/
theorem SeAt.forms {w : World} {B S : Nat} {day : Int} {v1 v2 : Value} {L : List NC} {R : List Int} (h : SeAt w B S day v1 v2 L R) : ∃ A1 c1 A2 c2, v1 = .slice A1 L.length c1 ∧ v2 = .slice A2 L.length c2 ∧ L.length ≤ c1 ∧ L.length ≤ c2 ∧ c1 ≤ maxLen ∧ c2 ≤ maxLen := by
  obtain ⟨A1, n1, c1, rfl, hn1, h1⟩ := h.own1
  obtain ⟨A2, n2, c2, rfl, hn2, h2⟩ := h.own2
  rw [ncsCells_len] at hn1
  rw [intsV_len, h.len] at hn2
  have e1 : n1 = L.length := by omega
  have e2 : n2 = L.length := by omega
  subst e1
  refine ⟨A1, c1, A2, c2, rfl, by rw [e2], ?_, ?_, ?_, ?_⟩
  · rcases h1 with h | ⟨_, _, _, _, _, h, _⟩ <;> omega
  · rcases h2 with h | ⟨_, _, _, _, _, h, _⟩ <;> omega
  · rcases h1 with h | ⟨_, _, _, _, _, _, h, _⟩
    · unfold maxLen; omega
    · exact h
  · rcases h2 with h | ⟨_, _, _, _, _, _, h, _⟩
    · unfold maxLen; omega
    · exact h
/-- The two lists stored. -/
theorem SeAt.put {w : World} {B S : Nat} {day : Int} {v1 v2 u1 u2 : Value} {L L' : List NC} {R R' : List Int} (h : SeAt w B S day v1 v2 L R) (h1 : OwnK w B 39 11 u1 (ncsCells L')) (h2 : OwnK w B 3 1 u2 (intsV R')) (hl : R'.length = L'.length) :
    SeAt ((w.setCell ⟨S, 1, none⟩ u1).setCell ⟨S, 2, none⟩ u2) B S day u1 u2 L' R' := by
  have r1 := row_set h.row 1 u1
  have r2 := row_set r1 2 u2
  simp only [List.setIfInBounds_toArray, List.set_cons_zero, List.set_cons_succ] at r1 r2
  have k1 := h1.row_blk h.row tn_ts
  have k2 := h2.row_blk h.row ti_ts
  exact ⟨r2, (h1.grown (Gb.set S 1 w u1) (.inr k1)).grown (Gb.set S 2 _ u2) (.inr k1), (h2.grown (Gb.set S 1 w u1) (.inr k2)).grown (Gb.set S 2 _ u2) (.inr k2), hl⟩
/-- How a world may go on while the two lists are appended to. -/
structure SeRel (B : Nat) (v1 v2 : Value) (n : Nat) (x1 y1 x2 y2 : List Value) (w w' : World) : Prop where
  os : w'.os = w.os
  tape : w'.tape = w.tape
  output : w'.output = w.output
  size : w.heap.size ≤ w'.heap.size
  keep : ∀ k, k < w.heap.size → rowOf v1 ≠ some k → rowOf v2 ≠ some k → w'.heap[k]? = w.heap[k]?
  p1 : OwnK w B 39 11 v1 x1 → OwnK w' B 39 11 v1 x1
  p2 : OwnK w B 3 1 v2 x2 → OwnK w' B 3 1 v2 x2
  p3 : ∀ A c, OwnK w B 39 11 (.slice A (n + 1) c) y1 → OwnK w' B 39 11 (.slice A (n + 1) c) y1
  p4 : ∀ A c, OwnK w B 3 1 (.slice A (n + 1) c) y2 → OwnK w' B 3 1 (.slice A (n + 1) c) y2
def seR (B : Nat) (v1 v2 : Value) (n : Nat) (x1 y1 x2 y2 : List Value) : Gr.Rl where
  rel := SeRel B v1 v2 n x1 y1 x2 y2
  refl := fun w => ⟨rfl, rfl, rfl, Nat.le_refl _, fun _ _ _ _ => rfl, id, id, fun _ _ h => h, fun _ _ h => h⟩
  tr := fun h k => ⟨k.os.trans h.os, k.tape.trans h.tape, k.output.trans h.output, Nat.le_trans h.size k.size, fun i hi a b => (k.keep i (Nat.lt_of_lt_of_le hi h.size) a b).trans (h.keep i hi a b), fun q => k.p1 (h.p1 q), fun q => k.p2 (h.p2 q), fun A c q => k.p3 A c (h.p3 A c q), fun A c q => k.p4 A c (h.p4 A c q)⟩
  ext := fun e => ⟨e.os, e.tape, e.output, e.size, fun k hk _ _ => e.block k hk, fun h => h.ext e, fun h => h.ext e, fun _ _ h => h.ext e, fun _ _ h => h.ext e⟩
section
variable {B : Nat} {v1 v2 : Value} {n : Nat} {x1 y1 x2 y2 : List Value} {w w' : World}
theorem SeRel.below (h : SeRel B v1 v2 n x1 y1 x2 y2 w w') (hB : B ≤ w.heap.size) (k1 : ∀ r, rowOf v1 = some r → B ≤ r) (k2 : ∀ r, rowOf v2 = some r → B ≤ r) : Below B w w' :=
  ⟨h.os, h.tape, h.output, h.size, fun k hk => h.keep k (Nat.lt_of_lt_of_le hk hB) (fun q => by have := k1 k q; omega) (fun q => by have := k2 k q; omega)⟩
/-- A block of another type stays. -/
theorem SeRel.blk (h : SeRel B v1 v2 n x1 y1 x2 y2 w w') (o1 : OwnK w B 39 11 v1 x1) (o2 : OwnK w B 3 1 v2 x2) {g T : Nat} {cs : Array Value} {fr : Nat × Nat} (hg : w.heap[g]? = some (.cells cs T fr)) (h1 : 39 ≠ T) (h2 : 3 ≠ T) : w'.heap[g]? = some (.cells cs T fr) :=
  (h.keep g (block_lt hg) (o1.row_blk hg h1) (o2.row_blk hg h2)).trans hg
theorem SeRel.app1 (o1 : OwnK w B 39 11 v1 x1) (o2 : OwnK w B 3 1 v2 x2) (g : w.grownBy w' (rowOf v1)) (q1 : OwnK w' B 39 11 v1 x1) (q3 : ∀ A c, OwnK w B 39 11 (.slice A (n + 1) c) y1 → OwnK w' B 39 11 (.slice A (n + 1) c) y1) : SeRel B v1 v2 n x1 y1 x2 y2 w w' :=
  ⟨g.os, g.tape, g.output, g.size, fun k hk a _ => g.block k hk (fun q => a q.symm), fun _ => q1, fun h => h.grown g (o1.row_ne h tn_ti), q3, fun A c h => h.grown g (o1.row_ne h tn_ti)⟩
theorem SeRel.app2 (o1 : OwnK w B 39 11 v1 x1) (o2 : OwnK w B 3 1 v2 x2) (g : w.grownBy w' (rowOf v2)) (q2 : OwnK w' B 3 1 v2 x2) (q4 : ∀ A c, OwnK w B 3 1 (.slice A (n + 1) c) y2 → OwnK w' B 3 1 (.slice A (n + 1) c) y2) : SeRel B v1 v2 n x1 y1 x2 y2 w w' :=
  ⟨g.os, g.tape, g.output, g.size, fun k hk _ a => g.block k hk (fun q => a q.symm), fun h => h.grown g (o2.row_ne h (Ne.symm tn_ti)), fun _ => q2, fun A c h => h.grown g (o2.row_ne h (Ne.symm tn_ti)), q4⟩
end
/-- A new block with one element in it, behind the rows. -/
def GOne (b0 : Nat) (cs : Array Value) (T : Nat) : VPred := fun v w => ∃ g, v = .slice (some ⟨g, 0, none⟩) 1 1 ∧ b0 ≤ g ∧ w.heap[g]? = some (.cells cs T (0, 0))
theorem stable_GOne {B : Nat} {v1 v2 : Value} {n : Nat} {x1 y1 x2 y2 : List Value} {b0 : Nat} (k1 : ∀ r, rowOf v1 = some r → r < b0) (k2 : ∀ r, rowOf v2 = some r → r < b0) (cs : Array Value) (T : Nat) : (seR B v1 v2 n x1 y1 x2 y2).stable (GOne b0 cs T) := fun v w w' r ⟨g, h1, h2, h3⟩ =>
  ⟨g, h1, h2, (SeRel.keep r g (block_lt h3) (fun q => by have := k1 g q; omega) (fun q => by have := k2 g q; omega)).trans h3⟩
theorem GOne.rd {b0 k : Nat} {cs : Array Value} {T : Nat} {v : Value} {w : World} (h : GOne b0 cs T v w) (hk : 1 * k = cs.size) : RdK w k v cs.toList := by
  obtain ⟨g, rfl, _, hg⟩ := h
  refine ⟨_, 1, 1, rfl, by simpa using hk, Nat.le_refl _, by unfold maxLen; omega, fun _ => ⟨g, 0, rfl, fun j u hu => ?_⟩⟩
  rw [Nat.zero_add, cell_of_row w g j cs T (0, 0) hg]
  simpa using hu
def GO1 (B n : Nat) (y1 : List Value) : VPred := fun v w => ∃ A c, v = .slice A (n + 1) c ∧ OwnK w B 39 11 (.slice A (n + 1) c) y1
def GO2 (B n : Nat) (y2 : List Value) : VPred := fun v w => ∃ A c, v = .slice A (n + 1) c ∧ OwnK w B 3 1 (.slice A (n + 1) c) y2
theorem stable_GO1 (B : Nat) (v1 v2 : Value) (n : Nat) (x1 y1 x2 y2 : List Value) : (seR B v1 v2 n x1 y1 x2 y2).stable (GO1 B n y1) := fun v w w' r ⟨A, c, h1, h2⟩ => ⟨A, c, h1, SeRel.p3 r A c h2⟩
theorem stable_GO2 (B : Nat) (v1 v2 : Value) (n : Nat) (x1 y1 x2 y2 : List Value) : (seR B v1 v2 n x1 y1 x2 y2).stable (GO2 B n y2) := fun v w w' r ⟨A, c, h1, h2⟩ => ⟨A, c, h1, SeRel.p4 r A c h2⟩
theorem run_oneN (W : World) (c : NC) : (Instr.buildSlice 26 1 #[(0, ncV c)]).run Tryz.prog W = .ok (.slice (some ⟨W.heap.size, 0, none⟩) 1 1) (W.alloc (.cells (ncCells c).toArray 39)) := by
  unfold ncV ncCells
  go_simp
theorem run_oneI (W : World) (x : Int) : (Instr.buildSlice 22 1 #[(0, .int .i64 x)]).run Tryz.prog W = .ok (.slice (some ⟨W.heap.size, 0, none⟩) 1 1) (W.alloc (.cells #[.int .i64 x] 3)) := by
  go_simp
end Go.Proofs.YtmmoenkmicimcaaGreatDoor
namespace Go.Proofs.YtmmoenkmicimcaaGreatDoor
open Go.RowKit
set_option linter.unusedVariables false
set_option maxRecDepth 100000
theorem elemI1 : ElemK Tryz.prog 22 3 1 8 := by
  have h : (Tryz.prog.info? 3).map (fun i => (i.zero, i.size, i.bytes)) = some (some (.int .i64 0), 1, 8) := by kernel_rfl
  obtain ⟨i, h1, h2, h3, h4⟩ := info_parts h
  exact ⟨i, _, Tryz.underlying22, h1, h2, h3, h4, rfl⟩
/-- What add leaves. -/
def addL (L : List NC) (c : NC) : List NC := if c ∈ L then L else L ++ [c]
def addR (L : List NC) (R : List Int) (c : NC) (rd : Int) : List Int := if c ∈ L then R else R ++ [rd]
theorem addRL {L : List NC} {R : List Int} (h : R.length = L.length) (c : NC) (rd : Int) : (addR L R c rd).length = (addL L c).length := by
  unfold addR addL
  split
  · exact h
  · simp [h]
def AddR (w : World) (B S : Nat) (day : Int) (L : List NC) (R : List Int) (c : NC) (rd : Int) (e : Ending) (w' : World) : Prop :=
  Below B w w' ∧ e = .returned (.bool (decide (c ∉ L))) ∧ ∃ v1 v2, SeAt w' B S day v1 v2 (addL L c) (addR L R c rd)
theorem one_ncs (L : List NC) (c : NC) : ncsCells L ++ ncCells c = ncsCells (L ++ [c]) := ncsCells_snoc L c
theorem one_ints (R : List Int) (x : Int) : intsV R ++ [.int .i64 x] = intsV (R ++ [x]) := by simp [intsV]
set_option maxHeartbeats 4000000 in
theorem add_any {B S : Nat} {day : Int} {v1 v2 : Value} {L : List NC} {R : List Int} (c : NC) (rd : Int) (w : World) (hS : SeAt w B S day v1 v2 L R) (hB : B ≤ w.heap.size) (hBS : B ≤ S) (hl : L.length ≤ 1000000) :
    Calls Tryz.prog 153 #[.pointer (some ⟨S, 0, none⟩), ncV c, .int .i64 rd] w (AddR w B S day L R c rd) := by
  obtain ⟨A1, c1, A2, c2, rfl, rfl, hc1, hc2, hm1, hm2⟩ := hS.forms
  have hv : RdN w (.slice A1 L.length c1) L := hS.own1.rd
  obtain ⟨A', n', c', e9, hn, hnc, hcm, hel⟩ := hv.at_
  injection e9 with e1 e2 e3
  subst e1 e2 e3
  clear hn
  have HEL := Lib.hid hel
  unfold maxLen at hcm hm1 hm2
  clear hel hv hnc hcm
  obtain ⟨wz, hwz, ez, TZ⟩ := nc_alloc w c
  have HEQ := Lib.hid (fun W y => run_eqlNc W y c)
  have HS := Lib.hid hS
  have HZ := Lib.hid TZ
  have HB := Lib.hid (show B ≤ w.heap.size ∧ B ≤ S from ⟨hB, hBS⟩)
  obtain ⟨s0, s1, s2⟩ := (hS.ext ez).cells
  have sl := (hS.ext ez).lt
  unfold ncV
  clear TZ hS hB hBS
  go_enter Tryz.func153, Tryz.ntmps153
  go_upto_region 1 with fail
  rw [← hwz]
  clear hwz
  go_wp2_with fail
  clear s0 s1 s2 sl
  go_loopw [14] (fun i wr => ∃ k : Nat, k ≤ L.length ∧ i = .int .i64 (k : Int) ∧ Hid (∀ j, j < k → L[j]? ≠ some c) ∧ Ext wz wr) (fun i _ => L.length - (intOf i).toNat)
  case atStart => exact ⟨0, Nat.zero_le _, rfl, fun j hj => absurd hj (Nat.not_lt_zero _), Below.refl _ _⟩
  case round =>
    obtain ⟨k, hk, rfl, HN, X⟩ := hrel
    by_cases hlt : k < L.length
    case neg =>
      obtain rfl : k = L.length := by omega
      have HR := Lib.hid (idx_no HN.out)
      have S7 := HS.out.ext (ez.tr X)
      have Z7 := HZ.out.ext X
      have XB := Lib.hid ((ez.tr X).mono HB.out.1)
      have hBr : B ≤ wr.heap.size := Nat.le_trans HB.out.1 (ez.tr X).size
      have k1 := rowOf_bd HS.out.own1
      have k2 := rowOf_bd HS.out.own2
      clear X hk hlt
      go_upto_region 7 with fail
      refine wp_region_any (by kernel_rfl) ?_
      have xd : Ext wr wr.drew := (Below.refl _ _).drew
      change wpAny _ _ _ _ (21 + 1) _ _ wr.drew
      have S7 := S7.ext xd
      have Z7 := Z7.ext xd
      have XB := Lib.hid (XB.out.trans (xd.mono hBr))
      have hBr : B ≤ wr.drew.heap.size := hBr
      clear xd
      generalize wr.drew = wr at *
      refine wpAny_takeD (i := 1) 23 (v := .pointer (some ⟨S, 0, none⟩)) rfl rfl (by kernel_rfl) (by kernel_rfl) (by kernel_rfl) (fun _ _ _ h => h) (Or.inl ⟨by rfl, fun w => by go_simp⟩) ?_
      refine reidx (ops2 := ([{ dst := some 22, op := Op.move (Operand.tmp 0), type := 156, pos := "", after := #[], guard := none },  { dst := some 24, op := Op.move (Operand.tmp 0), type := 156, pos := "", after := #[], guard := none },  { dst := some 25, op := Op.nilCheck (Operand.tmp 24), type := 0, pos := "", after := #[{ on := 1, ground := Ground.data }], guard := none },  { dst := some 26, op := Op.fieldAddr 160 (Operand.tmp 25) 1, type := 0, pos := "", after := #[{ on := 2, ground := Ground.data }], guard := none },  { dst := some 27, op := Op.load 26 (Operand.tmp 26), type := 26, pos := "", after := #[{ on := 3, ground := Ground.data }], guard := none },  { dst := some 28, op := Op.load 39 (Operand.tmp 4), type := 39, pos := "", after := #[], guard := none },  { dst := some 29, op := Op.buildSlice 26 1 #[(0, Operand.tmp 28)], type := 26, pos := "", after := #[{ on := 5, ground := Ground.data }], guard := none },  { dst := some 30, op := Op.call { callee := Callee.builtin Builtin.append, args := #[Operand.tmp 27, Operand.tmp 29], argTypes := #[26, 26] }, type := 26, pos := "", after := #[{ on := 4, ground := Ground.data }, { on := 6, ground := Ground.data }], guard := none },  { dst := some 31, op := Op.move (Operand.tmp 0), type := 156, pos := "", after := #[], guard := none },  { dst := some 32, op := Op.nilCheck (Operand.tmp 31), type := 0, pos := "", after := #[{ on := 8, ground := Ground.data }], guard := none },  { dst := some 33, op := Op.fieldAddr 160 (Operand.tmp 32) 2, type := 0, pos := "", after := #[{ on := 9, ground := Ground.data }], guard := none },  { dst := some 34, op := Op.load 22 (Operand.tmp 33), type := 22, pos := "", after := #[{ on := 10, ground := Ground.data }], guard := none },  { dst := some 35, op := Op.move (Operand.tmp 2), type := 3, pos := "", after := #[], guard := none },  { dst := some 36, op := Op.buildSlice 22 1 #[(0, Operand.tmp 35)], type := 22, pos := "", after := #[{ on := 12, ground := Ground.data }], guard := none },  { dst := some 37, op := Op.call { callee := Callee.builtin Builtin.append, args := #[Operand.tmp 34, Operand.tmp 36], argTypes := #[22, 22] }, type := 22, pos := "", after := #[{ on := 11, ground := Ground.data }, { on := 13, ground := Ground.data }, { on := 7, ground := Ground.data }], guard := none },  { dst := some 38, op := Op.nilCheck (Operand.tmp 22), type := 0, pos := "", after := #[{ on := 0, ground := Ground.data }, { on := 1, ground := Ground.data }, { on := 2, ground := Ground.data }, { on := 3, ground := Ground.data }, { on := 4, ground := Ground.data }, { on := 5, ground := Ground.data }, { on := 6, ground := Ground.data }, { on := 7, ground := Ground.data }, { on := 11, ground := Ground.data }, { on := 14, ground := Ground.data }], guard := none },  { dst := some 39, op := Op.fieldAddr 160 (Operand.tmp 38) 1, type := 0, pos := "", after := #[{ on := 15, ground := Ground.data }, { on := 0, ground := Ground.data }, { on := 1, ground := Ground.data }, { on := 2, ground := Ground.data }, { on := 3, ground := Ground.data }, { on := 4, ground := Ground.data }, { on := 5, ground := Ground.data }, { on := 6, ground := Ground.data }, { on := 7, ground := Ground.data }, { on := 11, ground := Ground.data }, { on := 14, ground := Ground.data }], guard := none },  { dst := none, op := Op.store 26 (Operand.tmp 39) (Operand.tmp 30), type := 0, pos := "", after := #[{ on := 16, ground := Ground.data }, { on := 7, ground := Ground.data }, { on := 14, ground := Ground.data }, { on := 0, ground := Ground.data }, { on := 1, ground := Ground.data }, { on := 2, ground := Ground.data }, { on := 3, ground := Ground.data }, { on := 4, ground := Ground.data }, { on := 5, ground := Ground.data }, { on := 6, ground := Ground.data }, { on := 11, ground := Ground.data }], guard := none },  { dst := some 40, op := Op.nilCheck (Operand.tmp 23), type := 0, pos := "", after := #[{ on := 0, ground := Ground.data }, { on := 1, ground := Ground.data }, { on := 2, ground := Ground.data }, { on := 3, ground := Ground.data }, { on := 4, ground := Ground.data }, { on := 5, ground := Ground.data }, { on := 6, ground := Ground.data }, { on := 7, ground := Ground.data }, { on := 8, ground := Ground.data }, { on := 9, ground := Ground.data }, { on := 10, ground := Ground.data }, { on := 11, ground := Ground.data }, { on := 12, ground := Ground.data }, { on := 13, ground := Ground.data }, { on := 14, ground := Ground.data }, { on := 15, ground := Ground.data }, { on := 16, ground := Ground.data }, { on := 17, ground := Ground.data }], guard := none },  { dst := some 41, op := Op.fieldAddr 160 (Operand.tmp 40) 2, type := 0, pos := "", after := #[{ on := 18, ground := Ground.data }, { on := 0, ground := Ground.data }, { on := 1, ground := Ground.data }, { on := 2, ground := Ground.data }, { on := 3, ground := Ground.data }, { on := 4, ground := Ground.data }, { on := 5, ground := Ground.data }, { on := 6, ground := Ground.data }, { on := 7, ground := Ground.data }, { on := 8, ground := Ground.data }, { on := 9, ground := Ground.data }, { on := 10, ground := Ground.data }, { on := 11, ground := Ground.data }, { on := 12, ground := Ground.data }, { on := 13, ground := Ground.data }, { on := 14, ground := Ground.data }, { on := 15, ground := Ground.data }, { on := 16, ground := Ground.data }, { on := 17, ground := Ground.data }], guard := none },  { dst := none, op := Op.store 22 (Operand.tmp 41) (Operand.tmp 37), type := 0, pos := "", after := #[{ on := 19, ground := Ground.data }, { on := 14, ground := Ground.data }, { on := 17, ground := Ground.data }, { on := 0, ground := Ground.data }, { on := 1, ground := Ground.data }, { on := 2, ground := Ground.data }, { on := 3, ground := Ground.data }, { on := 4, ground := Ground.data }, { on := 5, ground := Ground.data }, { on := 6, ground := Ground.data }, { on := 7, ground := Ground.data }, { on := 8, ground := Ground.data }, { on := 9, ground := Ground.data }, { on := 10, ground := Ground.data }, { on := 11, ground := Ground.data }, { on := 12, ground := Ground.data }, { on := 13, ground := Ground.data }, { on := 15, ground := Ground.data }, { on := 16, ground := Ground.data }], guard := none }] : List Oper).toArray) (l1 := (Array.replicate 22 false).setIfInBounds 1 true) (s := [0, 2, 3, 4, 5, 6, 7, 8, 9, 10, 11, 12, 13, 14, 15, 16, 17, 18, 19, 20, 21]) (reIx_of (by kernel_rfl)) (same_of (by kernel_rfl)) 21 _ (Array.replicate 21 false) _ _ rfl rfl (fun _ _ h => h) (of_decide_eq_true (by kernel_rfl)) ?_
      simp only [Act.put, List.setIfInBounds_toArray, List.set_cons_zero, List.set_cons_succ]
      refine Gr.wpAny_X (r := seR B (.slice A1 L.length c1) (.slice A2 L.length c2) L.length (ncsCells L) (ncsCells L ++ ncCells c) (intsV R) (intsV R ++ [Value.int .i64 rd])) (l := [{ dst := some 22, op := Op.move (Operand.tmp 0), type := 156, pos := "", after := #[], guard := none },  { dst := some 24, op := Op.move (Operand.tmp 0), type := 156, pos := "", after := #[], guard := none },  { dst := some 25, op := Op.nilCheck (Operand.tmp 24), type := 0, pos := "", after := #[{ on := 1, ground := Ground.data }], guard := none },  { dst := some 26, op := Op.fieldAddr 160 (Operand.tmp 25) 1, type := 0, pos := "", after := #[{ on := 2, ground := Ground.data }], guard := none },  { dst := some 27, op := Op.load 26 (Operand.tmp 26), type := 26, pos := "", after := #[{ on := 3, ground := Ground.data }], guard := none },  { dst := some 28, op := Op.load 39 (Operand.tmp 4), type := 39, pos := "", after := #[], guard := none },  { dst := some 29, op := Op.buildSlice 26 1 #[(0, Operand.tmp 28)], type := 26, pos := "", after := #[{ on := 5, ground := Ground.data }], guard := none },  { dst := some 30, op := Op.call { callee := Callee.builtin Builtin.append, args := #[Operand.tmp 27, Operand.tmp 29], argTypes := #[26, 26] }, type := 26, pos := "", after := #[{ on := 4, ground := Ground.data }, { on := 6, ground := Ground.data }], guard := none },  { dst := some 31, op := Op.move (Operand.tmp 0), type := 156, pos := "", after := #[], guard := none },  { dst := some 32, op := Op.nilCheck (Operand.tmp 31), type := 0, pos := "", after := #[{ on := 8, ground := Ground.data }], guard := none },  { dst := some 33, op := Op.fieldAddr 160 (Operand.tmp 32) 2, type := 0, pos := "", after := #[{ on := 9, ground := Ground.data }], guard := none },  { dst := some 34, op := Op.load 22 (Operand.tmp 33), type := 22, pos := "", after := #[{ on := 10, ground := Ground.data }], guard := none },  { dst := some 35, op := Op.move (Operand.tmp 2), type := 3, pos := "", after := #[], guard := none },  { dst := some 36, op := Op.buildSlice 22 1 #[(0, Operand.tmp 35)], type := 22, pos := "", after := #[{ on := 12, ground := Ground.data }], guard := none },  { dst := some 37, op := Op.call { callee := Callee.builtin Builtin.append, args := #[Operand.tmp 34, Operand.tmp 36], argTypes := #[22, 22] }, type := 22, pos := "", after := #[{ on := 11, ground := Ground.data }, { on := 13, ground := Ground.data }, { on := 7, ground := Ground.data }], guard := none },  { dst := some 38, op := Op.nilCheck (Operand.tmp 22), type := 0, pos := "", after := #[{ on := 0, ground := Ground.data }, { on := 1, ground := Ground.data }, { on := 2, ground := Ground.data }, { on := 3, ground := Ground.data }, { on := 4, ground := Ground.data }, { on := 5, ground := Ground.data }, { on := 6, ground := Ground.data }, { on := 7, ground := Ground.data }, { on := 11, ground := Ground.data }, { on := 14, ground := Ground.data }], guard := none },  { dst := some 39, op := Op.fieldAddr 160 (Operand.tmp 38) 1, type := 0, pos := "", after := #[{ on := 15, ground := Ground.data }, { on := 0, ground := Ground.data }, { on := 1, ground := Ground.data }, { on := 2, ground := Ground.data }, { on := 3, ground := Ground.data }, { on := 4, ground := Ground.data }, { on := 5, ground := Ground.data }, { on := 6, ground := Ground.data }, { on := 7, ground := Ground.data }, { on := 11, ground := Ground.data }, { on := 14, ground := Ground.data }], guard := none },  { dst := none, op := Op.store 26 (Operand.tmp 39) (Operand.tmp 30), type := 0, pos := "", after := #[{ on := 16, ground := Ground.data }, { on := 7, ground := Ground.data }, { on := 14, ground := Ground.data }, { on := 0, ground := Ground.data }, { on := 1, ground := Ground.data }, { on := 2, ground := Ground.data }, { on := 3, ground := Ground.data }, { on := 4, ground := Ground.data }, { on := 5, ground := Ground.data }, { on := 6, ground := Ground.data }, { on := 11, ground := Ground.data }], guard := none },  { dst := some 40, op := Op.nilCheck (Operand.tmp 23), type := 0, pos := "", after := #[{ on := 0, ground := Ground.data }, { on := 1, ground := Ground.data }, { on := 2, ground := Ground.data }, { on := 3, ground := Ground.data }, { on := 4, ground := Ground.data }, { on := 5, ground := Ground.data }, { on := 6, ground := Ground.data }, { on := 7, ground := Ground.data }, { on := 8, ground := Ground.data }, { on := 9, ground := Ground.data }, { on := 10, ground := Ground.data }, { on := 11, ground := Ground.data }, { on := 12, ground := Ground.data }, { on := 13, ground := Ground.data }, { on := 14, ground := Ground.data }, { on := 15, ground := Ground.data }, { on := 16, ground := Ground.data }, { on := 17, ground := Ground.data }], guard := none },  { dst := some 41, op := Op.fieldAddr 160 (Operand.tmp 40) 2, type := 0, pos := "", after := #[{ on := 18, ground := Ground.data }, { on := 0, ground := Ground.data }, { on := 1, ground := Ground.data }, { on := 2, ground := Ground.data }, { on := 3, ground := Ground.data }, { on := 4, ground := Ground.data }, { on := 5, ground := Ground.data }, { on := 6, ground := Ground.data }, { on := 7, ground := Ground.data }, { on := 8, ground := Ground.data }, { on := 9, ground := Ground.data }, { on := 10, ground := Ground.data }, { on := 11, ground := Ground.data }, { on := 12, ground := Ground.data }, { on := 13, ground := Ground.data }, { on := 14, ground := Ground.data }, { on := 15, ground := Ground.data }, { on := 16, ground := Ground.data }, { on := 17, ground := Ground.data }], guard := none },  { dst := none, op := Op.store 22 (Operand.tmp 41) (Operand.tmp 37), type := 0, pos := "", after := #[{ on := 19, ground := Ground.data }, { on := 14, ground := Ground.data }, { on := 17, ground := Ground.data }, { on := 0, ground := Ground.data }, { on := 1, ground := Ground.data }, { on := 2, ground := Ground.data }, { on := 3, ground := Ground.data }, { on := 4, ground := Ground.data }, { on := 5, ground := Ground.data }, { on := 6, ground := Ground.data }, { on := 7, ground := Ground.data }, { on := 8, ground := Ground.data }, { on := 9, ground := Ground.data }, { on := 10, ground := Ground.data }, { on := 11, ground := Ground.data }, { on := 12, ground := Ground.data }, { on := 13, ground := Ground.data }, { on := 15, ground := Ground.data }, { on := 16, ground := Ground.data }], guard := none }]) 15 (by kernel_rfl) ?_
      simp only [List.take_succ_cons, List.take_zero, List.drop_succ_cons, List.drop_zero]
      have LL : ∀ m : (seR B (.slice A1 L.length c1) (.slice A2 L.length c2) L.length (ncsCells L) (ncsCells L ++ ncCells c) (intsV R) (intsV R ++ [Value.int .i64 rd])).Lt wr, SeRel B (.slice A1 L.length c1) (.slice A2 L.length c2) L.length (ncsCells L) (ncsCells L ++ ncCells c) (intsV R) (intsV R ++ [Value.int .i64 rd]) wr m.1 := fun m => m.2
      have TB : ∀ m : (seR B (.slice A1 L.length c1) (.slice A2 L.length c2) L.length (ncsCells L) (ncsCells L ++ ncCells c) (intsV R) (intsV R ++ [Value.int .i64 rd])).Lt wr, NcAt m.1 w.heap.size c := fun m => ((LL m).keep _ Z7.lt (fun q => by have := k1 _ q; omega) (fun q => by have := k2 _ q; omega)).trans Z7
      have TS := fun m : (seR B (.slice A1 L.length c1) (.slice A2 L.length c2) L.length (ncsCells L) (ncsCells L ++ ncCells c) (intsV R) (intsV R ++ [Value.int .i64 rd])).Lt wr => (LL m).blk S7.own1 S7.own2 S7.row tn_ts ti_ts
      have O1 := fun m : (seR B (.slice A1 L.length c1) (.slice A2 L.length c2) L.length (ncsCells L) (ncsCells L ++ ncCells c) (intsV R) (intsV R ++ [Value.int .i64 rd])).Lt wr => (LL m).p1 S7.own1
      have O2 := fun m : (seR B (.slice A1 L.length c1) (.slice A2 L.length c2) L.length (ncsCells L) (ncsCells L ++ ncCells c) (intsV R) (intsV R ++ [Value.int .i64 rd])).Lt wr => (LL m).p2 S7.own2
      have MS : ∀ m : (seR B (.slice A1 L.length c1) (.slice A2 L.length c2) L.length (ncsCells L) (ncsCells L ++ ncCells c) (intsV R) (intsV R ++ [Value.int .i64 rd])).Lt wr, w.heap.size ≤ m.1.heap.size := fun m => Nat.le_trans (Nat.le_of_lt Z7.lt) (LL m).size
      have MB : ∀ m : (seR B (.slice A1 L.length c1) (.slice A2 L.length c2) L.length (ncsCells L) (ncsCells L ++ ncCells c) (intsV R) (intsV R ++ [Value.int .i64 rd])).Lt wr, B ≤ m.1.heap.size := fun m => Nat.le_trans hBr (LL m).size
      have s1 := fun m : (seR B (.slice A1 L.length c1) (.slice A2 L.length c2) L.length (ncsCells L) (ncsCells L ++ ncCells c) (intsV R) (intsV R ++ [Value.int .i64 rd])).Lt wr => (cell_of_row m.1 S 1 _ _ _ (TS m) : m.1.cell? ⟨S, 1, none⟩ = some (.slice A1 L.length c1))
      have s2 := fun m : (seR B (.slice A1 L.length c1) (.slice A2 L.length c2) L.length (ncsCells L) (ncsCells L ++ ncCells c) (intsV R) (intsV R ++ [Value.int .i64 rd])).Lt wr => (cell_of_row m.1 S 2 _ _ _ (TS m) : m.1.cell? ⟨S, 2, none⟩ = some (.slice A2 L.length c2))
      have p0 := fun m : (seR B (.slice A1 L.length c1) (.slice A2 L.length c2) L.length (ncsCells L) (ncsCells L ++ ncCells c) (intsV R) (intsV R ++ [Value.int .i64 rd])).Lt wr => (TB m).cells.1
      have p1 := fun m : (seR B (.slice A1 L.length c1) (.slice A2 L.length c2) L.length (ncsCells L) (ncsCells L ++ ncCells c) (intsV R) (intsV R ++ [Value.int .i64 rd])).Lt wr => (TB m).cells.2.1
      have p2 := fun m : (seR B (.slice A1 L.length c1) (.slice A2 L.length c2) L.length (ncsCells L) (ncsCells L ++ ncCells c) (intsV R) (intsV R ++ [Value.int .i64 rd])).Lt wr => (TB m).cells.2.2.1
      have p3 := fun m : (seR B (.slice A1 L.length c1) (.slice A2 L.length c2) L.length (ncsCells L) (ncsCells L ++ ncCells c) (intsV R) (intsV R ++ [Value.int .i64 rd])).Lt wr => (TB m).cells.2.2.2.1
      have p4 := fun m : (seR B (.slice A1 L.length c1) (.slice A2 L.length c2) L.length (ncsCells L) (ncsCells L ++ ncCells c) (intsV R) (intsV R ++ [Value.int .i64 rd])).Lt wr => (TB m).cells.2.2.2.2.1
      have p5 := fun m : (seR B (.slice A1 L.length c1) (.slice A2 L.length c2) L.length (ncsCells L) (ncsCells L ++ ncCells c) (intsV R) (intsV R ++ [Value.int .i64 rd])).Lt wr => (TB m).cells.2.2.2.2.2.1
      have p6 := fun m : (seR B (.slice A1 L.length c1) (.slice A2 L.length c2) L.length (ncsCells L) (ncsCells L ++ ncCells c) (intsV R) (intsV R ++ [Value.int .i64 rd])).Lt wr => (TB m).cells.2.2.2.2.2.2.1
      have p7 := fun m : (seR B (.slice A1 L.length c1) (.slice A2 L.length c2) L.length (ncsCells L) (ncsCells L ++ ncCells c) (intsV R) (intsV R ++ [Value.int .i64 rd])).Lt wr => (TB m).cells.2.2.2.2.2.2.2.1
      have p8 := fun m : (seR B (.slice A1 L.length c1) (.slice A2 L.length c2) L.length (ncsCells L) (ncsCells L ++ ncCells c) (intsV R) (intsV R ++ [Value.int .i64 rd])).Lt wr => (TB m).cells.2.2.2.2.2.2.2.2.1
      have p9 := fun m : (seR B (.slice A1 L.length c1) (.slice A2 L.length c2) L.length (ncsCells L) (ncsCells L ++ ncCells c) (intsV R) (intsV R ++ [Value.int .i64 rd])).Lt wr => (TB m).cells.2.2.2.2.2.2.2.2.2.1
      have p10 := fun m : (seR B (.slice A1 L.length c1) (.slice A2 L.length c2) L.length (ncsCells L) (ncsCells L ++ ncCells c) (intsV R) (intsV R ++ [Value.int .i64 rd])).Lt wr => (TB m).cells.2.2.2.2.2.2.2.2.2.2
      repeat (first | (refine Gr.wpX_nil (Gd.gR rfl) _ rfl rfl rfl rfl rfl ?_; simp only [Act.put, List.setIfInBounds_toArray, List.set_cons_zero, List.set_cons_succ]) | (refine Gr.wpX_pureP rfl fun K hK => ?_; go_big_quiet_op; refine hK _ ?_; clear hK K))
      refine Gr.wpX_buildSL (Gd.gR rfl) (GOne w.heap.size (ncCells c).toArray 39) (stable_GOne k1 k2 _ _) (fun f => [(0, ncV c)]) rfl rfl rfl rfl rfl (fun _ => rfl) (fun m f hf => ⟨_, _, run_oneN m.1 c, (seR B (.slice A1 L.length c1) (.slice A2 L.length c2) L.length (ncsCells L) (ncsCells L ++ ncCells c) (intsV R) (intsV R ++ [Value.int .i64 rd])).ext ((Below.refl _ _).alloc (Nat.le_refl _) _), _, rfl, MS m, heap_alloc_new' m.1 _⟩) ?_
      simp only [Act.put, List.setIfInBounds_toArray, List.set_cons_zero, List.set_cons_succ]
      refine Gr.wpX_appL (Gd.gR rfl) (GO1 B L.length (ncsCells L ++ ncCells c)) (stable_GO1 _ _ _ _ _ _ _ _) (fun _ => .slice A1 L.length c1) (fun f => f 29) rfl rfl rfl rfl rfl rfl (fun _ => rfl) (fun _ => rfl) (fun m f hf => ?_) ?_
      · have h29 : RdK m.1 11 (f 29) (ncCells c) := by simpa using (hf 29 _ rfl rfl : GOne _ _ _ _ _).rd rfl
        obtain ⟨Aq, cq, w', q1, q2, q3, q4, q5⟩ := run_appKS (P := Tryz.prog) (ty := _) (by omega) elemNc (O1 m) (by rw [ncsCells_len]) h29 (m := 1) rfl (by omega) (ncCells_one c) (by omega) (by unfold maxLen; omega) (MB m)
        exact ⟨_, w', q1, SeRel.app1 (O1 m) (O2 m) q3 q4 q5, Aq, cq, rfl, q2⟩
      simp only [Act.put, List.setIfInBounds_toArray, List.set_cons_zero, List.set_cons_succ]
      repeat (first | (refine Gr.wpX_nil (Gd.gR rfl) _ rfl rfl rfl rfl rfl ?_; simp only [Act.put, List.setIfInBounds_toArray, List.set_cons_zero, List.set_cons_succ]) | (refine Gr.wpX_pureP rfl fun K hK => ?_; go_big_quiet_op; refine hK _ ?_; clear hK K))
      refine Gr.wpX_buildSL (Gd.gR rfl) (GOne w.heap.size #[Value.int .i64 rd] 3) (stable_GOne k1 k2 _ _) (fun f => [(0, .int .i64 rd)]) rfl rfl rfl rfl rfl (fun _ => rfl) (fun m f hf => ⟨_, _, run_oneI m.1 rd, (seR B (.slice A1 L.length c1) (.slice A2 L.length c2) L.length (ncsCells L) (ncsCells L ++ ncCells c) (intsV R) (intsV R ++ [Value.int .i64 rd])).ext ((Below.refl _ _).alloc (Nat.le_refl _) _), _, rfl, MS m, heap_alloc_new' m.1 _⟩) ?_
      simp only [Act.put, List.setIfInBounds_toArray, List.set_cons_zero, List.set_cons_succ]
      refine Gr.wpX_appL (Gd.gR rfl) (GO2 B L.length (intsV R ++ [Value.int .i64 rd])) (stable_GO2 _ _ _ _ _ _ _ _) (fun _ => .slice A2 L.length c2) (fun f => f 36) rfl rfl rfl rfl rfl rfl (fun _ => rfl) (fun _ => rfl) (fun m f hf => ?_) ?_
      · have h36 : RdK m.1 1 (f 36) [Value.int .i64 rd] := by simpa using (hf 36 _ rfl rfl : GOne _ _ _ _ _).rd rfl
        obtain ⟨Aq, cq, w', q1, q2, q3, q4, q5⟩ := run_appKS (P := Tryz.prog) (ty := _) (by omega) elemI1 (O2 m) (by rw [intsV_len, Nat.mul_one, HS.out.len]) h36 (m := 1) rfl (by omega) (fun u hu => by rw [List.mem_singleton.1 hu]; rfl) (by omega) (by unfold maxLen; omega) (MB m)
        exact ⟨_, w', q1, SeRel.app2 (O1 m) (O2 m) q3 q4 q5, Aq, cq, rfl, q2⟩
      simp only [Act.put, List.setIfInBounds_toArray, List.set_cons_zero, List.set_cons_succ]
      refine Gr.wpX_endL (fun m f hf => ?_)
      obtain ⟨Aa, ca, e30, o30⟩ := (hf 30 _ rfl : GO1 _ _ _ _ _)
      obtain ⟨Ab, cb, e37, o37⟩ := (hf 37 _ rfl : GO2 _ _ _ _ _)
      simp only [fillH]
      simp only [Act.put, List.setIfInBounds_toArray, List.set_cons_zero, List.set_cons_succ]
      rw [e30, e37]
      have Lm := LL m
      have SM : SeAt m.1 B S day (.slice A1 L.length c1) (.slice A2 L.length c2) L R := ⟨TS m, O1 m, O2 m, HS.out.len⟩
      generalize f 29 = f29 at *
      generalize f 36 = f36 at *
      obtain ⟨wm, hwm⟩ := m
      have o30 : OwnK wm B 39 11 (.slice Aa (L.length + 1) ca) (ncsCells (L ++ [c])) := by rw [← one_ncs]; exact o30
      have o37 : OwnK wm B 3 1 (.slice Ab (L.length + 1) cb) (intsV (R ++ [rd])) := by rw [← one_ints]; exact o37
      have SM : SeAt wm B S day (.slice A1 L.length c1) (.slice A2 L.length c2) L R := SM
      have SF := Lib.hid (SM.put o30 o37 (by rw [List.length_append, List.length_append, HS.out.len]; rfl))
      have BF := Lib.hid (((XB.out.trans (Lm.below hBr (rowOf_geK S7.own1) (rowOf_geK S7.own2))).setCell (p := ⟨S, 1, none⟩) HB.out.2 (.slice Aa (L.length + 1) ca)).setCell (p := ⟨S, 2, none⟩) HB.out.2 (.slice Ab (L.length + 1) cb))
      obtain ⟨t0, t1, t2⟩ := SM.cells
      have tf1 := SM.frozen 1
      have tf2 := SM.frozen 2
      have tl := SM.lt
      clear LL TB TS O1 O2 MS MB s1 s2 p0 p1 p2 p3 p4 p5 p6 p7 p8 p9 p10 hf e30 e37 SM o30 o37 Lm S7 Z7 k1 k2 hBr XB
      show wpList _ _ _ _ _ _
      go_wp2_with fail
      go_ret
      exact ⟨BF.out, by rw [decide_eq_true HR.out]; rfl, _, _, by unfold addL addR; rw [if_neg HR.out, if_neg HR.out]; exact SF.out⟩
    case pos =>
    obtain ⟨y, hy⟩ : ∃ y, L[k]? = some y := ⟨_, List.getElem?_eq_getElem hlt⟩
    obtain ⟨b, o, rfl, hbl, hc⟩ := HEL.out (by omega)
    have hcy := hc k y hy
    have HY := Lib.hid hy
    have eqq := fun W => HEQ.out W y
    unfold ncV at eqq
    clear hy hc
    have wi1 : IntKind.i64.wrap ((k : Int)) = (k : Int) := IntWalk.i64_in _ (by omega)
    have zi1 : (0 : Int) ≤ (k : Int) := by omega
    have li1 : (k : Int) < (L.length : Int) := by omega
    have ti1 : ((k : Int)).toNat = k := by omega
    have q0 := ((ez.tr X).cell (p := ⟨b, o + k * 11, none⟩) hbl).trans hcy.1
    have q1 := ((ez.tr X).cell (p := ⟨b, o + k * 11 + 1, none⟩) hbl).trans hcy.2.1
    have q2 := ((ez.tr X).cell (p := ⟨b, o + k * 11 + 2, none⟩) hbl).trans hcy.2.2.1
    have q3 := ((ez.tr X).cell (p := ⟨b, o + k * 11 + 3, none⟩) hbl).trans hcy.2.2.2.1
    have q4 := ((ez.tr X).cell (p := ⟨b, o + k * 11 + 4, none⟩) hbl).trans hcy.2.2.2.2.1
    have q5 := ((ez.tr X).cell (p := ⟨b, o + k * 11 + 5, none⟩) hbl).trans hcy.2.2.2.2.2.1
    have q6 := ((ez.tr X).cell (p := ⟨b, o + k * 11 + 6, none⟩) hbl).trans hcy.2.2.2.2.2.2.1
    have q7 := ((ez.tr X).cell (p := ⟨b, o + k * 11 + 7, none⟩) hbl).trans hcy.2.2.2.2.2.2.2.1
    have q8 := ((ez.tr X).cell (p := ⟨b, o + k * 11 + 8, none⟩) hbl).trans hcy.2.2.2.2.2.2.2.2.1
    have q9 := ((ez.tr X).cell (p := ⟨b, o + k * 11 + 9, none⟩) hbl).trans hcy.2.2.2.2.2.2.2.2.2.1
    have q10 := ((ez.tr X).cell (p := ⟨b, o + k * 11 + 10, none⟩) hbl).trans hcy.2.2.2.2.2.2.2.2.2.2
    clear hcy
    obtain ⟨wn, hwn, en, TN⟩ := nc_alloc wr y
    go_upto_region 4 with fail
    rw [← hwn]
    clear hwn q0 q1 q2 q3 q4 q5 q6 q7 q8 q9 q10
    have X9 := X.tr en
    have hne : w.heap.size ≠ wr.heap.size := by have := (HZ.out.ext X).lt; omega
    obtain ⟨p0, p1, p2, p3, p4, p5, p6, p7, p8, p9, p10⟩ := (HZ.out.ext X9).cells
    have pl := (HZ.out.ext X9).lt
    obtain ⟨t0, t1, t2, t3, t4, t5, t6, t7, t8, t9, t10⟩ := TN.cells
    have tl := TN.lt
    obtain ⟨d, hd⟩ : ∃ d, decide (y = c) = d := ⟨_, rfl⟩
    rw [hd] at eqq
    have HD := Lib.hid hd
    clear hd X en
    cases d
    · have HNN := Lib.hid (not_upto HN.out HY.out (by have := HD.out; simpa using this))
      go_wp2_with fail
      go_roundw
      case rel => exact ⟨k + 1, by omega, by go_num, HNN, X9⟩
      case measure => simp [intOf]; omega
    · have HC : Hid (L[k]? = some c) := Lib.hid (by have := HD.out; have e := of_decide_eq_true this; rw [HY.out, e])
      have HM := Lib.hid (List.mem_of_getElem? HC.out)
      have XB := Lib.hid ((ez.tr X9).mono HB.out.1)
      have SX := Lib.hid (HS.out.ext (ez.tr X9))
      clear X9
      go_wp2_with fail
      go_ret
      exact ⟨XB.out, by rw [decide_eq_false (fun q => q HM.out)]; rfl, _, _, by unfold addL addR; rw [if_pos HM.out, if_pos HM.out]; exact SX.out⟩
end Go.Proofs.YtmmoenkmicimcaaGreatDoor
namespace Go.Proofs.YtmmoenkmicimcaaGreatDoor
open Go.RowKit
set_option linter.unusedVariables false
set_option maxRecDepth 100000
/-- A revocation list. -/
structure RV where
  st : List UInt8
  num : Int
  day : Int
  nxt : Int
  ser : List Int
  iss : Int
  e : Int
  s : Int
theorem nationalcert_stM (l : List UInt8) (w : World) (hl : l.length ≤ maxLen) : Calls Tryz.prog 56 #[.string (bstr l)] w fun e w' => e = .returned (.bool (decide (stateP l))) ∧ w = w' :=
  state_any (bstr l) w (by show l.toArray.size ≤ _; simpa using hl)
theorem traveldocref29_stM (l : List UInt8) (w : World) (hl : l.length ≤ maxLen) : Calls Tryz.prog 60 #[.string (bstr l)] w fun e w' => e = .returned (.bool (decide (stateP l))) ∧ w = w' :=
  refstate_any (bstr l) w (by show l.toArray.size ≤ _; simpa using hl)
/-- A list that lies in block g; v: its numbers' slice. -/
def RvAt (w : World) (g : Nat) (r : RV) (v : Value) : Prop := w.heap[g]? = some (.cells #[.string (bstr r.st), .int .i64 r.num, .int .i64 r.day, .int .i64 r.nxt, v, .int .i64 r.iss, .int .i64 r.e, .int .i64 r.s] 88 (0, 0))
def rvRow (r : RV) (v : Value) : Array Value := #[.string (bstr r.st), .int .i64 r.num, .int .i64 r.day, .int .i64 r.nxt, v, .int .i64 r.iss, .int .i64 r.e, .int .i64 r.s]
def rvV (r : RV) (v : Value) : Value := .agg #[.string (bstr r.st), .int .i64 r.num, .int .i64 r.day, .int .i64 r.nxt, v, .int .i64 r.iss, .int .i64 r.e, .int .i64 r.s]
theorem info_rv : (Tryz.prog.info? 88).map (·.size) = some 8 := by kernel_rfl
section
variable {w w' : World} {g : Nat} {r : RV} {v : Value}
theorem RvAt.lt (h : RvAt w g r v) : g < w.heap.size := block_lt h
theorem RvAt.ext (h : RvAt w g r v) (e : Ext w w') : RvAt w' g r v := (e.block g h.lt).trans h
theorem RvAt.frozen (h : RvAt w g r v) (i : Nat) : w.frozen? ⟨g, i, none⟩ = false := by
  unfold RvAt at h
  simp [World.frozen?, h]
theorem RvAt.row (h : RvAt w g r v) : w.heap[g]? = some (.cells (rvRow r v) 88 (0, 0)) := h
theorem RvAt.c0 (h : RvAt w g r v) : w.cell? ⟨g, 0, none⟩ = some (.string (bstr r.st)) := by rw [cell_of_row w g 0 _ _ _ h]; rfl
theorem RvAt.c1 (h : RvAt w g r v) : w.cell? ⟨g, 1, none⟩ = some (.int .i64 r.num) := by rw [cell_of_row w g 1 _ _ _ h]; rfl
theorem RvAt.c2 (h : RvAt w g r v) : w.cell? ⟨g, 2, none⟩ = some (.int .i64 r.day) := by rw [cell_of_row w g 2 _ _ _ h]; rfl
theorem RvAt.c3 (h : RvAt w g r v) : w.cell? ⟨g, 3, none⟩ = some (.int .i64 r.nxt) := by rw [cell_of_row w g 3 _ _ _ h]; rfl
theorem RvAt.c4 (h : RvAt w g r v) : w.cell? ⟨g, 4, none⟩ = some (v) := by rw [cell_of_row w g 4 _ _ _ h]; rfl
theorem RvAt.c5 (h : RvAt w g r v) : w.cell? ⟨g, 5, none⟩ = some (.int .i64 r.iss) := by rw [cell_of_row w g 5 _ _ _ h]; rfl
theorem RvAt.c6 (h : RvAt w g r v) : w.cell? ⟨g, 6, none⟩ = some (.int .i64 r.e) := by rw [cell_of_row w g 6 _ _ _ h]; rfl
theorem RvAt.c7 (h : RvAt w g r v) : w.cell? ⟨g, 7, none⟩ = some (.int .i64 r.s) := by rw [cell_of_row w g 7 _ _ _ h]; rfl
end
end Go.Proofs.YtmmoenkmicimcaaGreatDoor
namespace Go.Proofs.YtmmoenkmicimcaaGreatDoor
open Go.RowKit
set_option linter.unusedVariables false
set_option maxRecDepth 100000
def zeroR : RV := ⟨[], 0, 0, 0, [], 0, 0, 0⟩
section
variable {w w' : World} {g : Nat} {r : RV} {v : Value}
theorem RvAt.cells (h : RvAt w g r v) : w.cell? ⟨g, 0, none⟩ = some (.string (bstr r.st)) ∧ w.cell? ⟨g, 1, none⟩ = some (.int .i64 r.num) ∧ w.cell? ⟨g, 2, none⟩ = some (.int .i64 r.day) ∧ w.cell? ⟨g, 3, none⟩ = some (.int .i64 r.nxt) ∧ w.cell? ⟨g, 4, none⟩ = some v ∧ w.cell? ⟨g, 5, none⟩ = some (.int .i64 r.iss) ∧ w.cell? ⟨g, 6, none⟩ = some (.int .i64 r.e) ∧ w.cell? ⟨g, 7, none⟩ = some (.int .i64 r.s) :=
  ⟨h.c0, h.c1, h.c2, h.c3, h.c4, h.c5, h.c6, h.c7⟩
theorem RvAt.new (w : World) (r : RV) (v : Value) : RvAt (w.alloc (.cells #[.string (bstr r.st), .int .i64 r.num, .int .i64 r.day, .int .i64 r.nxt, v, .int .i64 r.iss, .int .i64 r.e, .int .i64 r.s] 88)) w.heap.size r v := heap_alloc_new' w _
theorem RvAt.other {b i : Nat} {u : Value} (h : RvAt w g r v) (hne : g ≠ b) : RvAt (w.setCell ⟨b, i, none⟩ u) g r v := (setCell_block hne).trans h
theorem RvAt.setSig (h : RvAt w g r v) (e s : Int) : RvAt ((w.setCell ⟨g, 6, none⟩ (.int .i64 e)).setCell ⟨g, 7, none⟩ (.int .i64 s)) g ⟨r.st, r.num, r.day, r.nxt, r.ser, r.iss, e, s⟩ v := by
  have h9 := row_set (row_set h 6 (.int .i64 e)) 7 (.int .i64 s)
  simp only [List.setIfInBounds_toArray, List.set_cons_zero, List.set_cons_succ] at h9
  exact h9
end
abbrev set8 (w : World) (g : Nat) (v0 v1 v2 v3 v4 v5 v6 v7 : Value) : World := ((((((((w.setCell ⟨g, 0, none⟩ v0).setCell ⟨g, 1, none⟩ v1).setCell ⟨g, 2, none⟩ v2).setCell ⟨g, 3, none⟩ v3).setCell ⟨g, 4, none⟩ v4).setCell ⟨g, 5, none⟩ v5).setCell ⟨g, 6, none⟩ v6).setCell ⟨g, 7, none⟩ v7)
abbrev setR (w : World) (g : Nat) (d : RV) (u : Value) : World := set8 w g (.string (bstr d.st)) (.int .i64 d.num) (.int .i64 d.day) (.int .i64 d.nxt) u (.int .i64 d.iss) (.int .i64 d.e) (.int .i64 d.s)
theorem RvAt.setR {w : World} {g : Nat} {r : RV} {v : Value} (h : RvAt w g r v) (d : RV) (u : Value) : RvAt (setR w g d u) g d u := by
  have h9 := (row_set (row_set (row_set (row_set (row_set (row_set (row_set (row_set h 0 (.string (bstr d.st))) 1 (.int .i64 d.num)) 2 (.int .i64 d.day)) 3 (.int .i64 d.nxt)) 4 u) 5 (.int .i64 d.iss)) 6 (.int .i64 d.e)) 7 (.int .i64 d.s))
  simp only [List.setIfInBounds_toArray, List.set_cons_zero, List.set_cons_succ] at h9
  exact h9
theorem ext_setR {w w' : World} {g : Nat} (h : Ext w w') (hg : w.heap.size ≤ g) (d : RV) (u : Value) : Ext w (setR w' g d u) :=
  ext_set (ext_set (ext_set (ext_set (ext_set (ext_set (ext_set (ext_set h hg) hg) hg) hg) hg) hg) hg) hg
/-- Two blocks: a list that came, and the result. -/
structure TwoR (w wz : World) (r : RV) (v : Value) : Prop where
  ext : Ext w wz
  c : RvAt wz w.heap.size r v
  r : RvAt wz (w.heap.size + 1) zeroR (.slice none 0 0)
theorem two_allocR (w : World) (r : RV) (v : Value) : ∃ wz, wz = (w.alloc (.cells #[.string (bstr r.st), .int .i64 r.num, .int .i64 r.day, .int .i64 r.nxt, v, .int .i64 r.iss, .int .i64 r.e, .int .i64 r.s] 88)).alloc (.cells #[.string ⟨#[]⟩, .int .i64 0, .int .i64 0, .int .i64 0, .slice none 0 0, .int .i64 0, .int .i64 0, .int .i64 0] 88) ∧ TwoR w wz r v := by
  have e1 : Ext w (w.alloc (.cells #[.string (bstr r.st), .int .i64 r.num, .int .i64 r.day, .int .i64 r.nxt, v, .int .i64 r.iss, .int .i64 r.e, .int .i64 r.s] 88)) := (Below.refl _ _).alloc (Nat.le_refl _) _
  refine ⟨_, rfl, e1.alloc (by simp) _, (RvAt.new w r v).ext ((Below.refl _ _).alloc (Nat.le_refl _) _), ?_⟩
  have := RvAt.new (w.alloc (.cells #[.string (bstr r.st), .int .i64 r.num, .int .i64 r.day, .int .i64 r.nxt, v, .int .i64 r.iss, .int .i64 r.e, .int .i64 r.s] 88)) zeroR (.slice none 0 0)
  rw [show (w.alloc (.cells #[.string (bstr r.st), .int .i64 r.num, .int .i64 r.day, .int .i64 r.nxt, v, .int .i64 r.iss, .int .i64 r.e, .int .i64 r.s] 88)).heap.size = w.heap.size + 1 by simp] at this
  exact this
theorem TwoR.tr {w wz wy : World} {r : RV} {v : Value} (h : TwoR w wz r v) (e : Ext wz wy) : TwoR w wy r v := ⟨h.ext.tr e, h.c.ext e, h.r.ext e⟩
theorem Own.setLow {w : World} {B g i : Nat} {e : TypeId} {v u : Value} {xs : List Value} (h : Own w B e v xs) (hg : g < B) : Own (w.setCell ⟨g, i, none⟩ u) B e v xs := by
  obtain ⟨A, n, c, rfl, hn, h | ⟨b, cur, rfl, hB, hb, hr⟩⟩ := h
  · exact ⟨A, n, c, rfl, hn, .inl h⟩
  · exact ⟨_, n, c, rfl, hn, .inr ⟨b, cur, rfl, hB, (setCell_block (by omega)).trans hb, hr⟩⟩
theorem eql_nilI (w : World) (A : Option Addr) (n c : Nat) : (binOp .eql 22 (.slice A n c) (.slice none 0 0)).run Tryz.prog w = .ok (.bool A.isNone) w := Lib.run_eql_slice_nil w _ 3 A n c 0 0 Tryz.underlying22
set_option maxHeartbeats 1000000 in
theorem cloneI_any {a : Value} {l : List Int} (w : World) (ha : RdI w .i64 a l) (hl : l.length ≤ 1000000) : Calls Tryz.prog 115 #[a] w fun e w' => ∃ A n c, e = .returned (.slice A n c) ∧ Own w' w.heap.size 3 (.slice A n c) (l.map (Value.int .i64)) ∧ Ext w w' := by
  have ha0 := ha
  obtain ⟨A, n, c, rfl, hn, hnc, hcm, hA⟩ := ha.ints
  subst hn
  have hcm2 := hcm
  unfold maxLen at hcm
  have h1 : ∀ u ∈ l.map (Value.int .i64), u.oneCell' = true := by
    intro u hu
    obtain ⟨x, _, rfl⟩ := List.mem_map.1 hu
    rfl
  cases A with
  | none =>
    have h0 : l = [] := by
      by_cases h : 0 < l.length
      · obtain ⟨b, o, e, _⟩ := hA h; cases e
      · exact List.eq_nil_of_length_eq_zero (by omega)
    subst h0
    clear hA ha ha0
    have hq := fun w => eql_nilI w none 0 c
    go_enter Tryz.func115, Tryz.ntmps115
    go_wp2
    go_ret
    exact ⟨_, _, _, rfl, Own.nil_ _ _ _, Below.refl _ _⟩
  | some ad =>
    clear hA ha
    have hq := fun w => eql_nilI w (some ad) l.length c
    have e6 : Ext w (w.alloc (.cells #[] 3)) := (Below.refl _ _).alloc (Nat.le_refl _) _
    go_enter Tryz.func115, Tryz.ntmps115
    go_wp2_with (refine wpList_app (B := w.heap.size) (w0 := w) elemI (Own.empty _ _ _ _) (Rd.ext ha0 e6) h1 e6 (by simp; omega) (by unfold maxLen; simp; omega) e6.size rfl rfl rfl rfl ?_; intro A2 c2 w2 o2 b2 g2)
    simp only [List.nil_append, List.length_nil, List.length_map, Nat.zero_add] at o2
    go_ret
    exact ⟨_, _, _, rfl, o2, b2⟩
set_option maxHeartbeats 4000000 in
theorem crev_any (r : RV) (v : Value) (w : World) (hv : RdI w .i64 v r.ser) (hl : r.ser.length ≤ 1000000) : Calls Tryz.prog 76 #[rvV r v] w fun e w' => ∃ A n c, e = .returned (rvV r (.slice A n c)) ∧ Own w' w.heap.size 3 (.slice A n c) (r.ser.map (Value.int .i64)) ∧ Ext w w' := by
  obtain ⟨wz, hwz, T⟩ := two_allocR w r v
  have HR := Lib.hid (hv.ext T.ext)
  obtain ⟨A, n, c, rfl, hn, hnc, hcm, hel⟩ := hv.ints
  clear hel hv
  unfold rvV
  go_enter Tryz.func76, Tryz.ntmps76
  subst hn
  go_wp2_with fail
  rw [← hwz]
  clear hwz
  refine (cloneI_any _ HR.out hl).mono ?_
  rintro e w1 ⟨A1, n1, c1, rfl, o1, b1⟩
  have T1 := T.tr b1
  have hz : w.heap.size + 1 < wz.heap.size := T.r.lt
  clear T
  have O1 := Lib.hid o1
  clear o1 HR
  have f4 := T1.c.frozen 4
  have hl0 := T1.c.lt
  have hlr := T1.r.lt
  obtain ⟨t0, t1, t2, t3, t4, t5, t6, t7⟩ := T1.c.cells
  obtain ⟨r0, r1, r2, r3, r4, r5, r6, r7⟩ := T1.r.cells
  have g0 := T1.r.frozen 0
  have g1 := T1.r.frozen 1
  have g2 := T1.r.frozen 2
  have g3 := T1.r.frozen 3
  have g4 := T1.r.frozen 4
  have g5 := T1.r.frozen 5
  have g6 := T1.r.frozen 6
  have g7 := T1.r.frozen 7
  go_wp2_with fail
  have TR := T1.r.other (b := w.heap.size) (i := 4) (u := .slice A1 n1 c1) (by omega)
  have TZ : RvAt (set8 (w1.setCell ⟨w.heap.size, 4, none⟩ (.slice A1 n1 c1)) (w.heap.size + 1) (.string (bstr r.st)) (.int .i64 r.num) (.int .i64 r.day) (.int .i64 r.nxt) (.slice A1 n1 c1) (.int .i64 r.iss) (.int .i64 r.e) (.int .i64 r.s)) (w.heap.size + 1) r (.slice A1 n1 c1) := TR.setR r (.slice A1 n1 c1)
  have OZ := Lib.hid (show Own (set8 (w1.setCell ⟨w.heap.size, 4, none⟩ (.slice A1 n1 c1)) (w.heap.size + 1) (.string (bstr r.st)) (.int .i64 r.num) (.int .i64 r.day) (.int .i64 r.nxt) (.slice A1 n1 c1) (.int .i64 r.iss) (.int .i64 r.e) (.int .i64 r.s)) wz.heap.size 3 (.slice A1 n1 c1) (r.ser.map (Value.int .i64)) from
    ((((((((O1.out.setLow (by omega)).setLow hz).setLow hz).setLow hz).setLow hz).setLow hz).setLow hz).setLow hz).setLow hz)
  refine bodyPost_ret (v := rvV r (.slice A1 n1 c1)) ?_ rfl ⟨A1, n1, c1, rfl, OZ.out.mono (by omega), ext_setR (ext_set T1.ext (Nat.le_refl _)) (by omega) r (.slice A1 n1 c1)⟩
  obtain ⟨q0, q1, q2, q3, q4, q5, q6, q7⟩ := TZ.cells
  clear r0 r1 r2 r3 r4 r5 r6 r7 t0 t1 t2 t3 t4 t5 t6 t7
  simp [results, Tryz.results76, go_sem, rvV, q0, q1, q2, q3, q4, q5, q6, q7]
end Go.Proofs.YtmmoenkmicimcaaGreatDoor
namespace Go.Proofs.YtmmoenkmicimcaaGreatDoor
open Go.RowKit
set_option linter.unusedVariables false
set_option maxRecDepth 100000
/-- A slice, told by its address, length and room. -/
abbrev SlT := Option Addr × Nat × Nat
/-- A store's block. -/
abbrev stO (s0 s1 s2 s3 s4 : SlT) : Obj := .cells #[.slice s0.1 s0.2.1 s0.2.2, .slice s1.1 s1.2.1 s1.2.2, .slice s2.1 s2.2.1 s2.2.2, .slice s3.1 s3.2.1 s3.2.2, .slice s4.1 s4.2.1 s4.2.2] 31
def slV (s : SlT) : Value := .slice s.1 s.2.1 s.2.2
/-- A store by value: the slices of roots, pool, master lists, revocation lists, deviation lists. -/
def storeV (s0 s1 s2 s3 s4 : SlT) : Value := .agg #[.slice s0.1 s0.2.1 s0.2.2, .slice s1.1 s1.2.1 s1.2.2, .slice s2.1 s2.2.1 s2.2.2, .slice s3.1 s3.2.1 s3.2.2, .slice s4.1 s4.2.1 s4.2.2]
end Go.Proofs.YtmmoenkmicimcaaGreatDoor
namespace Go.Proofs.YtmmoenkmicimcaaGreatDoor
open Go.RowKit
set_option linter.unusedVariables false
set_option maxRecDepth 100000
theorem NdCells.append {S : Nat → Prop} {w : World} {d : Nat} {xs ys : List Value} {ts us : List Nd} (h1 : NdCells S d w xs ts) (h2 : NdCells S d w ys us) : NdCells S d w (xs ++ ys) (ts ++ us) := by
  have hl := h1.1
  refine ⟨by rw [List.length_append, List.length_append, h1.1, h2.1, Nat.add_mul], fun i u hu => ?_⟩
  by_cases hi : i < ts.length
  · rw [List.getElem?_append_left hi] at hu
    obtain ⟨B1, m1, d1, B2, m2, d2, e0, e1, e2, q1, q2⟩ := h1.2 i u hu
    exact ⟨B1, m1, d1, B2, m2, d2, by rw [List.getElem?_append_left (by omega)]; exact e0, by rw [List.getElem?_append_left (by omega)]; exact e1, by rw [List.getElem?_append_left (by omega)]; exact e2, q1, q2⟩
  · rw [List.getElem?_append_right (by omega)] at hu
    obtain ⟨B1, m1, d1, B2, m2, d2, e0, e1, e2, q1, q2⟩ := h2.2 _ u hu
    exact ⟨B1, m1, d1, B2, m2, d2, by rw [List.getElem?_append_right (by omega), show i * 3 - xs.length = (i - ts.length) * 3 by omega]; exact e0, by rw [List.getElem?_append_right (by omega), show i * 3 + 1 - xs.length = (i - ts.length) * 3 + 1 by omega]; exact e1, by rw [List.getElem?_append_right (by omega), show i * 3 + 2 - xs.length = (i - ts.length) * 3 + 2 by omega]; exact e2, q1, q2⟩
/-- New objects without room behind them. -/
def NdF (B d : Nat) (ts : List Nd) : VPred := fun v w => ∃ (g : Nat) (cs : Array Value), v = .slice (some ⟨g, 0, none⟩) ts.length ts.length ∧ B ≤ g ∧ w.heap[g]? = some (.cells cs 94 (0, 0)) ∧ NdCells (fun b => B ≤ b) d w cs.toList ts
theorem stable_NdF (B d : Nat) (ts : List Nd) : StableP (NdF B d ts) := fun v w w' e ⟨g, cs, h1, h2, h3, h4⟩ => ⟨g, cs, h1, h2, (e.block g (block_lt h3)).trans h3, h4.map fun b hb hlt => ⟨hb, e.block b hlt⟩⟩
set_option maxHeartbeats 1000000 in
theorem run_bs3 (W : World) (z0 : Int) (a0 b0 : Option Addr) (n0 c0 m0 d0 : Nat) (z1 : Int) (a1 b1 : Option Addr) (n1 c1 m1 d1 : Nat) (z2 : Int) (a2 b2 : Option Addr) (n2 c2 m2 d2 : Nat) : (Instr.buildSlice 92 3 [(0, .agg #[.int .i64 z0, .slice a0 n0 c0, .slice b0 m0 d0]), (1, .agg #[.int .i64 z1, .slice a1 n1 c1, .slice b1 m1 d1]), (2, .agg #[.int .i64 z2, .slice a2 n2 c2, .slice b2 m2 d2])].toArray).run Tryz.prog W = .ok (.slice (some ⟨W.heap.size, 0, none⟩) 3 3) (W.alloc (.cells #[.int .i64 z0, .slice a0 n0 c0, .slice b0 m0 d0, .int .i64 z1, .slice a1 n1 c1, .slice b1 m1 d1, .int .i64 z2, .slice a2 n2 c2, .slice b2 m2 d2] 94)) := by go_simp
theorem run_nodesF2 {B d : Nat} (W : World) (hB : B ≤ W.heap.size) {v0 v1 : Value} {t0 t1 : Nd} (h0 : NdG B d t0 v0 W) (h1 : NdG B d t1 v1 W) : ∃ v' w'', (Instr.buildSlice 92 2 [(0, v0), (1, v1)].toArray).run Tryz.prog W = .ok v' w'' ∧ Ext W w'' ∧ NdF B d [t0, t1] v' w'' := by
  obtain ⟨a0, n0, c0, b0, m0, d0, rfl, r0, k0⟩ := h0
  obtain ⟨a1, n1, c1, b1, m1, d1, rfl, r1, k1⟩ := h1
  have e : Ext W (W.alloc (.cells #[.int .i64 t0.tag, .slice a0 n0 c0, .slice b0 m0 d0, .int .i64 t1.tag, .slice a1 n1 c1, .slice b1 m1 d1] 94)) := (Below.refl _ _).alloc (Nat.le_refl _) _
  exact ⟨_, _, run_bs2 W t0.tag a0 b0 n0 c0 m0 d0 t1.tag a1 b1 n1 c1 m1 d1, e, _, _, rfl, hB, heap_alloc_new' W _, (((NdCells.nil _ d W).snoc r0 k0).snoc r1 k1).map fun b hb hlt => ⟨hb, e.block b hlt⟩⟩
section
variable {P : Program} {ops : Array Oper} {rest : List Oper} {o : Oper} {a : Act} {Q : Exit → Act → World → Prop} {w : World}
theorem wpList_conv {t1 t2 : TypeId} {x : Operand} {xv v : Value} {w' : World} (hgd : o.guard = none) (ho : o.op = .convert t1 t2 x) (hx : a.eval x = xv) (hr : (convert t1 t2 xv).run P w = .ok v w') (h : wpList P ops Q rest (a.put o.dst v) w') : wpList P ops Q (o :: rest) a w :=
  wpList_plain hgd fun _ hK => by
    unfold Oper.wp execOp
    simp only [ho, hx, hr, Sem.run_bind, Sem.run_pure, Result.andThen_ok]
    exact hK _ _ h
end
theorem refhead_any (st : List UInt8) (num : Int) (w : World) (hs : st.length ≤ 4096) (h0 : 0 ≤ num) (h1 : num < 9223372036854775808) :
    Calls Tryz.prog 50 #[.string (bstr st), .int .i64 num] w fun e w' => ∃ v, e = .returned v ∧ Ext w w' ∧ NdF w.heap.size 0 [leafN 19 st, leafN 130 (be4 num)] v w' := by
  obtain ⟨v1, w1, r1, x1, g1⟩ := gs_str (B := w.heap.size) w (Nat.le_refl _) st hs
  obtain ⟨A1, n1, c1, rfl⟩ := g1.slice
  go_enter Tryz.func50, Tryz.ntmps50
  go_wp2_with (refine wpList_conv rfl rfl rfl r1 ?_)
  refine (leafC (B := w.heap.size) (d := 0) w1 19 g1).mono ?_
  rintro e w2 ⟨v2, rfl, x2, g2⟩
  go_wp2_with fail
  refine (refbytes_any 4 num 4 w2 h0 h1 rfl (by omega)).mono ?_
  rintro e w3 hb
  obtain ⟨v3, rfl, x3, g3⟩ := (beN_4 num ▸ hb : RetB w2 (be4 num) _ _).gs (Nat.le_trans x1.size x2.size)
  go_wp2_with fail
  refine (leafC (B := w.heap.size) (d := 0) w3 130 g3).mono ?_
  rintro e w4 ⟨v4, rfl, x4, g4⟩
  have g2' := stable_NdG _ _ _ _ _ _ (x3.tr x4) g2
  have xw := ((x1.tr x2).tr x3).tr x4
  obtain ⟨v5, w5, r5, x5, g5⟩ := run_nodesF2 w4 xw.size g2' g4
  obtain ⟨a0, n0, c0, b0, m0, d0, rfl, r0, k0⟩ := g2'
  obtain ⟨a1, n1', c1', b1, m1, d1, rfl, r1', k1⟩ := g4
  rw [run_bs2] at r5
  injection r5 with e1 e2
  subst e1 e2
  go_wp2_with fail
  go_ret
  exact ⟨_, rfl, xw.tr x5, g5⟩
theorem ndf_mono {B B' d : Nat} {ts : List Nd} {v : Value} {w : World} (h : NdF B d ts v w) (hB : B' ≤ B) : NdF B' d ts v w := by
  obtain ⟨g, cs, h1, h2, h3, h4⟩ := h
  exact ⟨g, cs, h1, Nat.le_trans hB h2, h3, h4.map fun b hb _ => ⟨Nat.le_trans hB hb, rfl⟩⟩
end Go.Proofs.YtmmoenkmicimcaaGreatDoor
