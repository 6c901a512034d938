/- Layer 27: Message at any bytes, Prove, Accept. -/
import Derived.Test.YteihfboomegpkaaDoorTa
namespace Go.Proofs.YteihfboomegpkaaDoor
open Go.RowKit
set_option linter.unusedVariables false
set_option maxRecDepth 100000

theorem message_no {a b c : Value} {id ch sh : List UInt8} (w : World) (ha : Rd w a (bvs id)) (hb : Rd w b (bvs ch)) (hc : Rd w c (bvs sh)) (h : ¬ taOk id ch sh) :
    Calls Tryd.prog 53 #[a, b, c] w (RetQ w (.tuple #[.slice none 0 0, .int .i64 2])) := by
  obtain ⟨A, na, ca, rfl, hna, hnac, hcam, hA⟩ := ha.bytes
  obtain ⟨B, nb, cb, rfl, hnb, hnbc, hcbm, hB⟩ := hb.bytes
  obtain ⟨C, nc, cc, rfl, hnc, hncc, hccm, hC⟩ := hc.bytes
  subst hna hnb hnc
  clear hA hB hC ha hb hc
  unfold maxLen at hcam hcbm hccm
  have HH := Lib.hid h
  clear h
  by_cases q1 : id.length < 1
  · clear HH
    go_enter Tryd.func53, Tryd.ntmps53
    go_wp2
    go_ret2
    exact ⟨rfl, Below.refl _ _⟩
  · by_cases q2 : 32 < id.length
    · clear HH
      go_enter Tryd.func53, Tryd.ntmps53
      go_wp2
      go_ret2
      exact ⟨rfl, Below.refl _ _⟩
    · by_cases q3 : ch.length = 8
      · have q4 : ((sh.length : Int) != 8) = true := by
          have : ¬ sh.length = 8 := fun h => HH.out ⟨by omega, by omega, q3, h⟩
          simp; omega
        have q5 : ((ch.length : Int) != 8) = false := by simp; omega
        clear HH q3
        go_enter Tryd.func53, Tryd.ntmps53
        go_wp2
        go_ret2
        exact ⟨rfl, Below.refl _ _⟩
      · have q5 : ((ch.length : Int) != 8) = true := by simp; omega
        clear HH q3
        go_enter Tryd.func53, Tryd.ntmps53
        go_wp2
        go_ret2
        exact ⟨rfl, Below.refl _ _⟩

theorem refmessage_no {a b c : Value} {id ch sh : List UInt8} (w : World) (ha : Rd w a (bvs id)) (hb : Rd w b (bvs ch)) (hc : Rd w c (bvs sh)) (h : ¬ taOk id ch sh) :
    Calls Tryd.prog 54 #[a, b, c] w (RetQ w (.tuple #[.slice none 0 0, .int .i64 2])) := by
  obtain ⟨A, na, ca, rfl, hna, hnac, hcam, hA⟩ := ha.bytes
  obtain ⟨B, nb, cb, rfl, hnb, hnbc, hcbm, hB⟩ := hb.bytes
  obtain ⟨C, nc, cc, rfl, hnc, hncc, hccm, hC⟩ := hc.bytes
  subst hna hnb hnc
  clear hA hB hC ha hb hc
  unfold maxLen at hcam hcbm hccm
  have HH := Lib.hid h
  clear h
  by_cases q1 : id.length < 1
  · clear HH
    go_enter Tryd.func54, Tryd.ntmps54
    go_wp2
    go_ret2
    exact ⟨rfl, Below.refl _ _⟩
  · by_cases q2 : 32 < id.length
    · clear HH
      go_enter Tryd.func54, Tryd.ntmps54
      go_wp2
      go_ret2
      exact ⟨rfl, Below.refl _ _⟩
    · by_cases q3 : ch.length = 8
      · have q4 : ((sh.length : Int) != 8) = true := by
          have : ¬ sh.length = 8 := fun h => HH.out ⟨by omega, by omega, q3, h⟩
          simp; omega
        have q5 : ((ch.length : Int) != 8) = false := by simp; omega
        clear HH q3
        go_enter Tryd.func54, Tryd.ntmps54
        go_wp2
        go_ret2
        exact ⟨rfl, Below.refl _ _⟩
      · have q5 : ((ch.length : Int) != 8) = true := by simp; omega
        clear HH q3
        go_enter Tryd.func54, Tryd.ntmps54
        go_wp2
        go_ret2
        exact ⟨rfl, Below.refl _ _⟩

def taB (id ch sh : List UInt8) : List UInt8 := if taOk id ch sh then taMsg id ch sh else []
def taK (id ch sh : List UInt8) : Int := if taOk id ch sh then 0 else 2
theorem taMsg_bd {id ch sh : List UInt8} (h : taOk id ch sh) : (taMsg id ch sh).length ≤ 140737488352000 := by
  obtain ⟨h1, h2, h3, h4⟩ := h
  rw [taMsg_length]; omega

theorem message_any {a b c : Value} {id ch sh : List UInt8} (w : World) (ha : Rd w a (bvs id)) (hb : Rd w b (bvs ch)) (hc : Rd w c (bvs sh)) :
    Calls Tryd.prog 53 #[a, b, c] w (RetRE w (taB id ch sh) (taK id ch sh)) := by
  unfold taB taK
  by_cases h : taOk id ch sh
  · rw [if_pos h, if_pos h]
    exact (message_yes w ha hb hc h).mono fun _ _ ⟨A, n, c, h1, h2, h3, h4⟩ => ⟨A, n, c, h1, h2, h3.rd, h4⟩
  · rw [if_neg h, if_neg h]
    exact (message_no w ha hb hc h).mono fun _ _ ⟨h1, h2⟩ => ⟨_, _, _, h1, (show _ = _ from rfl), Rd.nil_ _, h2⟩

theorem refmessage_any {a b c : Value} {id ch sh : List UInt8} (w : World) (ha : Rd w a (bvs id)) (hb : Rd w b (bvs ch)) (hc : Rd w c (bvs sh)) :
    Calls Tryd.prog 54 #[a, b, c] w (RetRE w (taB id ch sh) (taK id ch sh)) := by
  unfold taB taK
  by_cases h : taOk id ch sh
  · rw [if_pos h, if_pos h]
    exact (refmessage_yes w ha hb hc h).mono fun _ _ ⟨A, n, c, h1, h2, h3, h4⟩ => ⟨A, n, c, h1, h2, h3.rd, h4⟩
  · rw [if_neg h, if_neg h]
    exact (refmessage_no w ha hb hc h).mono fun _ _ ⟨h1, h2⟩ => ⟨_, _, _, h1, (show _ = _ from rfl), Rd.nil_ _, h2⟩

def pvE (k : Int) (id ch sh : List UInt8) : Int := if taOk id ch sh then sE k (taMsg id ch sh) else 0
def pvS (k : Int) (id ch sh : List UInt8) : Int := if taOk id ch sh then sS k (taMsg id ch sh) else 0
def pvK (k : Int) (id ch sh : List UInt8) : Int := if taOk id ch sh then sK k else 2

set_option maxHeartbeats 1000000 in
theorem prove_any {a b c : Value} {id ch sh : List UInt8} (k : Int) (w : World) (ha : Rd w a (bvs id)) (hb : Rd w b (bvs ch)) (hc : Rd w c (bvs sh)) (E : KTab w 0) :
    Calls Tryd.prog 55 #[.int .i64 k, a, b, c] w (RetQ w (sgV (pvE k id ch sh) (pvS k id ch sh) (pvK k id ch sh))) := by
  have e0 : Ext w (w.alloc (.cells #[.int .i64 0, .int .i64 0] 47)) := (Below.refl _ _).alloc (Nat.le_refl _) _
  by_cases h : taOk id ch sh
  · unfold pvE pvS pvK
    rw [if_pos h, if_pos h, if_pos h]
    go_enter Tryd.func55, Tryd.ntmps55
    go_wp2_with fail
    refine (message_yes _ (ha.ext e0) (hb.ext e0) (hc.ext e0) h).mono ?_
    rintro e w1 ⟨A1, n1, c1, rfl, hn1, o1, b1⟩
    have x1 := e0.tr b1
    go_wp2_with fail
    refine (sign_any _ _ o1.rd (taMsg_bd h) (E.below x1)).mono ?_
    rintro e w2 ⟨rfl, b2⟩
    unfold sgV
    have hlt : w.heap.size < (w.alloc (.cells #[.int .i64 0, .int .i64 0] 47)).heap.size := by simp
    have c0 : w2.cell? ⟨w.heap.size, 0, none⟩ = some (.int .i64 0) := ((b1.tr b2).cell (p := ⟨w.heap.size, 0, none⟩) hlt).trans (by go_simp)
    have c1 : w2.cell? ⟨w.heap.size, 1, none⟩ = some (.int .i64 0) := ((b1.tr b2).cell (p := ⟨w.heap.size, 1, none⟩) hlt).trans (by go_simp)
    have f0 : w2.frozen? ⟨w.heap.size, 0, none⟩ = false := ((b1.tr b2).frozen (p := ⟨w.heap.size, 0, none⟩) hlt).trans (by go_simp)
    have f1 : w2.frozen? ⟨w.heap.size, 1, none⟩ = false := ((b1.tr b2).frozen (p := ⟨w.heap.size, 1, none⟩) hlt).trans (by go_simp)
    have x2 := x1.tr b2
    go_wp2_with fail
    refine bodyPost_ret (v := sgV (sE k (taMsg id ch sh)) (sS k (taMsg id ch sh)) (sK k)) ?_ rfl ⟨rfl, (x2.setCell (p := ⟨w.heap.size, 0, none⟩) (Nat.le_refl _) _).setCell (p := ⟨w.heap.size, 1, none⟩) (Nat.le_refl _) _⟩
    simp [results, Tryd.results55, go_sem, c0, c1, sgV]
  · unfold pvE pvS pvK
    rw [if_neg h, if_neg h, if_neg h]
    go_enter Tryd.func55, Tryd.ntmps55
    go_wp2_with fail
    refine (message_no _ (ha.ext e0) (hb.ext e0) (hc.ext e0) h).mono ?_
    rintro e w1 ⟨rfl, b1⟩
    have hlt : w.heap.size < (w.alloc (.cells #[.int .i64 0, .int .i64 0] 47)).heap.size := by simp
    have c0 : w1.cell? ⟨w.heap.size, 0, none⟩ = some (.int .i64 0) := (b1.cell (p := ⟨w.heap.size, 0, none⟩) hlt).trans (by go_simp)
    have c1 : w1.cell? ⟨w.heap.size, 1, none⟩ = some (.int .i64 0) := (b1.cell (p := ⟨w.heap.size, 1, none⟩) hlt).trans (by go_simp)
    have f0 : w1.frozen? ⟨w.heap.size, 0, none⟩ = false := (b1.frozen (p := ⟨w.heap.size, 0, none⟩) hlt).trans (by go_simp)
    have f1 : w1.frozen? ⟨w.heap.size, 1, none⟩ = false := (b1.frozen (p := ⟨w.heap.size, 1, none⟩) hlt).trans (by go_simp)
    have x1 := e0.tr b1
    go_wp2_with fail
    refine bodyPost_ret (v := sgV 0 0 2) ?_ rfl ⟨rfl, (x1.setCell (p := ⟨w.heap.size, 0, none⟩) (Nat.le_refl _) _).setCell (p := ⟨w.heap.size, 1, none⟩) (Nat.le_refl _) _⟩
    simp [results, Tryd.results55, go_sem, c0, c1, sgV]

set_option maxHeartbeats 1000000 in
theorem refprove_any {a b c : Value} {id ch sh : List UInt8} (k : Int) (w : World) (ha : Rd w a (bvs id)) (hb : Rd w b (bvs ch)) (hc : Rd w c (bvs sh)) (E : KTab w 1) :
    Calls Tryd.prog 56 #[.int .i64 k, a, b, c] w (RetQ w (sgV (pvE k id ch sh) (pvS k id ch sh) (pvK k id ch sh))) := by
  have e0 : Ext w (w.alloc (.cells #[.int .i64 0, .int .i64 0] 47)) := (Below.refl _ _).alloc (Nat.le_refl _) _
  by_cases h : taOk id ch sh
  · unfold pvE pvS pvK
    rw [if_pos h, if_pos h, if_pos h]
    go_enter Tryd.func56, Tryd.ntmps56
    go_wp2_with fail
    refine (refmessage_yes _ (ha.ext e0) (hb.ext e0) (hc.ext e0) h).mono ?_
    rintro e w1 ⟨A1, n1, c1, rfl, hn1, o1, b1⟩
    have x1 := e0.tr b1
    go_wp2_with fail
    refine (refsign_any _ _ o1.rd (taMsg_bd h) (E.below x1)).mono ?_
    rintro e w2 ⟨rfl, b2⟩
    unfold sgV
    have hlt : w.heap.size < (w.alloc (.cells #[.int .i64 0, .int .i64 0] 47)).heap.size := by simp
    have c0 : w2.cell? ⟨w.heap.size, 0, none⟩ = some (.int .i64 0) := ((b1.tr b2).cell (p := ⟨w.heap.size, 0, none⟩) hlt).trans (by go_simp)
    have c1 : w2.cell? ⟨w.heap.size, 1, none⟩ = some (.int .i64 0) := ((b1.tr b2).cell (p := ⟨w.heap.size, 1, none⟩) hlt).trans (by go_simp)
    have f0 : w2.frozen? ⟨w.heap.size, 0, none⟩ = false := ((b1.tr b2).frozen (p := ⟨w.heap.size, 0, none⟩) hlt).trans (by go_simp)
    have f1 : w2.frozen? ⟨w.heap.size, 1, none⟩ = false := ((b1.tr b2).frozen (p := ⟨w.heap.size, 1, none⟩) hlt).trans (by go_simp)
    have x2 := x1.tr b2
    go_wp2_with fail
    refine bodyPost_ret (v := sgV (sE k (taMsg id ch sh)) (sS k (taMsg id ch sh)) (sK k)) ?_ rfl ⟨rfl, (x2.setCell (p := ⟨w.heap.size, 0, none⟩) (Nat.le_refl _) _).setCell (p := ⟨w.heap.size, 1, none⟩) (Nat.le_refl _) _⟩
    simp [results, Tryd.results56, go_sem, c0, c1, sgV]
  · unfold pvE pvS pvK
    rw [if_neg h, if_neg h, if_neg h]
    go_enter Tryd.func56, Tryd.ntmps56
    go_wp2_with fail
    refine (refmessage_no _ (ha.ext e0) (hb.ext e0) (hc.ext e0) h).mono ?_
    rintro e w1 ⟨rfl, b1⟩
    have hlt : w.heap.size < (w.alloc (.cells #[.int .i64 0, .int .i64 0] 47)).heap.size := by simp
    have c0 : w1.cell? ⟨w.heap.size, 0, none⟩ = some (.int .i64 0) := (b1.cell (p := ⟨w.heap.size, 0, none⟩) hlt).trans (by go_simp)
    have c1 : w1.cell? ⟨w.heap.size, 1, none⟩ = some (.int .i64 0) := (b1.cell (p := ⟨w.heap.size, 1, none⟩) hlt).trans (by go_simp)
    have f0 : w1.frozen? ⟨w.heap.size, 0, none⟩ = false := (b1.frozen (p := ⟨w.heap.size, 0, none⟩) hlt).trans (by go_simp)
    have f1 : w1.frozen? ⟨w.heap.size, 1, none⟩ = false := (b1.frozen (p := ⟨w.heap.size, 1, none⟩) hlt).trans (by go_simp)
    have x1 := e0.tr b1
    go_wp2_with fail
    refine bodyPost_ret (v := sgV 0 0 2) ?_ rfl ⟨rfl, (x1.setCell (p := ⟨w.heap.size, 0, none⟩) (Nat.le_refl _) _).setCell (p := ⟨w.heap.size, 1, none⟩) (Nat.le_refl _) _⟩
    simp [results, Tryd.results56, go_sem, c0, c1, sgV]

/-- What Accept reports. -/
def acB (key role : Int) (id ch sh : List UInt8) (e s : Int) : Prop := role = 4 ∧ taOk id ch sh ∧ verB key (taMsg id ch sh) e s = true
instance (key role : Int) (id ch sh : List UInt8) (e s : Int) : Decidable (acB key role id ch sh e s) := inferInstanceAs (Decidable (_ ∧ _))
def acR (key role rights : Int) (id ch sh : List UInt8) (e s : Int) : Int := if acB key role id ch sh e s then rights else 0
def chainV (h : ByteArray) (key role rights fr to : Int) : Value := .agg #[.string h, .int .i64 key, .int .i64 role, .int .i64 rights, .int .i64 fr, .int .i64 to]

set_option maxHeartbeats 2000000 in
theorem accept_any {a b c : Value} {id ch sh : List UInt8} (h : ByteArray) (key role rights fr to e s : Int) (w : World) (ha : Rd w a (bvs id)) (hb : Rd w b (bvs ch)) (hc : Rd w c (bvs sh)) (E : KTab w 0) :
    Calls Tryd.prog 57 #[chainV h key role rights fr to, a, b, c, .agg #[.int .i64 e, .int .i64 s]] w (RetQ w (.tuple #[.int .i64 (acR key role rights id ch sh e s), .bool (decide (acB key role id ch sh e s))])) := by
  obtain ⟨wz, hwz⟩ : ∃ wz, wz = (w.alloc (.cells #[.string h, .int .i64 key, .int .i64 role, .int .i64 rights, .int .i64 fr, .int .i64 to] 65)).alloc (.cells #[.int .i64 e, .int .i64 s] 47) := ⟨_, rfl⟩
  have x0 : Ext w wz := by rw [hwz]; exact ((Below.refl _ _).alloc (Nat.le_refl _) _).alloc (by simp) _
  have CC : ∀ W, Ext wz W → (W.cell? ⟨w.heap.size, 1, none⟩ = some (.int .i64 key) ∧ W.cell? ⟨w.heap.size, 2, none⟩ = some (.int .i64 role) ∧ W.cell? ⟨w.heap.size, 3, none⟩ = some (.int .i64 rights)) ∧ W.cell? ⟨w.heap.size + 1, 0, none⟩ = some (.int .i64 e) ∧ W.cell? ⟨w.heap.size + 1, 1, none⟩ = some (.int .i64 s) := fun W hW => by
    have l1 : w.heap.size < wz.heap.size := by rw [hwz]; simp; omega
    have l2 : w.heap.size + 1 < wz.heap.size := by rw [hwz]; simp
    exact ⟨⟨(hW.cell (p := ⟨w.heap.size, 1, none⟩) l1).trans (by rw [hwz]; go_simp), (hW.cell (p := ⟨w.heap.size, 2, none⟩) l1).trans (by rw [hwz]; go_simp), (hW.cell (p := ⟨w.heap.size, 3, none⟩) l1).trans (by rw [hwz]; go_simp)⟩,
      (hW.cell (p := ⟨w.heap.size + 1, 0, none⟩) l2).trans (by rw [hwz]; go_simp), (hW.cell (p := ⟨w.heap.size + 1, 1, none⟩) l2).trans (by rw [hwz]; go_simp)⟩
  have HC := Lib.hid CC
  clear CC
  unfold chainV
  by_cases ho : taOk id ch sh
  · by_cases hr : role = 4
    · cases hv : verB key (taMsg id ch sh) e s with
      | true =>
        have hac : acB key role id ch sh e s := ⟨hr, ho, hv⟩
        unfold acR
        rw [decide_eq_true hac, if_pos hac]
        clear hac
        have t1 : (role != 4) = false := by simp [hr]
        have HV := Lib.hid hv
        clear hv hr
        go_enter Tryd.func57, Tryd.ntmps57
        go_wp2_with fail
        rw [← hwz]
        clear hwz
        refine (message_yes _ (ha.ext x0) (hb.ext x0) (hc.ext x0) ho).mono ?_
        rintro e' w1 ⟨A1, n1, c1, rfl, hn1, o1, b1⟩
        have x1 := x0.tr b1
        obtain ⟨⟨q1, q2, q3⟩, q4, q5⟩ := HC.out _ b1
        go_wp2_with fail
        refine (verify_any _ _ _ _ o1.rd (taMsg_bd ho) (E.below x1)).mono ?_
        rw [HV.out]
        rintro e' w2 ⟨rfl, b2⟩
        clear q1 q2 q3 q4 q5
        obtain ⟨⟨q1, q2, q3⟩, q4, q5⟩ := HC.out _ (b1.tr b2)
        go_wp2_with fail
        go_ret2
        exact ⟨rfl, x1.tr b2⟩
      | false =>
        have hac : ¬ acB key role id ch sh e s := fun q => by rw [q.2.2] at hv; cases hv
        unfold acR
        rw [decide_eq_false hac, if_neg hac]
        clear hac
        have t1 : (role != 4) = false := by simp [hr]
        have HV := Lib.hid hv
        clear hv hr
        go_enter Tryd.func57, Tryd.ntmps57
        go_wp2_with fail
        rw [← hwz]
        clear hwz
        refine (message_yes _ (ha.ext x0) (hb.ext x0) (hc.ext x0) ho).mono ?_
        rintro e' w1 ⟨A1, n1, c1, rfl, hn1, o1, b1⟩
        have x1 := x0.tr b1
        obtain ⟨⟨q1, q2, q3⟩, q4, q5⟩ := HC.out _ b1
        go_wp2_with fail
        refine (verify_any _ _ _ _ o1.rd (taMsg_bd ho) (E.below x1)).mono ?_
        rw [HV.out]
        rintro e' w2 ⟨rfl, b2⟩
        go_wp2_with fail
        go_ret2
        exact ⟨rfl, x1.tr b2⟩
    · have hac : ¬ acB key role id ch sh e s := fun q => hr q.1
      unfold acR
      rw [decide_eq_false hac, if_neg hac]
      clear hac
      have t1 : (role != 4) = true := by simp [hr]
      clear hr
      go_enter Tryd.func57, Tryd.ntmps57
      go_wp2_with fail
      rw [← hwz]
      clear hwz
      refine (message_yes _ (ha.ext x0) (hb.ext x0) (hc.ext x0) ho).mono ?_
      rintro e' w1 ⟨A1, n1, c1, rfl, hn1, o1, b1⟩
      have x1 := x0.tr b1
      obtain ⟨⟨q1, q2, q3⟩, q4, q5⟩ := HC.out _ b1
      go_wp2_with fail
      go_ret2
      exact ⟨rfl, x1⟩
  · have hac : ¬ acB key role id ch sh e s := fun q => ho q.2.1
    unfold acR
    rw [decide_eq_false hac, if_neg hac]
    clear hac
    by_cases hr : role = 4
    · have t1 : (role != 4) = false := by simp [hr]
      clear hr
      go_enter Tryd.func57, Tryd.ntmps57
      go_wp2_with fail
      rw [← hwz]
      clear hwz
      refine (message_no _ (ha.ext x0) (hb.ext x0) (hc.ext x0) ho).mono ?_
      rintro e' w1 ⟨rfl, b1⟩
      have x1 := x0.tr b1
      obtain ⟨⟨q1, q2, q3⟩, q4, q5⟩ := HC.out _ b1
      go_wp2_with fail
      go_ret2
      exact ⟨rfl, x1⟩
    · have t1 : (role != 4) = true := by simp [hr]
      clear hr
      go_enter Tryd.func57, Tryd.ntmps57
      go_wp2_with fail
      rw [← hwz]
      clear hwz
      refine (message_no _ (ha.ext x0) (hb.ext x0) (hc.ext x0) ho).mono ?_
      rintro e' w1 ⟨rfl, b1⟩
      have x1 := x0.tr b1
      obtain ⟨⟨q1, q2, q3⟩, q4, q5⟩ := HC.out _ b1
      go_wp2_with fail
      go_ret2
      exact ⟨rfl, x1⟩

set_option maxHeartbeats 2000000 in
theorem refaccept_any {a b c : Value} {id ch sh : List UInt8} (h : ByteArray) (key role rights fr to e s : Int) (w : World) (ha : Rd w a (bvs id)) (hb : Rd w b (bvs ch)) (hc : Rd w c (bvs sh)) (E : KTab w 1) :
    Calls Tryd.prog 58 #[chainV h key role rights fr to, a, b, c, .agg #[.int .i64 e, .int .i64 s]] w (RetQ w (.tuple #[.int .i64 (acR key role rights id ch sh e s), .bool (decide (acB key role id ch sh e s))])) := by
  obtain ⟨wz, hwz⟩ : ∃ wz, wz = (w.alloc (.cells #[.string h, .int .i64 key, .int .i64 role, .int .i64 rights, .int .i64 fr, .int .i64 to] 65)).alloc (.cells #[.int .i64 e, .int .i64 s] 47) := ⟨_, rfl⟩
  have x0 : Ext w wz := by rw [hwz]; exact ((Below.refl _ _).alloc (Nat.le_refl _) _).alloc (by simp) _
  have CC : ∀ W, Ext wz W → (W.cell? ⟨w.heap.size, 1, none⟩ = some (.int .i64 key) ∧ W.cell? ⟨w.heap.size, 2, none⟩ = some (.int .i64 role) ∧ W.cell? ⟨w.heap.size, 3, none⟩ = some (.int .i64 rights)) ∧ W.cell? ⟨w.heap.size + 1, 0, none⟩ = some (.int .i64 e) ∧ W.cell? ⟨w.heap.size + 1, 1, none⟩ = some (.int .i64 s) := fun W hW => by
    have l1 : w.heap.size < wz.heap.size := by rw [hwz]; simp; omega
    have l2 : w.heap.size + 1 < wz.heap.size := by rw [hwz]; simp
    exact ⟨⟨(hW.cell (p := ⟨w.heap.size, 1, none⟩) l1).trans (by rw [hwz]; go_simp), (hW.cell (p := ⟨w.heap.size, 2, none⟩) l1).trans (by rw [hwz]; go_simp), (hW.cell (p := ⟨w.heap.size, 3, none⟩) l1).trans (by rw [hwz]; go_simp)⟩,
      (hW.cell (p := ⟨w.heap.size + 1, 0, none⟩) l2).trans (by rw [hwz]; go_simp), (hW.cell (p := ⟨w.heap.size + 1, 1, none⟩) l2).trans (by rw [hwz]; go_simp)⟩
  have HC := Lib.hid CC
  clear CC
  unfold chainV
  by_cases ho : taOk id ch sh
  · by_cases hr : role = 4
    · cases hv : verB key (taMsg id ch sh) e s with
      | true =>
        have hac : acB key role id ch sh e s := ⟨hr, ho, hv⟩
        unfold acR
        rw [decide_eq_true hac, if_pos hac]
        clear hac
        have t1 : (role != 4) = false := by simp [hr]
        have HV := Lib.hid hv
        clear hv hr
        go_enter Tryd.func58, Tryd.ntmps58
        go_wp2_with fail
        rw [← hwz]
        clear hwz
        refine (refmessage_yes _ (ha.ext x0) (hb.ext x0) (hc.ext x0) ho).mono ?_
        rintro e' w1 ⟨A1, n1, c1, rfl, hn1, o1, b1⟩
        have x1 := x0.tr b1
        obtain ⟨⟨q1, q2, q3⟩, q4, q5⟩ := HC.out _ b1
        go_wp2_with fail
        refine (refverify_any _ _ _ _ o1.rd (taMsg_bd ho) (E.below x1)).mono ?_
        rw [HV.out]
        rintro e' w2 ⟨rfl, b2⟩
        clear q1 q2 q3 q4 q5
        obtain ⟨⟨q1, q2, q3⟩, q4, q5⟩ := HC.out _ (b1.tr b2)
        go_wp2_with fail
        go_ret2
        exact ⟨rfl, x1.tr b2⟩
      | false =>
        have hac : ¬ acB key role id ch sh e s := fun q => by rw [q.2.2] at hv; cases hv
        unfold acR
        rw [decide_eq_false hac, if_neg hac]
        clear hac
        have t1 : (role != 4) = false := by simp [hr]
        have HV := Lib.hid hv
        clear hv hr
        go_enter Tryd.func58, Tryd.ntmps58
        go_wp2_with fail
        rw [← hwz]
        clear hwz
        refine (refmessage_yes _ (ha.ext x0) (hb.ext x0) (hc.ext x0) ho).mono ?_
        rintro e' w1 ⟨A1, n1, c1, rfl, hn1, o1, b1⟩
        have x1 := x0.tr b1
        obtain ⟨⟨q1, q2, q3⟩, q4, q5⟩ := HC.out _ b1
        go_wp2_with fail
        refine (refverify_any _ _ _ _ o1.rd (taMsg_bd ho) (E.below x1)).mono ?_
        rw [HV.out]
        rintro e' w2 ⟨rfl, b2⟩
        go_wp2_with fail
        go_ret2
        exact ⟨rfl, x1.tr b2⟩
    · have hac : ¬ acB key role id ch sh e s := fun q => hr q.1
      unfold acR
      rw [decide_eq_false hac, if_neg hac]
      clear hac
      have t1 : (role != 4) = true := by simp [hr]
      clear hr
      go_enter Tryd.func58, Tryd.ntmps58
      go_wp2_with fail
      rw [← hwz]
      clear hwz
      refine (refmessage_yes _ (ha.ext x0) (hb.ext x0) (hc.ext x0) ho).mono ?_
      rintro e' w1 ⟨A1, n1, c1, rfl, hn1, o1, b1⟩
      have x1 := x0.tr b1
      obtain ⟨⟨q1, q2, q3⟩, q4, q5⟩ := HC.out _ b1
      go_wp2_with fail
      go_ret2
      exact ⟨rfl, x1⟩
  · have hac : ¬ acB key role id ch sh e s := fun q => ho q.2.1
    unfold acR
    rw [decide_eq_false hac, if_neg hac]
    clear hac
    by_cases hr : role = 4
    · have t1 : (role != 4) = false := by simp [hr]
      clear hr
      go_enter Tryd.func58, Tryd.ntmps58
      go_wp2_with fail
      rw [← hwz]
      clear hwz
      refine (refmessage_no _ (ha.ext x0) (hb.ext x0) (hc.ext x0) ho).mono ?_
      rintro e' w1 ⟨rfl, b1⟩
      have x1 := x0.tr b1
      obtain ⟨⟨q1, q2, q3⟩, q4, q5⟩ := HC.out _ b1
      go_wp2_with fail
      go_ret2
      exact ⟨rfl, x1⟩
    · have t1 : (role != 4) = true := by simp [hr]
      clear hr
      go_enter Tryd.func58, Tryd.ntmps58
      go_wp2_with fail
      rw [← hwz]
      clear hwz
      refine (refmessage_no _ (ha.ext x0) (hb.ext x0) (hc.ext x0) ho).mono ?_
      rintro e' w1 ⟨rfl, b1⟩
      have x1 := x0.tr b1
      obtain ⟨⟨q1, q2, q3⟩, q4, q5⟩ := HC.out _ b1
      go_wp2_with fail
      go_ret2
      exact ⟨rfl, x1⟩

end Go.Proofs.YteihfboomegpkaaDoor
