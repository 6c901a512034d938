/- Parts Yc Yd Ye Yn of the proof. -/
import Derived.Test.YtkjplpmogfmhkaaGreatDoorPkv
import Derived.Test.YtkjplpmogfmhkaaGreatDoorPks
import Derived.Deep.CutRange
import Derived.Deep.CutBlock
namespace Go.Proofs.YtkjplpmogfmhkaaGreatDoor
open Go.RowKit
set_option linter.unusedVariables false
set_option maxRecDepth 100000

theorem RdT.take {w : World} {A : Option Addr} {n c : Nat} {l : List TP} (h : RdT w (.slice A n c) l) (k : Nat) (hk : k ≤ n) : RdT w (.slice A k c) (l.take k) := by
  have hn5 : (tpsCells l).length = l.length * 5 := tpsCells_len l
  obtain ⟨A', n', c', e, hn, hnc, hcm, hc⟩ := h
  injection e with e1 e2 e3
  subst e1 e2 e3
  have hl : n = l.length := by omega
  have e : tpsCells (l.take k) = (tpsCells l).take (k * 5) := by
    have h0 : tpsCells l = tpsCells (l.take k) ++ tpsCells (l.drop k) := by rw [tpsCells_app, List.take_append_drop]
    rw [h0, List.take_left' (by rw [tpsCells_len, List.length_take]; omega)]
  refine ⟨A, k, c, rfl, by rw [tpsCells_len, List.length_take]; omega, by omega, hcm, fun h0 => ?_⟩
  obtain ⟨b, o, rfl, hcell⟩ := hc (by omega)
  refine ⟨b, o, rfl, fun j u hu => hcell j u ?_⟩
  rw [e, List.getElem?_take] at hu
  split at hu
  · exact hu
  · cases hu
theorem dup_no {l : List TP} (h2 : l.length ≤ 2) (h : ∀ (j : Nat) (p : TP), l[j]? = some p → hasP (l.take j) p.ho = false) : dupP l = false := by
  match l, h2 with
  | [], _ => rfl
  | [_], _ => rfl
  | [p, q], _ =>
    have := h 1 q rfl
    show decide (p.ho = q.ho) = false
    have e : (decide (p.ho = q.ho) || false) = false := this
    simpa using e
theorem dup_yes {l : List TP} (h2 : l.length ≤ 2) {j : Nat} {p : TP} (hp : l[j]? = some p) (h : hasP (l.take j) p.ho = true) : dupP l = true := by
  match l, h2, j, hp with
  | [a], _, 0, hp => cases h
  | [a, b], _, 0, hp => cases h
  | [a, b], _, 1, hp =>
    obtain rfl : b = p := by simpa using hp
    have e : (decide (a.ho = b.ho) || false) = true := h
    show decide (a.ho = b.ho) = true
    simpa using e
theorem ptsK_first {l : List TP} {k : Nat} {p : TP} (hp : l[k]? = some p) (ha : ∀ j u, j < k → l[j]? = some u → ptK u = 0) (hk : ptK p ≠ 0) : ptsK l = ptK p := by
  obtain ⟨h, rfl⟩ := List.getElem?_eq_some_iff.1 hp
  exact ptsK_to l k (fun j hj hjk => ha j _ hjk (List.getElem?_eq_getElem hj)) h hk
theorem ptsK_none {l : List TP} (ha : ∀ (j : Nat) (u : TP), l[j]? = some u → ptK u = 0) : ptsK l = 0 := ptsK_ok l fun j hj => ha j _ (List.getElem?_eq_getElem hj)
set_option maxHeartbeats 4000000 in
theorem valid25_any {v : Value} (t : TR) (w : World) (hv : TrR w v t) (hs : smR t.ps) : Calls Tryz.prog 101 #[v] w (RetQ w (.int .i64 (vdK t))) := by
  obtain ⟨A, n, c, rfl, hr⟩ := hv
  obtain ⟨l, dt⟩ := t
  have hr0 := hr
  obtain ⟨A', n', c', e, hn, hnc, hcm, hel⟩ := hr.at_
  injection e with e1 e2 e3
  subst e1 e2 e3
  obtain ⟨wz, hwz, x0, zr⟩ := tr_alloc w A n c dt
  have HEL := Lib.hid hel
  have HS := Lib.hid hs
  have HRT := Lib.hid hr0
  have hn' : n = l.length := hn
  subst hn'
  unfold maxLen at hcm
  clear hel hs hr0 hr hn
  obtain ⟨r, hr⟩ : ∃ r, vdK ⟨l, dt⟩ = r := ⟨_, rfl⟩
  rw [hr]
  have HR := Lib.hid hr
  clear hr
  obtain ⟨z1, z2⟩ := zr.cells
  have hzl := zr.lt
  by_cases h1 : l.length < 1
  · have HN := Lib.hid (HR.out.symm.trans (vdK_n (t := ⟨l, dt⟩) (.inl h1)))
    go_enter Tryz.func101, Tryz.ntmps101
    go_wp2_with fail
    rw [← hwz]
    clear hwz
    go_wp2_with fail
    go_ret
    exact ⟨by rw [HN.out]; rfl, x0⟩
  by_cases h2 : 2 < l.length
  · have HN := Lib.hid (HR.out.symm.trans (vdK_n (t := ⟨l, dt⟩) (.inr h2)))
    have h2' : (2 : Int) < (l.length : Int) := by omega
    go_enter Tryz.func101, Tryz.ntmps101
    go_wp2_with fail
    rw [← hwz]
    clear hwz
    go_wp2_with fail
    go_ret
    exact ⟨by rw [HN.out]; rfl, x0⟩
  have hle : l.length ≤ 2 := by omega
  have h2' : ¬ (2 : Int) < (l.length : Int) := by omega
  have HB := Lib.hid (show ¬ (l.length < 1 ∨ 2 < l.length) by omega)
  have HLE := Lib.hid hle
  clear h2
  go_enter Tryz.func101, Tryz.ntmps101
  go_wp2_with fail
  rw [← hwz]
  clear hwz
  go_wp2_with fail
  go_loopw [21] (fun i wr => ∃ k : Nat, k ≤ l.length ∧ i = .int .i64 (k : Int) ∧ Ext wz wr ∧ Hid (∀ j u, j < k → l[j]? = some u → ptK u = 0)) (fun i _ => l.length - (intOf i).toNat)
  case atStart => exact ⟨0, Nat.zero_le _, rfl, Below.refl _ _, Lib.hid (fun j u h => by omega)⟩
  case round =>
    obtain ⟨k, hk, rfl, bb, hall⟩ := hrel
    by_cases hlt : k < l.length
    · obtain ⟨p, hp⟩ : ∃ p, l[k]? = some p := ⟨_, List.getElem?_eq_getElem hlt⟩
      obtain ⟨b, o, rfl, hbl, hc⟩ := HEL.out (by omega)
      obtain ⟨e0, e1, e2, e3, e4⟩ := hc k p hp
      have xw := x0.tr bb
      have l0 := (xw.cell (p := ⟨b, o + k * 5, none⟩) hbl).trans e0
      have l1 := (xw.cell (p := ⟨b, o + k * 5 + 1, none⟩) hbl).trans e1
      have l2 := (xw.cell (p := ⟨b, o + k * 5 + 2, none⟩) hbl).trans e2
      have l3 := (xw.cell (p := ⟨b, o + k * 5 + 3, none⟩) hbl).trans e3
      have l4 := (xw.cell (p := ⟨b, o + k * 5 + 4, none⟩) hbl).trans e4
      have HSP := Lib.hid (HS.out p (List.mem_of_getElem? hp))
      have HP := Lib.hid hp
      have HXW := Lib.hid xw
      clear e0 e1 e2 e3 e4 hp hc xw
      have wi1 : IntKind.i64.wrap ((k : Int)) = (k : Int) := IntWalk.i64_in _ (by omega)
      have zi1 : (0 : Int) ≤ (k : Int) := by omega
      have li1 : (k : Int) < (l.length : Int) := by omega
      have ti1 : ((k : Int)).toNat = k := by omega
      go_wp2_with fail
      refine (point_any p _ HSP.out).mono ?_
      rintro e wy ⟨rfl, by_⟩
      have ey : Ext wr wy := (show Ext wr (wr.alloc (.cells #[.string (bstr p.ho), .int .i64 p.key, .int .i64 p.rights, .int .i64 p.fr, .int .i64 p.to] 139)) from (Below.refl _ _).alloc (Nat.le_refl _) _).tr by_
      by_cases hq : ptK p = 0
      · rw [hq]
        have HQ := Lib.hid hq
        clear hq by_ l0 l1 l2 l3 l4
        go_wp2_with fail
        go_roundw
        case rel => exact ⟨k + 1, by omega, by go_num, bb.tr ey, Lib.hid (fun i u hi hu => by
          by_cases h : i = k
          · subst h
            rw [HP.out] at hu
            rw [← Option.some.inj hu]; exact HQ.out
          · exact hall.out i u (by omega) hu)⟩
        case measure => simp [intOf]; omega
      · have hb : (ptK p != 0) = true := by simpa using hq
        have hps := ptsK_first HP.out hall.out hq
        have HN := Lib.hid (HR.out.symm.trans ((vdK_p (t := ⟨l, dt⟩) HB.out (by rw [hps]; exact hq)).trans hps))
        clear hq hps by_ l0 l1 l2 l3 l4
        go_wp2_with fail
        go_ret
        exact ⟨by rw [HN.out]; rfl, HXW.out.tr ey⟩
    · obtain rfl : k = l.length := by omega
      have HPS := Lib.hid (ptsK_none (l := l) (fun j u hu => hall.out j u (List.getElem?_eq_some_iff.1 hu).1 hu))
      have zt := zr.ext bb
      obtain ⟨y1, y2⟩ := zt.cells
      have hyl := zt.lt
      have X1 := Lib.hid bb
      obtain ⟨w1, rfl⟩ : ∃ w1 : World, w1 = wr := ⟨_, rfl⟩
      clear hlt hall hk bb z1 z2 hzl
      go_wp2_with fail
      go_loopw [34] (fun i wr => ∃ k : Nat, k ≤ l.length ∧ i = .int .i64 (k : Int) ∧ Ext w1 wr ∧ Hid (∀ j u, j < k → l[j]? = some u → hasP (l.take j) u.ho = false)) (fun i _ => l.length - (intOf i).toNat)
      case atStart => exact ⟨0, Nat.zero_le _, rfl, Below.refl _ _, Lib.hid (fun j u h => by omega)⟩
      case round =>
        obtain ⟨k, hk, rfl, bb, hall⟩ := hrel
        have zk := zt.ext bb
        obtain ⟨k1, k2⟩ := zk.cells
        have hkl := zk.lt
        by_cases hlt : k < l.length
        · obtain ⟨p, hp⟩ : ∃ p, l[k]? = some p := ⟨_, List.getElem?_eq_getElem hlt⟩
          obtain ⟨b, o, rfl, hbl, hc⟩ := HEL.out (by omega)
          obtain ⟨e0, e1, e2, e3, e4⟩ := hc k p hp
          have xw := (x0.tr X1.out).tr bb
          have l0 := (xw.cell (p := ⟨b, o + k * 5, none⟩) hbl).trans e0
          have l1 := (xw.cell (p := ⟨b, o + k * 5 + 1, none⟩) hbl).trans e1
          have l2 := (xw.cell (p := ⟨b, o + k * 5 + 2, none⟩) hbl).trans e2
          have l3 := (xw.cell (p := ⟨b, o + k * 5 + 3, none⟩) hbl).trans e3
          have l4 := (xw.cell (p := ⟨b, o + k * 5 + 4, none⟩) hbl).trans e4
          have HP := Lib.hid hp
          obtain ⟨wa, hwa, xa, ta⟩ := tp_alloc wr p
          have hwb := hwa.symm
          have zka := zk.ext xa
          obtain ⟨a1, a2⟩ := zka.cells
          have hka : k ≤ c := by omega
          have HRK := Lib.hid ((HRT.out.take k (by omega)).ext (xw.tr xa))
          have HXA := Lib.hid (xw.tr xa)
          obtain ⟨tt0, _⟩ := ta.cells
          clear e0 e1 e2 e3 e4 hp hc hwa xw
          have wi2 : IntKind.i64.wrap ((k : Int)) = (k : Int) := IntWalk.i64_in _ (by omega)
          have zi2 : (0 : Int) ≤ (k : Int) := by omega
          have li2 : (k : Int) < (l.length : Int) := by omega
          have ti2 : ((k : Int)).toNat = k := by omega
          go_wp2_with fail
          clear hwb
          refine Gd.wp_region_X 7 (by kernel_rfl) (by kernel_rfl) ?_
          simp only [List.take_succ_cons, List.take_zero, List.drop_succ_cons, List.drop_zero]
          intro wq hw1
          have LL : ∀ m : Lt wq, Ext wa m.1 := fun m => hw1.tr m.2
          have g1 : ∀ m : Lt wq, m.1.cell? ⟨w.heap.size, 0, none⟩ = some (.slice (some ⟨b, o, none⟩) l.length c) := fun m => ((zka.ext (LL m)).cells).1
          have g2 : ∀ m : Lt wq, m.1.cell? ⟨wr.heap.size, 0, none⟩ = some (.string (bstr p.ho)) := fun m => ((ta.ext (LL m)).cells).1
          repeat (refine Gd.wpX_pure (by first | exact trivial | exact ⟨_, rfl, rfl, rfl⟩) rfl rfl rfl rfl rfl (fun K hK => ?_); go_big_quiet_op; refine hK _ ?_; clear hK K)
          refine Gd.wpX_callFn (by first | exact trivial | exact ⟨_, rfl, rfl, rfl⟩) (.bool (hasP (l.take k) p.ho)) (args := [.slice (some ⟨b, o, none⟩) k c, .string (bstr p.ho)]) rfl rfl rfl rfl (by kernel_rfl) rfl rfl (fun m => has_any p.ho m.1 (HRK.out.ext (LL m))) ?_
          simp only [Act.put, List.setIfInBounds_toArray, List.set_cons_zero, List.set_cons_succ]
          repeat (refine Gd.wpX_pure (by first | exact trivial | exact ⟨_, rfl, rfl, rfl⟩) rfl rfl rfl rfl rfl (fun K hK => ?_); go_big_quiet_op; refine hK _ ?_; clear hK K)
          refine Gd.wpX_end0 (fun m => ?_)
          have Lm := LL m
          obtain ⟨wm, hwm⟩ := m
          have Lm : Ext wa wm := Lm
          clear LL g1 g2
          show wpList _ _ _ _ _ _
          cases hq : hasP (l.take k) p.ho with
          | true =>
            have HN := Lib.hid (HR.out.symm.trans (vdK_d (t := ⟨l, dt⟩) HB.out HPS.out (dup_yes HLE.out HP.out hq)))
            clear hq
            go_wp2_with fail
            go_ret
            exact ⟨by rw [HN.out]; rfl, HXA.out.tr Lm⟩
          | false =>
            have HQ := Lib.hid hq
            clear hq
            go_wp2_with fail
            go_roundw
            case rel => exact ⟨k + 1, by omega, by go_num, bb.tr (xa.tr Lm), Lib.hid (fun i u hi hu => by
              by_cases h : i = k
              · subst h
                rw [HP.out] at hu
                rw [← Option.some.inj hu]; exact HQ.out
              · exact hall.out i u (by omega) hu)⟩
            case measure => simp [intOf]; omega
        · obtain rfl : k = l.length := by omega
          have HD := Lib.hid (dup_no HLE.out (fun j u hu => hall.out j u (List.getElem?_eq_some_iff.1 hu).1 hu))
          have xw := (x0.tr X1.out).tr bb
          by_cases d0 : dt < 0
          · have HN := Lib.hid (HR.out.symm.trans (vdK_t (t := ⟨l, dt⟩) HB.out HPS.out HD.out (.inl d0)))
            go_wp2_with fail
            go_ret
            exact ⟨by rw [HN.out]; rfl, xw⟩
          by_cases d1 : 73048 < dt
          · have HN := Lib.hid (HR.out.symm.trans (vdK_t (t := ⟨l, dt⟩) HB.out HPS.out HD.out (.inr d1)))
            go_wp2_with fail
            go_ret
            exact ⟨by rw [HN.out]; rfl, xw⟩
          have HN := Lib.hid (HR.out.symm.trans (vdK_ok (t := ⟨l, dt⟩) HB.out HPS.out HD.out (show ¬ (dt < 0 ∨ 73048 < dt) by omega)))
          go_wp2_with fail
          go_ret
          exact ⟨by rw [HN.out]; rfl, xw⟩
end Go.Proofs.YtkjplpmogfmhkaaGreatDoor

namespace Go.Proofs.YtkjplpmogfmhkaaGreatDoor
open Go.RowKit
set_option linter.unusedVariables false
set_option maxRecDepth 100000

theorem days_1 {fr to_ : Int} (h : ¬ dayP fr) : ¬ daysP fr to_ := fun q => h ⟨q.1, by have := q.2; omega⟩
theorem days_2 {fr to_ : Int} (h : ¬ dayP to_) : ¬ daysP fr to_ := fun q => h ⟨by have := q.1; have := q.2.1; omega, q.2.2⟩
theorem days_3 {fr to_ : Int} (h : to_ < fr) : ¬ daysP fr to_ := fun q => by have := q.2.1; omega
theorem days_4 {fr to_ : Int} (h1 : dayP fr) (h2 : dayP to_) (h : ¬ to_ < fr) : daysP fr to_ := ⟨h1.1, by omega, h2.2⟩
set_option maxHeartbeats 4000000 in
theorem refvalid25_any {v : Value} (t : TR) (w : World) (hv : TrR w v t) (hs : smR t.ps) : Calls Tryz.prog 104 #[v] w (RetQ w (.int .i64 (vdK t))) := by
  obtain ⟨A, n, c, rfl, hr⟩ := hv
  obtain ⟨l, dt⟩ := t
  have hr0 := hr
  obtain ⟨A', n', c', e, hn, hnc, hcm, hel⟩ := hr.at_
  injection e with e1 e2 e3
  subst e1 e2 e3
  obtain ⟨wz, hwz, x0, zr⟩ := tr_alloc w A n c dt
  have HEL := Lib.hid hel
  have HS := Lib.hid hs
  have hn' : n = l.length := hn
  subst hn'
  unfold maxLen at hcm
  clear hel hs hr0 hr hn
  obtain ⟨r, hr⟩ : ∃ r, vdK ⟨l, dt⟩ = r := ⟨_, rfl⟩
  rw [hr]
  have HR := Lib.hid hr
  clear hr
  obtain ⟨z1, z2⟩ := zr.cells
  have hzl := zr.lt
  by_cases h1 : l.length < 1
  · have HN := Lib.hid (HR.out.symm.trans (vdK_n (t := ⟨l, dt⟩) (.inl h1)))
    go_enter Tryz.func104, Tryz.ntmps104
    go_wp2_with fail
    rw [← hwz]
    clear hwz
    go_wp2_with fail
    go_ret
    exact ⟨by rw [HN.out]; rfl, x0⟩
  by_cases h2 : 2 < l.length
  · have HN := Lib.hid (HR.out.symm.trans (vdK_n (t := ⟨l, dt⟩) (.inr h2)))
    have h2' : (2 : Int) < (l.length : Int) := by omega
    go_enter Tryz.func104, Tryz.ntmps104
    go_wp2_with fail
    rw [← hwz]
    clear hwz
    go_wp2_with fail
    go_ret
    exact ⟨by rw [HN.out]; rfl, x0⟩
  have hle : l.length ≤ 2 := by omega
  have h2' : ¬ (2 : Int) < (l.length : Int) := by omega
  have HB := Lib.hid (show ¬ (l.length < 1 ∨ 2 < l.length) by omega)
  have HLE := Lib.hid hle
  clear h2
  go_enter Tryz.func104, Tryz.ntmps104
  go_wp2_with fail
  rw [← hwz]
  clear hwz
  go_wp2_with fail
  go_loopw [3] (fun i wr => ∃ k : Nat, k ≤ l.length ∧ i = .int .i64 (k : Int) ∧ Ext wz wr ∧ Hid (∀ j u, j < k → l[j]? = some u → ptK u = 0)) (fun i _ => l.length - (intOf i).toNat)
  case atStart => exact ⟨0, Nat.zero_le _, rfl, Below.refl _ _, Lib.hid (fun j u h => by omega)⟩
  case round =>
    obtain ⟨k, hk, rfl, bb, hall⟩ := hrel
    have zk := zr.ext bb
    obtain ⟨k1, k2⟩ := zk.cells
    have hkl := zk.lt
    clear z1 z2
    by_cases hlt : k < l.length
    · obtain ⟨p, hp⟩ : ∃ p, l[k]? = some p := ⟨_, List.getElem?_eq_getElem hlt⟩
      obtain ⟨b, o, rfl, hbl, hc⟩ := HEL.out (by omega)
      obtain ⟨e0, e1, e2, e3, e4⟩ := hc k p hp
      have xw := x0.tr bb
      have l0 := (xw.cell (p := ⟨b, o + k * 5, none⟩) hbl).trans e0
      have l1 := (xw.cell (p := ⟨b, o + k * 5 + 1, none⟩) hbl).trans e1
      have l2 := (xw.cell (p := ⟨b, o + k * 5 + 2, none⟩) hbl).trans e2
      have l3 := (xw.cell (p := ⟨b, o + k * 5 + 3, none⟩) hbl).trans e3
      have l4 := (xw.cell (p := ⟨b, o + k * 5 + 4, none⟩) hbl).trans e4
      have HSP := Lib.hid (HS.out p (List.mem_of_getElem? hp))
      have HP := Lib.hid hp
      obtain ⟨wa, hwa, xa, ta⟩ := tp_alloc wr p
      have hwb := hwa.symm
      obtain ⟨t0, t1, t2, t3, t4⟩ := ta.cells
      have htl := ta.lt
      have hXW := xw.tr xa
      have HXW := Lib.hid hXW
      clear e0 e1 e2 e3 e4 hp hc xw hwa hXW
      have wi1 : IntKind.i64.wrap ((k : Int)) = (k : Int) := IntWalk.i64_in _ (by omega)
      have zi1 : (0 : Int) ≤ (k : Int) := by omega
      have li1 : (k : Int) < (l.length : Int) := by omega
      have ti1 : ((k : Int)).toNat = k := by omega
      have fin : ptK p ≠ 0 → Hid (r = ptK p) := fun hq => by
        have hps := ptsK_first HP.out hall.out hq
        exact HR.out.symm.trans ((vdK_p (t := ⟨l, dt⟩) HB.out (by rw [hps]; exact hq)).trans hps)
      have FIN := Lib.hid fin
      clear fin
      go_wp2_with fail
      clear hwb l0 l1 l2 l3 l4
      refine (refname_tp _ _ HSP.out).mono ?_
      rintro e w' ⟨rfl, rfl⟩
      by_cases nA : nameP p.ho
      case neg =>
        rw [decide_eq_false nA]
        have HN := Lib.hid ((FIN.out (by rw [ptK_ho nA]; decide)).out.trans (ptK_ho nA))
        go_wp2_with fail
        go_ret
        exact ⟨by rw [HN.out]; rfl, HXW.out⟩
      case pos =>
      rw [decide_eq_true nA]
      go_wp2_with fail
      refine (refelement_any _ _).mono ?_
      rintro e w' ⟨rfl, rfl⟩
      cases hE : isElem p.key with
      | false =>
        have HN := Lib.hid ((FIN.out (by rw [ptK_el nA hE]; decide)).out.trans (ptK_el nA hE))
        go_wp2_with fail
        go_ret
        exact ⟨by rw [HN.out]; rfl, HXW.out⟩
      | true =>
        by_cases s1 : p.rights < 0
        · have HN := Lib.hid ((FIN.out (by rw [ptK_ri nA hE (.inl s1)]; decide)).out.trans (ptK_ri nA hE (.inl s1)))
          go_wp2_with fail
          go_ret
          exact ⟨by rw [HN.out]; rfl, HXW.out⟩
        by_cases s2 : 65535 < p.rights
        · have HN := Lib.hid ((FIN.out (by rw [ptK_ri nA hE (.inr s2)]; decide)).out.trans (ptK_ri nA hE (.inr s2)))
          go_wp2_with fail
          go_ret
          exact ⟨by rw [HN.out]; rfl, HXW.out⟩
        have hr : ¬ (p.rights < 0 ∨ 65535 < p.rights) := by omega
        have HRI := Lib.hid hr
        clear hr
        have hda : ∀ h : ¬ daysP p.fr p.to, Hid (r = 8) := fun h => (FIN.out (by rw [ptK_da nA hE HRI.out h]; decide)).out.trans (ptK_da nA hE HRI.out h)
        have HDA := Lib.hid hda
        clear hda
        go_wp2_with fail
        refine (refday_any _ _).mono ?_
        rintro e w' ⟨rfl, rfl⟩
        by_cases d1 : dayP p.fr
        case neg =>
          rw [decide_eq_false d1]
          have HN := HDA.out (days_1 d1)
          go_wp2_with fail
          go_ret
          exact ⟨by rw [HN.out]; rfl, HXW.out⟩
        case pos =>
        rw [decide_eq_true d1]
        go_wp2_with fail
        refine (refday_any _ _).mono ?_
        rintro e w' ⟨rfl, rfl⟩
        by_cases d2 : dayP p.to
        case neg =>
          rw [decide_eq_false d2]
          have HN := HDA.out (days_2 d2)
          go_wp2_with fail
          go_ret
          exact ⟨by rw [HN.out]; rfl, HXW.out⟩
        case pos =>
        rw [decide_eq_true d2]
        by_cases d3 : p.to < p.fr
        · have HN := HDA.out (days_3 d3)
          go_wp2_with fail
          go_ret
          exact ⟨by rw [HN.out]; rfl, HXW.out⟩
        have HQ := Lib.hid (ptK_ok nA hE HRI.out (days_4 d1 d2 d3))
        clear t0 t1 t2 t3 t4
        obtain ⟨t0, t1, t2, t3, t4⟩ := ta.cells
        go_wp2_with fail
        go_roundw
        case rel => exact ⟨k + 1, by omega, by go_num, bb.tr xa, Lib.hid (fun i u hi hu => by
          by_cases h : i = k
          · subst h
            rw [HP.out] at hu
            rw [← Option.some.inj hu]; exact HQ.out
          · exact hall.out i u (by omega) hu)⟩
        case measure => simp [intOf]; omega
    · obtain rfl : k = l.length := by omega
      have HPS := Lib.hid (ptsK_none (l := l) (fun j u hu => hall.out j u (List.getElem?_eq_some_iff.1 hu).1 hu))
      have xw := x0.tr bb
      clear hall hk hlt
      have HLL := Lib.hid (show l.length = 2 → ∃ p q, l = [p, q] from fun h => by
        match l, h with
        | [p, q], _ => exact ⟨p, q, rfl⟩)
      have fin : dupP l = false → ((dt < 0 ∨ 73048 < dt) → Hid (r = 8)) ∧ (¬ (dt < 0 ∨ 73048 < dt) → Hid (r = 0)) := fun hd =>
        ⟨fun h => HR.out.symm.trans (vdK_t (t := ⟨l, dt⟩) HB.out HPS.out hd h), fun h => HR.out.symm.trans (vdK_ok (t := ⟨l, dt⟩) HB.out HPS.out hd h)⟩
      have FIN := Lib.hid fin
      clear fin
      have rest : ∀ (W : World), Ext wr W → Hid (Ext w W) := fun W x => xw.tr x
      by_cases hl2 : l.length = 2
      · obtain ⟨p, q, hpq⟩ := HLL.out hl2
        obtain ⟨b, o, rfl, hbl, hc⟩ := HEL.out (by omega)
        obtain ⟨e0, _⟩ := hc 0 p (by rw [hpq]; rfl)
        obtain ⟨e5, _⟩ := hc 1 q (by rw [hpq]; rfl)
        rw [Nat.zero_mul, Nat.add_zero] at e0
        rw [Nat.one_mul] at e5
        have l0 := (xw.cell (p := ⟨b, o, none⟩) hbl).trans e0
        have l5 := (xw.cell (p := ⟨b, o + 5, none⟩) hbl).trans e5
        have hbr : b < wr.heap.size := Nat.lt_of_lt_of_le hbl xw.size
        have k2b : ((l.length : Int) == 2) = true := by simp; omega
        have HBE := bstr_eq p.ho q.ho
        have HDP := Lib.hid (show dupP l = decide (p.ho = q.ho) by rw [hpq]; rfl)
        have i0 : (0 : Int) < (l.length : Int) := by omega
        have i1 : (1 : Int) < (l.length : Int) := by omega
        have i2 : 1 < l.length := by omega
        clear e0 e5 hc hpq hl2
        by_cases hq : p.ho = q.ho
        · have hb : ((bstr p.ho).toList == (bstr q.ho).toList) = true := by rw [HBE, decide_eq_true hq]
          have HN := Lib.hid (HR.out.symm.trans (vdK_d (t := ⟨l, dt⟩) HB.out HPS.out (by rw [HDP.out, decide_eq_true hq])))
          clear HBE hq
          go_wp2_with fail
          refine Gd.wp_region_X 17 (by kernel_rfl) (by kernel_rfl) ?_
          simp only [List.take_succ_cons, List.take_zero, List.drop_succ_cons, List.drop_zero]
          intro wq hw1
          have LL : ∀ m : Lt wq, Ext wr m.1 := fun m => hw1.tr m.2
          have g1 : ∀ m : Lt wq, m.1.cell? ⟨w.heap.size, 0, none⟩ = some (.slice (some ⟨b, o, none⟩) l.length c) := fun m => ((zk.ext (LL m)).cells).1
          have g2 : ∀ m : Lt wq, m.1.cell? ⟨b, o, none⟩ = some (.string (bstr p.ho)) := fun m => ((LL m).cell (p := ⟨b, o, none⟩) hbr).trans l0
          have g3 : ∀ m : Lt wq, m.1.cell? ⟨b, o + 5, none⟩ = some (.string (bstr q.ho)) := fun m => ((LL m).cell (p := ⟨b, o + 5, none⟩) hbr).trans l5
          repeat (refine Gd.wpX_pure (by first | exact trivial | exact ⟨_, rfl, rfl, rfl⟩) rfl rfl rfl rfl rfl (fun K hK => ?_); go_big_quiet_op; refine hK _ ?_; clear hK K)
          refine Gd.wpX_end0 (fun m => ?_)
          have Lm := LL m
          obtain ⟨wm, hwm⟩ := m
          have Lm : Ext wr wm := Lm
          clear LL g1 g2 g3
          show wpList _ _ _ _ _ _
          go_wp2_with fail
          go_ret
          exact ⟨by rw [HN.out]; rfl, (rest _ Lm).out⟩
        · have hb : ((bstr p.ho).toList == (bstr q.ho).toList) = false := by rw [HBE, decide_eq_false hq]
          have FN := Lib.hid (FIN.out (by rw [HDP.out, decide_eq_false hq]))
          clear HBE hq
          go_wp2_with fail
          refine Gd.wp_region_X 17 (by kernel_rfl) (by kernel_rfl) ?_
          simp only [List.take_succ_cons, List.take_zero, List.drop_succ_cons, List.drop_zero]
          intro wq hw1
          have LL : ∀ m : Lt wq, Ext wr m.1 := fun m => hw1.tr m.2
          have g1 : ∀ m : Lt wq, m.1.cell? ⟨w.heap.size, 0, none⟩ = some (.slice (some ⟨b, o, none⟩) l.length c) := fun m => ((zk.ext (LL m)).cells).1
          have g2 : ∀ m : Lt wq, m.1.cell? ⟨b, o, none⟩ = some (.string (bstr p.ho)) := fun m => ((LL m).cell (p := ⟨b, o, none⟩) hbr).trans l0
          have g3 : ∀ m : Lt wq, m.1.cell? ⟨b, o + 5, none⟩ = some (.string (bstr q.ho)) := fun m => ((LL m).cell (p := ⟨b, o + 5, none⟩) hbr).trans l5
          repeat (refine Gd.wpX_pure (by first | exact trivial | exact ⟨_, rfl, rfl, rfl⟩) rfl rfl rfl rfl rfl (fun K hK => ?_); go_big_quiet_op; refine hK _ ?_; clear hK K)
          refine Gd.wpX_end0 (fun m => ?_)
          have Lm := LL m
          obtain ⟨wm, hwm⟩ := m
          have Lm : Ext wr wm := Lm
          obtain ⟨_, q2⟩ := (zk.ext Lm).cells
          have ql := (zk.ext Lm).lt
          clear LL g1 g2 g3 k1 k2
          show wpList _ _ _ _ _ _
          go_wp2_with fail
          refine (refday_any _ _).mono ?_
          rintro e w' ⟨rfl, rfl⟩
          by_cases d1 : dayP dt
          · rw [decide_eq_true d1]
            have HN := FN.out.2 (by have h1 := d1.1; have h2 := d1.2; omega)
            go_wp2_with fail
            go_ret
            exact ⟨by rw [HN.out]; rfl, (rest _ Lm).out⟩
          · rw [decide_eq_false d1]
            have HN := FN.out.1 (by
              by_cases h0 : dt < 0
              · exact .inl h0
              · by_cases h1 : 73048 < dt
                · exact .inr h1
                · exact absurd ⟨by omega, by omega⟩ d1)
            go_wp2_with fail
            go_ret
            exact ⟨by rw [HN.out]; rfl, (rest _ Lm).out⟩
      · have k2b : ((l.length : Int) == 2) = false := by simp; omega
        have FN := Lib.hid (FIN.out (show dupP l = false from by
          match l, HLE.out, hl2 with
          | [], _, _ => rfl
          | [_], _, _ => rfl
          | [_, _], _, h => exact absurd rfl h))
        clear hl2
        go_wp2_with fail
        refine Gd.wp_region_X 17 (by kernel_rfl) (by kernel_rfl) ?_
        simp only [List.take_succ_cons, List.take_zero, List.drop_succ_cons, List.drop_zero]
        intro wq hw1
        have LL : ∀ m : Lt wq, Ext wr m.1 := fun m => hw1.tr m.2
        have g1 : ∀ m : Lt wq, m.1.cell? ⟨w.heap.size, 0, none⟩ = some (.slice A l.length c) := fun m => ((zk.ext (LL m)).cells).1
        repeat (first | (refine Gd.wpX_skip (by exact ⟨_, rfl, rfl, rfl⟩) rfl rfl ?_; simp only [Act.put, List.setIfInBounds_toArray, List.set_cons_zero, List.set_cons_succ]) | (refine Gd.wpX_pure (by first | exact trivial | exact ⟨_, rfl, rfl, rfl⟩) rfl rfl rfl rfl rfl (fun K hK => ?_); go_big_quiet_op; refine hK _ ?_; clear hK K))
        refine Gd.wpX_end0 (fun m => ?_)
        have Lm := LL m
        obtain ⟨wm, hwm⟩ := m
        have Lm : Ext wr wm := Lm
        obtain ⟨_, q2⟩ := (zk.ext Lm).cells
        have ql := (zk.ext Lm).lt
        clear LL g1 k1 k2
        show wpList _ _ _ _ _ _
        go_wp2_with fail
        refine (refday_any _ _).mono ?_
        rintro e w' ⟨rfl, rfl⟩
        by_cases d1 : dayP dt
        · rw [decide_eq_true d1]
          have HN := FN.out.2 (by have h1 := d1.1; have h2 := d1.2; omega)
          go_wp2_with fail
          go_ret
          exact ⟨by rw [HN.out]; rfl, (rest _ Lm).out⟩
        · rw [decide_eq_false d1]
          have HN := FN.out.1 (by
            by_cases h0 : dt < 0
            · exact .inl h0
            · by_cases h1 : 73048 < dt
              · exact .inr h1
              · exact absurd ⟨by omega, by omega⟩ d1)
          go_wp2_with fail
          go_ret
          exact ⟨by rw [HN.out]; rfl, (rest _ Lm).out⟩
end Go.Proofs.YtkjplpmogfmhkaaGreatDoor

namespace Go.Proofs.YtkjplpmogfmhkaaGreatDoor
open Go.RowKit
set_option linter.unusedVariables false
set_option maxRecDepth 100000

/-- A row that may be appended to is no block of another type. -/
theorem OwnK.ne_row {w : World} {B : Nat} {e : TypeId} {k : Nat} {v : Value} {xs : List Value} (h : OwnK w B e k v xs) {g : Nat} {cs : Array Value} {t : TypeId} {fr : Nat × Nat} (hg : w.heap[g]? = some (.cells cs t fr)) (ht : e ≠ t) : rowOf v = none ∨ rowOf v ≠ some g := by
  obtain ⟨A, n, c, rfl, hn, ⟨rfl, rfl⟩ | ⟨g', cur, rfl, h1, hgg, hr⟩⟩ := h
  · left; cases A <;> rfl
  · right
    intro q
    cases c with
    | zero => simp [rowOf] at q
    | succ c =>
      have q' : g' = g := by simpa [rowOf] using q
      subst q'
      rw [hgg] at hg
      injection hg with hg
      injection hg with _ hg
      exact ht hg
theorem OwnK.poke {w : World} {B : Nat} {e : TypeId} {k : Nat} {v : Value} {xs : List Value} (h : OwnK w B e k v xs) {g : Nat} {cs : Array Value} {t : TypeId} {fr : Nat × Nat} (hg : w.heap[g]? = some (.cells cs t fr)) (ht : e ≠ t) (i : Nat) (x : Value) : OwnK (w.setCell ⟨g, i, none⟩ x) B e k v xs :=
  h.grown (Gb.set g i w x) (h.ne_row hg ht)
theorem tp_ne_tr : 139 ≠ 24 := by decide
theorem TrAt.setPs {w : World} {g : Nat} {A A' : Option Addr} {n c n' c' : Nat} {d : Int} (h : TrAt w g A n c d) : TrAt (w.setCell ⟨g, 0, none⟩ (.slice A' n' c')) g A' n' c' d := by
  have h9 := row_set h 0 (.slice A' n' c')
  simp only [List.setIfInBounds_toArray, List.set_cons_zero] at h9
  exact h9
theorem TrAt.setDt {w : World} {g : Nat} {A : Option Addr} {n c : Nat} {d : Int} (h : TrAt w g A n c d) (d' : Int) : TrAt (w.setCell ⟨g, 1, none⟩ (.int .i64 d')) g A n c d' := by
  have h9 := row_set h 1 (.int .i64 d')
  simp only [List.setIfInBounds_toArray, List.set_cons_zero, List.set_cons_succ] at h9
  exact h9
theorem TrAt.other {w : World} {g b i : Nat} {A : Option Addr} {n c : Nat} {d : Int} {v : Value} (h : TrAt w g A n c d) (hne : g ≠ b) : TrAt (w.setCell ⟨b, i, none⟩ v) g A n c d := (setCell_block hne).trans h
theorem ChAt.other {w : World} {g b i : Nat} {c : CH} {v : Value} (h : ChAt w g c) (hne : g ≠ b) : ChAt (w.setCell ⟨b, i, none⟩ v) g c := (setCell_block hne).trans h
/-- The blocks of Learn's arguments and of its result. -/
structure LnZ (w wr : World) (A : Option Addr) (n c : Nat) (d : Int) (b : CH) (x : TC) : Prop where
  t : TrAt wr w.heap.size A n c d
  b : ChAt wr (w.heap.size + 1) b
  x : TcAt wr (w.heap.size + 2) x
  r : TrAt wr (w.heap.size + 3) none 0 0 0
  ext : Ext w wr
theorem LnZ.tr {w wr wx : World} {A : Option Addr} {n c : Nat} {d : Int} {b : CH} {x : TC} (h : LnZ w wr A n c d b x) (e : Ext wr wx) : LnZ w wx A n c d b x := ⟨h.t.ext e, h.b.ext e, h.x.ext e, h.r.ext e, h.ext.tr e⟩
theorem LnZ.gb {w wr wx : World} {g : Nat} {A : Option Addr} {n c : Nat} {d : Int} {b : CH} {x : TC} (h : LnZ w wr A n c d b x) (e : Gb g wr wx) (hg : w.heap.size + 3 < g) : LnZ w wx A n c d b x :=
  ⟨(e.block _ h.t.lt (fun q => by injection q with q; omega)).trans h.t, (e.block _ h.b.lt (fun q => by injection q with q; omega)).trans h.b, (e.block _ h.x.lt (fun q => by injection q with q; omega)).trans h.x, (e.block _ h.r.lt (fun q => by injection q with q; omega)).trans h.r, Gb.below h.ext e (by omega)⟩
theorem ln_alloc (w : World) (A : Option Addr) (n c : Nat) (d : Int) (b : CH) (x : TC) : ∃ wz, wz = (((w.alloc (.cells #[.slice A n c, .int .i64 d] 24)).alloc (.cells #[.string (bstr b.ho), .int .i64 b.key, .int .i64 b.role, .int .i64 b.rights, .int .i64 b.fr, .int .i64 b.to] 28)).alloc (.cells #[.string (bstr x.au), .string (bstr x.ho), .int .i64 x.key, .int .i64 x.role, .int .i64 x.rights, .int .i64 x.fr, .int .i64 x.to, .int .i64 x.e, .int .i64 x.s] 35)).alloc (.cells #[.slice none 0 0, .int .i64 0] 24) ∧ LnZ w wz A n c d b x := by
  have e1 : Ext w (w.alloc (.cells #[.slice A n c, .int .i64 d] 24)) := (Below.refl _ _).alloc (Nat.le_refl _) _
  have T1 : TrAt (w.alloc (.cells #[.slice A n c, .int .i64 d] 24)) w.heap.size A n c d := heap_alloc_new' w _
  have s1 : (w.alloc (.cells #[.slice A n c, .int .i64 d] 24)).heap.size = w.heap.size + 1 := by simp
  generalize w.alloc (.cells #[.slice A n c, .int .i64 d] 24) = w1 at *
  obtain ⟨w2, rfl, e2, T2⟩ := ch_alloc w1 b
  have s2 : (w1.alloc (.cells #[.string (bstr b.ho), .int .i64 b.key, .int .i64 b.role, .int .i64 b.rights, .int .i64 b.fr, .int .i64 b.to] 28)).heap.size = w.heap.size + 2 := by simp [s1]
  generalize w1.alloc (.cells #[.string (bstr b.ho), .int .i64 b.key, .int .i64 b.role, .int .i64 b.rights, .int .i64 b.fr, .int .i64 b.to] 28) = w2 at *
  obtain ⟨w3, rfl, e3, T3⟩ := tc_alloc w2 x
  have s3 : (w2.alloc (.cells #[.string (bstr x.au), .string (bstr x.ho), .int .i64 x.key, .int .i64 x.role, .int .i64 x.rights, .int .i64 x.fr, .int .i64 x.to, .int .i64 x.e, .int .i64 x.s] 35)).heap.size = w.heap.size + 3 := by simp [s2]
  generalize w2.alloc (.cells #[.string (bstr x.au), .string (bstr x.ho), .int .i64 x.key, .int .i64 x.role, .int .i64 x.rights, .int .i64 x.fr, .int .i64 x.to, .int .i64 x.e, .int .i64 x.s] 35) = w3 at *
  obtain ⟨w4, rfl, e4, T4⟩ := tr_alloc w3 none 0 0 0
  rw [s1] at T2
  rw [s2] at T3
  rw [s3] at T4
  exact ⟨_, rfl, T1.ext ((e2.tr e3).tr e4), T2.ext (e3.tr e4), T3.ext e4, T4, ((e1.tr e2).tr e3).tr e4⟩
/-- What Learn returns. -/
def LearnR (w : World) (t : TR) (e : Ending) (w' : World) : Prop := Ext w w' ∧ ∃ A n c, e = .returned (.agg #[.slice A n c, .int .i64 t.dt]) ∧ SafeK w' 0 139 5 (.slice A n c) (tpsCells t.ps)
theorem run_buildTr (W : World) (A : Option Addr) (n c : Nat) (d : Int) : (Instr.build 24 [(0, .slice A n c), (1, .int .i64 d)].toArray).run Tryz.prog W = .ok (.agg #[.slice A n c, .int .i64 d]) W := run_build W _ _ _ (by kernel_rfl)
theorem run_allocTr (W : World) : (Instr.alloc 24 true (.tuple #[])).run Tryz.prog W = .ok (.pointer (some ⟨W.heap.size, 0, none⟩)) (W.alloc (.cells #[.slice none 0 0, .int .i64 0] 24)) := by go_simp
/-- A new trust, all zero. -/
def GZT (B : Nat) : VPred := fun v w => ∃ g, v = .pointer (some ⟨g, 0, none⟩) ∧ B ≤ g ∧ TrAt w g none 0 0 0
theorem stable_GZT (B : Nat) : StableP (GZT B) := fun v w w' e ⟨g, h1, h2, h3⟩ => ⟨g, h1, h2, h3.ext e⟩
section
open Go.Proofs.YtkjplpmogfmhkaaGreatDoor.Gd (GRun)
variable {ops : Array Oper} {Q : Exit → Act → World → Prop} {w0 : World} {R : Act → World → Prop}
theorem Gd.wpX_allocTr {o : Oper} {rest : List Oper} {a : Act} {hs : List (Nat × VPred)} {d : Nat} (hg : GRun ops o a hs)
    (hd : o.dst = some d) (hz : Nat.blt d a.tmps.size = true) (ho : o.op = .alloc 24) (hin : (opTmps o).all (fun t => Nat.blt t a.tmps.size) = true)
    (hr : Gd.wpX Tryz.prog ops Q w0 R rest (a.put (some d) undef) ((d, GZT w0.heap.size) :: hs)) : Gd.wpX Tryz.prog ops Q w0 R (o :: rest) a hs :=
  Gd.wpX_newL hg (GZT w0.heap.size) (stable_GZT _) (fun _ => Instr.alloc 24 true (.tuple #[])) hd hz (by unfold notSelect; rw [ho]) hin (fun f => by unfold execOp; simp only [ho])
    (fun m f hf => ⟨_, _, run_allocTr m.1, (Below.refl _ _).alloc (Nat.le_refl _) _, _, rfl, m.2.size, heap_alloc_new' m.1 _⟩) hr
end
/-- New trust points, in a slot. -/
def GT (B : Nat) (l : List TP) : VPred := fun v w => ∃ A n c, v = .slice A n c ∧ Hid (n = l.length) ∧ OwnK w B 139 5 (.slice A n c) (tpsCells l)
theorem stable_GT (B : Nat) (l : List TP) : StableP (GT B l) := fun v w w' e ⟨A, n, c, h1, h2, h3⟩ => ⟨A, n, c, h1, h2, h3.ext e⟩
theorem RetT.gt {w w' : World} {B : Nat} {l : List TP} {e : Ending} (hB : B ≤ w.heap.size) (h : RetT w l e w') : ∃ v, e = .returned v ∧ Ext w w' ∧ GT B l v w' := by
  obtain ⟨h1, A, n, c, h2, h3, h4⟩ := h
  exact ⟨_, h2, h1, A, n, c, rfl, h3, h4.mono hB⟩
/-- A trust by value, new. -/
def GTr (B : Nat) (l : List TP) (d : Int) : VPred := fun v w => ∃ A n c, v = .agg #[.slice A n c, .int .i64 d] ∧ Hid (n = l.length) ∧ OwnK w B 139 5 (.slice A n c) (tpsCells l)
theorem stable_GTr (B : Nat) (l : List TP) (d : Int) : StableP (GTr B l d) := fun v w w' e ⟨A, n, c, h1, h2, h3⟩ => ⟨A, n, c, h1, h2, h3.ext e⟩
/-- Where Learn stands. -/
structure LnS (w wr : World) (A : Option Addr) (n c : Nat) (d : Int) (b : CH) (x : TC) (cb : Nat) (A1 : Option Addr) (n1 c1 : Nat) (d1 : Int) (l1 : List TP) : Prop where
  z : LnZ w wr A n c d b x
  o : TrAt wr cb A1 n1 c1 d1
  own : OwnK wr (w.heap.size + 4) 139 5 (.slice A1 n1 c1) (tpsCells l1)
  cb : w.heap.size + 3 < cb
  len : Hid (n1 = l1.length)
section
variable {w wr wx : World} {A : Option Addr} {n c : Nat} {d : Int} {b : CH} {x : TC} {cb : Nat} {A1 : Option Addr} {n1 c1 : Nat} {d1 : Int} {l1 : List TP}
theorem LnS.tr (h : LnS w wr A n c d b x cb A1 n1 c1 d1 l1) (e : Ext wr wx) : LnS w wx A n c d b x cb A1 n1 c1 d1 l1 := ⟨h.z.tr e, h.o.ext e, h.own.ext e, h.cb, h.len⟩
theorem LnS.setDt (h : LnS w wr A n c d b x cb A1 n1 c1 d1 l1) (d2 : Int) : LnS w (wr.setCell ⟨cb, 1, none⟩ (.int .i64 d2)) A n c d b x cb A1 n1 c1 d2 l1 :=
  ⟨h.z.gb (Gb.set _ _ _ _) h.cb, h.o.setDt d2, h.own.poke h.o tp_ne_tr _ _, h.cb, h.len⟩
/-- The result's cells, and what it is, where it is returned. -/
theorem LnS.fin (h : LnS w wr A n c d b x cb A1 n1 c1 d1 l1) {t : TR} (ht : t = ⟨l1, d1⟩) : LearnR w t (.returned (.agg #[.slice A1 n1 c1, .int .i64 d1])) ((wr.setCell ⟨w.heap.size + 3, 0, none⟩ (.slice A1 n1 c1)).setCell ⟨w.heap.size + 3, 1, none⟩ (.int .i64 d1)) := by
  subst ht
  have T2 : TrAt (wr.setCell ⟨w.heap.size + 3, 0, none⟩ (.slice A1 n1 c1)) (w.heap.size + 3) A1 n1 c1 0 := h.z.r.setPs
  have o2 := (h.own.poke h.z.r tp_ne_tr 0 (.slice A1 n1 c1)).poke T2 tp_ne_tr 1 (.int .i64 d1)
  exact ⟨ext_set (ext_set h.z.ext (by omega)) (by omega), A1, n1, c1, rfl, o2.safe 0⟩
theorem LnS.finCells (h : LnS w wr A n c d b x cb A1 n1 c1 d1 l1) : ((wr.setCell ⟨w.heap.size + 3, 0, none⟩ (.slice A1 n1 c1)).setCell ⟨w.heap.size + 3, 1, none⟩ (.int .i64 d1)).cell? ⟨w.heap.size + 3, 0, none⟩ = some (.slice A1 n1 c1) ∧ ((wr.setCell ⟨w.heap.size + 3, 0, none⟩ (.slice A1 n1 c1)).setCell ⟨w.heap.size + 3, 1, none⟩ (.int .i64 d1)).cell? ⟨w.heap.size + 3, 1, none⟩ = some (.int .i64 d1) := by
  have T2 : TrAt (wr.setCell ⟨w.heap.size + 3, 0, none⟩ (.slice A1 n1 c1)) (w.heap.size + 3) A1 n1 c1 0 := h.z.r.setPs
  exact (T2.setDt d1).cells
theorem LnS.gro (h : LnS w wr A n c d b x cb A1 n1 c1 d1 l1) (hg : wr.grownBy wx (rowOf (.slice A1 n1 c1))) : LnZ w wx A n c d b x ∧ TrAt wx cb A1 n1 c1 d1 := by
  have hge := rowOf_geK h.own
  have hne : ∀ k, k < w.heap.size + 4 → some k ≠ rowOf (.slice A1 n1 c1) := fun k hk q => by have := hge k q.symm; omega
  refine ⟨⟨(hg.block _ h.z.t.lt (hne _ (by omega))).trans h.z.t, (hg.block _ h.z.b.lt (hne _ (by omega))).trans h.z.b, (hg.block _ h.z.x.lt (hne _ (by omega))).trans h.z.x, (hg.block _ h.z.r.lt (hne _ (by omega))).trans h.z.r, h.z.ext.grown hg h.z.ext.size (fun r hr => by have := hge r hr; omega)⟩, (hg.block _ h.o.lt (fun q => ?_)).trans h.o⟩
  rcases h.own.ne_row h.o tp_ne_tr with h1 | h1
  · rw [h1] at q; cases q
  · exact h1 q.symm
theorem LnS.mk2 {A2 : Option Addr} {n2 c2 : Nat} {l2 : List TP} (hz : LnZ w wr A n c d b x) (ho : TrAt wr cb A1 n1 c1 d1) (hw : OwnK wr (w.heap.size + 4) 139 5 (.slice A2 n2 c2) (tpsCells l2)) (hc : w.heap.size + 3 < cb) (hn : n2 = l2.length) :
    LnS w (wr.setCell ⟨cb, 0, none⟩ (.slice A2 n2 c2)) A n c d b x cb A2 n2 c2 d1 l2 :=
  ⟨hz.gb (Gb.set _ _ _ _) hc, ho.setPs, hw.poke ho tp_ne_tr _ _, hc, hn⟩
end
/-- What is kept of the first k points. -/
def keptK (l : List TP) (d : Int) : Nat → List TP
  | 0 => []
  | k + 1 => match l[k]? with
    | none => keptK l d k
    | some p => if k + 1 = l.length ∨ d ≤ p.to then keptK l d k ++ [p] else keptK l d k
theorem keptK_step {l : List TP} {d : Int} {k : Nat} {p : TP} (hp : l[k]? = some p) : keptK l d (k + 1) = if k + 1 = l.length ∨ d ≤ p.to then keptK l d k ++ [p] else keptK l d k := by
  rw [keptK, hp]
theorem keptK_le (l : List TP) (p : TP) (d : Int) : ∀ k, k ≤ l.length → keptK (l ++ [p]) d k = (l.take k).filter fun q => decide (d ≤ q.to)
  | 0, _ => rfl
  | k + 1, h => by
    have hk : k < l.length := h
    have e : (l ++ [p])[k]? = some l[k] := by rw [List.getElem?_append_left hk, List.getElem?_eq_getElem hk]
    have hne : ¬ k + 1 = (l ++ [p]).length := by simp; omega
    rw [keptK_step e, keptK_le l p d k (Nat.le_of_succ_le h), List.take_succ_eq_append_getElem hk, List.filter_append]
    by_cases hd : d ≤ l[k].to
    · rw [if_pos (.inr hd), List.filter_cons_of_pos (by simpa using hd)]
      rfl
    · rw [if_neg (fun q => q.elim hne hd), List.filter_cons_of_neg (by simpa using hd)]
      simp
theorem keptK_all (l : List TP) (p : TP) (d : Int) : keptK (l ++ [p]) d (l.length + 1) = (l.filter fun q => decide (d ≤ q.to)) ++ [p] := by
  have h := keptK_le l p d l.length (Nat.le_refl _)
  rw [List.take_length] at h
  rw [← h]
  have e : (l ++ [p])[l.length]? = some p := by simp
  show (match (l ++ [p])[l.length]? with | none => _ | some q => _) = _
  rw [e]
  simp only [if_pos (show l.length + 1 = (l ++ [p]).length ∨ d ≤ p.to from .inl (by simp))]
theorem keptK_len (l : List TP) (d : Int) : ∀ k, (keptK l d k).length ≤ k
  | 0 => Nat.le_refl _
  | k + 1 => by
    have IH := keptK_len l d k
    unfold keptK
    cases l[k]? with
    | none => exact Nat.le_succ_of_le IH
    | some p =>
      show (if _ then _ else _ : List TP).length ≤ _
      split
      · rw [List.length_append]; exact Nat.succ_le_succ IH
      · exact Nat.le_succ_of_le IH
/-- All but the first. -/
theorem RdT.drop1 {w : World} {b o n c : Nat} {l : List TP} (h : RdT w (.slice (some ⟨b, o, none⟩) n c) l) (h1 : 1 ≤ n) : RdT w (.slice (some ⟨b, o + 5, none⟩) (n - 1) (c - 1)) (l.drop 1) := by
  have hl := tpsCells_len l
  obtain ⟨A', n', c', e, hn, hnc, hcm, hc⟩ := h
  injection e with e1 e2 e3
  subst e1 e2 e3
  obtain ⟨b', o', e, hcell⟩ := hc (by omega)
  injection e with e
  injection e with e1 e2
  subst e1 e2
  have h0 : tpsCells l = tpsCells (l.take 1) ++ tpsCells (l.drop 1) := by rw [tpsCells_app, List.take_append_drop]
  have h5 : (tpsCells (l.take 1)).length = 5 := by rw [tpsCells_len, List.length_take]; omega
  refine ⟨_, _, _, rfl, by rw [tpsCells_len, List.length_drop]; omega, by omega, by omega, fun _ => ⟨b, o + 5, rfl, fun j u hu => ?_⟩⟩
  rw [Nat.add_assoc]
  refine hcell (5 + j) u ?_
  rw [h0, List.getElem?_append_right (by omega), h5, show 5 + j - 5 = j by omega]
  exact hu
theorem learn_bad1 {t : TR} {b : CH} {x : TC} (h : vdK t ≠ 0) : learnT t b x = t := if_pos (.inl h)
theorem learn_bad2 {t : TR} {b : CH} {x : TC} (h : ckT x ≠ 0) : learnT t b x = t := if_pos (.inr h)
theorem learn_date {t : TR} {b : CH} {x : TC} (h1 : vdK t = 0) (h2 : ckT x = 0) (h : x.role ≠ 1 ∨ hasP t.ps x.ho = true) : learnT t b x = ⟨t.ps, lnDt t b x⟩ := by
  unfold learnT
  rw [if_neg (fun q => q.elim (fun q => q h1) (fun q => q h2)), if_pos h]
theorem learn_kept {t : TR} {b : CH} {x : TC} (h1 : vdK t = 0) (h2 : ckT x = 0) (h : ¬ (x.role ≠ 1 ∨ hasP t.ps x.ho = true)) : learnT t b x = ⟨if 2 < (lnKept t b x).length then (lnKept t b x).drop 1 else lnKept t b x, lnDt t b x⟩ := by
  unfold learnT
  rw [if_neg (fun q => q.elim (fun q => q h1) (fun q => q h2)), if_neg h]
end Go.Proofs.YtkjplpmogfmhkaaGreatDoor

namespace Go.Proofs.YtkjplpmogfmhkaaGreatDoor
open Go.RowKit
set_option linter.unusedVariables false
set_option maxRecDepth 100000

structure SaZ (w wr : World) (A1 : Option Addr) (n1 c1 : Nat) (A2 : Option Addr) (n2 c2 : Nat) (d : Int) : Prop where
  a : TrAt wr w.heap.size A1 n1 c1 d
  b : TrAt wr (w.heap.size + 1) A2 n2 c2 d
  ext : Ext w wr
theorem SaZ.tr {w wr wx : World} {A1 : Option Addr} {n1 c1 : Nat} {A2 : Option Addr} {n2 c2 : Nat} {d : Int} (h : SaZ w wr A1 n1 c1 A2 n2 c2 d) (e : Ext wr wx) : SaZ w wx A1 n1 c1 A2 n2 c2 d := ⟨h.a.ext e, h.b.ext e, h.ext.tr e⟩
theorem sa_alloc (w : World) (A1 : Option Addr) (n1 c1 : Nat) (A2 : Option Addr) (n2 c2 : Nat) (d : Int) : ∃ wz, wz = (w.alloc (.cells #[.slice A1 n1 c1, .int .i64 d] 24)).alloc (.cells #[.slice A2 n2 c2, .int .i64 d] 24) ∧ SaZ w wz A1 n1 c1 A2 n2 c2 d := by
  obtain ⟨w1, hw1, e1, T1⟩ := tr_alloc w A1 n1 c1 d
  have s1 : w1.heap.size = w.heap.size + 1 := by rw [hw1]; simp
  rw [← hw1]
  clear hw1
  obtain ⟨w2, hw2, e2, T2⟩ := tr_alloc w1 A2 n2 c2 d
  rw [s1] at T2
  exact ⟨w2, hw2, T1.ext e2, T2, e1.tr e2⟩
set_option maxHeartbeats 2000000 in
theorem same25_any {v1 v2 : Value} (t : TR) (w : World) (h1 : TrR w v1 t) (h2 : TrR w v2 t) :
    Calls Tryz.prog 25 #[v1, v2] w (RetQ w (.bool true)) := by
  obtain ⟨A1, n1, c1, rfl, hr1⟩ := h1
  obtain ⟨A2, n2, c2, rfl, hr2⟩ := h2
  obtain ⟨l, dt⟩ := t
  obtain ⟨A', n', c', e, hn1, hnc1, hcm1, hel1⟩ := hr1.at_
  injection e with e1 e2 e3
  subst e1 e2 e3
  obtain ⟨A', n', c', e, hn2, hnc2, hcm2, hel2⟩ := hr2.at_
  injection e with e1 e2 e3
  subst e1 e2 e3
  have hn1' : n1 = l.length := hn1
  have hn2' : n2 = l.length := hn2
  subst hn1' hn2'
  have HEL1 := Lib.hid hel1
  have HEL2 := Lib.hid hel2
  unfold maxLen at hcm1 hcm2
  clear hel1 hel2 hr1 hr2 hn1 hn2
  obtain ⟨wz, hwz, zz⟩ := sa_alloc w A1 l.length c1 A2 l.length c2 dt
  go_enter Tryz.func25, Tryz.ntmps25
  go_upto_region 1 with fail
  rw [← hwz]
  clear hwz
  obtain ⟨y0, y1⟩ := zz.a.cells
  obtain ⟨z0, z1⟩ := zz.b.cells
  have yl := zz.a.lt
  have zl := zz.b.lt
  go_wp2_with fail
  go_loopw [5] (fun i wr => ∃ k : Nat, k ≤ l.length ∧ i = .int .i64 (k : Int) ∧ SaZ w wr A1 l.length c1 A2 l.length c2 dt) (fun i _ => l.length - (intOf i).toNat)
  case atStart => exact ⟨0, Nat.zero_le _, rfl, zz⟩
  case round =>
    clear zz y0 y1 z0 z1 yl zl
    obtain ⟨k, hk, rfl, Z⟩ := hrel
    obtain ⟨y0, y1⟩ := Z.a.cells
    obtain ⟨z0, z1⟩ := Z.b.cells
    have yl := Z.a.lt
    have zl := Z.b.lt
    by_cases hlt : k < l.length
    case neg =>
      obtain rfl : k = l.length := by omega
      go_wp2_with fail
      go_ret
      exact ⟨rfl, Z.ext⟩
    case pos =>
    obtain ⟨p, hp⟩ : ∃ p, l[k]? = some p := ⟨_, List.getElem?_eq_getElem hlt⟩
    obtain ⟨b, o, rfl, hbl, hc⟩ := HEL1.out (by omega)
    obtain ⟨b2, o2, rfl, hbl2, hc2⟩ := HEL2.out (by omega)
    have P := hc k p hp
    have P2 := hc2 k p hp
    clear hp hc hc2
    have wi1 : IntKind.i64.wrap ((k : Int)) = (k : Int) := IntWalk.i64_in _ (by omega)
    have zi1 : (0 : Int) ≤ (k : Int) := by omega
    have li1 : (k : Int) < (l.length : Int) := by omega
    have ti1 : ((k : Int)).toNat = k := by omega
    go_wp2_with fail
    refine Gd.wp_region_X 11 (by kernel_rfl) (by kernel_rfl) ?_
    simp only [List.take_succ_cons, List.take_zero, List.drop_succ_cons, List.drop_zero]
    intro wq hw1
    have LL : ∀ m : Lt wq, Ext wr m.1 := fun m => hw1.tr m.2
    have LW : ∀ m : Lt wq, Ext w m.1 := fun m => Z.ext.tr (LL m)
    have g1 : ∀ m : Lt wq, m.1.cell? ⟨w.heap.size, 0, none⟩ = some (.slice (some ⟨b, o, none⟩) l.length c1) := fun m => ((Z.a.ext (LL m)).cells).1
    have g2 : ∀ m : Lt wq, m.1.cell? ⟨w.heap.size + 1, 0, none⟩ = some (.slice (some ⟨b2, o2, none⟩) l.length c2) := fun m => ((Z.b.ext (LL m)).cells).1
    have l0 := fun m : Lt wq => ((LW m).cell (p := ⟨b, o + k * 5, none⟩) hbl).trans P.1
    have l1 := fun m : Lt wq => ((LW m).cell (p := ⟨b, o + k * 5 + 1, none⟩) hbl).trans P.2.1
    have l2 := fun m : Lt wq => ((LW m).cell (p := ⟨b, o + k * 5 + 2, none⟩) hbl).trans P.2.2.1
    have l3 := fun m : Lt wq => ((LW m).cell (p := ⟨b, o + k * 5 + 3, none⟩) hbl).trans P.2.2.2.1
    have l4 := fun m : Lt wq => ((LW m).cell (p := ⟨b, o + k * 5 + 4, none⟩) hbl).trans P.2.2.2.2
    have q0 := fun m : Lt wq => ((LW m).cell (p := ⟨b2, o2 + k * 5, none⟩) hbl2).trans P2.1
    have q1 := fun m : Lt wq => ((LW m).cell (p := ⟨b2, o2 + k * 5 + 1, none⟩) hbl2).trans P2.2.1
    have q2 := fun m : Lt wq => ((LW m).cell (p := ⟨b2, o2 + k * 5 + 2, none⟩) hbl2).trans P2.2.2.1
    have q3 := fun m : Lt wq => ((LW m).cell (p := ⟨b2, o2 + k * 5 + 3, none⟩) hbl2).trans P2.2.2.2.1
    have q4 := fun m : Lt wq => ((LW m).cell (p := ⟨b2, o2 + k * 5 + 4, none⟩) hbl2).trans P2.2.2.2.2
    repeat (refine Gd.wpX_pure (by first | exact trivial | exact ⟨_, rfl, rfl, rfl⟩) rfl rfl rfl rfl rfl (fun K hK => ?_); go_big_quiet_op; refine hK _ ?_; clear hK K)
    refine Gd.wpX_end0 (fun m => ?_)
    have Lm := LL m
    obtain ⟨wm, hwm⟩ := m
    have Lm : Ext wr wm := Lm
    have ZM := Z.tr Lm
    clear LL LW g1 g2 l0 l1 l2 l3 l4 q0 q1 q2 q3 q4 y0 y1 z0 z1 yl zl P P2
    show wpList _ _ _ _ _ _
    go_wp2_with fail
    go_roundw
    case rel => exact ⟨k + 1, by omega, by go_num, ZM⟩
    case measure => simp [intOf]; omega
end Go.Proofs.YtkjplpmogfmhkaaGreatDoor
