/- Parts Ed Mb Ee Mc Ef Uc of the proof. -/
import Derived.Test.YtmmoenkmicimcaaGreatDoorDRax
import Derived.Test.YtmmoenkmicimcaaGreatDoorDRav
import Derived.Test.YtmmoenkmicimcaaGreatDoorDRaw
import Derived.Test.YtmmoenkmicimcaaGreatDoorDRar
namespace Go.Proofs.YtmmoenkmicimcaaGreatDoor
open Go.RowKit
set_option linter.unusedVariables false
set_option maxRecDepth 100000
/-- A deviation list by value, and its block. -/
def dvV (m : DV) (v : Value) : Value := .agg (dvCells m v).toArray
def DvAt (w : World) (g : Nat) (m : DV) (v : Value) : Prop := w.heap[g]? = some (.cells (dvCells m v).toArray 41 (0, 0))
/-- Entries whose texts are no longer than any. -/
def smD (l : List DF) : Prop := ∀ x ∈ l, x.fi.length ≤ maxLen ∧ x.la.length ≤ maxLen
section
variable {w w' : World} {g : Nat} {m : DV} {v : Value}
theorem DvAt.lt (h : DvAt w g m v) : g < w.heap.size := block_lt h
theorem DvAt.ext (h : DvAt w g m v) (e : Ext w w') : DvAt w' g m v := (e.block g h.lt).trans h
theorem DvAt.row (h : DvAt w g m v) : w.heap[g]? = some (.cells (dvCells m v).toArray 41 (0, 0)) := h
theorem DvAt.c0 (h : DvAt w g m v) : w.cell? ⟨g, 0, none⟩ = some (.string (bstr m.st)) := by rw [cell_of_row w g 0 _ _ _ h]; rfl
theorem DvAt.c1 (h : DvAt w g m v) : w.cell? ⟨g, 1, none⟩ = some (.int .i64 m.num) := by rw [cell_of_row w g 1 _ _ _ h]; rfl
theorem DvAt.c2 (h : DvAt w g m v) : w.cell? ⟨g, 2, none⟩ = some (.int .i64 m.day) := by rw [cell_of_row w g 2 _ _ _ h]; rfl
theorem DvAt.c3 (h : DvAt w g m v) : w.cell? ⟨g, 3, none⟩ = some (v) := by rw [cell_of_row w g 3 _ _ _ h]; rfl
theorem DvAt.c4 (h : DvAt w g m v) : w.cell? ⟨g, 4, none⟩ = some (.string (bstr m.sg.st)) := by rw [cell_of_row w g 4 _ _ _ h]; rfl
theorem DvAt.c5 (h : DvAt w g m v) : w.cell? ⟨g, 5, none⟩ = some (.int .i64 m.sg.kind) := by rw [cell_of_row w g 5 _ _ _ h]; rfl
theorem DvAt.c6 (h : DvAt w g m v) : w.cell? ⟨g, 6, none⟩ = some (.int .i64 m.sg.num) := by rw [cell_of_row w g 6 _ _ _ h]; rfl
theorem DvAt.c7 (h : DvAt w g m v) : w.cell? ⟨g, 7, none⟩ = some (.int .i64 m.sg.iss) := by rw [cell_of_row w g 7 _ _ _ h]; rfl
theorem DvAt.c8 (h : DvAt w g m v) : w.cell? ⟨g, 8, none⟩ = some (.int .i64 m.sg.own) := by rw [cell_of_row w g 8 _ _ _ h]; rfl
theorem DvAt.c9 (h : DvAt w g m v) : w.cell? ⟨g, 9, none⟩ = some (.int .i64 m.sg.key) := by rw [cell_of_row w g 9 _ _ _ h]; rfl
theorem DvAt.c10 (h : DvAt w g m v) : w.cell? ⟨g, 10, none⟩ = some (.int .i64 m.sg.fr) := by rw [cell_of_row w g 10 _ _ _ h]; rfl
theorem DvAt.c11 (h : DvAt w g m v) : w.cell? ⟨g, 11, none⟩ = some (.int .i64 m.sg.un) := by rw [cell_of_row w g 11 _ _ _ h]; rfl
theorem DvAt.c12 (h : DvAt w g m v) : w.cell? ⟨g, 12, none⟩ = some (.int .i64 m.sg.to) := by rw [cell_of_row w g 12 _ _ _ h]; rfl
theorem DvAt.c13 (h : DvAt w g m v) : w.cell? ⟨g, 13, none⟩ = some (.int .i64 m.sg.e) := by rw [cell_of_row w g 13 _ _ _ h]; rfl
theorem DvAt.c14 (h : DvAt w g m v) : w.cell? ⟨g, 14, none⟩ = some (.int .i64 m.sg.s) := by rw [cell_of_row w g 14 _ _ _ h]; rfl
theorem DvAt.c15 (h : DvAt w g m v) : w.cell? ⟨g, 15, none⟩ = some (.int .i64 m.e) := by rw [cell_of_row w g 15 _ _ _ h]; rfl
theorem DvAt.c16 (h : DvAt w g m v) : w.cell? ⟨g, 16, none⟩ = some (.int .i64 m.s) := by rw [cell_of_row w g 16 _ _ _ h]; rfl
theorem dv_alloc (w : World) (m : DV) (v : Value) : ∃ wz, wz = w.alloc (.cells #[.string (bstr m.st), .int .i64 m.num, .int .i64 m.day, v, .string (bstr m.sg.st), .int .i64 m.sg.kind, .int .i64 m.sg.num, .int .i64 m.sg.iss, .int .i64 m.sg.own, .int .i64 m.sg.key, .int .i64 m.sg.fr, .int .i64 m.sg.un, .int .i64 m.sg.to, .int .i64 m.sg.e, .int .i64 m.sg.s, .int .i64 m.e, .int .i64 m.s] 41) ∧ Ext w wz ∧ DvAt wz w.heap.size m v :=
  ⟨_, rfl, (Below.refl _ _).alloc (Nat.le_refl _) _, heap_alloc_new' w _⟩
end
theorem upto_stepD {l : List DF} {c : DF} {k : Nat} {P : DF → Prop} (hk : l[k]? = some c) (hc : P c) (hn : ∀ (j : Nat) (x : DF), j < k → l[j]? = some x → P x) : ∀ (j : Nat) (x : DF), j < k + 1 → l[j]? = some x → P x := fun j x hj hx => by
  by_cases h : j = k
  · subst h
    rw [hk] at hx
    rw [← Option.some.inj hx]; exact hc
  · exact hn j x (by omega) hx
set_option maxHeartbeats 4000000 in
theorem dcheck_any (m : DV) (v : Value) (w : World) (hv : RdD w v m.defs) (hs : smD m.defs) (hg : smN m.sg) (ht : m.st.length ≤ maxLen) : Calls Tryz.prog 22 #[dvV m v] w (RetQ w (.int .i64 (ckD m))) := by
  obtain ⟨wz, hwz, ez, TZ⟩ := dv_alloc w m v
  have HST := Lib.hid (fun W => nationalcert_stM m.st W ht)
  have HSR := Lib.hid (fun W => nationalcert_serial m.num W)
  have HSG := Lib.hid (fun W => msigner_any m.sg m.st W hg)
  have HDF := Lib.hid (fun (x : DF) W (h : x ∈ m.defs) => defect_any x W (hs x h).1 (hs x h).2)
  obtain ⟨A, n, cp, rfl, hn, hnc, hcm, hel⟩ := RdD.at_ hv
  subst hn
  have HEL := Lib.hid hel
  unfold maxLen at hcm
  obtain ⟨K, hK⟩ : ∃ K, ckD m = K := ⟨_, rfl⟩
  rw [hK]
  have HK := Lib.hid hK
  clear hK hv hs hg ht hel
  have X := Lib.hid ez
  have c0 := TZ.c0
  have c1 := TZ.c1
  have c2 := TZ.c2
  have c3 := TZ.c3
  have cl := TZ.lt
  have HTZ := Lib.hid TZ
  clear TZ ez
  unfold dvV dvCells
  go_enter Tryz.func22, Tryz.ntmps22
  go_wp2_with fail
  rw [← hwz]
  clear hwz
  refine (HST.out _).mono ?_
  rintro e0 w1 ⟨rfl, rfl⟩
  by_cases h1 : stateP m.st
  case neg =>
    have HR := Lib.hid (show K = 60 by rw [← HK.out]; exact if_pos h1)
    rw [decide_eq_false h1]
    clear h1
    go_wp2_with fail
    go_ret
    exact ⟨by first | (rw [HR.out]; rfl) | rw [HR.out], X.out⟩
  rw [decide_eq_true h1]
  have H1 := Lib.hid h1
  clear h1
  go_wp2_with fail
  refine (HSR.out _).mono ?_
  rintro e0 w1 ⟨rfl, rfl⟩
  by_cases h2 : serP m.num
  case neg =>
    have HR := Lib.hid (show K = 3 by rw [← HK.out]; unfold ckD; rw [if_neg (not_not_intro H1.out), if_pos h2])
    rw [decide_eq_false h2]
    clear h2
    go_wp2_with fail
    go_ret
    exact ⟨by first | (rw [HR.out]; rfl) | rw [HR.out], X.out⟩
  rw [decide_eq_true h2]
  have H2 := Lib.hid h2
  clear h2
  by_cases h3 : 0 ≤ m.day
  case neg =>
    have h3 : ¬ (0 ≤ m.day ∧ m.day ≤ 73048) := fun q => h3 q.1
    have HR := Lib.hid (show K = 8 by rw [← HK.out]; unfold ckD; rw [if_neg (not_not_intro H1.out), if_neg (not_not_intro H2.out), if_pos h3])
    have hb : m.day < 0 := by omega
    clear h3
    go_wp2_with fail
    go_ret
    exact ⟨by first | (rw [HR.out]; rfl) | rw [HR.out], X.out⟩
  have hb3 : ¬ m.day < 0 := by omega
  by_cases h4 : m.day ≤ 73048
  case neg =>
    have HR := Lib.hid (show K = 8 by rw [← HK.out]; unfold ckD; rw [if_neg (not_not_intro H1.out), if_neg (not_not_intro H2.out), if_pos (fun q => h4 q.2)])
    have hb : 73048 < m.day := by omega
    clear h4
    go_wp2_with fail
    go_ret
    exact ⟨by first | (rw [HR.out]; rfl) | rw [HR.out], X.out⟩
  have hb4 : ¬ 73048 < m.day := by omega
  have H3 := Lib.hid (And.intro h3 h4)
  clear h3 h4
  by_cases h5 : 32 < m.defs.length
  case pos =>
    have HR := Lib.hid (show K = 72 by rw [← HK.out]; unfold ckD; rw [if_neg (not_not_intro H1.out), if_neg (not_not_intro H2.out), if_neg (not_not_intro H3.out), if_pos h5])
    have hb : ((32 : Int) < (m.defs.length : Int)) := by omega
    clear h5
    go_wp2_with fail
    go_ret
    exact ⟨by first | (rw [HR.out]; rfl) | rw [HR.out], X.out⟩
  have hb5 : ¬ ((32 : Int) < (m.defs.length : Int)) := by omega
  have HL := Lib.hid h5
  clear h5
  go_wp2_with fail
  clear hb5 c0 c1 c2 c3 cl
  go_loopw [33] (fun s wr => ∃ k : Nat, k ≤ m.defs.length ∧ s = .int .i64 (k : Int) ∧ Hid (Ext w wr) ∧ Hid (DvAt wr w.heap.size m (.slice A m.defs.length cp)) ∧ Hid (∀ (j : Nat) (x : DF), j < k → m.defs[j]? = some x → dfE x = 0)) (fun s _ => m.defs.length - (intOf s).toNat)
  case atStart => exact ⟨0, Nat.zero_le _, rfl, X, HTZ, Lib.hid (fun j c h => by omega)⟩
  case round =>
    obtain ⟨k, hk, rfl, X, TR, NO⟩ := hrel
    by_cases hlt : k < m.defs.length
    case pos =>
      obtain ⟨y, hy⟩ : ∃ y, m.defs[k]? = some y := ⟨_, List.getElem?_eq_getElem hlt⟩
      obtain ⟨b, o, rfl, hbl, hc⟩ := HEL.out (by omega)
      have hcy := hc k y hy
      have HY := Lib.hid hy
      clear hy hc
      have wi1 : IntKind.i64.wrap ((k : Int)) = (k : Int) := IntWalk.i64_in _ (by omega)
      have zi1 : (0 : Int) ≤ (k : Int) := by omega
      have li1 : (k : Int) < (m.defs.length : Int) := by omega
      have ti1 : ((k : Int)).toNat = k := by omega
      have wk : IntKind.i64.wrap ((k : Int) + 1) = (k : Int) + 1 := IntWalk.i64_in _ (by omega)
      have q0 := (X.out.cell (p := ⟨b, o + k * 5, none⟩) hbl).trans hcy.1
      have q1 := (X.out.cell (p := ⟨b, o + k * 5 + 1, none⟩) hbl).trans hcy.2.1
      have q2 := (X.out.cell (p := ⟨b, o + k * 5 + 2, none⟩) hbl).trans hcy.2.2.1
      have q3 := (X.out.cell (p := ⟨b, o + k * 5 + 3, none⟩) hbl).trans hcy.2.2.2.1
      have q4 := (X.out.cell (p := ⟨b, o + k * 5 + 4, none⟩) hbl).trans hcy.2.2.2.2
      clear hcy
      obtain ⟨wn, hwn, en, TN⟩ := df_alloc wr y
      go_upto_region 12 with fail
      rw [← hwn]
      clear hwn q0 q1 q2 q3 q4
      have XN := Lib.hid (X.out.tr en)
      have TR0 := Lib.hid (TR.out.ext en)
      have t0 := TN.c0
      have t1 := TN.c1
      have t2 := TN.c2
      have t3 := TN.c3
      have t4 := TN.c4
      have hl := TN.lt
      clear X TR en TN
      go_wp2_with fail
      refine (HDF.out y _ (List.mem_of_getElem? HY.out)).mono ?_
      rintro e w1 ⟨rfl, b1⟩
      have X1 := Lib.hid (XN.out.tr b1)
      have TR1 := Lib.hid (TR0.out.ext b1)
      clear XN TR0 b1 t0 t1 t2 t3 t4 hl
      by_cases h3 : dfE y = 0
      case neg =>
        have HR := Lib.hid (show K = dfE y by rw [← HK.out]; unfold ckD; rw [if_neg (not_not_intro H1.out), if_neg (not_not_intro H2.out), if_neg (not_not_intro H3.out), if_neg HL.out, if_pos (by rw [dfs_bad HY.out h3 NO.out]; exact h3), dfs_bad HY.out h3 NO.out])
        have hb : (dfE y != 0) = true := by simpa using h3
        clear h3
        go_wp2_with fail
        go_ret
        exact ⟨by first | (rw [HR.out]; rfl) | rw [HR.out], X1.out⟩
      have NO2 := Lib.hid (upto_stepD (P := fun c => dfE c = 0) HY.out h3 NO.out)
      rw [h3]
      clear h3 NO
      go_wp2_with fail
      go_roundw
      case rel => exact ⟨k + 1, by omega, by go_num, X1, TR1, NO2⟩
      case measure => simp [intOf]; omega
    case neg =>
    obtain rfl : k = m.defs.length := by omega
    clear hlt hk
    have HR := Lib.hid (show K = sgE m.sg m.st by rw [← HK.out]; unfold ckD; rw [if_neg (not_not_intro H1.out), if_neg (not_not_intro H2.out), if_neg (not_not_intro H3.out), if_neg HL.out, if_neg (not_not_intro (dfs_fine NO.out))])
    have c0 := TR.out.c0
    have c4 := TR.out.c4
    have c5 := TR.out.c5
    have c6 := TR.out.c6
    have c7 := TR.out.c7
    have c8 := TR.out.c8
    have c9 := TR.out.c9
    have c10 := TR.out.c10
    have c11 := TR.out.c11
    have c12 := TR.out.c12
    have c13 := TR.out.c13
    have c14 := TR.out.c14
    have cl := TR.out.lt
    go_wp2_with fail
    refine (HSG.out _).mono ?_
    rintro e0 w2 ⟨rfl, b2⟩
    have X2 := Lib.hid (X.out.tr b2)
    clear b2 c0 c4 c5 c6 c7 c8 c9 c10 c11 c12 c13 c14 cl
    go_wp2_with fail
    go_ret
    exact ⟨by first | (rw [HR.out]; rfl) | rw [HR.out], X2.out⟩
set_option maxHeartbeats 8000000 in
theorem refdcheck_any (m : DV) (v : Value) (w : World) (hv : RdD w v m.defs) (hs : smD m.defs) (hg : smN m.sg) (ht : m.st.length ≤ maxLen) : Calls Tryz.prog 23 #[dvV m v] w (RetQ w (.int .i64 (ckD m))) := by
  obtain ⟨wz, hwz, ez, TZ⟩ := dv_alloc w m v
  have HST := Lib.hid (fun W => traveldocref29_stM m.st W ht)
  have HSR := Lib.hid (fun W => traveldocref29_serial m.num W)
  have HSG := Lib.hid (fun W => reflister_any m.sg m.st W hg)
  have HDF := Lib.hid (fun (x : DF) W (h : x ∈ m.defs) => refdefect_any x W (hs x h).1 (hs x h).2)
  obtain ⟨A, n, cp, rfl, hn, hnc, hcm, hel⟩ := RdD.at_ hv
  subst hn
  have HEL := Lib.hid hel
  unfold maxLen at hcm
  obtain ⟨K, hK⟩ : ∃ K, ckD m = K := ⟨_, rfl⟩
  rw [hK]
  have HK := Lib.hid hK
  clear hK hv hs hg ht hel
  have X := Lib.hid ez
  have c0 := TZ.c0
  have c1 := TZ.c1
  have c2 := TZ.c2
  have c3 := TZ.c3
  have cl := TZ.lt
  have HTZ := Lib.hid TZ
  clear TZ ez
  unfold dvV dvCells
  go_enter Tryz.func23, Tryz.ntmps23
  go_wp2_with fail
  rw [← hwz]
  clear hwz
  have HDY := Lib.hid (fun W => refday31_any m.day W)
  refine (HST.out _).mono ?_
  rintro e0 w1 ⟨rfl, rfl⟩
  by_cases h1 : stateP m.st
  case neg =>
    have HR := Lib.hid (show K = 60 by rw [← HK.out]; exact if_pos h1)
    rw [decide_eq_false h1]
    clear h1
    go_wp2_with fail
    go_ret
    exact ⟨by first | (rw [HR.out]; rfl) | rw [HR.out], X.out⟩
  rw [decide_eq_true h1]
  have H1 := Lib.hid h1
  clear h1
  go_wp2_with fail
  refine (HSR.out _).mono ?_
  rintro e0 w1 ⟨rfl, rfl⟩
  by_cases h2 : serP m.num
  case neg =>
    have HR := Lib.hid (show K = 3 by rw [← HK.out]; unfold ckD; rw [if_neg (not_not_intro H1.out), if_pos h2])
    rw [decide_eq_false h2]
    clear h2
    go_wp2_with fail
    go_ret
    exact ⟨by first | (rw [HR.out]; rfl) | rw [HR.out], X.out⟩
  rw [decide_eq_true h2]
  have H2 := Lib.hid h2
  clear h2
  go_wp2_with fail
  refine (HDY.out _).mono ?_
  rintro e0 w1 ⟨rfl, b1⟩
  have X1 := Lib.hid (X.out.tr b1)
  have T1 := HTZ.out.ext b1
  clear c0 c1 c2 c3 cl b1
  have c3 := T1.c3
  have cl := T1.lt
  have HT1 := Lib.hid T1
  clear T1 HTZ X
  by_cases h3 : 0 ≤ m.day ∧ m.day ≤ 73048
  case neg =>
    have HR := Lib.hid (show K = 8 by rw [← HK.out]; unfold ckD; rw [if_neg (not_not_intro H1.out), if_neg (not_not_intro H2.out), if_pos h3])
    rw [decide_eq_false h3]
    clear h3
    go_wp2_with fail
    go_ret
    exact ⟨by first | (rw [HR.out]; rfl) | rw [HR.out], X1.out⟩
  rw [decide_eq_true h3]
  have H3 := Lib.hid h3
  clear h3
  by_cases h5 : 32 < m.defs.length
  case pos =>
    have HR := Lib.hid (show K = 72 by rw [← HK.out]; unfold ckD; rw [if_neg (not_not_intro H1.out), if_neg (not_not_intro H2.out), if_neg (not_not_intro H3.out), if_pos h5])
    have hb : ((32 : Int) < (m.defs.length : Int)) := by omega
    clear h5
    go_wp2_with fail
    go_ret
    exact ⟨by first | (rw [HR.out]; rfl) | rw [HR.out], X1.out⟩
  have hb5 : ¬ ((32 : Int) < (m.defs.length : Int)) := by omega
  have HL := Lib.hid h5
  clear h5
  go_wp2_with fail
  clear hb5 c3 cl
  go_loopw [3] (fun s wr => ∃ k : Nat, k ≤ m.defs.length ∧ s = .int .i64 (k : Int) ∧ Hid (Ext w wr) ∧ Hid (DvAt wr w.heap.size m (.slice A m.defs.length cp)) ∧ Hid (∀ (j : Nat) (x : DF), j < k → m.defs[j]? = some x → dfE x = 0)) (fun s _ => m.defs.length - (intOf s).toNat)
  case atStart => exact ⟨0, Nat.zero_le _, rfl, X1, HT1, Lib.hid (fun j c h => by omega)⟩
  case round =>
    obtain ⟨k, hk, rfl, X, TR, NO⟩ := hrel
    have c3 := TR.out.c3
    have cl := TR.out.lt
    by_cases hlt : k < m.defs.length
    case pos =>
      obtain ⟨y, hy⟩ : ∃ y, m.defs[k]? = some y := ⟨_, List.getElem?_eq_getElem hlt⟩
      obtain ⟨b, o, rfl, hbl, hc⟩ := HEL.out (by omega)
      have hcy := hc k y hy
      have HY := Lib.hid hy
      clear hy hc
      have wi2 : IntKind.i64.wrap ((k : Int)) = (k : Int) := IntWalk.i64_in _ (by omega)
      have zi2 : (0 : Int) ≤ (k : Int) := by omega
      have li2 : (k : Int) < (m.defs.length : Int) := by omega
      have ti2 : ((k : Int)).toNat = k := by omega
      have wk : IntKind.i64.wrap ((k : Int) + 1) = (k : Int) + 1 := IntWalk.i64_in _ (by omega)
      have q0 := (X.out.cell (p := ⟨b, o + k * 5, none⟩) hbl).trans hcy.1
      have q1 := (X.out.cell (p := ⟨b, o + k * 5 + 1, none⟩) hbl).trans hcy.2.1
      have q2 := (X.out.cell (p := ⟨b, o + k * 5 + 2, none⟩) hbl).trans hcy.2.2.1
      have q3 := (X.out.cell (p := ⟨b, o + k * 5 + 3, none⟩) hbl).trans hcy.2.2.2.1
      have q4 := (X.out.cell (p := ⟨b, o + k * 5 + 4, none⟩) hbl).trans hcy.2.2.2.2
      clear hcy
      go_wp2_with fail
      clear q0 q1 q2 q3 q4
      refine (HDF.out y _ (List.mem_of_getElem? HY.out)).mono ?_
      rintro e w1 ⟨rfl, b1⟩
      have X1 := Lib.hid (X.out.tr b1)
      have TR1 := Lib.hid (TR.out.ext b1)
      clear X TR b1 c3 cl
      by_cases h3 : dfE y = 0
      case neg =>
        have HR := Lib.hid (show K = dfE y by rw [← HK.out]; unfold ckD; rw [if_neg (not_not_intro H1.out), if_neg (not_not_intro H2.out), if_neg (not_not_intro H3.out), if_neg HL.out, if_pos (by rw [dfs_bad HY.out h3 NO.out]; exact h3), dfs_bad HY.out h3 NO.out])
        have hb : (dfE y != 0) = true := by simpa using h3
        clear h3
        go_wp2_with fail
        go_ret
        exact ⟨by first | (rw [HR.out]; rfl) | rw [HR.out], X1.out⟩
      have NO2 := Lib.hid (upto_stepD (P := fun c => dfE c = 0) HY.out h3 NO.out)
      rw [h3]
      clear h3 NO
      go_wp2_with fail
      go_roundw
      case rel => exact ⟨k + 1, by omega, by go_num, X1, TR1, NO2⟩
      case measure => simp [intOf]; omega
    case neg =>
    obtain rfl : k = m.defs.length := by omega
    clear hlt hk
    have HR := Lib.hid (show K = sgE m.sg m.st by rw [← HK.out]; unfold ckD; rw [if_neg (not_not_intro H1.out), if_neg (not_not_intro H2.out), if_neg (not_not_intro H3.out), if_neg HL.out, if_neg (not_not_intro (dfs_fine NO.out))])
    have c0 := TR.out.c0
    have c4 := TR.out.c4
    have c5 := TR.out.c5
    have c6 := TR.out.c6
    have c7 := TR.out.c7
    have c8 := TR.out.c8
    have c9 := TR.out.c9
    have c10 := TR.out.c10
    have c11 := TR.out.c11
    have c12 := TR.out.c12
    have c13 := TR.out.c13
    have c14 := TR.out.c14
    go_wp2_with fail
    refine (HSG.out _).mono ?_
    rintro e0 w2 ⟨rfl, b2⟩
    have X2 := Lib.hid (X.out.tr b2)
    clear b2 c0 c3 c4 c5 c6 c7 c8 c9 c10 c11 c12 c13 c14 cl
    go_wp2_with fail
    go_ret
    exact ⟨by first | (rw [HR.out]; rfl) | rw [HR.out], X2.out⟩
end Go.Proofs.YtmmoenkmicimcaaGreatDoor
namespace Go.Proofs.YtmmoenkmicimcaaGreatDoor
open Go.RowKit
set_option linter.unusedVariables false
set_option maxRecDepth 100000
/-- Objects in a new row; nothing of them lies in the row, nor where X says. -/
structure NdO (w wr : World) (X : Nat → Prop) (A : Option Addr) (n c : Nat) (ts : List Nd) : Prop where
  ext : Ext w wr
  own : ∃ xs, OwnK wr w.heap.size 94 3 (.slice A n c) xs ∧ NdCells (fun b => X b ∧ rowOf (.slice A n c) ≠ some b) 2 wr xs ts
section
variable {w wr wx w8 : World} {X : Nat → Prop} {A A8 : Option Addr} {n c n8 c8 rb : Nat} {ts : List Nd}
theorem NdO.len (h : NdO w wr X A n c ts) : n = ts.length := by
  obtain ⟨xs, ⟨A', n', c', e, hn, _⟩, hx⟩ := h.own
  injection e with e1 e2 e3
  have := hx.1
  omega
theorem NdO.nd (h : NdO w wr X A n c ts) : NdG 0 3 (.mk 49 [] ts) (.agg #[.int .i64 49, .slice none 0 0, .slice A n c]) wr := by
  obtain ⟨xs, O, hx⟩ := h.own
  exact ⟨_, _, _, _, _, _, rfl, RdS.nil _, NdsS.mk O hx (fun b _ => Nat.zero_le _) (fun b _ => Nat.zero_le _)⟩
/-- One object more. -/
theorem ndo_app {xs : List Value} {t : Nd} {A1 A2 : Option Addr} {n1 c1 n2 c2 : Nat} (O : OwnK wr w.heap.size 94 3 (.slice A n c) xs) (hN : NdCells (fun b => X b ∧ rowOf (.slice A n c) ≠ some b) 2 wr xs ts) (e : Ext wr wx)
    (hu : NdG wr.heap.size 2 t (.agg #[.int .i64 t.tag, .slice A1 n1 c1, .slice A2 n2 c2]) wx) (hX : ∀ b, wr.heap.size ≤ b → X b)
    (o8 : OwnK w8 w.heap.size 94 3 (.slice A8 n8 c8) (xs ++ [.int .i64 t.tag, .slice A1 n1 c1, .slice A2 n2 c2])) (x8 : Ext w w8) (g8 : wx.grownBy w8 (rowOf (.slice A n c))) (f8 : ∀ r, rowOf (.slice A8 n8 c8) = some r → rowOf (.slice A n c) = some r ∨ wx.heap.size ≤ r) : NdO w w8 X A8 n8 c8 (ts ++ [t]) := by
  obtain ⟨B1, m1, k1, B2, m2, k2, q, r1, r2⟩ := hu
  injection q with q
  injection q with q
  simp only [List.cons.injEq, Value.slice.injEq, and_true, true_and] at q
  obtain ⟨⟨rfl, rfl, rfl⟩, rfl, rfl, rfl⟩ := q
  have hs := e.size
  have old : ∀ b, (X b ∧ rowOf (.slice A n c) ≠ some b) → b < wr.heap.size → (X b ∧ rowOf (.slice A8 n8 c8) ≠ some b) ∧ w8.heap[b]? = wr.heap[b]? := fun b hb hl =>
    ⟨⟨hb.1, fun q => (f8 b q).elim (fun q => hb.2 q) (fun q => by omega)⟩, (g8.block b (by omega) (fun q => hb.2 q.symm)).trans (e.block b hl)⟩
  have new : ∀ b, wr.heap.size ≤ b → b < wx.heap.size → (X b ∧ rowOf (.slice A8 n8 c8) ≠ some b) ∧ w8.heap[b]? = wx.heap[b]? := fun b hb hl => by
    have hne : rowOf (.slice A n c) ≠ some b := fun q => by have := rowOf_bd O b q; omega
    exact ⟨⟨hX b hb, fun q => (f8 b q).elim hne (fun q => by omega)⟩, g8.block b hl (fun q => hne q.symm)⟩
  exact ⟨x8, _, o8, (hN.map old).snoc (r1.map new) (r2.map new)⟩
/-- A block outside is stored to. -/
theorem NdO.poke (h : NdO w wr (fun b => b ≠ rb) A n c ts) (hr : rowOf (.slice A n c) ≠ some rb) (hg : w.heap.size ≤ rb) (i : Nat) (v : Value) : NdO w (wr.setCell ⟨rb, i, none⟩ v) (fun b => b ≠ rb) A n c ts := by
  obtain ⟨xs, O, hx⟩ := h.own
  exact ⟨h.ext.setCell (p := ⟨rb, i, none⟩) hg _, xs, O.grown (Gb.set rb i wr v) (.inr hr), hx.map fun b hb _ => ⟨hb, setCell_block hb.1⟩⟩
/-- The object under way: block rb holds it. -/
structure BdI (w : World) (rb : Nat) (wr : World) (A : Option Addr) (n c : Nat) (ts : List Nd) : Prop where
  nd : NdO w wr (fun b => b ≠ rb) A n c ts
  ge : w.heap.size ≤ rb
  blk : C3 wr rb (.int .i64 49) (.slice none 0 0) (.slice A n c)
  row : rowOf (.slice A n c) ≠ some rb
theorem BdI.app {xs : List Value} {t : Nd} {A1 A2 : Option Addr} {n1 c1 n2 c2 : Nat} (h : BdI w rb wr A n c ts) (O : OwnK wr w.heap.size 94 3 (.slice A n c) xs) (hN : NdCells (fun b => b ≠ rb ∧ rowOf (.slice A n c) ≠ some b) 2 wr xs ts) (e : Ext wr wx)
    (hu : NdG wr.heap.size 2 t (.agg #[.int .i64 t.tag, .slice A1 n1 c1, .slice A2 n2 c2]) wx)
    (o8 : OwnK w8 w.heap.size 94 3 (.slice A8 n8 c8) (xs ++ [.int .i64 t.tag, .slice A1 n1 c1, .slice A2 n2 c2])) (x8 : Ext w w8) (g8 : wx.grownBy w8 (rowOf (.slice A n c))) (f8 : ∀ r, rowOf (.slice A8 n8 c8) = some r → rowOf (.slice A n c) = some r ∨ wx.heap.size ≤ r) :
    w8.cell? ⟨rb, 2, none⟩ = some (.slice A n c) ∧ w8.frozen? ⟨rb, 2, none⟩ = false ∧ rb < w8.heap.size ∧ BdI w rb (w8.setCell ⟨rb, 2, none⟩ (.slice A8 n8 c8)) A8 n8 c8 (ts ++ [t]) := by
  have hl := h.blk.lt
  have hs := e.size
  have hC : C3 w8 rb (.int .i64 49) (.slice none 0 0) (.slice A n c) := (g8.block rb (by omega) (fun q => h.row q.symm)).trans (h.blk.ex e)
  have hr : rowOf (.slice A8 n8 c8) ≠ some rb := fun q => (f8 rb q).elim h.row (fun q => by omega)
  exact ⟨hC.cells.2.2.1, hC.cells.2.2.2.2.2, hC.lt, (ndo_app O hN e hu (fun b hb => by omega) o8 x8 g8 f8).poke hr h.ge 2 _, h.ge, hC.set2 _, hr⟩
end
theorem wide1_3 (x : Int) : wideB 3 [x] = be3 x := by show beN 3 x ++ [] = _; rw [List.append_nil, beN_3]
/-- New objects without room behind them, none of them in their row. -/
def NdF2 (B : Nat) (ts : List Nd) : VPred := fun v w => ∃ (g : Nat) (cs : Array Value), v = .slice (some ⟨g, 0, none⟩) ts.length ts.length ∧ B ≤ g ∧ w.heap[g]? = some (.cells cs 94 (0, 0)) ∧ NdCells (fun b => B ≤ b ∧ b ≠ g) 2 w cs.toList ts
theorem stable_NdF2 (B : Nat) (ts : List Nd) : StableP (NdF2 B ts) := fun v w w' e ⟨g, cs, h1, h2, h3, h4⟩ => ⟨g, cs, h1, h2, (e.block g (block_lt h3)).trans h3, h4.map fun b hb hlt => ⟨hb, e.block b hlt⟩⟩
theorem run_nodesG3 {B : Nat} (W : World) (hB : B ≤ W.heap.size) {v0 v1 v2 : Value} {t0 t1 t2 : Nd} (h0 : NdG B 2 t0 v0 W) (h1 : NdG B 2 t1 v1 W) (h2 : NdG B 2 t2 v2 W) : ∃ v' w'', (Instr.buildSlice 92 3 [(0, v0), (1, v1), (2, v2)].toArray).run Tryz.prog W = .ok v' w'' ∧ Ext W w'' ∧ NdF2 B [t0, t1, t2] v' w'' := by
  obtain ⟨a0, n0, c0, b0, m0, d0, rfl, r0, k0⟩ := h0
  obtain ⟨a1, n1, c1, b1, m1, d1, rfl, r1, k1⟩ := h1
  obtain ⟨a2, n2, c2, b2, m2, d2, rfl, r2, k2⟩ := h2
  have e : Ext W (W.alloc (.cells #[.int .i64 t0.tag, .slice a0 n0 c0, .slice b0 m0 d0, .int .i64 t1.tag, .slice a1 n1 c1, .slice b1 m1 d1, .int .i64 t2.tag, .slice a2 n2 c2, .slice b2 m2 d2] 94)) := (Below.refl _ _).alloc (Nat.le_refl _) _
  exact ⟨_, _, run_bs3 W t0.tag a0 b0 n0 c0 m0 d0 t1.tag a1 b1 n1 c1 m1 d1 t2.tag a2 b2 n2 c2 m2 d2, e, _, _, rfl, hB, heap_alloc_new' W _, ((((NdCells.nil _ 2 W).snoc r0 k0).snoc r1 k1).snoc r2 k2).map fun b hb hlt => ⟨⟨hb, by omega⟩, e.block b hlt⟩⟩
/-- .. held by a new object. -/
def NdH (B : Nat) (ts : List Nd) : VPred := fun v w => ∃ u, v = .agg #[.int .i64 49, .slice none 0 0, u] ∧ NdF2 B ts u w
theorem stable_NdH (B : Nat) (ts : List Nd) : StableP (NdH B ts) := fun v w w' e ⟨u, h1, h2⟩ => ⟨u, h1, stable_NdF2 _ _ _ _ _ e h2⟩
theorem run_ndh {B : Nat} (W : World) {v : Value} {ts : List Nd} (h : NdF2 B ts v W) : ∃ v' w'', (Instr.build 94 [(0, .int .i64 49), (2, v)].toArray).run Tryz.prog W = .ok v' w'' ∧ Ext W w'' ∧ NdH B ts v' w'' := by
  obtain ⟨g, cs, rfl, h⟩ := h
  exact ⟨_, _, run_buildNd2 W 49 _ _ _, Below.refl _ _, _, rfl, g, cs, rfl, h⟩
theorem NdF.own {B : Nat} {ts : List Nd} {g : Nat} {cs : Array Value} {w : World} (hb : B ≤ g) (hg : w.heap[g]? = some (.cells cs 94 (0, 0))) (hl : cs.toList.length = ts.length * 3) (ht : ts.length ≤ 1000) : OwnK w B 94 3 (.slice (some ⟨g, 0, none⟩) ts.length ts.length) cs.toList := by
  exact ⟨_, _, _, rfl, hl.symm, .inr ⟨g, cs, rfl, hb, hg, Nat.le_refl _, by unfold maxLen; omega, by rw [← Array.length_toList]; exact hl, by rw [← hl]; exact List.take_length⟩⟩
theorem run_nodesF1 {B d : Nat} (W : World) (hB : B ≤ W.heap.size) {v0 : Value} {t0 : Nd} (h0 : NdG B d t0 v0 W) : ∃ v' w'', (Instr.buildSlice 92 1 [(0, v0)].toArray).run Tryz.prog W = .ok v' w'' ∧ Ext W w'' ∧ NdF B d [t0] v' w'' := by
  obtain ⟨a0, n0, c0, b0, m0, d0, rfl, r0, k0⟩ := h0
  have e : Ext W (W.alloc (.cells #[.int .i64 t0.tag, .slice a0 n0 c0, .slice b0 m0 d0] 94)) := (Below.refl _ _).alloc (Nat.le_refl _) _
  exact ⟨_, _, (by go_simp : (Instr.buildSlice 92 1 [(0, .agg #[.int .i64 t0.tag, .slice a0 n0 c0, .slice b0 m0 d0])].toArray).run Tryz.prog W = .ok (.slice (some ⟨W.heap.size, 0, none⟩) 1 1) (W.alloc (.cells #[.int .i64 t0.tag, .slice a0 n0 c0, .slice b0 m0 d0] 94))), e, _, _, rfl, hB, heap_alloc_new' W _, ((NdCells.nil _ d W).snoc r0 k0).map fun b hb hlt => ⟨hb, e.block b hlt⟩⟩
/-- A new block of an object. -/
def GC3 (B : Nat) : VPred := fun v w => ∃ g, v = .pointer (some ⟨g, 0, none⟩) ∧ B ≤ g ∧ C3 w g (.int .i64 0) (.slice none 0 0) (.slice none 0 0)
theorem stable_GC3 (B : Nat) : StableP (GC3 B) := fun v w w' e ⟨g, h1, h2, h3⟩ => ⟨g, h1, h2, h3.ex e⟩
theorem run_allocN3 (W : World) : (Instr.alloc 94 true (.tuple #[])).run Tryz.prog W = .ok (.pointer (some ⟨W.heap.size, 0, none⟩)) (W.alloc (.cells #[.int .i64 0, .slice none 0 0, .slice none 0 0] 94)) := by go_simp
section
open Go.Proofs.YtmmoenkmicimcaaGreatDoor.Gd (GRun)
variable {ops : Array Oper} {Q : Exit → Act → World → Prop} {w0 : World} {R : Act → World → Prop}
theorem Gd.wpX_allocN3 {o : Oper} {rest : List Oper} {a : Act} {hs : List (Nat × VPred)} {d : Nat} (B : Nat) (hB : ∀ m : Lt w0, B ≤ m.1.heap.size) (hg : GRun ops o a hs)
    (hd : o.dst = some d) (hz : Nat.blt d a.tmps.size = true) (ho : o.op = .alloc 94) (hin : (opTmps o).all (fun t => Nat.blt t a.tmps.size) = true)
    (hr : Gt.wpX Gd.exR Tryz.prog ops Q w0 R [] rest (a.put (some d) undef) ((d, GC3 B) :: hs)) : Gt.wpX Gd.exR Tryz.prog ops Q w0 R [] (o :: rest) a hs :=
  Gd.wpX_newL hg (GC3 B) (stable_GC3 B) (fun _ => Instr.alloc 94 true (.tuple #[])) hd hz (by unfold notSelect; rw [ho]) hin (fun f => by unfold execOp; simp only [ho])
    (fun m f hf => ⟨_, _, run_allocN3 m.1, (Below.refl _ _).alloc (Nat.le_refl _) _, _, rfl, hB m, C3.new _ _ _ _⟩) hr
end
theorem nds_leaf {S S' : Nat → Prop} {w w' : World} {v : Value} (h : NdsS S 2 w v []) : NdsS S' 2 w' v [] := by
  obtain ⟨A, n, c, h1, h2, h3, h4, _⟩ := h
  exact ⟨A, n, c, h1, h2, h3, h4, fun h0 => by rw [h2] at h0; cases h0⟩
/-- Leaves do not lie where an object lies. -/
theorem leaves_avoid {S : Nat → Prop} {w : World} {xs : List Value} {ts : List Nd} {yb : Nat} {z : Int} {A B : Option Addr} {n c n' c' : Nat} (h : NdCells S 2 w xs ts) (hk : ∀ t ∈ ts, t.kids = []) (hy : C3 w yb (.int .i64 z) (.slice A n c) (.slice B n' c')) : NdCells (fun b => S b ∧ b ≠ yb) 2 w xs ts :=
  ⟨h.1, fun i t ht => by
    obtain ⟨A1, n1, c1, A2, n2, c2, e0, e1, e2, r1, r2⟩ := h.2 i t ht
    have hk := hk t (List.mem_of_getElem? ht)
    rw [hk] at r2
    exact ⟨A1, n1, c1, A2, n2, c2, e0, e1, e2, r1.avoid hy (fun b hb _ hne => ⟨hb, hne⟩), by rw [hk]; exact nds_leaf r2⟩⟩
/-- New objects in a new row. -/
def GNdO (B : Nat) (ts : List Nd) : VPred := fun v w => ∃ A n c xs, v = .slice A n c ∧ OwnK w B 94 3 (.slice A n c) xs ∧ NdCells (fun b => True ∧ rowOf (.slice A n c) ≠ some b) 2 w xs ts
theorem stable_GNdO (B : Nat) (ts : List Nd) : StableP (GNdO B ts) := fun v w w' e ⟨A, n, c, xs, h1, h2, h3⟩ => ⟨A, n, c, xs, h1, h2.ext e, h3.map fun b hb hl => ⟨hb, e.block b hl⟩⟩
theorem run_appNdsO {B : Nat} {W : World} {ty : TypeId} {v src : Value} {ts us : List Nd} (hB : B ≤ W.heap.size) (hx : NdF B 2 ts v W) (hy : NdF B 2 us src W) (h2 : 0 < us.length) (hs : ts.length + us.length ≤ 1000) :
    ∃ v' w'', (Builtin.append_ #[92, 92] ty #[v, src]).run Tryz.prog W = .ok v' w'' ∧ Ext W w'' ∧ GNdO B (ts ++ us) v' w'' := by
  obtain ⟨i, z, ht, hi, hz, hsz, hby, hzs⟩ := elemNd
  obtain ⟨g, cs, rfl, hg, hb, hc⟩ := hx
  obtain ⟨g2, cs2, rfl, hg2, hb2, hc2⟩ := hy
  obtain ⟨v', w', k1, k2, k3⟩ := run_append_arg_grows (P := Tryz.prog) W 92 ty 94 i z 3 56 ht hi hz hsz hby hzs (by decide) ⟨g, 0, none⟩ ts.length ts.length cs.toList hc.1 (fun j u hu => by rw [Addr.add_lit, Nat.zero_add, cell_of_row W g j cs _ (0, 0) hb]; simpa using hu) ⟨g2, 0, none⟩ us.length us.length cs2.toList hc2.1 (fun j u hu => by rw [Addr.add_lit, Nat.zero_add, cell_of_row W g2 j cs2 _ (0, 0) hb2]; simpa using hu) (by omega) (by unfold maxLen; omega) (by omega)
  have e : Ext W w' := ⟨k3.os, k3.tape, k3.output, k3.size, fun k hk => k3.block k hk (by simp)⟩
  have O := ownsRow_ownK (by decide) k2
  obtain ⟨A', n', c', rfl, _⟩ := id O
  exact ⟨_, w', k1, e, A', n', c', _, rfl, O.mono hB, (hc.append hc2).map fun b hb hlt => ⟨⟨trivial, fun q => by have := rowOf_geK O b q; omega⟩, e.block b hlt⟩⟩
end Go.Proofs.YtmmoenkmicimcaaGreatDoor
namespace Go.Proofs.YtmmoenkmicimcaaGreatDoor
open Go.RowKit
set_option linter.unusedVariables false
set_option maxRecDepth 100000
theorem take_snocDf {l : List DF} {y : DF} {k : Nat} (h : l[k]? = some y) : l.take (k + 1) = l.take k ++ [y] := by
  rw [List.take_add_one, h]
  rfl
/-- The objects of a list's body, with the first k entries. -/
def kidsD (a : DV) (k : Nat) : List Nd := [leafN 19 a.st, leafN 130 (be4 a.num), leafN 134 (be3 a.day)] ++ (a.defs.take k).map dfN
theorem kidsD_zero (a : DV) : kidsD a 0 = [leafN 19 a.st, leafN 130 (be4 a.num), leafN 134 (be3 a.day)] := by simp [kidsD]
theorem kidsD_succ (a : DV) {k : Nat} {c : DF} (h : a.defs[k]? = some c) : kidsD a (k + 1) = kidsD a k ++ [dfN c] := by
  unfold kidsD
  rw [take_snocDf h, List.map_append, List.append_assoc]
  rfl
theorem kidsD_len (a : DV) {k : Nat} (h : k ≤ a.defs.length) : (kidsD a k).length = k + 3 := by
  simp [kidsD, Nat.min_eq_left h]
theorem kidsD_all (a : DV) : Nd.mk 49 [] (kidsD a a.defs.length) = bodyDN a := by
  unfold kidsD bodyDN
  rw [List.take_length]
  rfl
/-- A new row with one new object in it. -/
def GN1 (B : Nat) (t : Nd) : VPred := fun v w => ∃ (g : Nat) (A1 : Option Addr) (n1 c1 : Nat) (A2 : Option Addr) (n2 c2 : Nat), v = .slice (some ⟨g, 0, none⟩) 1 1 ∧ B ≤ g ∧ w.heap[g]? = some (.cells #[.int .i64 t.tag, .slice A1 n1 c1, .slice A2 n2 c2] 94 (0, 0)) ∧ NdG B 2 t (.agg #[.int .i64 t.tag, .slice A1 n1 c1, .slice A2 n2 c2]) w
theorem stable_GN1 (B : Nat) (t : Nd) : StableP (GN1 B t) := fun v w w' e ⟨g, A1, n1, c1, A2, n2, c2, h1, h2, h3, h4⟩ => ⟨g, A1, n1, c1, A2, n2, c2, h1, h2, (e.block g (block_lt h3)).trans h3, stable_NdG _ _ _ _ _ _ e h4⟩
theorem run_gn1 {B : Nat} (W : World) (hB : B ≤ W.heap.size) {v : Value} {t : Nd} (h : NdG B 2 t v W) : ∃ v' w'', (Instr.buildSlice 92 1 [(0, v)].toArray).run Tryz.prog W = .ok v' w'' ∧ Ext W w'' ∧ GN1 B t v' w'' := by
  obtain ⟨A1, n1, c1, A2, n2, c2, rfl, r, k⟩ := id h
  have e : Ext W (W.alloc (.cells #[.int .i64 t.tag, .slice A1 n1 c1, .slice A2 n2 c2] 94)) := (Below.refl _ _).alloc (Nat.le_refl _) _
  exact ⟨_, _, run_bs1 W t.tag A1 A2 n1 c1 n2 c2, e, W.heap.size, A1, n1, c1, A2, n2, c2, rfl, hB, heap_alloc_new' W _, stable_NdG _ _ _ _ _ _ e h⟩
theorem GN1.rdk {g : Nat} {t : Nd} {A1 A2 : Option Addr} {n1 c1 n2 c2 : Nat} {w : World} (h : w.heap[g]? = some (.cells #[.int .i64 t.tag, .slice A1 n1 c1, .slice A2 n2 c2] 94 (0, 0))) : RdK w 3 (.slice (some ⟨g, 0, none⟩) 1 1) [.int .i64 t.tag, .slice A1 n1 c1, .slice A2 n2 c2] :=
  ⟨_, 1, 1, rfl, rfl, Nat.le_refl _, by unfold maxLen; omega, fun _ => ⟨g, 0, rfl, fun j x hx => by
    rw [Nat.zero_add, cell_of_row w g j _ _ _ h]
    simpa using hx⟩⟩
set_option maxHeartbeats 1000000 in
theorem run_bs4 (W : World) (z0 : Int) (a0 b0 : Option Addr) (n0 c0 m0 d0 : Nat) (z1 : Int) (a1 b1 : Option Addr) (n1 c1 m1 d1 : Nat) (z2 : Int) (a2 b2 : Option Addr) (n2 c2 m2 d2 : Nat) (z3 : Int) (a3 b3 : Option Addr) (n3 c3 m3 d3 : Nat) : (Instr.buildSlice 92 4 [(0, .agg #[.int .i64 z0, .slice a0 n0 c0, .slice b0 m0 d0]), (1, .agg #[.int .i64 z1, .slice a1 n1 c1, .slice b1 m1 d1]), (2, .agg #[.int .i64 z2, .slice a2 n2 c2, .slice b2 m2 d2]), (3, .agg #[.int .i64 z3, .slice a3 n3 c3, .slice b3 m3 d3])].toArray).run Tryz.prog W = .ok (.slice (some ⟨W.heap.size, 0, none⟩) 4 4) (W.alloc (.cells #[.int .i64 z0, .slice a0 n0 c0, .slice b0 m0 d0, .int .i64 z1, .slice a1 n1 c1, .slice b1 m1 d1, .int .i64 z2, .slice a2 n2 c2, .slice b2 m2 d2, .int .i64 z3, .slice a3 n3 c3, .slice b3 m3 d3] 94)) := by go_simp
theorem run_nodes4 {B d : Nat} (W : World) (hB : B ≤ W.heap.size) {v0 v1 v2 v3 : Value} {t0 t1 t2 t3 : Nd} (h0 : NdG B d t0 v0 W) (h1 : NdG B d t1 v1 W) (h2 : NdG B d t2 v2 W) (h3 : NdG B d t3 v3 W) : ∃ v' w'', (Instr.buildSlice 92 4 [(0, v0), (1, v1), (2, v2), (3, v3)].toArray).run Tryz.prog W = .ok v' w'' ∧ Ext W w'' ∧ NdsG B (d + 1) [t0, t1, t2, t3] v' w'' := by
  obtain ⟨a0, n0, c0, b0, m0, d0, rfl, r0, k0⟩ := h0
  obtain ⟨a1, n1, c1, b1, m1, d1, rfl, r1, k1⟩ := h1
  obtain ⟨a2, n2, c2, b2, m2, d2, rfl, r2, k2⟩ := h2
  obtain ⟨a3, n3, c3, b3, m3, d3, rfl, r3, k3⟩ := h3
  exact ⟨_, _, run_bs4 W t0.tag a0 b0 n0 c0 m0 d0 t1.tag a1 b1 n1 c1 m1 d1 t2.tag a2 b2 n2 c2 m2 d2 t3.tag a3 b3 n3 c3 m3 d3, (Below.refl _ _).alloc (Nat.le_refl _) _, ndsS_lit [.int .i64 t0.tag, .slice a0 n0 c0, .slice b0 m0 d0, .int .i64 t1.tag, .slice a1 n1 c1, .slice b1 m1 d1, .int .i64 t2.tag, .slice a2 n2 c2, .slice b2 m2 d2, .int .i64 t3.tag, .slice a3 n3 c3, .slice b3 m3 d3] [t0, t1, t2, t3] 4 rfl (by omega) (((((NdCells.nil _ d W).snoc r0 k0).snoc r1 k1).snoc r2 k2).snoc r3 k3) hB⟩
set_option maxHeartbeats 16000000 in
theorem dbody_any (a : DV) (v : Value) (w : World) (hv : RdD w v a.defs) (hs : smD a.defs) (hg : smN a.sg) (ht : a.st.length ≤ maxLen) : Calls Tryz.prog 18 #[dvV a v] w (RetRE w (byD a) (ckD a)) := by
  obtain ⟨wz, hwz, ez, TZ⟩ := dv_alloc w a v
  have HC := Lib.hid (fun W (e : Ext w W) => dcheck_any a v W (RdK.ext hv e) hs hg ht)
  obtain ⟨A, n, cp, rfl, hn, hnc, hcm, hel⟩ := RdD.at_ hv
  subst hn
  have HEL := Lib.hid hel
  unfold maxLen at hcm
  have EZ := Lib.hid ez
  have HZ := Lib.hid TZ
  clear hv hs hg ht hel ez TZ
  unfold dvV dvCells
  go_enter Tryz.func18, Tryz.ntmps18
  go_upto_region 1 with fail
  rw [← hwz]
  clear hwz
  have HROW := Lib.hid HZ.out.row
  go_wp2_with (refine wpList_load_row rfl 41 _ rfl w.heap.size rfl 41 (dvCells a (.slice A a.defs.length cp)).toArray (0, 0) _ HROW.out Tryz.underlying41 rfl info_dv ?_)
  refine (HC.out wz EZ.out).mono ?_
  rintro e ww ⟨rfl, b1⟩
  have X1 := Lib.hid (EZ.out.tr b1)
  have T1 := Lib.hid (HZ.out.ext b1)
  clear b1 HZ EZ HROW HC
  by_cases hc : ckD a = 0
  case neg =>
    have hb : (ckD a != 0) = true := by simpa using hc
    have HB := Lib.hid (show byD a = [] from if_neg hc)
    clear hc
    go_wp2_with fail
    go_ret2
    rw [HB.out]
    exact ⟨_, _, _, rfl, (show _ = _ from rfl), Rd.nil_ _, X1.out⟩
  have HK := Lib.hid hc
  have HB := Lib.hid (show byD a = bodyDB a from if_pos hc)
  obtain ⟨hst, ⟨num0, num1⟩, ⟨day0, day1⟩, h32, hdf, _⟩ := ckD_ok hc
  have sa : a.st.length ≤ 4096 := by have := hst.1.2; omega
  have HALL := Lib.hid (fun c hc => dfE_ok (dfsE_ok hdf c hc))
  have HSG := Lib.hid (fun c hc => dfE_sgn (dfsE_ok hdf c hc))
  rw [hc]
  clear hc hst hdf
  go_upto_region 4 with fail
  refine Gd.wp_region_X 17 (by kernel_rfl) (by kernel_rfl) ?_
  simp only [List.take_succ_cons, List.take_zero, List.drop_succ_cons, List.drop_zero]
  intro wq hw1
  have LL : ∀ m : Lt wq, Ext ww m.1 := fun m => hw1.tr m.2
  have BB : ∀ m : Lt wq, ww.heap.size ≤ m.1.heap.size := fun m => (LL m).size
  have v0 : ∀ m : Lt wq, m.1.cell? ⟨w.heap.size, 0, none⟩ = some (.string (bstr a.st)) := fun m => (T1.out.ext (LL m)).c0
  have v1 : ∀ m : Lt wq, m.1.cell? ⟨w.heap.size, 1, none⟩ = some (.int .i64 a.num) := fun m => (T1.out.ext (LL m)).c1
  have v2 : ∀ m : Lt wq, m.1.cell? ⟨w.heap.size, 2, none⟩ = some (.int .i64 a.day) := fun m => (T1.out.ext (LL m)).c2
  have vl : ∀ m : Lt wq, w.heap.size < m.1.heap.size := fun m => (T1.out.ext (LL m)).lt
  repeat (refine Gd.wpX_pureP rfl fun K hK => ?_; go_big_quiet_op; refine hK _ ?_; clear hK K)
  refine Gd.wpX_convL (Gd.gR rfl) (GS ww.heap.size a.st) (stable_GS _ _) (fun _ => .string (bstr a.st)) rfl rfl rfl rfl rfl (fun _ => rfl) (fun m f hf => gs_str m.1 (BB m) a.st sa) ?_
  simp only [Act.put, List.setIfInBounds_toArray, List.set_cons_zero, List.set_cons_succ]
  refine Gd.wpX_buildL (Gd.gR rfl) (NdG ww.heap.size 2 (leafN 19 a.st)) (stable_NdG _ _ _) (fun f => [(0, .int .i64 19), (1, f 15)]) rfl rfl rfl rfl rfl (fun f => rfl) (fun m f hf => run_leaf m.1 19 (hf 15 _ rfl rfl)) ?_
  simp only [Act.put, List.setIfInBounds_toArray, List.set_cons_zero, List.set_cons_succ]
  repeat (refine Gd.wpX_pureP rfl fun K hK => ?_; go_big_quiet_op; refine hK _ ?_; clear hK K)
  refine Gd.wpX_buildSL (Gd.gR rfl) (GI [a.num]) (stable_GI _) (fun _ => [(0, .int .i64 a.num)]) rfl rfl rfl rfl rfl (fun _ => rfl) (fun m f hf => ⟨_, _, (by go_simp : (Instr.buildSlice 22 1 [(0, .int .i64 a.num)].toArray).run Tryz.prog m.1 = .ok (.slice (some ⟨m.1.heap.size, 0, none⟩) 1 1) (m.1.alloc (.cells #[.int .i64 a.num] 3))), (Below.refl _ _).alloc (Nat.le_refl _) _, gi_lit m.1 #[.int .i64 a.num] [a.num] 1 rfl (by omega) rfl⟩) ?_
  simp only [Act.put, List.setIfInBounds_toArray, List.set_cons_zero, List.set_cons_succ]
  refine Gd.wpX_callF (Gd.gR rfl) (GS ww.heap.size (be4 a.num)) (stable_GS _ _) (fun f => [.int .i64 4, f 19]) rfl rfl rfl rfl rfl (by kernel_rfl) rfl (fun f => rfl) (fun m f hf => (wide_any 4 m.1 (hf 19 _ rfl rfl) (by omega) (by simp)).mono fun _ _ h => (wide1_4 a.num ▸ h : RetB _ _ _ _).gs (BB m)) ?_
  simp only [Act.put, List.setIfInBounds_toArray, List.set_cons_zero, List.set_cons_succ]
  refine Gd.wpX_buildL (Gd.gR rfl) (NdG ww.heap.size 2 (leafN 130 (be4 a.num))) (stable_NdG _ _ _) (fun f => [(0, .int .i64 130), (1, f 20)]) rfl rfl rfl rfl rfl (fun f => rfl) (fun m f hf => run_leaf m.1 130 (hf 20 _ rfl rfl)) ?_
  simp only [Act.put, List.setIfInBounds_toArray, List.set_cons_zero, List.set_cons_succ]
  repeat (refine Gd.wpX_pureP rfl fun K hK => ?_; go_big_quiet_op; refine hK _ ?_; clear hK K)
  refine Gd.wpX_buildSL (Gd.gR rfl) (GI [a.day]) (stable_GI _) (fun _ => [(0, .int .i64 a.day)]) rfl rfl rfl rfl rfl (fun _ => rfl) (fun m f hf => ⟨_, _, (by go_simp : (Instr.buildSlice 22 1 [(0, .int .i64 a.day)].toArray).run Tryz.prog m.1 = .ok (.slice (some ⟨m.1.heap.size, 0, none⟩) 1 1) (m.1.alloc (.cells #[.int .i64 a.day] 3))), (Below.refl _ _).alloc (Nat.le_refl _) _, gi_lit m.1 #[.int .i64 a.day] [a.day] 1 rfl (by omega) rfl⟩) ?_
  simp only [Act.put, List.setIfInBounds_toArray, List.set_cons_zero, List.set_cons_succ]
  refine Gd.wpX_callF (Gd.gR rfl) (GS ww.heap.size (be3 a.day)) (stable_GS _ _) (fun f => [.int .i64 3, f 24]) rfl rfl rfl rfl rfl (by kernel_rfl) rfl (fun f => rfl) (fun m f hf => (wide_any 3 m.1 (hf 24 _ rfl rfl) (by omega) (by simp)).mono fun _ _ h => (wide1_3 a.day ▸ h : RetB _ _ _ _).gs (BB m)) ?_
  simp only [Act.put, List.setIfInBounds_toArray, List.set_cons_zero, List.set_cons_succ]
  refine Gd.wpX_buildL (Gd.gR rfl) (NdG ww.heap.size 2 (leafN 134 (be3 a.day))) (stable_NdG _ _ _) (fun f => [(0, .int .i64 134), (1, f 25)]) rfl rfl rfl rfl rfl (fun f => rfl) (fun m f hf => run_leaf m.1 134 (hf 25 _ rfl rfl)) ?_
  simp only [Act.put, List.setIfInBounds_toArray, List.set_cons_zero, List.set_cons_succ]
  refine Gd.wpX_buildSL (Gd.gR rfl) (NdF2 ww.heap.size [leafN 19 a.st, leafN 130 (be4 a.num), leafN 134 (be3 a.day)]) (stable_NdF2 _ _) (fun f => [(0, f 16), (1, f 21), (2, f 26)]) rfl rfl rfl rfl rfl (fun f => rfl) (fun m f hf => run_nodesG3 m.1 (BB m) (hf 16 _ rfl rfl) (hf 21 _ rfl rfl) (hf 26 _ rfl rfl)) ?_
  simp only [Act.put, List.setIfInBounds_toArray, List.set_cons_zero, List.set_cons_succ]
  refine Gd.wpX_buildL (Gd.gR rfl) (NdH ww.heap.size [leafN 19 a.st, leafN 130 (be4 a.num), leafN 134 (be3 a.day)]) (stable_NdH _ _) (fun f => [(0, .int .i64 49), (2, f 27)]) rfl rfl rfl rfl rfl (fun f => rfl) (fun m f hf => run_ndh m.1 (hf 27 _ rfl rfl)) ?_
  simp only [Act.put, List.setIfInBounds_toArray, List.set_cons_zero, List.set_cons_succ]
  refine Gd.wpX_allocN3 ww.heap.size BB (Gd.gR rfl) rfl rfl rfl rfl ?_
  simp only [Act.put, List.setIfInBounds_toArray, List.set_cons_zero, List.set_cons_succ]
  refine Gd.wpX_endL (fun m f hf => ?_)
  obtain ⟨u, e28, g, cs, e27, hBg, hgb, hcl⟩ := hf 28 (NdH ww.heap.size [leafN 19 a.st, leafN 130 (be4 a.num), leafN 134 (be3 a.day)]) rfl
  obtain ⟨rb, e5, hBr, hC⟩ := hf 5 (GC3 ww.heap.size) rfl
  obtain rfl : u = .slice (some ⟨g, 0, none⟩) 3 3 := e27
  simp only [fillH]
  simp only [Act.put, List.setIfInBounds_toArray, List.set_cons_zero, List.set_cons_succ]
  rw [e28, e5]
  have LM := Lib.hid (LL m)
  have BM := Lib.hid (BB m)
  have HCL := Lib.hid hcl
  have HGB := Lib.hid hgb
  have HBG := Lib.hid hBg
  have HBR := Lib.hid hBr
  have HC := Lib.hid hC
  clear hf e28 e5 hw1 LL BB v0 v1 v2 vl hcl hgb hBg hBr hC
  generalize m.1 = w2 at *
  generalize f 15 = f15 at *
  generalize f 16 = f16 at *
  generalize f 19 = f19 at *
  generalize f 20 = f20 at *
  generalize f 21 = f21 at *
  generalize f 24 = f24 at *
  generalize f 25 = f25 at *
  generalize f 26 = f26 at *
  generalize f 27 = f27 at *
  clear m f
  show wpList _ _ _ _ _ _
  obtain ⟨wn, hwn⟩ : ∃ wn, wn = ((w2.setCell ⟨rb, 0, none⟩ (.int .i64 49)).setCell ⟨rb, 1, none⟩ (.slice none 0 0)).setCell ⟨rb, 2, none⟩ (.slice (some ⟨g, 0, none⟩) 3 3) := ⟨_, rfl⟩
  have hgr : g ≠ rb := fun q => by
    subst q
    have h1 := HGB.out.symm.trans HC.out
    injection h1 with h1
    injection h1 with h1
    have h2 := HCL.out.1
    rw [h1] at h2
    simp at h2
  have hX2 : Ext ww wn := by rw [hwn]; exact ext_set3 LM.out HBR.out _ _ _
  have HI : Hid (BdI ww rb wn (some ⟨g, 0, none⟩) 3 3 (kidsD a 0)) := Lib.hid (by
    have hs : ∀ b, b ≠ rb → wn.heap[b]? = w2.heap[b]? := fun b hb => by rw [hwn]; exact set3_block hb
    have O := NdF.own HBG.out ((hs g hgr).trans HGB.out) HCL.out.1 (by simp)
    have hrow : rowOf (.slice (some ⟨g, 0, none⟩) 3 3) ≠ some rb := fun q => hgr (by have q : some g = some rb := q; injection q)
    have hc2 := leaves_avoid HCL.out (by intro t ht; simp only [List.mem_cons, List.not_mem_nil, or_false] at ht; rcases ht with rfl | rfl | rfl <;> rfl) HC.out
    exact ⟨⟨hX2, _, O, by rw [kidsD_zero]; exact hc2.map fun b hb hl => ⟨⟨hb.2, fun q => hb.1.2 (by have q : some g = some b := q; injection q with q; exact q.symm)⟩, hs b hb.2⟩⟩, HBR.out, by rw [hwn]; exact HC.out.set3 _ _ _, hrow⟩)
  obtain ⟨y0, y1, y2, yf0, yf1, yf2⟩ := HC.out.cells
  have hlb := HC.out.lt
  have T2 := Lib.hid (T1.out.ext hX2)
  have XW := Lib.hid (X1.out.tr hX2)
  go_upto_region 5 with fail
  rw [← hwn]
  clear y0 y1 y2 yf0 yf1 yf2 hlb hwn hgr hX2 HCL HGB HBG HBR HC BM LM T1
  have c3 := T2.out.c3
  have cl := T2.out.lt
  go_wp2_with fail
  clear c3 cl
  go_loopw [32] (fun s32 wr => ∃ (k : Nat) (A5 : Option Addr) (n5 c5 : Nat), k ≤ a.defs.length ∧ s32 = .int .i64 (k : Int) ∧ Hid (BdI ww rb wr A5 n5 c5 (kidsD a k))) (fun s32 _ => a.defs.length - (intOf s32).toNat)
  case atStart => exact ⟨0, _, _, _, Nat.zero_le _, rfl, HI⟩
  case round =>
    obtain ⟨k, A5, n5, c5, hk, rfl, I⟩ := hrel
    by_cases hlt : k < a.defs.length
    case neg =>
      obtain rfl : k = a.defs.length := by omega
      have HV := Lib.hid (show NdG 0 3 (bodyDN a) (.agg #[.int .i64 (bodyDN a).tag, .slice none 0 0, .slice A5 n5 c5]) wr by rw [← kidsD_all]; exact I.out.nd.nd)
      obtain ⟨y0, y1, y2, yf0, yf1, yf2⟩ := I.out.blk.cells
      have hlb := I.out.blk.lt
      have X9 := Lib.hid (X1.out.tr I.out.nd.ext)
      clear I hlt hk
      go_wp2_with fail
      refine (encode_ok (d := 4) (ts := [bodyDN a]) _ (ok_bodyDN a) (nds_one (t := bodyDN a) rfl HV.out) (by omega) (cnt_bodyDN h32) (bodyDB_4096 HK.out)).mono ?_
      rintro e w9 ⟨A9, n9, c9, rfl, hn9, o9, b9⟩
      go_wp2_with fail
      go_ret2
      rw [HB.out, HK.out]
      exact ⟨_, _, _, rfl, hn9, o9.rd, Ext.tr (X9.out.alloc X9.out.size _) b9⟩
    case pos =>
    have XR := Lib.hid (X1.out.tr I.out.nd.ext)
    obtain ⟨y, hy⟩ : ∃ y, a.defs[k]? = some y := ⟨_, List.getElem?_eq_getElem hlt⟩
    obtain ⟨b, o, rfl, hbl, hc⟩ := HEL.out (by omega)
    have hcy := hc k y hy
    have HY := Lib.hid hy
    clear hy hc
    have wi1 : IntKind.i64.wrap ((k : Int)) = (k : Int) := IntWalk.i64_in _ (by omega)
    have zi1 : (0 : Int) ≤ (k : Int) := by omega
    have li1 : (k : Int) < (a.defs.length : Int) := by omega
    have ti1 : ((k : Int)).toNat = k := by omega
    have wk : IntKind.i64.wrap ((k : Int) + 1) = (k : Int) + 1 := IntWalk.i64_in _ (by omega)
    have q0 := (XR.out.cell (p := ⟨b, o + k * 5, none⟩) hbl).trans hcy.1
    have q1 := (XR.out.cell (p := ⟨b, o + k * 5 + 1, none⟩) hbl).trans hcy.2.1
    have q2 := (XR.out.cell (p := ⟨b, o + k * 5 + 2, none⟩) hbl).trans hcy.2.2.1
    have q3 := (XR.out.cell (p := ⟨b, o + k * 5 + 3, none⟩) hbl).trans hcy.2.2.2.1
    have q4 := (XR.out.cell (p := ⟨b, o + k * 5 + 4, none⟩) hbl).trans hcy.2.2.2.2
    clear hcy
    obtain ⟨wc, hwc, en, TN⟩ := df_alloc wr y
    obtain ⟨⟨⟨_, l20⟩, _⟩, ⟨⟨_, m20⟩, _⟩⟩ := HALL.out y (List.mem_of_getElem? HY.out)
    have yfi : y.fi.length ≤ 4096 := by omega
    have yla : y.la.length ≤ 4096 := by omega
    clear l20 m20
    have hcr := I.out.blk.ex en
    obtain ⟨y0, y1, y2, yf0, yf1, yf2⟩ := hcr.cells
    go_upto_region 8 with fail
    rw [← hwc]
    clear hwc q0 q1 q2 q3 q4 y0 y1 y2 yf0 yf1 yf2
    have EN := Lib.hid en
    have HTN := Lib.hid TN
    have HCR := Lib.hid hcr
    clear en TN hcr
    refine Gd.wp_region_X 26 (by kernel_rfl) (by kernel_rfl) ?_
    simp only [List.take_succ_cons, List.take_zero, List.drop_succ_cons, List.drop_zero]
    intro wq hw1
    have LL : ∀ m : Lt wq, Ext wc m.1 := fun m => hw1.tr m.2
    have BB : ∀ m : Lt wq, wc.heap.size ≤ m.1.heap.size := fun m => (LL m).size
    have t0 : ∀ m : Lt wq, m.1.cell? ⟨wr.heap.size, 0, none⟩ = some (.int .i64 y.kind) := fun m => (HTN.out.ext (LL m)).c0
    have t1 : ∀ m : Lt wq, m.1.cell? ⟨wr.heap.size, 1, none⟩ = some (.int .i64 y.param) := fun m => (HTN.out.ext (LL m)).c1
    have t2 : ∀ m : Lt wq, m.1.cell? ⟨wr.heap.size, 2, none⟩ = some (.int .i64 y.signer) := fun m => (HTN.out.ext (LL m)).c2
    have t3 : ∀ m : Lt wq, m.1.cell? ⟨wr.heap.size, 3, none⟩ = some (.string (bstr y.fi)) := fun m => (HTN.out.ext (LL m)).c3
    have t4 : ∀ m : Lt wq, m.1.cell? ⟨wr.heap.size, 4, none⟩ = some (.string (bstr y.la)) := fun m => (HTN.out.ext (LL m)).c4
    have tl : ∀ m : Lt wq, wr.heap.size < m.1.heap.size := fun m => (HTN.out.ext (LL m)).lt
    have r2 : ∀ m : Lt wq, m.1.cell? ⟨rb, 2, none⟩ = some (.slice A5 n5 c5) := fun m => (HCR.out.ex (LL m)).cells.2.2.1
    have rl : ∀ m : Lt wq, rb < m.1.heap.size := fun m => (HCR.out.ex (LL m)).lt
    repeat (refine Gd.wpX_pureP rfl fun K hK => ?_; go_big_quiet_op; refine hK _ ?_; clear hK K)
    refine Gd.wpX_buildSL (Gd.gR rfl) (GS wc.heap.size [u8 y.kind, u8 y.param]) (stable_GS _ _) (fun _ => [(0, .int .u8 (y.kind % 256)), (1, .int .u8 (y.param % 256))]) rfl rfl rfl rfl rfl (fun _ => rfl) (fun m f hf => ⟨_, _, (by go_simp : (Instr.buildSlice 48 2 [(0, .int .u8 (y.kind % 256)), (1, .int .u8 (y.param % 256))].toArray).run Tryz.prog m.1 = .ok (.slice (some ⟨m.1.heap.size, 0, none⟩) 2 2) (m.1.alloc (.cells #[.int .u8 (y.kind % 256), .int .u8 (y.param % 256)] 5))), (Below.refl _ _).alloc (Nat.le_refl _) _, gs_lit m.1 (BB m) _ [u8 y.kind, u8 y.param] 2 rfl (by omega) (by simp [bvs, bv_u8])⟩) ?_
    simp only [Act.put, List.setIfInBounds_toArray, List.set_cons_zero, List.set_cons_succ]
    refine Gd.wpX_buildL (Gd.gR rfl) (NdG wc.heap.size 1 (leafN 129 [u8 y.kind, u8 y.param])) (stable_NdG _ _ _) (fun f => [(0, .int .i64 129), (1, f 44)]) rfl rfl rfl rfl rfl (fun f => rfl) (fun m f hf => run_leaf m.1 129 (hf 44 _ rfl rfl)) ?_
    simp only [Act.put, List.setIfInBounds_toArray, List.set_cons_zero, List.set_cons_succ]
    repeat (refine Gd.wpX_pureP rfl fun K hK => ?_; go_big_quiet_op; refine hK _ ?_; clear hK K)
    refine Gd.wpX_buildSL (Gd.gR rfl) (GI [y.signer]) (stable_GI _) (fun _ => [(0, .int .i64 y.signer)]) rfl rfl rfl rfl rfl (fun _ => rfl) (fun m f hf => ⟨_, _, (by go_simp : (Instr.buildSlice 22 1 [(0, .int .i64 y.signer)].toArray).run Tryz.prog m.1 = .ok (.slice (some ⟨m.1.heap.size, 0, none⟩) 1 1) (m.1.alloc (.cells #[.int .i64 y.signer] 3))), (Below.refl _ _).alloc (Nat.le_refl _) _, gi_lit m.1 #[.int .i64 y.signer] [y.signer] 1 rfl (by omega) rfl⟩) ?_
    simp only [Act.put, List.setIfInBounds_toArray, List.set_cons_zero, List.set_cons_succ]
    refine Gd.wpX_callF (Gd.gR rfl) (GS wc.heap.size (be4 y.signer)) (stable_GS _ _) (fun f => [.int .i64 4, f 48]) rfl rfl rfl rfl rfl (by kernel_rfl) rfl (fun f => rfl) (fun m f hf => (wide_any 4 m.1 (hf 48 _ rfl rfl) (by omega) (by simp)).mono fun _ _ h => (wide1_4 y.signer ▸ h : RetB _ _ _ _).gs (BB m)) ?_
    simp only [Act.put, List.setIfInBounds_toArray, List.set_cons_zero, List.set_cons_succ]
    refine Gd.wpX_buildL (Gd.gR rfl) (NdG wc.heap.size 1 (leafN 131 (be4 y.signer))) (stable_NdG _ _ _) (fun f => [(0, .int .i64 131), (1, f 49)]) rfl rfl rfl rfl rfl (fun f => rfl) (fun m f hf => run_leaf m.1 131 (hf 49 _ rfl rfl)) ?_
    simp only [Act.put, List.setIfInBounds_toArray, List.set_cons_zero, List.set_cons_succ]
    repeat (refine Gd.wpX_pureP rfl fun K hK => ?_; go_big_quiet_op; refine hK _ ?_; clear hK K)
    refine Gd.wpX_convL (Gd.gR rfl) (GS wc.heap.size y.fi) (stable_GS _ _) (fun _ => .string (bstr y.fi)) rfl rfl rfl rfl rfl (fun _ => rfl) (fun m f hf => gs_str m.1 (BB m) y.fi yfi) ?_
    simp only [Act.put, List.setIfInBounds_toArray, List.set_cons_zero, List.set_cons_succ]
    refine Gd.wpX_buildL (Gd.gR rfl) (NdG wc.heap.size 1 (leafN 132 y.fi)) (stable_NdG _ _ _) (fun f => [(0, .int .i64 132), (1, f 53)]) rfl rfl rfl rfl rfl (fun f => rfl) (fun m f hf => run_leaf m.1 132 (hf 53 _ rfl rfl)) ?_
    simp only [Act.put, List.setIfInBounds_toArray, List.set_cons_zero, List.set_cons_succ]
    repeat (refine Gd.wpX_pureP rfl fun K hK => ?_; go_big_quiet_op; refine hK _ ?_; clear hK K)
    refine Gd.wpX_convL (Gd.gR rfl) (GS wc.heap.size y.la) (stable_GS _ _) (fun _ => .string (bstr y.la)) rfl rfl rfl rfl rfl (fun _ => rfl) (fun m f hf => gs_str m.1 (BB m) y.la yla) ?_
    simp only [Act.put, List.setIfInBounds_toArray, List.set_cons_zero, List.set_cons_succ]
    refine Gd.wpX_buildL (Gd.gR rfl) (NdG wc.heap.size 1 (leafN 133 y.la)) (stable_NdG _ _ _) (fun f => [(0, .int .i64 133), (1, f 57)]) rfl rfl rfl rfl rfl (fun f => rfl) (fun m f hf => run_leaf m.1 133 (hf 57 _ rfl rfl)) ?_
    simp only [Act.put, List.setIfInBounds_toArray, List.set_cons_zero, List.set_cons_succ]
    refine Gd.wpX_buildSL (Gd.gR rfl) (NdsG wc.heap.size 2 (dfN y).kids) (stable_NdsG _ _ _) (fun f => [(0, f 45), (1, f 50), (2, f 54), (3, f 58)]) rfl rfl rfl rfl rfl (fun f => rfl) (fun m f hf => run_nodes4 m.1 (BB m) (hf 45 _ rfl rfl) (hf 50 _ rfl rfl) (hf 54 _ rfl rfl) (hf 58 _ rfl rfl)) ?_
    simp only [Act.put, List.setIfInBounds_toArray, List.set_cons_zero, List.set_cons_succ]
    refine Gd.wpX_buildL (Gd.gR rfl) (NdG wc.heap.size 2 (dfN y)) (stable_NdG _ _ _) (fun f => [(0, .int .i64 48), (2, f 59)]) rfl rfl rfl rfl rfl (fun f => rfl) (fun m f hf => run_cons m.1 48 (hf 59 _ rfl rfl)) ?_
    simp only [Act.put, List.setIfInBounds_toArray, List.set_cons_zero, List.set_cons_succ]
    refine Gd.wpX_buildSL (Gd.gR rfl) (GN1 wc.heap.size (dfN y)) (stable_GN1 _ _) (fun f => [(0, f 60)]) rfl rfl rfl rfl rfl (fun f => rfl) (fun m f hf => run_gn1 m.1 (BB m) (hf 60 _ rfl rfl)) ?_
    simp only [Act.put, List.setIfInBounds_toArray, List.set_cons_zero, List.set_cons_succ]
    refine Gd.wpX_endL (fun m f hf => ?_)
    obtain ⟨g1, A1, n1, c1, A2, n2, c2, e61, hg1, hg1b, hu⟩ := hf 61 (GN1 wc.heap.size (dfN y)) rfl
    simp only [fillH]
    simp only [Act.put, List.setIfInBounds_toArray, List.set_cons_zero, List.set_cons_succ]
    rw [e61]
    have LM := Lib.hid (LL m)
    clear hf e61 hw1 LL BB t0 t1 t2 t3 t4 tl r2 rl
    generalize m.1 = wd at *
    generalize f 44 = f44 at *
    generalize f 45 = f45 at *
    generalize f 48 = f48 at *
    generalize f 49 = f49 at *
    generalize f 50 = f50 at *
    generalize f 53 = f53 at *
    generalize f 54 = f54 at *
    generalize f 57 = f57 at *
    generalize f 58 = f58 at *
    generalize f 59 = f59 at *
    generalize f 60 = f60 at *
    clear m f
    show wpList _ _ _ _ _ _
    rw [show (dfN y).tag = 48 from rfl] at hu hg1b
    have ERD := Lib.hid (EN.out.tr LM.out)
    have HU := Lib.hid (hu.mono EN.out.size)
    have HRK := Lib.hid (show RdK wd 3 (.slice (some ⟨g1, 0, none⟩) 1 1) [.int .i64 48, .slice A1 n1 c1, .slice A2 n2 c2] from GN1.rdk (t := dfN y) hg1b)
    have hn5 := I.out.nd.len
    rw [kidsD_len a hk] at hn5
    have HNN := Lib.hid hn5
    obtain ⟨xs, O5, N5⟩ := I.out.nd.own
    have HO5 := Lib.hid O5
    have HN5 := Lib.hid N5
    have HNX := Lib.hid (show n5 * 3 = xs.length by rw [N5.1, kidsD_len a hk, hn5])
    have O6 := Lib.hid (O5.ext ERD.out)
    have HONE := Lib.hid (show ∀ u ∈ [Value.int .i64 48, .slice A1 n1 c1, .slice A2 n2 c2], u.oneCell' = true from fun u hu => by simp only [List.mem_cons, List.not_mem_nil, or_false] at hu; rcases hu with rfl | rfl | rfl <;> rfl)
    have X6 := Lib.hid (I.out.nd.ext.tr ERD.out)
    clear O5 N5 hu hg1 hg1b EN LM XR hn5 HTN HCR
    go_wp2_with (refine wpList_appKR (k := 3) (by decide) elemNd (n := n5) (m := 1) (B := ww.heap.size) (w0 := ww) O6.out HNX.out HRK.out (by rfl) HONE.out X6.out (by have := HNN.out; omega) (by have := HNN.out; unfold maxLen; omega) X6.out.size rfl rfl rfl rfl ?_; intro A8 n8 c8 w8 hn8 o8 x8 g8 f8; obtain ⟨p1, p2, p3, I8⟩ := BdI.app I.out HO5.out HN5.out ERD.out HU.out o8 x8 g8 f8; have HI8 := Lib.hid I8; clear o8 x8 g8 f8 I8)
    rw [← kidsD_succ a HY.out] at HI8
    go_roundw
    case rel => exact ⟨k + 1, A8, n8, c8, by omega, by go_num, HI8⟩
    case measure => simp [intOf]; omega
end Go.Proofs.YtmmoenkmicimcaaGreatDoor
namespace Go.Proofs.YtmmoenkmicimcaaGreatDoor
open Go.RowKit
set_option linter.unusedVariables false
set_option maxRecDepth 100000
theorem ndf_deep {B : Nat} {ts : List Nd} {v : Value} {w : World} (h : NdF B 0 ts v w) (hk : ∀ t ∈ ts, t.kids = []) : NdF B 2 ts v w := by
  obtain ⟨g, cs, h1, h2, h3, h4⟩ := h
  refine ⟨g, cs, h1, h2, h3, h4.1, fun i t ht => ?_⟩
  obtain ⟨A1, n1, c1, A2, n2, c2, e0, e1, e2, r1, r2⟩ := h4.2 i t ht
  have hk := hk t (List.mem_of_getElem? ht)
  obtain ⟨_, A, c, q1, q2⟩ := r2
  rw [q1] at e2
  exact ⟨A1, n1, c1, A, 0, c, e0, e1, e2, r1, by rw [hk]; exact ⟨A, 0, c, rfl, rfl, Nat.zero_le _, q2, fun h0 => absurd h0 (Nat.lt_irrefl 0)⟩⟩
end Go.Proofs.YtmmoenkmicimcaaGreatDoor
namespace Go.Proofs.YtmmoenkmicimcaaGreatDoor
open Go.RowKit
set_option linter.unusedVariables false
set_option maxRecDepth 100000
set_option maxHeartbeats 16000000 in
theorem refdbody_any (a : DV) (v : Value) (w : World) (hv : RdD w v a.defs) (hs : smD a.defs) (hg : smN a.sg) (ht : a.st.length ≤ maxLen) : Calls Tryz.prog 19 #[dvV a v] w (RetRE w (byD a) (ckD a)) := by
  obtain ⟨wz, hwz, ez, TZ⟩ := dv_alloc w a v
  have HC := Lib.hid (fun W (e : Ext w W) => refdcheck_any a v W (RdK.ext hv e) hs hg ht)
  obtain ⟨A, n, cp, rfl, hn, hnc, hcm, hel⟩ := RdD.at_ hv
  subst hn
  have HEL := Lib.hid hel
  unfold maxLen at hcm
  have EZ := Lib.hid ez
  have HZ := Lib.hid TZ
  clear hv hs hg ht hel ez TZ
  unfold dvV dvCells
  go_enter Tryz.func19, Tryz.ntmps19
  go_upto_region 1 with fail
  rw [← hwz]
  clear hwz
  have HROW := Lib.hid HZ.out.row
  go_wp2_with (refine wpList_load_row rfl 41 _ rfl w.heap.size rfl 41 (dvCells a (.slice A a.defs.length cp)).toArray (0, 0) _ HROW.out Tryz.underlying41 rfl info_dv ?_)
  refine (HC.out wz EZ.out).mono ?_
  rintro e ww ⟨rfl, b1⟩
  have X1 := Lib.hid (EZ.out.tr b1)
  have T1 := Lib.hid (HZ.out.ext b1)
  clear b1 HZ EZ HROW HC
  by_cases hc : ckD a = 0
  case neg =>
    have hb : (ckD a != 0) = true := by simpa using hc
    have HB := Lib.hid (show byD a = [] from if_neg hc)
    clear hc
    go_wp2_with fail
    go_ret2
    rw [HB.out]
    exact ⟨_, _, _, rfl, (show _ = _ from rfl), Rd.nil_ _, X1.out⟩
  have HK := Lib.hid hc
  have HB := Lib.hid (show byD a = bodyDB a from if_pos hc)
  obtain ⟨hst, ⟨num0, num1⟩, ⟨day0, day1⟩, h32, hdf, _⟩ := ckD_ok hc
  have sa : a.st.length ≤ 4096 := by have := hst.1.2; omega
  have HALL := Lib.hid (fun c hc => dfE_ok (dfsE_ok hdf c hc))
  have HSG := Lib.hid (fun c hc => dfE_sgn (dfsE_ok hdf c hc))
  rw [hc]
  clear hc hst hdf
  have n63 : a.num < 9223372036854775808 := by omega
  have d63 : a.day < 9223372036854775808 := by omega
  have nn0 : 0 ≤ a.num := by omega
  go_upto_region 4 with fail
  refine Gd.wp_region_X 11 (by kernel_rfl) (by kernel_rfl) ?_
  simp only [List.take_succ_cons, List.take_zero, List.drop_succ_cons, List.drop_zero]
  intro wq hw1
  have LL : ∀ m : Lt wq, Ext ww m.1 := fun m => hw1.tr m.2
  have BB : ∀ m : Lt wq, ww.heap.size ≤ m.1.heap.size := fun m => (LL m).size
  have v0 : ∀ m : Lt wq, m.1.cell? ⟨w.heap.size, 0, none⟩ = some (.string (bstr a.st)) := fun m => (T1.out.ext (LL m)).c0
  have v1 : ∀ m : Lt wq, m.1.cell? ⟨w.heap.size, 1, none⟩ = some (.int .i64 a.num) := fun m => (T1.out.ext (LL m)).c1
  have v2 : ∀ m : Lt wq, m.1.cell? ⟨w.heap.size, 2, none⟩ = some (.int .i64 a.day) := fun m => (T1.out.ext (LL m)).c2
  have vl : ∀ m : Lt wq, w.heap.size < m.1.heap.size := fun m => (T1.out.ext (LL m)).lt
  repeat (refine Gd.wpX_pureP rfl fun K hK => ?_; go_big_quiet_op; refine hK _ ?_; clear hK K)
  refine Gd.wpX_callF (Gd.gR rfl) (NdF ww.heap.size 2 [leafN 19 a.st, leafN 130 (be4 a.num)]) (stable_NdF _ _ _) (fun _ => [.string (bstr a.st), .int .i64 a.num]) rfl rfl rfl rfl rfl (by kernel_rfl) rfl (fun _ => rfl) (fun m f hf => (refhead_any a.st a.num m.1 sa nn0 n63).mono fun e w3 ⟨v, h1, h2, h3⟩ => ⟨v, h1, h2, ndf_deep (ndf_mono h3 (BB m)) (by intro t ht; simp only [List.mem_cons, List.not_mem_nil, or_false] at ht; rcases ht with rfl | rfl <;> rfl)⟩) ?_
  simp only [Act.put, List.setIfInBounds_toArray, List.set_cons_zero, List.set_cons_succ]
  repeat (refine Gd.wpX_pureP rfl fun K hK => ?_; go_big_quiet_op; refine hK _ ?_; clear hK K)
  refine Gd.wpX_callF (Gd.gR rfl) (GS ww.heap.size (be3 a.day)) (stable_GS _ _) (fun _ => [.int .i64 a.day, .int .i64 3]) rfl rfl rfl rfl rfl (by kernel_rfl) rfl (fun _ => rfl) (fun m f hf => (refbytes_any 3 a.day 3 m.1 day0 d63 rfl (by omega)).mono fun _ _ h => (beN_3 a.day ▸ h : RetB _ _ _ _).gs (BB m)) ?_
  simp only [Act.put, List.setIfInBounds_toArray, List.set_cons_zero, List.set_cons_succ]
  refine Gd.wpX_callF (Gd.gR rfl) (NdG ww.heap.size 2 (leafN 134 (be3 a.day))) (stable_NdG _ _ _) (fun f => [.int .i64 134, f 20]) rfl rfl rfl rfl rfl (by kernel_rfl) rfl (fun f => rfl) (fun m f hf => leafC m.1 134 (hf 20 _ rfl rfl)) ?_
  simp only [Act.put, List.setIfInBounds_toArray, List.set_cons_zero, List.set_cons_succ]
  refine Gd.wpX_buildSL (Gd.gR rfl) (NdF ww.heap.size 2 [leafN 134 (be3 a.day)]) (stable_NdF _ _ _) (fun f => [(0, f 21)]) rfl rfl rfl rfl rfl (fun f => rfl) (fun m f hf => run_nodesF1 m.1 (BB m) (hf 21 _ rfl rfl)) ?_
  simp only [Act.put, List.setIfInBounds_toArray, List.set_cons_zero, List.set_cons_succ]
  refine Gd.wpX_appF (Gd.gR rfl) (GNdO ww.heap.size ([leafN 19 a.st, leafN 130 (be4 a.num)] ++ [leafN 134 (be3 a.day)])) (stable_GNdO _ _) (fun f => f 17) (fun f => f 22) rfl rfl rfl rfl rfl rfl (fun _ => rfl) (fun _ => rfl) (fun m f hf => run_appNdsO (BB m) (hf 17 _ rfl rfl) (hf 22 _ rfl rfl) (by simp) (by simp)) ?_
  simp only [Act.put, List.setIfInBounds_toArray, List.set_cons_zero, List.set_cons_succ]
  refine Gd.wpX_endL (fun m f hf => ?_)
  obtain ⟨A24, n24, c24, xs24, e24, O24, N24⟩ := hf 23 (GNdO ww.heap.size ([leafN 19 a.st, leafN 130 (be4 a.num)] ++ [leafN 134 (be3 a.day)])) rfl
  simp only [fillH]
  simp only [Act.put, List.setIfInBounds_toArray, List.set_cons_zero, List.set_cons_succ]
  rw [e24]
  have LM := Lib.hid (LL m)
  have HI : Hid (NdO ww m.1 (fun _ => True) A24 n24 c24 (kidsD a 0)) := Lib.hid ⟨LM.out, xs24, O24, by rw [kidsD_zero]; exact N24⟩
  clear hf e24 hw1 LL BB v0 v1 v2 vl O24 N24 LM
  generalize m.1 = w2 at *
  generalize f 17 = f17 at *
  generalize f 20 = f20 at *
  generalize f 21 = f21 at *
  generalize f 22 = f22 at *
  clear m f
  show wpList _ _ _ _ _ _
  go_wp2_with fail
  go_loopw [5, 6] (fun s5 s6 wr => ∃ (k : Nat) (A5 : Option Addr) (n5 c5 : Nat), k ≤ a.defs.length ∧ s6 = .int .i64 (k : Int) ∧ s5 = .slice A5 n5 c5 ∧ Hid (NdO ww wr (fun _ => True) A5 n5 c5 (kidsD a k))) (fun _ s6 _ => a.defs.length - (intOf s6).toNat)
  case atStart => exact ⟨0, _, _, _, Nat.zero_le _, rfl, rfl, HI⟩
  case round =>
    obtain ⟨k, A5, n5, c5, hk, rfl, rfl, I⟩ := hrel
    have TR := Lib.hid (T1.out.ext I.out.ext)
    have c3 := TR.out.c3
    have cl := TR.out.lt
    by_cases hlt : k < a.defs.length
    case neg =>
      obtain rfl : k = a.defs.length := by omega
      have HV := Lib.hid (show NdG 0 3 (bodyDN a) (.agg #[.int .i64 (bodyDN a).tag, .slice none 0 0, .slice A5 n5 c5]) wr by rw [← kidsD_all]; exact I.out.nd)
      have X9 := Lib.hid (X1.out.tr I.out.ext)
      clear I hlt hk
      go_wp2_with fail
      refine (refencode_ok (d := 4) (ts := [bodyDN a]) _ (ok_bodyDN a) (nds_one (t := bodyDN a) rfl HV.out) (by omega) (cnt_bodyDN h32) (bodyDB_4096 HK.out)).mono ?_
      rintro e w9 ⟨A9, n9, c9, rfl, hn9, o9, b9⟩
      go_wp2_with fail
      go_ret2
      rw [HB.out, HK.out]
      exact ⟨_, _, _, rfl, hn9, o9.rd, Ext.tr (X9.out.alloc X9.out.size _) b9⟩
    case pos =>
    have XR := Lib.hid (X1.out.tr I.out.ext)
    obtain ⟨y, hy⟩ : ∃ y, a.defs[k]? = some y := ⟨_, List.getElem?_eq_getElem hlt⟩
    obtain ⟨b, o, rfl, hbl, hc⟩ := HEL.out (by omega)
    have hcy := hc k y hy
    have HY := Lib.hid hy
    clear hy hc
    have wi1 : IntKind.i64.wrap ((k : Int)) = (k : Int) := IntWalk.i64_in _ (by omega)
    have zi1 : (0 : Int) ≤ (k : Int) := by omega
    have li1 : (k : Int) < (a.defs.length : Int) := by omega
    have ti1 : ((k : Int)).toNat = k := by omega
    have wk : IntKind.i64.wrap ((k : Int) + 1) = (k : Int) + 1 := IntWalk.i64_in _ (by omega)
    have q0 := (XR.out.cell (p := ⟨b, o + k * 5, none⟩) hbl).trans hcy.1
    have q1 := (XR.out.cell (p := ⟨b, o + k * 5 + 1, none⟩) hbl).trans hcy.2.1
    have q2 := (XR.out.cell (p := ⟨b, o + k * 5 + 2, none⟩) hbl).trans hcy.2.2.1
    have q3 := (XR.out.cell (p := ⟨b, o + k * 5 + 3, none⟩) hbl).trans hcy.2.2.2.1
    have q4 := (XR.out.cell (p := ⟨b, o + k * 5 + 4, none⟩) hbl).trans hcy.2.2.2.2
    clear hcy
    obtain ⟨wc, hwc, en, TN⟩ := df_alloc wr y
    obtain ⟨⟨⟨_, l20⟩, _⟩, ⟨⟨_, m20⟩, _⟩⟩ := HALL.out y (List.mem_of_getElem? HY.out)
    have yfi : y.fi.length ≤ 4096 := by omega
    have yla : y.la.length ≤ 4096 := by omega
    clear l20 m20
    obtain ⟨sg1, sg2⟩ := HSG.out y (List.mem_of_getElem? HY.out)
    have sg0 : 0 ≤ y.signer := by omega
    have s63 : y.signer < 9223372036854775808 := by omega
    go_upto_region 9 with fail
    rw [← hwc]
    clear hwc q0 q1 q2 q3 q4 c3 cl
    have EN := Lib.hid en
    have HTN := Lib.hid TN
    clear en TN
    refine Gd.wp_region_X 24 (by kernel_rfl) (by kernel_rfl) ?_
    simp only [List.take_succ_cons, List.take_zero, List.drop_succ_cons, List.drop_zero]
    intro wq hw1
    have LL : ∀ m : Lt wq, Ext wc m.1 := fun m => hw1.tr m.2
    have BB : ∀ m : Lt wq, wc.heap.size ≤ m.1.heap.size := fun m => (LL m).size
    have t0 : ∀ m : Lt wq, m.1.cell? ⟨wr.heap.size, 0, none⟩ = some (.int .i64 y.kind) := fun m => (HTN.out.ext (LL m)).c0
    have t1 : ∀ m : Lt wq, m.1.cell? ⟨wr.heap.size, 1, none⟩ = some (.int .i64 y.param) := fun m => (HTN.out.ext (LL m)).c1
    have t2 : ∀ m : Lt wq, m.1.cell? ⟨wr.heap.size, 2, none⟩ = some (.int .i64 y.signer) := fun m => (HTN.out.ext (LL m)).c2
    have t3 : ∀ m : Lt wq, m.1.cell? ⟨wr.heap.size, 3, none⟩ = some (.string (bstr y.fi)) := fun m => (HTN.out.ext (LL m)).c3
    have t4 : ∀ m : Lt wq, m.1.cell? ⟨wr.heap.size, 4, none⟩ = some (.string (bstr y.la)) := fun m => (HTN.out.ext (LL m)).c4
    have tl : ∀ m : Lt wq, wr.heap.size < m.1.heap.size := fun m => (HTN.out.ext (LL m)).lt
    repeat (refine Gd.wpX_pureP rfl fun K hK => ?_; go_big_quiet_op; refine hK _ ?_; clear hK K)
    refine Gd.wpX_buildSL (Gd.gR rfl) (GS wc.heap.size [u8 y.kind, u8 y.param]) (stable_GS _ _) (fun _ => [(0, .int .u8 (y.kind % 256)), (1, .int .u8 (y.param % 256))]) rfl rfl rfl rfl rfl (fun _ => rfl) (fun m f hf => ⟨_, _, (by go_simp : (Instr.buildSlice 48 2 [(0, .int .u8 (y.kind % 256)), (1, .int .u8 (y.param % 256))].toArray).run Tryz.prog m.1 = .ok (.slice (some ⟨m.1.heap.size, 0, none⟩) 2 2) (m.1.alloc (.cells #[.int .u8 (y.kind % 256), .int .u8 (y.param % 256)] 5))), (Below.refl _ _).alloc (Nat.le_refl _) _, gs_lit m.1 (BB m) _ [u8 y.kind, u8 y.param] 2 rfl (by omega) (by simp [bvs, bv_u8])⟩) ?_
    simp only [Act.put, List.setIfInBounds_toArray, List.set_cons_zero, List.set_cons_succ]
    refine Gd.wpX_callF (Gd.gR rfl) (NdG wc.heap.size 1 (leafN 129 [u8 y.kind, u8 y.param])) (stable_NdG _ _ _) (fun f => [.int .i64 129, f 43]) rfl rfl rfl rfl rfl (by kernel_rfl) rfl (fun f => rfl) (fun m f hf => leafC m.1 129 (hf 43 _ rfl rfl)) ?_
    simp only [Act.put, List.setIfInBounds_toArray, List.set_cons_zero, List.set_cons_succ]
    repeat (refine Gd.wpX_pureP rfl fun K hK => ?_; go_big_quiet_op; refine hK _ ?_; clear hK K)
    refine Gd.wpX_callF (Gd.gR rfl) (GS wc.heap.size (be4 y.signer)) (stable_GS _ _) (fun _ => [.int .i64 y.signer, .int .i64 4]) rfl rfl rfl rfl rfl (by kernel_rfl) rfl (fun _ => rfl) (fun m f hf => (refbytes_any 4 y.signer 4 m.1 sg0 s63 rfl (by omega)).mono fun _ _ h => (beN_4 y.signer ▸ h : RetB _ _ _ _).gs (BB m)) ?_
    simp only [Act.put, List.setIfInBounds_toArray, List.set_cons_zero, List.set_cons_succ]
    refine Gd.wpX_callF (Gd.gR rfl) (NdG wc.heap.size 1 (leafN 131 (be4 y.signer))) (stable_NdG _ _ _) (fun f => [.int .i64 131, f 47]) rfl rfl rfl rfl rfl (by kernel_rfl) rfl (fun f => rfl) (fun m f hf => leafC m.1 131 (hf 47 _ rfl rfl)) ?_
    simp only [Act.put, List.setIfInBounds_toArray, List.set_cons_zero, List.set_cons_succ]
    repeat (refine Gd.wpX_pureP rfl fun K hK => ?_; go_big_quiet_op; refine hK _ ?_; clear hK K)
    refine Gd.wpX_convL (Gd.gR rfl) (GS wc.heap.size y.fi) (stable_GS _ _) (fun _ => .string (bstr y.fi)) rfl rfl rfl rfl rfl (fun _ => rfl) (fun m f hf => gs_str m.1 (BB m) y.fi yfi) ?_
    simp only [Act.put, List.setIfInBounds_toArray, List.set_cons_zero, List.set_cons_succ]
    refine Gd.wpX_callF (Gd.gR rfl) (NdG wc.heap.size 1 (leafN 132 y.fi)) (stable_NdG _ _ _) (fun f => [.int .i64 132, f 51]) rfl rfl rfl rfl rfl (by kernel_rfl) rfl (fun f => rfl) (fun m f hf => leafC m.1 132 (hf 51 _ rfl rfl)) ?_
    simp only [Act.put, List.setIfInBounds_toArray, List.set_cons_zero, List.set_cons_succ]
    repeat (refine Gd.wpX_pureP rfl fun K hK => ?_; go_big_quiet_op; refine hK _ ?_; clear hK K)
    refine Gd.wpX_convL (Gd.gR rfl) (GS wc.heap.size y.la) (stable_GS _ _) (fun _ => .string (bstr y.la)) rfl rfl rfl rfl rfl (fun _ => rfl) (fun m f hf => gs_str m.1 (BB m) y.la yla) ?_
    simp only [Act.put, List.setIfInBounds_toArray, List.set_cons_zero, List.set_cons_succ]
    refine Gd.wpX_callF (Gd.gR rfl) (NdG wc.heap.size 1 (leafN 133 y.la)) (stable_NdG _ _ _) (fun f => [.int .i64 133, f 55]) rfl rfl rfl rfl rfl (by kernel_rfl) rfl (fun f => rfl) (fun m f hf => leafC m.1 133 (hf 55 _ rfl rfl)) ?_
    simp only [Act.put, List.setIfInBounds_toArray, List.set_cons_zero, List.set_cons_succ]
    refine Gd.wpX_buildSL (Gd.gR rfl) (NdsG wc.heap.size 2 (dfN y).kids) (stable_NdsG _ _ _) (fun f => [(0, f 44), (1, f 48), (2, f 52), (3, f 56)]) rfl rfl rfl rfl rfl (fun f => rfl) (fun m f hf => run_nodes4 m.1 (BB m) (hf 44 _ rfl rfl) (hf 48 _ rfl rfl) (hf 52 _ rfl rfl) (hf 56 _ rfl rfl)) ?_
    simp only [Act.put, List.setIfInBounds_toArray, List.set_cons_zero, List.set_cons_succ]
    refine Gd.wpX_buildL (Gd.gR rfl) (NdG wc.heap.size 2 (dfN y)) (stable_NdG _ _ _) (fun f => [(0, .int .i64 48), (2, f 57)]) rfl rfl rfl rfl rfl (fun f => rfl) (fun m f hf => run_cons m.1 48 (hf 57 _ rfl rfl)) ?_
    simp only [Act.put, List.setIfInBounds_toArray, List.set_cons_zero, List.set_cons_succ]
    refine Gd.wpX_buildSL (Gd.gR rfl) (GN1 wc.heap.size (dfN y)) (stable_GN1 _ _) (fun f => [(0, f 58)]) rfl rfl rfl rfl rfl (fun f => rfl) (fun m f hf => run_gn1 m.1 (BB m) (hf 58 _ rfl rfl)) ?_
    simp only [Act.put, List.setIfInBounds_toArray, List.set_cons_zero, List.set_cons_succ]
    refine Gd.wpX_endL (fun m f hf => ?_)
    obtain ⟨g1, A1, n1, c1, A2, n2, c2, e61, hg1, hg1b, hu⟩ := hf 59 (GN1 wc.heap.size (dfN y)) rfl
    simp only [fillH]
    simp only [Act.put, List.setIfInBounds_toArray, List.set_cons_zero, List.set_cons_succ]
    rw [e61]
    have LM := Lib.hid (LL m)
    clear hf e61 hw1 LL BB t0 t1 t2 t3 t4 tl
    generalize m.1 = wd at *
    generalize f 43 = f43 at *
    generalize f 44 = f44 at *
    generalize f 47 = f47 at *
    generalize f 48 = f48 at *
    generalize f 51 = f51 at *
    generalize f 52 = f52 at *
    generalize f 55 = f55 at *
    generalize f 56 = f56 at *
    generalize f 57 = f57 at *
    generalize f 58 = f58 at *
    clear m f
    show wpList _ _ _ _ _ _
    rw [show (dfN y).tag = 48 from rfl] at hu hg1b
    have ERD := Lib.hid (EN.out.tr LM.out)
    have HU := Lib.hid (hu.mono EN.out.size)
    have HRK := Lib.hid (show RdK wd 3 (.slice (some ⟨g1, 0, none⟩) 1 1) [.int .i64 48, .slice A1 n1 c1, .slice A2 n2 c2] from GN1.rdk (t := dfN y) hg1b)
    have hn5 := I.out.len
    rw [kidsD_len a hk] at hn5
    have HNN := Lib.hid hn5
    obtain ⟨xs, O5, N5⟩ := I.out.own
    have HO5 := Lib.hid O5
    have HN5 := Lib.hid N5
    have HNX := Lib.hid (show n5 * 3 = xs.length by rw [N5.1, kidsD_len a hk, hn5])
    have O6 := Lib.hid (O5.ext ERD.out)
    have HONE := Lib.hid (show ∀ u ∈ [Value.int .i64 48, .slice A1 n1 c1, .slice A2 n2 c2], u.oneCell' = true from fun u hu => by simp only [List.mem_cons, List.not_mem_nil, or_false] at hu; rcases hu with rfl | rfl | rfl <;> rfl)
    have X6 := Lib.hid (I.out.ext.tr ERD.out)
    clear O5 N5 hu hg1 hg1b EN LM XR hn5 HTN
    go_wp2_with (refine wpList_appKR (k := 3) (by decide) elemNd (n := n5) (m := 1) (B := ww.heap.size) (w0 := ww) O6.out HNX.out HRK.out (by rfl) HONE.out X6.out (by have := HNN.out; omega) (by have := HNN.out; unfold maxLen; omega) X6.out.size rfl rfl rfl rfl ?_; intro A8 n8 c8 w8 hn8 o8 x8 g8 f8; have HI8 := Lib.hid (ndo_app HO5.out HN5.out ERD.out HU.out (fun _ _ => trivial) o8 x8 g8 f8); clear o8 x8 g8 f8)
    rw [← kidsD_succ a HY.out] at HI8
    go_roundw
    case rel => exact ⟨k + 1, A8, n8, c8, by omega, by go_num, rfl, HI8⟩
    case measure => simp [intOf]; omega
end Go.Proofs.YtmmoenkmicimcaaGreatDoor
namespace Go.Proofs.YtmmoenkmicimcaaGreatDoor
open Go.RowKit
set_option linter.unusedVariables false
set_option maxRecDepth 100000
theorem elemDf : ElemK Tryz.prog 35 65 5 56 := by
  have h : (Tryz.prog.info? 65).map (fun i => (i.zero, i.size, i.bytes)) = some (some (.agg #[.int .i64 0, .int .i64 0, .int .i64 0, .string ⟨#[]⟩, .string ⟨#[]⟩]), 5, 56) := by kernel_rfl
  obtain ⟨i, h1, h2, h3, h4⟩ := info_parts h
  exact ⟨i, _, Tryz.underlying35, h1, h2, h3, h4, rfl⟩
theorem cells_nil {w : World} {A : Option Addr} {n c k : Nat} {xs : List Value} (hk : 0 < k) (h : RdK w k (.slice A n c) xs) (hA : A = none) : xs = [] := by
  obtain ⟨A', n', c', e, hn, _, _, hc⟩ := h
  injection e with e1 e2 e3
  subst e1 e2 e3
  by_cases h0 : 0 < n
  · obtain ⟨b, o, e, _⟩ := hc h0
    rw [hA] at e
    cases e
  · obtain rfl : n = 0 := by omega
    rw [Nat.zero_mul] at hn
    exact List.eq_nil_of_length_eq_zero hn.symm
theorem eql_nil_ncsCells (w : World) (A : Option Addr) (n c : Nat) : (binOp .eql 26 (.slice A n c) (.slice none 0 0)).run Tryz.prog w = .ok (.bool A.isNone) w := Lib.run_eql_slice_nil w _ 39 A n c 0 0 Tryz.underlying26
set_option maxHeartbeats 1000000 in
theorem cloneN_any {a : Value} {l : List NC} (w : World) (ha : RdK w 11 a (ncsCells l)) (hl : l.length ≤ 1000000) : Calls Tryz.prog 72 #[a] w fun e w' => ∃ A n c, e = .returned (.slice A n c) ∧ OwnK w' w.heap.size 39 11 (.slice A n c) (ncsCells l) ∧ Ext w w' := by
  have ha0 := ha
  obtain ⟨A, n, c, rfl, hn, hnc, hcm, hA⟩ := ha
  rw [ncsCells_len] at hn
  obtain rfl : n = l.length := by omega
  unfold maxLen at hcm
  have HON := Lib.hid (ncsCells_one l)
  cases A with
  | none =>
    have h0 := Lib.hid (cells_nil (by decide) ha0 rfl)
    clear hA ha0 hn
    have hq := fun w => eql_nil_ncsCells w none l.length c
    go_enter Tryz.func72, Tryz.ntmps72
    go_wp2
    go_ret
    exact ⟨_, _, _, rfl, by rw [h0.out]; exact OwnK.empty _ _ _ _ _, Below.refl _ _⟩
  | some ad =>
    clear hA hn
    have hq := fun w => eql_nil_ncsCells w (some ad) l.length c
    have e6 : Ext w (w.alloc (.cells #[] 39)) := (Below.refl _ _).alloc (Nat.le_refl _) _
    have H6 := Lib.hid (RdK.ext ha0 e6)
    have E6 := Lib.hid e6
    clear ha0 e6
    go_enter Tryz.func72, Tryz.ntmps72
    go_wp2_with (refine wpList_appK (k := 11) (by decide) elemNc (n := 0) (m := l.length) (B := w.heap.size) (OwnK.empty _ _ _ _ _) rfl H6.out (by rw [ncsCells_len]) HON.out E6.out (by omega) (by unfold maxLen; omega) E6.out.size rfl rfl rfl rfl ?_; intro A2 n2 c2 w2 hn2 o2 b2 g2)
    simp only [List.nil_append] at o2
    go_ret
    exact ⟨_, _, _, rfl, o2, b2⟩
theorem eql_nil_dfsCells (w : World) (A : Option Addr) (n c : Nat) : (binOp .eql 35 (.slice A n c) (.slice none 0 0)).run Tryz.prog w = .ok (.bool A.isNone) w := Lib.run_eql_slice_nil w _ 65 A n c 0 0 Tryz.underlying35
set_option maxHeartbeats 1000000 in
theorem cloneD_any {a : Value} {l : List DF} (w : World) (ha : RdK w 5 a (dfsCells l)) (hl : l.length ≤ 1000000) : Calls Tryz.prog 82 #[a] w fun e w' => ∃ A n c, e = .returned (.slice A n c) ∧ OwnK w' w.heap.size 65 5 (.slice A n c) (dfsCells l) ∧ Ext w w' := by
  have ha0 := ha
  obtain ⟨A, n, c, rfl, hn, hnc, hcm, hA⟩ := ha
  rw [dfsCells_len] at hn
  obtain rfl : n = l.length := by omega
  unfold maxLen at hcm
  have HON := Lib.hid (dfsCells_one l)
  cases A with
  | none =>
    have h0 := Lib.hid (cells_nil (by decide) ha0 rfl)
    clear hA ha0 hn
    have hq := fun w => eql_nil_dfsCells w none l.length c
    go_enter Tryz.func82, Tryz.ntmps82
    go_wp2
    go_ret
    exact ⟨_, _, _, rfl, by rw [h0.out]; exact OwnK.empty _ _ _ _ _, Below.refl _ _⟩
  | some ad =>
    clear hA hn
    have hq := fun w => eql_nil_dfsCells w (some ad) l.length c
    have e6 : Ext w (w.alloc (.cells #[] 65)) := (Below.refl _ _).alloc (Nat.le_refl _) _
    have H6 := Lib.hid (RdK.ext ha0 e6)
    have E6 := Lib.hid e6
    clear ha0 e6
    go_enter Tryz.func82, Tryz.ntmps82
    go_wp2_with (refine wpList_appK (k := 5) (by decide) elemDf (n := 0) (m := l.length) (B := w.heap.size) (OwnK.empty _ _ _ _ _) rfl H6.out (by rw [dfsCells_len]) HON.out E6.out (by omega) (by unfold maxLen; omega) E6.out.size rfl rfl rfl rfl ?_; intro A2 n2 c2 w2 hn2 o2 b2 g2)
    simp only [List.nil_append] at o2
    go_ret
    exact ⟨_, _, _, rfl, o2, b2⟩
def zeroM : MA := ⟨[], 0, 0, [], zeroN, 0, 0⟩
theorem kM_all (r : MA) (v : Value) (h : v.oneCell' = true) : (maCells r v).toArray.all (·.oneCell') = true := by
  rw [List.all_toArray, List.all_eq_true]
  exact kM.one r v h
set_option maxHeartbeats 4000000 in
theorem cmaster_any (r : MA) (v : Value) (w : World) (hv : RdK w 11 v (ncsCells r.roots)) (hl : r.roots.length ≤ 1000000) : Calls Tryz.prog 74 #[.agg (maCells r v).toArray] w fun e w' => ∃ A n c, e = .returned (.agg (maCells r (.slice A n c)).toArray) ∧ OwnK w' w.heap.size 39 11 (.slice A n c) (ncsCells r.roots) ∧ Ext w w' := by
  obtain ⟨wz, hwz⟩ : ∃ wz, wz = (w.alloc (.cells #[.string (bstr r.st), .int .i64 r.num, .int .i64 r.day, v, .string (bstr r.sg.st), .int .i64 r.sg.kind, .int .i64 r.sg.num, .int .i64 r.sg.iss, .int .i64 r.sg.own, .int .i64 r.sg.key, .int .i64 r.sg.fr, .int .i64 r.sg.un, .int .i64 r.sg.to, .int .i64 r.sg.e, .int .i64 r.sg.s, .int .i64 r.e, .int .i64 r.s] 86)).alloc (.cells #[.string ⟨#[]⟩, .int .i64 0, .int .i64 0, .slice none 0 0, .string ⟨#[]⟩, .int .i64 0, .int .i64 0, .int .i64 0, .int .i64 0, .int .i64 0, .int .i64 0, .int .i64 0, .int .i64 0, .int .i64 0, .int .i64 0, .int .i64 0, .int .i64 0] 86) := ⟨_, rfl⟩
  have e1 : Ext w (w.alloc (.cells #[.string (bstr r.st), .int .i64 r.num, .int .i64 r.day, v, .string (bstr r.sg.st), .int .i64 r.sg.kind, .int .i64 r.sg.num, .int .i64 r.sg.iss, .int .i64 r.sg.own, .int .i64 r.sg.key, .int .i64 r.sg.fr, .int .i64 r.sg.un, .int .i64 r.sg.to, .int .i64 r.sg.e, .int .i64 r.sg.s, .int .i64 r.e, .int .i64 r.s] 86)) := (Below.refl _ _).alloc (Nat.le_refl _) _
  have ez : Ext w wz := by rw [hwz]; exact e1.alloc (by simp) _
  have b0 : wz.heap[w.heap.size]? = some (.cells (maCells r v).toArray 86 (0, 0)) := by
    rw [hwz]
    exact (((Below.refl _ _).alloc (Nat.le_refl _) _ : Ext (w.alloc (.cells #[.string (bstr r.st), .int .i64 r.num, .int .i64 r.day, v, .string (bstr r.sg.st), .int .i64 r.sg.kind, .int .i64 r.sg.num, .int .i64 r.sg.iss, .int .i64 r.sg.own, .int .i64 r.sg.key, .int .i64 r.sg.fr, .int .i64 r.sg.un, .int .i64 r.sg.to, .int .i64 r.sg.e, .int .i64 r.sg.s, .int .i64 r.e, .int .i64 r.s] 86)) _).block _ (by simp)).trans (heap_alloc_new' w _)
  have b1 : wz.heap[w.heap.size + 1]? = some (.cells (maCells zeroM (.slice none 0 0)).toArray 86 (0, 0)) := by
    have := heap_alloc_new' (w.alloc (.cells #[.string (bstr r.st), .int .i64 r.num, .int .i64 r.day, v, .string (bstr r.sg.st), .int .i64 r.sg.kind, .int .i64 r.sg.num, .int .i64 r.sg.iss, .int .i64 r.sg.own, .int .i64 r.sg.key, .int .i64 r.sg.fr, .int .i64 r.sg.un, .int .i64 r.sg.to, .int .i64 r.sg.e, .int .i64 r.sg.s, .int .i64 r.e, .int .i64 r.s] 86)) (.cells #[.string ⟨#[]⟩, .int .i64 0, .int .i64 0, .slice none 0 0, .string ⟨#[]⟩, .int .i64 0, .int .i64 0, .int .i64 0, .int .i64 0, .int .i64 0, .int .i64 0, .int .i64 0, .int .i64 0, .int .i64 0, .int .i64 0, .int .i64 0, .int .i64 0] 86)
    rw [show (w.alloc (.cells #[.string (bstr r.st), .int .i64 r.num, .int .i64 r.day, v, .string (bstr r.sg.st), .int .i64 r.sg.kind, .int .i64 r.sg.num, .int .i64 r.sg.iss, .int .i64 r.sg.own, .int .i64 r.sg.key, .int .i64 r.sg.fr, .int .i64 r.sg.un, .int .i64 r.sg.to, .int .i64 r.sg.e, .int .i64 r.sg.s, .int .i64 r.e, .int .i64 r.s] 86)).heap.size = w.heap.size + 1 by simp] at this
    rw [hwz]
    exact this
  have HR := Lib.hid (RdK.ext hv ez)
  have HL := Lib.hid hl
  have EZ := Lib.hid ez
  have c3 : wz.cell? ⟨w.heap.size, 3, none⟩ = some v := by rw [cell_of_row wz w.heap.size 3 _ _ _ b0]; rfl
  have cl := block_lt b0
  have B0 := Lib.hid b0
  have B1 := Lib.hid b1
  clear b0 b1 e1 ez hv hl
  obtain ⟨A, n, c, rfl, -⟩ := id HR.out
  unfold maCells
  go_enter Tryz.func74, Tryz.ntmps74
  go_wp2_with fail
  rw [← hwz]
  clear hwz
  refine (cloneN_any _ HR.out HL.out).mono ?_
  rintro e w1 ⟨A1, n1, c1, rfl, o1, x1⟩
  have k0 := (x1.block _ cl).trans B0.out
  have k1 := (x1.block _ (block_lt B1.out)).trans B1.out
  have f3 : w1.frozen? ⟨w.heap.size, 3, none⟩ = false := by simp [World.frozen?, k0]
  have cl1 := block_lt k0
  have c31 : w1.cell? ⟨w.heap.size, 3, none⟩ = some (.slice A n c) := by rw [cell_of_row _ _ 3 _ _ _ k0]; rfl
  have hz := block_lt B1.out
  have t0 : (w1.setCell ⟨w.heap.size, 3, none⟩ (.slice A1 n1 c1)).heap[w.heap.size]? = some (.cells (maCells r (.slice A1 n1 c1)).toArray 86 (0, 0)) := by
    have h9 := row_set k0 3 (.slice A1 n1 c1)
    exact h9
  have t1 : (w1.setCell ⟨w.heap.size, 3, none⟩ (.slice A1 n1 c1)).heap[w.heap.size + 1]? = some (.cells (maCells zeroM (.slice none 0 0)).toArray 86 (0, 0)) := (setCell_block (by omega)).trans k1
  have HT0 := Lib.hid t0
  have HT1 := Lib.hid t1
  have H1 := Lib.hid (kM_all r (.slice A1 n1 c1) rfl)
  have X1 := Lib.hid (EZ.out.tr x1)
  have O1 := Lib.hid o1
  clear t0 t1 k0 k1 c3 x1 o1 B0 B1
  go_wp2_with (first | (refine wpList_load_row rfl 86 _ rfl w.heap.size rfl 86 (maCells r (.slice A1 n1 c1)).toArray (0, 0) _ HT0.out Tryz.underlying86 rfl info_ma ?_) | (refine wpRow_store rfl 86 _ _ rfl rfl (w.heap.size + 1) (maCells r (.slice A1 n1 c1)).toArray rfl rfl 86 (maCells zeroM (.slice none 0 0)).toArray HT1.out info_ma rfl H1.out ?_))
  refine bodyPost_ret (v := .agg (maCells r (.slice A1 n1 c1)).toArray) ?_ rfl ⟨A1, n1, c1, rfl, ?_, ?_⟩
  · exact results_cell_row rfl _ _ (w.heap.size + 1) 86 (maCells r (.slice A1 n1 c1)).toArray (0, 0) _ rfl (row_at HT1.out) Tryz.underlying86 rfl info_ma
  · have hh : w.heap.size < wz.heap.size := by omega
    exact ((O1.out.grown (Gb.set w.heap.size 3 w1 _) (.inr fun q => by have := rowOf_geK O1.out _ q; omega)).grown (Gb.setRow (w.heap.size + 1) _ _) (.inr fun q => by have := rowOf_geK O1.out _ q; omega)).mono (by omega)
  · exact ext_setRow (ext_set X1.out (Nat.le_refl _)) (by omega) _
def zeroD : DV := ⟨[], 0, 0, [], zeroN, 0, 0⟩
theorem kD_all (r : DV) (v : Value) (h : v.oneCell' = true) : (dvCells r v).toArray.all (·.oneCell') = true := by
  rw [List.all_toArray, List.all_eq_true]
  exact kD.one r v h
set_option maxHeartbeats 4000000 in
theorem cdev_any (r : DV) (v : Value) (w : World) (hv : RdK w 5 v (dfsCells r.defs)) (hl : r.defs.length ≤ 1000000) : Calls Tryz.prog 38 #[.agg (dvCells r v).toArray] w fun e w' => ∃ A n c, e = .returned (.agg (dvCells r (.slice A n c)).toArray) ∧ OwnK w' w.heap.size 65 5 (.slice A n c) (dfsCells r.defs) ∧ Ext w w' := by
  obtain ⟨wz, hwz⟩ : ∃ wz, wz = (w.alloc (.cells #[.string (bstr r.st), .int .i64 r.num, .int .i64 r.day, v, .string (bstr r.sg.st), .int .i64 r.sg.kind, .int .i64 r.sg.num, .int .i64 r.sg.iss, .int .i64 r.sg.own, .int .i64 r.sg.key, .int .i64 r.sg.fr, .int .i64 r.sg.un, .int .i64 r.sg.to, .int .i64 r.sg.e, .int .i64 r.sg.s, .int .i64 r.e, .int .i64 r.s] 41)).alloc (.cells #[.string ⟨#[]⟩, .int .i64 0, .int .i64 0, .slice none 0 0, .string ⟨#[]⟩, .int .i64 0, .int .i64 0, .int .i64 0, .int .i64 0, .int .i64 0, .int .i64 0, .int .i64 0, .int .i64 0, .int .i64 0, .int .i64 0, .int .i64 0, .int .i64 0] 41) := ⟨_, rfl⟩
  have e1 : Ext w (w.alloc (.cells #[.string (bstr r.st), .int .i64 r.num, .int .i64 r.day, v, .string (bstr r.sg.st), .int .i64 r.sg.kind, .int .i64 r.sg.num, .int .i64 r.sg.iss, .int .i64 r.sg.own, .int .i64 r.sg.key, .int .i64 r.sg.fr, .int .i64 r.sg.un, .int .i64 r.sg.to, .int .i64 r.sg.e, .int .i64 r.sg.s, .int .i64 r.e, .int .i64 r.s] 41)) := (Below.refl _ _).alloc (Nat.le_refl _) _
  have ez : Ext w wz := by rw [hwz]; exact e1.alloc (by simp) _
  have b0 : wz.heap[w.heap.size]? = some (.cells (dvCells r v).toArray 41 (0, 0)) := by
    rw [hwz]
    exact (((Below.refl _ _).alloc (Nat.le_refl _) _ : Ext (w.alloc (.cells #[.string (bstr r.st), .int .i64 r.num, .int .i64 r.day, v, .string (bstr r.sg.st), .int .i64 r.sg.kind, .int .i64 r.sg.num, .int .i64 r.sg.iss, .int .i64 r.sg.own, .int .i64 r.sg.key, .int .i64 r.sg.fr, .int .i64 r.sg.un, .int .i64 r.sg.to, .int .i64 r.sg.e, .int .i64 r.sg.s, .int .i64 r.e, .int .i64 r.s] 41)) _).block _ (by simp)).trans (heap_alloc_new' w _)
  have b1 : wz.heap[w.heap.size + 1]? = some (.cells (dvCells zeroD (.slice none 0 0)).toArray 41 (0, 0)) := by
    have := heap_alloc_new' (w.alloc (.cells #[.string (bstr r.st), .int .i64 r.num, .int .i64 r.day, v, .string (bstr r.sg.st), .int .i64 r.sg.kind, .int .i64 r.sg.num, .int .i64 r.sg.iss, .int .i64 r.sg.own, .int .i64 r.sg.key, .int .i64 r.sg.fr, .int .i64 r.sg.un, .int .i64 r.sg.to, .int .i64 r.sg.e, .int .i64 r.sg.s, .int .i64 r.e, .int .i64 r.s] 41)) (.cells #[.string ⟨#[]⟩, .int .i64 0, .int .i64 0, .slice none 0 0, .string ⟨#[]⟩, .int .i64 0, .int .i64 0, .int .i64 0, .int .i64 0, .int .i64 0, .int .i64 0, .int .i64 0, .int .i64 0, .int .i64 0, .int .i64 0, .int .i64 0, .int .i64 0] 41)
    rw [show (w.alloc (.cells #[.string (bstr r.st), .int .i64 r.num, .int .i64 r.day, v, .string (bstr r.sg.st), .int .i64 r.sg.kind, .int .i64 r.sg.num, .int .i64 r.sg.iss, .int .i64 r.sg.own, .int .i64 r.sg.key, .int .i64 r.sg.fr, .int .i64 r.sg.un, .int .i64 r.sg.to, .int .i64 r.sg.e, .int .i64 r.sg.s, .int .i64 r.e, .int .i64 r.s] 41)).heap.size = w.heap.size + 1 by simp] at this
    rw [hwz]
    exact this
  have HR := Lib.hid (RdK.ext hv ez)
  have HL := Lib.hid hl
  have EZ := Lib.hid ez
  have c3 : wz.cell? ⟨w.heap.size, 3, none⟩ = some v := by rw [cell_of_row wz w.heap.size 3 _ _ _ b0]; rfl
  have cl := block_lt b0
  have B0 := Lib.hid b0
  have B1 := Lib.hid b1
  clear b0 b1 e1 ez hv hl
  obtain ⟨A, n, c, rfl, -⟩ := id HR.out
  unfold dvCells
  go_enter Tryz.func38, Tryz.ntmps38
  go_wp2_with fail
  rw [← hwz]
  clear hwz
  refine (cloneD_any _ HR.out HL.out).mono ?_
  rintro e w1 ⟨A1, n1, c1, rfl, o1, x1⟩
  have k0 := (x1.block _ cl).trans B0.out
  have k1 := (x1.block _ (block_lt B1.out)).trans B1.out
  have f3 : w1.frozen? ⟨w.heap.size, 3, none⟩ = false := by simp [World.frozen?, k0]
  have cl1 := block_lt k0
  have c31 : w1.cell? ⟨w.heap.size, 3, none⟩ = some (.slice A n c) := by rw [cell_of_row _ _ 3 _ _ _ k0]; rfl
  have hz := block_lt B1.out
  have t0 : (w1.setCell ⟨w.heap.size, 3, none⟩ (.slice A1 n1 c1)).heap[w.heap.size]? = some (.cells (dvCells r (.slice A1 n1 c1)).toArray 41 (0, 0)) := by
    have h9 := row_set k0 3 (.slice A1 n1 c1)
    exact h9
  have t1 : (w1.setCell ⟨w.heap.size, 3, none⟩ (.slice A1 n1 c1)).heap[w.heap.size + 1]? = some (.cells (dvCells zeroD (.slice none 0 0)).toArray 41 (0, 0)) := (setCell_block (by omega)).trans k1
  have HT0 := Lib.hid t0
  have HT1 := Lib.hid t1
  have H1 := Lib.hid (kD_all r (.slice A1 n1 c1) rfl)
  have X1 := Lib.hid (EZ.out.tr x1)
  have O1 := Lib.hid o1
  clear t0 t1 k0 k1 c3 x1 o1 B0 B1
  go_wp2_with (first | (refine wpList_load_row rfl 41 _ rfl w.heap.size rfl 41 (dvCells r (.slice A1 n1 c1)).toArray (0, 0) _ HT0.out Tryz.underlying41 rfl info_dv ?_) | (refine wpRow_store rfl 41 _ _ rfl rfl (w.heap.size + 1) (dvCells r (.slice A1 n1 c1)).toArray rfl rfl 41 (dvCells zeroD (.slice none 0 0)).toArray HT1.out info_dv rfl H1.out ?_))
  refine bodyPost_ret (v := .agg (dvCells r (.slice A1 n1 c1)).toArray) ?_ rfl ⟨A1, n1, c1, rfl, ?_, ?_⟩
  · exact results_cell_row rfl _ _ (w.heap.size + 1) 41 (dvCells r (.slice A1 n1 c1)).toArray (0, 0) _ rfl (row_at HT1.out) Tryz.underlying41 rfl info_dv
  · have hh : w.heap.size < wz.heap.size := by omega
    exact ((O1.out.grown (Gb.set w.heap.size 3 w1 _) (.inr fun q => by have := rowOf_geK O1.out _ q; omega)).grown (Gb.setRow (w.heap.size + 1) _ _) (.inr fun q => by have := rowOf_geK O1.out _ q; omega)).mono (by omega)
  · exact ext_setRow (ext_set X1.out (Nat.le_refl _)) (by omega) _
end Go.Proofs.YtmmoenkmicimcaaGreatDoor
