/- Parts Em Ep of the proof. -/
import Derived.Test.YtmmoenkmicimcaaGreatDoorDRaz
namespace Go.Proofs.YtmmoenkmicimcaaGreatDoor
open Go.RowKit
set_option linter.unusedVariables false
set_option maxRecDepth 100000
/-- The entries of the first k that apply, none where the number is none. -/
def apU (d : DV) (signer : Int) (number : List UInt8) (k : Nat) : List DF := if docP number then apT d signer number k else []
theorem apU_zero (d : DV) (signer : Int) (number : List UInt8) : apU d signer number 0 = [] := by unfold apU; split <;> rfl
theorem apU_yes {d : DV} {signer : Int} {number : List UInt8} {k : Nat} {y : DF} (h : d.defs[k]? = some y) (p : docP number) (q : appQ y signer number = true) : apU d signer number (k + 1) = apU d signer number k ++ [y] := by
  unfold apU
  rw [if_pos p, if_pos p, apT_yes h q]
theorem apU_no {d : DV} {signer : Int} {number : List UInt8} {k : Nat} {y : DF} (h : d.defs[k]? = some y) (q : (decide (docP number) && appQ y signer number) = false) : apU d signer number (k + 1) = apU d signer number k := by
  unfold apU
  by_cases p : docP number
  · rw [if_pos p, if_pos p]
    exact apT_no h (by rw [decide_eq_true p] at q; exact q)
  · rw [if_neg p, if_neg p]
theorem apU_len (d : DV) (signer : Int) (number : List UInt8) (k : Nat) : (apU d signer number k).length ≤ d.defs.length := by
  unfold apU
  split
  · exact apT_len d signer number k
  · exact Nat.zero_le _
theorem appD_some {l : List DV} {st : List UInt8} {d : DV} (signer : Int) (number : List UInt8) (h : ofD l st = some d) : appD l st signer number = apU d signer number d.defs.length := by
  unfold appD apU apT
  rw [h, List.take_length]
theorem ofD_at {l : List DV} {st : List UInt8} {d : DV} {j : Nat} (hj : l[j]? = some d) (h : d.st = st) (hlt : ∀ (i : Nat) u, i < j → l[i]? = some u → u.st ≠ st) : ofD l st = some d := by
  unfold ofD
  have hl := (List.getElem?_eq_some_iff.1 hj).1
  rw [List.find?_eq_some_iff_getElem]
  rw [List.getElem?_eq_getElem hl] at hj
  exact ⟨decide_eq_true h, j, hl, Option.some.inj hj, fun i hi => by have := hlt i _ hi (List.getElem?_eq_getElem (by omega)); simpa using this⟩
theorem ofD_not {l : List DV} {st : List UInt8} (hlt : ∀ (i : Nat) u, l[i]? = some u → u.st ≠ st) : ofD l st = none := by
  unfold ofD
  rw [List.find?_eq_none]
  intro x hx
  obtain ⟨i, hi⟩ := List.getElem?_of_mem hx
  simpa using hlt i x hi
set_option maxHeartbeats 8000000 in
theorem refapplying_any (s0 s1 s2 s3 s4 : SlT) (l : List DV) (st num : List UInt8) (signer : Int) (w : World) (h : RdX kD w (slV s4) l) (hs : smDs l) (hn : num.length ≤ maxLen) : Calls Tryz.prog 16 #[storeV s0 s1 s2 s3 s4, .string (bstr st), .int .i64 signer, .string (bstr num)] w (RetDs w (appD l st signer num)) := by
  obtain ⟨A, n, c⟩ := s4
  obtain ⟨A', n', c', hsl, hn', hnc, hcm, hel⟩ := h.at_
  unfold slV at hsl
  injection hsl with hs1 hs2 hs3
  simp only at hs1 hs2 hs3
  subst hs1 hs2 hs3 hn'
  obtain ⟨wz, hwz⟩ : ∃ wz, wz = w.alloc (stO s0 s1 s2 s3 (A, l.length, c)) := ⟨_, rfl⟩
  have x0 : Ext w wz := by rw [hwz]; exact (Below.refl _ _).alloc (Nat.le_refl _) _
  have hz : wz.heap[w.heap.size]? = some (.cells #[.slice s0.1 s0.2.1 s0.2.2, .slice s1.1 s1.2.1 s1.2.2, .slice s2.1 s2.2.1 s2.2.2, .slice s3.1 s3.2.1 s3.2.2, .slice A l.length c] 31 (0, 0)) := by rw [hwz]; exact heap_alloc_new' w _
  have z4 : wz.cell? ⟨w.heap.size, 4, none⟩ = some (.slice A l.length c) := by rw [cell_of_row wz _ 4 _ _ _ hz]; rfl
  have hlz : w.heap.size < wz.heap.size := block_lt hz
  have HDC := Lib.hid (fun W => refdoc_any num W hn)
  have HCF := Lib.hid (fun (y : DF) W (q : y.fi.length ≤ maxLen) => refbef_any num y.fi W hn q)
  have HCL := Lib.hid (fun (y : DF) W (q : y.la.length ≤ maxLen) => refbef_any y.la num W q hn)
  obtain ⟨L, hL⟩ : ∃ L, appD l st signer num = L := ⟨_, rfl⟩
  rw [hL]
  have HL := Lib.hid hL
  have HE := Lib.hid hel
  have HSM := Lib.hid hs
  have X0 := Lib.hid x0
  unfold maxLen at hcm
  have HQ := fun (s : List UInt8) => bstr_eqJ s st
  clear hel hs x0 hn h hz hL
  unfold storeV
  go_enter Tryz.func16, Tryz.ntmps16
  go_upto_region 1 with fail
  try rw [← hwz]
  try clear hwz
  go_wp2_with fail
  go_loopw [9, 10] (fun s9 s10 wr => ∃ j : Nat, j ≤ l.length ∧ s10 = .int .i64 (j : Int) ∧ s9 = .slice none 0 0 ∧ wz = wr ∧ Hid (∀ i u, i < j → l[i]? = some u → u.st ≠ st)) (fun _ s10 _ => l.length - (intOf s10).toNat)
  case atStart => exact ⟨0, Nat.zero_le _, rfl, rfl, rfl, Lib.hid (fun i u h => by omega)⟩
  case round =>
    obtain ⟨j, hj, rfl, rfl, rfl, hlt0⟩ := hrel
    by_cases hlt : j < l.length
    case neg =>
      obtain rfl : j = l.length := by omega
      have HR := Lib.hid (show L = [] by rw [← HL.out]; unfold appD; rw [ofD_not fun i u hu => hlt0.out i u (List.getElem?_eq_some_iff.1 hu).1 hu])
      go_wp2_with fail
      go_ret
      rw [HR.out]
      exact ⟨none, 0, 0, rfl, RdK.nil_ _ _ _, X0.out⟩
    case pos =>
    obtain ⟨t, ht⟩ : ∃ t, l[j]? = some t := ⟨_, List.getElem?_eq_getElem hlt⟩
    obtain ⟨b, o, rfl, hbl, u, hcell, hu⟩ := HE.out j t ht
    obtain ⟨Au, nu, cu, hu1, hnu, hncu, hcmu, helu⟩ := RdD.at_ hu
    subst hu1
    subst hnu
    have HEU := Lib.hid helu
    unfold maxLen at hcmu
    have l0 : wz.cell? ⟨b, o + j * 17, none⟩ = some (.string (bstr t.st)) := by
      have := (X0.out.cell (p := ⟨b, o + (j * 17 + 0), none⟩) hbl).trans (hcell 0 _ rfl)
      exact this
    have l3 : wz.cell? ⟨b, o + j * 17 + 3, none⟩ = some (.slice Au t.defs.length cu) := by
      have := (X0.out.cell (p := ⟨b, o + (j * 17 + 3), none⟩) hbl).trans (hcell 3 _ rfl)
      rwa [← Nat.add_assoc] at this
    obtain ⟨hsd, hld⟩ := HSM.out t (List.mem_of_getElem? ht)
    have HSD := Lib.hid hsd
    have HT := Lib.hid ht
    clear hcell hu helu hsd ht
    have wi1 : IntKind.i64.wrap ((j : Int)) = (j : Int) := IntWalk.i64_in _ (by omega)
    have zi1 : (0 : Int) ≤ (j : Int) := by omega
    have li1 : (j : Int) < (l.length : Int) := by omega
    have ti1 : ((j : Int)).toNat = j := by omega
    have wj : IntKind.i64.wrap ((j : Int) + 1) = (j : Int) + 1 := IntWalk.i64_in _ (by omega)
    by_cases hq : t.st = st
    case neg =>
      have HD := HQ t.st
      rw [decide_eq_false hq] at HD
      have HX := Lib.hid hq
      clear hq HQ
      go_wp2_with fail
      go_roundw
      case rel => exact ⟨j + 1, by omega, by go_num, rfl, trivial, Lib.hid (fun i u hi hu => by
          by_cases h : i = j
          · subst h; rw [HT.out] at hu; rw [← Option.some.inj hu]; exact HX.out
          · exact hlt0.out i u (by omega) hu)⟩
      case measure => simp [intOf]; omega
    have HR := Lib.hid (show L = apU t signer num t.defs.length by rw [← HL.out]; exact appD_some signer num (ofD_at HT.out hq hlt0.out))
    have HD := HQ t.st
    rw [decide_eq_true hq] at HD
    clear hq HQ HL HT hlt0 HE HSM
    go_wp2_with fail
    clear z4 l0 l3 HD wi1 zi1 li1 ti1 wj
    go_loopw [9, 12] (fun s9 s12 wr => ∃ (k : Nat) (A5 : Option Addr) (n5 c5 : Nat), k ≤ t.defs.length ∧ s12 = .int .i64 (k : Int) ∧ s9 = .slice A5 n5 c5 ∧ Hid (OwnK wr w.heap.size 65 5 (.slice A5 n5 c5) (dfsCells (apU t signer num k))) ∧ Hid (Ext w wr)) (fun _ s12 _ => t.defs.length - (intOf s12).toNat)
    case atStart => exact ⟨0, none, 0, 0, Nat.zero_le _, rfl, rfl, Lib.hid (by rw [apU_zero]; exact OwnK.empty _ _ _ _ _), X0⟩
    case round =>
      obtain ⟨k, A5, n5, c5, hk, rfl, rfl, O, X⟩ := hrel
      by_cases hlk : k < t.defs.length
      case neg =>
        obtain rfl : k = t.defs.length := by omega
        go_wp2_with fail
        go_ret
        rw [HR.out]
        exact ⟨A5, n5, c5, rfl, O.out.rd, X.out⟩
      case pos =>
      obtain ⟨y, hy⟩ : ∃ y, t.defs[k]? = some y := ⟨_, List.getElem?_eq_getElem hlk⟩
      obtain ⟨b2, o2, rfl, hbl2, hc⟩ := HEU.out (by omega)
      have hcy := hc k y hy
      have HY := Lib.hid hy
      obtain ⟨yfi, yla⟩ := HSD.out y (List.mem_of_getElem? hy)
      clear hy hc
      have wi2 : IntKind.i64.wrap ((k : Int)) = (k : Int) := IntWalk.i64_in _ (by omega)
      have zi2 : (0 : Int) ≤ (k : Int) := by omega
      have li2 : (k : Int) < (t.defs.length : Int) := by omega
      have ti2 : ((k : Int)).toNat = k := by omega
      have wk : IntKind.i64.wrap ((k : Int) + 1) = (k : Int) + 1 := IntWalk.i64_in _ (by omega)
      have q0 := (X.out.cell (p := ⟨b2, o2 + k * 5, none⟩) hbl2).trans hcy.1
      have q1 := (X.out.cell (p := ⟨b2, o2 + k * 5 + 1, none⟩) hbl2).trans hcy.2.1
      have q2 := (X.out.cell (p := ⟨b2, o2 + k * 5 + 2, none⟩) hbl2).trans hcy.2.2.1
      have q3 := (X.out.cell (p := ⟨b2, o2 + k * 5 + 3, none⟩) hbl2).trans hcy.2.2.2.1
      have q4 := (X.out.cell (p := ⟨b2, o2 + k * 5 + 4, none⟩) hbl2).trans hcy.2.2.2.2
      clear hcy
      by_cases hsg : y.signer = signer
      case neg =>
        have HN := Lib.hid (apU_no (signer := signer) (number := num) HY.out (by unfold appQ; rw [decide_eq_false hsg]; simp))
        have O2 := Lib.hid (show OwnK wr w.heap.size 65 5 (.slice A5 n5 c5) (dfsCells (apU t signer num (k + 1))) by rw [HN.out]; exact O.out)
        have hb : (y.signer == signer) = false := by simpa using hsg
        clear hsg
        go_wp2_with fail
        go_roundw
        case rel => exact ⟨k + 1, A5, n5, c5, by omega, by go_num, rfl, O2, X⟩
        case measure => simp [intOf]; omega
      have hb : (y.signer == signer) = true := by simpa using hsg
      have HSG := Lib.hid hsg
      clear hsg
      go_wp2_with fail
      refine (HDC.out _).mono ?_
      rintro e w3 ⟨rfl, rfl⟩
      cases hdc : decide (docP num) with
      | false =>
        have HN := Lib.hid (apU_no (signer := signer) (number := num) HY.out (by unfold appQ; rw [hdc]; rfl))
        have O2 := Lib.hid (show OwnK wr w.heap.size 65 5 (.slice A5 n5 c5) (dfsCells (apU t signer num (k + 1))) by rw [HN.out]; exact O.out)
        clear hdc
        go_wp2_with fail
        go_roundw
        case rel => exact ⟨k + 1, A5, n5, c5, by omega, by go_num, rfl, O2, X⟩
        case measure => simp [intOf]; omega
      | true =>
        have HP := Lib.hid (of_decide_eq_true hdc)
        clear hdc
        go_wp2_with fail
        refine (HCF.out y _ yfi).mono ?_
        rintro e w3 ⟨rfl, rfl⟩
        cases h1 : befL num y.fi with
        | true =>
          have HN := Lib.hid (apU_no (signer := signer) (number := num) HY.out (by unfold appQ; rw [h1]; simp))
          have O2 := Lib.hid (show OwnK wr w.heap.size 65 5 (.slice A5 n5 c5) (dfsCells (apU t signer num (k + 1))) by rw [HN.out]; exact O.out)
          clear h1
          go_wp2_with fail
          go_roundw
          case rel => exact ⟨k + 1, A5, n5, c5, by omega, by go_num, rfl, O2, X⟩
          case measure => simp [intOf]; omega
        | false =>
          have H1 := Lib.hid h1
          clear h1
          go_wp2_with fail
          refine (HCL.out y _ yla).mono ?_
          rintro e w3 ⟨rfl, rfl⟩
          cases h2 : befL y.la num with
          | true =>
            have HN := Lib.hid (apU_no (signer := signer) (number := num) HY.out (by unfold appQ; rw [h2]; simp))
            have O2 := Lib.hid (show OwnK wr w.heap.size 65 5 (.slice A5 n5 c5) (dfsCells (apU t signer num (k + 1))) by rw [HN.out]; exact O.out)
            clear h2
            go_wp2_with fail
            go_roundw
            case rel => exact ⟨k + 1, A5, n5, c5, by omega, by go_num, rfl, O2, X⟩
            case measure => simp [intOf]; omega
          | false =>
            have HYS := Lib.hid (apU_yes (signer := signer) (number := num) HY.out HP.out (by unfold appQ; rw [decide_eq_true HSG.out, H1.out, h2]; rfl))
            clear h2
            have HRK := Lib.hid (litDf wr y)
            have HONE := Lib.hid (df_one y)
            have eD : Ext wr (wr.alloc (.cells #[.int .i64 y.kind, .int .i64 y.param, .int .i64 y.signer, .string (bstr y.fi), .string (bstr y.la)] 65)) := (Below.refl _ _).alloc (Nat.le_refl _) _
            have O5 := Lib.hid (O.out.ext eD)
            have X5 := Lib.hid (X.out.tr eD)
            obtain ⟨A9, n9, c9, e9, hn9, -⟩ := id O.out
            have HNN := Lib.hid (show n5 ≤ 2513169434843 by injection e9 with e91 e92 e93; subst e92; rw [dfsCells_len] at hn9; have := apU_len t signer num k; omega)
            have HNX := Lib.hid (show n5 * 5 = (dfsCells (apU t signer num k)).length by injection e9 with e91 e92 e93; subst e92; exact hn9)
            clear eD e9 hn9
            go_wp2_with (refine wpList_appKR (k := 5) (by decide) elemDf (n := n5) (m := 1) (B := w.heap.size) (w0 := w) O5.out HNX.out HRK.out (by rfl) HONE.out X5.out (by have := HNN.out; omega) (by have := HNN.out; unfold maxLen; omega) X5.out.size rfl rfl rfl rfl ?_; intro A8 n8 c8 w8 hn8 o8 x8 g8 f8; have HO8 := Lib.hid o8; have HX8 := Lib.hid x8; clear o8 x8 g8 f8)
            have O8 := Lib.hid (show OwnK w8 w.heap.size 65 5 (.slice A8 n8 c8) (dfsCells (apU t signer num (k + 1))) by rw [HYS.out, dfs_app]; exact HO8.out)
            go_roundw
            case rel => exact ⟨k + 1, A8, n8, c8, by omega, by go_num, rfl, O8, HX8⟩
            case measure => simp [intOf]; omega
end Go.Proofs.YtmmoenkmicimcaaGreatDoor
namespace Go.Proofs.YtmmoenkmicimcaaGreatDoor
open Go.RowKit
set_option linter.unusedVariables false
set_option maxRecDepth 100000
/-- Two blocks: a store and a list. -/
structure TwoW (w wz : World) (s0 s1 s2 s3 s4 : SlT) (m : DV) (v : Value) : Prop where
  ext : Ext w wz
  s : wz.heap[w.heap.size]? = some (.cells (stRow s0 s1 s2 s3 s4) 31 (0, 0))
  m : DvAt wz (w.heap.size + 1) m v
theorem TwoW.tr {w wz wy : World} {s0 s1 s2 s3 s4 : SlT} {m : DV} {v : Value} (h : TwoW w wz s0 s1 s2 s3 s4 m v) (x : Ext wz wy) : TwoW w wy s0 s1 s2 s3 s4 m v := ⟨h.ext.tr x, (x.block _ (block_lt h.s)).trans h.s, h.m.ext x⟩
theorem two_allocW (w : World) (s0 s1 s2 s3 s4 : SlT) (m : DV) (v : Value) : ∃ wz, wz = (w.alloc (stO s0 s1 s2 s3 s4)).alloc (.cells #[.string (bstr m.st), .int .i64 m.num, .int .i64 m.day, v, .string (bstr m.sg.st), .int .i64 m.sg.kind, .int .i64 m.sg.num, .int .i64 m.sg.iss, .int .i64 m.sg.own, .int .i64 m.sg.key, .int .i64 m.sg.fr, .int .i64 m.sg.un, .int .i64 m.sg.to, .int .i64 m.sg.e, .int .i64 m.sg.s, .int .i64 m.e, .int .i64 m.s] 41) ∧ TwoW w wz s0 s1 s2 s3 s4 m v := by
  have e1 : Ext w (w.alloc (stO s0 s1 s2 s3 s4)) := (Below.refl _ _).alloc (Nat.le_refl _) _
  have e2 : Ext (w.alloc (stO s0 s1 s2 s3 s4)) ((w.alloc (stO s0 s1 s2 s3 s4)).alloc (.cells #[.string (bstr m.st), .int .i64 m.num, .int .i64 m.day, v, .string (bstr m.sg.st), .int .i64 m.sg.kind, .int .i64 m.sg.num, .int .i64 m.sg.iss, .int .i64 m.sg.own, .int .i64 m.sg.key, .int .i64 m.sg.fr, .int .i64 m.sg.un, .int .i64 m.sg.to, .int .i64 m.sg.e, .int .i64 m.sg.s, .int .i64 m.e, .int .i64 m.s] 41)) := (Below.refl _ _).alloc (Nat.le_refl _) _
  refine ⟨_, rfl, e1.tr e2, (e2.block _ (by simp)).trans (heap_alloc_new' w _), ?_⟩
  have := heap_alloc_new' (w.alloc (stO s0 s1 s2 s3 s4)) (.cells #[.string (bstr m.st), .int .i64 m.num, .int .i64 m.day, v, .string (bstr m.sg.st), .int .i64 m.sg.kind, .int .i64 m.sg.num, .int .i64 m.sg.iss, .int .i64 m.sg.own, .int .i64 m.sg.key, .int .i64 m.sg.fr, .int .i64 m.sg.un, .int .i64 m.sg.to, .int .i64 m.sg.e, .int .i64 m.sg.s, .int .i64 m.e, .int .i64 m.s] 41)
  rw [show (w.alloc (stO s0 s1 s2 s3 s4)).heap.size = w.heap.size + 1 by simp] at this
  exact this
/-- What light returns. -/
def LiD (w : World) (n : Nat) (e : Ending) (w' : World) : Prop := ∃ q : Bool, e = .returned (.bool q) ∧ (q = true → n ≤ 20) ∧ Ext w w'
set_option maxHeartbeats 4000000 in
theorem light33_any (s0 s1 s2 s3 s4 : SlT) (m : DV) (v : Value) (w : World) (hv : RdD w v m.defs) (h0 : s0.2.1 ≤ 2000000000000) (h1 : s1.2.1 ≤ 2000000000000) : Calls Tryz.prog 17 #[storeV s0 s1 s2 s3 s4, dvV m v] w (LiD w s4.2.1) := by
  obtain ⟨wz, hwz, TZ⟩ := two_allocW w s0 s1 s2 s3 s4 m v
  obtain ⟨A, n, c, rfl, hn, hnc, hcm, hel⟩ := RdD.at_ hv
  subst hn
  have HEL := Lib.hid hel
  unfold maxLen at hcm
  have EZ := Lib.hid TZ.ext
  have HT := Lib.hid TZ
  have r3 := TZ.m.c3
  have rl := TZ.m.lt
  clear TZ hv hel
  have wk0 : IntKind.i64.wrap ((s0.2.1 : Int) + (s1.2.1 : Int)) = (s0.2.1 : Int) + (s1.2.1 : Int) := IntWalk.i64_in _ (by omega)
  clear h0 h1
  unfold storeV dvV dvCells
  go_enter Tryz.func17, Tryz.ntmps17
  go_upto_region 1 with fail
  rw [← hwz]
  clear hwz
  go_wp2_with fail
  go_loopw [5, 6] (fun s5 s6 wr => ∃ (k : Nat) (z : Int), k ≤ m.defs.length ∧ s6 = .int .i64 (k : Int) ∧ s5 = .int .i64 z ∧ Hid (Ext wz wr)) (fun _ s6 _ => m.defs.length - (intOf s6).toNat)
  case atStart => exact ⟨0, _, Nat.zero_le _, rfl, rfl, Lib.hid (Below.refl _ _)⟩
  case round =>
    obtain ⟨k, z, hk, rfl, rfl, HX⟩ := hrel
    have HU := Lib.hid (HT.out.tr HX.out)
    clear r3 rl
    have r3 := HU.out.m.c3
    have rl := HU.out.m.lt
    by_cases hlt : k < m.defs.length
    case neg =>
      obtain rfl : k = m.defs.length := by omega
      have c0 : wr.cell? ⟨w.heap.size, 0, none⟩ = some (.slice s0.1 s0.2.1 s0.2.2) := by rw [cell_of_row _ _ 0 _ _ _ HU.out.s]; rfl
      have c1 : wr.cell? ⟨w.heap.size, 1, none⟩ = some (.slice s1.1 s1.2.1 s1.2.2) := by rw [cell_of_row _ _ 1 _ _ _ HU.out.s]; rfl
      have c2 : wr.cell? ⟨w.heap.size, 2, none⟩ = some (.slice s2.1 s2.2.1 s2.2.2) := by rw [cell_of_row _ _ 2 _ _ _ HU.out.s]; rfl
      have c3 : wr.cell? ⟨w.heap.size, 3, none⟩ = some (.slice s3.1 s3.2.1 s3.2.2) := by rw [cell_of_row _ _ 3 _ _ _ HU.out.s]; rfl
      have c4 : wr.cell? ⟨w.heap.size, 4, none⟩ = some (.slice s4.1 s4.2.1 s4.2.2) := by rw [cell_of_row _ _ 4 _ _ _ HU.out.s]; rfl
      have cl := block_lt HU.out.s
      by_cases d1 : z ≤ 40
      case neg =>
        go_wp2_with fail
        go_ret
        exact ⟨false, rfl, fun q => absurd q (by decide), EZ.out.tr HX.out⟩
      by_cases d2 : (s0.2.1 : Int) + (s1.2.1 : Int) ≤ 12
      case neg =>
        go_wp2_with fail
        go_ret
        exact ⟨false, rfl, fun q => absurd q (by decide), EZ.out.tr HX.out⟩
      by_cases d3 : (s2.2.1 : Int) ≤ 4
      case neg =>
        go_wp2_with fail
        go_ret
        exact ⟨false, rfl, fun q => absurd q (by decide), EZ.out.tr HX.out⟩
      by_cases d4 : (s4.2.1 : Int) ≤ 20
      case neg =>
        go_wp2_with fail
        go_ret
        exact ⟨false, rfl, fun q => absurd q (by decide), EZ.out.tr HX.out⟩
      have HD := Lib.hid (show s4.2.1 ≤ 20 by omega)
      go_wp2_with fail
      go_ret
      exact ⟨true, rfl, fun _ => HD.out, EZ.out.tr HX.out⟩
    case pos =>
    obtain ⟨y, hy⟩ : ∃ y, m.defs[k]? = some y := ⟨_, List.getElem?_eq_getElem hlt⟩
    obtain ⟨b, o, rfl, hb, hc⟩ := HEL.out (by omega)
    have hcy := hc k y hy
    have q3 := ((EZ.out.tr HX.out).cell (p := ⟨b, o + k * 5 + 3, none⟩) hb).trans hcy.2.2.2.1
    have q4 := ((EZ.out.tr HX.out).cell (p := ⟨b, o + k * 5 + 4, none⟩) hb).trans hcy.2.2.2.2
    clear hcy hc hy
    have wi1 : IntKind.i64.wrap ((k : Int)) = (k : Int) := IntWalk.i64_in _ (by omega)
    have zi1 : (0 : Int) ≤ (k : Int) := by omega
    have li1 : (k : Int) < (m.defs.length : Int) := by omega
    have ti1 : ((k : Int)).toNat = k := by omega
    have wk : IntKind.i64.wrap ((k : Int) + 1) = (k : Int) + 1 := IntWalk.i64_in _ (by omega)
    go_upto_region 5 with fail
    (go_quiet (fail); have x9 := Ext.drewN_ wr nq; generalize wr.drewN nq = wb at *)
    have X9 := Lib.hid (HX.out.tr x9)
    clear x9 q3 q4 r3 rl HX HU
    go_wp2_with fail
    go_roundw
    case rel => exact ⟨k + 1, _, by omega, by go_num, rfl, X9⟩
    case measure => simp [intOf]; omega
end Go.Proofs.YtmmoenkmicimcaaGreatDoor
