/- Parts Jm Jn Zf of the proof. -/
import Derived.Test.YtmmoenkmicimcaaGreatDoorDRbb
import Derived.Test.YtmmoenkmicimcaaGreatDoorDRav
import Derived.BigRegion
import Derived.Deep.CutRange
namespace Go.Proofs.YtmmoenkmicimcaaGreatDoor
open Go.RowKit
set_option linter.unusedVariables false
set_option maxRecDepth 100000
/-- Where Reverse stands behind k exchanges. -/
def RevS (l q : List NC) (k : Nat) : Prop := q.length = l.length ∧ ∀ p, p < l.length → q[p]? = if p < k ∨ l.length ≤ p + k then l[l.length - 1 - p]? else l[p]?
theorem revS_zero (l : List NC) : RevS l l 0 := ⟨rfl, fun p hp => by rw [if_neg (by omega)]⟩
theorem revS_done {l q : List NC} {k : Nat} (h : RevS l q k) (hk : l.length ≤ 2 * k + 1) (hk2 : 2 * k ≤ l.length) : q = l.reverse := by
  apply List.ext_getElem?
  intro p
  by_cases hp : p < l.length
  · rw [h.2 p hp, List.getElem?_reverse hp]
    split
    · rfl
    · rename_i hn
      congr 1
      omega
  · rw [List.getElem?_eq_none (by rw [h.1]; omega), List.getElem?_eq_none (by rw [List.length_reverse]; omega)]
theorem revS_next {l q : List NC} {k : Nat} {x y : NC} (h : RevS l q k) (hk : 2 * k + 1 < l.length) (hx : q[k]? = some x) (hy : q[l.length - 1 - k]? = some y) : RevS l ((q.set k y).set (l.length - 1 - k) x) (k + 1) := by
  refine ⟨by simp [h.1], fun p hp => ?_⟩
  have hxl := h.2 k (by omega)
  rw [hx, if_neg (by omega)] at hxl
  have hyl := h.2 (l.length - 1 - k) (by omega)
  rw [hy, if_neg (by omega)] at hyl
  rw [List.getElem?_set, List.getElem?_set]
  by_cases e1 : l.length - 1 - k = p
  · subst e1
    rw [if_pos rfl, if_pos (by rw [List.length_set, h.1]; omega), if_pos (by omega), show l.length - 1 - (l.length - 1 - k) = k by omega, hxl]
  · rw [if_neg e1]
    by_cases e2 : k = p
    · subst e2
      rw [if_pos rfl, if_pos (by rw [h.1]; omega), if_pos (by omega), hyl]
    · rw [if_neg e2, h.2 p hp]
      by_cases e3 : p < k ∨ l.length ≤ p + k
      · rw [if_pos e3, if_pos (by omega)]
      · rw [if_neg e3, if_neg (by omega)]
theorem setL_setN (w : World) (g : Nat) {cur : List Value} {p : List NC} {rest : List Value} {T : TypeId} {fr : Nat × Nat} (h : w.heap[g]? = some (.cells cur.toArray T fr)) (hc : cur = ncsCells p ++ rest) (i : Nat) (hi : i < p.length) (x : NC) :
    (setL w g (i * 11) (ncCells x)).heap[g]? = some (.cells (ncsCells (p.set i x) ++ rest).toArray T fr) := by
  have e : p = p.take i ++ [p[i]] ++ p.drop (i + 1) := by
    rw [List.append_assoc, List.singleton_append, ← List.drop_eq_getElem_cons hi, List.take_append_drop]
  have e2 : p.set i x = p.take i ++ [x] ++ p.drop (i + 1) := by
    rw [List.set_eq_take_append_cons_drop, if_pos hi, List.append_assoc]
    rfl
  have hl : (ncsCells (p.take i)).length = i * 11 := by rw [ncsCells_len, List.length_take, Nat.min_eq_left (Nat.le_of_lt hi)]
  have one : ∀ y, ncsCells [y] = ncCells y := fun y => by simp [ncsCells]
  have h' : w.heap[g]? = some (.cells (ncsCells (p.take i) ++ ncCells p[i] ++ (ncsCells (p.drop (i + 1)) ++ rest)).toArray T fr) := by
    rw [h, hc]
    congr 3
    conv => lhs; rw [e, ← ncsCells_app, ← ncsCells_app, one]
    simp only [List.append_assoc]
  have h2 := setL_mid (ncCells x) (ncsCells (p.take i)) (ncsCells (p.drop (i + 1)) ++ rest) w g (ncCells p[i]) T fr h' rfl
  rw [hl] at h2
  rw [h2, e2, ← ncsCells_app, ← ncsCells_app, one]
  simp only [List.append_assoc]
theorem setL_belowB {w : World} {g B : Nat} (hB : B ≤ g) : ∀ (vs : List Value) (i : Nat) (w' : World), Below B w w' → Below B w (setL w' g i vs)
  | [], i, w', h => h
  | v :: vs, i, w', h => setL_belowB hB vs (i + 1) _ (h.setCell (p := ⟨g, i, none⟩) hB v)
theorem own_swap {w : World} {B g n c : Nat} {cur : Array Value} {q : List NC} {x y : NC} {i k : Nat} (hB : B ≤ g) (hg : w.heap[g]? = some (.cells cur 39 (0, 0))) (hcur : cur.toList.take (n * 11) = ncsCells q) (hs : cur.size = c * 11) (hq : q.length = n) (hi : i < n) (hk : k < n) (hc : n ≤ c) (hm : c ≤ maxLen) :
    OwnK (setL (setL w g (i * 11) (ncCells y)) g (k * 11) (ncCells x)).drew B 39 11 (.slice (some ⟨g, 0, none⟩) n c) (ncsCells ((q.set i y).set k x)) := by
  have hcc : cur.toList = ncsCells q ++ cur.toList.drop (n * 11) := by rw [← hcur, List.take_append_drop]
  have h1 : w.heap[g]? = some (.cells (ncsCells q ++ cur.toList.drop (n * 11)).toArray 39 (0, 0)) := by rw [hg, ← hcc, Array.toArray_toList]
  have h2 := setL_setN w g h1 rfl i (by rw [hq]; exact hi) y
  have h3 := setL_setN (setL w g (i * 11) (ncCells y)) g h2 rfl k (by rw [List.length_set, hq]; exact hk) x
  have hl : ((q.set i y).set k x).length = n := by rw [List.length_set, List.length_set, hq]
  generalize setL (setL w g (i * 11) (ncCells y)) g (k * 11) (ncCells x) = W at *
  generalize (q.set i y).set k x = qs at *
  have hls : (ncsCells qs).length = n * 11 := by rw [ncsCells_len, hl]
  have hlc : n * 11 ≤ c * 11 := Nat.mul_le_mul_right _ hc
  refine ⟨_, n, c, rfl, hls.symm, .inr ⟨g, _, rfl, hB, h3, hc, hm, ?_, ?_⟩⟩
  · rw [List.size_toArray, List.length_append, hls, List.length_drop, Array.length_toList, hs]
    omega
  · show (ncsCells qs ++ _).take _ = _
    rw [← hls]
    exact List.take_left
set_option maxHeartbeats 8000000 in
theorem reverse_any {B : Nat} {A : Option Addr} {c : Nat} {l : List NC} (w : World) (h : OwnK w B 39 11 (.slice A l.length c) (ncsCells l)) (hl : 1 ≤ l.length) (hl2 : l.length ≤ 1000000) :
    Calls Tryz.prog 120 #[.slice A l.length c] w fun e w' => Below B w w' ∧ e = .returned (.tuple #[]) ∧ OwnK w' B 39 11 (.slice A l.length c) (ncsCells l.reverse) := by
  obtain ⟨g, rfl, hB⟩ : ∃ g, A = some ⟨g, 0, none⟩ ∧ B ≤ g := by
    obtain ⟨A', n', c', e9, hn, hcase⟩ := h
    injection e9 with e1 e2 e3
    rcases hcase with ⟨h0, _⟩ | ⟨g, cur, hA, hB, _⟩
    · omega
    · exact ⟨g, by rw [e1, hA], hB⟩
  have HB := Lib.hid hB
  have H0 := Lib.hid h
  clear h hB
  go_enter Tryz.func120, Tryz.ntmps120
  have w0 : IntKind.i64.wrap ((l.length : Int) - 1) = (l.length : Int) - 1 := IntWalk.i64_in _ (by omega)
  go_wp2_with fail
  go_loopw [2, 3] (fun i j wr => ∃ (k : Nat) (q : List NC), 2 * k ≤ l.length ∧ i = .int .i64 (k : Int) ∧ j = .int .i64 ((l.length : Int) - 1 - (k : Int)) ∧ Hid (RevS l q k) ∧ Hid (OwnK wr B 39 11 (.slice (some ⟨g, 0, none⟩) l.length c) (ncsCells q)) ∧ Hid (Below B w wr)) (fun i _ _ => l.length - (intOf i).toNat)
  case atStart => exact ⟨0, l, by omega, rfl, by simp, Lib.hid (revS_zero l), H0, Lib.hid (Below.refl _ _)⟩
  case round =>
    clear H0
    obtain ⟨k, q, hk, rfl, rfl, HR, HO, HX⟩ := hrel
    by_cases hlt : 2 * k + 1 < l.length
    case neg =>
      have hc : ¬ (k : Int) < (l.length : Int) - 1 - (k : Int) := by omega
      have HF := Lib.hid (revS_done HR.out (by omega) hk)
      clear hlt
      go_wp2_with fail
      refine bodyPost_end (v := .tuple #[]) ?_ rfl ⟨HX.out, rfl, by have := HO.out; rw [HF.out] at this; exact this⟩
      simp [results, Tryz.results120, go_sem]
    case pos =>
    have hc : (k : Int) < (l.length : Int) - 1 - (k : Int) := by omega
    obtain ⟨j, hj⟩ : ∃ j : Nat, j = l.length - 1 - k := ⟨_, rfl⟩
    have hji : (l.length : Int) - 1 - (k : Int) = (j : Int) := by omega
    have hjl : j < l.length := by omega
    have hkj : k < j := by omega
    have HJ := Lib.hid hj
    clear hj
    rw [hji] at hc ⊢
    obtain ⟨x, hx⟩ : ∃ x, q[k]? = some x := ⟨_, List.getElem?_eq_getElem (by rw [HR.out.1]; omega)⟩
    obtain ⟨y, hy⟩ : ∃ y, q[j]? = some y := ⟨_, List.getElem?_eq_getElem (by rw [HR.out.1]; omega)⟩
    obtain ⟨Aq, nq, cq, e9, hnq, hrow⟩ := HO.out
    injection e9 with e1 e2 e3
    subst e2 e3
    rcases hrow with ⟨h0, _⟩ | ⟨g', cur, hA, hge, hg, hnc, hcm, hcs, htk⟩
    · exfalso; omega
    rw [← e1] at hA
    injection hA with hA
    injection hA with hA
    subst hA
    have HRQ := Lib.hid (HO.out.rd : RdN wr _ q)
    obtain ⟨Ar, nr, cr, e9, hnr, _, _, hcl⟩ := RdN.at_ HRQ.out
    injection e9 with e4 e5 e6
    subst e5 e6
    obtain ⟨br, o0, e7, hbl, hcl⟩ := hcl (by omega)
    rw [← e4] at e7
    injection e7 with e7
    injection e7 with e8 e10 e11
    subst e8 e10
    obtain ⟨x0, x1, x2, x3, x4, x5, x6, x7, x8, x9, x10⟩ := hcl k x hx
    obtain ⟨y0, y1, y2, y3, y4, y5, y6, y7, y8, y9, y10⟩ := hcl j y hy
    simp only [Nat.zero_add] at x0 x1 x2 x3 x4 x5 x6 x7 x8 x9 x10 y0 y1 y2 y3 y4 y5 y6 y7 y8 y9 y10
    have hfz : ∀ j, wr.frozen? ⟨g, j, none⟩ = false := fun j => by simp [World.frozen?, hg]
    have gl : g < wr.heap.size := hbl
    have HCU := Lib.hid (And.intro hg (And.intro htk (And.intro hcs (And.intro hx (And.intro hy (And.intro hnc hcm))))))
    unfold maxLen at hcm
    clear hg hge hx hy hcs htk hcl e1 e4 e11 hnr hnq
    have h9 : k * 11 + 11 ≤ j * 11 := by omega
    have wi1 : IntKind.i64.wrap ((k : Int)) = (k : Int) := IntWalk.i64_in _ (by omega)
    have zi1 : (0 : Int) ≤ (k : Int) := by omega
    have li1 : (k : Int) < (l.length : Int) := by omega
    have ti1 : ((k : Int)).toNat = k := by omega
    have wi2 : IntKind.i64.wrap ((j : Int)) = (j : Int) := IntWalk.i64_in _ (by omega)
    have zi2 : (0 : Int) ≤ (j : Int) := by omega
    have li2 : (j : Int) < (l.length : Int) := by omega
    have ti2 : ((j : Int)).toNat = j := by omega
    have wk : IntKind.i64.wrap ((k : Int) + 1) = (k : Int) + 1 := IntWalk.i64_in _ (by omega)
    have wj : IntKind.i64.wrap ((j : Int) - 1) = (j : Int) - 1 := IntWalk.i64_in _ (by omega)
    go_upto_region 3 with fail
    obtain ⟨wc, hwc⟩ : ∃ wc, wc = ((((((((((((((((((((((wr.setCell ⟨g, k * 11, none⟩ (.string (bstr y.st))).setCell ⟨g, k * 11 + 1, none⟩ (.int .i64 y.kind)).setCell ⟨g, k * 11 + 2, none⟩ (.int .i64 y.num)).setCell ⟨g, k * 11 + 3, none⟩ (.int .i64 y.iss)).setCell ⟨g, k * 11 + 4, none⟩ (.int .i64 y.own)).setCell ⟨g, k * 11 + 5, none⟩ (.int .i64 y.key)).setCell ⟨g, k * 11 + 6, none⟩ (.int .i64 y.fr)).setCell ⟨g, k * 11 + 7, none⟩ (.int .i64 y.un)).setCell ⟨g, k * 11 + 8, none⟩ (.int .i64 y.to)).setCell ⟨g, k * 11 + 9, none⟩ (.int .i64 y.e)).setCell ⟨g, k * 11 + 10, none⟩ (.int .i64 y.s)).setCell ⟨g, j * 11, none⟩ (.string (bstr x.st))).setCell ⟨g, j * 11 + 1, none⟩ (.int .i64 x.kind)).setCell ⟨g, j * 11 + 2, none⟩ (.int .i64 x.num)).setCell ⟨g, j * 11 + 3, none⟩ (.int .i64 x.iss)).setCell ⟨g, j * 11 + 4, none⟩ (.int .i64 x.own)).setCell ⟨g, j * 11 + 5, none⟩ (.int .i64 x.key)).setCell ⟨g, j * 11 + 6, none⟩ (.int .i64 x.fr)).setCell ⟨g, j * 11 + 7, none⟩ (.int .i64 x.un)).setCell ⟨g, j * 11 + 8, none⟩ (.int .i64 x.to)).setCell ⟨g, j * 11 + 9, none⟩ (.int .i64 x.e)).setCell ⟨g, j * 11 + 10, none⟩ (.int .i64 x.s)).drew := ⟨_, rfl⟩
    have hcut : wc = (setL (setL wr g (k * 11) (ncCells y)) g (j * 11) (ncCells x)).drew := hwc
    go_region
    rw [← hwc]
    clear hwc
    obtain ⟨hg, htk, hcs, hx, hy, hnc', hcm'⟩ := HCU.out
    have HRN := Lib.hid (revS_next HR.out hlt hx (by rw [← HJ.out]; exact hy))
    have HON : Hid (OwnK wc B 39 11 (.slice (some ⟨g, 0, none⟩) l.length c) (ncsCells ((q.set k y).set (l.length - 1 - k) x))) := Lib.hid (by
      rw [hcut, ← HJ.out]
      exact own_swap HB.out hg htk hcs HR.out.1 (by omega) (by omega) hnc' hcm')
    have HXN : Hid (Below B w wc) := Lib.hid (by
      rw [hcut]
      exact (setL_belowB HB.out _ _ _ (setL_belowB HB.out _ _ _ HX.out)).drew)
    have hk2 : 2 * (k + 1) ≤ l.length := by omega
    have hjj := Lib.hid (show (j : Int) = (l.length : Int) - 1 - (k : Int) by have := HJ.out; omega)
    clear hg htk hcs hx hy hnc' hcm' hcut x0 x1 x2 x3 x4 x5 x6 x7 x8 x9 x10 y0 y1 y2 y3 y4 y5 y6 y7 y8 y9 y10 hfz gl hbl HCU HRQ HO HX HR hc
    go_wp2_with fail
    go_roundw
    case rel => exact ⟨k + 1, _, hk2, by go_num, by have := hjj.out; congr 1; omega, HRN, HON, HXN⟩
    case measure => simp [intOf]; omega
end Go.Proofs.YtmmoenkmicimcaaGreatDoor
namespace Go.Proofs.YtmmoenkmicimcaaGreatDoor
open Go.RowKit
set_option linter.unusedVariables false
set_option maxRecDepth 100000
theorem find_atG {α : Type} {p : α → Bool} : ∀ {l : List α} {k : Nat} {y : α}, l[k]? = some y → p y = true → (∀ (j : Nat) (a : α), j < k → l[j]? = some a → p a = false) → l.find? p = some y
  | [], k, y, h, _, _ => by simp at h
  | a :: l, 0, y, h, hp, _ => by
    have h : a = y := by simpa using h
    rw [h, List.find?_cons_of_pos hp]
  | a :: l, k + 1, y, h, hp, hn => by
    rw [List.find?_cons_of_neg (by rw [hn 0 a (Nat.zero_lt_succ _) rfl]; simp)]
    exact find_atG (k := k) (by simpa using h) hp fun j b hj hb => hn (j + 1) b (Nat.succ_lt_succ hj) (by simpa using hb)
theorem bef_fst {day : Int} {L : List NC} {x : NC} : (befI day L x < 0 ∧ fstF day L x = none) ∨ ∃ (i : Nat) (y : NC), befI day L x = (i : Int) ∧ L[i]? = some y ∧ fstF day L x = some y := by
  by_cases h : (L.any fun a => folB day a x) = true
  · right
    have e : befI day L x = ((L.findIdx fun a => folB day a x : Nat) : Int) := if_pos h
    obtain ⟨a, ha, hf⟩ := List.any_eq_true.1 h
    have hlt : (L.findIdx fun a => folB day a x) < L.length := List.findIdx_lt_length_of_exists ⟨a, ha, hf⟩
    refine ⟨_, L[L.findIdx fun a => folB day a x], e, List.getElem?_eq_getElem hlt, find_atG (List.getElem?_eq_getElem hlt) (List.findIdx_getElem (w := hlt)) fun j b hj hb => ?_⟩
    obtain ⟨hj2, rfl⟩ := List.getElem?_eq_some_iff.1 hb
    have := List.not_of_lt_findIdx hj
    simpa using this
  · left
    have e : befI day L x = -1 := if_neg h
    refine ⟨by rw [e]; decide, List.find?_eq_none.2 fun a ha hf => h (List.any_eq_true.2 ⟨a, ha, hf⟩)⟩
open Classical in
/-- What Path reports. -/
noncomputable def npK (roots pool : List NC) (c : NC) (day : Int) : Int :=
  if onN c day ≠ 0 then onN c day else if c.kind = 1 then 61 else if 32 < cntN roots c.st ∨ 32 < cntN pool c.st then 72 else if pathT day (trustT roots pool c.st day) c = none then 66 else 0
noncomputable def npL (roots pool : List NC) (c : NC) (day : Int) : List NC := if npK roots pool c day = 0 then (pathT day (trustT roots pool c.st day) c).getD [] else []
section
variable {roots pool : List NC} {c : NC} {day : Int}
theorem npK_on (h : onN c day ≠ 0) : npK roots pool c day = onN c day ∧ npL roots pool c day = [] := by
  have e : npK roots pool c day = onN c day := if_pos h
  exact ⟨e, by unfold npL; rw [if_neg (by rw [e]; exact h)]⟩
theorem npK_root (h : onN c day = 0) (h1 : c.kind = 1) : npK roots pool c day = 61 ∧ npL roots pool c day = [] := by
  have e : npK roots pool c day = 61 := by unfold npK; rw [if_neg (not_not_intro h), if_pos h1]
  exact ⟨e, by unfold npL; rw [if_neg (by rw [e]; decide)]⟩
theorem npK_many (h : onN c day = 0) (h1 : c.kind ≠ 1) (h2 : 32 < cntN roots c.st ∨ 32 < cntN pool c.st) : npK roots pool c day = 72 ∧ npL roots pool c day = [] := by
  have e : npK roots pool c day = 72 := by unfold npK; rw [if_neg (not_not_intro h), if_neg h1, if_pos h2]
  exact ⟨e, by unfold npL; rw [if_neg (by rw [e]; decide)]⟩
theorem npK_none (h : onN c day = 0) (h1 : c.kind ≠ 1) (h2 : ¬ (32 < cntN roots c.st ∨ 32 < cntN pool c.st)) (h3 : pathT day (trustT roots pool c.st day) c = none) : npK roots pool c day = 66 ∧ npL roots pool c day = [] := by
  have e : npK roots pool c day = 66 := by unfold npK; rw [if_neg (not_not_intro h), if_neg h1, if_neg h2, if_pos h3]
  exact ⟨e, by unfold npL; rw [if_neg (by rw [e]; decide)]⟩
theorem npK_some (h : onN c day = 0) (h1 : c.kind ≠ 1) (h2 : ¬ (32 < cntN roots c.st ∨ 32 < cntN pool c.st)) {p : List NC} (h3 : pathT day (trustT roots pool c.st day) c = some p) : npK roots pool c day = 0 ∧ npL roots pool c day = p := by
  have e : npK roots pool c day = 0 := by unfold npK; rw [if_neg (not_not_intro h), if_neg h1, if_neg h2, if_neg (by rw [h3]; simp)]
  exact ⟨e, by unfold npL; rw [if_pos e, h3]; rfl⟩
end
/-- Where a way back stands: c and the predecessors so far, the last of them x. -/
structure PtI (day : Int) (L : List NC) (c : NC) (ys : List NC) (x : NC) : Prop where
  last : (c :: ys).getLast? = some x
  back : ∀ b, BkN day L x b → BkN day L c (ys ++ b)
  idx : ys = [] ∨ (x ∈ L ∧ x.kind ≠ 1 ∧ L.idxOf x + ys.length ≤ L.length)
theorem ptI_zero (day : Int) (L : List NC) (c : NC) : PtI day L c [] c := ⟨rfl, fun b h => h, .inl rfl⟩
theorem PtI.none {day : Int} {L ys : List NC} {c x : NC} (h : PtI day L c ys x) (hl : Lad day L) (hf : fstF day L x = none) : pathT day L c = none := by
  rcases h.idx with h0 | ⟨h1, h2, _⟩
  · subst h0
    have := h.last
    have : c = x := by simpa using this
    subst this
    exact pathT_no hf
  · obtain ⟨z, hz, _⟩ := hl x h1 h2
    rw [hf] at hz
    cases hz
theorem PtI.root {day : Int} {L ys : List NC} {c x y : NC} (h : PtI day L c ys x) (hf : fstF day L x = some y) (hk : y.kind = 1) : pathT day L c = some ((c :: (ys ++ [y])).reverse) := pathT_of (h.back [y] (.root hf hk))
theorem PtI.step {day : Int} {L ys : List NC} {c x y : NC} (h : PtI day L c ys x) (hl : Lad day L) (hf : fstF day L x = some y) (hk : y.kind ≠ 1) : PtI day L c (ys ++ [y]) y := by
  have hy := fstF_mem hf
  refine ⟨by rw [← List.cons_append, List.getLast?_append]; rfl, fun b hb => by rw [List.append_assoc]; exact h.back (y :: b) (.step hf hk hb), .inr ⟨hy.1, hk, ?_⟩⟩
  rw [List.length_append]
  simp only [List.length_cons, List.length_nil]
  rcases h.idx with h0 | ⟨h1, h2, h3⟩
  · subst h0
    have := idx_lt hy.1
    simp only [List.length_nil]
    omega
  · obtain ⟨z, hz, hlt⟩ := hl x h1 h2
    rw [hf] at hz
    injection hz with hz
    subst hz
    omega
theorem PtI.len {day : Int} {L ys : List NC} {c x : NC} (h : PtI day L c ys x) : ys.length ≤ L.length := by
  rcases h.idx with h0 | ⟨_, _, h3⟩
  · rw [h0]; exact Nat.zero_le _
  · omega
/-- What Path returns. -/
def RetP (w : World) (l : List NC) (k : Int) (e : Ending) (w' : World) : Prop := Ext w w' ∧ ∃ (A : Option Addr) (cp : Nat), e = .returned (.tuple #[.slice A l.length cp, .int .i64 k]) ∧ RdN w' (.slice A l.length cp) l
theorem retP_nil {w w' : World} {l : List NC} {k k' : Int} (e : Ext w w') (h1 : k = k') (h2 : l = []) : RetP w l k (.returned (.tuple #[.slice none 0 0, .int .i64 k'])) w' := by
  subst h1 h2
  exact ⟨e, none, 0, rfl, RdN.nil_ _ _⟩
set_option maxHeartbeats 8000000 in
theorem npath_any {v1 v2 : Value} {roots pool : List NC} (c : NC) (day : Int) (w : World) (h1 : RdN w v1 roots) (h2 : RdN w v2 pool) (hs1 : smL roots) (hs2 : smL pool) (hc : smN c) (hl : roots.length + pool.length ≤ 900000) (E : KTab w 1) :
    Calls Tryz.prog 78 #[v1, v2, ncV c, .int .i64 day] w (RetP w (npL roots pool c day) (npK roots pool c day)) := by
  have HON := Lib.hid (fun W => nationalcert_on c day W hc)
  have HN1 := Lib.hid (fun W (e : Ext w W) => numberN_any c.st W (RdK.ext h1 e))
  have HN2 := Lib.hid (fun W (e : Ext w W) => numberN_any c.st W (RdK.ext h2 e))
  have HFI := Lib.hid (fun W (e : Ext w W) => find_any c.st day W (RdK.ext h1 e) (RdK.ext h2 e) hs1 hs2 hl (E.below e))
  have HBE := Lib.hid (fun (B S : Nat) (v1 v2 : Value) (L : List NC) (R : List Int) (x : NC) (n : Nat) (W : World) (e : Ext w W) (hS : SeAt W B S day v1 v2 L R) (hn : n ≤ L.length) (hl : L.length ≤ 1000000) (hR : Srt R) (hs : smL L) (hx : smN x) => before_any x n W hS hn hl hR hs hx (E.below e))
  have HSC := Lib.hid hc
  obtain ⟨wz, hwz, ez, TZ⟩ := nc_alloc w c
  obtain ⟨rk, hrk⟩ : ∃ r, npK roots pool c day = r := ⟨_, rfl⟩
  obtain ⟨rl, hrl⟩ : ∃ r, npL roots pool c day = r := ⟨_, rfl⟩
  rw [hrk, hrl]
  have HK1 := Lib.hid hrk
  have HK2 := Lib.hid hrl
  unfold ncV
  clear hrk hrl h1 h2 hs1 hs2 hc E
  go_enter Tryz.func78, Tryz.ntmps78
  go_upto_region 1 with fail
  rw [← hwz]
  clear hwz
  obtain ⟨p0, p1, p2, p3, p4, p5, p6, p7, p8, p9, p10⟩ := (TZ).cells
  have pf0 := (TZ).frozen 0
  have pf1 := (TZ).frozen 1
  have pf2 := (TZ).frozen 2
  have pf3 := (TZ).frozen 3
  have pf4 := (TZ).frozen 4
  have pf5 := (TZ).frozen 5
  have pf6 := (TZ).frozen 6
  have pf7 := (TZ).frozen 7
  have pf8 := (TZ).frozen 8
  have pf9 := (TZ).frozen 9
  have pf10 := (TZ).frozen 10
  have pl := (TZ).lt
  go_wp2_with fail
  refine (HON.out _).mono ?_
  rintro e w2 ⟨rfl, b2⟩
  have T2 := TZ.ext b2
  have X2 := Lib.hid (ez.tr b2)
  clear p0 pf0 p1 pf1 p2 pf2 p3 pf3 p4 pf4 p5 pf5 p6 pf6 p7 pf7 p8 pf8 p9 pf9 p10 pf10 pl
  clear TZ ez b2
  by_cases o1 : onN c day = 0
  case neg =>
    have hb : (onN c day != 0) = true := by simpa using o1
    have HN := Lib.hid (by have q := npK_on (roots := roots) (pool := pool) o1; rw [HK1.out, HK2.out] at q; exact q : rk = onN c day ∧ rl = [])
    clear o1 T2
    go_wp2_with fail
    refine bodyPost_ret (results_tmp2 rfl _ _ _) rfl ?_
    exact retP_nil X2.out HN.out.1 HN.out.2
  have hb : (onN c day != 0) = false := by simp [o1]
  have O1 := Lib.hid o1
  clear o1
  obtain ⟨p0, p1, p2, p3, p4, p5, p6, p7, p8, p9, p10⟩ := (T2).cells
  have pf0 := (T2).frozen 0
  have pf1 := (T2).frozen 1
  have pf2 := (T2).frozen 2
  have pf3 := (T2).frozen 3
  have pf4 := (T2).frozen 4
  have pf5 := (T2).frozen 5
  have pf6 := (T2).frozen 6
  have pf7 := (T2).frozen 7
  have pf8 := (T2).frozen 8
  have pf9 := (T2).frozen 9
  have pf10 := (T2).frozen 10
  have pl := (T2).lt
  by_cases o2 : c.kind = 1
  · have hb2 : (c.kind == 1) = true := by simpa using o2
    have HN := Lib.hid (by have q := npK_root (roots := roots) (pool := pool) O1.out o2; rw [HK1.out, HK2.out] at q; exact q : rk = 61 ∧ rl = [])
    clear o2
    go_wp2_with fail
    refine bodyPost_ret (results_tmp2 rfl _ _ _) rfl ?_
    exact retP_nil X2.out HN.out.1 HN.out.2
  have hb2 : (c.kind == 1) = false := by simpa using o2
  have O2 := Lib.hid o2
  clear o2
  go_wp2_with fail
  refine (HN1.out _ X2.out).mono ?_
  rintro e w3 ⟨rfl, b3⟩
  have T3 := T2.ext b3
  have X3 := Lib.hid (X2.out.tr b3)
  clear p0 pf0 p1 pf1 p2 pf2 p3 pf3 p4 pf4 p5 pf5 p6 pf6 p7 pf7 p8 pf8 p9 pf9 p10 pf10 pl
  clear T2 X2 b3
  by_cases o3 : 32 < cntN roots c.st
  · have hb3 : (32 : Int) < (cntN roots c.st : Int) := by omega
    have HN := Lib.hid (by have q := npK_many (roots := roots) (pool := pool) O1.out O2.out (.inl o3); rw [HK1.out, HK2.out] at q; exact q : rk = 72 ∧ rl = [])
    clear o3
    generalize (cntN roots c.st : Int) = z at *
    go_wp2_with fail
    refine bodyPost_ret (results_tmp2 rfl _ _ _) rfl ?_
    exact retP_nil X3.out HN.out.1 HN.out.2
  have hb3 : ¬ (32 : Int) < (cntN roots c.st : Int) := by omega
  have O3 := Lib.hid o3
  clear o3
  generalize (cntN roots c.st : Int) = z1 at *
  obtain ⟨p0, p1, p2, p3, p4, p5, p6, p7, p8, p9, p10⟩ := (T3).cells
  have pf0 := (T3).frozen 0
  have pf1 := (T3).frozen 1
  have pf2 := (T3).frozen 2
  have pf3 := (T3).frozen 3
  have pf4 := (T3).frozen 4
  have pf5 := (T3).frozen 5
  have pf6 := (T3).frozen 6
  have pf7 := (T3).frozen 7
  have pf8 := (T3).frozen 8
  have pf9 := (T3).frozen 9
  have pf10 := (T3).frozen 10
  have pl := (T3).lt
  go_wp2_with fail
  refine (HN2.out _ X3.out).mono ?_
  rintro e w4 ⟨rfl, b4⟩
  have T4 := T3.ext b4
  have X4 := Lib.hid (X3.out.tr b4)
  clear p0 pf0 p1 pf1 p2 pf2 p3 pf3 p4 pf4 p5 pf5 p6 pf6 p7 pf7 p8 pf8 p9 pf9 p10 pf10 pl
  clear T3 X3 b4
  by_cases o4 : 32 < cntN pool c.st
  · have hb4 : (32 : Int) < (cntN pool c.st : Int) := by omega
    have HN := Lib.hid (by have q := npK_many (roots := roots) (pool := pool) O1.out O2.out (.inr o4); rw [HK1.out, HK2.out] at q; exact q : rk = 72 ∧ rl = [])
    clear o4
    generalize (cntN pool c.st : Int) = z at *
    go_wp2_with fail
    refine bodyPost_ret (results_tmp2 rfl _ _ _) rfl ?_
    exact retP_nil X4.out HN.out.1 HN.out.2
  have hb4 : ¬ (32 : Int) < (cntN pool c.st : Int) := by omega
  have O4 := Lib.hid (show ¬ (32 < cntN roots c.st ∨ 32 < cntN pool c.st) from fun q => q.elim O3.out o4)
  clear o4 O3
  generalize (cntN pool c.st : Int) = z2 at *
  obtain ⟨p0, p1, p2, p3, p4, p5, p6, p7, p8, p9, p10⟩ := (T4).cells
  have pf0 := (T4).frozen 0
  have pf1 := (T4).frozen 1
  have pf2 := (T4).frozen 2
  have pf3 := (T4).frozen 3
  have pf4 := (T4).frozen 4
  have pf5 := (T4).frozen 5
  have pf6 := (T4).frozen 6
  have pf7 := (T4).frozen 7
  have pf8 := (T4).frozen 8
  have pf9 := (T4).frozen 9
  have pf10 := (T4).frozen 10
  have pl := (T4).lt
  have HLA := Lib.hid (lad_trust roots pool c.st day)
  have HFX := Lib.hid (HFI.out w4 X4.out)
  clear HFI
  go_wp2_with fail
  refine HFX.out.mono ?_
  rintro e w5 ⟨x5, S, u1, u2, R, rfl, hS, zs, rd, hI⟩
  have T5 := T4.ext x5
  have X5 := Lib.hid (X4.out.tr x5)
  obtain ⟨B1, d1, B2, d2, rfl, rfl, hd1, hd2, hm1, hm2⟩ := zs.forms
  have HZS := Lib.hid zs
  have HIF := Lib.hid hI
  have HK9 := Lib.hid (fun (p : List NC) (h : pathT day (trustT roots pool c.st day) c = some p) => (by have q := npK_some (roots := roots) (pool := pool) O1.out O2.out O4.out h; rw [HK1.out, HK2.out] at q; exact q : rk = 0 ∧ rl = p))
  have HK8 := Lib.hid (fun (h : pathT day (trustT roots pool c.st day) c = none) => (by have q := npK_none (roots := roots) (pool := pool) O1.out O2.out O4.out h; rw [HK1.out, HK2.out] at q; exact q : rk = 66 ∧ rl = []))
  have HLB := Lib.hid (show (trustT roots pool c.st day).length ≤ 900000 by have := hI.bd; omega)
  clear p0 pf0 p1 pf1 p2 pf2 p3 pf3 p4 pf4 p5 pf5 p6 pf6 p7 pf7 p8 pf8 p9 pf9 p10 pf10 pl
  clear T4 X4 zs hI x5 hS HFX HK1 HK2 O4
  unfold maxLen at hm1 hm2
  generalize trustT roots pool c.st day = L at *
  obtain ⟨p0, p1, p2, p3, p4, p5, p6, p7, p8, p9, p10⟩ := (T5).cells
  have pf0 := (T5).frozen 0
  have pf1 := (T5).frozen 1
  have pf2 := (T5).frozen 2
  have pf3 := (T5).frozen 3
  have pf4 := (T5).frozen 4
  have pf5 := (T5).frozen 5
  have pf6 := (T5).frozen 6
  have pf7 := (T5).frozen 7
  have pf8 := (T5).frozen 8
  have pf9 := (T5).frozen 9
  have pf10 := (T5).frozen 10
  have pl := (T5).lt
  obtain ⟨wl, hwl⟩ : ∃ wl, wl = w5.alloc (ncO c) := ⟨_, rfl⟩
  have el : Ext w5 wl := by rw [hwl]; exact (Below.refl _ _).alloc (Nat.le_refl _) _
  have ZL : Hid (LsZ w5 wl (.slice (some ⟨w5.heap.size, 0, none⟩) [c].length 1) [c]) := Lib.hid ⟨el, by
    rw [hwl]
    have := OwnK.lit w5 11 (ncCells c).toArray 39 1 rfl (by unfold maxLen; omega)
    have e1 : (ncCells c).toArray.toList = ncsCells [c] := by simp [ncsCells]
    rw [e1] at this
    exact this, _, _, rfl⟩
  have HP0 := Lib.hid (ptI_zero day L c)
  go_wp2_with fail
  rw [← hwl]
  clear hwl el
  clear p0 pf0 p1 pf1 p2 pf2 p3 pf3 p4 pf4 p5 pf5 p6 pf6 p7 pf7 p8 pf8 p9 pf9 p10 pf10 pl
  clear T5
  go_loopw [12] (fun out wr => ∃ (ys : List NC) (x : NC), Hid (LsZ w5 wr out (c :: ys)) ∧ Hid (PtI day L c ys x) ∧ Hid (smL (c :: ys))) (fun out _ => L.length + 2 - lenS9 out)
  case atStart => exact ⟨[], c, ZL, HP0, Lib.hid (fun q hq => by rw [List.mem_singleton.1 hq]; exact HSC.out)⟩
  case round =>
    clear ZL HP0
    obtain ⟨ys, x, Z, HP, HSM⟩ := hrel
    obtain ⟨Ao, co, rfl⟩ := Z.out.form
    have hyl := HP.out.len
    have HZ5 := Lib.hid (HZS.out.ext Z.out.ext)
    have hXW := Z.out.ext
    have hlx := HP.out.last
    have hx : (c :: ys)[(c :: ys).length - 1]? = some x := by rw [← List.getLast?_eq_getElem?]; exact hlx
    have HSX := Lib.hid (HSM.out x (List.mem_of_getElem? hx))
    obtain ⟨Ar, nr, cr, e9, hnr, _, hcr, hcl⟩ := RdN.at_ Z.out.rd
    injection e9 with e1 e2 e3
    subst e1 e2 e3
    clear hnr
    obtain ⟨bo, oo, rfl, hbo, hcl⟩ := hcl (by simp)
    have hcx := hcl _ x hx
    clear hcl hx hlx
    generalize hacc : (c :: ys).length = la at *
    have hla : la = ys.length + 1 := by rw [← hacc]; rfl
    have hla1 : 1 ≤ la := by omega
    have hlaL : la ≤ L.length + 1 := by omega
    have HLQ := Lib.hid hla
    clear hla
    have HLA2 := Lib.hid hacc
    clear hacc
    unfold maxLen at hcr
    have wi1 : IntKind.i64.wrap ((la : Int) - 1) = (la : Int) - 1 := IntWalk.i64_in _ (by omega)
    have zi1 : (0 : Int) ≤ (la : Int) - 1 := by omega
    have li1 : (la : Int) - 1 < (la : Int) := by omega
    have ti1 : ((la : Int) - 1).toNat = la - 1 := by omega
    go_upto_region 10 with fail
    refine Gd.wp_region_X 14 (by kernel_rfl) (by kernel_rfl) ?_
    simp only [List.take_succ_cons, List.take_zero, List.drop_succ_cons, List.drop_zero]
    intro wq hw1
    have LL : ∀ m : Lt wq, Ext wr m.1 := fun m => hw1.tr m.2
    have L5 : ∀ m : Lt wq, Ext w5 m.1 := fun m => hXW.tr (LL m)
    have LW : ∀ m : Lt wq, Ext w m.1 := fun m => X5.out.tr (L5 m)
    have s0 := fun m : Lt wq => (HZ5.out.ext (LL m)).cells.1
    have s1 := fun m : Lt wq => (HZ5.out.ext (LL m)).cells.2.1
    have s2 := fun m : Lt wq => (HZ5.out.ext (LL m)).cells.2.2
    have q0 := fun m : Lt wq => ((LL m).cell (p := ⟨bo, oo + (la - 1) * 11, none⟩) hbo).trans hcx.1
    have q1 := fun m : Lt wq => ((LL m).cell (p := ⟨bo, oo + (la - 1) * 11 + 1, none⟩) hbo).trans hcx.2.1
    have q2 := fun m : Lt wq => ((LL m).cell (p := ⟨bo, oo + (la - 1) * 11 + 2, none⟩) hbo).trans hcx.2.2.1
    have q3 := fun m : Lt wq => ((LL m).cell (p := ⟨bo, oo + (la - 1) * 11 + 3, none⟩) hbo).trans hcx.2.2.2.1
    have q4 := fun m : Lt wq => ((LL m).cell (p := ⟨bo, oo + (la - 1) * 11 + 4, none⟩) hbo).trans hcx.2.2.2.2.1
    have q5 := fun m : Lt wq => ((LL m).cell (p := ⟨bo, oo + (la - 1) * 11 + 5, none⟩) hbo).trans hcx.2.2.2.2.2.1
    have q6 := fun m : Lt wq => ((LL m).cell (p := ⟨bo, oo + (la - 1) * 11 + 6, none⟩) hbo).trans hcx.2.2.2.2.2.2.1
    have q7 := fun m : Lt wq => ((LL m).cell (p := ⟨bo, oo + (la - 1) * 11 + 7, none⟩) hbo).trans hcx.2.2.2.2.2.2.2.1
    have q8 := fun m : Lt wq => ((LL m).cell (p := ⟨bo, oo + (la - 1) * 11 + 8, none⟩) hbo).trans hcx.2.2.2.2.2.2.2.2.1
    have q9 := fun m : Lt wq => ((LL m).cell (p := ⟨bo, oo + (la - 1) * 11 + 9, none⟩) hbo).trans hcx.2.2.2.2.2.2.2.2.2.1
    have q10 := fun m : Lt wq => ((LL m).cell (p := ⟨bo, oo + (la - 1) * 11 + 10, none⟩) hbo).trans hcx.2.2.2.2.2.2.2.2.2.2
    repeat (first | (refine Gd.wpX_nil (Gd.gR rfl) _ rfl rfl rfl rfl rfl ?_; simp only [Act.put, List.setIfInBounds_toArray, List.set_cons_zero, List.set_cons_succ]) | (refine Gd.wpX_pureP rfl fun K hK => ?_; go_big_quiet_op; refine hK _ ?_; clear hK K))
    refine Gd.wpX_callFn (Gd.gR rfl) (.int .i64 (befI day L x)) (args := [.pointer (some ⟨S, 0, none⟩), ncV x, .int .i64 (L.length : Int)]) rfl rfl rfl rfl (by kernel_rfl) rfl rfl (fun m => (by have q := HBE.out _ _ _ _ _ _ x L.length m.1 (LW m) (HZ5.out.ext (LL m)) (Nat.le_refl _) (by have := HLB.out; omega) HIF.out.srt HIF.out.sm HSX.out; rw [List.take_length] at q; exact q.mono fun _ _ ⟨h1, h2⟩ => ⟨h1, h2⟩)) ?_
    simp only [Act.put, List.setIfInBounds_toArray, List.set_cons_zero, List.set_cons_succ]
    repeat (first | (refine Gd.wpX_nil (Gd.gR rfl) _ rfl rfl rfl rfl rfl ?_; simp only [Act.put, List.setIfInBounds_toArray, List.set_cons_zero, List.set_cons_succ]) | (refine Gd.wpX_pureP rfl fun K hK => ?_; go_big_quiet_op; refine hK _ ?_; clear hK K))
    refine Gd.wpX_end0 (fun m => ?_)
    have Lm := LL m
    obtain ⟨wm, hwm⟩ := m
    have Lm : Ext wr wm := Lm
    have ZM := Lib.hid (Z.out.tr Lm)
    have ZS := Lib.hid (HZ5.out.ext Lm)
    clear LL L5 LW s0 s1 s2 q0 q1 q2 q3 q4 q5 q6 q7 q8 q9 q10 hw1 Lm hcx hXW Z HZ5
    show wpList _ _ _ _ _ _
    rcases (bef_fst (day := day) (L := L) (x := x)) with ⟨hz, hf⟩ | ⟨i, y, hz, hy, hf⟩
    · have HN := Lib.hid (HK8.out (HP.out.none HLA.out hf))
      have HX := Lib.hid (X5.out.tr ZM.out.ext)
      clear hf
      generalize befI day L x = z at *
      go_wp2_with fail
      refine bodyPost_ret (results_tmp2 rfl _ _ _) rfl ?_
      exact retP_nil HX.out HN.out.1 HN.out.2
    rw [hz]
    have HF := Lib.hid hf
    have hi : i < L.length := (List.getElem?_eq_some_iff.1 hy).1
    obtain ⟨r, hr⟩ : ∃ r, R[i]? = some r := ⟨_, List.getElem?_eq_getElem (by rw [ZS.out.len]; exact hi)⟩
    have HKD := Lib.hid (HIF.out.kd i y r hy hr)
    have HSY := Lib.hid (HIF.out.sm y (List.mem_of_getElem? hy))
    obtain ⟨A3, n3, c3, e9, hn3, _, _, hcl⟩ := RdN.at_ (ZS.out.own1.rd : RdN wm _ L)
    injection e9 with e1 e2 e3
    subst e1 e2 e3
    clear hn3
    obtain ⟨b3, o3, rfl, hb3', hcl⟩ := hcl (by omega)
    obtain ⟨b4, o4, rfl, hb4', hcl4⟩ := ints_at HZS.out.own2 (by omega)
    obtain ⟨y0, y1, y2, y3, y4, y5, y6, y7, y8, y9, y10⟩ := hcl i y hy
    have hr4 := hcl4 i r hr
    obtain ⟨s0, s1, s2⟩ := ZS.out.cells
    have sl := ZS.out.lt
    clear hz hf hy hr hcl hcl4
    have wi2 : IntKind.i64.wrap ((i : Int)) = (i : Int) := IntWalk.i64_in _ (by omega)
    have zi2 : (0 : Int) ≤ (i : Int) := by omega
    have li2 : (i : Int) < (L.length : Int) := by omega
    have ti2 : ((i : Int)).toNat = i := by omega
    have hin : ¬ ((i : Int) < 0) := by omega
    have eA : Ext wm (wm.alloc (.cells (ncCells y).toArray 39)) := (Below.refl _ _).alloc (Nat.le_refl _) _
    have HRK := Lib.hid (ls_one wm y)
    have HOA := Lib.hid (ZM.out.tr eA)
    unfold ncCells at HRK HOA
    clear eA
    have HPS := Lib.hid (fun (hk : y.kind ≠ 1) => HP.out.step HLA.out HF.out hk)
    have HPR := Lib.hid (fun (hk : y.kind = 1) => HK9.out _ (HP.out.root HF.out hk))
    have HSM2 : Hid (smL (c :: (ys ++ [y]))) := Lib.hid (by
      rw [← List.cons_append]
      exact HSM.out.app fun q hq => by rw [List.mem_singleton.1 hq]; exact HSY.out)
    by_cases r0 : r = 0
    · have hb0 : (r == 0) = true := by simp [r0]
      have HN := Lib.hid (HPR.out (HKD.out.1 r0))
      clear r0
      go_wp2_with (refine wpList_appK (k := 11) (by decide) elemNc (n := la) (m := 1) (B := w5.heap.size) HOA.out.own (by rw [ncsCells_len, HLA2.out]) HRK.out (by rfl) (ncCells_one y) HOA.out.ext (by have := HLB.out; omega) (by have := HLB.out; unfold maxLen; omega) HOA.out.ext.size rfl rfl rfl rfl ?_; intro A8 n8 c8 w8 hn8 o8 x8 _; obtain ⟨t0, t1, t2⟩ := SeAt.cells (SeAt.ext HZS.out x8); have tl := SeAt.lt (SeAt.ext HZS.out x8); have r8 := (Below.cell x8 (p := ⟨b4, o4 + i, none⟩) hb4').trans hr4)
      have hn8 : n8 = (c :: (ys ++ [y])).length := by have := hn8.out; have := HLQ.out; simp; omega
      subst hn8
      have HZ9 : Hid (LsZ w5 w8 (.slice A8 (c :: (ys ++ [y])).length c8) (c :: (ys ++ [y]))) := Lib.hid ⟨x8, by rw [← List.cons_append, ← ncsCells_snoc]; exact o8, _, _, rfl⟩
      have HX := Lib.hid (X5.out.tr x8)
      clear t0 t1 t2 tl r8 x8 o8
      refine (reverse_any w8 HZ9.out.own (by simp) (by have := hlaL; have := HLQ.out; have := HLB.out; simp; omega)).mono ?_
      rintro e w9 ⟨b9, rfl, o9⟩
      have HO9 := Lib.hid o9
      have HX9 : Hid (Ext w w9) := Lib.hid (Below.trans HX.out (b9.mono X5.out.size))
      clear b9 o9
      go_wp2_with fail
      refine bodyPost_ret (results_tmp2 rfl _ _ _) rfl ?_
      refine ⟨HX9.out, A8, c8, ?_, ?_⟩
      · rw [HN.out.1, HN.out.2, List.length_reverse, show (c :: (ys ++ [y])).length = ys.length + 1 + 1 by simp]; rfl
      · rw [HN.out.2, List.length_reverse]; exact HO9.out.rd
    · have hb0 : (r == 0) = false := by simpa using r0
      have HK := Lib.hid (HPS.out (fun q => r0 (HKD.out.2 q)))
      clear r0
      go_wp2_with (refine wpList_appK (k := 11) (by decide) elemNc (n := la) (m := 1) (B := w5.heap.size) HOA.out.own (by rw [ncsCells_len, HLA2.out]) HRK.out (by rfl) (ncCells_one y) HOA.out.ext (by have := HLB.out; omega) (by have := HLB.out; unfold maxLen; omega) HOA.out.ext.size rfl rfl rfl rfl ?_; intro A8 n8 c8 w8 hn8 o8 x8 _; obtain ⟨t0, t1, t2⟩ := SeAt.cells (SeAt.ext HZS.out x8); have tl := SeAt.lt (SeAt.ext HZS.out x8); have r8 := (Below.cell x8 (p := ⟨b4, o4 + i, none⟩) hb4').trans hr4)
      have hn8 : n8 = (c :: (ys ++ [y])).length := by have := hn8.out; have := HLQ.out; simp; omega
      subst hn8
      have HZ9 : Hid (LsZ w5 w8 (.slice A8 (c :: (ys ++ [y])).length c8) (c :: (ys ++ [y]))) := Lib.hid ⟨x8, by rw [← List.cons_append, ← ncsCells_snoc]; exact o8, _, _, rfl⟩
      clear t0 t1 t2 tl r8 x8 o8
      go_roundw
      case rel => exact ⟨ys ++ [y], y, HZ9, HK, HSM2⟩
      case measure => have := HLQ.out; simp [lenS9]; omega
end Go.Proofs.YtmmoenkmicimcaaGreatDoor
namespace Go.Proofs.YtmmoenkmicimcaaGreatDoor
open Go.RowKit
set_option linter.unusedVariables false
section
variable {roots pool : List NC} {c : NC} {day : Int}
theorem cnt_le (l : List NC) (st : List UInt8) (h : l.length ≤ 32) : ¬ 32 < cntN l st := by have := num_le l st; omega
end
end Go.Proofs.YtmmoenkmicimcaaGreatDoor
