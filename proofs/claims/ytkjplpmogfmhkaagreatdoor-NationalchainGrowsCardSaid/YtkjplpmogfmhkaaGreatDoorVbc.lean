/- Parts Jw Jz Kc Kd of the proof. -/
import Derived.Test.YtkjplpmogfmhkaaGreatDoorVbb
import Derived.Test.YtkjplpmogfmhkaaGreatDoorVax
import Derived.Deep.MidRow
import Derived.Test.YtkjplpmogfmhkaaGreatDoorVba
import Derived.Deep.CutRange
namespace Go.Proofs.YtkjplpmogfmhkaaGreatDoor
open Go.RowKit
set_option linter.unusedVariables false
set_option maxRecDepth 100000
theorem setCells_setL (g : Nat) : ∀ (vs : List Value) (i : Nat) (w : World), w.setCells g i vs = setL w g i vs
  | [], i, w => rfl
  | v :: vs, i, w => setCells_setL g vs (i + 1) _
theorem Gb.setCells (g : Nat) : ∀ (vs : List Value) (i : Nat) (w : World), Gb g w (w.setCells g i vs)
  | [], i, w => Gb.refl _ _
  | v :: vs, i, w => (Gb.set g i w v).tr (Gb.setCells g vs (i + 1) _)
theorem OwnK.setAt {w : World} {B n c : Nat} {A : Option Addr} {l : List NC} {i : Nat} (h : OwnK w B 56 11 (.slice A n c) (ncsCells l)) (hi : i < l.length) (x : NC) :
    ∃ g, A = some ⟨g, 0, none⟩ ∧ B ≤ g ∧ w.there g (i * 11) 11 ∧ g < w.heap.size ∧ c ≠ 0 ∧ OwnK (w.setCells g (i * 11) (ncCells x)) B 56 11 (.slice A n c) (ncsCells (l.set i x)) := by
  obtain ⟨A', n', c', e, hn, h⟩ := h
  injection e with e1 e2 e3
  subst e1 e2 e3
  rw [ncsCells_len] at hn
  obtain rfl : n = l.length := by omega
  rcases h with ⟨h0, _⟩ | ⟨g, cur, rfl, hB, hg, hnc, hcm, hcs, ht⟩
  · omega
  · refine ⟨g, rfl, hB, fun j hj => ⟨?_, by simp [World.frozen?, hg]⟩, block_lt hg, by omega, ?_⟩
    · rw [cell_of_row w g _ cur _ _ hg]
      simp
      have : i * 11 + 11 ≤ c * 11 := by have : (i + 1) * 11 ≤ c * 11 := Nat.mul_le_mul_right _ (by omega); omega
      omega
    · rw [setCells_setL]
      have hcc : cur.toList = ncsCells l ++ cur.toList.drop (l.length * 11) := by rw [← ht, List.take_append_drop]
      have h1 : w.heap[g]? = some (.cells (ncsCells l ++ cur.toList.drop (l.length * 11)).toArray 56 (0, 0)) := by rw [hg, ← hcc, Array.toArray_toList]
      have h2 := setL_setN w g h1 rfl i hi x
      have hl : (l.set i x).length = l.length := List.length_set
      have hls : (ncsCells (l.set i x)).length = l.length * 11 := by rw [ncsCells_len, hl]
      have hlc : l.length * 11 ≤ c * 11 := Nat.mul_le_mul_right _ hnc
      refine ⟨_, l.length, c, rfl, hls.symm, .inr ⟨g, _, rfl, hB, h2, hnc, hcm, ?_, ?_⟩⟩
      · have hcl : cur.toList.length = c * 11 := by rw [Array.length_toList, hcs]
        show (ncsCells (l.set i x) ++ cur.toList.drop (l.length * 11)).length = c * 11
        rw [List.length_append, hls, List.length_drop, hcl]
        omega
      · show (ncsCells (l.set i x) ++ _).take _ = _
        rw [← hls]
        exact List.take_left
theorem ncCells_arr (c : NC) : (ncCells c).toArray.all (·.oneCell') = true := ncRow_one c
/-- A certificate stored in the middle of a block. -/
theorem wpMid_store {P : Program} {ops : Array Oper} {rest : List Oper} {o : Oper} {a : Act} {w : World} {Q : Exit → Act → World → Prop} (hgd : o.guard = none) (ty : TypeId) (x y : Operand) (ho : o.op = .store ty x y) (hd : o.dst = none)
    (b f : Nat) (cells : List Value) (hx : a.eval x = .pointer (some ⟨b, f, none⟩)) (hy : a.eval y = .agg cells.toArray)
    (ht : w.there b f cells.length) (hi : (P.info? ty).map (·.size) = some cells.length) (h1 : cells.toArray.all (·.oneCell') = true)
    (h : wpList P ops Q rest a (w.setCells b f cells)) : wpList P ops Q (o :: rest) a w :=
  wpList_store_mid hgd ty x y ho b f cells.toArray hx hy ht hi h1 (by rw [hd]; exact h)
/-- Worlds in which only the dice's place moves. -/
def dcR (D b : Nat) : Gr.Rl where
  rel w w' := Gb D w w' ∧ ((∃ M, DiceAt w D b M) → ∃ M, DiceAt w' D b M)
  refl w := ⟨Gb.refl _ _, id⟩
  tr h k := ⟨h.1.tr k.1, fun q => k.2 (h.2 q)⟩
  ext e := ⟨Gb.of _ e, fun ⟨M, h⟩ => ⟨M, h.ext e⟩⟩
theorem dcR_next {D b : Nat} {w : World} (n : Int) (h : ∃ M, DiceAt w D b M) (n1 : 1 ≤ n) (n2 : n ≤ 4611686018427387904) :
    Calls Tryz.prog 111 #[.pointer (some ⟨D, 0, none⟩), .int .i64 n] w fun e w' => ∃ v, e = .returned v ∧ (dcR D b).rel w w' ∧ ∃ z : Int, v = .int .i64 z ∧ 0 ≤ z ∧ z < n := by
  obtain ⟨M, h⟩ := h
  exact (next_any n w h n2).mono fun e w' ⟨q1, q2, q3, q4⟩ => ⟨_, q1, ⟨q2, fun _ => ⟨_, q3⟩⟩, dv M n, rfl, (dv_bd M n1).1, (dv_bd M n1).2⟩
theorem PoI.dc {w wr wx : World} {B D b P : Nat} {day : Int} {R L T : Value} {vs : List (Value × List NC)} (h : PoI w B D b P day R L T vs wr) (q : PoB w B D b P) (r : (dcR D b).rel wr wx) : PoI w B D b P day R L T vs wx :=
  ⟨Gb.below h.ext r.1 (Nat.le_of_lt q.D1), r.2 h.dice, h.rz.gb r.1 (Nat.ne_of_lt q.D1), h.po.gb r.1 (fun e => q.DP e.symm), h.fam.gbB q.D2 r.1, by have := r.1.size; have := h.size; omega⟩
/-- An element stored. -/
theorem PoI.setC {w wr : World} {B D b P : Nat} {day : Int} {R L T : Value} {t : List (Value × List NC)} {gL n c i : Nat} {xs : List NC} {x : NC} (h : PoI w B D b P day R L T ((.slice (some ⟨gL, 0, none⟩) n c, xs) :: t) wr) (q : PoB w B D b P) (hc : c ≠ 0) (o : OwnK (wr.setCells gL (i * 11) (ncCells x)) B 56 11 (.slice (some ⟨gL, 0, none⟩) n c) (ncsCells (xs.set i x))) :
    PoI w B D b P day R L T ((.slice (some ⟨gL, 0, none⟩) n c, xs.set i x) :: t) (wr.setCells gL (i * 11) (ncCells x)) := by
  obtain ⟨c', rfl⟩ : ∃ c', c = c' + 1 := ⟨c - 1, by omega⟩
  exact h.app q o (Gb.setCells gL _ _ _) (fun r hr => .inl hr)
theorem poRow_one {R L T : Value} {day : Int} (h1 : R.oneCell' = true) (h2 : L.oneCell' = true) (h3 : T.oneCell' = true) : (poRow R L T day).all (·.oneCell') = true := by
  unfold poRow
  simp only [List.all_toArray, List.all_cons, List.all_nil, h1, h2, h3]
  rfl
theorem PoI.one {w wr : World} {B D b P : Nat} {day : Int} {R L T : Value} {l1 l2 l3 : List NC} (h : PoI w B D b P day R L T [(R, l1), (L, l2), (T, l3)] wr) : (poRow R L T day).all (·.oneCell') = true :=
  poRow_one (h.fam.own (R, l1) (by simp)).one (h.fam.own (L, l2) (by simp)).one (h.fam.own (T, l3) (by simp)).one
theorem PoI.fin {w wr : World} {B D b P : Nat} {day : Int} {R L T : Value} {l1 l2 l3 : List NC} (h : PoI w B D b P day R L T [(R, l1), (L, l2), (T, l3)] wr) (cs : Array Value) :
    Ext w (wr.setRow w.heap.size cs) ∧ RdN (wr.setRow w.heap.size cs) R l1 ∧ RdN (wr.setRow w.heap.size cs) L l2 ∧ RdN (wr.setRow w.heap.size cs) T l3 :=
  have k : ∀ {v : Value} {xs : List NC}, OwnK wr B 56 11 v (ncsCells xs) → RdN (wr.setRow w.heap.size cs) v xs := fun o => (OwnK.setR o (o.row_blk h.rz tn_tp)).rd
  ⟨ext_setRow h.ext (Nat.le_refl _) _, k (h.fam.own (R, l1) (by simp)), k (h.fam.own (L, l2) (by simp)), k (h.fam.own (T, l3) (by simp))⟩
theorem PoAt.row {w : World} {P : Nat} {R L T : Value} {day : Int} (h : PoAt w P R L T day) : w.heap[P]? = some (.cells (poRow R L T day) 53 (0, 0)) := h
/-- The first element of a list, in worlds in which only the dice moves. -/
theorem dc_first {w : World} {B D b n c : Nat} {A : Option Addr} {l : List NC} {y : NC} (h : OwnK w B 56 11 (.slice A n c) (ncsCells l)) (hD : D < B) (hy : l[0]? = some y) :
    ∃ g, A = some ⟨g, 0, none⟩ ∧ ∀ W, (dcR D b).rel w W → W.cell? ⟨g, 0, none⟩ = some (.string (bstr y.st)) ∧ W.cell? ⟨g, 1, none⟩ = some (.int .i64 y.kind) ∧ W.cell? ⟨g, 2, none⟩ = some (.int .i64 y.num) ∧ W.cell? ⟨g, 3, none⟩ = some (.int .i64 y.iss) ∧ W.cell? ⟨g, 4, none⟩ = some (.int .i64 y.own) ∧ W.cell? ⟨g, 5, none⟩ = some (.int .i64 y.key) ∧ W.cell? ⟨g, 6, none⟩ = some (.int .i64 y.fr) ∧ W.cell? ⟨g, 7, none⟩ = some (.int .i64 y.un) ∧ W.cell? ⟨g, 8, none⟩ = some (.int .i64 y.to) ∧ W.cell? ⟨g, 9, none⟩ = some (.int .i64 y.e) ∧ W.cell? ⟨g, 10, none⟩ = some (.int .i64 y.s) := by
  obtain ⟨A', n', c', e, hn, h⟩ := h
  injection e with e1 e2 e3
  subst e1 e2 e3
  rw [ncsCells_len] at hn
  cases l with
  | nil => cases hy
  | cons x l =>
    obtain rfl : x = y := Option.some.inj hy
    rcases h with ⟨h0, _⟩ | ⟨g, cur, rfl, hB, hg, hnc, hcm, hcs, ht⟩
    · rw [List.length_cons] at hn; omega
    · refine ⟨g, rfl, fun W r => ?_⟩
      have hW : W.heap[g]? = some (.cells cur 56 (0, 0)) := (r.1.block g (block_lt hg) (fun q => by injection q with q; omega)).trans hg
      have key : ∀ (j : Nat) (u : Value), (ncCells x)[j]? = some u → W.cell? ⟨g, j, none⟩ = some u := fun j u hu => by
        rw [cell_of_row W g j cur _ _ hW]
        have hj : j < 11 := (List.getElem?_eq_some_iff.1 hu).1
        have h1 : (cur.toList.take (n * 11))[j]? = some u := by
          rw [ht]
          show (ncCells x ++ ncsCells l)[j]? = some u
          rw [List.getElem?_append_left hj]
          exact hu
        rw [List.getElem?_take] at h1
        split at h1
        · simpa using h1
        · cases h1
      exact ⟨key 0 _ rfl, key 1 _ rfl, key 2 _ rfl, key 3 _ rfl, key 4 _ rfl, key 5 _ rfl, key 6 _ rfl, key 7 _ rfl, key 8 _ rfl, key 9 _ rfl, key 10 _ rfl⟩
/-- A number within bounds, a certificate: whatever the world. -/
def GZ (n : Int) : VPred := fun v _ => ∃ z : Int, v = .int .i64 z ∧ 0 ≤ z ∧ z < n
def GCt : VPred := fun v _ => ∃ c : NC, v = ncV c ∧ smN c
theorem stable_GZ (r : Gr.Rl) (n : Int) : r.stable (GZ n) := fun _ _ _ _ h => h
theorem stable_GCt (r : Gr.Rl) : r.stable GCt := fun _ _ _ _ h => h
end Go.Proofs.YtkjplpmogfmhkaaGreatDoor
namespace Go.Proofs.YtkjplpmogfmhkaaGreatDoor
open Go.RowKit
set_option linter.unusedVariables false
set_option maxRecDepth 100000
theorem rdi6 (W : World) (x y z u v t : Int) : RdI (W.alloc (.cells #[.int .i64 x, .int .i64 y, .int .i64 z, .int .i64 u, .int .i64 v, .int .i64 t] 3)) .i64 (.slice (some ⟨W.heap.size, 0, none⟩) 6 6) [x, y, z, u, v, t] := Rd.lit W _ _ 6 rfl (by unfold maxLen; omega)
/-- What Pools returns. -/
def PolR (w : World) (e : Ending) (w' : World) : Prop := Ext w w' ∧ ∃ (R L T : Value) (roots links targets : List NC) (day : Int), e = .returned (.agg (poRow R L T day)) ∧ RdN w' R roots ∧ RdN w' L links ∧ RdN w' T targets ∧ smL roots ∧ smL links ∧ smL targets ∧ roots.length ≤ 8 ∧ links.length ≤ 6 ∧ 2 ≤ targets.length ∧ targets.length ≤ 100 ∧ 0 ≤ day ∧ day ≤ 100000
/-- Bounds behind i rounds. -/
def poLen (i : Nat) (roots links targets : List NC) : Prop := smL roots ∧ smL links ∧ smL targets ∧ roots.length ≤ 4 * i ∧ links.length ≤ 3 * i ∧ 2 * i ≤ targets.length ∧ targets.length ≤ 5 * i
theorem auI_sm {a : AU} {ds : List Int} (h : AuI a ds) : smL a.roots ∧ smL a.links ∧ (ds ≠ [] → smN a.sg ∧ smN a.ls) := by
  refine ⟨fun c hc => ?_, fun c hc => ?_, fun hd => ⟨?_, ?_⟩⟩
  · obtain ⟨i, hi⟩ := List.getElem?_of_mem hc
    obtain ⟨k, d, num, _, _, _, _, q⟩ := h.rt i c hi
    exact sm_ofN q.ck
  · obtain ⟨i, hi⟩ := List.getElem?_of_mem hc
    obtain ⟨k, k', d, num, _, _, _, _, _, q⟩ := h.lk i c hi
    exact sm_ofN q.ck
  · obtain ⟨k, d, num, _, _, _, _, _, q⟩ := h.sg hd
    exact sm_ofN q.ck
  · obtain ⟨k, d, num, _, _, _, _, _, q⟩ := h.ls hd
    exact sm_ofN q.ck
theorem smL_snoc {l : List NC} {c : NC} (h : smL l) (k : smN c) : smL (l ++ [c]) := h.app fun x hx => by rw [List.mem_singleton.1 hx]; exact k
theorem smL_cons {l : List NC} {c : NC} (h : smL l) (k : smN c) : smL (c :: l) := fun x hx => (List.mem_cons.1 hx).elim (fun e => e ▸ k) (h x)
theorem two_cells (a b : NC) : ncsCells [a, b] = ncCells a ++ ncCells b := by simp [ncsCells]
theorem rd_two {w : World} {g : Nat} {c d : NC} (h : w.heap[g]? = some (.cells (ncCells c ++ ncCells d).toArray 56 (0, 0))) : RdK w 11 (.slice (some ⟨g, 0, none⟩) 2 2) (ncsCells [c, d]) :=
  ⟨_, 2, 2, rfl, rfl, Nat.le_refl _, by unfold maxLen; omega, fun _ => ⟨g, 0, rfl, fun j u hu => by
    rw [Nat.zero_add, cell_of_row w g j _ _ (0, 0) h, List.getElem?_toArray, ← two_cells]
    exact hu⟩⟩
set_option maxHeartbeats 16000000 in
theorem pools_any {v : Value} {l : List Int} (w : World) (h : RdI w .i64 v l) (hw : ∀ x ∈ l, wf64 x) (hl : l.length ≤ 1000) (E : KTab w 0) :
    Calls Tryz.prog 33 #[v] w (PolR w) := by
  obtain ⟨wz, hwz, z0, zr⟩ := po_alloc w
  have hzs : wz.heap.size = w.heap.size + 1 := by rw [hwz]; simp
  have HAU := Lib.hid (fun (l' : List Int) (u : Value) W (e : Ext w W) (hv : RdI W .i64 u l') (hx : ∀ x ∈ l', wf64 x) (h6 : l'.length ≤ 1000) => authority_any W hv hx h6 (E.below e))
  have HSP := Lib.hid (fun (c : NC) (a b : Int) W (hc : smN c) (ha : wf64 a) (h0 : 0 ≤ b) (h1 : b < 1000) => spoil_any c a b W hc ha h0 h1)
  clear E
  go_enter Tryz.func33, Tryz.ntmps33
  go_wp2_with fail
  rw [← hwz]
  clear hwz
  refine (roll_any wz (h.ext z0) hw hl).mono ?_
  rintro e w1 ⟨D, b, rfl, hD, hb, hd, b1⟩
  obtain ⟨wp, hwp, ep, TP⟩ := po_alloc w1
  have sp : wp.heap.size = w1.heap.size + 1 := by rw [hwp]; simp
  have hDl := hd.lt
  have hbl := hd.ltb
  have hzl := (zr.ext b1).lt
  have QB := Lib.hid (show PoB w wp.heap.size D b w1.heap.size from ⟨by omega, by omega, by omega, by omega, by omega, by omega, by omega, by omega, by omega⟩)
  have J0 := Lib.hid (show PoI w wp.heap.size D b w1.heap.size 0 (.slice none 0 0) (.slice none 0 0) (.slice none 0 0) [(.slice none 0 0, []), (.slice none 0 0, []), (.slice none 0 0, [])] wp from ⟨(z0.tr b1).tr ep, ⟨_, hd.ext ep⟩, (zr.ext b1).ext ep, TP, (Fam.nil _ _).none_.none_.none_, Nat.le_refl _⟩)
  clear hzs h hw hl z0 zr b1 hd hD hb ep TP sp hDl hbl hzl
  go_wp2_with fail
  rw [← hwp]
  clear hwp
  generalize w1.heap.size = P at *
  generalize wp.heap.size = B at *
  go_loopw [5, 6, 7, 8, 9] (fun s5 s6 s7 s8 s9 wr => ∃ (i : Nat) (R L T : Value) (roots links targets : List NC), i ≤ 2 ∧ s5 = .int .i64 (i : Int) ∧ Hid (poLen i roots links targets) ∧ Hid (PoI w B D b P 0 R L T [(R, roots), (L, links), (T, targets)] wr)) (fun i _ _ _ _ _ => 2 - (intOf i).toNat)
  case atStart => exact ⟨0, _, _, _, [], [], [], by omega, rfl, ⟨fun c hc => (by cases hc), fun c hc => (by cases hc), fun c hc => (by cases hc), Nat.le_refl _, Nat.le_refl _, Nat.le_refl _, Nat.le_refl _⟩, J0⟩
  case round =>
    obtain ⟨i, R, L, T, roots, links, targets, hi, rfl, HLN, J1⟩ := hrel
    clear J0
    by_cases hlt : i < 2
    case neg =>
      obtain rfl : i = 2 := by omega
      have HLL := Lib.hid (show smL roots ∧ smL links ∧ smL targets ∧ roots.length ≤ 8 ∧ links.length ≤ 6 ∧ 2 ≤ targets.length ∧ targets.length ≤ 100 from ⟨HLN.out.1, HLN.out.2.1, HLN.out.2.2.1, HLN.out.2.2.2.1, HLN.out.2.2.2.2.1, Nat.le_trans (by omega) HLN.out.2.2.2.2.2.1, Nat.le_trans HLN.out.2.2.2.2.2.2 (by omega)⟩)
      clear HLN hi hlt HAU
      go_wp2_with fail
      refine (J1.out.next QB.out 60 (by omega) (by omega)).mono ?_
      rintro e w2 ⟨zd, d0, d1, rfl, j2, g2⟩
      have J2 := Lib.hid j2
      clear j2 g2 J1
      have p3 := J2.out.po.c3
      have pf := J2.out.po.frozen 3
      have pl := J2.out.po.lt
      have wd : IntKind.i64.wrap (40000 + zd) = 40000 + zd := IntWalk.i64_in _ (by omega)
      go_upto_region 21 with fail
      have J3 := Lib.hid (J2.out.poke QB.out (J2.out.po.put3 (40000 + zd)))
      clear p3 pf pl wd J2
      generalize w2.setCell ⟨P, 3, none⟩ (.int .i64 (40000 + zd)) = w3 at *
      clear w2
      go_wp2_with fail
      refine (J3.out.next QB.out 5 (by omega) (by omega)).mono ?_
      rintro e w4 ⟨z5, q0, q1, rfl, j4, g4⟩
      have J4 := Lib.hid j4
      clear j4 g4 J3
      go_upto_if 105 with fail
      go_cut [] from 105 to 136 (fun wx => ∃ day : Int, 0 ≤ day ∧ day ≤ 100000 ∧ Hid (PoI w B D b P day R L T [(R, roots), (L, links), (T, targets)] wx))
      case first =>
        by_cases h5 : z5 = 4
        · have hb5 : (z5 == 4) = true := by simpa using h5
          clear h5
          go_wp2_with fail
          refine (J4.out.next QB.out 6000 (by omega) (by omega)).mono ?_
          rintro e w5 ⟨z6, r0, r1, rfl, j5, g5⟩
          have J5 := Lib.hid j5
          clear j5 g5 J4
          have p3 := J5.out.po.c3
          have pf := J5.out.po.frozen 3
          have pl := J5.out.po.lt
          have wd : IntKind.i64.wrap (40000 + z6) = 40000 + z6 := IntWalk.i64_in _ (by omega)
          go_wp2_with fail
          go_meet
          exact ⟨40000 + z6, by omega, by omega, J5.out.poke QB.out (J5.out.po.put3 (40000 + z6))⟩
        · have hb5 : (z5 == 4) = false := by simpa using h5
          clear h5
          go_wp2_with fail
          go_meet
          exact ⟨40000 + zd, by omega, by omega, J4⟩
      case rest =>
      obtain ⟨day, y0, y1, J6⟩ := hcut
      clear J4 q0 q1 d0 d1
      generalize wc = w5 at *
      go_wp2_with fail
      refine (J6.out.next QB.out 5 (by omega) (by omega)).mono ?_
      rintro e w6 ⟨z7, q0, q1, rfl, j7, g7⟩
      have J7 := Lib.hid j7
      clear j7 g7 J6
      obtain ⟨A0, n0, c0, e0, hn0, -⟩ := id (J7.out.fam.own (L, links) (by simp))
      have e0 : L = .slice A0 n0 c0 := e0
      subst e0
      rw [ncsCells_len] at hn0
      have hn0 : n0 * 11 = links.length * 11 := hn0
      obtain rfl : n0 = links.length := by omega
      clear hn0
      have p1 := J7.out.po.c1
      have pl := J7.out.po.lt
      by_cases hq : z7 = 4 ∧ 0 < links.length
      case pos =>
        obtain ⟨h7, hl0⟩ := hq
        have hb7 : (z7 == 4) = true := by simpa using h7
        have hl1 : (0 : Int) < (links.length : Int) := by omega
        have hl6 : links.length ≤ 6 := HLL.out.2.2.2.2.1
        clear h7
        go_upto_region 24 with fail
        obtain ⟨y, hy⟩ : ∃ y, links[0]? = some y := ⟨_, List.getElem?_eq_getElem hl0⟩
        have HSY := Lib.hid (HLL.out.2.1 y (List.mem_of_getElem? hy))
        obtain ⟨gL, rfl, hF⟩ := dc_first (b := b) (J7.out.fam.own (.slice A0 links.length c0, links) (by simp)) QB.out.D2 hy
        have HF := Lib.hid hF
        clear hF hy p1 pl
        refine Gr.wp_region_X (r := dcR D b) 16 (by kernel_rfl) (by kernel_rfl) ?_
        simp only [List.take_succ_cons, List.take_zero, List.drop_succ_cons, List.drop_zero]
        intro wq hw1
        have LR : ∀ m : (dcR D b).Lt wq, (dcR D b).rel w6 m.1 := fun m => (dcR D b).tr hw1 m.2
        have JL : ∀ m : (dcR D b).Lt wq, PoI w B D b P day R (.slice (some ⟨gL, 0, none⟩) links.length c0) T [(R, roots), (.slice (some ⟨gL, 0, none⟩) links.length c0, links), (T, targets)] m.1 := fun m => J7.out.dc QB.out (LR m)
        have p1 := fun m : (dcR D b).Lt wq => (JL m).po.c1
        have pl := fun m : (dcR D b).Lt wq => (JL m).po.lt
        have kc0 := fun m : (dcR D b).Lt wq => (HF.out m.1 (LR m)).1
        have kc1 := fun m : (dcR D b).Lt wq => (HF.out m.1 (LR m)).2.1
        have kc2 := fun m : (dcR D b).Lt wq => (HF.out m.1 (LR m)).2.2.1
        have kc3 := fun m : (dcR D b).Lt wq => (HF.out m.1 (LR m)).2.2.2.1
        have kc4 := fun m : (dcR D b).Lt wq => (HF.out m.1 (LR m)).2.2.2.2.1
        have kc5 := fun m : (dcR D b).Lt wq => (HF.out m.1 (LR m)).2.2.2.2.2.1
        have kc6 := fun m : (dcR D b).Lt wq => (HF.out m.1 (LR m)).2.2.2.2.2.2.1
        have kc7 := fun m : (dcR D b).Lt wq => (HF.out m.1 (LR m)).2.2.2.2.2.2.2.1
        have kc8 := fun m : (dcR D b).Lt wq => (HF.out m.1 (LR m)).2.2.2.2.2.2.2.2.1
        have kc9 := fun m : (dcR D b).Lt wq => (HF.out m.1 (LR m)).2.2.2.2.2.2.2.2.2.1
        have kc10 := fun m : (dcR D b).Lt wq => (HF.out m.1 (LR m)).2.2.2.2.2.2.2.2.2.2
        have HJL := Lib.hid JL
        clear JL
        repeat (first | (refine Gr.wpX_nil (by first | exact trivial | exact ⟨_, rfl, rfl, rfl⟩) _ rfl rfl rfl rfl rfl ?_; simp only [Act.put, List.setIfInBounds_toArray, List.set_cons_zero, List.set_cons_succ]) | (refine Gr.wpX_pure (by first | exact trivial | exact ⟨_, rfl, rfl, rfl⟩) rfl rfl rfl rfl rfl (fun K hK => ?_); go_big_quiet_op; refine hK _ ?_; clear hK K))
        refine Gr.wpX_callHole (by first | exact trivial | exact ⟨_, rfl, rfl, rfl⟩) (GZ (links.length : Int)) (stable_GZ _ _) (args := [.pointer (some ⟨D, 0, none⟩), .int .i64 (links.length : Int)]) rfl rfl rfl rfl (by kernel_rfl) rfl rfl (fun m => dcR_next (b := b) _ (HJL.out m).dice (by omega) (by omega)) ?_
        simp only [Act.put, List.setIfInBounds_toArray, List.set_cons_zero, List.set_cons_succ]
        repeat (first | (refine Gr.wpX_nil (by first | exact trivial | exact ⟨_, rfl, rfl, rfl⟩) _ rfl rfl rfl rfl rfl ?_; simp only [Act.put, List.setIfInBounds_toArray, List.set_cons_zero, List.set_cons_succ]) | (refine Gr.wpX_pure (by first | exact trivial | exact ⟨_, rfl, rfl, rfl⟩) rfl rfl rfl rfl rfl (fun K hK => ?_); go_big_quiet_op; refine hK _ ?_; clear hK K))
        refine Gr.wpX_callHole (by first | exact trivial | exact ⟨_, rfl, rfl, rfl⟩) (GZ 9) (stable_GZ _ _) (args := [.pointer (some ⟨D, 0, none⟩), .int .i64 9]) rfl rfl rfl rfl (by kernel_rfl) rfl rfl (fun m => dcR_next (b := b) _ (HJL.out m).dice (by omega) (by omega)) ?_
        simp only [Act.put, List.setIfInBounds_toArray, List.set_cons_zero, List.set_cons_succ]
        repeat (first | (refine Gr.wpX_nil (by first | exact trivial | exact ⟨_, rfl, rfl, rfl⟩) _ rfl rfl rfl rfl rfl ?_; simp only [Act.put, List.setIfInBounds_toArray, List.set_cons_zero, List.set_cons_succ]) | (refine Gr.wpX_pure (by first | exact trivial | exact ⟨_, rfl, rfl, rfl⟩) rfl rfl rfl rfl rfl (fun K hK => ?_); go_big_quiet_op; refine hK _ ?_; clear hK K))
        refine Gr.wpX_callHole (by first | exact trivial | exact ⟨_, rfl, rfl, rfl⟩) (GZ 40) (stable_GZ _ _) (args := [.pointer (some ⟨D, 0, none⟩), .int .i64 40]) rfl rfl rfl rfl (by kernel_rfl) rfl rfl (fun m => dcR_next (b := b) _ (HJL.out m).dice (by omega) (by omega)) ?_
        simp only [Act.put, List.setIfInBounds_toArray, List.set_cons_zero, List.set_cons_succ]
        refine Gr.wpX_callF (by first | exact trivial | exact ⟨_, rfl, rfl, rfl⟩) GCt (stable_GCt _) (fun f => [ncV y, f 131, f 133]) rfl rfl rfl rfl rfl (by kernel_rfl) rfl (fun _ => rfl) (fun m f hf => ?_) ?_
        · obtain ⟨a, e1, a0, a1⟩ := hf 131 _ rfl rfl
          obtain ⟨c, e2, c0', c1'⟩ := hf 133 _ rfl rfl
          rw [e1, e2]
          exact (HSP.out y a c m.1 HSY.out ⟨by omega, by omega⟩ c0' (by omega)).mono fun e w' ⟨h1, c', h2, h3⟩ => ⟨_, h3, (dcR D b).ext h1, c', rfl, h2⟩
        simp only [Act.put, List.setIfInBounds_toArray, List.set_cons_zero, List.set_cons_succ]
        refine Gr.wpX_endL (fun m f hf => ?_)
        obtain ⟨z, e125, z0, z1⟩ := hf 125 _ rfl
        obtain ⟨c', e134, hc'⟩ := hf 134 _ rfl
        simp only [fillH]
        simp only [Act.put, List.setIfInBounds_toArray, List.set_cons_zero, List.set_cons_succ]
        rw [e125, e134]
        obtain ⟨k, rfl⟩ : ∃ k : Nat, z = (k : Int) := ⟨z.toNat, by omega⟩
        have hk : k < links.length := by omega
        have J8 := Lib.hid ((HJL.out m).perm (List.Perm.swap _ _ _))
        obtain ⟨gL', eg, hBg, hth, hlt, hc0, o9⟩ := J8.out.fam.head.setAt hk c'
        obtain rfl : gL = gL' := by injection eg with eg; injection eg
        have J9 := Lib.hid ((J8.out.setC QB.out hc0 o9).perm (List.Perm.swap _ _ _))
        have HTH := Lib.hid hth
        have HSL9 := Lib.hid (show smL (links.set k c') from fun x hx => (List.mem_or_eq_of_mem_set hx).elim (HLL.out.2.1 x) (fun e => e ▸ hc'))
        clear hf e125 e134 HJL p1 pl kc0 kc1 kc2 kc3 kc4 kc5 kc6 kc7 kc8 kc9 kc10 LR hw1 HF eg hBg hlt hc0 o9 hth J8 J7 hc'
        generalize m.1 = wm at *
        generalize f 131 = f131 at *
        generalize f 133 = f133 at *
        clear m f
        show wpList _ _ _ _ _ _
        have wi1 : IntKind.i64.wrap ((k : Int)) = (k : Int) := IntWalk.i64_in _ (by omega)
        have zi1 : (0 : Int) ≤ (k : Int) := by omega
        have li1 : (k : Int) < (links.length : Int) := by omega
        have ti1 : ((k : Int)).toNat = k := by omega
        have HR := Lib.hid J9.out.po.row
        have HZ := Lib.hid J9.out.rz.row
        have H1 := Lib.hid J9.out.one
        go_step
        go_step
        go_step
        refine wpMid_store rfl 56 _ _ rfl rfl gL (k * 11) (ncCells c') rfl rfl HTH.out info_nc (ncCells_arr c') ?_
        generalize wm.setCells gL (k * 11) (ncCells c') = wn at *
        go_wp2_with (first | (refine wpList_load_row rfl 53 _ rfl P rfl 53 (poRow R (.slice (some ⟨gL, 0, none⟩) links.length c0) T day) (0, 0) _ HR.out Tryz.underlying53 rfl info_po ?_) | (refine wpRow_store rfl 53 _ _ rfl rfl w.heap.size (poRow R (.slice (some ⟨gL, 0, none⟩) links.length c0) T day) rfl rfl 53 (poRow (.slice none 0 0) (.slice none 0 0) (.slice none 0 0) 0) HZ.out info_po rfl H1.out ?_))
        refine bodyPost_ret (v := .agg (poRow R (.slice (some ⟨gL, 0, none⟩) links.length c0) T day)) ?_ rfl ⟨(J9.out.fin _).1, R, (.slice (some ⟨gL, 0, none⟩) links.length c0), T, roots, (links.set k c'), targets, day, rfl, (J9.out.fin _).2.1, (J9.out.fin _).2.2.1, (J9.out.fin _).2.2.2, HLL.out.1, HSL9.out, HLL.out.2.2.1, HLL.out.2.2.2.1, (by rw [List.length_set]; exact HLL.out.2.2.2.2.1), HLL.out.2.2.2.2.2.1, HLL.out.2.2.2.2.2.2, y0, y1⟩
        exact results_cell_row rfl _ _ w.heap.size 53 (poRow R (.slice (some ⟨gL, 0, none⟩) links.length c0) T day) (0, 0) _ rfl (row_at HZ.out) Tryz.underlying53 rfl info_po
      case neg =>
        by_cases h7 : z7 = 4
        · have hb7 : (z7 == 4) = true := by simpa using h7
          have hl1 : ¬ ((0 : Int) < (links.length : Int)) := fun q => hq ⟨h7, by omega⟩
          clear h7 hq
          have HR := Lib.hid J7.out.po.row
          have HZ := Lib.hid J7.out.rz.row
          have H1 := Lib.hid J7.out.one
          go_wp2_with (first | (refine wpList_load_row rfl 53 _ rfl P rfl 53 (poRow R (.slice A0 links.length c0) T day) (0, 0) _ HR.out Tryz.underlying53 rfl info_po ?_) | (refine wpRow_store rfl 53 _ _ rfl rfl w.heap.size (poRow R (.slice A0 links.length c0) T day) rfl rfl 53 (poRow (.slice none 0 0) (.slice none 0 0) (.slice none 0 0) 0) HZ.out info_po rfl H1.out ?_))
          refine bodyPost_ret (v := .agg (poRow R (.slice A0 links.length c0) T day)) ?_ rfl ⟨(J7.out.fin _).1, R, (.slice A0 links.length c0), T, roots, links, targets, day, rfl, (J7.out.fin _).2.1, (J7.out.fin _).2.2.1, (J7.out.fin _).2.2.2, HLL.out.1, HLL.out.2.1, HLL.out.2.2.1, HLL.out.2.2.2.1, HLL.out.2.2.2.2.1, HLL.out.2.2.2.2.2.1, HLL.out.2.2.2.2.2.2, y0, y1⟩
          exact results_cell_row rfl _ _ w.heap.size 53 (poRow R (.slice A0 links.length c0) T day) (0, 0) _ rfl (row_at HZ.out) Tryz.underlying53 rfl info_po
        · have hb7 : (z7 == 4) = false := by simpa using h7
          clear h7 hq
          have HR := Lib.hid J7.out.po.row
          have HZ := Lib.hid J7.out.rz.row
          have H1 := Lib.hid J7.out.one
          go_wp2_with (first | (refine wpList_load_row rfl 53 _ rfl P rfl 53 (poRow R (.slice A0 links.length c0) T day) (0, 0) _ HR.out Tryz.underlying53 rfl info_po ?_) | (refine wpRow_store rfl 53 _ _ rfl rfl w.heap.size (poRow R (.slice A0 links.length c0) T day) rfl rfl 53 (poRow (.slice none 0 0) (.slice none 0 0) (.slice none 0 0) 0) HZ.out info_po rfl H1.out ?_))
          refine bodyPost_ret (v := .agg (poRow R (.slice A0 links.length c0) T day)) ?_ rfl ⟨(J7.out.fin _).1, R, (.slice A0 links.length c0), T, roots, links, targets, day, rfl, (J7.out.fin _).2.1, (J7.out.fin _).2.2.1, (J7.out.fin _).2.2.2, HLL.out.1, HLL.out.2.1, HLL.out.2.2.1, HLL.out.2.2.2.1, HLL.out.2.2.2.2.1, HLL.out.2.2.2.2.2.1, HLL.out.2.2.2.2.2.2, y0, y1⟩
          exact results_cell_row rfl _ _ w.heap.size 53 (poRow R (.slice A0 links.length c0) T day) (0, 0) _ rfl (row_at HZ.out) Tryz.underlying53 rfl info_po
    case pos =>
    have hi2 : (i : Int) < 2 := by omega
    have hi0 : 0 ≤ (i : Int) := by omega
    go_wp2_with fail
    refine (J1.out.next QB.out 2 (by omega) (by omega)).mono ?_
    rintro e w2 ⟨z0, z00, z01, rfl, j2, g⟩
    have J2 := Lib.hid j2
    clear j2 g J1
    have wm1 : IntKind.i64.wrap (2 * z0) = 2 * z0 := IntWalk.i64_in _ (by omega)
    have wm2 : IntKind.i64.wrap ((i : Int) + 2 * z0) = (i : Int) + 2 * z0 := IntWalk.i64_in _ (by omega)
    go_wp2_with fail
    refine (J2.out.next QB.out 200 (by omega) (by omega)).mono ?_
    rintro e w3 ⟨z1, z10, z11, rfl, j3, g⟩
    have J3 := Lib.hid j3
    clear j3 g J2
    go_wp2_with fail
    refine (J3.out.next QB.out 4 (by omega) (by omega)).mono ?_
    rintro e w4 ⟨z2, z20, z21, rfl, j4, g⟩
    have J4 := Lib.hid j4
    clear j4 g J3
    go_wp2_with fail
    refine (J4.out.next QB.out 9 (by omega) (by omega)).mono ?_
    rintro e w5 ⟨z3, z30, z31, rfl, j5, g⟩
    have J5 := Lib.hid j5
    clear j5 g J4
    go_wp2_with fail
    refine (J5.out.next QB.out 9 (by omega) (by omega)).mono ?_
    rintro e w6 ⟨z4, z40, z41, rfl, j6, g⟩
    have J6 := Lib.hid j6
    clear j6 g J5
    go_wp2_with fail
    refine (J6.out.next QB.out 9 (by omega) (by omega)).mono ?_
    rintro e w7 ⟨z5, z50, z51, rfl, j7, g⟩
    have J7 := Lib.hid j7
    clear j7 g J6
    have eA : Ext w7 (w7.alloc (.cells #[.int .i64 ((i : Int) + 2 * z0), .int .i64 z1, .int .i64 z2, .int .i64 z3, .int .i64 z4, .int .i64 z5] 3)) := (Below.refl _ _).alloc (Nat.le_refl _) _
    have J8 := Lib.hid (J7.out.step eA)
    have HW6 : ∀ x ∈ [(i : Int) + 2 * z0, z1, z2, z3, z4, z5], wf64 x := fun x hx => by
      simp only [List.mem_cons, List.not_mem_nil, or_false] at hx
      unfold wf64
      rcases hx with rfl | rfl | rfl | rfl | rfl | rfl <;> omega
    have HAC := Lib.hid (HAU.out [(i : Int) + 2 * z0, z1, z2, z3, z4, z5] _ _ (J7.out.ext.tr eA) (rdi6 w7 ((i : Int) + 2 * z0) z1 z2 z3 z4 z5) HW6 (by show 6 ≤ 1000; omega))
    clear eA HW6 J7
    go_wp2_with fail
    refine HAC.out.mono ?_
    rintro e w8 ⟨b8, x, a, rfl, ar, ai, hst, hli, hV, hD', hZ⟩
    have hal := ai.rlen
    have hll := ai.llen
    have hcb := cntA_bd [(i : Int) + 2 * z0, z1, z2, z3, z4, z5]
    rw [daysA_len] at hal hll
    have hdne : daysA [(i : Int) + 2 * z0, z1, z2, z3, z4, z5] ≠ [] := fun q => by have := daysA_len [(i : Int) + 2 * z0, z1, z2, z3, z4, z5]; rw [q] at this; have h0 : 0 = cntA _ := this; omega
    obtain ⟨smR, smK, smS⟩ := auI_sm ai
    have HSS := Lib.hid (smS hdne)
    have HSR := Lib.hid smR
    have HSK := Lib.hid smK
    have J9 := J8.out.fresh2 b8 ar.o1 ar.o2 ar.ap
    have H1 := Lib.hid (abRow_one (x := x) ⟨ar.o1.one, ar.o2.one, ar.o3.one, by rw [hV]; rfl, by rw [hD']; rfl, by rw [hZ]; rfl⟩)
    have HSL := Lib.hid (show x.sg = a.sg ∧ x.ls = a.ls from ⟨ar.sg, ar.ls⟩)
    have hra : 1 ≤ a.roots.length ∧ a.roots.length ≤ 4 := by omega
    have hla : a.links.length ≤ 3 := by omega
    obtain ⟨AR, nR, cR, hR, hnR, -⟩ := id ar.o1
    obtain ⟨AL, nL, cL, hL, hnL, -⟩ := id ar.o2
    rw [ncsCells_len] at hnR hnL
    obtain rfl : nR = a.roots.length := by omega
    obtain rfl : nL = a.links.length := by omega
    clear hnR hnL hal hll hcb hdne smR smK smS hst hli hV hD' hZ ai ar HAC J8 b8 z00 z01 z10 z11 z20 z21 z30 z31 z40 z41 z50 z51 wm1 wm2
    obtain ⟨wc, hwc, ec, TC⟩ : ∃ wc, wc = (w8.alloc (.cells (.string ⟨#[]⟩ :: .slice none 0 0 :: .slice none 0 0 :: .slice none 0 0 :: .string ⟨#[]⟩ :: .int .i64 0 :: .int .i64 0 :: .int .i64 0 :: .int .i64 0 :: .int .i64 0 :: .int .i64 0 :: .int .i64 0 :: .int .i64 0 :: .int .i64 0 :: .int .i64 0 :: .string ⟨#[]⟩ :: .int .i64 0 :: .int .i64 0 :: .int .i64 0 :: .int .i64 0 :: .int .i64 0 :: .int .i64 0 :: .int .i64 0 :: .int .i64 0 :: .int .i64 0 :: .int .i64 0 :: .int .i64 0 :: .int .i64 0 :: .int .i64 0 :: .int .i64 0 :: .slice none 0 0 :: .slice none 0 0 :: .slice none 0 0 :: ([] : List Value)).toArray 98)).setRow w8.heap.size (abRow x) ∧ Ext w8 wc ∧ AuAt wc w8.heap.size x :=
      ⟨_, rfl, ext_setRow ((Below.refl _ _).alloc (Nat.le_refl _) _) (Nat.le_refl _) _, row_at (heap_alloc_new' w8 _)⟩
    have HALL := Lib.hid (heap_alloc_new' w8 (.cells (abRow zeroAB) 98))
    have hPg : w8.heap.size ≠ P := by have := J9.po.lt; omega
    have hDg : w8.heap.size ≠ D := by have := J9.size; have := QB.out.D2; omega
    have J10 := Lib.hid ((J9.step ec).perm (List.perm_append_comm (l₁ := [(x.R, a.roots), (x.L, a.links)]) (l₂ := [(R, roots), (L, links), (T, targets)])))
    rw [hR, hL] at J10
    have HTC := Lib.hid TC
    clear J9 ec TC
    go_upto_region 7 with (refine wpRow_store rfl 98 _ _ rfl rfl w8.heap.size (abRow x) rfl rfl 98 (abRow zeroAB) HALL.out info_au rfl H1.out ?_)
    rw [← hwc]
    clear hwc HALL H1
    generalize w8.heap.size = g at *
    have ha1 : ∀ W, AuAt W g x → W.cell? ⟨g, 1, none⟩ = some (.slice AR a.roots.length cR) := fun W t => by rw [← hR]; exact t.c1
    have ha2 : ∀ W, AuAt W g x → W.cell? ⟨g, 2, none⟩ = some (.slice AL a.links.length cL) := fun W t => by rw [← hL]; exact t.c2
    have HA1 := Lib.hid ha1
    have HA2 := Lib.hid ha2
    clear ha1 ha2 hR hL
    generalize a.roots = ra at *
    generalize a.links = la at *
    generalize a.sg = sg at *
    generalize a.ls = ls at *
    clear a
    have a1 := HA1.out _ HTC.out
    have al := HTC.out.lt
    have wn1 : IntKind.i64.wrap ((ra.length : Int) + 1) = (ra.length : Int) + 1 := IntWalk.i64_in _ (by omega)
    go_wp2_with fail
    refine (J10.out.next QB.out ((ra.length : Int) + 1) (by omega) (by omega)).mono ?_
    rintro e wd ⟨zn, zn0, zn1, rfl, j11, g11⟩
    have J11 := Lib.hid j11
    have T11 := Lib.hid (HTC.out.gbr g11 (fun q => hDg (by injection q with q; exact q.symm)))
    clear j11 g11 J10 HTC a1 al wn1
    go_wp2_with fail
    go_loopw [8] (fun s8 wr => ∃ (k : Nat) (R : Value) (roots : List NC), k ≤ ra.length ∧ s8 = .int .i64 (k : Int) ∧ Hid (smL roots ∧ roots.length ≤ 4 * i + k) ∧ Hid (PoI w B D b P 0 R L T [(R, roots), (L, links), (T, targets), (.slice AR ra.length cR, ra), (.slice AL la.length cL, la)] wr) ∧ Hid (AuAt wr g x)) (fun s8 _ => ra.length - (intOf s8).toNat)
    case atStart => exact ⟨0, R, roots, Nat.zero_le _, rfl, ⟨HLN.out.1, HLN.out.2.2.2.1⟩, J11, T11⟩
    case round =>
      have HLN0 := HLN
      obtain ⟨k, R', roots', hk, rfl, HB, J, TT⟩ := hrel
      have a1 := HA1.out _ TT.out
      have al := TT.out.lt
      by_cases hlt2 : k < ra.length
      case pos =>
        have hk2 : (k : Int) < (ra.length : Int) := by omega
        by_cases hkn : (k : Int) = zn
        · have hb : ((k : Int) == zn) = true := by simpa using hkn
          clear hkn
          go_upto_region 12 with fail
          obtain ⟨y, hy⟩ : ∃ y, ra[k]? = some y := ⟨_, List.getElem?_eq_getElem hlt2⟩
          obtain ⟨Ae, ne, ce, eqe, hne, hnce, hcme, hele⟩ := RdN.at_ (w := wr) (v := .slice AR ra.length cR) (l := ra) (J.out.fam.own (.slice AR ra.length cR, ra) (by simp)).rd
          injection eqe with e1 e2 e3
          subst e1 e2 e3
          obtain ⟨b1, o1, rfl, hb1, hc1⟩ := hele (by omega)
          have hcy := hc1 k y hy
          obtain ⟨A0, n0, c0, e0, hn0, -⟩ := id J.out.fam.head
          have e0 : R' = .slice A0 n0 c0 := e0
          subst e0
          rw [ncsCells_len] at hn0
          obtain rfl : n0 = roots'.length := by omega
          have HSY := Lib.hid (HSR.out y (List.mem_of_getElem? hy))
          have hgP : rowOf (.slice A0 roots'.length c0) ≠ some g := J.out.fam.head.row_blk TT.out tn_ta
          have hnr : roots'.length ≤ 100 := by have := HB.out.2; omega
          have wi2 : IntKind.i64.wrap ((k : Int)) = (k : Int) := IntWalk.i64_in _ (by omega)
          have zi2 : (0 : Int) ≤ (k : Int) := by omega
          have li2 : (k : Int) < (ra.length : Int) := by omega
          have ti2 : ((k : Int)).toNat = k := by omega
          clear hele hn0 hy hne hnce hcme
          refine Gd.wp_region_X 8 (by kernel_rfl) (by kernel_rfl) ?_
          simp only [List.take_succ_cons, List.take_zero, List.drop_succ_cons, List.drop_zero]
          intro wq hw1
          have LL : ∀ m : Lt wq, Ext wr m.1 := fun m => hw1.tr m.2
          have p0 := fun m : Lt wq => (J.out.po.ext (LL m)).c0
          have pl := fun m : Lt wq => (J.out.po.ext (LL m)).lt
          have k1 := fun m : Lt wq => HA1.out _ (TT.out.ext (LL m))
          have kl := fun m : Lt wq => (TT.out.ext (LL m)).lt
          have kc0 := fun m : Lt wq => ((LL m).cell (p := ⟨b1, o1 + k * 11, none⟩) hb1).trans hcy.1
          have kc1 := fun m : Lt wq => ((LL m).cell (p := ⟨b1, o1 + k * 11 + 1, none⟩) hb1).trans hcy.2.1
          have kc2 := fun m : Lt wq => ((LL m).cell (p := ⟨b1, o1 + k * 11 + 2, none⟩) hb1).trans hcy.2.2.1
          have kc3 := fun m : Lt wq => ((LL m).cell (p := ⟨b1, o1 + k * 11 + 3, none⟩) hb1).trans hcy.2.2.2.1
          have kc4 := fun m : Lt wq => ((LL m).cell (p := ⟨b1, o1 + k * 11 + 4, none⟩) hb1).trans hcy.2.2.2.2.1
          have kc5 := fun m : Lt wq => ((LL m).cell (p := ⟨b1, o1 + k * 11 + 5, none⟩) hb1).trans hcy.2.2.2.2.2.1
          have kc6 := fun m : Lt wq => ((LL m).cell (p := ⟨b1, o1 + k * 11 + 6, none⟩) hb1).trans hcy.2.2.2.2.2.2.1
          have kc7 := fun m : Lt wq => ((LL m).cell (p := ⟨b1, o1 + k * 11 + 7, none⟩) hb1).trans hcy.2.2.2.2.2.2.2.1
          have kc8 := fun m : Lt wq => ((LL m).cell (p := ⟨b1, o1 + k * 11 + 8, none⟩) hb1).trans hcy.2.2.2.2.2.2.2.2.1
          have kc9 := fun m : Lt wq => ((LL m).cell (p := ⟨b1, o1 + k * 11 + 9, none⟩) hb1).trans hcy.2.2.2.2.2.2.2.2.2.1
          have kc10 := fun m : Lt wq => ((LL m).cell (p := ⟨b1, o1 + k * 11 + 10, none⟩) hb1).trans hcy.2.2.2.2.2.2.2.2.2.2
          repeat (refine Gd.wpX_pure (by first | exact trivial | exact ⟨_, rfl, rfl, rfl⟩) rfl rfl rfl rfl rfl (fun K hK => ?_); go_big_quiet_op; refine hK _ ?_; clear hK K)
          refine Gd.wpX_buildSL (by first | exact trivial | exact ⟨_, rfl, rfl, rfl⟩) (GOneE wr.heap.size y) (stable_GOneE _ _) (fun _ => [(0, ncV y)]) rfl rfl rfl rfl rfl (fun _ => rfl) (fun m f hf => ⟨_, _, run_oneN m.1 y, (Below.refl _ _).alloc (Nat.le_refl _) _, goneE m.1 _ y (LL m).size⟩) ?_
          simp only [Act.put, List.setIfInBounds_toArray, List.set_cons_zero, List.set_cons_succ]
          refine Gd.wpX_endL (fun m f hf => ?_)
          obtain ⟨gb, e61, hgb, TB⟩ := hf 61 _ rfl
          simp only [fillH]
          simp only [Act.put, List.setIfInBounds_toArray, List.set_cons_zero, List.set_cons_succ]
          rw [e61]
          have JM := Lib.hid (J.out.step (LL m))
          have TM := Lib.hid (TT.out.ext (LL m))
          have HRK := Lib.hid (rd_one TB)
          clear hf e61 LL p0 pl k1 kl kc0 kc1 kc2 kc3 kc4 kc5 kc6 kc7 kc8 kc9 kc10 hcy hc1 hb1 hw1 J TT a1 al hgb TB
          generalize m.1 = wm at *
          clear m f
          show wpList _ _ _ _ _ _
          go_wp2_with (refine wpList_appKR (k := 11) (by decide) elemNc (n := roots'.length) (m := 1) (B := B) JM.out.fam.head (by rw [ncsCells_len]) HRK.out (by rfl) (ncCells_one y) (Below.refl B wm) (by omega) (by unfold maxLen; omega) JM.out.size rfl rfl rfl rfl ?_; intro A8 n8 c8 wz8 hn8 o8 x8 g8 f8; have J8 := JM.out.app QB.out (v' := .slice A8 n8 c8) (ys := roots' ++ [y]) (by rw [← ncsCells_snoc]; exact o8) g8 f8; have p0 := J8.po.c0; have pf := J8.po.frozen 0; have pl := J8.po.lt)
          have J9 := Lib.hid (J8.poke QB.out (J8.po.put0 (.slice A8 n8 c8)))
          have T9 : Hid (AuAt (wz8.setCell ⟨P, 0, none⟩ (.slice A8 n8 c8)) g x) := (TM.out.gbr g8 hgP).other hPg
          go_roundw
          case rel => exact ⟨k + 1, .slice A8 n8 c8, roots' ++ [y], by omega, by go_num, ⟨smL_snoc HB.out.1 HSY.out, by rw [List.length_append]; have := HB.out.2; show roots'.length + 1 ≤ _; omega⟩, J9, T9⟩
          case measure => simp [intOf]; omega
        · have hb : ((k : Int) == zn) = false := by simpa using hkn
          clear hkn
          go_wp2_with fail
          refine (J.out.next QB.out 4 (by omega) (by omega)).mono ?_
          rintro e we ⟨z4', q0, q1, rfl, j12, g12⟩
          have J12 := Lib.hid j12
          have T12 := Lib.hid (TT.out.gbr g12 (fun q => hDg (by injection q with q; exact q.symm)))
          clear j12 g12 J TT a1 al
          by_cases h3 : z4' = 3
          · have hb3 : (z4' == 3) = true := by simpa using h3
            clear h3
            have J := J12
            have TT := T12
            have a1 := HA1.out _ TT.out
            have al := TT.out.lt
            clear J12 T12
            go_upto_region 12 with fail
            obtain ⟨y, hy⟩ : ∃ y, ra[k]? = some y := ⟨_, List.getElem?_eq_getElem hlt2⟩
            obtain ⟨Ae, ne, ce, eqe, hne, hnce, hcme, hele⟩ := RdN.at_ (w := we) (v := .slice AR ra.length cR) (l := ra) (J.out.fam.own (.slice AR ra.length cR, ra) (by simp)).rd
            injection eqe with e1 e2 e3
            subst e1 e2 e3
            obtain ⟨b1, o1, rfl, hb1, hc1⟩ := hele (by omega)
            have hcy := hc1 k y hy
            obtain ⟨A0, n0, c0, e0, hn0, -⟩ := id J.out.fam.head
            have e0 : R' = .slice A0 n0 c0 := e0
            subst e0
            rw [ncsCells_len] at hn0
            obtain rfl : n0 = roots'.length := by omega
            have HSY := Lib.hid (HSR.out y (List.mem_of_getElem? hy))
            have hgP : rowOf (.slice A0 roots'.length c0) ≠ some g := J.out.fam.head.row_blk TT.out tn_ta
            have hnr : roots'.length ≤ 100 := by have := HB.out.2; omega
            have wi3 : IntKind.i64.wrap ((k : Int)) = (k : Int) := IntWalk.i64_in _ (by omega)
            have zi3 : (0 : Int) ≤ (k : Int) := by omega
            have li3 : (k : Int) < (ra.length : Int) := by omega
            have ti3 : ((k : Int)).toNat = k := by omega
            clear hele hn0 hy hne hnce hcme
            refine Gd.wp_region_X 8 (by kernel_rfl) (by kernel_rfl) ?_
            simp only [List.take_succ_cons, List.take_zero, List.drop_succ_cons, List.drop_zero]
            intro wq hw1
            have LL : ∀ m : Lt wq, Ext we m.1 := fun m => hw1.tr m.2
            have p0 := fun m : Lt wq => (J.out.po.ext (LL m)).c0
            have pl := fun m : Lt wq => (J.out.po.ext (LL m)).lt
            have k1 := fun m : Lt wq => HA1.out _ (TT.out.ext (LL m))
            have kl := fun m : Lt wq => (TT.out.ext (LL m)).lt
            have kc0 := fun m : Lt wq => ((LL m).cell (p := ⟨b1, o1 + k * 11, none⟩) hb1).trans hcy.1
            have kc1 := fun m : Lt wq => ((LL m).cell (p := ⟨b1, o1 + k * 11 + 1, none⟩) hb1).trans hcy.2.1
            have kc2 := fun m : Lt wq => ((LL m).cell (p := ⟨b1, o1 + k * 11 + 2, none⟩) hb1).trans hcy.2.2.1
            have kc3 := fun m : Lt wq => ((LL m).cell (p := ⟨b1, o1 + k * 11 + 3, none⟩) hb1).trans hcy.2.2.2.1
            have kc4 := fun m : Lt wq => ((LL m).cell (p := ⟨b1, o1 + k * 11 + 4, none⟩) hb1).trans hcy.2.2.2.2.1
            have kc5 := fun m : Lt wq => ((LL m).cell (p := ⟨b1, o1 + k * 11 + 5, none⟩) hb1).trans hcy.2.2.2.2.2.1
            have kc6 := fun m : Lt wq => ((LL m).cell (p := ⟨b1, o1 + k * 11 + 6, none⟩) hb1).trans hcy.2.2.2.2.2.2.1
            have kc7 := fun m : Lt wq => ((LL m).cell (p := ⟨b1, o1 + k * 11 + 7, none⟩) hb1).trans hcy.2.2.2.2.2.2.2.1
            have kc8 := fun m : Lt wq => ((LL m).cell (p := ⟨b1, o1 + k * 11 + 8, none⟩) hb1).trans hcy.2.2.2.2.2.2.2.2.1
            have kc9 := fun m : Lt wq => ((LL m).cell (p := ⟨b1, o1 + k * 11 + 9, none⟩) hb1).trans hcy.2.2.2.2.2.2.2.2.2.1
            have kc10 := fun m : Lt wq => ((LL m).cell (p := ⟨b1, o1 + k * 11 + 10, none⟩) hb1).trans hcy.2.2.2.2.2.2.2.2.2.2
            repeat (refine Gd.wpX_pure (by first | exact trivial | exact ⟨_, rfl, rfl, rfl⟩) rfl rfl rfl rfl rfl (fun K hK => ?_); go_big_quiet_op; refine hK _ ?_; clear hK K)
            refine Gd.wpX_buildSL (by first | exact trivial | exact ⟨_, rfl, rfl, rfl⟩) (GOneE we.heap.size y) (stable_GOneE _ _) (fun _ => [(0, ncV y)]) rfl rfl rfl rfl rfl (fun _ => rfl) (fun m f hf => ⟨_, _, run_oneN m.1 y, (Below.refl _ _).alloc (Nat.le_refl _) _, goneE m.1 _ y (LL m).size⟩) ?_
            simp only [Act.put, List.setIfInBounds_toArray, List.set_cons_zero, List.set_cons_succ]
            refine Gd.wpX_endL (fun m f hf => ?_)
            obtain ⟨gb, e61, hgb, TB⟩ := hf 61 _ rfl
            simp only [fillH]
            simp only [Act.put, List.setIfInBounds_toArray, List.set_cons_zero, List.set_cons_succ]
            rw [e61]
            have JM := Lib.hid (J.out.step (LL m))
            have TM := Lib.hid (TT.out.ext (LL m))
            have HRK := Lib.hid (rd_one TB)
            clear hf e61 LL p0 pl k1 kl kc0 kc1 kc2 kc3 kc4 kc5 kc6 kc7 kc8 kc9 kc10 hcy hc1 hb1 hw1 J TT a1 al hgb TB
            generalize m.1 = wm at *
            clear m f
            show wpList _ _ _ _ _ _
            go_wp2_with (refine wpList_appKR (k := 11) (by decide) elemNc (n := roots'.length) (m := 1) (B := B) JM.out.fam.head (by rw [ncsCells_len]) HRK.out (by rfl) (ncCells_one y) (Below.refl B wm) (by omega) (by unfold maxLen; omega) JM.out.size rfl rfl rfl rfl ?_; intro A8 n8 c8 wz8 hn8 o8 x8 g8 f8; have J8 := JM.out.app QB.out (v' := .slice A8 n8 c8) (ys := roots' ++ [y]) (by rw [← ncsCells_snoc]; exact o8) g8 f8; have p0 := J8.po.c0; have pf := J8.po.frozen 0; have pl := J8.po.lt)
            have J9 := Lib.hid (J8.poke QB.out (J8.po.put0 (.slice A8 n8 c8)))
            have T9 : Hid (AuAt (wz8.setCell ⟨P, 0, none⟩ (.slice A8 n8 c8)) g x) := (TM.out.gbr g8 hgP).other hPg
            go_roundw
            case rel => exact ⟨k + 1, .slice A8 n8 c8, roots' ++ [y], by omega, by go_num, ⟨smL_snoc HB.out.1 HSY.out, by rw [List.length_append]; have := HB.out.2; show roots'.length + 1 ≤ _; omega⟩, J9, T9⟩
            case measure => simp [intOf]; omega
          · have hb3 : (z4' == 3) = false := by simpa using h3
            clear h3
            have wk : IntKind.i64.wrap ((k : Int) + 1) = (k : Int) + 1 := IntWalk.i64_in _ (by omega)
            go_wp2_with fail
            go_roundw
            case rel => exact ⟨k + 1, R', roots', by omega, by go_num, ⟨HB.out.1, by have := HB.out.2; omega⟩, J12, T12⟩
            case measure => simp [intOf]; omega
      case neg =>
      obtain rfl : k = ra.length := by omega
      have HLR := Lib.hid (show smL roots' ∧ roots'.length ≤ 4 * (i + 1) from ⟨HB.out.1, by have := HB.out.2; omega⟩)
      clear hlt2 hk HB
      go_wp2_with fail
      clear a1 al
      have HLN1 := HLN0
      clear HLN0
      go_loopw [9] (fun s9 wr2 => ∃ (k : Nat) (L : Value) (links : List NC), k ≤ la.length ∧ s9 = .int .i64 (k : Int) ∧ Hid (smL links ∧ links.length ≤ 3 * i + k) ∧ Hid (PoI w B D b P 0 R' L T [(R', roots'), (L, links), (T, targets), (.slice AR ra.length cR, ra), (.slice AL la.length cL, la)] wr2) ∧ Hid (AuAt wr2 g x)) (fun s9 _ => la.length - (intOf s9).toNat)
      case atStart => exact ⟨0, L, links, Nat.zero_le _, rfl, ⟨HLN1.out.2.1, HLN1.out.2.2.2.2.1⟩, J, TT⟩
      case round =>
        clear J TT
        obtain ⟨k, L', links', hk, rfl, HB, J3, T3⟩ := hrel
        have a2 := HA2.out _ T3.out
        have al := T3.out.lt
        by_cases hlt3 : k < la.length
        case pos =>
          have hk2 : (k : Int) < (la.length : Int) := by omega
          go_wp2_with fail
          refine (J3.out.next QB.out 6 (by omega) (by omega)).mono ?_
          rintro e we ⟨z6, q0, q1, rfl, j12, g12⟩
          have J := Lib.hid j12
          have TT := Lib.hid (T3.out.gbr g12 (fun q => hDg (by injection q with q; exact q.symm)))
          clear j12 g12 J3 T3 a2 al
          by_cases h5 : z6 < 5
          · have a2 := HA2.out _ TT.out
            have al := TT.out.lt
            go_upto_region 17 with fail
            obtain ⟨y, hy⟩ : ∃ y, la[k]? = some y := ⟨_, List.getElem?_eq_getElem hlt3⟩
            obtain ⟨Ae, ne, ce, eqe, hne, hnce, hcme, hele⟩ := RdN.at_ (w := we) (v := .slice AL la.length cL) (l := la) (J.out.fam.own (.slice AL la.length cL, la) (by simp)).rd
            injection eqe with e1 e2 e3
            subst e1 e2 e3
            obtain ⟨b1, o1, rfl, hb1, hc1⟩ := hele (by omega)
            have hcy := hc1 k y hy
            obtain ⟨A0, n0, c0, e0, hn0, -⟩ := id (J.out.fam.own (L', links') (by simp))
            have e0 : L' = .slice A0 n0 c0 := e0
            subst e0
            rw [ncsCells_len] at hn0
            have hn0 : n0 * 11 = links'.length * 11 := hn0
            obtain rfl : n0 = links'.length := by omega
            have HSY := Lib.hid (HSK.out y (List.mem_of_getElem? hy))
            have hnr : links'.length ≤ 100 := by have := HB.out.2; omega
            have wi4 : IntKind.i64.wrap ((k : Int)) = (k : Int) := IntWalk.i64_in _ (by omega)
            have zi4 : (0 : Int) ≤ (k : Int) := by omega
            have li4 : (k : Int) < (la.length : Int) := by omega
            have ti4 : ((k : Int)).toNat = k := by omega
            clear hele hn0 hy hne hnce hcme
            refine Gd.wp_region_X 8 (by kernel_rfl) (by kernel_rfl) ?_
            simp only [List.take_succ_cons, List.take_zero, List.drop_succ_cons, List.drop_zero]
            intro wq hw1
            have LL : ∀ m : Lt wq, Ext we m.1 := fun m => hw1.tr m.2
            have p1 := fun m : Lt wq => (J.out.po.ext (LL m)).c1
            have pl := fun m : Lt wq => (J.out.po.ext (LL m)).lt
            have k2 := fun m : Lt wq => HA2.out _ (TT.out.ext (LL m))
            have kl := fun m : Lt wq => (TT.out.ext (LL m)).lt
            have kc0 := fun m : Lt wq => ((LL m).cell (p := ⟨b1, o1 + k * 11, none⟩) hb1).trans hcy.1
            have kc1 := fun m : Lt wq => ((LL m).cell (p := ⟨b1, o1 + k * 11 + 1, none⟩) hb1).trans hcy.2.1
            have kc2 := fun m : Lt wq => ((LL m).cell (p := ⟨b1, o1 + k * 11 + 2, none⟩) hb1).trans hcy.2.2.1
            have kc3 := fun m : Lt wq => ((LL m).cell (p := ⟨b1, o1 + k * 11 + 3, none⟩) hb1).trans hcy.2.2.2.1
            have kc4 := fun m : Lt wq => ((LL m).cell (p := ⟨b1, o1 + k * 11 + 4, none⟩) hb1).trans hcy.2.2.2.2.1
            have kc5 := fun m : Lt wq => ((LL m).cell (p := ⟨b1, o1 + k * 11 + 5, none⟩) hb1).trans hcy.2.2.2.2.2.1
            have kc6 := fun m : Lt wq => ((LL m).cell (p := ⟨b1, o1 + k * 11 + 6, none⟩) hb1).trans hcy.2.2.2.2.2.2.1
            have kc7 := fun m : Lt wq => ((LL m).cell (p := ⟨b1, o1 + k * 11 + 7, none⟩) hb1).trans hcy.2.2.2.2.2.2.2.1
            have kc8 := fun m : Lt wq => ((LL m).cell (p := ⟨b1, o1 + k * 11 + 8, none⟩) hb1).trans hcy.2.2.2.2.2.2.2.2.1
            have kc9 := fun m : Lt wq => ((LL m).cell (p := ⟨b1, o1 + k * 11 + 9, none⟩) hb1).trans hcy.2.2.2.2.2.2.2.2.2.1
            have kc10 := fun m : Lt wq => ((LL m).cell (p := ⟨b1, o1 + k * 11 + 10, none⟩) hb1).trans hcy.2.2.2.2.2.2.2.2.2.2
            repeat (refine Gd.wpX_pure (by first | exact trivial | exact ⟨_, rfl, rfl, rfl⟩) rfl rfl rfl rfl rfl (fun K hK => ?_); go_big_quiet_op; refine hK _ ?_; clear hK K)
            refine Gd.wpX_buildSL (by first | exact trivial | exact ⟨_, rfl, rfl, rfl⟩) (GOneE we.heap.size y) (stable_GOneE _ _) (fun _ => [(0, ncV y)]) rfl rfl rfl rfl rfl (fun _ => rfl) (fun m f hf => ⟨_, _, run_oneN m.1 y, (Below.refl _ _).alloc (Nat.le_refl _) _, goneE m.1 _ y (LL m).size⟩) ?_
            simp only [Act.put, List.setIfInBounds_toArray, List.set_cons_zero, List.set_cons_succ]
            repeat (refine Gd.wpX_pure (by first | exact trivial | exact ⟨_, rfl, rfl, rfl⟩) rfl rfl rfl rfl rfl (fun K hK => ?_); go_big_quiet_op; refine hK _ ?_; clear hK K)
            refine Gd.wpX_endL (fun m f hf => ?_)
            obtain ⟨gb, e79, hgb, TB⟩ := hf 79 _ rfl
            simp only [fillH]
            simp only [Act.put, List.setIfInBounds_toArray, List.set_cons_zero, List.set_cons_succ]
            rw [e79]
            have JM := Lib.hid (J.out.step (LL m))
            have LM := Lib.hid (LL m)
            have HOW := Lib.hid (own_one TB hgb)
            have HRK := Lib.hid ((J.out.step (LL m)).fam.own (.slice A0 links'.length c0, links') (by simp)).rd
            clear hf e79 LL p1 pl k2 kl kc0 kc1 kc2 kc3 kc4 kc5 kc6 kc7 kc8 kc9 kc10 hcy hc1 hb1 hw1 a2 al hgb TB
            generalize m.1 = wm at *
            clear m f
            show wpList _ _ _ _ _ _
            go_wp2_with (refine wpList_appKR (k := 11) (by decide) elemNc (n := 1) (m := links'.length) (B := we.heap.size) HOW.out rfl HRK.out (by rw [ncsCells_len]) (ncsCells_one links') (Below.refl we.heap.size wm) (by omega) (by unfold maxLen; omega) LM.out.size rfl rfl rfl rfl ?_; intro A8 n8 c8 wz8 hn8 o8 x8 g8 f8; have X8 : Ext we wz8 := LM.out.trans x8; have J8 := ((J.out.perm (List.Perm.swap _ _ _)).tail.fresh (v := .slice A8 n8 c8) (xs := [y] ++ links') X8 (by rw [← ncsCells_app]; exact o8)).perm (List.Perm.swap _ _ _); have p1 := J8.po.c1; have pf := J8.po.frozen 1; have pl := J8.po.lt)
            have J9 := Lib.hid (J8.poke QB.out (J8.po.put1 (.slice A8 n8 c8)))
            have T9 : Hid (AuAt (wz8.setCell ⟨P, 1, none⟩ (.slice A8 n8 c8)) g x) := (TT.out.ext X8).other hPg
            go_roundw
            case rel => exact ⟨k + 1, .slice A8 n8 c8, [y] ++ links', by omega, by go_num, ⟨smL_cons HB.out.1 HSY.out, by have := HB.out.2; show links'.length + 1 ≤ _; omega⟩, J9, T9⟩
            case measure => simp [intOf]; omega
          · have wk : IntKind.i64.wrap ((k : Int) + 1) = (k : Int) + 1 := IntWalk.i64_in _ (by omega)
            go_wp2_with fail
            go_roundw
            case rel => exact ⟨k + 1, L', links', by omega, by go_num, ⟨HB.out.1, by have := HB.out.2; omega⟩, J, TT⟩
            case measure => simp [intOf]; omega
        case neg =>
        obtain rfl : k = la.length := by omega
        have HLK := Lib.hid (show smL links' ∧ links'.length ≤ 3 * (i + 1) from ⟨HB.out.1, by have := HB.out.2; omega⟩)
        clear hlt3 hk HB
        have hT : ∃ A c, T = .slice A targets.length c := by
          obtain ⟨A0, n0, c0, e0, hn0, -⟩ := id (J3.out.fam.own (T, targets) (by simp))
          rw [ncsCells_len] at hn0
          have hn0 : n0 * 11 = targets.length * 11 := hn0
          obtain rfl : n0 = targets.length := by omega
          exact ⟨A0, c0, e0⟩
        go_upto_region 18 with fail
        obtain ⟨A0, c0, rfl⟩ := hT
        have p2 := J3.out.po.c2
        have pf2 := J3.out.po.frozen 2
        have pl := J3.out.po.lt
        have s4 := T3.out.c4
        have s5 := T3.out.c5
        have s6 := T3.out.c6
        have s7 := T3.out.c7
        have s8 := T3.out.c8
        have s9 := T3.out.c9
        have s10 := T3.out.c10
        have s11 := T3.out.c11
        have s12 := T3.out.c12
        have s13 := T3.out.c13
        have s14 := T3.out.c14
        have s15 := T3.out.c15
        have s16 := T3.out.c16
        have s17 := T3.out.c17
        have s18 := T3.out.c18
        have s19 := T3.out.c19
        have s20 := T3.out.c20
        have s21 := T3.out.c21
        have s22 := T3.out.c22
        have s23 := T3.out.c23
        have s24 := T3.out.c24
        have s25 := T3.out.c25
        have eA : Ext wr (wr.alloc (.cells (ncCells x.sg ++ ncCells x.ls).toArray 56)) := (Below.refl _ _).alloc (Nat.le_refl _) _
        have HI := Lib.hid ((J3.out.step eA).perm (perm_3 _ _ _ _))
        have HT := Lib.hid (T3.out.ext eA)
        have HRK := Lib.hid (rd_two (heap_alloc_new' wr (.cells (ncCells x.sg ++ ncCells x.ls).toArray 56)))
        simp only [ncCells, List.cons_append, List.nil_append] at HI HRK HT
        clear eA
        have hnt : targets.length ≤ 100 := by have := HLN1.out.2.2.2.2.2.2; omega
        go_upto_region 19 with (refine wpList_appKR (k := 11) (by decide) elemNc (n := targets.length) (m := 2) (B := B) HI.out.fam.head (by rw [ncsCells_len]) HRK.out rfl (ncsCells_one [x.sg, x.ls]) (Below.refl B _) (by omega) (by unfold maxLen; omega) HI.out.size rfl rfl rfl rfl ?_; intro A8 n8 c8 wz8 hn8 o8 x8 g8 f8; have T8 := HT.out.gbr g8 (HI.out.fam.head.row_blk HT.out tn_ta); have J8 := HI.out.app QB.out (v' := .slice A8 n8 c8) (ys := targets ++ [x.sg, x.ls]) (by rw [← ncsCells_app]; exact o8) g8 f8; have p2 := J8.po.c2; have pf := J8.po.frozen 2; have pl := J8.po.lt)
        have J9 := Lib.hid (J8.poke QB.out (J8.po.put2 (.slice A8 n8 c8)))
        have T9 : Hid (AuAt (wz8.setCell ⟨P, 2, none⟩ (.slice A8 n8 c8)) g x) := T8.other hPg
        obtain rfl : n8 = targets.length + 2 := hn8.out
        clear s4 s5 s6 s7 s8 s9 s10 s11 s12 s13 s14 s15 s16 s17 s18 s19 s20 s21 s22 s23 s24 s25 p2 pf2 pl pf x8 o8 g8 f8 J8 T8 HI HRK HT J3 T3 a2 al hn8
        generalize wz8.setCell ⟨P, 2, none⟩ (.slice A8 (targets.length + 2) c8) = w18 at *
        clear wz8
        have a2 := HA2.out _ T9.out
        have al := T9.out.lt
        have p2 := J9.out.po.c2
        have pf2 := J9.out.po.frozen 2
        have pl := J9.out.po.lt
        have HRK := Lib.hid (J9.out.fam.own (.slice AL la.length cL, la) (by simp)).rd
        have wi : IntKind.i64.wrap ((i : Int) + 1) = (i : Int) + 1 := IntWalk.i64_in _ (by omega)
        go_wp2_with (refine wpList_appKR (k := 11) (by decide) elemNc (n := targets.length + 2) (m := la.length) (B := B) J9.out.fam.head (by rw [ncsCells_len, List.length_append]; rfl) HRK.out (by rw [ncsCells_len]) (ncsCells_one la) (Below.refl B _) (by omega) (by unfold maxLen; omega) J9.out.size rfl rfl rfl rfl ?_; intro A9 n9 c9 wz9 hn9 o9 x9 g9 f9; have J10 := J9.out.app QB.out (v' := .slice A9 n9 c9) (ys := targets ++ [x.sg, x.ls] ++ la) (by rw [← ncsCells_app]; exact o9) g9 f9; clear p2 pf2 pl; have p2 := J10.po.c2; have pf := J10.po.frozen 2; have pl := J10.po.lt)
        have J11 := Lib.hid (((J10.poke QB.out (J10.po.put2 (.slice A9 n9 c9))).perm ((perm_3' _ _ _ _).trans (List.perm_append_comm (l₁ := [(R', roots'), (L', links'), (.slice A9 n9 c9, targets ++ [x.sg, x.ls] ++ la)]) (l₂ := [(.slice AR ra.length cR, ra), (.slice AL la.length cL, la)])))).tail.tail)
        have HTL := Lib.hid (show smL (targets ++ [x.sg, x.ls] ++ la) ∧ 2 * (i + 1) ≤ (targets ++ [x.sg, x.ls] ++ la).length ∧ (targets ++ [x.sg, x.ls] ++ la).length ≤ 5 * (i + 1) from by
          have h1 := HLN1.out.2.2.1
          have h2 := HLN1.out.2.2.2.2.2
          refine ⟨(h1.app fun c hc => ?_).app HSK.out, ?_, ?_⟩
          · rw [HSL.out.1, HSL.out.2] at hc
            rcases List.mem_cons.1 hc with rfl | hc
            · exact HSS.out.1
            · rw [List.mem_singleton.1 hc]; exact HSS.out.2
          · simp only [List.length_append, List.length_cons, List.length_nil]; omega
          · simp only [List.length_append, List.length_cons, List.length_nil]; omega)
        go_roundw
        case rel => exact ⟨i + 1, R', L', .slice A9 n9 c9, roots', links', targets ++ [x.sg, x.ls] ++ la, by omega, by go_num, ⟨HLR.out.1, HLK.out.1, HTL.out.1, HLR.out.2, HLK.out.2, HTL.out.2⟩, J11⟩
        case measure => simp [intOf]; omega

end Go.Proofs.YtkjplpmogfmhkaaGreatDoor
namespace Go.Proofs.YtkjplpmogfmhkaaGreatDoor
open Go.RowKit
set_option linter.unusedVariables false
set_option maxRecDepth 100000
theorem run_twoN (W : World) (a b : NC) : (Instr.buildSlice 51 2 [(0, ncV a), (1, ncV b)].toArray).run Tryz.prog W = .ok (.slice (some ⟨W.heap.size, 0, none⟩) 2 2) (W.alloc (.cells (ncCells a ++ ncCells b).toArray 56)) := by
  unfold ncV ncCells
  simp only [List.cons_append, List.nil_append]
  go_simp
theorem run_threeN (W : World) (a b c : NC) : (Instr.buildSlice 51 3 [(0, ncV a), (1, ncV b), (2, ncV c)].toArray).run Tryz.prog W = .ok (.slice (some ⟨W.heap.size, 0, none⟩) 3 3) (W.alloc (.cells (ncCells a ++ (ncCells b ++ ncCells c)).toArray 56)) := by
  unfold ncV ncCells
  simp only [List.cons_append, List.nil_append]
  go_simp
theorem rd_three {w : World} {g : Nat} {c d e : NC} (h : w.heap[g]? = some (.cells (ncCells c ++ (ncCells d ++ ncCells e)).toArray 56 (0, 0))) : RdK w 11 (.slice (some ⟨g, 0, none⟩) 3 3) (ncsCells [c, d, e]) :=
  ⟨_, 3, 3, rfl, rfl, Nat.le_refl _, by unfold maxLen; omega, fun _ => ⟨g, 0, rfl, fun j u hu => by
    have q : ncsCells [c, d, e] = ncCells c ++ (ncCells d ++ ncCells e) := by simp [ncsCells]
    rw [Nat.zero_add, cell_of_row w g j _ _ (0, 0) h, List.getElem?_toArray, ← q]
    exact hu⟩⟩
theorem gsl_two (W : World) (a b : NC) : GSl [a, b] (.slice (some ⟨W.heap.size, 0, none⟩) 2 2) (W.alloc (.cells (ncCells a ++ ncCells b).toArray 56)) := ⟨_, _, _, rfl, rfl, rd_two (heap_alloc_new' W _)⟩
theorem gsl_three (W : World) (a b c : NC) : GSl [a, b, c] (.slice (some ⟨W.heap.size, 0, none⟩) 3 3) (W.alloc (.cells (ncCells a ++ (ncCells b ++ ncCells c)).toArray 56)) := ⟨_, _, _, rfl, rfl, rd_three (heap_alloc_new' W _)⟩
/-- Where a law stands: the pool in a block, its lists readable. -/
structure PoS (w : World) (P : Nat) (R L T : Value) (day : Int) (roots links targets : List NC) (wr : World) : Prop where
  ext : Ext w wr
  po : PoAt wr P R L T day
  rR : RdN wr R roots
  rL : RdN wr L links
  rT : RdN wr T targets
theorem PoS.tr {w wr wx : World} {P : Nat} {R L T : Value} {day : Int} {roots links targets : List NC} (h : PoS w P R L T day roots links targets wr) (e : Ext wr wx) : PoS w P R L T day roots links targets wx :=
  ⟨h.ext.tr e, h.po.ext e, RdK.ext h.rR e, RdK.ext h.rL e, RdK.ext h.rT e⟩
/-- What direct and over report. -/
def dirB (roots : List NC) (day : Int) (c : NC) : Bool := roots.any fun r => provenB roots [r, c] day
def ovB (roots links : List NC) (day : Int) (c : NC) : Bool := roots.any fun r => links.any fun l => provenB roots [r, l, c] day
theorem any_none {α : Type} {l : List α} {p : α → Bool} (h : ∀ (j : Nat) (x : α), l[j]? = some x → p x = false) : l.any p = false := by
  rw [List.any_eq_false]
  intro x hx
  obtain ⟨j, hj⟩ := List.getElem?_of_mem hx
  rw [h j x hj]
  exact Bool.false_ne_true
theorem any_some {α : Type} {l : List α} {p : α → Bool} {j : Nat} {x : α} (h : l[j]? = some x) (hp : p x = true) : l.any p = true := List.any_eq_true.2 ⟨x, List.mem_of_getElem? h, hp⟩
/-- Cells of an element in all later worlds. -/
theorem RdN.cellsAt {w : World} {v : Value} {l : List NC} (h : RdN w v l) : ∃ A c, v = .slice A l.length c ∧ l.length ≤ c ∧ c ≤ maxLen ∧ ∀ (i : Nat) (p : NC), l[i]? = some p → ∃ b o, A = some ⟨b, o, none⟩ ∧ b < w.heap.size ∧ ∀ W, Ext w W → W.cell? ⟨b, o + i * 11, none⟩ = some (.string (bstr p.st)) ∧ W.cell? ⟨b, o + i * 11 + 1, none⟩ = some (.int .i64 p.kind) ∧ W.cell? ⟨b, o + i * 11 + 2, none⟩ = some (.int .i64 p.num) ∧ W.cell? ⟨b, o + i * 11 + 3, none⟩ = some (.int .i64 p.iss) ∧ W.cell? ⟨b, o + i * 11 + 4, none⟩ = some (.int .i64 p.own) ∧ W.cell? ⟨b, o + i * 11 + 5, none⟩ = some (.int .i64 p.key) ∧ W.cell? ⟨b, o + i * 11 + 6, none⟩ = some (.int .i64 p.fr) ∧ W.cell? ⟨b, o + i * 11 + 7, none⟩ = some (.int .i64 p.un) ∧ W.cell? ⟨b, o + i * 11 + 8, none⟩ = some (.int .i64 p.to) ∧ W.cell? ⟨b, o + i * 11 + 9, none⟩ = some (.int .i64 p.e) ∧ W.cell? ⟨b, o + i * 11 + 10, none⟩ = some (.int .i64 p.s) := by
  obtain ⟨A, n, c, rfl, rfl, hnc, hcm, hel⟩ := h.at_
  refine ⟨A, c, rfl, hnc, hcm, fun i p hp => ?_⟩
  have hi := (List.getElem?_eq_some_iff.1 hp).1
  obtain ⟨b, o, rfl, hb, hc⟩ := hel (by omega)
  obtain ⟨h0, h1, h2, h3, h4, h5, h6, h7, h8, h9, h10⟩ := hc i p hp
  exact ⟨b, o, rfl, hb, fun W e => ⟨(e.cell hb).trans h0, (e.cell hb).trans h1, (e.cell hb).trans h2, (e.cell hb).trans h3, (e.cell hb).trans h4, (e.cell hb).trans h5, (e.cell hb).trans h6, (e.cell hb).trans h7, (e.cell hb).trans h8, (e.cell hb).trans h9, (e.cell hb).trans h10⟩⟩
end Go.Proofs.YtkjplpmogfmhkaaGreatDoor
namespace Go.Proofs.YtkjplpmogfmhkaaGreatDoor
open Go.RowKit
set_option linter.unusedVariables false
set_option maxRecDepth 100000
/-- Where they stand: the pool's block and the certificate's. -/
structure DiZ (w : World) (R L T : Value) (day : Int) (roots links : List NC) (c : NC) (wr : World) : Prop where
  ext : Ext w wr
  po : PoAt wr w.heap.size R L T day
  cc : NcAt wr (w.heap.size + 1) c
  rR : RdN wr R roots
  rL : RdN wr L links
theorem DiZ.tr {w wr wx : World} {R L T : Value} {day : Int} {roots links : List NC} {c : NC} (h : DiZ w R L T day roots links c wr) (e : Ext wr wx) : DiZ w R L T day roots links c wx :=
  ⟨h.ext.tr e, h.po.ext e, h.cc.ext e, RdK.ext h.rR e, RdK.ext h.rL e⟩
theorem di_alloc (w : World) (R L T : Value) (day : Int) (c : NC) : ∃ wz, wz = (w.alloc (.cells #[R, L, T, .int .i64 day] 53)).alloc (.cells #[.string (bstr c.st), .int .i64 c.kind, .int .i64 c.num, .int .i64 c.iss, .int .i64 c.own, .int .i64 c.key, .int .i64 c.fr, .int .i64 c.un, .int .i64 c.to, .int .i64 c.e, .int .i64 c.s] 56) ∧ Ext w wz ∧ PoAt wz w.heap.size R L T day ∧ NcAt wz (w.heap.size + 1) c := by
  have e1 : Ext w (w.alloc (.cells #[R, L, T, .int .i64 day] 53)) := (Below.refl _ _).alloc (Nat.le_refl _) _
  refine ⟨_, rfl, e1.alloc (by simp) _, ?_, ?_⟩
  · exact PoAt.ext (heap_alloc_new' w _) ((Below.refl _ _).alloc (Nat.le_refl _) _)
  · have := NcAt.new (w.alloc (.cells #[R, L, T, .int .i64 day] 53)) c
    rw [show (w.alloc (.cells #[R, L, T, .int .i64 day] 53)).heap.size = w.heap.size + 1 by simp] at this
    exact this
set_option maxHeartbeats 8000000 in
theorem direct_any {R L T : Value} {roots links : List NC} (c : NC) (day : Int) (w : World) (hR : RdN w R roots) (hL : RdN w L links) (h1 : R.oneCell' = true) (h2 : L.oneCell' = true) (h3 : T.oneCell' = true) (hs : smL roots) (hsl : smL links) (hc : smN c) (E : KTab w 1) :
    Calls Tryz.prog 37 #[.agg (poRow R L T day), ncV c] w (RetQ w (.bool (dirB roots day c))) := by
  have HPV := Lib.hid (fun (u : Value) (l : List NC) W (e : Ext w W) (hu : RdN W u l) (hl : smL l) => nationalchain_proven day W (RdK.ext hR e) hu hl (E.below e))
  obtain ⟨AR, cR, rfl, hcR, hmR, hEL⟩ := hR.cellsAt
  have HEL := Lib.hid hEL
  obtain ⟨AL, cL, rfl, hcL, hmL, hEK⟩ := hL.cellsAt
  have HEK := Lib.hid hEK
  unfold maxLen at hmR hmL
  obtain ⟨wz, hwz, z0, ZP, ZC⟩ := di_alloc w (.slice AR roots.length cR) (.slice AL links.length cL) T day c
  have Z0 := Lib.hid (show DiZ w (.slice AR roots.length cR) (.slice AL links.length cL) T day roots links c wz from ⟨z0, ZP, ZC, RdK.ext hR z0, RdK.ext hL z0⟩)
  obtain ⟨TV, hTV⟩ : ∃ TV, TV = T := ⟨_, rfl⟩
  have HS := Lib.hid (And.intro hs (And.intro hsl hc))
  clear hEL hEK E hR hL z0 ZP ZC hs hsl hc h1 h2 hTV
  unfold poRow ncV
  go_enter Tryz.func37, Tryz.ntmps37
  go_wp2_with fail
  rw [← hwz]
  clear hwz
  go_loopw [5] (fun s5 wr => ∃ i : Nat, i ≤ roots.length ∧ s5 = .int .i64 (i : Int) ∧ Hid (∀ (j : Nat) (r : NC), j < i → roots[j]? = some r → provenB roots [r, c] day = false) ∧ Hid (DiZ w (.slice AR roots.length cR) (.slice AL links.length cL) T day roots links c wr)) (fun s5 _ => roots.length - (intOf s5).toNat)
  case atStart => exact ⟨0, Nat.zero_le _, rfl, fun j r hj => absurd hj (Nat.not_lt_zero _), Z0⟩
  case round =>
    obtain ⟨i, hi, rfl, HN, Z⟩ := hrel
    clear Z0
    have p0 := Z.out.po.c0
    have pl := Z.out.po.lt
    by_cases hlt : i < roots.length
    case neg =>
      obtain rfl : i = roots.length := by omega
      have HR := Lib.hid (show dirB roots day c = false from any_none fun j x hx => HN.out j x (List.getElem?_eq_some_iff.1 hx).1 hx)
      go_wp2_with fail
      go_ret
      exact ⟨by rw [HR.out]; rfl, Z.out.ext⟩
    case pos =>
    obtain ⟨y, hy⟩ : ∃ y, roots[i]? = some y := ⟨_, List.getElem?_eq_getElem hlt⟩
    have HY := Lib.hid hy
    obtain ⟨b1, o1, rfl, hb1, hC⟩ := HEL.out i y hy
    have HC := Lib.hid (fun W (e : Ext wr W) => hC W (Z.out.ext.tr e))
    have HSY := Lib.hid (show smL [y, c] from fun x hx => by
      rcases List.mem_cons.1 hx with rfl | hx
      · exact HS.out.1 _ (List.mem_of_getElem? HY.out)
      · rw [List.mem_singleton.1 hx]; exact HS.out.2.2)
    have wi1 : IntKind.i64.wrap ((i : Int)) = (i : Int) := IntWalk.i64_in _ (by omega)
    have zi1 : (0 : Int) ≤ (i : Int) := by omega
    have li1 : (i : Int) < (roots.length : Int) := by omega
    have ti1 : ((i : Int)).toNat = i := by omega
    clear hy hC
    go_upto_region 4 with fail
    refine Gd.wp_region_X 12 (by kernel_rfl) (by kernel_rfl) ?_
    simp only [List.take_succ_cons, List.take_zero, List.drop_succ_cons, List.drop_zero]
    intro wq hw1
    have LL : ∀ m : Lt wq, Ext wr m.1 := fun m => hw1.tr m.2
    clear p0 pl
    have p0 := fun m : Lt wq => (Z.out.po.ext (LL m)).c0
    have p3 := fun m : Lt wq => (Z.out.po.ext (LL m)).c3
    have pl := fun m : Lt wq => (Z.out.po.ext (LL m)).lt
    have nl := fun m : Lt wq => (Z.out.cc.ext (LL m)).lt
    have kc0 := fun m : Lt wq => (HC.out m.1 (LL m)).1
    have kc1 := fun m : Lt wq => (HC.out m.1 (LL m)).2.1
    have kc2 := fun m : Lt wq => (HC.out m.1 (LL m)).2.2.1
    have kc3 := fun m : Lt wq => (HC.out m.1 (LL m)).2.2.2.1
    have kc4 := fun m : Lt wq => (HC.out m.1 (LL m)).2.2.2.2.1
    have kc5 := fun m : Lt wq => (HC.out m.1 (LL m)).2.2.2.2.2.1
    have kc6 := fun m : Lt wq => (HC.out m.1 (LL m)).2.2.2.2.2.2.1
    have kc7 := fun m : Lt wq => (HC.out m.1 (LL m)).2.2.2.2.2.2.2.1
    have kc8 := fun m : Lt wq => (HC.out m.1 (LL m)).2.2.2.2.2.2.2.2.1
    have kc9 := fun m : Lt wq => (HC.out m.1 (LL m)).2.2.2.2.2.2.2.2.2.1
    have kc10 := fun m : Lt wq => (HC.out m.1 (LL m)).2.2.2.2.2.2.2.2.2.2
    have kd0 := fun m : Lt wq => (Z.out.cc.ext (LL m)).cells.1
    have kd1 := fun m : Lt wq => (Z.out.cc.ext (LL m)).cells.2.1
    have kd2 := fun m : Lt wq => (Z.out.cc.ext (LL m)).cells.2.2.1
    have kd3 := fun m : Lt wq => (Z.out.cc.ext (LL m)).cells.2.2.2.1
    have kd4 := fun m : Lt wq => (Z.out.cc.ext (LL m)).cells.2.2.2.2.1
    have kd5 := fun m : Lt wq => (Z.out.cc.ext (LL m)).cells.2.2.2.2.2.1
    have kd6 := fun m : Lt wq => (Z.out.cc.ext (LL m)).cells.2.2.2.2.2.2.1
    have kd7 := fun m : Lt wq => (Z.out.cc.ext (LL m)).cells.2.2.2.2.2.2.2.1
    have kd8 := fun m : Lt wq => (Z.out.cc.ext (LL m)).cells.2.2.2.2.2.2.2.2.1
    have kd9 := fun m : Lt wq => (Z.out.cc.ext (LL m)).cells.2.2.2.2.2.2.2.2.2.1
    have kd10 := fun m : Lt wq => (Z.out.cc.ext (LL m)).cells.2.2.2.2.2.2.2.2.2.2
    repeat (refine Gd.wpX_pure (by first | exact trivial | exact ⟨_, rfl, rfl, rfl⟩) rfl rfl rfl rfl rfl (fun K hK => ?_); go_big_quiet_op; refine hK _ ?_; clear hK K)
    refine Gd.wpX_buildSL (by first | exact trivial | exact ⟨_, rfl, rfl, rfl⟩) (GSl [y, c]) (stable_GSl _) (fun _ => [(0, ncV y), (1, ncV c)]) rfl rfl rfl rfl rfl (fun _ => rfl) (fun m f hf => ⟨_, _, run_twoN m.1 y c, (Below.refl _ _).alloc (Nat.le_refl _) _, gsl_two m.1 y c⟩) ?_
    simp only [Act.put, List.setIfInBounds_toArray, List.set_cons_zero, List.set_cons_succ]
    repeat (refine Gd.wpX_pure (by first | exact trivial | exact ⟨_, rfl, rfl, rfl⟩) rfl rfl rfl rfl rfl (fun K hK => ?_); go_big_quiet_op; refine hK _ ?_; clear hK K)
    refine Gd.wpX_callF (by first | exact trivial | exact ⟨_, rfl, rfl, rfl⟩) (fun v _ => v = .bool (provenB roots [y, c] day)) (stable_eq _) (fun f => [.slice (some ⟨b1, o1, none⟩) roots.length cR, f 21, .int .i64 day]) rfl rfl rfl rfl rfl (by kernel_rfl) rfl (fun _ => rfl) (fun m f hf => ?_) ?_
    · obtain ⟨A2, n2, c2, e21, hn2, r2⟩ := hf 21 _ rfl rfl
      rw [e21]
      exact (HPV.out _ [y, c] m.1 (Z.out.ext.tr (LL m)) r2 HSY.out).mono fun _ _ ⟨h1, h2⟩ => ⟨_, h1, h2, rfl⟩
    simp only [Act.put, List.setIfInBounds_toArray, List.set_cons_zero, List.set_cons_succ]
    refine Gd.wpX_endL (fun m f hf => ?_)
    have e24 := hf 24 _ rfl
    simp only [fillH]
    simp only [Act.put, List.setIfInBounds_toArray, List.set_cons_zero, List.set_cons_succ]
    rw [e24]
    have ZM := Lib.hid (Z.out.tr (LL m))
    clear hf e24 LL p0 p3 pl nl kc0 kc1 kc2 kc3 kc4 kc5 kc6 kc7 kc8 kc9 kc10 kd0 kd1 kd2 kd3 kd4 kd5 kd6 kd7 kd8 kd9 kd10 hw1 Z HC
    generalize m.1 = wm at *
    generalize f 21 = f21 at *
    clear m f
    have wk : IntKind.i64.wrap ((i : Int) + 1) = (i : Int) + 1 := IntWalk.i64_in _ (by omega)
    cases hd : provenB roots [y, c] day with
    | true =>
      have HR := Lib.hid (show dirB roots day c = true from any_some HY.out hd)
      clear hd
      go_wp2_with fail
      go_ret
      exact ⟨by rw [HR.out]; rfl, ZM.out.ext⟩
    | false =>
      have HN2 := Lib.hid (show ∀ (j : Nat) (r : NC), j < i + 1 → roots[j]? = some r → provenB roots [r, c] day = false from fun j r hj hr => by
        by_cases hji : j < i
        · exact HN.out j r hji hr
        · obtain rfl : j = i := by omega
          obtain rfl : y = r := Option.some.inj (HY.out.symm.trans hr)
          exact hd)
      clear hd
      go_wp2_with fail
      go_roundw
      case rel => exact ⟨i + 1, by omega, by go_num, HN2, ZM⟩
      case measure => simp [intOf]; omega
set_option maxHeartbeats 8000000 in
theorem over_any {R L T : Value} {roots links : List NC} (c : NC) (day : Int) (w : World) (hR : RdN w R roots) (hL : RdN w L links) (h1 : R.oneCell' = true) (h2 : L.oneCell' = true) (h3 : T.oneCell' = true) (hs : smL roots) (hsl : smL links) (hc : smN c) (E : KTab w 1) :
    Calls Tryz.prog 38 #[.agg (poRow R L T day), ncV c] w (RetQ w (.bool (ovB roots links day c))) := by
  have HPV := Lib.hid (fun (u : Value) (l : List NC) W (e : Ext w W) (hu : RdN W u l) (hl : smL l) => nationalchain_proven day W (RdK.ext hR e) hu hl (E.below e))
  obtain ⟨AR, cR, rfl, hcR, hmR, hEL⟩ := hR.cellsAt
  have HEL := Lib.hid hEL
  obtain ⟨AL, cL, rfl, hcL, hmL, hEK⟩ := hL.cellsAt
  have HEK := Lib.hid hEK
  unfold maxLen at hmR hmL
  obtain ⟨wz, hwz, z0, ZP, ZC⟩ := di_alloc w (.slice AR roots.length cR) (.slice AL links.length cL) T day c
  have Z0 := Lib.hid (show DiZ w (.slice AR roots.length cR) (.slice AL links.length cL) T day roots links c wz from ⟨z0, ZP, ZC, RdK.ext hR z0, RdK.ext hL z0⟩)
  obtain ⟨TV, hTV⟩ : ∃ TV, TV = T := ⟨_, rfl⟩
  have HS := Lib.hid (And.intro hs (And.intro hsl hc))
  clear hEL hEK E hR hL z0 ZP ZC hs hsl hc h1 h2 hTV
  unfold poRow ncV
  go_enter Tryz.func38, Tryz.ntmps38
  go_wp2_with fail
  rw [← hwz]
  clear hwz
  go_loopw [5, 6] (fun s5 s6 wr => ∃ i : Nat, i ≤ roots.length ∧ s5 = .int .i64 (i : Int) ∧ Hid (∀ (j : Nat) (r : NC), j < i → roots[j]? = some r → (links.any fun l => provenB roots [r, l, c] day) = false) ∧ Hid (DiZ w (.slice AR roots.length cR) (.slice AL links.length cL) T day roots links c wr)) (fun s5 _ _ => roots.length - (intOf s5).toNat)
  case atStart => exact ⟨0, Nat.zero_le _, rfl, fun j r hj => absurd hj (Nat.not_lt_zero _), Z0⟩
  case round =>
    obtain ⟨i, hi, rfl, HN, Z⟩ := hrel
    clear Z0
    have p0 := Z.out.po.c0
    have pl := Z.out.po.lt
    by_cases hlt : i < roots.length
    case neg =>
      obtain rfl : i = roots.length := by omega
      have HR := Lib.hid (show ovB roots links day c = false from any_none fun j x hx => HN.out j x (List.getElem?_eq_some_iff.1 hx).1 hx)
      go_wp2_with fail
      go_ret
      exact ⟨by rw [HR.out]; rfl, Z.out.ext⟩
    case pos =>
    obtain ⟨y, hy⟩ : ∃ y, roots[i]? = some y := ⟨_, List.getElem?_eq_getElem hlt⟩
    have HY := Lib.hid hy
    obtain ⟨b1, o1, rfl, hb1, hC⟩ := HEL.out i y hy
    have HC := Lib.hid hC
    have wi2 : IntKind.i64.wrap ((i : Int)) = (i : Int) := IntWalk.i64_in _ (by omega)
    have zi2 : (0 : Int) ≤ (i : Int) := by omega
    have li2 : (i : Int) < (roots.length : Int) := by omega
    have ti2 : ((i : Int)).toNat = i := by omega
    clear hy hC
    go_wp2_with fail
    go_loopw [6] (fun s6 wr => ∃ k : Nat, k ≤ links.length ∧ s6 = .int .i64 (k : Int) ∧ Hid (∀ (j : Nat) (l : NC), j < k → links[j]? = some l → provenB roots [y, l, c] day = false) ∧ Hid (DiZ w (.slice (some ⟨b1, o1, none⟩) roots.length cR) (.slice AL links.length cL) T day roots links c wr)) (fun s6 _ => links.length - (intOf s6).toNat)
    case atStart => exact ⟨0, Nat.zero_le _, rfl, fun j r hj => absurd hj (Nat.not_lt_zero _), Z⟩
    case round =>
      clear Z p0 pl
      have HNo := HN
      clear HN
      obtain ⟨k, hk, rfl, HN, Z⟩ := hrel
      have p0 := Z.out.po.c0
      have p1 := Z.out.po.c1
      have pl := Z.out.po.lt
      by_cases hlt2 : k < links.length
      case neg =>
        obtain rfl : k = links.length := by omega
        have HN2 := Lib.hid (show ∀ (j : Nat) (r : NC), j < i + 1 → roots[j]? = some r → (links.any fun l => provenB roots [r, l, c] day) = false from fun j r hj hr => by
          by_cases hji : j < i
          · exact HNo.out j r hji hr
          · obtain rfl : j = i := by omega
            obtain rfl : y = r := Option.some.inj (HY.out.symm.trans hr)
            exact any_none fun q x hx => HN.out q x (List.getElem?_eq_some_iff.1 hx).1 hx)
        have wk : IntKind.i64.wrap ((i : Int) + 1) = (i : Int) + 1 := IntWalk.i64_in _ (by omega)
        go_wp2_with fail
        go_roundw
        case rel => exact ⟨i + 1, by omega, by go_num, HN2, Z⟩
        case measure => simp [intOf]; omega
      case pos =>
      obtain ⟨v, hv⟩ : ∃ v, links[k]? = some v := ⟨_, List.getElem?_eq_getElem hlt2⟩
      have HV := Lib.hid hv
      obtain ⟨b2, o2, rfl, hb2, hD⟩ := HEK.out k v hv
      have HD := Lib.hid (fun W (e : Ext wr W) => hD W (Z.out.ext.tr e))
      have HCW := Lib.hid (fun W (e : Ext wr W) => HC.out W (Z.out.ext.tr e))
      have HSY := Lib.hid (show smL [y, v, c] from fun x hx => by
        rcases List.mem_cons.1 hx with rfl | hx
        · exact HS.out.1 _ (List.mem_of_getElem? HY.out)
        · rcases List.mem_cons.1 hx with rfl | hx
          · exact HS.out.2.1 _ (List.mem_of_getElem? HV.out)
          · rw [List.mem_singleton.1 hx]; exact HS.out.2.2)
      have wi3 : IntKind.i64.wrap ((k : Int)) = (k : Int) := IntWalk.i64_in _ (by omega)
      have zi3 : (0 : Int) ≤ (k : Int) := by omega
      have li3 : (k : Int) < (links.length : Int) := by omega
      have ti3 : ((k : Int)).toNat = k := by omega
      clear hv hD
      go_upto_region 7 with fail
      refine Gd.wp_region_X 17 (by kernel_rfl) (by kernel_rfl) ?_
      simp only [List.take_succ_cons, List.take_zero, List.drop_succ_cons, List.drop_zero]
      intro wq hw1
      have LL : ∀ m : Lt wq, Ext wr m.1 := fun m => hw1.tr m.2
      clear p0 p1 pl
      have p0 := fun m : Lt wq => (Z.out.po.ext (LL m)).c0
      have p1 := fun m : Lt wq => (Z.out.po.ext (LL m)).c1
      have p3 := fun m : Lt wq => (Z.out.po.ext (LL m)).c3
      have pl := fun m : Lt wq => (Z.out.po.ext (LL m)).lt
      have nl := fun m : Lt wq => (Z.out.cc.ext (LL m)).lt
      have kc0 := fun m : Lt wq => (HCW.out m.1 (LL m)).1
      have kc1 := fun m : Lt wq => (HCW.out m.1 (LL m)).2.1
      have kc2 := fun m : Lt wq => (HCW.out m.1 (LL m)).2.2.1
      have kc3 := fun m : Lt wq => (HCW.out m.1 (LL m)).2.2.2.1
      have kc4 := fun m : Lt wq => (HCW.out m.1 (LL m)).2.2.2.2.1
      have kc5 := fun m : Lt wq => (HCW.out m.1 (LL m)).2.2.2.2.2.1
      have kc6 := fun m : Lt wq => (HCW.out m.1 (LL m)).2.2.2.2.2.2.1
      have kc7 := fun m : Lt wq => (HCW.out m.1 (LL m)).2.2.2.2.2.2.2.1
      have kc8 := fun m : Lt wq => (HCW.out m.1 (LL m)).2.2.2.2.2.2.2.2.1
      have kc9 := fun m : Lt wq => (HCW.out m.1 (LL m)).2.2.2.2.2.2.2.2.2.1
      have kc10 := fun m : Lt wq => (HCW.out m.1 (LL m)).2.2.2.2.2.2.2.2.2.2
      have ke0 := fun m : Lt wq => (HD.out m.1 (LL m)).1
      have ke1 := fun m : Lt wq => (HD.out m.1 (LL m)).2.1
      have ke2 := fun m : Lt wq => (HD.out m.1 (LL m)).2.2.1
      have ke3 := fun m : Lt wq => (HD.out m.1 (LL m)).2.2.2.1
      have ke4 := fun m : Lt wq => (HD.out m.1 (LL m)).2.2.2.2.1
      have ke5 := fun m : Lt wq => (HD.out m.1 (LL m)).2.2.2.2.2.1
      have ke6 := fun m : Lt wq => (HD.out m.1 (LL m)).2.2.2.2.2.2.1
      have ke7 := fun m : Lt wq => (HD.out m.1 (LL m)).2.2.2.2.2.2.2.1
      have ke8 := fun m : Lt wq => (HD.out m.1 (LL m)).2.2.2.2.2.2.2.2.1
      have ke9 := fun m : Lt wq => (HD.out m.1 (LL m)).2.2.2.2.2.2.2.2.2.1
      have ke10 := fun m : Lt wq => (HD.out m.1 (LL m)).2.2.2.2.2.2.2.2.2.2
      have kd0 := fun m : Lt wq => (Z.out.cc.ext (LL m)).cells.1
      have kd1 := fun m : Lt wq => (Z.out.cc.ext (LL m)).cells.2.1
      have kd2 := fun m : Lt wq => (Z.out.cc.ext (LL m)).cells.2.2.1
      have kd3 := fun m : Lt wq => (Z.out.cc.ext (LL m)).cells.2.2.2.1
      have kd4 := fun m : Lt wq => (Z.out.cc.ext (LL m)).cells.2.2.2.2.1
      have kd5 := fun m : Lt wq => (Z.out.cc.ext (LL m)).cells.2.2.2.2.2.1
      have kd6 := fun m : Lt wq => (Z.out.cc.ext (LL m)).cells.2.2.2.2.2.2.1
      have kd7 := fun m : Lt wq => (Z.out.cc.ext (LL m)).cells.2.2.2.2.2.2.2.1
      have kd8 := fun m : Lt wq => (Z.out.cc.ext (LL m)).cells.2.2.2.2.2.2.2.2.1
      have kd9 := fun m : Lt wq => (Z.out.cc.ext (LL m)).cells.2.2.2.2.2.2.2.2.2.1
      have kd10 := fun m : Lt wq => (Z.out.cc.ext (LL m)).cells.2.2.2.2.2.2.2.2.2.2
      repeat (refine Gd.wpX_pure (by first | exact trivial | exact ⟨_, rfl, rfl, rfl⟩) rfl rfl rfl rfl rfl (fun K hK => ?_); go_big_quiet_op; refine hK _ ?_; clear hK K)
      refine Gd.wpX_buildSL (by first | exact trivial | exact ⟨_, rfl, rfl, rfl⟩) (GSl [y, v, c]) (stable_GSl _) (fun _ => [(0, ncV y), (1, ncV v), (2, ncV c)]) rfl rfl rfl rfl rfl (fun _ => rfl) (fun m f hf => ⟨_, _, run_threeN m.1 y v c, (Below.refl _ _).alloc (Nat.le_refl _) _, gsl_three m.1 y v c⟩) ?_
      simp only [Act.put, List.setIfInBounds_toArray, List.set_cons_zero, List.set_cons_succ]
      repeat (refine Gd.wpX_pure (by first | exact trivial | exact ⟨_, rfl, rfl, rfl⟩) rfl rfl rfl rfl rfl (fun K hK => ?_); go_big_quiet_op; refine hK _ ?_; clear hK K)
      refine Gd.wpX_callF (by first | exact trivial | exact ⟨_, rfl, rfl, rfl⟩) (fun u _ => u = .bool (provenB roots [y, v, c] day)) (stable_eq _) (fun f => [.slice (some ⟨b1, o1, none⟩) roots.length cR, f 34, .int .i64 day]) rfl rfl rfl rfl rfl (by kernel_rfl) rfl (fun _ => rfl) (fun m f hf => ?_) ?_
      · obtain ⟨A2, n2, c2, e21, hn2, r2⟩ := hf 34 _ rfl rfl
        rw [e21]
        exact (HPV.out _ [y, v, c] m.1 (Z.out.ext.tr (LL m)) r2 HSY.out).mono fun _ _ ⟨h1, h2⟩ => ⟨_, h1, h2, rfl⟩
      simp only [Act.put, List.setIfInBounds_toArray, List.set_cons_zero, List.set_cons_succ]
      refine Gd.wpX_endL (fun m f hf => ?_)
      have e37 := hf 37 _ rfl
      simp only [fillH]
      simp only [Act.put, List.setIfInBounds_toArray, List.set_cons_zero, List.set_cons_succ]
      rw [e37]
      have ZM := Lib.hid (Z.out.tr (LL m))
      clear hf e37 LL p0 p1 p3 pl nl kc0 kc1 kc2 kc3 kc4 kc5 kc6 kc7 kc8 kc9 kc10 kd0 kd1 kd2 kd3 kd4 kd5 kd6 kd7 kd8 kd9 kd10 ke0 ke1 ke2 ke3 ke4 ke5 ke6 ke7 ke8 ke9 ke10 hw1 Z HCW HD
      generalize m.1 = wm at *
      generalize f 34 = f34 at *
      clear m f
      have wk : IntKind.i64.wrap ((k : Int) + 1) = (k : Int) + 1 := IntWalk.i64_in _ (by omega)
      cases hd : provenB roots [y, v, c] day with
      | true =>
        have HR := Lib.hid (show ovB roots links day c = true from any_some HY.out (any_some (p := fun l => provenB roots [y, l, c] day) HV.out hd))
        clear hd
        go_wp2_with fail
        go_ret
        exact ⟨by rw [HR.out]; rfl, ZM.out.ext⟩
      | false =>
        have HN2 := Lib.hid (show ∀ (j : Nat) (l : NC), j < k + 1 → links[j]? = some l → provenB roots [y, l, c] day = false from fun j l hj hl => by
          by_cases hji : j < k
          · exact HN.out j l hji hl
          · obtain rfl : j = k := by omega
            obtain rfl : v = l := Option.some.inj (HV.out.symm.trans hl)
            exact hd)
        clear hd
        go_wp2_with fail
        go_roundw
        case rel => exact ⟨k + 1, by omega, by go_num, HN2, ZM⟩
        case measure => simp [intOf]; omega
end Go.Proofs.YtkjplpmogfmhkaaGreatDoor
