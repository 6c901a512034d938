/- Parts Uz Eq of the proof. -/
import Derived.Test.YtmmoenkmicimcaaGreatDoorDRbn
import Derived.Test.YtmmoenkmicimcaaGreatDoorDRax
import Derived.Test.YtmmoenkmicimcaaGreatDoorDRaw
import Derived.Test.YtmmoenkmicimcaaGreatDoorDRbh
import Derived.Test.YtmmoenkmicimcaaGreatDoorDRbd
import Derived.Test.YtmmoenkmicimcaaGreatDoorDRbc
namespace Go.Proofs.YtmmoenkmicimcaaGreatDoor
open Go.RowKit
open Go.Proofs.YtmmoenkmicimcaaGreatDoor.Gd (GRun GSkip)
set_option linter.unusedVariables false
set_option maxRecDepth 100000
section
variable {P : Program} {ops : Array Oper} {Q : Exit → Act → World → Prop} {w0 : World} {R : Act → World → Prop}
/-- A conversion whose value is known. -/
theorem Gd.wpX_convK {o : Oper} {rest : List Oper} {a : Act} {hs : List (Nat × VPred)} {d : Nat} (hg : GRun ops o a hs) (v xv : Value) {t1 t2 : TypeId} {x : Operand} (hd : o.dst = some d) (hz : Nat.blt d a.tmps.size = true) (ho : o.op = .convert t1 t2 x) (hx : a.eval x = xv) (hn : noHole o hs = true)
    (h : ∀ m : Lt w0, (convert t1 t2 xv).run P m.1 = .ok v m.1) (hr : Gt.wpX Gd.exR P ops Q w0 R [] rest (a.put (some d) v) hs) : Gt.wpX Gd.exR P ops Q w0 R [] (o :: rest) a hs :=
  Gd.wpX_call hg v hd hz (by unfold notSelect; rw [ho]) hn (fun m K hK => by
    unfold Oper.wp execOp
    simp only [ho, hx, Sem.run_bind, h m, Result.andThen_ok, Sem.run_pure]
    exact hK _ _ (by rw [hd]; rfl) ⟨Below.refl _ _, by rw [hd, eval_put_same (blt_lt hz)]⟩) hr
end
end Go.Proofs.YtmmoenkmicimcaaGreatDoor
namespace Go.Proofs.YtmmoenkmicimcaaGreatDoor
open Go.RowKit
open Go.Proofs.YtmmoenkmicimcaaGreatDoor.Gd (GRun GSkip)
set_option linter.unusedVariables false
set_option maxRecDepth 100000
/-- A cell of a block is stored that holds none of what the slice reads first. -/
theorem RdK.setO {w : World} {k g i : Nat} {v u : Value} {xs : List Value} {cs : Array Value} {t : TypeId} {fr : Nat × Nat} (h : RdK w k v xs) (hg : w.heap[g]? = some (.cells cs t fr)) (hd : ∀ x, xs[0]? = some x → x ∉ cs.toList) : RdK (w.setCell ⟨g, i, none⟩ u) k v xs := by
  obtain ⟨A, n, c, rfl, hn, hnc, hcm, hc⟩ := h
  refine ⟨A, n, c, rfl, hn, hnc, hcm, fun h0 => ?_⟩
  obtain ⟨b, o, rfl, hcell⟩ := hc h0
  refine ⟨b, o, rfl, fun j x hx => ?_⟩
  have hne : b ≠ g := fun q => by
    subst q
    have hp : 0 < xs.length := by have := (List.getElem?_eq_some_iff.1 hx).1; omega
    obtain ⟨x0, h0⟩ : ∃ x0, xs[0]? = some x0 := ⟨_, List.getElem?_eq_getElem hp⟩
    have q := hcell 0 x0 h0
    rw [cell_of_row w b _ _ _ _ hg] at q
    exact hd x0 h0 (List.mem_of_getElem? (by simpa using q))
  have q := hcell j x hx
  have hs : (w.setCell ⟨g, i, none⟩ u).heap[b]? = w.heap[b]? := setCell_block hne
  unfold World.cell? at q ⊢
  simp only [hs]
  exact q
theorem Rd.setO {w : World} {g i : Nat} {v u : Value} {l : List UInt8} {s0 s1 s2 s3 s4 : SlT} {t : TypeId} {fr : Nat × Nat} (h : Rd w v (bvs l)) (hg : w.heap[g]? = some (.cells (stRow s0 s1 s2 s3 s4) t fr)) : Rd (w.setCell ⟨g, i, none⟩ u) v (bvs l) := by
  refine (h.k1.setO hg fun x hx => ?_).r1
  obtain ⟨y, _, rfl⟩ : ∃ y, y ∈ l ∧ x = .int .u8 (y.toNat : Int) := by
    have := List.mem_of_getElem? hx
    unfold bvs at this
    obtain ⟨y, h1, h2⟩ := List.mem_map.1 this
    exact ⟨y, h1, h2.symm⟩
  unfold stRow
  simp
theorem RdD.setO {w : World} {g i : Nat} {v u : Value} {l : List DF} {s0 s1 s2 s3 s4 : SlT} {t : TypeId} {fr : Nat × Nat} (h : RdD w v l) (hg : w.heap[g]? = some (.cells (stRow s0 s1 s2 s3 s4) t fr)) : RdD (w.setCell ⟨g, i, none⟩ u) v l := by
  refine RdK.setO h hg fun x hx => ?_
  cases l with
  | nil => cases hx
  | cons y l =>
    have hx : some (Value.int .i64 y.kind) = some x := hx
    obtain rfl := Option.some.inj hx
    unfold stRow
    simp
theorem dv_head {qs : List (DV × Value)} {x : Value} (h : (kD.cells qs)[0]? = some x) : ∃ s, x = .string s := by
  cases qs with
  | nil => exact absurd h (by simp [LK.cells])
  | cons q qs => exact ⟨_, (Option.some.inj h).symm⟩
def GNilD : VPred := fun v _ => ∃ A, v = .slice A 0 0
theorem stable_GNilD : StableP GNilD := fun _ _ _ _ h => h
theorem run_bs0D (W : World) : (Instr.buildSlice 29 0 [].toArray).run Tryz.prog W = .ok (.slice (some ⟨W.heap.size, 0, none⟩) 0 0) (W.alloc (.cells #[] 41)) := by go_simp
def GOwD (B : Nat) (ps : List (DV × Value)) : VPred := fun v w => ∃ A c, v = .slice A ps.length c ∧ OwnK w B 41 17 (.slice A ps.length c) (kD.cells ps)
theorem stable_GOwD (B : Nat) (ps : List (DV × Value)) : StableP (GOwD B ps) := fun v w w' e ⟨A, c, h1, h2⟩ => ⟨A, c, h1, h2.ext e⟩
/-- An append onto an empty list: all that was is as it was. -/
theorem run_app0D {ty : TypeId} {W : World} {B : Nat} {v u : Value} {ps : List (DV × Value)} (h : GNilD v W) (hr : RdK W 17 u (kD.cells ps)) (h1 : ∀ x ∈ kD.cells ps, x.oneCell' = true) (hl : ps.length ≤ 1000) (hB : B ≤ W.heap.size) : ∃ v' w'', (Builtin.append_ #[29, 29] ty #[v, u]).run Tryz.prog W = .ok v' w'' ∧ Ext W w'' ∧ GOwD B ps v' w'' := by
  obtain ⟨A, rfl⟩ := h
  obtain ⟨A2, c2, w'', q1, q2, q3, q4⟩ := run_appKR (P := Tryz.prog) (ty := ty) (k := 17) (n := 0) (m := ps.length) (by decide) elemXD (OwnK.empty W W.heap.size 41 17 A) rfl hr (by rw [kD.cells_len]; rfl) h1 (by omega) (by unfold maxLen; omega) (Nat.le_refl _)
  rw [Nat.zero_add] at q1 q2
  rw [List.nil_append] at q2
  exact ⟨_, w'', q1, (Below.refl W.heap.size W).grown q3 (Nat.le_refl _) (fun k hk => by cases A <;> simp [rowOf] at hk), A2, c2, rfl, q2.mono hB⟩
def GOneD (m : DV) (u : Value) : VPred := fun v w => ∃ g, v = .slice (some ⟨g, 0, none⟩) 1 1 ∧ w.heap[g]? = some (.cells (dvCells m u).toArray 41 (0, 0))
theorem stable_GOneD (m : DV) (u : Value) : StableP (GOneD m u) := fun v w w' e ⟨g, h1, h2⟩ => ⟨g, h1, (e.block g (block_lt h2)).trans h2⟩
theorem GOneD.rd {m : DV} {u v : Value} {w : World} (h : GOneD m u v w) : RdK w 17 v (dvCells m u) := by
  obtain ⟨g, rfl, hg⟩ := h
  refine ⟨_, 1, 1, rfl, rfl, Nat.le_refl _, by unfold maxLen; omega, fun _ => ⟨g, 0, rfl, fun j x hx => ?_⟩⟩
  rw [Nat.zero_add, cell_of_row w g j _ _ _ hg]
  simpa using hx
/-- The entries that a call returned. -/
def GDs (l : List DF) : VPred := fun v w => ∃ A n c, v = .slice A n c ∧ RdD w (.slice A n c) l
theorem stable_GDs (l : List DF) : StableP (GDs l) := fun v w w' e ⟨A, n, c, h1, h2⟩ => ⟨A, n, c, h1, RdK.ext h2 e⟩
theorem DvAt.range {w : World} {g : Nat} {m : DV} {v : Value} (h : DvAt w g m v) : w.rangeAt g 0 (dvCells m v) := fun j u hu => by
  rw [Nat.zero_add, cell_of_row w g j _ _ (0, 0) h, List.getElem?_toArray]
  exact hu
theorem stD_range {w : World} {g : Nat} {s0 s1 s2 s3 s4 : SlT} (h : w.heap[g]? = some (.cells (stRow s0 s1 s2 s3 s4) 31 (0, 0))) : w.rangeAt g 0 [slV s0, slV s1, slV s2, slV s3, slV s4] := fun j u hu => by
  rw [Nat.zero_add, cell_of_row w g j _ _ (0, 0) h, show stRow s0 s1 s2 s3 s4 = [slV s0, slV s1, slV s2, slV s3, slV s4].toArray from rfl, List.getElem?_toArray]
  exact hu
set_option maxHeartbeats 16000000 in
theorem devraw_any {s0 s1 s2 s3 s4 : SlT} (S : ST) (m : DV) {u : Value} (secret signer : Int) (num : List UInt8) (w : World) (hS : StR w s0 s1 s2 s3 s4 S) (hG : StG S) (hz : s0.2.1 ≤ 2000000000000 ∧ s1.2.1 ≤ 2000000000000) (hds : ∀ d ∈ S.ds, d.defs.length ≤ 2513169434843) (hv : RdD w u m.defs) (hg : gdD m) (hdm : m.defs.length ≤ 2513169434843) (hn : num.length ≤ maxLen) (E : Env w) :
    Calls Tryz.prog 4 #[storeV s0 s1 s2 s3 s4, dvV m u, .int .i64 secret, .int .i64 signer, .string (bstr num)] w (RetQ w (.bool true)) := by
  obtain ⟨wz, hwz, TZ⟩ := two_allocW w s0 s1 s2 s3 s4 m u
  have HLI := Lib.hid (fun W (e : Ext w W) => light33_any s0 s1 s2 s3 s4 m u W (RdK.ext hv e) hz.1 hz.2)
  obtain ⟨A, n, cq, rfl, hnn, -⟩ := RdD.at_ hv
  subst hnn
  obtain ⟨ht, hsg, hrt⟩ := hg
  have hs : smD m.defs := fun c hc => hrt c hc
  have hq : smN m.sg := hsg
  obtain ⟨ps, hps, rk, hin⟩ := hS.r4
  have hpl : s4.2.1 = ps.length := by
    obtain ⟨A', n', c', e', hn', -⟩ := id rk
    unfold slV at e'
    injection e' with _ e2 _
    rw [e2]
    rw [kD.cells_len] at hn'
    exact Nat.eq_of_mul_eq_mul_right kD.pos hn'
  have HAW := Lib.hid (fun W (e : Ext w W) => awake33_any W (E.ext e))
  have HB1 := Lib.hid (fun W (e : Ext w W) => dbody_any m (.slice A m.defs.length cq) W (RdK.ext hv e) hs hq ht)
  have HB2 := Lib.hid (fun W (e : Ext w W) => refdbody_any m (.slice A m.defs.length cq) W (RdK.ext hv e) hs hq ht)
  have HC1 := Lib.hid (fun W (e : Ext w W) => dcheck_any m (.slice A m.defs.length cq) W (RdK.ext hv e) hs hq ht)
  have HC2 := Lib.hid (fun W (e : Ext w W) => refdcheck_any m (.slice A m.defs.length cq) W (RdK.ext hv e) hs hq ht)
  have HI1 := Lib.hid (fun W (e : Ext w W) => dissue_any secret m (.slice A m.defs.length cq) W (RdK.ext hv e) hs hq ht (E.ext e).d)
  have HI2 := Lib.hid (fun W (e : Ext w W) => refdissue_any secret m (.slice A m.defs.length cq) W (RdK.ext hv e) hs hq ht (E.ext e).r)
  have HPS := Lib.hid hps
  have HRK := Lib.hid rk
  have HIN := Lib.hid hin
  have HPL := Lib.hid hpl
  have HV := Lib.hid hv
  have HON := Lib.hid (show ∀ x ∈ kD.cells ps, x.oneCell' = true from LK.cells_one fun q hq => RdK.oneU (hin q hq))
  have HDS := Lib.hid (show smDs (S.ds ++ [m]) from fun d hd => by
    rcases List.mem_append.1 hd with hd | hd
    · exact ⟨(hG.d d hd).2.2, hds d hd⟩
    · rw [List.mem_singleton.1 hd]; exact ⟨hs, hdm⟩)
  have HN := Lib.hid hn
  have Z0 := Lib.hid TZ
  unfold maxLen at hn
  clear hS hG hz hv ht hsg hrt hs hq E TZ hps rk hin hpl hds hdm
  unfold storeV dvV dvCells
  go_enter Tryz.func4, Tryz.ntmps4
  go_upto_region 1 with fail
  rw [← hwz]
  clear hwz
  have HS := Lib.hid Z0.out.s
  have HR := Lib.hid Z0.out.m.row
  go_wp2_with (first | (refine wpList_load_row rfl 31 _ rfl w.heap.size rfl 31 (stRow s0 s1 s2 s3 s4) (0, 0) _ HS.out Tryz.underlying31 rfl info_st ?_) | (refine wpList_load_row rfl 41 _ rfl (w.heap.size + 1) rfl 41 (dvCells m (.slice A m.defs.length cq)).toArray (0, 0) _ HR.out Tryz.underlying41 rfl info_dv ?_))
  refine (HLI.out wz Z0.out.ext).mono ?_
  rintro e w1 ⟨b, rfl, hb80, b1⟩
  have Z1 := Lib.hid (Z0.out.tr b1)
  clear HS HR Z0 b1 HLI
  cases b with
  | false =>
    clear hb80
    go_wp2_with fail
    refine (HAW.out w1 Z1.out.ext).mono ?_
    rintro e w2 ⟨rfl, b2⟩
    go_wp2_with fail
    go_ret
    exact ⟨rfl, Z1.out.ext.tr b2⟩
  | true =>
  have HL20 := Lib.hid (show ps.length ≤ 20 by have := hb80 rfl; have := HPL.out; omega)
  clear hb80
  by_cases hnum : 100 < num.length
  case pos =>
    have hsz : (bstr num).size = num.length := by show num.toArray.size = _; simp
    have hbig : (100 : Int) < ((bstr num).size : Int) := by rw [hsz]; omega
    clear hsz
    go_wp2_with fail
    refine (HAW.out w1 Z1.out.ext).mono ?_
    rintro e w2 ⟨rfl, b2⟩
    go_wp2_with fail
    go_ret
    exact ⟨rfl, Z1.out.ext.tr b2⟩
  have hsz : (bstr num).size = num.length := by show num.toArray.size = _; simp
  have hbig : ¬ (100 : Int) < ((bstr num).size : Int) := by rw [hsz]; omega
  clear hsz
  go_upto_region 3 with fail
  clear hbig hnum
  have HR := Lib.hid Z1.out.m.row
  go_wp2_with (refine wpList_load_row rfl 41 _ rfl (w.heap.size + 1) rfl 41 (dvCells m (.slice A m.defs.length cq)).toArray (0, 0) _ HR.out Tryz.underlying41 rfl info_dv ?_)
  refine (HB1.out w1 Z1.out.ext).mono ?_
  rintro e w2 ⟨A2, n2, c2, rfl, hn2, r2, b2⟩
  have Z2 := Lib.hid (Z1.out.tr b2)
  have R2 := Lib.hid r2
  clear HR Z1 b2 hn2 r2
  go_upto_region 4 with fail
  have HR := Lib.hid Z2.out.m.row
  go_wp2_with (refine wpList_load_row rfl 41 _ rfl (w.heap.size + 1) rfl 41 (dvCells m (.slice A m.defs.length cq)).toArray (0, 0) _ HR.out Tryz.underlying41 rfl info_dv ?_)
  refine (HB2.out w2 Z2.out.ext).mono ?_
  rintro e w3 ⟨A3, n3, c3, rfl, hn3, r3, b3⟩
  have Z3 := Lib.hid (Z2.out.tr b3)
  have R3 := Lib.hid r3
  have R23 := Lib.hid (R2.out.ext b3)
  clear HR Z2 b3 hn3 r3 R2
  go_upto_region 5 with fail
  have HR := Lib.hid Z3.out.m.row
  go_wp2_with (refine wpList_load_row rfl 41 _ rfl (w.heap.size + 1) rfl 41 (dvCells m (.slice A m.defs.length cq)).toArray (0, 0) _ HR.out Tryz.underlying41 rfl info_dv ?_)
  refine (HI1.out w3 Z3.out.ext).mono ?_
  rintro e w4 ⟨A4, n4, c4, rfl, O4, b4⟩
  obtain ⟨ir, hir⟩ : ∃ ir, isCD secret m = ir := ⟨_, rfl⟩
  rw [hir] at O4 HI2
  rw [hir]
  obtain ⟨kr, hkr⟩ : ∃ kr, isKD secret m = kr := ⟨_, rfl⟩
  rw [hkr] at HI2
  rw [hkr]
  clear hir hkr
  obtain ⟨wa, hwa, ea, TA⟩ := dv_alloc w4 ir (.slice A4 n4 c4)
  have HG4 := Lib.hid (show w.heap.size + 1 < w4.heap.size from by have := Z3.out.m.lt; have := b4.size; omega)
  have Z5 := Lib.hid (Z3.out.tr (b4.tr ea))
  have R25 := Lib.hid (R23.out.ext (b4.tr ea))
  have R35 := Lib.hid (R3.out.ext (b4.tr ea))
  have HTA := Lib.hid TA
  have HOA := Lib.hid (show RdD wa (.slice A4 n4 c4) ir.defs from (O4.ext ea).rd)
  clear HR Z3 b4 O4 ea TA R23 R3 HI1
  unfold dvV dvCells
  go_upto_region 6 with fail
  rw [← hwa]
  clear hwa
  generalize w4.heap.size = g4 at *
  have HR := Lib.hid Z5.out.m.row
  go_wp2_with (refine wpList_load_row rfl 41 _ rfl (w.heap.size + 1) rfl 41 (dvCells m (.slice A m.defs.length cq)).toArray (0, 0) _ HR.out Tryz.underlying41 rfl info_dv ?_)
  refine (HI2.out wa Z5.out.ext).mono ?_
  rintro e w6 ⟨A6, n6, c6, rfl, O6, b6, -⟩
  obtain ⟨wb, hwb, eb, TB⟩ := dv_alloc w6 ir (.slice A6 n6 c6)
  have HG6 := Lib.hid (show w.heap.size + 1 < w6.heap.size from by have := Z5.out.m.lt; have := b6.size; omega)
  have Z7 := Lib.hid (Z5.out.tr (b6.tr eb))
  have R27 := Lib.hid (R25.out.ext (b6.tr eb))
  have R37 := Lib.hid (R35.out.ext (b6.tr eb))
  have HTA7 := Lib.hid (HTA.out.ext (b6.tr eb))
  have HTB7 := Lib.hid TB
  have HOA7 := Lib.hid (show RdD wb (.slice A4 n4 c4) ir.defs from RdK.ext HOA.out (b6.tr eb))
  have HOB7 := Lib.hid (show RdD wb (.slice A6 n6 c6) ir.defs from RdK.ext O6 eb)
  clear HR Z5 b6 O6 eb TB R25 R35 HTA HOA HI2
  unfold dvV dvCells
  go_upto_region 7 with fail
  rw [← hwb]
  clear hwb
  generalize w6.heap.size = g6 at *
  refine Gd.wp_region_X 6 (by kernel_rfl) (by kernel_rfl) ?_
  simp only [List.take_succ_cons, List.take_zero, List.drop_succ_cons, List.drop_zero]
  intro wq hw1
  have LL : ∀ m : Lt wq, Ext wb m.1 := fun m => hw1.tr m.2
  have k4 : ∀ m1 : Lt wq, m1.1.cell? ⟨w.heap.size, 4, none⟩ = some (.slice s4.1 s4.2.1 s4.2.2) := fun m1 => by rw [cell_of_row _ _ 4 _ _ _ (Z7.out.tr (LL m1)).s]; rfl
  have kl : ∀ m1 : Lt wq, w.heap.size < m1.1.heap.size := fun m1 => block_lt (Z7.out.tr (LL m1)).s
  have KM := fun m1 : Lt wq => (Z7.out.tr (LL m1)).m.range
  refine Gd.wpX_buildSL (Gd.gR rfl) GNilD stable_GNilD (fun _ => []) rfl rfl rfl rfl rfl (fun _ => rfl) (fun m1 f hf => ⟨_, _, run_bs0D m1.1, (Below.refl _ _).alloc (Nat.le_refl _) _, _, rfl⟩) ?_
  simp only [Act.put, List.setIfInBounds_toArray, List.set_cons_zero, List.set_cons_succ]
  repeat (refine Gd.wpX_pureP rfl fun K hK => ?_; go_big_quiet_op; refine hK _ ?_; clear hK K)
  refine Gd.wpX_appF (Gd.gR rfl) (GOwD wb.heap.size ps) (stable_GOwD _ _) (fun f => f 51) (fun _ => .slice s4.1 s4.2.1 s4.2.2) rfl rfl rfl rfl rfl rfl (fun _ => rfl) (fun _ => rfl) (fun m1 f hf => run_app0D (hf 51 _ rfl rfl) (RdK.ext HRK.out (Z7.out.tr (LL m1)).ext) HON.out (by have := HL20.out; omega) (LL m1).size) ?_
  simp only [Act.put, List.setIfInBounds_toArray, List.set_cons_zero, List.set_cons_succ]
  refine Gd.wpX_midK (Gd.gR rfl) (w.heap.size + 1) 0 (dvCells m (.slice A m.defs.length cq)) rfl rfl rfl rfl rfl KM Tryz.underlying41 rfl info_dv ?_
  simp only [Act.put, List.setIfInBounds_toArray, List.set_cons_zero, List.set_cons_succ]
  refine Gd.wpX_buildSL (Gd.gR rfl) (GOneD m (.slice A m.defs.length cq)) (stable_GOneD _ _) (fun _ => [(0, dvV m (.slice A m.defs.length cq))]) rfl rfl rfl rfl rfl (fun _ => rfl) (fun m1 f hf => ⟨_, _, run_oneDv m1.1 m A m.defs.length cq, (Below.refl _ _).alloc (Nat.le_refl _) _, _, rfl, heap_alloc_new' _ _⟩) ?_
  simp only [Act.put, List.setIfInBounds_toArray, List.set_cons_zero, List.set_cons_succ]
  refine Gd.wpX_endL (fun m1 f hf => ?_)
  obtain ⟨A5, c5, e54, o5⟩ := hf 54 _ rfl
  have hone : GOneD m (.slice A m.defs.length cq) (f 56) m1.1 := hf 56 _ rfl
  simp only [fillH]
  simp only [Act.put, List.setIfInBounds_toArray, List.set_cons_zero, List.set_cons_succ]
  rw [e54]
  have HO5 := Lib.hid o5
  have HR5 := Lib.hid hone.rd
  have X5 := Lib.hid (LL m1)
  obtain ⟨g5, e56, -⟩ := hone
  rw [e56] at HR5
  rw [e56]
  clear hf e54 e56 LL k4 kl KM hw1 o5
  generalize m1.1 = w5 at *
  generalize f 51 = f51 at *
  clear m1 f
  show wpList _ _ _ _ _ _
  go_upto_region 8 with (refine wpList_appKR (k := 17) (by decide) elemXD (n := ps.length) (m := 1) (B := wb.heap.size) (w0 := wb) HO5.out (by rw [kD.cells_len]; rfl) HR5.out (by rfl) (kD.one m (.slice A m.defs.length cq) rfl) X5.out (by have := HL20.out; omega) (by have := HL20.out; unfold maxLen; omega) X5.out.size rfl rfl rfl rfl ?_; intro A8 n8 c8 w8 hn8 o8 x8 g8 f8; have J8 := Z7.out.tr x8; have y4 : w8.cell? ⟨w.heap.size, 4, none⟩ = some (.slice s4.1 s4.2.1 s4.2.2) := (by rw [cell_of_row _ _ 4 _ _ _ J8.s]; rfl); have yl := block_lt J8.s; have yf : w8.frozen? ⟨w.heap.size, 4, none⟩ = false := (by simp [World.frozen?, J8.s]))
  have E9 : Ext w (w8.setCell ⟨w.heap.size, 4, none⟩ (.slice A8 n8 c8)) := ext_set J8.ext (Nat.le_refl _)
  have Z9 := Lib.hid (show TwoW w (w8.setCell ⟨w.heap.size, 4, none⟩ (.slice A8 n8 c8)) s0 s1 s2 s3 (A8, n8, c8) m (.slice A m.defs.length cq) from ⟨E9, row_set J8.s 4 (.slice A8 n8 c8), J8.m.other (by omega)⟩)
  have R29 := Lib.hid (Rd.setO (i := 4) (u := .slice A8 n8 c8) (R27.out.ext x8) J8.s)
  have R39 := Lib.hid (Rd.setO (i := 4) (u := .slice A8 n8 c8) (R37.out.ext x8) J8.s)
  have TA9 := Lib.hid ((HTA7.out.ext x8).other (b := w.heap.size) (i := 4) (u := .slice A8 n8 c8) (by have := HG4.out; omega))
  have TB9 := Lib.hid ((HTB7.out.ext x8).other (b := w.heap.size) (i := 4) (u := .slice A8 n8 c8) (by have := HG6.out; omega))
  have OA9 := Lib.hid (RdD.setO (i := 4) (u := .slice A8 n8 c8) (show RdD w8 (.slice A4 n4 c4) ir.defs from RdK.ext HOA7.out x8) J8.s)
  have OB9 := Lib.hid (RdD.setO (i := 4) (u := .slice A8 n8 c8) (show RdD w8 (.slice A6 n6 c6) ir.defs from RdK.ext HOB7.out x8) J8.s)
  have RX9 := Lib.hid (show RdX kD (w8.setCell ⟨w.heap.size, 4, none⟩ (.slice A8 n8 c8)) (slV (A8, n8, c8)) (S.ds ++ [m]) from
    ⟨ps ++ [(m, (.slice A m.defs.length cq))], by rw [List.map_append, HPS.out]; rfl, by
      rw [← kD.cells_snoc]
      refine RdK.setO o8.rd J8.s fun x hx => ?_
      rw [kD.cells_snoc] at hx
      obtain ⟨s, rfl⟩ := dv_head hx
      unfold stRow
      simp, fun q hq => by
      rcases List.mem_append.1 hq with hq | hq
      · exact RdK.ext (HIN.out q hq) E9
      · rw [List.mem_singleton.1 hq]; exact RdK.ext HV.out E9⟩)
  clear J8 y4 yl yf o8 x8 g8 f8 hn8 E9 HR5 HO5 X5 Z7 R27 R37 HTA7 HTB7 HOA7 HOB7 HRK HON HIN HV HPS HPL HG4 HG6 HL20
  generalize w8.setCell ⟨w.heap.size, 4, none⟩ (.slice A8 n8 c8) = w9 at *
  have HSM := Lib.hid (fun W (h1 : RdD W (.slice A4 n4 c4) ir.defs) (h2 : RdD W (.slice A6 n6 c6) ir.defs) => refdsame_any ir (.slice A4 n4 c4) (.slice A6 n6 c6) W h1 h2)
  have HP1 := Lib.hid (fun W (e : Ext w9 W) => applying_any s0 s1 s2 s3 (A8, n8, c8) (S.ds ++ [m]) m.st num signer W (RX9.out.ext e) HDS.out HN.out)
  have HP2 := Lib.hid (fun W (e : Ext w9 W) => refapplying_any s0 s1 s2 s3 (A8, n8, c8) (S.ds ++ [m]) m.st num signer W (RX9.out.ext e) HDS.out HN.out)
  clear RX9 HDS HN
  generalize hAP : appD (S.ds ++ [m]) m.st signer num = AP at *
  clear hAP
  generalize hCK : ckD m = CK at *
  generalize hBY : byD m = BY at *
  clear hCK hBY
  refine Gd.wp_region_X 45 (by kernel_rfl) (by kernel_rfl) ?_
  simp only [List.take_succ_cons, List.take_zero, List.drop_succ_cons, List.drop_zero]
  intro wq hw1
  have LL : ∀ m : Lt wq, Ext w9 m.1 := fun m => hw1.tr m.2
  have LW : ∀ m : Lt wq, Ext w m.1 := fun m => Z9.out.ext.tr (LL m)
  have KS := fun m : Lt wq => stD_range (Z9.out.tr (LL m)).s
  have KM := fun m : Lt wq => (Z9.out.tr (LL m)).m.range
  have KX := fun m : Lt wq => (TA9.out.ext (LL m)).range
  have KY := fun m : Lt wq => (TB9.out.ext (LL m)).range
  have m0 := fun m1 : Lt wq => (Z9.out.tr (LL m1)).m.c0
  have ml := fun m1 : Lt wq => (Z9.out.tr (LL m1)).m.lt
  repeat (refine Gd.wpX_pureP rfl fun K hK => ?_; go_big_quiet_op; refine hK _ ?_; clear hK K)
  refine Gd.wpX_callFn (Gd.gR rfl) (.bool true) (args := []) rfl rfl rfl rfl (by kernel_rfl) rfl rfl (fun m1 => (HAW.out m1.1 (LW m1)).mono fun _ _ ⟨h1, h2⟩ => ⟨h1, h2⟩) ?_
  simp only [Act.put, List.setIfInBounds_toArray, List.set_cons_zero, List.set_cons_succ]
  try simp only [beq_self_eq_true]
  repeat (refine Gd.wpX_pureP rfl fun K hK => ?_; go_big_quiet_op; refine hK _ ?_; clear hK K)
  try simp only [beq_self_eq_true]
  refine Gd.wpX_midK (Gd.gR rfl) (w.heap.size + 1) 0 (dvCells m (.slice A m.defs.length cq)) rfl rfl rfl rfl rfl KM Tryz.underlying41 rfl info_dv ?_
  simp only [Act.put, List.setIfInBounds_toArray, List.set_cons_zero, List.set_cons_succ]
  repeat (refine Gd.wpX_pureP rfl fun K hK => ?_; go_big_quiet_op; refine hK _ ?_; clear hK K)
  repeat (refine Gd.wpX_pureP rfl fun K hK => ?_; go_big_quiet_op; refine hK _ ?_; clear hK K)
  refine Gd.wpX_callFn (Gd.gR rfl) (.int .i64 CK) (args := [dvV m (.slice A m.defs.length cq)]) rfl rfl rfl rfl (by kernel_rfl) rfl rfl (fun m1 => (HC1.out m1.1 (LW m1)).mono fun _ _ ⟨h1, h2⟩ => ⟨h1, h2⟩) ?_
  simp only [Act.put, List.setIfInBounds_toArray, List.set_cons_zero, List.set_cons_succ]
  try simp only [beq_self_eq_true]
  repeat (refine Gd.wpX_pureP rfl fun K hK => ?_; go_big_quiet_op; refine hK _ ?_; clear hK K)
  try simp only [beq_self_eq_true]
  refine Gd.wpX_midK (Gd.gR rfl) (w.heap.size + 1) 0 (dvCells m (.slice A m.defs.length cq)) rfl rfl rfl rfl rfl KM Tryz.underlying41 rfl info_dv ?_
  simp only [Act.put, List.setIfInBounds_toArray, List.set_cons_zero, List.set_cons_succ]
  repeat (refine Gd.wpX_pureP rfl fun K hK => ?_; go_big_quiet_op; refine hK _ ?_; clear hK K)
  repeat (refine Gd.wpX_pureP rfl fun K hK => ?_; go_big_quiet_op; refine hK _ ?_; clear hK K)
  refine Gd.wpX_callFn (Gd.gR rfl) (.int .i64 CK) (args := [dvV m (.slice A m.defs.length cq)]) rfl rfl rfl rfl (by kernel_rfl) rfl rfl (fun m1 => (HC2.out m1.1 (LW m1)).mono fun _ _ ⟨h1, h2⟩ => ⟨h1, h2⟩) ?_
  simp only [Act.put, List.setIfInBounds_toArray, List.set_cons_zero, List.set_cons_succ]
  try simp only [beq_self_eq_true]
  repeat (refine Gd.wpX_pureP rfl fun K hK => ?_; go_big_quiet_op; refine hK _ ?_; clear hK K)
  try simp only [beq_self_eq_true]
  repeat (refine Gd.wpX_pureP rfl fun K hK => ?_; go_big_quiet_op; refine hK _ ?_; clear hK K)
  refine Gd.wpX_convK (Gd.gR rfl) (.string (bstr BY)) (.slice A2 n2 c2) rfl rfl rfl rfl rfl (fun m1 => run_strU (R29.out.ext (LL m1))) ?_
  simp only [Act.put, List.setIfInBounds_toArray, List.set_cons_zero, List.set_cons_succ]
  repeat (refine Gd.wpX_pureP rfl fun K hK => ?_; go_big_quiet_op; refine hK _ ?_; clear hK K)
  refine Gd.wpX_convK (Gd.gR rfl) (.string (bstr BY)) (.slice A3 n3 c3) rfl rfl rfl rfl rfl (fun m1 => run_strU (R39.out.ext (LL m1))) ?_
  simp only [Act.put, List.setIfInBounds_toArray, List.set_cons_zero, List.set_cons_succ]
  try simp only [beq_self_eq_true]
  repeat (refine Gd.wpX_pureP rfl fun K hK => ?_; go_big_quiet_op; refine hK _ ?_; clear hK K)
  try simp only [beq_self_eq_true]
  refine Gd.wpX_midK (Gd.gR rfl) (g4) 0 (dvCells ir (.slice A4 n4 c4)) rfl rfl rfl rfl rfl KX Tryz.underlying41 rfl info_dv ?_
  simp only [Act.put, List.setIfInBounds_toArray, List.set_cons_zero, List.set_cons_succ]
  repeat (refine Gd.wpX_pureP rfl fun K hK => ?_; go_big_quiet_op; refine hK _ ?_; clear hK K)
  refine Gd.wpX_midK (Gd.gR rfl) (g6) 0 (dvCells ir (.slice A6 n6 c6)) rfl rfl rfl rfl rfl KY Tryz.underlying41 rfl info_dv ?_
  simp only [Act.put, List.setIfInBounds_toArray, List.set_cons_zero, List.set_cons_succ]
  repeat (refine Gd.wpX_pureP rfl fun K hK => ?_; go_big_quiet_op; refine hK _ ?_; clear hK K)
  repeat (refine Gd.wpX_pureP rfl fun K hK => ?_; go_big_quiet_op; refine hK _ ?_; clear hK K)
  refine Gd.wpX_callFn (Gd.gR rfl) (.bool true) (args := [dvV ir (.slice A4 n4 c4), dvV ir (.slice A6 n6 c6)]) rfl rfl rfl rfl (by kernel_rfl) rfl rfl (fun m1 => (HSM.out m1.1 (RdK.ext OA9.out (LL m1)) (RdK.ext OB9.out (LL m1))).mono fun _ _ ⟨h1, h2⟩ => ⟨h1, h2⟩) ?_
  simp only [Act.put, List.setIfInBounds_toArray, List.set_cons_zero, List.set_cons_succ]
  try simp only [beq_self_eq_true]
  repeat (refine Gd.wpX_pureP rfl fun K hK => ?_; go_big_quiet_op; refine hK _ ?_; clear hK K)
  try simp only [beq_self_eq_true]
  refine Gd.wpX_midK (Gd.gR rfl) (w.heap.size) 0 ([slV s0, slV s1, slV s2, slV s3, slV (A8, n8, c8)]) rfl rfl rfl rfl rfl KS Tryz.underlying31 rfl info_st ?_
  simp only [Act.put, List.setIfInBounds_toArray, List.set_cons_zero, List.set_cons_succ]
  repeat (refine Gd.wpX_pureP rfl fun K hK => ?_; go_big_quiet_op; refine hK _ ?_; clear hK K)
  repeat (refine Gd.wpX_pureP rfl fun K hK => ?_; go_big_quiet_op; refine hK _ ?_; clear hK K)
  refine Gd.wpX_callF (Gd.gR rfl) (GDs AP) (stable_GDs _) (fun _ => [storeV s0 s1 s2 s3 (A8, n8, c8), .string (bstr m.st), .int .i64 signer, .string (bstr num)]) rfl rfl rfl rfl rfl (by kernel_rfl) rfl (fun _ => rfl) (fun m1 f hf => (HP1.out m1.1 (LL m1)).mono fun e w'' ⟨A', n', c', h1, h2, h3⟩ => ⟨_, h1, h3, A', n', c', rfl, h2⟩) ?_
  simp only [Act.put, List.setIfInBounds_toArray, List.set_cons_zero, List.set_cons_succ]
  repeat (refine Gd.wpX_pureP rfl fun K hK => ?_; go_big_quiet_op; refine hK _ ?_; clear hK K)
  refine Gd.wpX_midK (Gd.gR rfl) (w.heap.size) 0 ([slV s0, slV s1, slV s2, slV s3, slV (A8, n8, c8)]) rfl rfl rfl rfl rfl KS Tryz.underlying31 rfl info_st ?_
  simp only [Act.put, List.setIfInBounds_toArray, List.set_cons_zero, List.set_cons_succ]
  repeat (refine Gd.wpX_pureP rfl fun K hK => ?_; go_big_quiet_op; refine hK _ ?_; clear hK K)
  repeat (refine Gd.wpX_pureP rfl fun K hK => ?_; go_big_quiet_op; refine hK _ ?_; clear hK K)
  refine Gd.wpX_callF (Gd.gR rfl) (GDs AP) (stable_GDs _) (fun _ => [storeV s0 s1 s2 s3 (A8, n8, c8), .string (bstr m.st), .int .i64 signer, .string (bstr num)]) rfl rfl rfl rfl rfl (by kernel_rfl) rfl (fun _ => rfl) (fun m1 f hf => (HP2.out m1.1 (LL m1)).mono fun e w'' ⟨A', n', c', h1, h2, h3⟩ => ⟨_, h1, h3, A', n', c', rfl, h2⟩) ?_
  simp only [Act.put, List.setIfInBounds_toArray, List.set_cons_zero, List.set_cons_succ]
  repeat (refine Gd.wpX_pureP rfl fun K hK => ?_; go_big_quiet_op; refine hK _ ?_; clear hK K)
  repeat (refine Gd.wpX_pureP rfl fun K hK => ?_; go_big_quiet_op; refine hK _ ?_; clear hK K)
  refine Gd.wpX_callK (Gd.gR rfl) (.bool true) (fun f => [f 95, f 101]) rfl rfl rfl rfl rfl (by kernel_rfl) rfl (fun _ => rfl) (fun m1 f hf => ?_) ?_
  · obtain ⟨A', n', c', e1, h1⟩ := hf 95 _ rfl rfl
    obtain ⟨A'', n'', c'', e2, h2⟩ := hf 101 _ rfl rfl
    rw [e1, e2]
    exact (samedf_any m1.1 h1 h2).mono fun _ _ ⟨q1, q2⟩ => ⟨q1, q2⟩
  simp only [Act.put, List.setIfInBounds_toArray, List.set_cons_zero, List.set_cons_succ]
  try simp only [beq_self_eq_true]
  repeat (refine Gd.wpX_pureP rfl fun K hK => ?_; go_big_quiet_op; refine hK _ ?_; clear hK K)
  try simp only [beq_self_eq_true]
  refine Gd.wpX_endL (fun m1 f hf => ?_)
  simp only [fillH]
  simp only [Act.put, List.setIfInBounds_toArray, List.set_cons_zero, List.set_cons_succ]
  have LM := Lib.hid (LW m1)
  clear hw1 LL LW KS KM KX KY m0 ml hf
  generalize m1.1 = wm at *
  generalize f 95 = f95 at *
  generalize f 101 = f101 at *
  clear m1 f
  show wpList _ _ _ _ _ _
  go_wp2_with fail
  go_ret
  exact ⟨by simp, LM.out⟩
end Go.Proofs.YtmmoenkmicimcaaGreatDoor
