/- Parts Uk Ul Mk El of the proof. -/
import Derived.Test.YtmmoenkmicimcaaGreatDoorDRax
import Derived.Test.YtmmoenkmicimcaaGreatDoorDRbj
import Derived.Deep.CutRange
import Derived.Test.YtmmoenkmicimcaaGreatDoorDRay
import Derived.Test.YtmmoenkmicimcaaGreatDoorDRaz
namespace Go.Proofs.YtmmoenkmicimcaaGreatDoor
open Go.RowKit
set_option linter.unusedVariables false
set_option maxRecDepth 100000
theorem au_zeroU (w : World) : ∃ wz, wz = w.alloc (.cells (.string ⟨#[]⟩ :: .slice none 0 0 :: .slice none 0 0 :: .slice none 0 0 :: .string ⟨#[]⟩ :: .int .i64 0 :: .int .i64 0 :: .int .i64 0 :: .int .i64 0 :: .int .i64 0 :: .int .i64 0 :: .int .i64 0 :: .int .i64 0 :: .int .i64 0 :: .int .i64 0 :: .string ⟨#[]⟩ :: .int .i64 0 :: .int .i64 0 :: .int .i64 0 :: .int .i64 0 :: .int .i64 0 :: .int .i64 0 :: .int .i64 0 :: .int .i64 0 :: .int .i64 0 :: .int .i64 0 :: .int .i64 0 :: .int .i64 0 :: .int .i64 0 :: .int .i64 0 :: .slice none 0 0 :: .slice none 0 0 :: .slice none 0 0 :: ([] : List Value)).toArray 50) ∧ Ext w wz ∧ AuAt wz w.heap.size zeroAB :=
  ⟨_, rfl, (Below.refl _ _).alloc (Nat.le_refl _) _, heap_alloc_new' w _⟩
theorem AuAt.put_li {w : World} {g : Nat} {x : AB} (h : AuAt w g x) (v : Int) : AuAt (w.setCell ⟨g, 29, none⟩ (.int .i64 v)) g { x with li := v } := by
  have h9 := row_set h 29 (.int .i64 v)
  simp only [List.setIfInBounds_toArray, List.set_cons_zero, List.set_cons_succ] at h9
  exact h9
section
open Go.Proofs.YtmmoenkmicimcaaGreatDoor.Gd (GRun)
variable {P : Program} {r : Gt.Rl} {ops : Array Oper} {Q : Exit → Act → World → Prop} {w0 : World} {R : Act → World → Prop} {ss : List (Nat × VPred)}
/-- A struct loaded whole. -/
theorem Gt.wpX_rowU {o : Oper} {rest : List Oper} {a : Act} {hs : List (Nat × VPred)} {d : Nat} (hg : GRun ops o a hs) {ty t : TypeId} {x : Operand} (g : Nat) (cs : Array Value) {fr : Nat × Nat} {dsc : TypeDesc}
    (hd : o.dst = some d) (hz : Nat.blt d a.tmps.size = true) (ho : o.op = .load ty x) (hin : (opTmps o).all (fun t => Nat.blt t a.tmps.size) = true) (hq : okOp a x = true) (ha : ∀ f, evF a hs f x = .pointer (some ⟨g, 0, none⟩))
    (hrow : ∀ m : r.Lt w0, m.1.heap[g]? = some (.cells cs t fr)) (hu : P.underlying ty = some dsc) (hdd : (match dsc with | .struct _ | .array _ _ => true | _ => false) = true) (hi : (P.info? ty).map (·.size) = some cs.size)
    (hr : Gt.wpX r P ops Q w0 R ss rest (a.put (some d) undef) ((d, fun v _ => v = .agg cs) :: hs)) : Gt.wpX r P ops Q w0 R ss (o :: rest) a hs :=
  Gt.wpX_newL hg (fun v _ => v = .agg cs) (Gt.Rl.stable_eq _ _) (fun _ => Instr.loadAt ty (.pointer (some ⟨g, 0, none⟩))) hd hz (by unfold notSelect; rw [ho]) hin (fun f => by unfold execOp; simp only [ho]; rw [Gt.ev_fill hq, ha f])
    (fun m f hf => ⟨_, _, by simp only [Instr.loadAt, Instr.sureAddr, Sem.run_bind, Sem.run_pure, Result.andThen_ok, run_loadVar_row m.1 g t ty cs fr dsc (hrow m) hu hdd hi], r.dxe (Below.refl _ _), rfl⟩) hr
end
end Go.Proofs.YtmmoenkmicimcaaGreatDoor
namespace Go.Proofs.YtmmoenkmicimcaaGreatDoor
open Go.RowKit
set_option linter.unusedVariables false
set_option maxRecDepth 100000
def auG (w : World) (k : Nat) : Prop := k = w.heap.size + 1 ∨ k = w.heap.size + 1 + 1
end Go.Proofs.YtmmoenkmicimcaaGreatDoor
namespace Go.Proofs.YtmmoenkmicimcaaGreatDoor
open Go.RowKit
set_option linter.unusedVariables false
set_option maxRecDepth 100000
theorem RdK.none_ {w w' : World} {k : Nat} {v : Value} (hk : 0 < k) (h : RdK w k v []) : RdK w' k v [] := by
  obtain ⟨A, n, c, rfl, hn, hnc, hcm, hc⟩ := h
  have h0 : n = 0 := by
    rcases Nat.mul_eq_zero.1 hn with q | q
    · exact q
    · omega
  exact ⟨A, n, c, rfl, hn, hnc, hcm, fun q => by omega⟩
end Go.Proofs.YtmmoenkmicimcaaGreatDoor
namespace Go.Proofs.YtmmoenkmicimcaaGreatDoor
open Go.RowKit
set_option linter.unusedVariables false
set_option maxRecDepth 100000
def adT : List Nat := [50, 41]
theorem au_adT : 50 ∈ adT := List.mem_cons_self
theorem dv_adT : 41 ∈ adT := List.mem_cons_of_mem _ (List.mem_singleton.2 rfl)
structure DbZ (w wr : World) (x : AB) : Prop where
  a : AuAt wr w.heap.size x
  z : AuAt wr (w.heap.size + 1) zeroAB
  r : DvAt wr (w.heap.size + 1 + 1) zeroD (.slice none 0 0)
theorem DbZ.ext {w wr wx : World} {x : AB} (h : DbZ w wr x) (e : Ext wr wx) : DbZ w wx x := ⟨h.a.ext e, h.z.ext e, h.r.ext e⟩
theorem isCD_defs (k : Int) (m : DV) : (isCD k m).defs = m.defs ∨ (isCD k m).defs = [] := by
  unfold isCD
  split
  · exact .inl rfl
  · exact .inr rfl
theorem retDQ_rd {w1 we : World} {s v : Value} {m : DV} {l : List DF} (h : RdD w1 s m.defs) (hq : s = v ∨ s = .slice none 0 0) (hv : RdD we v l) (hm : m.defs = l ∨ m.defs = []) : RdD we s m.defs := by
  by_cases h0 : m.defs = []
  · have h : RdK w1 5 s (dfsCells m.defs) := h
    show RdK we 5 s (dfsCells m.defs)
    rw [h0] at h ⊢
    exact RdK.none_ (by decide) h
  · rcases hm with hm | hm
    · rcases hq with rfl | rfl
      · rw [hm]; exact hv
      · obtain ⟨A, n, c, e, hn, _⟩ := RdD.at_ h
        injection e with e1 e2 e3
        subst e2
        exact absurd (List.eq_nil_of_length_eq_zero hn.symm) h0
    · exact absurd hm h0
/-- What published returns. -/
def PubD (w : World) (x : AB) (v : Value) (m : DV) (k : Int) (e : Ending) (w' : World) : Prop := ∃ A n c, e = .returned (.tuple #[abV { x with li := x.li + 1 }, dvV m (.slice A n c), .int .i64 k]) ∧ RdD w' (.slice A n c) m.defs ∧ Ext w w' ∧ (.slice A n c = v ∨ .slice A n c = Value.slice none 0 0)
set_option maxHeartbeats 16000000 in
theorem deviate_any (x : AB) (l : List DF) (day : Int) (w : World) (hv : RdD w x.D l) (hs : smD l) (hg : smN x.ls) (hst : x.st.length ≤ maxLen) (li0 : -1000000 ≤ x.li) (li1 : x.li ≤ 1000000) (h1 : AbOne x) (E : KTab w 0) :
    Calls Tryz.prog 26 #[abV x, .int .i64 day] w (PubD w x x.D (isCD x.lsec ⟨x.st, x.li, day, l, x.ls, 0, 0⟩) (isKD x.lsec ⟨x.st, x.li, day, l, x.ls, 0, 0⟩)) := by
  obtain ⟨st, R, L, S, sg, ls, ssec, lsec, nx, li, V, D, Z⟩ := x
  simp only at hg hst li0 li1 hv
  have HIS := Lib.hid (fun W (e : Ext w W) => refdissue_any lsec ⟨st, li, day, l, ls, 0, 0⟩ D W (RdK.ext hv e) hs hg hst (E.below e))
  have HV := Lib.hid hv
  obtain ⟨AV, nV, cV, rfl, hnV, -⟩ := RdD.at_ hv
  subst hnV
  obtain ⟨wa, hwa, ea, TA⟩ := au_alloc w ⟨st, R, L, S, sg, ls, ssec, lsec, nx, li, V, .slice AV l.length cV, Z⟩
  obtain ⟨wb, hwb, eb, TB⟩ := au_zeroU wa
  obtain ⟨wz, hwz, ez, TZ⟩ := dv_alloc wb zeroD (.slice none 0 0)
  dsimp only at hwa
  have has : wa.heap.size = w.heap.size + 1 := by rw [hwa]; simp
  have hbs : wb.heap.size = w.heap.size + 1 + 1 := by rw [hwb]; simp [has]
  rw [has] at TB
  rw [hbs] at TZ
  have EZ := Lib.hid (ea.tr (eb.tr ez))
  have RZ := Lib.hid (show DbZ w wz ⟨st, R, L, S, sg, ls, ssec, lsec, nx, li, V, .slice AV l.length cV, Z⟩ from ⟨(TA.ext eb).ext ez, TB.ext ez, TZ⟩)
  have H1 := Lib.hid h1
  have hwz2 : wz = wb.alloc (.cells #[.string ⟨#[]⟩, .int .i64 0, .int .i64 0, .slice none 0 0, .string ⟨#[]⟩, .int .i64 0, .int .i64 0, .int .i64 0, .int .i64 0, .int .i64 0, .int .i64 0, .int .i64 0, .int .i64 0, .int .i64 0, .int .i64 0, .int .i64 0, .int .i64 0] 41) := hwz
  clear hwz
  clear hv hs hg ea eb ez TA TB TZ has hbs h1 E hst
  unfold abV
  go_enter Tryz.func26, Tryz.ntmps26
  go_upto_region 1 with fail
  rw [← hwa, ← hwb, ← hwz2]
  clear hwa hwb hwz2
  have c0 := RZ.out.a.c0
  have c15 := RZ.out.a.c15
  have c16 := RZ.out.a.c16
  have c17 := RZ.out.a.c17
  have c18 := RZ.out.a.c18
  have c19 := RZ.out.a.c19
  have c20 := RZ.out.a.c20
  have c21 := RZ.out.a.c21
  have c22 := RZ.out.a.c22
  have c23 := RZ.out.a.c23
  have c24 := RZ.out.a.c24
  have c25 := RZ.out.a.c25
  have c27 := RZ.out.a.c27
  have c29 := RZ.out.a.c29
  have c31 := RZ.out.a.c31
  have cl := RZ.out.a.lt
  go_wp2_with fail
  refine (HIS.out wz EZ.out).mono ?_
  rintro e w1 ⟨A5, n5, c5, rfl, r5, b1, hq5⟩
  generalize hrr : isCD lsec ⟨st, li, day, l, ls, 0, 0⟩ = rr at *
  generalize isKD lsec ⟨st, li, day, l, ls, 0, 0⟩ = kk at *
  have HRR := Lib.hid (show rr.defs = l ∨ rr.defs = [] by rw [← hrr]; exact isCD_defs lsec ⟨st, li, day, l, ls, 0, 0⟩)
  clear hrr
  clear c0 c15 c16 c17 c18 c19 c20 c21 c22 c23 c24 c25 c27 c29 c31 cl
  obtain ⟨wm, hwm, em, tm⟩ := dv_alloc w1 rr (.slice A5 n5 c5)
  unfold dvV dvCells
  go_upto_region 2 with fail
  rw [← hwm]
  clear hwm
  obtain ⟨g, hgg⟩ : ∃ g, w1.heap.size = g := ⟨_, rfl⟩
  rw [hgg] at tm
  try rw [hgg]
  have ZM := Lib.hid (RZ.out.ext (b1.tr em))
  have hgH : w.heap.size + 1 + 1 < g := by have := (RZ.out.ext b1).r.lt; omega
  have XM := Lib.hid (EZ.out.tr (b1.tr em))
  have HTM := Lib.hid tm
  have HR5 := Lib.hid (And.intro r5 hq5)
  clear b1 em tm hgg RZ EZ r5 hq5 HIS
  have c29 := ZM.out.a.c29
  have cl := ZM.out.a.lt
  have f29 := ZM.out.a.frozen 29
  have wl : IntKind.i64.wrap (li + 1) = li + 1 := IntWalk.i64_in _ (by omega)
  obtain ⟨wt, hwt⟩ : ∃ wt, wt = wm.setCell ⟨w.heap.size, 29, none⟩ (.int .i64 (li + 1)) := ⟨_, rfl⟩
  have ZT := Lib.hid (show DbZ w wt ⟨st, R, L, S, sg, ls, ssec, lsec, nx, li + 1, V, .slice AV l.length cV, Z⟩ by
    rw [hwt]
    exact ⟨AuAt.put_li (x := ⟨st, R, L, S, sg, ls, ssec, lsec, nx, li, V, .slice AV l.length cV, Z⟩) ZM.out.a (li + 1), ZM.out.z.other (by omega), ZM.out.r.other (by omega)⟩)
  have XT := Lib.hid (show Ext w wt by rw [hwt]; exact ext_set XM.out (Nat.le_refl _))
  have HT6 := Lib.hid (show DvAt wt g rr (.slice A5 n5 c5) by rw [hwt]; exact HTM.out.other (by omega))
  go_upto_region 3 with fail
  rw [← hwt]
  clear hwt c29 cl f29 ZM HTM XM
  have H1X := Lib.hid (abRow_one (x := ⟨st, R, L, S, sg, ls, ssec, lsec, nx, li + 1, V, .slice AV l.length cV, Z⟩) ⟨H1.out.R, H1.out.L, H1.out.S, H1.out.V, H1.out.D, H1.out.Z⟩)
  have HNA := Lib.hid (kD_all rr (.slice A5 n5 c5) rfl)
  refine Gt.wp_region_X (r := RG adT (auG w)) 6 (by kernel_rfl) (by kernel_rfl) ?_
  simp only [List.take_succ_cons, List.take_zero, List.drop_succ_cons, List.drop_zero]
  intro wq hw1
  have LR : ∀ m : (RG adT (auG w)).Lt wq, RgS adT (auG w) wt m.1 := fun m => RgS.tr hw1 m.2
  refine Gt.wpX_rowU (Gd.gR rfl) w.heap.size (abRow ⟨st, R, L, S, sg, ls, ssec, lsec, nx, li + 1, V, .slice AV l.length cV, Z⟩) rfl rfl rfl rfl rfl (fun _ => rfl) (fun m => (LR m).keep ZT.out.a.row (fun q => by rcases q with q | q <;> omega)) Tryz.underlying50 rfl info_au ?_
  simp only [Act.put, List.setIfInBounds_toArray, List.set_cons_zero, List.set_cons_succ]
  refine Gt.wpX_rowU (Gd.gR rfl) g (dvCells rr (.slice A5 n5 c5)).toArray rfl rfl rfl rfl rfl (fun _ => rfl) (fun m => (LR m).keep HT6.out.row (fun q => by rcases q with q | q <;> omega)) Tryz.underlying41 rfl info_dv ?_
  simp only [Act.put, List.setIfInBounds_toArray, List.set_cons_zero, List.set_cons_succ]
  repeat (refine Gt.wpX_pureP rfl fun K hK => ?_; go_big_quiet_op; refine hK _ ?_; clear hK K)
  refine Gt.wpX_store (Gd.gR rfl) (fun _ w' => AuAt w' (w.heap.size + 1) ⟨st, R, L, S, sg, ls, ssec, lsec, nx, li + 1, V, .slice AV l.length cV, Z⟩) (fun _ => .pointer (some ⟨w.heap.size + 1, 0, none⟩)) (fun f => f 29) rfl rfl rfl rfl rfl (fun _ => rfl) (fun _ => rfl) (fun _ _ _ e h => AuAt.ext h e) (fun T hT _ _ _ e h => e.2.other h (fun q => hT (List.mem_singleton.1 q).symm)) (fun m f hf => ?_) ?_
  · have e5 : f 29 = .agg (abRow ⟨st, R, L, S, sg, ls, ssec, lsec, nx, li + 1, V, .slice AV l.length cV, Z⟩) := hf 29 _ rfl rfl
    rw [e5]
    obtain ⟨cs9, q1, q2⟩ := BlkT.rg (n := 33) ⟨_, ZT.out.z.row, rfl⟩ (LR m)
    exact ⟨_, row_store (cells := abRow ⟨st, R, L, S, sg, ls, ssec, lsec, nx, li + 1, V, .slice AV l.length cV, Z⟩) q1 info_au q2 H1X.out, ⟨au_adT, RgS.setRow q1 (List.mem_singleton.2 rfl) (.inl rfl) q2.symm⟩, row_at q1⟩
  refine Gt.wpX_store (Gd.gR rfl) (fun _ w' => DvAt w' (w.heap.size + 1 + 1) rr (.slice A5 n5 c5)) (fun _ => .pointer (some ⟨w.heap.size + 1 + 1, 0, none⟩)) (fun f => f 30) rfl rfl rfl rfl rfl (fun _ => rfl) (fun _ => rfl) (fun _ _ _ e h => DvAt.ext h e) (fun T hT _ _ _ e h => e.2.other h (fun q => hT (List.mem_singleton.1 q).symm)) (fun m f hf => ?_) ?_
  · have e5 : f 30 = .agg (dvCells rr (.slice A5 n5 c5)).toArray := hf 30 _ rfl rfl
    rw [e5]
    obtain ⟨cs9, q1, q2⟩ := BlkT.rg (n := 17) ⟨_, ZT.out.r.row, rfl⟩ (LR m)
    exact ⟨_, row_store (cells := (dvCells rr (.slice A5 n5 c5)).toArray) q1 info_dv q2 HNA.out, ⟨dv_adT, RgS.setRow q1 (List.mem_singleton.2 rfl) (.inr rfl) q2.symm⟩, row_at q1⟩
  repeat (refine Gt.wpX_pureP rfl fun K hK => ?_; go_big_quiet_op; refine hK _ ?_; clear hK K)
  refine Gt.wpX_endG rfl (fun m f hf hqs => ?_)
  have hq2 : DvAt m.1 (w.heap.size + 1 + 1) rr (.slice A5 n5 c5) := hqs _ List.mem_cons_self
  have hq1 : AuAt m.1 (w.heap.size + 1) ⟨st, R, L, S, sg, ls, ssec, lsec, nx, li + 1, V, .slice AV l.length cV, Z⟩ := hqs _ (List.mem_cons_of_mem _ List.mem_cons_self)
  simp only [fillH]
  simp only [Act.put, List.setIfInBounds_toArray, List.set_cons_zero, List.set_cons_succ]
  have HQ1 := Lib.hid hq1
  have HQ2 := Lib.hid hq2
  have XE := Lib.hid (show Ext w m.1 from XT.out.trans ((LR m).below (B := w.heap.size + 1) (fun k q => by rcases q with q | q <;> omega) ZT.out.a.lt |>.mono (Nat.le_succ _)))
  have R5 := Lib.hid (show RdD m.1 (.slice A5 n5 c5) rr.defs from retDQ_rd HR5.out.1 HR5.out.2 (RdK.ext HV.out XE.out) HRR.out)
  clear hqs hf hw1 LR hq1 hq2
  generalize m.1 = we at *
  show wpList _ _ _ _ _ _
  go_wp2_with fail
  refine bodyPost_ret (v := .tuple #[.agg (abRow ⟨st, R, L, S, sg, ls, ssec, lsec, nx, li + 1, V, .slice AV l.length cV, Z⟩), .agg (dvCells rr (.slice A5 n5 c5)).toArray, .int .i64 kk]) ?_ rfl ⟨A5, n5, c5, rfl, R5.out, XE.out, HR5.out.2⟩
  simp [results, Tryz.results26, asAddr, run_loadVar_row we (w.heap.size + 1) 50 50 (abRow ⟨st, R, L, S, sg, ls, ssec, lsec, nx, li + 1, V, .slice AV l.length cV, Z⟩) (0, 0) _ HQ1.out.row Tryz.underlying50 rfl info_au, run_loadVar_row we (w.heap.size + 1 + 1) 41 41 (dvCells rr (.slice A5 n5 c5)).toArray (0, 0) _ HQ2.out.row Tryz.underlying41 rfl info_dv]
end Go.Proofs.YtmmoenkmicimcaaGreatDoor
