/- Parts Ug Uh Ue Un Up of the proof. -/
import Derived.Test.YtkjplpmogfmhkaaGreatDoorMax
import Derived.Test.YtkjplpmogfmhkaaGreatDoorMaw
import Derived.Test.YtkjplpmogfmhkaaGreatDoorMau
namespace Go.Proofs.YtkjplpmogfmhkaaGreatDoor
open Go.RowKit
set_option linter.unusedVariables false
set_option maxRecDepth 100000
theorem take_snocG {α : Type} {l : List α} {y : α} {k : Nat} (h : l[k]? = some y) : l.take (k + 1) = l.take k ++ [y] := by
  obtain ⟨hk, rfl⟩ := List.getElem?_eq_some_iff.1 h
  exact List.take_succ_eq_append_getElem hk
/-- The roots so far. -/
def rtT (S : ST) (k : Nat) : List NC := (S.ms.take k).foldl (fun out m => addT out m.roots) (addT [] S.roots)
theorem rtT_snoc {S : ST} {k : Nat} {t : MA} (h : S.ms[k]? = some t) : rtT S (k + 1) = addT (rtT S k) t.roots := by
  unfold rtT
  rw [take_snocG h, List.foldl_append]
  rfl
theorem rtT_all (S : ST) : rtT S S.ms.length = rootsT S := by
  unfold rtT rootsT
  rw [List.take_length]
theorem rtT_len {S : ST} (h : StB S) (k : Nat) : (rtT S k).length ≤ 210000 := by
  have h1 := foldAdd_len (S.ms.take k) (addT [] S.roots) fun x hx => (h.m x (List.mem_of_mem_take hx)).2
  have h2 := addT_len [] S.roots
  have h3 := h.lr
  have h4 := h.lm
  have h6 : (S.ms.take k).length ≤ 20 := by rw [List.length_take]; omega
  have h5 : (S.ms.take k).length * 10000 ≤ 20 * 10000 := Nat.mul_le_mul_right _ h6
  rw [List.length_nil] at h2
  unfold rtT
  omega
set_option maxHeartbeats 4000000 in
theorem roots_any (s0 s1 s2 s3 s4 : SlT) (S : ST) (w : World) (h0 : RdN w (slV s0) S.roots) (h2 : RdX kM w (slV s2) S.ms) (hB : StB S) : Calls Tryz.prog 57 #[storeV s0 s1 s2 s3 s4] w (RetN w (rootsT S)) := by
  obtain ⟨A', n', c', hs, hn, hnc, hcm, hel⟩ := h2.at_
  obtain ⟨A, n, cp⟩ := s2
  unfold slV at hs
  injection hs with hs1 hs2 hs3
  simp only at hs1 hs2 hs3
  subst hs1 hs2 hs3 hn
  obtain ⟨ws, hws⟩ : ∃ ws, ws = w.alloc (.cells #[.slice s0.1 s0.2.1 s0.2.2, .slice s1.1 s1.2.1 s1.2.2, .slice A S.ms.length cp, .slice s3.1 s3.2.1 s3.2.2, .slice s4.1 s4.2.1 s4.2.2] 75) := ⟨_, rfl⟩
  have es : Ext w ws := by rw [hws]; exact (Below.refl _ _).alloc (Nat.le_refl _) _
  have hsz : ws.heap.size = w.heap.size + 1 := by rw [hws]; simp
  have hb : ws.heap[w.heap.size]? = some (.cells #[.slice s0.1 s0.2.1 s0.2.2, .slice s1.1 s1.2.1 s1.2.2, .slice A S.ms.length cp, .slice s3.1 s3.2.1 s3.2.2, .slice s4.1 s4.2.1 s4.2.2] 75 (0, 0)) := by rw [hws]; exact heap_alloc_new' w _
  obtain ⟨wz, hwz⟩ : ∃ wz, wz = ws.alloc (.cells #[.slice none 0 0] 51) := ⟨_, rfl⟩
  have ez : Ext ws wz := by rw [hwz]; exact (Below.refl _ _).alloc (Nat.le_refl _) _
  have IZ : AdI wz ws.heap.size ws.heap.size ([] : List NC) := ⟨none, 0, by rw [hwz]; exact heap_alloc_new' ws _, OwnK.empty _ _ _ _ _⟩
  have HLR := Lib.hid (rtT_len hB)
  have HMB := Lib.hid hB.m
  have h00 : S.roots.length ≤ 10000 := hB.lr
  have HA0 := Lib.hid (show Calls Tryz.prog 147 #[.slice s0.1 s0.2.1 s0.2.2, .pointer (some ⟨ws.heap.size, 0, none⟩)] wz _ from addR_any ws wz (RdK.ext h0 es) (Nat.le_refl _) IZ ez (by rw [List.length_nil]; omega))
  have HAN := Lib.hid (fun (u : Value) (l L : List NC) (W : World) (hu : RdN ws u l) (I : AdI W ws.heap.size ws.heap.size L) (X : Ext ws W) (hl : L.length + l.length ≤ 1000000) => addR_any ws W hu (Nat.le_refl _) I X hl)
  have ES := Lib.hid es
  have HBK := Lib.hid hb
  have HEL := Lib.hid hel
  have HALL := Lib.hid (rtT_all S)
  unfold maxLen at hcm
  rw [hsz] at HA0 HAN
  rw [hws] at hwz
  clear h0 h2 hB es hb ez IZ hel h00
  unfold storeV
  go_enter Tryz.func57, Tryz.ntmps57
  go_wp2_with fail
  rw [← hwz]
  refine HA0.out.mono ?_
  rintro e w1 ⟨rfl, I1, X1⟩
  have HI1 := Lib.hid (show AdI w1 (w.heap.size + 1) (w.heap.size + 1) (rtT S 0) from I1)
  have c2 : w1.cell? ⟨w.heap.size, 2, none⟩ = some (.slice A S.ms.length cp) := by rw [cell_of_row w1 _ 2 _ _ _ ((X1.block _ (block_lt HBK.out)).trans HBK.out)]; rfl
  have cl : w.heap.size < w1.heap.size := Nat.lt_of_lt_of_le (block_lt HBK.out) X1.size
  have HX1 := Lib.hid X1
  clear I1 X1 hwz hws HA0
  go_upto_region 5 with fail
  clear c2 cl
  go_loopw [15] (fun s15 wr => ∃ k : Nat, k ≤ S.ms.length ∧ s15 = .int .i64 (k : Int) ∧ Hid (AdI wr (w.heap.size + 1) (w.heap.size + 1) (rtT S k)) ∧ Hid (Ext ws wr)) (fun s15 _ => S.ms.length - (intOf s15).toNat)
  case atStart => exact ⟨0, Nat.zero_le _, rfl, HI1, HX1⟩
  case round =>
    obtain ⟨k, hk, rfl, I, X⟩ := hrel
    by_cases hlt : k < S.ms.length
    case neg =>
      obtain rfl : k = S.ms.length := by omega
      have HI := Lib.hid (show AdI wr (w.heap.size + 1) (w.heap.size + 1) (rootsT S) by have := I.out; rwa [HALL.out] at this)
      clear I
      obtain ⟨Ao, co, hb, ho⟩ := HI.out
      have cg : wr.cell? ⟨w.heap.size + 1, 0, none⟩ = some (.slice Ao (rootsT S).length co) := by rw [cell_of_row wr _ 0 _ _ _ hb]; rfl
      have gl := block_lt hb
      have HO := Lib.hid ho
      clear hb ho
      go_wp2_with fail
      go_ret
      exact ⟨ES.out.tr X.out, _, _, rfl, HO.out.rd⟩
    case pos =>
    obtain ⟨t, ht⟩ : ∃ t, S.ms[k]? = some t := ⟨_, List.getElem?_eq_getElem hlt⟩
    obtain ⟨b, o, rfl, hbl, u, hcell, hu⟩ := HEL.out k t ht
    have HSN := Lib.hid (rtT_snoc ht)
    have HLT := Lib.hid (HMB.out t (List.mem_of_getElem? ht)).2
    obtain ⟨Au, nu, cu, rfl, -⟩ := id hu
    have HU0 := Lib.hid (RdK.ext hu ES.out)
    have XW := Lib.hid (ES.out.tr X.out)
    clear ht hu
    have wi1 : IntKind.i64.wrap ((k : Int)) = (k : Int) := IntWalk.i64_in _ (by omega)
    have zi1 : (0 : Int) ≤ (k : Int) := by omega
    have li1 : (k : Int) < (S.ms.length : Int) := by omega
    have ti1 : ((k : Int)).toNat = k := by omega
    have wk : IntKind.i64.wrap ((k : Int) + 1) = (k : Int) + 1 := IntWalk.i64_in _ (by omega)
    have l0 : wr.cell? ⟨b, o + k * 17, none⟩ = some (.string (bstr t.st)) := by
      have := (XW.out.cell (p := ⟨b, o + (k * 17 + 0), none⟩) hbl).trans (hcell 0 _ rfl)
      exact this
    have l1 : wr.cell? ⟨b, o + k * 17 + 1, none⟩ = some (.int .i64 t.num) := by
      have := (XW.out.cell (p := ⟨b, o + (k * 17 + 1), none⟩) hbl).trans (hcell 1 _ rfl)
      rwa [← Nat.add_assoc] at this
    have l2 : wr.cell? ⟨b, o + k * 17 + 2, none⟩ = some (.int .i64 t.day) := by
      have := (XW.out.cell (p := ⟨b, o + (k * 17 + 2), none⟩) hbl).trans (hcell 2 _ rfl)
      rwa [← Nat.add_assoc] at this
    have l3 : wr.cell? ⟨b, o + k * 17 + 3, none⟩ = some (.slice Au nu cu) := by
      have := (XW.out.cell (p := ⟨b, o + (k * 17 + 3), none⟩) hbl).trans (hcell 3 _ rfl)
      rwa [← Nat.add_assoc] at this
    have l4 : wr.cell? ⟨b, o + k * 17 + 4, none⟩ = some (.string (bstr t.sg.st)) := by
      have := (XW.out.cell (p := ⟨b, o + (k * 17 + 4), none⟩) hbl).trans (hcell 4 _ rfl)
      rwa [← Nat.add_assoc] at this
    have l5 : wr.cell? ⟨b, o + k * 17 + 5, none⟩ = some (.int .i64 t.sg.kind) := by
      have := (XW.out.cell (p := ⟨b, o + (k * 17 + 5), none⟩) hbl).trans (hcell 5 _ rfl)
      rwa [← Nat.add_assoc] at this
    have l6 : wr.cell? ⟨b, o + k * 17 + 6, none⟩ = some (.int .i64 t.sg.num) := by
      have := (XW.out.cell (p := ⟨b, o + (k * 17 + 6), none⟩) hbl).trans (hcell 6 _ rfl)
      rwa [← Nat.add_assoc] at this
    have l7 : wr.cell? ⟨b, o + k * 17 + 7, none⟩ = some (.int .i64 t.sg.iss) := by
      have := (XW.out.cell (p := ⟨b, o + (k * 17 + 7), none⟩) hbl).trans (hcell 7 _ rfl)
      rwa [← Nat.add_assoc] at this
    have l8 : wr.cell? ⟨b, o + k * 17 + 8, none⟩ = some (.int .i64 t.sg.own) := by
      have := (XW.out.cell (p := ⟨b, o + (k * 17 + 8), none⟩) hbl).trans (hcell 8 _ rfl)
      rwa [← Nat.add_assoc] at this
    have l9 : wr.cell? ⟨b, o + k * 17 + 9, none⟩ = some (.int .i64 t.sg.key) := by
      have := (XW.out.cell (p := ⟨b, o + (k * 17 + 9), none⟩) hbl).trans (hcell 9 _ rfl)
      rwa [← Nat.add_assoc] at this
    have l10 : wr.cell? ⟨b, o + k * 17 + 10, none⟩ = some (.int .i64 t.sg.fr) := by
      have := (XW.out.cell (p := ⟨b, o + (k * 17 + 10), none⟩) hbl).trans (hcell 10 _ rfl)
      rwa [← Nat.add_assoc] at this
    have l11 : wr.cell? ⟨b, o + k * 17 + 11, none⟩ = some (.int .i64 t.sg.un) := by
      have := (XW.out.cell (p := ⟨b, o + (k * 17 + 11), none⟩) hbl).trans (hcell 11 _ rfl)
      rwa [← Nat.add_assoc] at this
    have l12 : wr.cell? ⟨b, o + k * 17 + 12, none⟩ = some (.int .i64 t.sg.to) := by
      have := (XW.out.cell (p := ⟨b, o + (k * 17 + 12), none⟩) hbl).trans (hcell 12 _ rfl)
      rwa [← Nat.add_assoc] at this
    have l13 : wr.cell? ⟨b, o + k * 17 + 13, none⟩ = some (.int .i64 t.sg.e) := by
      have := (XW.out.cell (p := ⟨b, o + (k * 17 + 13), none⟩) hbl).trans (hcell 13 _ rfl)
      rwa [← Nat.add_assoc] at this
    have l14 : wr.cell? ⟨b, o + k * 17 + 14, none⟩ = some (.int .i64 t.sg.s) := by
      have := (XW.out.cell (p := ⟨b, o + (k * 17 + 14), none⟩) hbl).trans (hcell 14 _ rfl)
      rwa [← Nat.add_assoc] at this
    have l15 : wr.cell? ⟨b, o + k * 17 + 15, none⟩ = some (.int .i64 t.e) := by
      have := (XW.out.cell (p := ⟨b, o + (k * 17 + 15), none⟩) hbl).trans (hcell 15 _ rfl)
      rwa [← Nat.add_assoc] at this
    have l16 : wr.cell? ⟨b, o + k * 17 + 16, none⟩ = some (.int .i64 t.s) := by
      have := (XW.out.cell (p := ⟨b, o + (k * 17 + 16), none⟩) hbl).trans (hcell 16 _ rfl)
      rwa [← Nat.add_assoc] at this
    clear hcell
    obtain ⟨wn, hwn⟩ : ∃ wn, wn = wr.alloc (.cells #[.string (bstr t.st), .int .i64 t.num, .int .i64 t.day, .slice Au nu cu, .string (bstr t.sg.st), .int .i64 t.sg.kind, .int .i64 t.sg.num, .int .i64 t.sg.iss, .int .i64 t.sg.own, .int .i64 t.sg.key, .int .i64 t.sg.fr, .int .i64 t.sg.un, .int .i64 t.sg.to, .int .i64 t.sg.e, .int .i64 t.sg.s, .int .i64 t.e, .int .i64 t.s] 80) := ⟨_, rfl⟩
    have en : Ext wr wn := by rw [hwn]; exact (Below.refl _ _).alloc (Nat.le_refl _) _
    have bn : wn.heap[wr.heap.size]? = some (.cells #[.string (bstr t.st), .int .i64 t.num, .int .i64 t.day, .slice Au nu cu, .string (bstr t.sg.st), .int .i64 t.sg.kind, .int .i64 t.sg.num, .int .i64 t.sg.iss, .int .i64 t.sg.own, .int .i64 t.sg.key, .int .i64 t.sg.fr, .int .i64 t.sg.un, .int .i64 t.sg.to, .int .i64 t.sg.e, .int .i64 t.sg.s, .int .i64 t.e, .int .i64 t.s] 80 (0, 0)) := by rw [hwn]; exact heap_alloc_new' wr _
    have u3 : wn.cell? ⟨wr.heap.size, 3, none⟩ = some (.slice Au nu cu) := by rw [cell_of_row wn _ 3 _ _ _ bn]; rfl
    have ul := block_lt bn
    have HCA := Lib.hid (HAN.out (.slice Au nu cu) t.roots (rtT S k) wn HU0.out (I.out.ext en) (X.out.tr en) (by have := HLR.out k; have := HLT.out; omega))
    clear I X en bn
    go_upto_region 7 with fail
    rw [← hwn]
    clear hwn l0 l1 l2 l3 l4 l5 l6 l7 l8 l9 l10 l11 l12 l13 l14 l15 l16
    go_wp2_with fail
    refine HCA.out.mono ?_
    rintro e w8 ⟨rfl, I8, X8⟩
    have HI8 := Lib.hid (show AdI w8 (w.heap.size + 1) (w.heap.size + 1) (rtT S (k + 1)) by rw [HSN.out]; exact I8)
    have HX8 := Lib.hid X8
    clear I8 X8 u3 ul HCA
    go_wp2_with fail
    go_roundw
    case rel => exact ⟨k + 1, by omega, by go_num, HI8, HX8⟩
    case measure => simp [intOf]; omega
end Go.Proofs.YtkjplpmogfmhkaaGreatDoor
namespace Go.Proofs.YtkjplpmogfmhkaaGreatDoor
open Go.RowKit
set_option linter.unusedVariables false
set_option maxRecDepth 100000
section
open Go.Proofs.YtkjplpmogfmhkaaGreatDoor.Gd (GRun)
variable {P : Program} {ops : Array Oper} {Q : Exit → Act → World → Prop} {w0 : World} {R : Act → World → Prop}
/-- len, whatever holes it reads. -/
theorem Gd.wpX_lenF {o : Oper} {rest : List Oper} {a : Act} {hs : List (Nat × VPred)} {d : Nat} (hg : GRun ops o a hs) (g : VPred) (hst : StableP g) {t : TypeId} {s : Operand} (sv : (Nat → Value) → Value)
    (hd : o.dst = some d) (hz : Nat.blt d a.tmps.size = true) (ho : o.op = .call { callee := .builtin .len, args := #[s], argTypes := #[t] }) (hin : (opTmps o).all (fun t => Nat.blt t a.tmps.size) = true) (hqs : okOp a s = true)
    (hs' : ∀ f, evF a hs f s = sv f)
    (h : ∀ (m : Lt w0) (f : Nat → Value), (∀ t p, hs.lookup t = some p → (opTmps o).contains t = true → p (f t) m.1) → ∃ v w'', (Builtin.len_ #[t] o.type #[sv f]).run P m.1 = .ok v w'' ∧ Ext m.1 w'' ∧ g v w'')
    (hr : Gd.wpX P ops Q w0 R rest (a.put (some d) undef) ((d, g) :: hs)) : Gd.wpX P ops Q w0 R (o :: rest) a hs :=
  Gd.wpX_useL hg g hst hd hz (by unfold notSelect; rw [ho]) hin (fun m f hf K hK => by
    obtain ⟨v, w'', h1, h2, h3⟩ := h m f hf
    have e1 : (fillH a hs f).eval s = sv f := (Gd.ev_fill hqs).trans (hs' f)
    unfold Oper.wp execOp
    simp only [ho, resolve, invoke, builtin, Sem.run_bind, Sem.run_pure, Result.andThen_ok, List.map_toArray, List.map_cons, List.map_nil, e1, h1]
    exact hK _ _ (by rw [hd]; show ((fillH a hs f).put (some d) v).defers = _; simp [Act.put, fillH_defers]) ⟨h2, by rw [hd, eval_put_same (Gd.fill_put_size f d hz)]; exact h3⟩) hr
end
theorem run_lenN (ty : TypeId) (A : Option Addr) (n c : Nat) (W : World) : (Builtin.len_ #[51] ty #[.slice A n c]).run Tryz.prog W = .ok (.int .i64 (n : Int)) W := by
  simp [Builtin.len_, run_underlying Tryz.underlying51, goInt]
set_option maxHeartbeats 8000000 in
theorem signed_any (s0 s1 s2 s3 s4 : SlT) (S : ST) (r : RV) (v : Value) (day : Int) (w : World) (hS : StR w s0 s1 s2 s3 s4 S) (hB : StB S) (hv : RdI w .i64 v r.ser) (hs : r.st.length ≤ maxLen) (E : KTab w 1) :
    Calls Tryz.prog 158 #[storeV s0 s1 s2 s3 s4, rvV r v, .int .i64 day] w (RetQ w (.int .i64 (signedV S r day))) := by
  obtain ⟨wz, hwz, e2, TZ⟩ := rv_alloc (w.alloc (.cells #[.slice s0.1 s0.2.1 s0.2.2, .slice s1.1 s1.2.1 s1.2.2, .slice s2.1 s2.2.1 s2.2.2, .slice s3.1 s3.2.1 s3.2.2, .slice s4.1 s4.2.1 s4.2.2] 75)) r v
  rw [show (w.alloc (.cells #[.slice s0.1 s0.2.1 s0.2.2, .slice s1.1 s1.2.1 s1.2.2, .slice s2.1 s2.2.1 s2.2.2, .slice s3.1 s3.2.1 s3.2.2, .slice s4.1 s4.2.1 s4.2.2] 75)).heap.size = w.heap.size + 1 by simp] at TZ
  have e1 : Ext w (w.alloc (.cells #[.slice s0.1 s0.2.1 s0.2.2, .slice s1.1 s1.2.1 s1.2.2, .slice s2.1 s2.2.1 s2.2.2, .slice s3.1 s3.2.1 s3.2.2, .slice s4.1 s4.2.1 s4.2.2] 75)) := (Below.refl _ _).alloc (Nat.le_refl _) _
  have ez : Ext w wz := e1.tr e2
  have hz : wz.heap[w.heap.size]? = some (.cells #[.slice s0.1 s0.2.1 s0.2.2, .slice s1.1 s1.2.1 s1.2.2, .slice s2.1 s2.2.1 s2.2.2, .slice s3.1 s3.2.1 s3.2.2, .slice s4.1 s4.2.1 s4.2.2] 75 (0, 0)) := (e2.block _ (by simp)).trans (heap_alloc_new' w _)
  have HBD := Lib.hid (fun W (e : Ext w W) => rbody_any r v W (hv.ext e) hs)
  have HRT := Lib.hid (fun W (e : Ext w W) => roots_any s0 s1 s2 s3 s4 S W (RdK.ext hS.r0 e) (hS.r2.ext e) hB)
  have HTR := Lib.hid (fun (u : Value) W (e : Ext w W) (hu : RdN W u (rootsT S)) => trusted_any (v1 := u) (v2 := slV s1) r.st day W hu (RdK.ext hS.r1 e) hB.roots hB.p (by have := hB.rlen; have := hB.lp; omega) (E.below e))
  have HVF := Lib.hid (fun (u : Value) (p : Int) W (e : Ext w W) (hu : Rd W u (bvs (byR r))) => verify_any (a := u) p r.e r.s W hu (by have := byR_len r; omega) (E.below e))
  obtain ⟨A, n, cp, rfl, hn, -⟩ := hv.ints
  subst hn
  have EZ := Lib.hid ez
  have HZ := Lib.hid hz
  have HT := Lib.hid TZ
  clear hv hS hB hs E ez hz e1 e2 TZ
  unfold storeV rvV
  go_enter Tryz.func158, Tryz.ntmps158
  go_wp2_with fail
  rw [← hwz]
  clear hwz
  refine (HBD.out wz EZ.out).mono ?_
  rintro e w1 ⟨A1, n1, c1, rfl, hn1, rb, b1⟩
  have X1 := Lib.hid (EZ.out.tr b1)
  have HZ1 := Lib.hid ((b1.block _ (block_lt HZ.out)).trans HZ.out)
  have HT1 := Lib.hid (HT.out.ext b1)
  have HRB := Lib.hid rb
  clear HZ HT b1 rb hn1
  by_cases hc : ckR r = 0
  case neg =>
    have HV := Lib.hid (show signedV S r day = ckR r from if_neg hc)
    have hb : (ckR r != 0) = true := by simpa using hc
    clear hc
    go_wp2_with fail
    go_ret
    exact ⟨by first | (rw [HV.out]; rfl) | rw [HV.out], X1.out⟩
  have HV := Lib.hid (show signedV S r day = sgdV (trustT (rootsT S) S.pool r.st day) r from if_pos hc)
  rw [hc]
  clear hc
  go_upto_region 5 with fail
  refine Gd.wp_region_X 10 (by kernel_rfl) (by kernel_rfl) ?_
  simp only [List.take_succ_cons, List.take_zero, List.drop_succ_cons, List.drop_zero]
  intro wq hw1
  have LL : ∀ m : Lt wq, Ext w1 m.1 := fun m => hw1.tr m.2
  have LW : ∀ m : Lt wq, Ext w m.1 := fun m => X1.out.tr (LL m)
  have k0 : ∀ m : Lt wq, m.1.cell? ⟨w.heap.size, 0, none⟩ = some (.slice s0.1 s0.2.1 s0.2.2) := fun m => by rw [cell_of_row m.1 _ 0 _ _ _ (((LL m).block _ (block_lt HZ1.out)).trans HZ1.out)]; rfl
  have k1 : ∀ m : Lt wq, m.1.cell? ⟨w.heap.size, 1, none⟩ = some (.slice s1.1 s1.2.1 s1.2.2) := fun m => by rw [cell_of_row m.1 _ 1 _ _ _ (((LL m).block _ (block_lt HZ1.out)).trans HZ1.out)]; rfl
  have k2 : ∀ m : Lt wq, m.1.cell? ⟨w.heap.size, 2, none⟩ = some (.slice s2.1 s2.2.1 s2.2.2) := fun m => by rw [cell_of_row m.1 _ 2 _ _ _ (((LL m).block _ (block_lt HZ1.out)).trans HZ1.out)]; rfl
  have k3 : ∀ m : Lt wq, m.1.cell? ⟨w.heap.size, 3, none⟩ = some (.slice s3.1 s3.2.1 s3.2.2) := fun m => by rw [cell_of_row m.1 _ 3 _ _ _ (((LL m).block _ (block_lt HZ1.out)).trans HZ1.out)]; rfl
  have k4 : ∀ m : Lt wq, m.1.cell? ⟨w.heap.size, 4, none⟩ = some (.slice s4.1 s4.2.1 s4.2.2) := fun m => by rw [cell_of_row m.1 _ 4 _ _ _ (((LL m).block _ (block_lt HZ1.out)).trans HZ1.out)]; rfl
  have t0 : ∀ m : Lt wq, m.1.cell? ⟨w.heap.size + 1, 0, none⟩ = some (.string (bstr r.st)) := fun m => (HT1.out.ext (LL m)).c0
  have kl : ∀ m : Lt wq, w.heap.size + 1 < m.1.heap.size := fun m => (HT1.out.ext (LL m)).lt
  have kl0 : ∀ m : Lt wq, w.heap.size < m.1.heap.size := fun m => Nat.lt_of_succ_lt (kl m)
  repeat (refine Gd.wpX_pure (by first | exact trivial | exact ⟨_, rfl, rfl, rfl⟩) rfl rfl rfl rfl rfl (fun K hK => ?_); go_big_quiet_op; refine hK _ ?_; clear hK K)
  refine Gd.wpX_callF (by first | exact trivial | exact ⟨_, rfl, rfl, rfl⟩) (GSl (rootsT S)) (stable_GSl _) (fun _ => [.agg #[.slice s0.1 s0.2.1 s0.2.2, .slice s1.1 s1.2.1 s1.2.2, .slice s2.1 s2.2.1 s2.2.2, .slice s3.1 s3.2.1 s3.2.2, .slice s4.1 s4.2.1 s4.2.2]]) rfl rfl rfl rfl rfl (by kernel_rfl) rfl (fun _ => rfl) (fun m f hf => ((HRT.out m.1 (LW m)).mono fun e w'' q => RetN.gsl q)) ?_
  simp only [Act.put, List.setIfInBounds_toArray, List.set_cons_zero, List.set_cons_succ]
  repeat (refine Gd.wpX_pure (by first | exact trivial | exact ⟨_, rfl, rfl, rfl⟩) rfl rfl rfl rfl rfl (fun K hK => ?_); go_big_quiet_op; refine hK _ ?_; clear hK K)
  refine Gd.wpX_callF (by first | exact trivial | exact ⟨_, rfl, rfl, rfl⟩) (GSl (trustT (rootsT S) S.pool r.st day)) (stable_GSl _) (fun f => [f 21, .slice s1.1 s1.2.1 s1.2.2, .string (bstr r.st), .int .i64 day]) rfl rfl rfl rfl rfl (by kernel_rfl) rfl (fun _ => rfl) (fun m f hf => by obtain ⟨A5, n5, c5, h1, h2, h3⟩ := hf 21 _ rfl rfl; rw [h1]; exact ((HTR.out _ m.1 (LW m) h3).mono fun e w'' q => RetN.gsl q)) ?_
  simp only [Act.put, List.setIfInBounds_toArray, List.set_cons_zero, List.set_cons_succ]
  refine Gd.wpX_lenF (by first | exact trivial | exact ⟨_, rfl, rfl, rfl⟩) (fun v _ => v = .int .i64 ((trustT (rootsT S) S.pool r.st day).length : Int)) (stable_eq _) (fun f => f 27) rfl rfl rfl rfl rfl (fun _ => rfl) (fun m f hf => by obtain ⟨A5, n5, c5, h1, h2, h3⟩ := hf 27 _ rfl rfl; rw [h1]; exact ⟨_, _, run_lenN _ _ _ _ _, Below.refl _ _, by rw [h2]⟩) ?_
  simp only [Act.put, List.setIfInBounds_toArray, List.set_cons_zero, List.set_cons_succ]
  repeat (refine Gd.wpX_pure (by first | exact trivial | exact ⟨_, rfl, rfl, rfl⟩) rfl rfl rfl rfl rfl (fun K hK => ?_); go_big_quiet_op; refine hK _ ?_; clear hK K)
  refine Gd.wpX_endL (fun m f hf => ?_)
  obtain ⟨A5, n5, c5, e27, hn5, RT⟩ := hf 27 _ rfl
  have e28 := hf 28 _ rfl
  simp only [fillH]
  simp only [Act.put, List.setIfInBounds_toArray, List.set_cons_zero, List.set_cons_succ]
  rw [e27, e28]
  have LM := Lib.hid (LL m)
  have HRT5 := Lib.hid RT
  clear hf e27 e28 hw1 LL LW k0 k1 k2 k3 k4 t0 kl kl0 RT HRT HTR
  generalize m.1 = w2 at *
  generalize f 21 = f21 at *
  clear m f
  generalize trustT (rootsT S) S.pool r.st day = L at *
  subst hn5
  show wpList _ _ _ _ _ _
  obtain ⟨A9, n9, c9, e9, hn9, hnc, hcm, hel⟩ := RdN.at_ HRT5.out
  injection e9 with e9a e9b e9c
  subst e9a e9c
  subst hn9
  have HEL := Lib.hid hel
  have HTW := Lib.hid (HT1.out.ext LM.out)
  have X2 := Lib.hid (X1.out.tr LM.out)
  have HRB2 := Lib.hid (HRB.out.ext LM.out)
  unfold maxLen at hcm
  clear hel HRT5 HT1 HZ1 HRB X1 LM
  go_upto_region 6 with fail
  go_loopw [9, 29] (fun s9 s29 wr => ∃ k : Nat, k ≤ L.length ∧ s29 = .int .i64 (k : Int) ∧ s9 = .bool ((L.take k).any fun c => decide (c.own = r.iss)) ∧ Hid (Ext w2 wr) ∧ Hid (∀ (j : Nat) (c : NC), j < k → L[j]? = some c → c.own = r.iss → verB c.key (byR r) r.e r.s = false)) (fun _ s29 _ => L.length - (intOf s29).toNat)
  case atStart => exact ⟨0, Nat.zero_le _, rfl, rfl, Lib.hid (Below.refl _ _), Lib.hid (fun j c h => by omega)⟩
  case round =>
    obtain ⟨k, hk, rfl, rfl, X, NO⟩ := hrel
    by_cases hlt : k < L.length
    case neg =>
      obtain rfl : k = L.length := by omega
      have HN := Lib.hid (sgd_no (r := r) (l := L) (fun j c hj => NO.out j c (List.getElem?_eq_some_iff.1 hj).1 hj))
      rw [List.take_length]
      generalize (L.any fun c => decide (c.own = r.iss)) = fb at *
      cases fb
      · go_wp2_with fail
        go_ret
        exact ⟨by first | (rw [HV.out, HN.out]; rfl) | rw [HV.out, HN.out], X2.out.tr X.out⟩
      · go_wp2_with fail
        go_ret
        exact ⟨by first | (rw [HV.out, HN.out]; rfl) | rw [HV.out, HN.out], X2.out.tr X.out⟩
    case pos =>
    obtain ⟨y, hy⟩ : ∃ y, L[k]? = some y := ⟨_, List.getElem?_eq_getElem hlt⟩
    obtain ⟨b, o, rfl, hbl, hc⟩ := HEL.out (by omega)
    have hcy := hc k y hy
    have HSN := Lib.hid (own_snoc (i := r.iss) hy)
    have HNX := Lib.hid (fun (q : y.own = r.iss → verB y.key (byR r) r.e r.s = false) => (fun j c hj hc => by
      by_cases e : j = k
      · subst e
        rw [hy] at hc
        rw [← Option.some.inj hc]
        exact q
      · exact NO.out j c (by omega) hc : ∀ (j : Nat) (c : NC), j < k + 1 → L[j]? = some c → c.own = r.iss → verB c.key (byR r) r.e r.s = false))
    have HY := Lib.hid hy
    clear hy hc
    generalize ((L.take k).any fun c => decide (c.own = r.iss)) = fb at *
    have wi1 : IntKind.i64.wrap ((k : Int)) = (k : Int) := IntWalk.i64_in _ (by omega)
    have zi1 : (0 : Int) ≤ (k : Int) := by omega
    have li1 : (k : Int) < (L.length : Int) := by omega
    have ti1 : ((k : Int)).toNat = k := by omega
    have wk : IntKind.i64.wrap ((k : Int) + 1) = (k : Int) + 1 := IntWalk.i64_in _ (by omega)
    have q0 := (X.out.cell (p := ⟨b, o + k * 11, none⟩) hbl).trans hcy.1
    have q1 := (X.out.cell (p := ⟨b, o + k * 11 + 1, none⟩) hbl).trans hcy.2.1
    have q2 := (X.out.cell (p := ⟨b, o + k * 11 + 2, none⟩) hbl).trans hcy.2.2.1
    have q3 := (X.out.cell (p := ⟨b, o + k * 11 + 3, none⟩) hbl).trans hcy.2.2.2.1
    have q4 := (X.out.cell (p := ⟨b, o + k * 11 + 4, none⟩) hbl).trans hcy.2.2.2.2.1
    have q5 := (X.out.cell (p := ⟨b, o + k * 11 + 5, none⟩) hbl).trans hcy.2.2.2.2.2.1
    have q6 := (X.out.cell (p := ⟨b, o + k * 11 + 6, none⟩) hbl).trans hcy.2.2.2.2.2.2.1
    have q7 := (X.out.cell (p := ⟨b, o + k * 11 + 7, none⟩) hbl).trans hcy.2.2.2.2.2.2.2.1
    have q8 := (X.out.cell (p := ⟨b, o + k * 11 + 8, none⟩) hbl).trans hcy.2.2.2.2.2.2.2.2.1
    have q9 := (X.out.cell (p := ⟨b, o + k * 11 + 9, none⟩) hbl).trans hcy.2.2.2.2.2.2.2.2.2.1
    have q10 := (X.out.cell (p := ⟨b, o + k * 11 + 10, none⟩) hbl).trans hcy.2.2.2.2.2.2.2.2.2.2
    clear hcy
    obtain ⟨wn, hwn, en, TN⟩ := nc_alloc wr y
    go_upto_region 8 with fail
    rw [← hwn]
    clear hwn q0 q1 q2 q3 q4 q5 q6 q7 q8 q9 q10
    have XN := Lib.hid (X.out.tr en)
    have TW := HTW.out.ext XN.out
    have r5 := TW.c5
    have r6 := TW.c6
    have r7 := TW.c7
    have rl := TW.lt
    have n4 := (NcAt.cells TN).2.2.2.2.1
    have n5 := (NcAt.cells TN).2.2.2.2.2.1
    have nl := NcAt.lt TN
    clear X en TW
    by_cases d1 : y.own = r.iss
    case neg =>
      have hb : (y.own != r.iss) = true := by simpa using d1
      have HF := Lib.hid (show ((L.take (k + 1)).any fun c => decide (c.own = r.iss)) = fb by rw [HSN.out, decide_eq_false d1, Bool.or_false])
      have HNN := Lib.hid (HNX.out (fun q => absurd q d1))
      clear d1
      go_wp2_with fail
      go_roundw
      case rel => exact ⟨k + 1, by omega, by go_num, by rw [HF.out], XN, HNN⟩
      case measure => simp [intOf]; omega
    have hb : (y.own != r.iss) = false := by simpa using d1
    have HF := Lib.hid (show ((L.take (k + 1)).any fun c => decide (c.own = r.iss)) = true by rw [HSN.out, decide_eq_true d1, Bool.or_true])
    have HO := Lib.hid d1
    clear d1
    go_wp2_with fail
    refine (HVF.out _ y.key wn (X2.out.tr XN.out) (HRB2.out.ext XN.out)).mono ?_
    rintro e w9 ⟨rfl, b9⟩
    cases hq : verB y.key (byR r) r.e r.s with
    | true =>
      have HN := Lib.hid (sgd_one (List.mem_of_getElem? HY.out) HO.out hq)
      have X9 := Lib.hid (X2.out.tr (XN.out.tr b9))
      clear hq b9
      go_wp2_with fail
      go_ret
      exact ⟨by first | (rw [HV.out, HN.out]; rfl) | rw [HV.out, HN.out], X9.out⟩
    | false =>
      have HNN := Lib.hid (HNX.out (fun _ => hq))
      have XN9 := Lib.hid (XN.out.tr b9)
      clear hq b9
      go_wp2_with fail
      go_roundw
      case rel => exact ⟨k + 1, by omega, by go_num, by rw [HF.out], XN9, HNN⟩
      case measure => simp [intOf]; omega
end Go.Proofs.YtkjplpmogfmhkaaGreatDoor
namespace Go.Proofs.YtkjplpmogfmhkaaGreatDoor
open Go.RowKit
open Go.Proofs.YtkjplpmogfmhkaaGreatDoor.Gd (GRun GSkip)
set_option linter.unusedVariables false
set_option maxRecDepth 100000
set_option maxHeartbeats 2000000 in
theorem revoked_any (s0 s1 s2 s3 s4 : SlT) (l : List RV) (c : NC) (w : World) (h : RdV w (slV s3) l) : Calls Tryz.prog 70 #[storeV s0 s1 s2 s3 s4, ncV c] w (RetQ w (.bool (revB l c.st c.num))) := by
  obtain ⟨wz, hwz, e2, TZ⟩ := nc_alloc (w.alloc (.cells #[.slice s0.1 s0.2.1 s0.2.2, .slice s1.1 s1.2.1 s1.2.2, .slice s2.1 s2.2.1 s2.2.2, .slice s3.1 s3.2.1 s3.2.2, .slice s4.1 s4.2.1 s4.2.2] 75)) c
  rw [show (w.alloc (.cells #[.slice s0.1 s0.2.1 s0.2.2, .slice s1.1 s1.2.1 s1.2.2, .slice s2.1 s2.2.1 s2.2.2, .slice s3.1 s3.2.1 s3.2.2, .slice s4.1 s4.2.1 s4.2.2] 75)).heap.size = w.heap.size + 1 by simp] at TZ
  have e1 : Ext w (w.alloc (.cells #[.slice s0.1 s0.2.1 s0.2.2, .slice s1.1 s1.2.1 s1.2.2, .slice s2.1 s2.2.1 s2.2.2, .slice s3.1 s3.2.1 s3.2.2, .slice s4.1 s4.2.1 s4.2.2] 75)) := (Below.refl _ _).alloc (Nat.le_refl _) _
  have ez : Ext w wz := e1.tr e2
  have hz : wz.heap[w.heap.size]? = some (.cells #[.slice s0.1 s0.2.1 s0.2.2, .slice s1.1 s1.2.1 s1.2.2, .slice s2.1 s2.2.1 s2.2.2, .slice s3.1 s3.2.1 s3.2.2, .slice s4.1 s4.2.1 s4.2.2] 75 (0, 0)) := (e2.block _ (by simp)).trans (heap_alloc_new' w _)
  have HP := Lib.hid (fun W (e : Ext w W) => place_any s0 s1 s2 s3 s4 l c.st W (h.ext e))
  have HR := Lib.hid h
  have EZ := Lib.hid ez
  have HZ := Lib.hid hz
  have HT := Lib.hid TZ
  clear h ez hz e1 e2 TZ
  unfold storeV at HP ⊢
  unfold ncV
  go_enter Tryz.func70, Tryz.ntmps70
  go_wp2_with fail
  rw [← hwz]
  clear hwz
  refine (HP.out wz EZ.out).mono ?_
  rintro e w2 ⟨rfl, b2⟩
  have X2 := Lib.hid (EZ.out.tr b2)
  have hb2 := (b2.block _ (block_lt HZ.out)).trans HZ.out
  have T2 := NcAt.ext HT.out b2
  have HB2 := Lib.hid hb2
  have HT2 := Lib.hid T2
  clear hb2 T2 HP HZ HT b2
  rcases plV_cases l c.st with ⟨hp, hf⟩ | ⟨j, r, hp, hj, hf⟩
  · have HF := Lib.hid (show revB l c.st c.num = false by unfold revB; rw [hf])
    rw [hp]
    clear hp hf
    go_upto_region 2 with fail
    refine Gd.wp_region_X 12 (by kernel_rfl) (by kernel_rfl) ?_
    simp only [List.take_succ_cons, List.take_zero, List.drop_succ_cons, List.drop_zero]
    intro w1 hw1
    repeat (first | (refine Gd.wpX_skip (by exact ⟨_, rfl, rfl, rfl⟩) rfl rfl ?_; simp only [Act.put, List.setIfInBounds_toArray, List.set_cons_zero, List.set_cons_succ]) | (refine Gd.wpX_pure (by first | exact trivial | exact ⟨_, rfl, rfl, rfl⟩) rfl rfl rfl rfl rfl (fun K hK => ?_); go_big_quiet_op; refine hK _ ?_; clear hK K))
    refine Gd.wpX_end0 (fun m => ?_)
    have LM := Lib.hid (X2.out.tr (hw1.tr m.2))
    clear hw1
    generalize m.1 = wm at *
    show wpList _ _ _ _ _ _
    go_wp2_with fail
    go_ret
    exact ⟨by rw [HF.out]; rfl, LM.out⟩
  · have HF := Lib.hid (show revB l c.st c.num = decide (c.num ∈ r.ser) by unfold revB; rw [hf])
    rw [hp]
    clear hp hf
    obtain ⟨A, n, cp, hs, hn, hnc, hcm, hel⟩ := HR.out
    obtain ⟨sA, sn, cq⟩ := s3
    unfold slV at hs
    injection hs with hs1 hs2 hs3
    simp only at hs1 hs2 hs3
    subst hs1 hs2 hs3 hn
    have hlt := (List.getElem?_eq_some_iff.1 hj).1
    obtain ⟨b, o, rfl, hbl, A1, n1, c1, e0, e1, e2, e3, e4, e5, e6, e7, hser⟩ := hel j r hj
    have HC4 := Lib.hid (And.intro hbl e4)
    have HSER := Lib.hid hser
    clear e0 e1 e2 e3 e4 e5 e6 e7 hser hel hj hbl
    unfold maxLen at hcm
    have wi1 : IntKind.i64.wrap ((j : Int)) = (j : Int) := IntWalk.i64_in _ (by omega)
    have zi1 : (0 : Int) ≤ (j : Int) := by omega
    have li1 : (j : Int) < (l.length : Int) := by omega
    have ti1 : ((j : Int)).toNat = j := by omega
    go_upto_region 2 with fail
    refine Gd.wp_region_X 12 (by kernel_rfl) (by kernel_rfl) ?_
    simp only [List.take_succ_cons, List.take_zero, List.drop_succ_cons, List.drop_zero]
    intro w1 hw1
    have LL : ∀ m : Lt w1, Ext w2 m.1 := fun m => hw1.tr m.2
    have k3 : ∀ m : Lt w1, m.1.cell? ⟨w.heap.size, 3, none⟩ = some (.slice (some ⟨b, o, none⟩) l.length cq) := fun m => by rw [cell_of_row m.1 _ 3 _ _ _ (((LL m).block _ (block_lt HB2.out)).trans HB2.out)]; rfl
    have k4 : ∀ m : Lt w1, m.1.cell? ⟨b, o + j * 8 + 4, none⟩ = some (.slice A1 n1 c1) := fun m => ((X2.out.tr (LL m)).cell (p := ⟨b, o + j * 8 + 4, none⟩) HC4.out.1).trans HC4.out.2
    have kn : ∀ m : Lt w1, m.1.cell? ⟨w.heap.size + 1, 2, none⟩ = some (.int .i64 c.num) := fun m => (NcAt.ext HT2.out (LL m)).cells.2.2.1
    have kl : ∀ m : Lt w1, w.heap.size + 1 < m.1.heap.size := fun m => NcAt.lt (NcAt.ext HT2.out (LL m))
    have kl0 : ∀ m : Lt w1, w.heap.size < m.1.heap.size := fun m => Nat.lt_of_succ_lt (kl m)
    have kb : ∀ m : Lt w1, b < m.1.heap.size := fun m => Nat.lt_of_lt_of_le HC4.out.1 (X2.out.tr (LL m)).size
    repeat (first | (refine Gd.wpX_skip (by exact ⟨_, rfl, rfl, rfl⟩) rfl rfl ?_; simp only [Act.put, List.setIfInBounds_toArray, List.set_cons_zero, List.set_cons_succ]) | (refine Gd.wpX_pure (by first | exact trivial | exact ⟨_, rfl, rfl, rfl⟩) rfl rfl rfl rfl rfl (fun K hK => ?_); go_big_quiet_op; refine hK _ ?_; clear hK K))
    refine Gd.wpX_callFn (by first | exact trivial | exact ⟨_, rfl, rfl, rfl⟩) (.bool (decide (c.num ∈ r.ser))) (args := [.slice A1 n1 c1, .int .i64 c.num]) rfl rfl rfl rfl (by kernel_rfl) rfl rfl (fun m => (containsI_any c.num m.1 (HSER.out.ext (X2.out.tr (LL m)))).mono fun _ _ ⟨h1, h2⟩ => ⟨h1, h2⟩) ?_
    simp only [Act.put, List.setIfInBounds_toArray, List.set_cons_zero, List.set_cons_succ]
    refine Gd.wpX_end0 (fun m => ?_)
    have LM := Lib.hid (X2.out.tr (LL m))
    clear hw1 LL k3 k4 kn kl kl0 kb
    generalize m.1 = wm at *
    show wpList _ _ _ _ _ _
    go_wp2_with fail
    go_ret
    exact ⟨by rw [HF.out]; rfl, LM.out⟩
set_option maxHeartbeats 2000000 in
theorem refrevoked_any (s0 s1 s2 s3 s4 : SlT) (l : List RV) (c : NC) (w : World) (h : RdV w (slV s3) l) : Calls Tryz.prog 71 #[storeV s0 s1 s2 s3 s4, ncV c] w (RetQ w (.bool (revB l c.st c.num))) := by
  obtain ⟨wz, hwz, e2, TZ⟩ := nc_alloc (w.alloc (.cells #[.slice s0.1 s0.2.1 s0.2.2, .slice s1.1 s1.2.1 s1.2.2, .slice s2.1 s2.2.1 s2.2.2, .slice s3.1 s3.2.1 s3.2.2, .slice s4.1 s4.2.1 s4.2.2] 75)) c
  rw [show (w.alloc (.cells #[.slice s0.1 s0.2.1 s0.2.2, .slice s1.1 s1.2.1 s1.2.2, .slice s2.1 s2.2.1 s2.2.2, .slice s3.1 s3.2.1 s3.2.2, .slice s4.1 s4.2.1 s4.2.2] 75)).heap.size = w.heap.size + 1 by simp] at TZ
  have e1 : Ext w (w.alloc (.cells #[.slice s0.1 s0.2.1 s0.2.2, .slice s1.1 s1.2.1 s1.2.2, .slice s2.1 s2.2.1 s2.2.2, .slice s3.1 s3.2.1 s3.2.2, .slice s4.1 s4.2.1 s4.2.2] 75)) := (Below.refl _ _).alloc (Nat.le_refl _) _
  have ez : Ext w wz := e1.tr e2
  have hz : wz.heap[w.heap.size]? = some (.cells #[.slice s0.1 s0.2.1 s0.2.2, .slice s1.1 s1.2.1 s1.2.2, .slice s2.1 s2.2.1 s2.2.2, .slice s3.1 s3.2.1 s3.2.2, .slice s4.1 s4.2.1 s4.2.2] 75 (0, 0)) := (e2.block _ (by simp)).trans (heap_alloc_new' w _)
  have HP := Lib.hid (fun W (e : Ext w W) => reffind_any s0 s1 s2 s3 s4 l c.st W (h.ext e))
  have HR := Lib.hid h
  have EZ := Lib.hid ez
  have HZ := Lib.hid hz
  have HT := Lib.hid TZ
  clear h ez hz e1 e2 TZ
  unfold storeV at HP ⊢
  unfold ncV
  go_enter Tryz.func71, Tryz.ntmps71
  go_wp2_with fail
  rw [← hwz]
  clear hwz
  refine (HP.out wz EZ.out).mono ?_
  rintro e w2 ⟨A, n, cp, rfl, hser, b2⟩
  have X2 := EZ.out.tr b2
  have T2 := NcAt.ext HT.out b2
  have HD := Lib.hid (revB_getD l c.st c.num)
  obtain ⟨R, hR⟩ : ∃ R, (ofR l c.st).getD zeroR = R := ⟨_, rfl⟩
  rw [hR] at HD hser ⊢
  obtain ⟨ok, hok⟩ : ∃ ok, (ofR l c.st).isSome = ok := ⟨_, rfl⟩
  rw [hok]
  obtain ⟨A', n', c', hs, hn, hnc, hcm, hel⟩ := hser.ints
  injection hs with hs1 hs2 hs3
  subst hs1 hs2 hs3 hn
  unfold maxLen at hcm
  obtain ⟨wa, hwa, xa, ta⟩ := rv_alloc w2 R (.slice A R.ser.length cp)
  have HXA := Lib.hid (X2.tr xa)
  have HEL := Lib.hid hel
  have HE2 := Lib.hid xa
  have HTA := Lib.hid ta
  have HTC := Lib.hid (NcAt.ext T2 xa)
  clear hR hok HP HR HZ HT b2 X2 T2 hel hser xa ta EZ
  unfold rvV
  go_wp2_with fail
  rw [← hwa]
  clear hwa
  go_loopw [7] (fun s7 wr => ∃ i : Nat, i ≤ R.ser.length ∧ s7 = .int .i64 (i : Int) ∧ Hid (Ext wa wr) ∧ Hid (∀ k, k < i → R.ser.getD k 0 ≠ c.num)) (fun s7 _ => R.ser.length - (intOf s7).toNat)
  case atStart => exact ⟨0, Nat.zero_le _, rfl, Lib.hid (Below.refl _ _), Lib.hid (fun k h => by omega)⟩
  case round =>
    obtain ⟨i, hi, rfl, EW, NO⟩ := hrel
    have TA := HTA.out.ext EW.out
    have TC := NcAt.ext HTC.out EW.out
    have a4 := TA.c4
    have hla := TA.lt
    have n2 := (NcAt.cells TC).2.2.1
    have hlc := NcAt.lt TC
    clear TA TC
    by_cases hlt : i < R.ser.length
    case neg =>
      have hb : ¬ ((i : Int) < (R.ser.length : Int)) := by omega
      have HN := Lib.hid (show revB l c.st c.num = false by
        rw [HD.out]
        refine decide_eq_false fun hm => ?_
        obtain ⟨k, hk, e⟩ := List.getElem_of_mem hm
        exact NO.out k (by omega) (by rw [List.getD_eq_getElem?_getD, List.getElem?_eq_getElem hk]; exact e))
      go_wp2_with fail
      go_ret
      exact ⟨by rw [HN.out]; rfl, HXA.out.tr EW.out⟩
    case pos =>
      obtain ⟨b, o, rfl, hbl, hc⟩ := HEL.out (by omega)
      have l0 := ((HE2.out.tr EW.out).cell (p := ⟨b, o + i, none⟩) hbl).trans (hc i hlt)
      have HG := Lib.hid (show R.ser.getD i 0 ∈ R.ser by rw [List.getD_eq_getElem?_getD, List.getElem?_eq_getElem hlt]; exact List.getElem_mem hlt)
      have HNX := Lib.hid (fun (q : R.ser.getD i 0 ≠ c.num) => (fun k hk => by
        by_cases e : k = i
        · subst e; exact q
        · exact NO.out k (by omega) : ∀ k, k < i + 1 → R.ser.getD k 0 ≠ c.num))
      generalize R.ser.getD i 0 = t at l0 HG HNX
      clear hc
      have wi2 : IntKind.i64.wrap ((i : Int)) = (i : Int) := IntWalk.i64_in _ (by omega)
      have zi2 : (0 : Int) ≤ (i : Int) := by omega
      have li2 : (i : Int) < (R.ser.length : Int) := by omega
      have ti2 : ((i : Int)).toNat = i := by omega
      by_cases hq : t = c.num
      · have HN := Lib.hid (show revB l c.st c.num = true by rw [HD.out]; exact decide_eq_true (by rw [← hq]; exact HG.out))
        have hb : (t == c.num) = true := by simpa using hq
        clear hq
        go_wp2_with (go_quiet (fail))
        have XQ := Lib.hid (HXA.out.tr (EW.out.tr (Ext.drewN_ wr nq)))
        generalize wr.drewN nq = wx at *
        go_wp2_with fail
        go_ret
        exact ⟨by rw [HN.out]; rfl, XQ.out⟩
      · have hb : (t == c.num) = false := by simpa using hq
        have HNO := Lib.hid (HNX.out hq)
        clear hq
        go_wp2_with (go_quiet (fail))
        have XQ := Lib.hid (EW.out.tr (Ext.drewN_ wr nq))
        generalize wr.drewN nq = wx at *
        go_wp2_with fail
        go_roundw
        case rel => repeat (first | exact ⟨i + 1, by omega, by go_num, XQ, HNO⟩ | exact ⟨⟨i + 1, by omega, by go_num, XQ, HNO⟩, rfl⟩ | refine ⟨_, ?_⟩)
        case measure => simp [intOf]; omega
end Go.Proofs.YtkjplpmogfmhkaaGreatDoor
namespace Go.Proofs.YtkjplpmogfmhkaaGreatDoor
open Go.RowKit
set_option linter.unusedVariables false
set_option maxRecDepth 100000
theorem run_appKT {P : Program} {w : World} {t ty e : TypeId} {k bytes B : Nat} (hk : 0 < k) (he : ElemK P t e k bytes) {v src : Value} {n m : Nat} {xs news : List Value} (hown : OwnK w B e k v xs) (hnx : n * k = xs.length) (hr : RdK w k src news) (hmx : m * k = news.length) (hm : 0 < m) (h1 : ∀ u ∈ news, u.oneCell' = true)
    (hb : (n + m) * bytes ≤ 140737488355328) (h63 : n + m ≤ maxLen) (hB : B ≤ w.heap.size) :
    ∃ A c w', (Builtin.append_ #[t, t] ty #[v, src]).run P w = .ok (.slice A (n + m) c) w' ∧ OwnK w' B e k (.slice A (n + m) c) (xs ++ news) ∧ w.grownBy w' (rowOf v) ∧ OwnK w' B e k v xs ∧
      ∀ A1 c1 (news1 : List Value), news1.length = news.length → OwnK w B e k (.slice A1 (n + m) c1) (xs ++ news1) → OwnK w' B e k (.slice A1 (n + m) c1) (xs ++ news1) ∨ OwnK w' B e k (.slice A1 (n + m) c1) (xs ++ news) := by
  obtain ⟨A', c', w', r1, o1, g1, f1⟩ := run_appKR (P := P) (ty := ty) hk he hown hnx hr hmx h1 hb h63 hB
  obtain ⟨i, z, ht, hi, hz, hsz, hby, hzs⟩ := he.ex
  obtain ⟨A2, m', c2, rfl, hm', hmc, hcm2, hcells⟩ := hr
  obtain rfl : m' = m := Nat.eq_of_mul_eq_mul_right hk (hm'.trans hmx.symm)
  obtain ⟨b2, o2, rfl, hc2⟩ := hcells hm
  have hnews : ∀ j u, news[j]? = some u → w.cell? ((⟨b2, o2, none⟩ : Addr).add j) = some u := by
    intro j u hu
    rw [Addr.add_lit]
    exact hc2 j u hu
  refine ⟨A', c', w', r1, o1, g1, ?_⟩
  have hown0 := hown
  obtain ⟨A, n', c, rfl, hn, hcase⟩ := hown
  obtain rfl : n' = n := Nat.eq_of_mul_eq_mul_right hk (hn.trans hnx.symm)
  -- where the block stays as it was
  have ext : Ext w w' → OwnK w' B e k (.slice A n' c) xs ∧ ∀ A1 c1 (news1 : List Value), news1.length = news.length → OwnK w B e k (.slice A1 (n' + m') c1) (xs ++ news1) → OwnK w' B e k (.slice A1 (n' + m') c1) (xs ++ news1) ∨ OwnK w' B e k (.slice A1 (n' + m') c1) (xs ++ news) := fun h => ⟨hown0.ext h, fun A1 c1 n1 _ h2 => .inl (h2.ext h)⟩
  rcases hcase with ⟨h0, hc0⟩ | ⟨g, cur, rfl, hbg, hg, hnc, hcm, hcs, htk⟩
  · subst hc0
    refine ext ((Below.refl w.heap.size w).grown g1 (Nat.le_refl _) fun r hr => ?_)
    cases A <;> simp [rowOf] at hr
  · by_cases hc0 : c = 0
    · subst hc0
      refine ext ((Below.refl w.heap.size w).grown g1 (Nat.le_refl _) fun r hr => ?_)
      simp [rowOf] at hr
    · by_cases hroom : n' + m' ≤ c
      · have hfit : n' * i.size + news.length ≤ cur.size := by rw [hsz, hcs, ← hmx, ← Nat.add_mul]; exact Nat.mul_le_mul_right _ hroom
        have r2 := run_append_room (P := P) w t ty e i ht hi g n' c cur hg ⟨b2, o2, none⟩ m' c2 news (by rw [hsz]; exact hmx.symm) hnews h1 hroom hfit
        rw [r2] at r1
        injection r1 with q1 q2
        have hw : w'.heap[g]? = some (.cells (cur.toList.take (n' * i.size) ++ news ++ cur.toList.drop (n' * i.size + news.length)).toArray e (0, 0)) := by
          rw [← q2]
          exact setRow_heap w g cur _ e _ hg
        rw [hsz] at hw hfit
        have hsize : (cur.toList.take (n' * k) ++ news ++ cur.toList.drop (n' * k + news.length)).toArray.size = cur.size := by
          simp only [List.size_toArray, List.length_append, List.length_take, List.length_drop, Array.length_toList]
          omega
        have htk2 : cur.toList.take (n' * k) = xs := htk
        have hl : (xs ++ news).length = (n' + m') * k := by rw [List.length_append, ← hnx, ← hmx, Nat.add_mul]
        refine ⟨⟨_, n', c, rfl, hn, .inr ⟨g, _, rfl, hbg, hw, hnc, hcm, by rw [hsize]; exact hcs, ?_⟩⟩, fun A1 c1 n1 hl1 h2 => ?_⟩
        · rw [htk2, List.append_assoc, hn]
          exact List.take_left
        · obtain ⟨A9, n9, c9, e9, hn9, h2⟩ := h2
          injection e9 with e1 e2 e3
          subst e1 e2 e3
          rcases h2 with h2 | ⟨g9, cur9, rfl, hb9, hg9, hnc9, hcm9, hcs9, ht9⟩
          · exact .inl ⟨_, _, _, rfl, hn9, .inl h2⟩
          · by_cases hgg : g9 = g
            · subst hgg
              rw [hg] at hg9
              injection hg9 with hg9
              injection hg9 with hg9
              subst hg9
              refine .inr ⟨_, _, _, rfl, hl.symm, .inr ⟨g9, _, rfl, hbg, hw, hnc9, hcm9, by rw [hsize]; exact hcs9, ?_⟩⟩
              rw [htk2, ← hl]
              exact List.take_left
            · refine .inl ⟨_, _, _, rfl, hn9, .inr ⟨g9, cur9, rfl, hb9, (g1.block g9 (block_lt hg9) fun q => ?_).trans hg9, hnc9, hcm9, hcs9, ht9⟩⟩
              obtain ⟨c', rfl⟩ : ∃ c', c = c' + 1 := ⟨c - 1, by omega⟩
              have q : some g = some g9 := by first | exact q | exact q.symm
              injection q with q
              exact hgg q.symm
      · have holds : ∀ j u, xs[j]? = some u → w.cell? ((⟨g, 0, none⟩ : Addr).add j) = some u := by
          intro j u hu
          rw [Addr.add_lit]
          show w.cell? ⟨g, 0 + j, none⟩ = _
          rw [Nat.zero_add, cell_of_row w g j cur e (0, 0) hg]
          rw [← htk, List.getElem?_take] at hu
          split at hu
          · simpa using hu
          · cases hu
        have hbb : (n' + m') * i.bytes ≤ 140737488355328 := by rw [hby]; exact hb
        have r2 := run_append_grow (P := P) w t ty e i z ht hi hz ⟨g, 0, none⟩ n' c xs (by rw [hsz]; exact hn.symm) holds ⟨b2, o2, none⟩ m' c2 news (by rw [hsz]; exact hmx.symm) hnews (by omega) (by unfold maxLen at h63; omega) (growslice_fits (by omega) hbb)
        rw [r2] at r1
        injection r1 with q1 q2
        refine ext ?_
        rw [← q2]
        exact (Below.refl _ _).drew.alloc (Nat.le_refl _) _
/-- A slice that has one list more, whose numbers are new. -/
def ApG (B n : Nat) (xs : List Value) (r : RV) (A : Option Addr) (c : Nat) (w : World) : Prop := ∃ u, OwnK w B 103 8 (.slice A (n + 1) c) (xs ++ rvCells r u) ∧ OwnK w B 3 1 u (intsV r.ser)
/-- How a world may go on while the list is appended. -/
structure ApRel (B : Nat) (v : Value) (n : Nat) (xs : List Value) (r : RV) (w w' : World) : Prop where
  g : w.grownBy w' (rowOf v)
  p1 : OwnK w B 103 8 v xs → OwnK w' B 103 8 v xs
  p2 : OwnK w B 103 8 v xs → ∀ u, OwnK w B 3 1 u (intsV r.ser) → OwnK w' B 3 1 u (intsV r.ser)
  p3 : OwnK w B 103 8 v xs → ∀ A c, ApG B n xs r A c w → ApG B n xs r A c w'
def apR (B : Nat) (v : Value) (n : Nat) (xs : List Value) (r : RV) : Gr.Rl where
  rel := fun w w' => OwnK w B 103 8 v xs → ApRel B v n xs r w w'
  refl := fun w _ => ⟨World.grownBy.refl _ _, id, fun _ _ h => h, fun _ _ _ h => h⟩
  tr := fun h k q => ⟨World.grownBy.trans (h q).g (k ((h q).p1 q)).g, fun o => (k ((h q).p1 q)).p1 ((h q).p1 o), fun o u x => (k ((h q).p1 q)).p2 ((h q).p1 q) u ((h q).p2 q u x), fun o A c x => (k ((h q).p1 q)).p3 ((h q).p1 q) A c ((h q).p3 q A c x)⟩
  ext := fun e _ => ⟨⟨e.os, e.tape, e.output, e.size, fun k hk _ => e.block k hk⟩, fun o => o.ext e, fun _ u x => x.ext e, fun _ A c ⟨u, h1, h2⟩ => ⟨u, h1.ext e, h2.ext e⟩⟩
/-- The append itself. -/
theorem run_apR {B : Nat} {v : Value} {n : Nat} {xs : List Value} {r : RV} {ty : TypeId} {w : World} {src u : Value} (o : OwnK w B 103 8 v xs) (hn : n * 8 = xs.length) (hr : RdK w 8 src (rvCells r u)) (hu : OwnK w B 3 1 u (intsV r.ser)) (h15 : n ≤ 1000) (hB : B ≤ w.heap.size) :
    ∃ A c w', (Builtin.append_ #[72, 72] ty #[v, src]).run Tryz.prog w = .ok (.slice A (n + 1) c) w' ∧ ApRel B v n xs r w w' ∧ ApG B n xs r A c w' := by
  obtain ⟨A, c, w', q1, q2, q3, q4, q5⟩ := run_appKT (P := Tryz.prog) (ty := ty) (k := 8) (by decide) elemXR o hn hr (m := 1) rfl (by decide) (kR.one r u (by obtain ⟨A9, n9, c9, e9, _⟩ := hu; rw [e9]; rfl)) (by omega) (by unfold maxLen; omega) hB
  have hu' : OwnK w' B 3 1 u (intsV r.ser) := hu.grown q3 (o.row_ne hu (by decide))
  refine ⟨A, c, w', q1, ⟨q3, fun _ => q4, fun _ x hx => hx.grown q3 (o.row_ne hx (by decide)), fun _ A1 c1 ⟨x, h1, h2⟩ => ?_⟩, u, q2, hu'⟩
  rcases q5 A1 c1 (rvCells r x) rfl h1 with h | h
  · exact ⟨x, h, h2.grown q3 (o.row_ne h2 (by decide))⟩
  · exact ⟨u, h, hu'⟩
/-- A list as a value, and in a block of its own; the slice with one list more. -/
def GvA (B : Nat) (v0 : Value) (xs : List Value) (r : RV) : VPred := fun v w => OwnK w B 103 8 v0 xs ∧ ∃ A n c, v = rvV r (.slice A n c) ∧ OwnK w B 3 1 (.slice A n c) (intsV r.ser)
def GlA (B b0 : Nat) (v0 : Value) (xs : List Value) (r : RV) : VPred := fun v w => OwnK w B 103 8 v0 xs ∧ ∃ g u, v = .slice (some ⟨g, 0, none⟩) 1 1 ∧ b0 ≤ g ∧ w.heap[g]? = some (.cells (rvCells r u).toArray 103 (0, 0)) ∧ OwnK w B 3 1 u (intsV r.ser)
def GaA (B : Nat) (v0 : Value) (n : Nat) (xs : List Value) (r : RV) : VPred := fun v w => OwnK w B 103 8 v0 xs ∧ ∃ A c, v = .slice A (n + 1) c ∧ ApG B n xs r A c w
theorem stable_GvA (B : Nat) (v0 : Value) (n : Nat) (xs : List Value) (r : RV) : (apR B v0 n xs r).stable (GvA B v0 xs r) := fun v w w' q ⟨o, A, m, c, h1, h2⟩ => ⟨(q o).p1 o, A, m, c, h1, (q o).p2 o _ h2⟩
theorem stable_GlA {B b0 : Nat} {v0 : Value} (hb : ∀ k, rowOf v0 = some k → k < b0) (n : Nat) (xs : List Value) (r : RV) : (apR B v0 n xs r).stable (GlA B b0 v0 xs r) := fun v w w' q ⟨o, g, u, h1, h2, h3, h4⟩ =>
  ⟨(q o).p1 o, g, u, h1, h2, ((q o).g.block g (block_lt h3) (fun e => by have := hb g e.symm; omega)).trans h3, (q o).p2 o _ h4⟩
theorem stable_GaA (B : Nat) (v0 : Value) (n : Nat) (xs : List Value) (r : RV) : (apR B v0 n xs r).stable (GaA B v0 n xs r) := fun v w w' q ⟨o, A, c, h1, h2⟩ => ⟨(q o).p1 o, A, c, h1, (q o).p3 o A c h2⟩
theorem run_oneRv (W : World) (r : RV) (A : Option Addr) (n c : Nat) : (Instr.buildSlice 72 1 [(0, rvV r (.slice A n c))].toArray).run Tryz.prog W = .ok (.slice (some ⟨W.heap.size, 0, none⟩) 1 1) (W.alloc (.cells (rvCells r (.slice A n c)).toArray 103)) := by
  unfold rvV rvCells
  go_simp
theorem GlA.rd {B b0 : Nat} {v0 : Value} {xs : List Value} {r : RV} {v : Value} {w : World} (h : GlA B b0 v0 xs r v w) : ∃ u, RdK w 8 v (rvCells r u) ∧ OwnK w B 3 1 u (intsV r.ser) := by
  obtain ⟨_, g, u, rfl, _, hg, hu⟩ := h
  refine ⟨u, ⟨_, 1, 1, rfl, rfl, Nat.le_refl _, by unfold maxLen; omega, fun _ => ⟨g, 0, rfl, fun j x hx => ?_⟩⟩, hu⟩
  rw [Nat.zero_add, cell_of_row w g j _ _ _ hg]
  simpa using hx
end Go.Proofs.YtkjplpmogfmhkaaGreatDoor
namespace Go.Proofs.YtkjplpmogfmhkaaGreatDoor
open Go.RowKit
set_option linter.unusedVariables false
set_option maxRecDepth 100000
theorem run_strU {w : World} {A : Option Addr} {n c : Nat} {l : List UInt8} (h : Rd w (.slice A n c) (bvs l)) : (convert 89 9 (.slice A n c)).run Tryz.prog w = .ok (.string (bstr l)) w := by
  obtain ⟨A', n', c', e, hn, hnc, hcm, hc⟩ := h
  injection e with e1 e2 e3
  subst e1 e2 e3
  rw [bvs_length] at hn
  by_cases h0 : n = 0
  · subst h0
    obtain rfl : l = [] := List.eq_nil_of_length_eq_zero hn.symm
    rw [run_convert_bytes_string w 89 9 5 _ 0 c Tryz.underlying89 Tryz.underlying5 Tryz.underlying9]
    cases A <;> simp [Conv.bytesToString, loadCells]
    all_goals rfl
  · obtain ⟨b, o, rfl, hcell⟩ := hc (by omega)
    subst hn
    refine run_convert_bytes_back w 89 9 5 ⟨b, o, none⟩ c l Tryz.underlying89 Tryz.underlying5 Tryz.underlying9 fun j hj => ?_
    rw [Addr.add_lit]
    exact hcell j _ (by simp [bvs, hj, bv])
/-- What light returns. -/
def LiR (w : World) (r : RV) (e : Ending) (w' : World) : Prop := ∃ b : Bool, e = .returned (.bool b) ∧ (b = true → r.ser.length ≤ 80) ∧ Ext w w'
set_option maxHeartbeats 2000000 in
theorem light32_any (s0 s1 s2 s3 s4 : SlT) (r : RV) (u : Value) (w : World) (hr : RdI w .i64 u r.ser) : Calls Tryz.prog 75 #[storeV s0 s1 s2 s3 s4, rvV r u] w (LiR w r) := by
  obtain ⟨A, n, c, rfl, hn, -⟩ := hr.ints
  subst hn
  obtain ⟨wz, hwz, e2, TZ⟩ := rv_alloc (w.alloc (.cells #[.slice s0.1 s0.2.1 s0.2.2, .slice s1.1 s1.2.1 s1.2.2, .slice s2.1 s2.2.1 s2.2.2, .slice s3.1 s3.2.1 s3.2.2, .slice s4.1 s4.2.1 s4.2.2] 75)) r (.slice A r.ser.length c)
  rw [show (w.alloc (.cells #[.slice s0.1 s0.2.1 s0.2.2, .slice s1.1 s1.2.1 s1.2.2, .slice s2.1 s2.2.1 s2.2.2, .slice s3.1 s3.2.1 s3.2.2, .slice s4.1 s4.2.1 s4.2.2] 75)).heap.size = w.heap.size + 1 by simp] at TZ
  have e1 : Ext w (w.alloc (.cells #[.slice s0.1 s0.2.1 s0.2.2, .slice s1.1 s1.2.1 s1.2.2, .slice s2.1 s2.2.1 s2.2.2, .slice s3.1 s3.2.1 s3.2.2, .slice s4.1 s4.2.1 s4.2.2] 75)) := (Below.refl _ _).alloc (Nat.le_refl _) _
  have ez : Ext w wz := e1.tr e2
  have hz : wz.heap[w.heap.size]? = some (.cells #[.slice s0.1 s0.2.1 s0.2.2, .slice s1.1 s1.2.1 s1.2.2, .slice s2.1 s2.2.1 s2.2.2, .slice s3.1 s3.2.1 s3.2.2, .slice s4.1 s4.2.1 s4.2.2] 75 (0, 0)) := (e2.block _ (by simp)).trans (heap_alloc_new' w _)
  have c0 : wz.cell? ⟨w.heap.size, 0, none⟩ = some (.slice s0.1 s0.2.1 s0.2.2) := by rw [cell_of_row _ _ 0 _ _ _ hz]; rfl
  have c1 : wz.cell? ⟨w.heap.size, 1, none⟩ = some (.slice s1.1 s1.2.1 s1.2.2) := by rw [cell_of_row _ _ 1 _ _ _ hz]; rfl
  have c2 : wz.cell? ⟨w.heap.size, 2, none⟩ = some (.slice s2.1 s2.2.1 s2.2.2) := by rw [cell_of_row _ _ 2 _ _ _ hz]; rfl
  have c3 : wz.cell? ⟨w.heap.size, 3, none⟩ = some (.slice s3.1 s3.2.1 s3.2.2) := by rw [cell_of_row _ _ 3 _ _ _ hz]; rfl
  have cl := block_lt hz
  have r4 := TZ.c4
  have rl := TZ.lt
  have EZ := Lib.hid ez
  clear e1 ez hz e2 TZ hr
  unfold storeV rvV
  go_enter Tryz.func75, Tryz.ntmps75
  go_upto_region 1 with fail
  rw [← hwz]
  clear hwz
  by_cases d1 : (r.ser.length : Int) ≤ 80
  case neg =>
    go_wp2_with fail
    go_ret
    exact ⟨false, rfl, fun q => absurd q (by decide), EZ.out⟩
  have HD := Lib.hid (show r.ser.length ≤ 80 by omega)
  by_cases d2 : wrap64 ((s0.2.1 : Int) + (s1.2.1 : Int)) ≤ 12
  case neg =>
    go_wp2_with fail
    go_ret
    exact ⟨false, rfl, fun q => absurd q (by decide), EZ.out⟩
  by_cases d3 : (s2.2.1 : Int) ≤ 4
  case neg =>
    go_wp2_with fail
    go_ret
    exact ⟨false, rfl, fun q => absurd q (by decide), EZ.out⟩
  by_cases d4 : (s3.2.1 : Int) ≤ 20
  case neg =>
    go_wp2_with fail
    go_ret
    exact ⟨false, rfl, fun q => absurd q (by decide), EZ.out⟩
  go_wp2_with fail
  go_ret
  exact ⟨true, rfl, fun _ => HD.out, EZ.out⟩
end Go.Proofs.YtkjplpmogfmhkaaGreatDoor
