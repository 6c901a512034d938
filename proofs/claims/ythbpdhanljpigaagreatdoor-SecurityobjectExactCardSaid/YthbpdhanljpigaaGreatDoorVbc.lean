/- Parts Qo Xm Xn Xo Xi Xh Xq of the proof. -/
import Derived.Test.YthbpdhanljpigaaGreatDoorVat
import Derived.Test.YthbpdhanljpigaaGreatDoorVap
import Derived.Test.YthbpdhanljpigaaGreatDoorVaw
import Derived.Test.YthbpdhanljpigaaGreatDoorVbb
import Derived.Test.YthbpdhanljpigaaGreatDoorVah
import Derived.Test.YthbpdhanljpigaaGreatDoorVao
import Derived.Test.YthbpdhanljpigaaGreatDoorVai
import Derived.Test.YthbpdhanljpigaaGreatDoorVav
namespace Go.Proofs.YthbpdhanljpigaaGreatDoor
open Go.RowKit
set_option linter.unusedVariables false
set_option maxRecDepth 100000
theorem NdsRd.s0 {w : World} : ∀ {d : Nat} {v : Value} {ts : List Nd}, NdsRd d w v ts → NdsS (fun b => 0 ≤ b) d w v ts
  | 0, _, _, h => h
  | d + 1, v, ts, ⟨A, n, c, h1, h2, h3, h4, h5⟩ => by
    refine ⟨A, n, c, h1, h2, h3, h4, fun h0 => ?_⟩
    obtain ⟨b, o, hA, h6⟩ := h5 h0
    refine ⟨b, o, hA, Nat.zero_le _, fun i t ht => ?_⟩
    obtain ⟨A1, n1, c1, A2, n2, c2, e0, e1, e2, r1, r2⟩ := h6 i t ht
    obtain ⟨A1', n1', c1', k1, k2, k3, k4, k5⟩ := r1
    exact ⟨A1, n1, c1, A2, n2, c2, e0, e1, e2, ⟨A1', n1', c1', k1, k2, k3, k4, fun h0 => by obtain ⟨b, o, q1, q2⟩ := k5 h0; exact ⟨b, o, q1, Nat.zero_le _, q2⟩⟩, NdsRd.s0 r2⟩
/-- One object of objects, in a new row. -/
theorem nds_top {d : Nat} {W : World} {t : Int} {v : Value} {ks : List Nd} (h : NdsRd d W v ks) : NdsRd (d + 1) (W.alloc (.cells #[.int .i64 t, .slice none 0 0, v] 83)) (.slice (some ⟨W.heap.size, 0, none⟩) 1 1) [.mk t [] ks] := by
  obtain ⟨A, n, c, rfl⟩ := NdsS.slice h.s0
  exact (ndsS_lit (B := 0) [.int .i64 t, .slice none 0 0, .slice A n c] [.mk t [] ks] 1 rfl (by omega) ((NdCells.nil _ d W).snoc (t := .mk t [] ks) (RdS.nil _) h.s0) (Nat.zero_le _)).rd
/-- What Open answers. -/
def OpnQ (w : World) (r : Except Int (Int × List Nd)) (en : Ending) (w' : World) : Prop := Ext w w' ∧
  ((∃ (z : Int) (A : Option Addr) (n c : Nat) (k : Int), r = .error k ∧ k ≠ 0 ∧ en = .returned (.tuple #[.int .i64 z, .slice A n c, .int .i64 k])) ∨
   (∃ z ks A n c, r = .ok (z, ks) ∧ en = .returned (.tuple #[.int .i64 z, .slice A n c, .int .i64 0]) ∧ NdsRd 7 w' (.slice A n c) ks))
theorem opn_err {l : List UInt8} {k : Int} (h : parX false l = .error k) : opnX l = .error k := by unfold opnX; rw [h]
theorem opn_many {l : List UInt8} {ts : List Nd} (h : parX false l = .ok ts) (hn : ts.length ≠ 1) : opnX l = .error 1 := by
  unfold opnX
  rw [h]
  match ts, hn with
  | [], _ => rfl
  | _ :: _ :: _, _ => rfl
theorem opn_tag {l : List UInt8} {t : Nd} (h : parX false l = .ok [t]) (hn : grpX t.tag = 0) : opnX l = .error 4 := by
  unfold opnX
  rw [h]
  exact if_pos hn
theorem opn_ok {l : List UInt8} {t : Nd} (h : parX false l = .ok [t]) (hn : grpX t.tag ≠ 0) : opnX l = .ok (grpX t.tag, t.kids) := by
  unfold opnX
  rw [h]
  exact if_neg hn
set_option maxHeartbeats 2000000 in
theorem open16_any {a : Value} {l : List UInt8} (w : World) (ha : Rd w a (bvs l)) (hl : l.length ≤ 140737488355328) (G : GTab w 1) : Calls Tryz.prog 40 #[a] w (OpnQ w (opnX l)) := by
  have HP := Lib.hid (parseq_any false w ha hl)
  have HG := Lib.hid (fun W (e : Ext w W) => G.ext e)
  obtain ⟨A, n, c, rfl, hn, _⟩ := ha.bytes
  subst hn
  obtain ⟨r, hr⟩ : ∃ r, opnX l = r := ⟨_, rfl⟩
  rw [hr]
  have HR := Lib.hid hr
  clear ha hl G hr
  go_enter Tryz.func40, Tryz.ntmps40
  go_wp2_with fail
  refine HP.out.mono ?_
  rintro en w2 ⟨e2, hx⟩
  rcases hx with ⟨A', n', c', k, hn, hk, rfl⟩ | ⟨ts, A', n', c', hn, rfl, nd⟩
  · have hk2 : (k != 0) = true := by simpa using hk
    have HN := Lib.hid (HR.out.symm.trans (opn_err hn))
    clear hn
    go_wp2_with fail
    go_ret3
    exact ⟨e2, .inl ⟨_, _, _, _, k, HN.out, hk, rfl⟩⟩
  · obtain ⟨A2, n2, c2, e, hn2, hnc, hcm, hel⟩ := nd.open_
    injection e with e1 e2' e3
    subst e1 e2' e3
    unfold maxLen at hcm
    have HPX := Lib.hid hn
    have HN2 := Lib.hid hn2
    clear hn nd hn2
    by_cases h1 : n' = 1
    · obtain ⟨t, rfl⟩ := one_of (HN2.out.symm.trans h1)
      obtain ⟨d', hd', b, o, rfl, hbl, A1, n1, c1, A3, n3, c3, f0, f1, f2, r1, r2⟩ := hel 0 t rfl
      simp only [Nat.zero_mul, Nat.add_zero] at f0 f1 f2
      obtain rfl : d' = 7 := by omega
      subst h1
      have R2 := Lib.hid r2
      clear r1 r2 hel hd'
      go_wp2_with fail
      refine (group_any t.tag w2 (HG.out _ e2)).mono ?_
      rintro en w3 ⟨rfl, rfl⟩
      by_cases hg : grpX t.tag = 0
      · have HN := Lib.hid (HR.out.symm.trans (opn_tag HPX.out hg))
        rw [grpE_none hg]
        clear hg
        go_wp2_with fail
        go_ret3
        exact ⟨e2, .inl ⟨_, _, _, _, 4, HN.out, by decide, rfl⟩⟩
      · have HN := Lib.hid (HR.out.symm.trans (opn_ok HPX.out hg))
        rw [show grpE t.tag = 0 from if_neg hg]
        clear hg
        go_wp2_with (go_quiet (fail))
        go_ret3
        exact ⟨e2.tr (Ext.drewN_ _ _), .inr ⟨_, _, _, _, _, HN.out, rfl, R2.out.ext (Ext.drewN_ _ _)⟩⟩
    · have hb : ((n' : Int) != 1) = true := by simp; omega
      have HN := Lib.hid (HR.out.symm.trans (opn_many HPX.out (fun h => h1 (HN2.out.trans h))))
      clear h1 hel
      go_wp2_with fail
      go_ret3
      exact ⟨e2, .inl ⟨_, _, _, _, 1, HN.out, by decide, rfl⟩⟩
set_option maxHeartbeats 2000000 in
theorem datagroups_wrap {d : Nat} {v : Value} {ks : List Nd} (k : Nat) (z : Int) (hz : z = (k : Int) + 1) (w : World) (hk : k < 18) (G : GTab w 1) (hr : NdsRd d w v ks) (hok : okNs (d + 1) [.mk (grpT.getD k 0) [] ks]) (hd : d + 1 ≤ 8) (hc : cntNs (d + 1) [.mk (grpT.getD k 0) [] ks] ≤ 256) (hl : (encNs (d + 1) [.mk (grpT.getD k 0) [] ks]).length ≤ 4096) :
    Calls Tryz.prog 63 #[.int .i64 z, v] w (RetBE w (encNs (d + 1) [.mk (grpT.getD k 0) [] ks]) 0) := by
  have HT := Lib.hid (datagroups_tag k z hz w hk G)
  have HO := Lib.hid hok
  have HC := Lib.hid hc
  have HL := Lib.hid hl
  have HR := Lib.hid hr
  obtain ⟨A, n, c, rfl⟩ := NdsS.slice hr.s0
  generalize grpT.getD k 0 = t at *
  clear G hz hok hc hl hr
  go_enter Tryz.func63, Tryz.ntmps63
  go_wp2_with fail
  refine HT.out.mono ?_
  rintro e w1 ⟨rfl, rfl⟩
  go_wp2_with fail
  refine (encode_ok (d := d + 1) (ts := [.mk t [] ks]) _ HO.out (nds_top HR.out) hd HC.out HL.out).mono ?_
  rintro e w4 ⟨A', n', cc, rfl, hn', o, b4⟩
  go_wp2_with fail
  go_ret2
  exact ⟨_, _, _, rfl, hn', o.mono (by simp), Ext.tr ((Below.refl _ _).alloc (Nat.le_refl _) _) b4⟩
end Go.Proofs.YthbpdhanljpigaaGreatDoor
namespace Go.Proofs.YthbpdhanljpigaaGreatDoor
open Go.RowKit
set_option linter.unusedVariables false
set_option maxRecDepth 100000
/-- An object by value, objects, one object in a row: all whose blocks are of S. -/
def NdP (S : Nat → Prop) (d : Nat) (t : Nd) : VPred := fun v w => ∃ (A1 : Option Addr) (n1 c1 : Nat) (A2 : Option Addr) (n2 c2 : Nat), v = .agg #[.int .i64 t.tag, .slice A1 n1 c1, .slice A2 n2 c2] ∧ RdS S w (.slice A1 n1 c1) (bvs t.val) ∧ NdsS S d w (.slice A2 n2 c2) t.kids
def NdsP (S : Nat → Prop) (d : Nat) (ts : List Nd) : VPred := fun v w => NdsS S d w v ts
def OneP (S : Nat → Prop) (d : Nat) (t : Nd) : VPred := fun v w => ∃ (A1 : Option Addr) (n1 c1 : Nat) (A2 : Option Addr) (n2 c2 : Nat) (g : Nat), v = .slice (some ⟨g, 0, none⟩) 1 1 ∧ RdK w 3 v [.int .i64 t.tag, .slice A1 n1 c1, .slice A2 n2 c2] ∧ RdS S w (.slice A1 n1 c1) (bvs t.val) ∧ NdsS S d w (.slice A2 n2 c2) t.kids
theorem stable_NdP (S : Nat → Prop) (d : Nat) (t : Nd) : StableP (NdP S d t) := fun v w w' e ⟨A1, n1, c1, A2, n2, c2, h1, h2, h3⟩ => ⟨A1, n1, c1, A2, n2, c2, h1, h2.map fun b hb hlt => ⟨hb, e.block b hlt⟩, h3.map fun b hb hlt => ⟨hb, e.block b hlt⟩⟩
theorem stable_NdsP (S : Nat → Prop) (d : Nat) (ts : List Nd) : StableP (NdsP S d ts) := fun v w w' e h => h.map fun b hb hlt => ⟨hb, e.block b hlt⟩
theorem stable_OneP (S : Nat → Prop) (d : Nat) (t : Nd) : StableP (OneP S d t) := fun v w w' e ⟨A1, n1, c1, A2, n2, c2, g, h1, h2, h3, h4⟩ => ⟨A1, n1, c1, A2, n2, c2, g, h1, h2.ext e, h3.map fun b hb hlt => ⟨hb, e.block b hlt⟩, h4.map fun b hb hlt => ⟨hb, e.block b hlt⟩⟩
theorem NdG.p {B d : Nat} {t : Nd} {v : Value} {w : World} {S : Nat → Prop} (h : NdG B d t v w) (hS : ∀ b, B ≤ b → S b) : NdP S d t v w := by
  obtain ⟨A1, n1, c1, A2, n2, c2, h1, h2, h3⟩ := h
  exact ⟨A1, n1, c1, A2, n2, c2, h1, h2.map fun b hb _ => ⟨hS b hb, rfl⟩, h3.map fun b hb _ => ⟨hS b hb, rfl⟩⟩
theorem run_leafP {S : Nat → Prop} {d : Nat} (W : World) (t : Int) {v : Value} {l : List UInt8} (h : RdS S W v (bvs l)) : ∃ v' w'', (Instr.build 83 [(0, .int .i64 t), (1, v)].toArray).run Tryz.prog W = .ok v' w'' ∧ Ext W w'' ∧ NdP S d (leafN t l) v' w'' := by
  obtain ⟨A, n, c, rfl, _⟩ := id h
  exact ⟨_, _, run_buildNd W t A n c, Below.refl _ _, _, _, _, _, _, _, rfl, h, NdsS.nil _ _⟩
theorem run_nodes2P {S : Nat → Prop} {d : Nat} (W : World) (hS : ∀ b, W.heap.size ≤ b → S b) {v0 v1 : Value} {t0 t1 : Nd} (h0 : NdP S d t0 v0 W) (h1 : NdP S d t1 v1 W) : ∃ v' w'', (Instr.buildSlice 66 2 [(0, v0), (1, v1)].toArray).run Tryz.prog W = .ok v' w'' ∧ Ext W w'' ∧ NdsP S (d + 1) [t0, t1] v' w'' := by
  obtain ⟨a0, n0, c0, b0, m0, d0, rfl, r0, k0⟩ := h0
  obtain ⟨a1, n1, c1, b1, m1, d1, rfl, r1, k1⟩ := h1
  have e : Ext W (W.alloc (.cells #[.int .i64 t0.tag, .slice a0 n0 c0, .slice b0 m0 d0, .int .i64 t1.tag, .slice a1 n1 c1, .slice b1 m1 d1] 83)) := (Below.refl _ _).alloc (Nat.le_refl _) _
  have ho := OwnK.lit W 3 #[.int .i64 t0.tag, .slice a0 n0 c0, .slice b0 m0 d0, .int .i64 t1.tag, .slice a1 n1 c1, .slice b1 m1 d1] 83 2 rfl (by unfold maxLen; omega)
  exact ⟨_, _, run_bs2 W t0.tag a0 b0 n0 c0 m0 d0 t1.tag a1 b1 n1 c1 m1 d1, e, NdsS.mk ho ((((NdCells.nil S d W).snoc r0 k0).snoc r1 k1).map fun b hb hlt => ⟨hb, e.block b hlt⟩) (fun b hb => hb) hS⟩
theorem run_consP {S : Nat → Prop} {d : Nat} (W : World) (t : Int) {v : Value} {ts : List Nd} (h : NdsP S d ts v W) : ∃ v' w'', (Instr.build 83 [(0, .int .i64 t), (2, v)].toArray).run Tryz.prog W = .ok v' w'' ∧ Ext W w'' ∧ NdP S d (.mk t [] ts) v' w'' := by
  obtain ⟨A, n, c, rfl⟩ := NdsS.slice h
  exact ⟨_, _, run_buildNd2 W t A n c, Below.refl _ _, _, _, _, _, _, _, rfl, RdS.nil _, h⟩
theorem run_oneP {S : Nat → Prop} {d : Nat} (W : World) {v : Value} {t : Nd} (h : NdP S d t v W) : ∃ v' w'', (Instr.buildSlice 66 1 [(0, v)].toArray).run Tryz.prog W = .ok v' w'' ∧ Ext W w'' ∧ OneP S d t v' w'' := by
  obtain ⟨a0, n0, c0, b0, m0, d0, rfl, r0, k0⟩ := h
  have e : Ext W (W.alloc (.cells #[.int .i64 t.tag, .slice a0 n0 c0, .slice b0 m0 d0] 83)) := (Below.refl _ _).alloc (Nat.le_refl _) _
  exact ⟨_, _, run_bs1 W t.tag a0 b0 n0 c0 m0 d0, e, a0, n0, c0, b0, m0, d0, _, rfl, RdK.lit W 3 #[.int .i64 t.tag, .slice a0 n0 c0, .slice b0 m0 d0] _ 1 rfl (by unfold maxLen; omega), r0.map fun b hb hlt => ⟨hb, e.block b hlt⟩, k0.map fun b hb hlt => ⟨hb, e.block b hlt⟩⟩
/-- Bytes beside OK. -/
def GBm (l : List UInt8) : VPred := fun v w => ∃ A n c, v = .slice A n c ∧ Hid (n = l.length) ∧ Rd w (.slice A n c) (bvs l)
def PBm (l : List UInt8) : VPred := fun v w => ∃ A n c, v = .tuple #[.slice A n c, .int .i64 0] ∧ Hid (n = l.length) ∧ Rd w (.slice A n c) (bvs l)
theorem stable_GBm (l : List UInt8) : StableP (GBm l) := fun v w w' e ⟨A, n, c, h1, h2, h3⟩ => ⟨A, n, c, h1, h2, h3.ext e⟩
theorem stable_PBm (l : List UInt8) : StableP (PBm l) := fun v w w' e ⟨A, n, c, h1, h2, h3⟩ => ⟨A, n, c, h1, h2, h3.ext e⟩
theorem run_pbm0 {l : List UInt8} {v : Value} {W : World} (h : PBm l v W) : ∃ v' w'', (Instr.extract v 0).run Tryz.prog W = .ok v' w'' ∧ Ext W w'' ∧ GBm l v' w'' := by
  obtain ⟨A, n, c, rfl, h2, h3⟩ := h
  exact ⟨_, _, rfl, Below.refl _ _, A, n, c, rfl, h2, h3⟩
theorem run_pbm1 {l : List UInt8} {v : Value} {W : World} (h : PBm l v W) : ∃ v' w'', (Instr.extract v 1).run Tryz.prog W = .ok v' w'' ∧ Ext W w'' ∧ v' = .int .i64 0 := by
  obtain ⟨A, n, c, rfl, h2, h3⟩ := h
  exact ⟨_, _, rfl, Below.refl _ _, rfl⟩
theorem pbm_of {f : FuncId} {args : Array Value} {w : World} {l : List UInt8} (h : Calls Tryz.prog f args w (RetBE w l 0)) : Calls Tryz.prog f args w fun e w' => ∃ v, e = .returned v ∧ Ext w w' ∧ PBm l v w' :=
  h.mono fun e w' ⟨A, n, c, h1, h2, h3, h4⟩ => ⟨_, h1, h4, A, n, c, rfl, h2, h3.rd⟩
theorem take_hash {hs : List (Int × List UInt8)} {j : Nat} {x : Int × List UInt8} (h : hs[j]? = some x) : (hs.take (j + 1)).map hashN = (hs.take j).map hashN ++ [hashN x] := by
  obtain ⟨hj, rfl⟩ := List.getElem?_eq_some_iff.1 h
  rw [List.take_succ_eq_append_getElem hj, List.map_append]
  rfl
/-- Bytes that do not lie in the row. -/
theorem rdS_old {w w0 : World} {v : Value} {l : List UInt8} (h : Rd w0 v (bvs l)) (e : Ext w0 w) {S : Nat → Prop} (hS : ∀ b, b < w0.heap.size → S b) : RdS S w v (bvs l) := by
  obtain ⟨A, n, c, h1, h2, h3, h4, h5⟩ := h
  refine ⟨A, n, c, h1, h2, h3, h4, fun h0 => ?_⟩
  obtain ⟨b, o, q1, q2⟩ := h5 h0
  rw [bvs_length] at h2
  have hb := World.block_lt_of_cell? w0 _ (q2 0 _ (bvs_at (by omega)))
  exact ⟨b, o, q1, hS b hb, fun j u hu => (e.cell (p := ⟨b, o + j, none⟩) hb).trans (q2 j u hu)⟩
set_option maxHeartbeats 8000000 in
theorem message_any (s : SE) (vh vc : Value) (w : World) (hr : SeR w s vh vc) : Calls Tryz.prog 24 #[seV s vh vc] w (RetRE w (msgB s) (ckS s)) := by
  obtain ⟨A0, n0, c0, rfl, hn, hnc, hcm, hel⟩ := hr.h.open_
  obtain ⟨Ac, nc, cc0, rfl, hnc', _⟩ := hr.c.bytes
  subst hn hnc'
  unfold maxLen at hcm
  obtain ⟨wz, hwz, ez, TZ⟩ := se_alloc w s (.slice A0 s.hs.length c0) (.slice Ac s.cert.length cc0)
  have EZ := Lib.hid ez
  have HTZ := Lib.hid TZ
  have HR := Lib.hid hr
  have HE := Lib.hid hel
  clear hr ez TZ hel
  unfold seV
  go_enter Tryz.func24, Tryz.ntmps24
  go_wp2_with fail
  rw [← hwz]
  clear hwz
  refine (check16_any s _ _ wz (HR.out.ext EZ.out)).mono ?_
  rintro e ww ⟨rfl, b1⟩
  have X1 := Lib.hid (EZ.out.tr b1)
  have T1 := Lib.hid (HTZ.out.ext b1)
  have hsz := b1.size
  clear b1
  by_cases hc : ckS s = 0
  · have HK := Lib.hid hc
    have HB := Lib.hid (show msgB s = encNs 4 [msgN s] from if_pos hc)
    have HLEN := Lib.hid (msg_len hc)
    have HLH := Lib.hid (ckS_ok hc).2.2.1
    rw [hc]
    clear hc
    obtain ⟨wl, hwl⟩ : ∃ wl, wl = ww.alloc (.cells #[.int .i64 48, .slice none 0 0, .slice none 0 0] 83) := ⟨_, rfl⟩
    have EL : Ext ww wl := by rw [hwl]; exact (Below.refl _ _).alloc (Nat.le_refl _) _
    have L0 := Lib.hid (show C3 wl ww.heap.size (.int .i64 48) (.slice none 0 0) (.slice none 0 0) by rw [hwl]; exact C3.new ww _ _ _)
    have X2 := Lib.hid (X1.out.tr EL)
    have T2 := Lib.hid (T1.out.ext EL)
    have t1 := T2.out.c1
    have tl := T2.out.lt
    have HSZ := Lib.hid (show w.heap.size < ww.heap.size ∧ ww.heap.size < wl.heap.size from ⟨T1.out.lt, L0.out.lt⟩)
    clear EL hsz
    rw [hwl] at t1 tl
    go_wp2_with fail
    rw [← hwl]
    clear hwl t1 tl
    go_loopw [8, 18] (fun _ i wr => ∃ (j : Nat) (A : Option Addr) (n cc : Nat) (xs : List Value), j ≤ s.hs.length ∧ i = .int .i64 (j : Int) ∧ Hid (n = j) ∧ Hid (Ext w wr) ∧ Hid (wl.heap.size ≤ wr.heap.size) ∧ Hid (SeAt wr w.heap.size s (.slice A0 s.hs.length c0) (.slice Ac s.cert.length cc0)) ∧ Hid (C3 wr ww.heap.size (.int .i64 48) (.slice none 0 0) (.slice A n cc)) ∧
      Hid (OwnK wr wl.heap.size 83 3 (.slice A n cc) xs) ∧ Hid (NdCells (fun b => b ≠ ww.heap.size ∧ rowOf (.slice A n cc) ≠ some b) 1 wr xs ((s.hs.take j).map hashN))) (fun _ i _ => s.hs.length - (intOf i).toNat)
    case atStart => exact ⟨0, none, 0, 0, [], Nat.zero_le _, rfl, Lib.hid rfl, X2, Lib.hid (Nat.le_refl _), T2, L0, Lib.hid (OwnK.empty _ _ _ _ _), Lib.hid (by rw [List.take_zero]; exact NdCells.nil _ _ _)⟩
    case round =>
    obtain ⟨j, A, n, cc, xs, hj, rfl, HN, EW, HW, TW, LW, OW, NC⟩ := hrel
    have t1 := TW.out.c1
    have tl := TW.out.lt
    by_cases hlt : j < s.hs.length
    case pos =>
      obtain ⟨x, hx⟩ : ∃ x, s.hs[j]? = some x := ⟨_, List.getElem?_eq_getElem hlt⟩
      obtain ⟨bb, o, rfl, hbl, A1, n1, c1, e0, e1, r1⟩ := HE.out j x hx
      have l0 := (EW.out.cell (p := ⟨bb, o + j * 2, none⟩) hbl).trans e0
      have l1 := (EW.out.cell (p := ⟨bb, o + j * 2 + 1, none⟩) hbl).trans e1
      have R1 := Lib.hid r1
      have HX := Lib.hid hx
      have wi1 : IntKind.i64.wrap ((j : Int)) = (j : Int) := IntWalk.i64_in _ (by omega)
      have zi1 : (0 : Int) ≤ (j : Int) := by omega
      have li1 : (j : Int) < (s.hs.length : Int) := by omega
      have ti1 : ((j : Int)).toNat = j := by omega
      obtain ⟨wk, hwk⟩ : ∃ wk, wr.alloc (.cells #[.int .i64 x.1, .slice A1 n1 c1] 72) = wk := ⟨_, rfl⟩
      have EK : Ext wr wk := by rw [← hwk]; exact (Below.refl _ _).alloc (Nat.le_refl _) _
      have hk2 : wk.heap[wr.heap.size]? = some (.cells #[.int .i64 x.1, .slice A1 n1 c1] 72 (0, 0)) := by rw [← hwk]; exact heap_alloc_new' wr _
      have HK2 := Lib.hid hk2
      clear e0 e1 r1 hx hk2
      go_wp2_with fail
      have OLDS := Lib.hid (show ∀ b, b < w.heap.size → (fun b => b ≠ ww.heap.size ∧ rowOf (.slice A n cc) ≠ some b) b from fun b hb => ⟨by have := HSZ.out; omega, fun h => by have := rowOf_geK OW.out b h; have := HSZ.out; omega⟩)
      have NEWS := Lib.hid (show ∀ b, wk.heap.size ≤ b → (fun b => b ≠ ww.heap.size ∧ rowOf (.slice A n cc) ≠ some b) b from fun b hb => ⟨by have := HSZ.out; have := HW.out; have := EK.size; omega, fun h => by have := rowOf_ltK (OW.out.ext EK) b h; omega⟩)
      clear t1 tl l0 l1 hwk
      refine Gd.wp_region_X 12 (by kernel_rfl) (by kernel_rfl) ?_
      simp only [List.take_succ_cons, List.take_zero, List.drop_succ_cons, List.drop_zero]
      intro w1 hw1
      have LL : ∀ m : Lt w1, Ext wk m.1 := fun m => hw1.tr m.2
      have v0 : ∀ m : Lt w1, m.1.cell? ⟨ww.heap.size, 2, none⟩ = some (.slice A n cc) := fun m => (LW.out.ex (EK.tr (LL m))).cells.2.2.1
      have v1 : ∀ m : Lt w1, m.1.cell? ⟨wr.heap.size, 0, none⟩ = some (.int .i64 x.1) := fun m => by rw [cell_of_row m.1 wr.heap.size 0 _ _ _ (((LL m).block _ (block_lt HK2.out)).trans HK2.out)]; rfl
      have v2 : ∀ m : Lt w1, m.1.cell? ⟨wr.heap.size, 1, none⟩ = some (.slice A1 n1 c1) := fun m => by rw [cell_of_row m.1 wr.heap.size 1 _ _ _ (((LL m).block _ (block_lt HK2.out)).trans HK2.out)]; rfl
      have BB : ∀ m : Lt w1, wk.heap.size ≤ m.1.heap.size := fun m => (LL m).size
      repeat (refine Gd.wpX_pureP rfl fun K hK => ?_; go_big_quiet_op; refine hK _ ?_; clear hK K)
      refine Gd.wpX_callHole (Gd.gR rfl) (NdP (fun b => b ≠ ww.heap.size ∧ rowOf (.slice A n cc) ≠ some b) 0 (leafN 2 [Go.Proofs.YthbpdhanljpigaaGreatDoor.u8 x.1])) (stable_NdP _ _ _) rfl rfl rfl rfl (by kernel_rfl) rfl rfl (fun m => (byteN_any (B := wk.heap.size) x.1 m.1 (BB m)).mono fun _ _ ⟨u, h1, h2, h3⟩ => ⟨u, h1, h2, h3.p NEWS.out⟩) ?_
      simp only [Act.put, List.setIfInBounds_toArray, List.set_cons_zero, List.set_cons_succ]
      repeat (refine Gd.wpX_pureP rfl fun K hK => ?_; go_big_quiet_op; refine hK _ ?_; clear hK K)
      refine Gd.wpX_buildL (Gd.gR rfl) (NdP (fun b => b ≠ ww.heap.size ∧ rowOf (.slice A n cc) ≠ some b) 0 (leafN 4 x.2)) (stable_NdP _ _ _) (fun f => [(0, .int .i64 4), (1, .slice A1 n1 c1)]) rfl rfl rfl rfl rfl (fun f => rfl) (fun m f hf => run_leafP m.1 4 (rdS_old R1.out ((EW.out.tr EK).tr (LL m)) OLDS.out)) ?_
      simp only [Act.put, List.setIfInBounds_toArray, List.set_cons_zero, List.set_cons_succ]
      refine Gd.wpX_buildSL (Gd.gR rfl) (NdsP (fun b => b ≠ ww.heap.size ∧ rowOf (.slice A n cc) ≠ some b) 1 [leafN 2 [Go.Proofs.YthbpdhanljpigaaGreatDoor.u8 x.1], leafN 4 x.2]) (stable_NdsP _ _ _) (fun f => [(0, f 27), (1, f 30)]) rfl rfl rfl rfl rfl (fun f => rfl) (fun m f hf => run_nodes2P m.1 (fun b hb => NEWS.out b (Nat.le_trans (BB m) hb)) (hf 27 _ rfl rfl) (hf 30 _ rfl rfl)) ?_
      simp only [Act.put, List.setIfInBounds_toArray, List.set_cons_zero, List.set_cons_succ]
      refine Gd.wpX_buildL (Gd.gR rfl) (NdP (fun b => b ≠ ww.heap.size ∧ rowOf (.slice A n cc) ≠ some b) 1 (hashN x)) (stable_NdP _ _ _) (fun f => [(0, .int .i64 48), (2, f 31)]) rfl rfl rfl rfl rfl (fun f => rfl) (fun m f hf => run_consP m.1 48 (hf 31 _ rfl rfl)) ?_
      simp only [Act.put, List.setIfInBounds_toArray, List.set_cons_zero, List.set_cons_succ]
      refine Gd.wpX_buildSL (Gd.gR rfl) (OneP (fun b => b ≠ ww.heap.size ∧ rowOf (.slice A n cc) ≠ some b) 1 (hashN x)) (stable_OneP _ _ _) (fun f => [(0, f 32)]) rfl rfl rfl rfl rfl (fun f => rfl) (fun m f hf => run_oneP m.1 (hf 32 _ rfl rfl)) ?_
      simp only [Act.put, List.setIfInBounds_toArray, List.set_cons_zero, List.set_cons_succ]
      refine Gd.wpX_endL (fun m f hf => ?_)
      have h33 := hf 33 _ rfl
      simp only [fillH]
      simp only [Act.put, List.setIfInBounds_toArray, List.set_cons_zero, List.set_cons_succ]
      obtain ⟨P1, p1, q1, P2, p2, q2, g, e33, K, S1, S2⟩ := h33
      rw [e33]
      have Lm := LL m
      obtain ⟨wm, hwm⟩ := m
      clear LL v0 v1 v2 BB hf
      have em := EK.tr Lm
      rw [e33] at K
      have LM := LW.out.ex em
      have OM := OW.out.ext em
      have NM := NC.out.map (S' := fun b => b ≠ ww.heap.size ∧ rowOf (.slice A n cc) ≠ some b) (w' := wm) (fun b hb hbl => ⟨hb, em.block b hbl⟩)
      have hyl := LM.lt
      obtain ⟨y0, y1, y2, yf0, yf1, yf2⟩ := LM.cells
      have hB1 : wl.heap.size ≤ wm.heap.size := Nat.le_trans HW.out em.size
      have HNX := Lib.hid NM.1
      have hts : ((s.hs.take j).map hashN).length < 1000000 := by rw [List.length_map, List.length_take]; have := HLH.out; omega
      show wpList _ _ _ _ _ _
      go_wp2_with (refine appNd (S0 := fun b => b ≠ ww.heap.size) (B := wl.heap.size) (t := hashN x) OM NM K S1 S2 hts hB1 rfl rfl rfl rfl ?_; intro A8 n8 c8 w8 hn8 o8 nc8 g8 hge
                   have y8 : C3 w8 ww.heap.size (.int .i64 48) (.slice none 0 0) (.slice A n cc) := (g8.block _ hyl (fun e => by have := hge _ e.symm; have := HSZ.out; omega)).trans LM
                   have hy8 := y8.lt
                   clear y0 y1 y2 yf0 yf1 yf2
                   obtain ⟨y0, y1, y2, yf0, yf1, yf2⟩ := y8.cells)
      have GL := Gb.set ww.heap.size 2 w8 (.slice A8 n8 c8)
      have e8 : Ext w w8 := (EW.out.tr em).grown g8 (EW.out.tr em).size (fun r hr => by have := hge r hr; have := HSZ.out; omega)
      have hN8 : n8 = j + 1 := by rw [hn8.out, List.length_map, List.length_take]; omega
      have t8 : SeAt w8 w.heap.size s _ _ := (g8.block _ (TW.out.ext em).lt (fun e => by have := hge _ e.symm; have := HSZ.out; omega)).trans (TW.out.ext em)
      go_roundw
      case rel =>
        refine ⟨j + 1, A8, n8, c8, _, by omega, by go_num, Lib.hid hN8, Lib.hid (e8.setCell (p := ⟨ww.heap.size, 2, none⟩) (by have := HSZ.out; show w.heap.size ≤ ww.heap.size; omega) _), Lib.hid (Nat.le_trans hB1 (by have := g8.size; simp; exact this)), Lib.hid ((setCell_block (by have := HSZ.out; omega)).trans t8), Lib.hid (y8.set2 _), Lib.hid (o8.grown GL ?_), Lib.hid ?_⟩
        · cases hq : rowOf (.slice A8 n8 c8) with
          | none => exact .inl rfl
          | some r => exact .inr (fun h => by have := rowOf_geK o8 r hq; have := HSZ.out; injection h with h; omega)
        · rw [take_hash HX.out]
          exact nc8.map fun b hb hbl => ⟨hb, GL.block b hbl (fun h => by injection h with h; exact hb.1 h)⟩
      case measure => simp [intOf]; omega
    case neg =>
    obtain rfl : j = s.hs.length := by omega
    have HLN := Lib.hid (show ∀ W, Ext wr W → NdG 0 2 (.mk 48 [] (s.hs.map hashN)) (.agg #[.int .i64 48, .slice none 0 0, .slice A n cc]) W from fun W e => ⟨_, _, _, _, _, _, rfl, RdS.nil _, by
      have h := NC.out
      rw [List.take_length] at h
      exact (NdsS.mk OW.out h (fun b _ => Nat.zero_le b) (fun b _ => Nat.zero_le b) : NdsS (fun b => 0 ≤ b) 2 wr (.slice A n cc) _).map fun b hb hbl => ⟨hb, e.block b hbl⟩⟩)
    go_wp2_with fail
    clear t1 tl
    refine Gd.wp_region_X 13 (by kernel_rfl) (by kernel_rfl) ?_
    simp only [List.take_succ_cons, List.take_zero, List.drop_succ_cons, List.drop_zero]
    intro w1 hw1
    have LL : ∀ m : Lt w1, Ext wr m.1 := fun m => hw1.tr m.2
    have v0 : ∀ m : Lt w1, m.1.cell? ⟨w.heap.size, 0, none⟩ = some (.int .i64 s.v) := fun m => (TW.out.ext (LL m)).c0
    have v1 : ∀ m : Lt w1, m.1.cell? ⟨ww.heap.size, 0, none⟩ = some (.int .i64 48) := fun m => (LW.out.ex (LL m)).cells.1
    have v2 : ∀ m : Lt w1, m.1.cell? ⟨ww.heap.size, 1, none⟩ = some (.slice none 0 0) := fun m => (LW.out.ex (LL m)).cells.2.1
    have v3 : ∀ m : Lt w1, m.1.cell? ⟨ww.heap.size, 2, none⟩ = some (.slice A n cc) := fun m => (LW.out.ex (LL m)).cells.2.2.1
    repeat (refine Gd.wpX_pureP rfl fun K hK => ?_; go_big_quiet_op; refine hK _ ?_; clear hK K)
    refine Gd.wpX_callHole (Gd.gR rfl) (NdG 0 2 (leafN 2 [Go.Proofs.YthbpdhanljpigaaGreatDoor.u8 s.v])) (stable_NdG _ _ _) rfl rfl rfl rfl (by kernel_rfl) rfl rfl (fun m => byteN_any (B := 0) s.v m.1 (Nat.zero_le _)) ?_
    simp only [Act.put, List.setIfInBounds_toArray, List.set_cons_zero, List.set_cons_succ]
    repeat (refine Gd.wpX_pureP rfl fun K hK => ?_; go_big_quiet_op; refine hK _ ?_; clear hK K)
    refine Gd.wpX_buildSL (Gd.gR rfl) (NdsG 0 3 (msgN s).kids) (stable_NdsG _ _ _) (fun f => [(0, f 40), (1, .agg #[.int .i64 48, .slice none 0 0, .slice A n cc])]) rfl rfl rfl rfl rfl (fun f => rfl) (fun m f hf => run_nodes2 m.1 (Nat.zero_le _) (hf 40 _ rfl rfl) (HLN.out m.1 (LL m))) ?_
    simp only [Act.put, List.setIfInBounds_toArray, List.set_cons_zero, List.set_cons_succ]
    refine Gd.wpX_buildL (Gd.gR rfl) (NdG 0 3 (msgN s)) (stable_NdG _ _ _) (fun f => [(0, .int .i64 48), (2, f 42)]) rfl rfl rfl rfl rfl (fun f => rfl) (fun m f hf => run_cons m.1 48 (hf 42 _ rfl rfl)) ?_
    simp only [Act.put, List.setIfInBounds_toArray, List.set_cons_zero, List.set_cons_succ]
    refine Gd.wpX_buildSL (Gd.gR rfl) (NdsG 0 4 [msgN s]) (stable_NdsG _ _ _) (fun f => [(0, f 43)]) rfl rfl rfl rfl rfl (fun f => rfl) (fun m f hf => run_nodes1 m.1 (Nat.zero_le _) (hf 43 _ rfl rfl)) ?_
    simp only [Act.put, List.setIfInBounds_toArray, List.set_cons_zero, List.set_cons_succ]
    refine Gd.wpX_callF (Gd.gR rfl) (PBm (encNs 4 [msgN s])) (stable_PBm _) (fun f => [f 44]) rfl rfl rfl rfl rfl (by kernel_rfl) rfl (fun f => rfl) (fun m f hf => pbm_of (encode_ok (d := 4) (ts := [msgN s]) m.1 (ok_msgN s) (NdsS.rd (hf 44 _ rfl rfl)) (by omega) HLEN.out.2 (Nat.le_trans HLEN.out.1 (by omega)))) ?_
    simp only [Act.put, List.setIfInBounds_toArray, List.set_cons_zero, List.set_cons_succ]
    refine Gd.wpX_extL (Gd.gR rfl) (GBm (encNs 4 [msgN s])) (stable_GBm _) (fun f => f 45) rfl rfl rfl rfl rfl (fun f => rfl) (fun m f hf => run_pbm0 (hf 45 _ rfl rfl)) ?_
    simp only [Act.put, List.setIfInBounds_toArray, List.set_cons_zero, List.set_cons_succ]
    refine Gd.wpX_extL (Gd.gR rfl) (fun v _ => v = .int .i64 0) (fun _ _ _ _ h => h) (fun f => f 45) rfl rfl rfl rfl rfl (fun f => rfl) (fun m f hf => run_pbm1 (hf 45 _ rfl rfl)) ?_
    simp only [Act.put, List.setIfInBounds_toArray, List.set_cons_zero, List.set_cons_succ]
    refine Gd.wpX_asgL (Gd.gR rfl) (GBm (encNs 4 [msgN s])) (stable_GBm _) (fun f => f 46) rfl rfl rfl rfl rfl (fun f => rfl) (fun m f hf => hf 46 _ rfl rfl) ?_
    simp only [Act.put, List.setIfInBounds_toArray, List.set_cons_zero, List.set_cons_succ]
    refine Gd.wpX_asgL (Gd.gR rfl) (fun v _ => v = .int .i64 0) (fun _ _ _ _ h => h) (fun f => f 47) rfl rfl rfl rfl rfl (fun f => rfl) (fun m f hf => hf 47 _ rfl rfl) ?_
    simp only [Act.put, List.setIfInBounds_toArray, List.set_cons_zero, List.set_cons_succ]
    refine Gd.wpX_endL (fun m f hf => ?_)
    obtain ⟨P1, p1, q1, e2, hn1, k1⟩ := hf 2 (GBm (encNs 4 [msgN s])) rfl
    have e3 := hf 3 (fun v _ => v = .int .i64 0) rfl
    simp only [fillH]
    simp only [Act.put, List.setIfInBounds_toArray, List.set_cons_zero, List.set_cons_succ]
    rw [e2, e3]
    have K1 := Lib.hid k1
    have Lm := LL m
    have xm := EW.out.tr Lm
    obtain ⟨wy, hwy⟩ := m
    clear LL v0 v1 v2 v3 hf e2 e3 k1
    show wpList _ _ _ _ _ _
    go_wp2_with fail
    go_ret2
    rw [HB.out, HK.out]
    exact ⟨_, _, _, rfl, hn1, K1.out, xm⟩
  · have hb : (ckS s != 0) = true := by simpa using hc
    have HB := Lib.hid (show msgB s = [] from if_neg hc)
    clear hc
    go_wp2_with fail
    go_ret2
    rw [HB.out]
    exact ⟨_, _, _, rfl, (show _ = _ from rfl), Rd.nil_ _, X1.out⟩
end Go.Proofs.YthbpdhanljpigaaGreatDoor
namespace Go.Proofs.YthbpdhanljpigaaGreatDoor
open Go.RowKit
set_option linter.unusedVariables false
set_option maxRecDepth 100000
theorem leaf02 {B d : Nat} (W : World) (t : Int) {v : Value} {l : List UInt8} (hB : B ≤ W.heap.size) (h : Rd W v (bvs l)) (hl : l.length ≤ 140737488355328) : Calls Tryz.prog 60 #[.int .i64 t, v] W fun e w'' => ∃ v', e = .returned v' ∧ Ext W w'' ∧ NdG B d (leafN t l) v' w'' := prim02_any t W hB h hl
theorem cons02P {S : Nat → Prop} {d : Nat} (W : World) (t : Int) {v : Value} {ts : List Nd} (h : NdsP S d ts v W) : Calls Tryz.prog 59 #[.int .i64 t, v] W fun e w'' => ∃ v', e = .returned v' ∧ Ext W w'' ∧ NdP S d (.mk t [] ts) v' w'' := by
  obtain ⟨A, n, c, rfl⟩ := NdsS.slice h
  exact (cons02_any t A n c W).mono fun e w'' ⟨h1, h2⟩ => ⟨_, h1, h2, _, _, _, _, _, _, rfl, RdS.nil _, h.map fun b hb hlt => ⟨hb, h2.block b hlt⟩⟩
theorem cons02G {B d : Nat} (W : World) (t : Int) {v : Value} {ts : List Nd} (h : NdsG B d ts v W) : Calls Tryz.prog 59 #[.int .i64 t, v] W fun e w'' => ∃ v', e = .returned v' ∧ Ext W w'' ∧ NdG B d (.mk t [] ts) v' w'' := by
  obtain ⟨A, n, c, rfl⟩ := NdsS.slice h
  exact (cons02_any t A n c W).mono fun e w'' ⟨h1, h2⟩ => ⟨_, h1, h2, _, _, _, _, _, _, rfl, RdS.nil _, h.map fun b hb hlt => ⟨hb, h2.block b hlt⟩⟩
/-- A leaf whose bytes lie in a fresh row, as an object by value. -/
theorem leaf02P {S : Nat → Prop} {d : Nat} (W : World) (t : Int) {v : Value} {l : List UInt8} (hS : ∀ b, W.heap.size ≤ b → S b) (h : Rd W v (bvs l)) (hl : l.length ≤ 140737488355328) : Calls Tryz.prog 60 #[.int .i64 t, v] W fun e w'' => ∃ v', e = .returned v' ∧ Ext W w'' ∧ NdP S d (leafN t l) v' w'' :=
  (prim02_any (B := W.heap.size) t W (Nat.le_refl _) h hl).mono fun _ _ ⟨u, h1, h2, h3⟩ => ⟨u, h1, h2, h3.p hS⟩
set_option maxHeartbeats 8000000 in
theorem refmessage_any (s : SE) (vh vc : Value) (w : World) (hr : SeR w s vh vc) : Calls Tryz.prog 25 #[seV s vh vc] w (RetRE w (msgB s) (ckS s)) := by
  obtain ⟨A0, n0, c0, rfl, hn, hnc, hcm, hel⟩ := hr.h.open_
  obtain ⟨Ac, nc, cc0, rfl, hnc', _⟩ := hr.c.bytes
  subst hn hnc'
  unfold maxLen at hcm
  obtain ⟨wz, hwz, ez, TZ⟩ := se_alloc w s (.slice A0 s.hs.length c0) (.slice Ac s.cert.length cc0)
  have EZ := Lib.hid ez
  have HTZ := Lib.hid TZ
  have HR := Lib.hid hr
  have HE := Lib.hid hel
  clear hr ez TZ hel
  unfold seV
  go_enter Tryz.func25, Tryz.ntmps25
  go_wp2_with fail
  rw [← hwz]
  clear hwz
  refine (refhashes_any s _ _ wz (HR.out.ext EZ.out)).mono ?_
  rintro e ww ⟨rfl, b1⟩
  have X1 := Lib.hid (EZ.out.tr b1)
  have T1 := Lib.hid (HTZ.out.ext b1)
  clear b1
  by_cases hc : ckS s = 0
  · have HK := Lib.hid hc
    have HB := Lib.hid (show msgB s = encNs 4 [msgN s] from if_pos hc)
    have HLEN := Lib.hid (msg_len hc)
    have HLH := Lib.hid (ckS_ok hc).2.2.1
    have HBY := Lib.hid (ckS_ok hc)
    rw [hc]
    clear hc
    go_wp2_with fail
    have hz0 := Lib.hid (show w.heap.size < ww.heap.size from T1.out.lt)
    go_loopw [5, 6] (fun v i wr => ∃ (j : Nat) (A : Option Addr) (n cc : Nat) (xs : List Value), j ≤ s.hs.length ∧ v = .slice A n cc ∧ i = .int .i64 (j : Int) ∧ Hid (n = j) ∧ Hid (Ext w wr) ∧ Hid (ww.heap.size ≤ wr.heap.size) ∧ Hid (SeAt wr w.heap.size s (.slice A0 s.hs.length c0) (.slice Ac s.cert.length cc0)) ∧
      Hid (OwnK wr ww.heap.size 83 3 (.slice A n cc) xs) ∧ Hid (NdCells (fun b => rowOf (.slice A n cc) ≠ some b) 1 wr xs ((s.hs.take j).map hashN))) (fun _ i _ => s.hs.length - (intOf i).toNat)
    case atStart => exact ⟨0, none, 0, 0, [], Nat.zero_le _, rfl, rfl, Lib.hid rfl, X1, Lib.hid (Nat.le_refl _), T1, Lib.hid (OwnK.empty _ _ _ _ _), Lib.hid (by rw [List.take_zero]; exact NdCells.nil _ _ _)⟩
    case round =>
    obtain ⟨j, A, n, cc, xs, hj, rfl, rfl, HN, EW, HW, TW, OW, NC⟩ := hrel
    have t1 := TW.out.c1
    have tl := TW.out.lt
    by_cases hlt : j < s.hs.length
    case pos =>
      obtain ⟨x, hx⟩ : ∃ x, s.hs[j]? = some x := ⟨_, List.getElem?_eq_getElem hlt⟩
      obtain ⟨bb, o, rfl, hbl, A1, n1, c1, e0, e1, r1⟩ := HE.out j x hx
      have l0 := (EW.out.cell (p := ⟨bb, o + j * 2, none⟩) hbl).trans e0
      have l1 := (EW.out.cell (p := ⟨bb, o + j * 2 + 1, none⟩) hbl).trans e1
      have R1 := Lib.hid r1
      have HX := Lib.hid hx
      have HXL := Lib.hid (show x.2.length ≤ 140737488355328 by have := (HBY.out.2.2.2 x (List.mem_of_getElem? hx)).2; omega)
      have wi1 : IntKind.i64.wrap ((j : Int)) = (j : Int) := IntWalk.i64_in _ (by omega)
      have zi1 : (0 : Int) ≤ (j : Int) := by omega
      have li1 : (j : Int) < (s.hs.length : Int) := by omega
      have ti1 : ((j : Int)).toNat = j := by omega
      clear e0 e1 r1 hx
      go_wp2_with fail
      have NEWS := Lib.hid (show ∀ b, wr.heap.size ≤ b → (fun b => rowOf (.slice A n cc) ≠ some b) b from fun b hb h => by have := rowOf_ltK OW.out b h; omega)
      refine Gd.wp_region_X 20 (by kernel_rfl) (by kernel_rfl) ?_
      simp only [List.take_succ_cons, List.take_zero, List.drop_succ_cons, List.drop_zero]
      intro w1 hw1
      have LL : ∀ m : Lt w1, Ext wr m.1 := fun m => hw1.tr m.2
      have v0 : ∀ m : Lt w1, m.1.cell? ⟨w.heap.size, 1, none⟩ = some (.slice (some ⟨bb, o, none⟩) s.hs.length c0) := fun m => (TW.out.ext (LL m)).c1
      have v1 : ∀ m : Lt w1, m.1.cell? ⟨bb, o + j * 2, none⟩ = some (.int .i64 x.1) := fun m => ((LL m).cell (p := ⟨bb, o + j * 2, none⟩) (Nat.lt_of_lt_of_le hbl EW.out.size)).trans l0
      have v2 : ∀ m : Lt w1, m.1.cell? ⟨bb, o + j * 2 + 1, none⟩ = some (.slice A1 n1 c1) := fun m => ((LL m).cell (p := ⟨bb, o + j * 2 + 1, none⟩) (Nat.lt_of_lt_of_le hbl EW.out.size)).trans l1
      have BB : ∀ m : Lt w1, wr.heap.size ≤ m.1.heap.size := fun m => (LL m).size
      have hu := fun W => run_conv_u8 x.1 W
      clear t1 tl l0 l1
      repeat (refine Gd.wpX_pureP rfl fun K hK => ?_; go_big_quiet_op; refine hK _ ?_; clear hK K)
      refine Gd.wpX_buildSL (Gd.gR rfl) (GS 0 [Go.Proofs.YthbpdhanljpigaaGreatDoor.u8 (x.1)]) (stable_GS _ _) (fun _ => [(0, .int .u8 (x.1 % 256))]) rfl rfl rfl rfl rfl (fun _ => rfl) (fun m f hf => ⟨_, _, (by go_simp : (Instr.buildSlice 26 1 [(0, .int .u8 (x.1 % 256))].toArray).run Tryz.prog m.1 = .ok (.slice (some ⟨m.1.heap.size, 0, none⟩) 1 1) (m.1.alloc (.cells #[.int .u8 (x.1 % 256)] 5))), (Below.refl _ _).alloc (Nat.le_refl _) _, gs_lit m.1 (Nat.zero_le _) _ [Go.Proofs.YthbpdhanljpigaaGreatDoor.u8 (x.1)] 1 rfl (by omega) (by simp [bvs, bv_u8])⟩) ?_
      simp only [Act.put, List.setIfInBounds_toArray, List.set_cons_zero, List.set_cons_succ]
      refine Gd.wpX_callF (Gd.gR rfl) (NdP (fun b => rowOf (.slice A n cc) ≠ some b) 0 (leafN 2 [Go.Proofs.YthbpdhanljpigaaGreatDoor.u8 x.1])) (stable_NdP _ _ _) (fun f => [.int .i64 2, f 27]) rfl rfl rfl rfl rfl (by kernel_rfl) rfl (fun f => rfl) (fun m f hf => leaf02P m.1 2 (fun b hb => NEWS.out b (Nat.le_trans (BB m) hb)) (RdS.rd (hf 27 _ rfl rfl)) (by simp)) ?_
      simp only [Act.put, List.setIfInBounds_toArray, List.set_cons_zero, List.set_cons_succ]
      repeat (refine Gd.wpX_pureP rfl fun K hK => ?_; go_big_quiet_op; refine hK _ ?_; clear hK K)
      refine Gd.wpX_callF (Gd.gR rfl) (NdP (fun b => rowOf (.slice A n cc) ≠ some b) 0 (leafN 4 x.2)) (stable_NdP _ _ _) (fun f => [.int .i64 4, .slice A1 n1 c1]) rfl rfl rfl rfl rfl (by kernel_rfl) rfl (fun f => rfl) (fun m f hf => leaf02P m.1 4 (fun b hb => NEWS.out b (Nat.le_trans (BB m) hb)) (R1.out.ext (EW.out.tr (LL m))) HXL.out) ?_
      simp only [Act.put, List.setIfInBounds_toArray, List.set_cons_zero, List.set_cons_succ]
      refine Gd.wpX_buildSL (Gd.gR rfl) (NdsP (fun b => rowOf (.slice A n cc) ≠ some b) 1 [leafN 2 [Go.Proofs.YthbpdhanljpigaaGreatDoor.u8 x.1], leafN 4 x.2]) (stable_NdsP _ _ _) (fun f => [(0, f 28), (1, f 35)]) rfl rfl rfl rfl rfl (fun f => rfl) (fun m f hf => run_nodes2P m.1 (fun b hb => NEWS.out b (Nat.le_trans (BB m) hb)) (hf 28 _ rfl rfl) (hf 35 _ rfl rfl)) ?_
      simp only [Act.put, List.setIfInBounds_toArray, List.set_cons_zero, List.set_cons_succ]
      refine Gd.wpX_callF (Gd.gR rfl) (NdP (fun b => rowOf (.slice A n cc) ≠ some b) 1 (hashN x)) (stable_NdP _ _ _) (fun f => [.int .i64 48, f 36]) rfl rfl rfl rfl rfl (by kernel_rfl) rfl (fun f => rfl) (fun m f hf => cons02P m.1 48 (hf 36 _ rfl rfl)) ?_
      simp only [Act.put, List.setIfInBounds_toArray, List.set_cons_zero, List.set_cons_succ]
      refine Gd.wpX_buildSL (Gd.gR rfl) (OneP (fun b => rowOf (.slice A n cc) ≠ some b) 1 (hashN x)) (stable_OneP _ _ _) (fun f => [(0, f 37)]) rfl rfl rfl rfl rfl (fun f => rfl) (fun m f hf => run_oneP m.1 (hf 37 _ rfl rfl)) ?_
      simp only [Act.put, List.setIfInBounds_toArray, List.set_cons_zero, List.set_cons_succ]
      refine Gd.wpX_endL (fun m f hf => ?_)
      have h38 := hf 38 _ rfl
      simp only [fillH]
      simp only [Act.put, List.setIfInBounds_toArray, List.set_cons_zero, List.set_cons_succ]
      obtain ⟨P1, p1, q1, P2, p2, q2, g, e38, K, S1, S2⟩ := h38
      rw [e38]
      have em := LL m
      obtain ⟨wm, hwm⟩ := m
      clear LL v0 v1 v2 BB hf
      rw [e38] at K
      have OM := OW.out.ext em
      have NM := NC.out.map (S' := (fun b => rowOf (.slice A n cc) ≠ some b)) (w' := wm) (fun b hb hbl => ⟨hb, em.block b hbl⟩)
      have hB1 : ww.heap.size ≤ wm.heap.size := Nat.le_trans HW.out em.size
      have hts : ((s.hs.take j).map hashN).length < 1000000 := by rw [List.length_map, List.length_take]; have := HLH.out; omega
      show wpList _ _ _ _ _ _
      go_wp2_with (refine appNd (S0 := fun _ => True) (B := ww.heap.size) (t := hashN x) OM (NM.map fun b hb _ => ⟨⟨trivial, hb⟩, rfl⟩) K (S1.map fun b hb _ => ⟨⟨trivial, hb⟩, rfl⟩) (S2.map fun b hb _ => ⟨⟨trivial, hb⟩, rfl⟩) hts hB1 rfl rfl rfl rfl ?_; intro A8 n8 c8 w8 hn8 o8 nc8 g8 hge)
      have e8 : Ext w w8 := (EW.out.tr em).grown g8 (EW.out.tr em).size (fun r hr => by have := hge r hr; have := hz0.out; omega)
      have hN8 : n8 = j + 1 := by rw [hn8.out, List.length_map, List.length_take]; omega
      have t8 : SeAt w8 w.heap.size s _ _ := (g8.block _ (TW.out.ext em).lt (fun e => by have := hge _ e.symm; have := hz0.out; omega)).trans (TW.out.ext em)
      have hB8 : ww.heap.size ≤ w8.heap.size := Nat.le_trans hB1 g8.size
      go_roundw
      case rel =>
        refine ⟨j + 1, A8, n8, c8, _, by omega, rfl, by go_num, Lib.hid hN8, Lib.hid e8, Lib.hid hB8, Lib.hid t8, Lib.hid o8, Lib.hid ?_⟩
        rw [take_hash HX.out]
        exact nc8.map fun b hb _ => ⟨hb.2, rfl⟩
      case measure => simp [intOf]; omega
    case neg =>
    obtain rfl : j = s.hs.length := by omega
    have HLN := Lib.hid (show ∀ W, Ext wr W → NdsG 0 2 (s.hs.map hashN) (.slice A n cc) W from fun W e => by
      have h := NC.out
      rw [List.take_length] at h
      exact (NdsS.mk OW.out h (fun b _ => Nat.zero_le b) (fun b _ => Nat.zero_le b) : NdsS (fun b => 0 ≤ b) 2 wr (.slice A n cc) _).map fun b hb hbl => ⟨hb, e.block b hbl⟩)
    have q0 := TW.out.c0
    have HB0 := Lib.hid (show ∀ W : World, 0 ≤ W.heap.size from fun W => Nat.zero_le _)
    obtain ⟨wb, hwb⟩ : ∃ wb, wr.alloc (.cells #[.int .u8 (s.v % 256)] 5) = wb := ⟨_, rfl⟩
    have xb : Ext wr wb := by rw [← hwb]; exact (Below.refl _ _).alloc (Nat.le_refl _) _
    have GB := Lib.hid (show GS 0 [u8 s.v] (.slice (some ⟨wr.heap.size, 0, none⟩) 1 1) wb by rw [← hwb]; exact gs_lit wr (Nat.zero_le _) _ [u8 s.v] 1 rfl (by omega) (by simp [bvs, bv_u8]))
    have hu := fun W => run_conv_u8 s.v W
    have XB := Lib.hid xb
    clear xb
    go_wp2_with fail
    clear hu hwb q0 t1 tl
    refine (leaf02 (B := 0) (d := 2) wb 2 (Nat.zero_le _) (RdS.rd GB.out) (by simp)).mono ?_
    rintro e w5 ⟨uw5, rfl, b5, A1, n1, c1, A2, n2, c2, hv, r1, k1⟩
    obtain rfl : uw5 = .agg #[.int .i64 2, .slice A1 n1 c1, .slice A2 n2 c2] := hv
    have N5 := Lib.hid (show NdG 0 2 (leafN 2 [u8 s.v]) (.agg #[.int .i64 2, .slice A1 n1 c1, .slice A2 n2 c2]) w5 from ⟨_, _, _, _, _, _, rfl, r1, k1⟩)
    have X5 := Lib.hid (XB.out.tr b5)
    clear b5 r1 k1
    go_wp2_with fail
    refine (cons02G (B := 0) w5 48 (HLN.out w5 X5.out)).mono ?_
    rintro e w6 ⟨uw6, rfl, b6, B1, m1, d1, B2, m2, d2, hv, s1, j1⟩
    obtain rfl : uw6 = .agg #[.int .i64 48, .slice B1 m1 d1, .slice B2 m2 d2] := hv
    have N6 := Lib.hid (show NdG 0 2 (.mk 48 [] (s.hs.map hashN)) (.agg #[.int .i64 48, .slice B1 m1 d1, .slice B2 m2 d2]) w6 from ⟨_, _, _, _, _, _, rfl, s1, j1⟩)
    have N5' := Lib.hid (stable_NdG _ _ _ _ _ _ b6 N5.out)
    have X6 := Lib.hid (X5.out.tr b6)
    clear b6 s1 j1
    obtain ⟨v7, w7, R7, b7, N7⟩ := run_nodes2 w6 (Nat.zero_le _) N5'.out N6.out
    obtain ⟨A7, n7, c7, rfl⟩ := NdsS.slice N7
    have HN7 := Lib.hid N7
    have X7 := Lib.hid (X6.out.tr b7)
    have HR7 := Lib.hid R7
    rw [run_bs2] at R7
    injection R7 with R7a R7
    injection R7a with R7b R7c R7d
    subst R7c R7d
    rw [← R7b] at HN7
    clear N7 b7 R7b HR7
    go_wp2_with fail
    refine (cons02G (B := 0) w7 48 HN7.out).mono ?_
    rintro e w8 ⟨uw8, rfl, b8, C1, k1, g1, C2, k2, g2, hv, s1, j1⟩
    obtain rfl : uw8 = .agg #[.int .i64 48, .slice C1 k1 g1, .slice C2 k2 g2] := hv
    have N8 := Lib.hid (show NdG 0 3 (msgN s) (.agg #[.int .i64 48, .slice C1 k1 g1, .slice C2 k2 g2]) w8 from ⟨_, _, _, _, _, _, rfl, s1, j1⟩)
    have X8 := Lib.hid (X7.out.tr b8)
    clear b8 s1 j1 R7
    obtain ⟨v9, w9, R9, b9, N9⟩ := run_nodes1 w8 (Nat.zero_le _) N8.out
    obtain ⟨A9, n9, c9, rfl⟩ := NdsS.slice N9
    have HN9 := Lib.hid N9
    have X9 := Lib.hid (X8.out.tr b9)
    rw [run_bs1] at R9
    injection R9 with R9a R9
    injection R9a with R9b R9c R9d
    subst R9c R9d
    rw [← R9b] at HN9
    clear N9 b9 R9b
    go_wp2_with fail
    refine (refencode_ok (d := 4) (ts := [msgN s]) w9 (ok_msgN s) (NdsS.rd HN9.out) (by omega) HLEN.out.2 (Nat.le_trans HLEN.out.1 (by omega))).mono ?_
    rintro e wy ⟨P1, p1, q1, rfl, hn1, k1, xy⟩
    have K1 := Lib.hid k1.rd
    have xm := EW.out.tr (X9.out.tr xy)
    clear k1 xy R9
    go_wp2_with fail
    go_ret2
    rw [HB.out, HK.out]
    exact ⟨_, _, _, rfl, hn1, K1.out, xm⟩
  · have hb : (ckS s != 0) = true := by simpa using hc
    have HB := Lib.hid (show msgB s = [] from if_neg hc)
    clear hc
    go_wp2_with fail
    go_ret2
    rw [HB.out]
    exact ⟨_, _, _, rfl, (show _ = _ from rfl), Rd.nil_ _, X1.out⟩
end Go.Proofs.YthbpdhanljpigaaGreatDoor
namespace Go.Proofs.YthbpdhanljpigaaGreatDoor
open Go.RowKit
set_option linter.unusedVariables false
set_option maxRecDepth 100000
set_option maxHeartbeats 2000000 in
theorem refopen_any {a : Value} {l : List UInt8} (w : World) (ha : Rd w a (bvs l)) (hl : l.length ≤ 140737488355328) (G : GTab w 0) : Calls Tryz.prog 45 #[a] w (OpnQ w (opnX l)) := by
  have HP := Lib.hid (refparseq_any false w ha)
  have HG := Lib.hid (fun W (e : Ext w W) => G.ext e)
  obtain ⟨A, n, c, rfl, hn, _⟩ := ha.bytes
  subst hn
  obtain ⟨r, hr⟩ : ∃ r, opnX l = r := ⟨_, rfl⟩
  rw [hr]
  have HR := Lib.hid hr
  clear ha hl G hr
  go_enter Tryz.func45, Tryz.ntmps45
  go_wp2_with fail
  refine HP.out.mono ?_
  rintro en w2 ⟨e2, hx⟩
  rcases hx with ⟨A', n', c', k, hn, hk, rfl⟩ | ⟨ts, A', n', c', hn, rfl, nd⟩
  · have hk2 : (k != 0) = true := by simpa using hk
    have HN := Lib.hid (HR.out.symm.trans (opn_err hn))
    clear hn
    go_wp2_with fail
    go_ret3
    exact ⟨e2, .inl ⟨_, _, _, _, k, HN.out, hk, rfl⟩⟩
  · obtain ⟨A2, n2, c2, e, hn2, hnc, hcm, hel⟩ := nd.open_
    injection e with e1 e2' e3
    subst e1 e2' e3
    unfold maxLen at hcm
    have HPX := Lib.hid hn
    have HN2 := Lib.hid hn2
    clear hn nd hn2
    by_cases h1 : n' = 1
    · obtain ⟨t, rfl⟩ := one_of (HN2.out.symm.trans h1)
      obtain ⟨d', hd', b, o, rfl, hbl, A1, n1, c1, A3, n3, c3, f0, f1, f2, r1, r2⟩ := hel 0 t rfl
      simp only [Nat.zero_mul, Nat.add_zero] at f0 f1 f2
      obtain rfl : d' = 7 := by omega
      subst h1
      have R2 := Lib.hid r2
      clear r1 r2 hel hd'
      go_wp2_with fail
      refine (refgroup_any t.tag w2 (HG.out _ e2)).mono ?_
      rintro en w3 ⟨rfl, rfl⟩
      by_cases hg : grpX t.tag = 0
      · have HN := Lib.hid (HR.out.symm.trans (opn_tag HPX.out hg))
        rw [grpE_none hg]
        clear hg
        go_wp2_with fail
        go_ret3
        exact ⟨e2, .inl ⟨_, _, _, _, 4, HN.out, by decide, rfl⟩⟩
      · have HN := Lib.hid (HR.out.symm.trans (opn_ok HPX.out hg))
        rw [show grpE t.tag = 0 from if_neg hg]
        clear hg
        go_wp2_with (go_quiet (fail))
        go_ret3
        exact ⟨e2.tr (Ext.drewN_ _ _), .inr ⟨_, _, _, _, _, HN.out, rfl, R2.out.ext (Ext.drewN_ _ _)⟩⟩
    · have hb : ((n' : Int) != 1) = true := by simp; omega
      have HN := Lib.hid (HR.out.symm.trans (opn_many HPX.out (fun h => h1 (HN2.out.trans h))))
      clear h1 hel
      go_wp2_with fail
      go_ret3
      exact ⟨e2, .inl ⟨_, _, _, _, 1, HN.out, by decide, rfl⟩⟩
set_option maxHeartbeats 2000000 in
theorem traveldocref15_wrap {d : Nat} {v : Value} {ks : List Nd} (k : Nat) (z : Int) (hz : z = (k : Int) + 1) (w : World) (hk : k < 18) (G : GTab w 0) (hr : NdsRd d w v ks) (hok : okNs (d + 1) [.mk (grpT.getD k 0) [] ks]) (hd : d + 1 ≤ 8) (hc : cntNs (d + 1) [.mk (grpT.getD k 0) [] ks] ≤ 256) (hl : (encNs (d + 1) [.mk (grpT.getD k 0) [] ks]).length ≤ 4096) :
    Calls Tryz.prog 65 #[.int .i64 z, v] w (RetBE w (encNs (d + 1) [.mk (grpT.getD k 0) [] ks]) 0) := by
  have HT := Lib.hid (traveldocref15_tag k z hz w hk G)
  have HO := Lib.hid hok
  have HC := Lib.hid hc
  have HL := Lib.hid hl
  have HR := Lib.hid hr
  obtain ⟨A, n, c, rfl⟩ := NdsS.slice hr.s0
  generalize grpT.getD k 0 = t at *
  clear G hz hok hc hl hr
  go_enter Tryz.func65, Tryz.ntmps65
  go_wp2_with fail
  refine HT.out.mono ?_
  rintro e w1 ⟨rfl, rfl⟩
  go_wp2_with fail
  refine (cons02_any t _ _ _ w).mono ?_
  rintro e w2 ⟨rfl, b2⟩
  go_wp2_with fail
  refine (refencode_ok (d := d + 1) (ts := [.mk t [] ks]) _ HO.out (nds_top (HR.out.ext b2)) hd HC.out HL.out).mono ?_
  rintro e w4 ⟨A', n', cc, rfl, hn', o, b4⟩
  go_wp2_with fail
  go_ret2
  exact ⟨_, _, _, rfl, hn', o.mono (by have := b2.size; simp; omega), b2.tr (Ext.tr ((Below.refl _ _).alloc (Nat.le_refl _) _) b4)⟩
end Go.Proofs.YthbpdhanljpigaaGreatDoor
namespace Go.Proofs.YthbpdhanljpigaaGreatDoor
open Go.RowKit
set_option linter.unusedVariables false
set_option maxRecDepth 100000
theorem run_bs3 (W : World) (z0 : Int) (a0 b0 : Option Addr) (n0 c0 m0 d0 : Nat) (z1 : Int) (a1 b1 : Option Addr) (n1 c1 m1 d1 : Nat) (z2 : Int) (a2 b2 : Option Addr) (n2 c2 m2 d2 : Nat) : (Instr.buildSlice 66 3 [(0, .agg #[.int .i64 z0, .slice a0 n0 c0, .slice b0 m0 d0]), (1, .agg #[.int .i64 z1, .slice a1 n1 c1, .slice b1 m1 d1]), (2, .agg #[.int .i64 z2, .slice a2 n2 c2, .slice b2 m2 d2])].toArray).run Tryz.prog W = .ok (.slice (some ⟨W.heap.size, 0, none⟩) 3 3) (W.alloc (.cells #[.int .i64 z0, .slice a0 n0 c0, .slice b0 m0 d0, .int .i64 z1, .slice a1 n1 c1, .slice b1 m1 d1, .int .i64 z2, .slice a2 n2 c2, .slice b2 m2 d2] 83)) := by go_simp
theorem run_nodes3 {B d : Nat} (W : World) (hB : B ≤ W.heap.size) {v0 v1 v2 : Value} {t0 t1 t2 : Nd} (h0 : NdG B d t0 v0 W) (h1 : NdG B d t1 v1 W) (h2 : NdG B d t2 v2 W) : ∃ v' w'', (Instr.buildSlice 66 3 [(0, v0), (1, v1), (2, v2)].toArray).run Tryz.prog W = .ok v' w'' ∧ Ext W w'' ∧ NdsG B (d + 1) [t0, t1, t2] v' w'' := by
  obtain ⟨a0, n0, c0, b0, m0, d0, rfl, r0, k0⟩ := h0
  obtain ⟨a1, n1, c1, b1, m1, d1, rfl, r1, k1⟩ := h1
  obtain ⟨a2, n2, c2, b2, m2, d2, rfl, r2, k2⟩ := h2
  have e : Ext W (W.alloc (.cells #[.int .i64 t0.tag, .slice a0 n0 c0, .slice b0 m0 d0, .int .i64 t1.tag, .slice a1 n1 c1, .slice b1 m1 d1, .int .i64 t2.tag, .slice a2 n2 c2, .slice b2 m2 d2] 83)) := (Below.refl _ _).alloc (Nat.le_refl _) _
  have ho := OwnK.lit W 3 #[.int .i64 t0.tag, .slice a0 n0 c0, .slice b0 m0 d0, .int .i64 t1.tag, .slice a1 n1 c1, .slice b1 m1 d1, .int .i64 t2.tag, .slice a2 n2 c2, .slice b2 m2 d2] 83 3 rfl (by unfold maxLen; omega)
  exact ⟨_, _, run_bs3 W t0.tag a0 b0 n0 c0 m0 d0 t1.tag a1 b1 n1 c1 m1 d1 t2.tag a2 b2 n2 c2 m2 d2, e, NdsS.mk ho (((((NdCells.nil (fun b => B ≤ b) d W).snoc r0 k0).snoc r1 k1).snoc r2 k2).map fun b hb hlt => ⟨hb, e.block b hlt⟩) (fun b hb => hb) (fun b hb => Nat.le_trans hB hb)⟩
/-- The list of an object: its three leaves. -/
def lstN (s : SE) : Nd := .mk 48 [] [leafN 4 (encNs 4 [msgN s]), leafN 4 s.cert, leafN 4 (encB s.e s.s)]
theorem filB_ok {s : SE} (h : vdS s = 0) : filB s = encNs 3 [.mk (grpT.getD 17 0) [] [lstN s]] := if_pos h
theorem obj_ok3 (s : SE) : okNs (2 + 1) [.mk (grpT.getD 17 0) [] [lstN s]] := ok_objN s
theorem obj_len3 {s : SE} (h : vdS s = 0) : (encNs (2 + 1) [.mk (grpT.getD 17 0) [] [lstN s]]).length ≤ 4096 ∧ cntNs (2 + 1) [.mk (grpT.getD 17 0) [] [lstN s]] ≤ 256 := obj_len h
theorem cell_of_block {w w' : World} {b : Nat} (h : w'.heap[b]? = w.heap[b]?) {i : Nat} : w'.cell? ⟨b, i, none⟩ = w.cell? ⟨b, i, none⟩ := by
  unfold World.cell?
  simp only [h]
theorem take_leaf {ls : List (List UInt8)} {j : Nat} {x : List UInt8} (h : ls[j]? = some x) : (ls.take (j + 1)).map (leafN 4) = (ls.take j).map (leafN 4) ++ [leafN 4 x] := by
  obtain ⟨hj, rfl⟩ := List.getElem?_eq_some_iff.1 h
  rw [List.take_succ_eq_append_getElem hj, List.map_append]
  rfl
set_option maxHeartbeats 8000000 in
theorem refencode16_any (s : SE) (vh vc : Value) (w : World) (hr : SeR w s vh vc) (G : GTab w 0) : Calls Tryz.prog 27 #[seV s vh vc] w (RetRE w (filB s) (vdS s)) := by
  obtain ⟨A0, n0, c0, rfl, hn, hnc, hcm, hel⟩ := hr.h.open_
  obtain ⟨Ac, nc, cc0, rfl, hnc', _⟩ := hr.c.bytes
  subst hn hnc'
  clear hnc hcm hel
  obtain ⟨wz, hwz, ez, TZ⟩ := se_alloc w s (.slice A0 s.hs.length c0) (.slice Ac s.cert.length cc0)
  have EZ := Lib.hid ez
  have HTZ := Lib.hid TZ
  have HR := Lib.hid hr
  have HG := Lib.hid G
  clear hr ez TZ G
  have hv := valid16R_any s (.slice A0 s.hs.length c0) (.slice Ac s.cert.length cc0) wz (HR.out.ext EZ.out)
  have HV := Lib.hid hv
  clear hv
  unfold seV
  go_enter Tryz.func27, Tryz.ntmps27
  go_wp2_with fail
  rw [← hwz]
  clear hwz
  refine HV.out.mono ?_
  rintro e ww ⟨rfl, b1⟩
  have X1 := Lib.hid (EZ.out.tr b1)
  have T1 := Lib.hid (HTZ.out.ext b1)
  clear b1
  by_cases hc : vdS s = 0
  case neg =>
    have hb : (vdS s != 0) = true := by simpa using hc
    have HB := Lib.hid (show filB s = [] from if_neg hc)
    clear hc
    go_wp2_with fail
    go_ret2
    rw [HB.out]
    exact ⟨_, _, _, rfl, (show _ = _ from rfl), Rd.nil_ _, X1.out⟩
  have HK := Lib.hid hc
  have HO := Lib.hid (vdS_ok hc)
  have HB := Lib.hid (filB_ok hc)
  have HL := Lib.hid (obj_len3 hc)
  have HM := Lib.hid (show msgB s = encNs 4 [msgN s] from if_pos (vdS_ok hc).1)
  rw [hc]
  clear hc
  have z0 := T1.out.c0
  have z1 := T1.out.c1
  have z2 := T1.out.c2
  have z3 := T1.out.c3
  have z4 := T1.out.c4
  go_wp2_with fail
  clear z0 z1 z2 z3 z4
  refine (refmessage_any s _ _ ww (HR.out.ext X1.out)).mono ?_
  rintro e w2 ⟨P1, p1, q1, rfl, hn1, k1, b2⟩
  rw [HM.out] at k1 hn1
  have HN1 := Lib.hid hn1.out
  have K1 := Lib.hid k1
  have X2 := Lib.hid (X1.out.tr b2)
  have T2 := Lib.hid (T1.out.ext b2)
  have a3 := T2.out.c3
  have a4 := T2.out.c4
  clear b2 k1 hn1
  go_wp2_with fail
  refine (refenc_any s.e s.s w2).mono ?_
  rintro e w3 ⟨P2, p2, q2, rfl, hn2, k2, b3⟩
  have K2 := Lib.hid k2
  have K1' := Lib.hid (K1.out.ext b3)
  have X3 := Lib.hid (X2.out.tr b3)
  have T3 := Lib.hid (T2.out.ext b3)
  have HC3 := Lib.hid (HR.out.c.ext X3.out)
  clear b3 k2 hn2 a3 a4
  have HLS := Lib.hid (show (encNs 4 [msgN s]).length ≤ 140737488355328 ∧ s.cert.length ≤ 140737488355328 ∧ (encB s.e s.s).length ≤ 140737488355328 from ⟨by have := (msg_len HO.out.1).1; omega, by have := HO.out.2.2.1; omega, by have := encB_len8 (e := s.e) (s := s.s); omega⟩)
  rw [show encK s.e s.s = 0 from HO.out.2.2.2]
  go_wp2_with fail
  refine Gd.wp_region_X 15 (by kernel_rfl) (by kernel_rfl) ?_
  simp only [List.take_succ_cons, List.take_zero, List.drop_succ_cons, List.drop_zero]
  intro w1 hw1
  have LL : ∀ m : Lt w1, Ext w3 m.1 := fun m => hw1.tr m.2
  have v0 : ∀ m : Lt w1, m.1.cell? ⟨w.heap.size, 2, none⟩ = some (.slice Ac s.cert.length cc0) := fun m => (T3.out.ext (LL m)).c2
  repeat (refine Gd.wpX_pureP rfl fun K hK => ?_; go_big_quiet_op; refine hK _ ?_; clear hK K)
  refine Gd.wpX_callF (Gd.gR rfl) (NdG 0 0 (leafN 4 (encNs 4 [msgN s]))) (stable_NdG _ _ _) (fun f => [.int .i64 4, .slice P1 p1 q1]) rfl rfl rfl rfl rfl (by kernel_rfl) rfl (fun f => rfl) (fun m f hf => leaf02 m.1 4 (Nat.zero_le _) (K1'.out.ext (LL m)) HLS.out.1) ?_
  simp only [Act.put, List.setIfInBounds_toArray, List.set_cons_zero, List.set_cons_succ]
  repeat (refine Gd.wpX_pureP rfl fun K hK => ?_; go_big_quiet_op; refine hK _ ?_; clear hK K)
  refine Gd.wpX_callF (Gd.gR rfl) (NdG 0 0 (leafN 4 s.cert)) (stable_NdG _ _ _) (fun f => [.int .i64 4, .slice Ac s.cert.length cc0]) rfl rfl rfl rfl rfl (by kernel_rfl) rfl (fun f => rfl) (fun m f hf => leaf02 m.1 4 (Nat.zero_le _) (HC3.out.ext (LL m)) HLS.out.2.1) ?_
  simp only [Act.put, List.setIfInBounds_toArray, List.set_cons_zero, List.set_cons_succ]
  repeat (refine Gd.wpX_pureP rfl fun K hK => ?_; go_big_quiet_op; refine hK _ ?_; clear hK K)
  refine Gd.wpX_callF (Gd.gR rfl) (NdG 0 0 (leafN 4 (encB s.e s.s))) (stable_NdG _ _ _) (fun f => [.int .i64 4, .slice P2 p2 q2]) rfl rfl rfl rfl rfl (by kernel_rfl) rfl (fun f => rfl) (fun m f hf => leaf02 m.1 4 (Nat.zero_le _) (K2.out.ext (LL m)) HLS.out.2.2) ?_
  simp only [Act.put, List.setIfInBounds_toArray, List.set_cons_zero, List.set_cons_succ]
  refine Gd.wpX_buildSL (Gd.gR rfl) (NdsG 0 1 (lstN s).kids) (stable_NdsG _ _ _) (fun f => [(0, f 26), (1, f 29), (2, f 31)]) rfl rfl rfl rfl rfl (fun f => rfl) (fun m f hf => run_nodes3 m.1 (Nat.zero_le _) (hf 26 _ rfl rfl) (hf 29 _ rfl rfl) (hf 31 _ rfl rfl)) ?_
  simp only [Act.put, List.setIfInBounds_toArray, List.set_cons_zero, List.set_cons_succ]
  refine Gd.wpX_callF (Gd.gR rfl) (NdG 0 1 (lstN s)) (stable_NdG _ _ _) (fun f => [.int .i64 48, f 32]) rfl rfl rfl rfl rfl (by kernel_rfl) rfl (fun f => rfl) (fun m f hf => cons02G m.1 48 (hf 32 _ rfl rfl)) ?_
  simp only [Act.put, List.setIfInBounds_toArray, List.set_cons_zero, List.set_cons_succ]
  refine Gd.wpX_buildSL (Gd.gR rfl) (NdsG 0 2 [lstN s]) (stable_NdsG _ _ _) (fun f => [(0, f 33)]) rfl rfl rfl rfl rfl (fun f => rfl) (fun m f hf => run_nodes1 m.1 (Nat.zero_le _) (hf 33 _ rfl rfl)) ?_
  simp only [Act.put, List.setIfInBounds_toArray, List.set_cons_zero, List.set_cons_succ]
  refine Gd.wpX_callF (Gd.gR rfl) (PBm (encNs 3 [.mk (grpT.getD 17 0) [] [lstN s]])) (stable_PBm _) (fun f => [.int .i64 18, f 34]) rfl rfl rfl rfl rfl (by kernel_rfl) rfl (fun f => rfl) (fun m f hf => pbm_of (traveldocref15_wrap (d := 2) 17 18 (by decide) m.1 (by decide) (HG.out.ext (X3.out.tr (LL m))) (NdsS.rd (hf 34 _ rfl rfl)) (obj_ok3 s) (by decide) HL.out.2 HL.out.1)) ?_
  simp only [Act.put, List.setIfInBounds_toArray, List.set_cons_zero, List.set_cons_succ]
  refine Gd.wpX_extL (Gd.gR rfl) (GBm (encNs 3 [.mk (grpT.getD 17 0) [] [lstN s]])) (stable_GBm _) (fun f => f 35) rfl rfl rfl rfl rfl (fun f => rfl) (fun m f hf => run_pbm0 (hf 35 _ rfl rfl)) ?_
  simp only [Act.put, List.setIfInBounds_toArray, List.set_cons_zero, List.set_cons_succ]
  refine Gd.wpX_extL (Gd.gR rfl) (fun v _ => v = .int .i64 0) (fun _ _ _ _ h => h) (fun f => f 35) rfl rfl rfl rfl rfl (fun f => rfl) (fun m f hf => run_pbm1 (hf 35 _ rfl rfl)) ?_
  simp only [Act.put, List.setIfInBounds_toArray, List.set_cons_zero, List.set_cons_succ]
  refine Gd.wpX_asgL (Gd.gR rfl) (GBm (encNs 3 [.mk (grpT.getD 17 0) [] [lstN s]])) (stable_GBm _) (fun f => f 36) rfl rfl rfl rfl rfl (fun f => rfl) (fun m f hf => hf 36 _ rfl rfl) ?_
  simp only [Act.put, List.setIfInBounds_toArray, List.set_cons_zero, List.set_cons_succ]
  refine Gd.wpX_asgL (Gd.gR rfl) (fun v _ => v = .int .i64 0) (fun _ _ _ _ h => h) (fun f => f 37) rfl rfl rfl rfl rfl (fun f => rfl) (fun m f hf => hf 37 _ rfl rfl) ?_
  simp only [Act.put, List.setIfInBounds_toArray, List.set_cons_zero, List.set_cons_succ]
  refine Gd.wpX_endL (fun m f hf => ?_)
  obtain ⟨P5, p5, q5, e2, hn1, k1⟩ := hf 2 (GBm (encNs 3 [.mk (grpT.getD 17 0) [] [lstN s]])) rfl
  have e3 := hf 3 (fun v _ => v = .int .i64 0) rfl
  simp only [fillH]
  simp only [Act.put, List.setIfInBounds_toArray, List.set_cons_zero, List.set_cons_succ]
  rw [e2, e3]
  have K5 := Lib.hid k1
  have Lm := LL m
  have xm := X3.out.tr Lm
  obtain ⟨wy, hwy⟩ := m
  clear LL v0 hf e2 e3 k1
  show wpList _ _ _ _ _ _
  go_wp2_with fail
  go_ret2
  rw [HB.out, HK.out]
  exact ⟨_, _, _, rfl, hn1, K5.out, xm⟩
end Go.Proofs.YthbpdhanljpigaaGreatDoor
namespace Go.Proofs.YthbpdhanljpigaaGreatDoor
open Go.RowKit
set_option linter.unusedVariables false
set_option maxRecDepth 100000
set_option maxHeartbeats 8000000 in
theorem encode16_any (s : SE) (vh vc : Value) (w : World) (hr : SeR w s vh vc) (G : GTab w 1) : Calls Tryz.prog 26 #[seV s vh vc] w (RetRE w (filB s) (vdS s)) := by
  obtain ⟨A0, n0, c0, rfl, hn, hnc, hcm, hel⟩ := hr.h.open_
  obtain ⟨Ac, nc, cc0, rfl, hnc', _⟩ := hr.c.bytes
  subst hn hnc'
  clear hnc hcm hel
  obtain ⟨wz, hwz, ez, TZ⟩ := se_alloc w s (.slice A0 s.hs.length c0) (.slice Ac s.cert.length cc0)
  have EZ := Lib.hid ez
  have HTZ := Lib.hid TZ
  have HR := Lib.hid hr
  have HG := Lib.hid G
  clear hr ez TZ G
  have hv := valid16P_any s (.slice A0 s.hs.length c0) (.slice Ac s.cert.length cc0) wz (HR.out.ext EZ.out)
  have HV := Lib.hid hv
  clear hv
  unfold seV
  go_enter Tryz.func26, Tryz.ntmps26
  go_wp2_with fail
  rw [← hwz]
  clear hwz
  refine HV.out.mono ?_
  rintro e ww ⟨rfl, b1⟩
  have X1 := Lib.hid (EZ.out.tr b1)
  have T1 := Lib.hid (HTZ.out.ext b1)
  clear b1
  by_cases hc : vdS s = 0
  case neg =>
    have hb : (vdS s != 0) = true := by simpa using hc
    have HB := Lib.hid (show filB s = [] from if_neg hc)
    clear hc
    go_wp2_with fail
    go_ret2
    rw [HB.out]
    exact ⟨_, _, _, rfl, (show _ = _ from rfl), Rd.nil_ _, X1.out⟩
  have HK := Lib.hid hc
  have HO := Lib.hid (vdS_ok hc)
  have HB := Lib.hid (filB_ok hc)
  have HL := Lib.hid (obj_len3 hc)
  have HM := Lib.hid (show msgB s = encNs 4 [msgN s] from if_pos (vdS_ok hc).1)
  rw [hc]
  clear hc
  have z0 := T1.out.c0
  have z1 := T1.out.c1
  have z2 := T1.out.c2
  have z3 := T1.out.c3
  have z4 := T1.out.c4
  go_wp2_with fail
  clear z0 z1 z2 z3 z4
  refine (message_any s _ _ ww (HR.out.ext X1.out)).mono ?_
  rintro e w2 ⟨P1, p1, q1, rfl, hn1, k1, b2⟩
  rw [HM.out] at k1 hn1
  have HN1 := Lib.hid hn1.out
  have K1 := Lib.hid k1
  have X2 := Lib.hid (X1.out.tr b2)
  have T2 := Lib.hid (T1.out.ext b2)
  have a3 := T2.out.c3
  have a4 := T2.out.c4
  clear b2 k1 hn1
  go_wp2_with fail
  refine (enc_any s.e s.s w2).mono ?_
  rintro e w3 ⟨P2, p2, q2, rfl, hn2, k2, b3⟩
  have K2 := Lib.hid k2
  have K1' := Lib.hid (K1.out.ext b3)
  have X3 := Lib.hid (X2.out.tr b3)
  have T3 := Lib.hid (T2.out.ext b3)
  have HC3 := Lib.hid (HR.out.c.ext X3.out)
  clear b3 k2 hn2 a3 a4
  obtain ⟨w4, hw4⟩ : ∃ w4, w4 = w3.alloc (.cells #[.int .i64 48, .slice none 0 0, .slice none 0 0] 83) := ⟨_, rfl⟩
  have E4 : Ext w3 w4 := by rw [hw4]; exact (Below.refl _ _).alloc (Nat.le_refl _) _
  have L4 : C3 w4 w3.heap.size (.int .i64 48) (.slice none 0 0) (.slice none 0 0) := by rw [hw4]; exact C3.new w3 _ _ _
  have hs4 : w4.heap.size = w3.heap.size + 1 := by rw [hw4]; simp
  obtain ⟨wd, hwd⟩ : ∃ wd, wd = w4.alloc (.cells #[.slice P1 p1 q1, .slice Ac s.cert.length cc0, .slice P2 p2 q2] 26) := ⟨_, rfl⟩
  have ED : Ext w4 wd := by rw [hwd]; exact (Below.refl _ _).alloc (Nat.le_refl _) _
  have RW := Lib.hid (show wd.heap[w3.heap.size + 1]? = some (.cells #[.slice P1 p1 q1, .slice Ac s.cert.length cc0, .slice P2 p2 q2] 26 (0, 0)) by rw [hwd, ← hs4]; exact heap_alloc_new' w4 _)
  have LD := Lib.hid (L4.ex ED)
  have XD := Lib.hid (X3.out.tr (E4.tr ED))
  have E3D := Lib.hid (E4.tr ED)
  have TD := Lib.hid (T3.out.ext (E4.tr ED))
  have HSZ := Lib.hid (show w.heap.size < w3.heap.size ∧ w3.heap.size + 1 < wd.heap.size from ⟨T3.out.lt, block_lt RW.out⟩)
  have HV := Lib.hid (show ∀ j, j < 3 → ∃ A1 n1 c1 l, [encNs 4 [msgN s], s.cert, encB s.e s.s][j]? = some l ∧ wd.cell? ⟨w3.heap.size + 1, j, none⟩ = some (.slice A1 n1 c1) ∧ Rd w3 (.slice A1 n1 c1) (bvs l) from fun j hj => by
    match j, hj with
    | 0, _ => exact ⟨_, _, _, _, rfl, by rw [cell_of_row wd (w3.heap.size + 1) 0 _ _ _ RW.out]; rfl, K1'.out⟩
    | 1, _ => exact ⟨_, _, _, _, rfl, by rw [cell_of_row wd (w3.heap.size + 1) 1 _ _ _ RW.out]; rfl, HC3.out⟩
    | 2, _ => exact ⟨_, _, _, _, rfl, by rw [cell_of_row wd (w3.heap.size + 1) 2 _ _ _ RW.out]; rfl, K2.out⟩)
  have t2 := (T3.out.ext E4).c2
  have tl := (T3.out.ext E4).lt
  rw [hw4] at hwd t2 tl
  clear hw4 E4 ED L4 hs4 RW
  rw [show encK s.e s.s = 0 from HO.out.2.2.2]
  go_wp2_with fail
  rw [← hwd]
  clear hwd t2 tl
  go_loopw [11, 35] (fun _ i wr => ∃ (j : Nat) (A : Option Addr) (n cc : Nat) (xs : List Value), j ≤ 3 ∧ i = .int .i64 (j : Int) ∧ Hid (n = j) ∧ Hid (Ext wd wr ∨ wd.heap.size ≤ wr.heap.size) ∧ Hid (Ext w wr) ∧ Hid (wd.heap.size ≤ wr.heap.size) ∧ Hid (∀ b, b < wd.heap.size → b ≠ w3.heap.size → wr.heap[b]? = wd.heap[b]?) ∧ Hid (C3 wr w3.heap.size (.int .i64 48) (.slice none 0 0) (.slice A n cc)) ∧
      Hid (OwnK wr wd.heap.size 83 3 (.slice A n cc) xs) ∧ Hid (NdCells (fun b => b ≠ w3.heap.size ∧ rowOf (.slice A n cc) ≠ some b) 0 wr xs (([encNs 4 [msgN s], s.cert, encB s.e s.s].take j).map (leafN 4)))) (fun _ i _ => 3 - (intOf i).toNat)
  case atStart => exact ⟨0, none, 0, 0, [], by omega, rfl, Lib.hid rfl, Lib.hid (.inr (Nat.le_refl _)), XD, Lib.hid (Nat.le_refl _), Lib.hid (fun _ _ _ => rfl), LD, Lib.hid (OwnK.empty _ _ _ _ _), Lib.hid (NdCells.nil _ _ _)⟩
  case round =>
  obtain ⟨j, A, n, cc, xs, hj, rfl, HN, _, EW, HW, OLD, LW, OW, NC⟩ := hrel
  by_cases hlt : j < 3
  case pos =>
    obtain ⟨A1, n1, c1, l, hx, e0, r1⟩ := HV.out j hlt
    have hgl : w3.heap.size + 1 < wr.heap.size := by have := HSZ.out; have := HW.out; omega
    have l0 : wr.cell? ⟨w3.heap.size + 1, j, none⟩ = some (.slice A1 n1 c1) := by
      rw [← e0]; exact cell_of_block (OLD.out _ HSZ.out.2 (by omega))
    have R1 := Lib.hid r1
    have HX := Lib.hid hx
    have wi1 : IntKind.i64.wrap ((j : Int)) = (j : Int) := IntWalk.i64_in _ (by omega)
    have zi1 : (0 : Int) ≤ (j : Int) := by omega
    have li1 : (j : Int) < (3 : Int) := by omega
    have ti1 : ((j : Int)).toNat = j := by omega
    obtain ⟨wk, hwk⟩ : ∃ wk, wr.alloc (.cells #[.int .i64 4, .slice A1 n1 c1, .slice none 0 0] 83) = wk := ⟨_, rfl⟩
    have EK : Ext wr wk := by rw [← hwk]; exact (Below.refl _ _).alloc (Nat.le_refl _) _
    have K : RdK wk 3 (.slice (some ⟨wr.heap.size, 0, none⟩) 1 1) [.int .i64 4, .slice A1 n1 c1, .slice none 0 0] := by rw [← hwk]; exact RdK.lit wr 3 #[.int .i64 4, .slice A1 n1 c1, .slice none 0 0] _ 1 rfl (by unfold maxLen; omega)
    have LM := LW.out.ex EK
    have OM := OW.out.ext EK
    have NM := NC.out.map (S' := fun b => b ≠ w3.heap.size ∧ rowOf (.slice A n cc) ≠ some b) (w' := wk) (fun b hb hbl => ⟨hb, EK.block b hbl⟩)
    have hyl := LM.lt
    obtain ⟨y0, y1, y2, yf0, yf1, yf2⟩ := LM.cells
    obtain ⟨x0, x1, x2, xf0, xf1, xf2⟩ := LW.out.cells
    have hB1 : wd.heap.size ≤ wk.heap.size := Nat.le_trans HW.out EK.size
    have S1 : RdS (fun b => b ≠ w3.heap.size ∧ rowOf (.slice A n cc) ≠ some b) wk (.slice A1 n1 c1) (bvs (leafN 4 l).val) := by
      obtain ⟨A', n', c', h1, h2, h3, h4, h5⟩ := R1.out
      refine ⟨A', n', c', h1, h2, h3, h4, fun h0 => ?_⟩
      obtain ⟨b, o, q1, q2⟩ := h5 h0
      rw [bvs_length] at h2
      have hb := World.block_lt_of_cell? w3 _ (q2 0 _ (bvs_at (by omega)))
      refine ⟨b, o, q1, ⟨by show b ≠ _; have : b < w3.heap.size := hb; omega, fun h => by have := rowOf_geK OW.out b h; have := HSZ.out; have : b < w3.heap.size := hb; omega⟩, fun i u hu => ?_⟩
      rw [← q2 i u hu]
      have hb : b < w3.heap.size := hb
      exact cell_of_block ((EK.block b (by omega)).trans ((OLD.out b (by have := HSZ.out; omega) (by omega)).trans (E3D.out.block b hb)))
    have hts : ((([encNs 4 [msgN s], s.cert, encB s.e s.s].take j).map (leafN 4))).length < 1000000 := by rw [List.length_map, List.length_take]; simp; omega
    go_wp2_with (refine appNd (S0 := fun b => b ≠ w3.heap.size) (B := wd.heap.size) (t := leafN 4 l) OM NM K S1 (NdsS.nil _ _) hts hB1 rfl rfl rfl rfl ?_; intro A8 n8 c8 w8 hn8 o8 nc8 g8 hge
                 have y8 : C3 w8 w3.heap.size (.int .i64 48) (.slice none 0 0) (.slice A n cc) := (g8.block _ hyl (fun e => by have := hge _ e.symm; have := HSZ.out; omega)).trans LM
                 have hy8 := y8.lt
                 clear y0 y1 y2 yf0 yf1 yf2
                 obtain ⟨y0, y1, y2, yf0, yf1, yf2⟩ := y8.cells)
    have GL := Gb.set w3.heap.size 2 w8 (.slice A8 n8 c8)
    have e8 : Ext w w8 := (EW.out.tr EK).grown g8 (EW.out.tr EK).size (fun r hr => by have := hge r hr; have := HSZ.out; omega)
    have hN8 : n8 = j + 1 := by rw [hn8.out, List.length_map, List.length_take]; simp; omega
    have hB8 : wd.heap.size ≤ w8.heap.size := Nat.le_trans hB1 g8.size
    go_roundw
    case rel =>
      refine ⟨j + 1, A8, n8, c8, _, by omega, by go_num, Lib.hid hN8, Lib.hid (.inr (by simp; exact hB8)), Lib.hid (e8.setCell (p := ⟨w3.heap.size, 2, none⟩) (by have := HSZ.out; show w.heap.size ≤ w3.heap.size; omega) _), Lib.hid (by simp; exact hB8), Lib.hid (fun b hb hne => (GL.block b (Nat.lt_of_lt_of_le hb hB8) (fun h => by injection h with h; exact hne h)).trans ((g8.block b (Nat.lt_of_lt_of_le hb hB1) (fun e => by have := hge _ e.symm; omega)).trans ((EK.block b (Nat.lt_of_lt_of_le hb HW.out)).trans (OLD.out b hb hne)))), Lib.hid (y8.set2 _), Lib.hid (o8.grown GL ?_), Lib.hid ?_⟩
      · cases hq : rowOf (.slice A8 n8 c8) with
        | none => exact .inl rfl
        | some r => exact .inr (fun h => by have := rowOf_geK o8 r hq; have := HSZ.out; injection h with h; omega)
      · rw [take_leaf HX.out]
        exact nc8.map fun b hb hbl => ⟨hb, GL.block b hbl (fun h => by injection h with h; exact hb.1 h)⟩
    case measure => simp [intOf]; omega
  case neg =>
  obtain rfl : j = 3 := by omega
  obtain ⟨x0, x1, x2, xf0, xf1, xf2⟩ := LW.out.cells
  have hn3 : n = 3 := HN.out
  subst hn3
  have NL : NdG 0 1 (lstN s) (.agg #[.int .i64 48, .slice none 0 0, .slice A 3 cc]) wr := ⟨_, _, _, _, _, _, rfl, RdS.nil _, NdsS.mk OW.out NC.out (fun b _ => Nat.zero_le b) (fun b _ => Nat.zero_le b)⟩
  obtain ⟨v9, w9, R9, b9, N9⟩ := run_nodes1 wr (Nat.zero_le _) NL
  obtain ⟨A9, n9, c9, rfl⟩ := NdsS.slice N9
  have HN9 := Lib.hid N9
  have X9 := Lib.hid (EW.out.tr b9)
  rw [run_bs1] at R9
  injection R9 with R9a R9
  injection R9a with R9b R9c R9d
  subst R9c R9d
  rw [← R9b] at HN9
  clear N9 b9 R9b NL
  go_wp2_with fail
  refine (datagroups_wrap (d := 2) 17 18 (by decide) w9 (by decide) (HG.out.ext X9.out) (NdsS.rd HN9.out) (obj_ok3 s) (by decide) HL.out.2 HL.out.1).mono ?_
  rintro e wy ⟨P1, p1, q1, rfl, hn1, k1, xy⟩
  have K1 := Lib.hid k1.rd
  have xm := X9.out.tr xy
  clear k1 xy R9
  go_wp2_with fail
  go_ret2
  rw [HB.out, HK.out]
  exact ⟨_, _, _, rfl, hn1, K1.out, xm⟩
end Go.Proofs.YthbpdhanljpigaaGreatDoor
namespace Go.Proofs.YthbpdhanljpigaaGreatDoor
open Go.RowKit
set_option linter.unusedVariables false
set_option maxRecDepth 100000
theorem cnt_com : cntNs 2 [comN] ≤ 256 := by decide +kernel
theorem len_com : (encNs 2 [comN]).length ≤ 4096 := by
  have h := comB_eq
  unfold comB at h
  rw [h]; decide
theorem rd_mark (w : World) (cs : Array Value) (e : TypeId) (fr : Nat × Nat) (n : Nat) (hn : n = cs.size) (hm : n ≤ maxLen) : Rd (w.alloc (.cells cs e fr)) (.slice (some ⟨w.heap.size, 0, none⟩) n n) cs.toList := by
  refine ⟨_, n, n, rfl, by simpa using hn, Nat.le_refl _, hm, fun _ => ⟨_, 0, rfl, fun j u hu => ?_⟩⟩
  rw [Nat.zero_add, cell_of_row _ _ j cs e fr (heap_alloc_new w _)]
  simpa using hu
set_option maxHeartbeats 8000000 in
theorem refcommon1_any {v : Value} (w : World) (hv : RdI w .i64 v [1]) (G : GTab w 0) : Calls Tryz.prog 38 #[v] w (RetBE w comB 0) := by
  obtain ⟨A0, n0, c0, rfl, hn0, hnc0, hcm0, hc0⟩ := hv.ints
  obtain rfl : n0 = 1 := hn0
  obtain ⟨b0, o0, rfl, hbl, hcell⟩ := hc0 (by omega)
  have z0 := hcell 0 (by omega)
  rw [Nat.add_zero] at z0
  change w.cell? ⟨b0, o0, none⟩ = some (.int .i64 1) at z0
  have CU := Lib.hid (show ∀ W, Ext w W → W.cell? ⟨b0, o0, none⟩ = some (.int .i64 1) from fun W e => (e.cell (p := ⟨b0, o0, none⟩) hbl).trans z0)
  have HG := Lib.hid (fun W (e : Ext w W) => (G.ext e : GTab W _))
  unfold maxLen at hcm0
  clear hcell hc0 hv G z0 hbl
  go_enter Tryz.func38, Tryz.ntmps38
  go_wp2_with fail
  go_loopw [4, 5, 6] (fun v t i wr => Hid (Ext w wr) ∧ ((v = .slice none 0 0 ∧ t = .int .i64 0 ∧ i = .int .i64 0) ∨ (∃ A n c, v = .slice A n c ∧ t = .int .i64 1 ∧ i = .int .i64 1 ∧ Hid (Rd wr (.slice A n c) (bvs [97]))))) (fun _ _ i _ => 1 - (intOf i).toNat)
  case atStart => exact ⟨Lib.hid (Below.refl _ _), .inl ⟨rfl, rfl, rfl⟩⟩
  case round =>
  obtain ⟨E, ⟨rfl, rfl, rfl⟩ | ⟨A, n, c, rfl, rfl, rfl, HR⟩⟩ := hrel
  case inl =>
    have u0 := CU.out wr E.out
    have t0 : wr.cell? ⟨0, 0, none⟩ = some (.int .i64 97) := HG.out wr E.out 0 (by decide)
    obtain ⟨w2, hw2⟩ : ∃ w2, wr.alloc (.cells #[.int .u8 97] 5) = w2 := ⟨_, rfl⟩
    have x2 : Ext wr w2 := by rw [← hw2]; exact (Below.refl _ _).alloc (Nat.le_refl _) _
    have R2 := Lib.hid (show Rd w2 (.slice (some ⟨wr.heap.size, 0, none⟩) 1 1) (bvs [97]) by rw [← hw2]; exact Rd.lit wr #[.int .u8 97] 5 1 rfl (by unfold maxLen; omega))
    have E2 := Lib.hid (E.out.tr x2)
    clear x2
    go_wp2_with (refine appR (w0 := w2) (xs := []) (ys := [97]) (Own.nil_ w2 w2.heap.size _) R2.out (Below.refl _ _) (by simp) (Nat.le_refl _) rfl rfl rfl rfl ?_; intro A8 n8 c8 w8 hn8 o8 b8 _ _)
    go_roundw
    case rel => exact ⟨Lib.hid (E2.out.tr b8), .inr ⟨A8, n8, c8, rfl, rfl, rfl, Lib.hid o8.rd⟩⟩
    case measure => simp [intOf]
  case inr =>
  obtain ⟨w2, hw2⟩ : ∃ w2, wr.alloc (.cells #[.int .u8 48, .int .u8 49, .int .u8 48, .int .u8 56] 5 (4, 5)) = w2 := ⟨_, rfl⟩
  have kc2 : (convert 26 26 (.slice (some ⟨wr.heap.size, 0, none⟩) 4 4)).run Tryz.prog (wr.alloc (.cells #[.int .u8 48, .int .u8 49, .int .u8 48, .int .u8 56] 5)) = .ok (.slice (some ⟨wr.heap.size, 0, none⟩) 4 4) w2 := by
    rw [← hw2]
    exact Lib.run_convert_bytes_const (P := Tryz.prog) wr 26 5 #[.int .u8 48, .int .u8 49, .int .u8 48, .int .u8 56] 4 4 Tryz.underlying26 Tryz.underlying5
  have x2 : Ext wr w2 := by rw [← hw2]; exact (Below.refl _ _).alloc (Nat.le_refl _) _
  have R2 := Lib.hid (show Rd w2 (.slice (some ⟨wr.heap.size, 0, none⟩) 4 4) (bvs [48, 49, 48, 56]) by rw [← hw2]; exact rd_mark wr #[.int .u8 48, .int .u8 49, .int .u8 48, .int .u8 56] 5 _ 4 rfl (by unfold maxLen; omega))
  have E2 := Lib.hid (E.out.tr x2)
  have H2 := Lib.hid (HR.out.ext x2)
  clear x2
  go_wp2_with fail
  refine (leaf02 (B := 0) (d := 0) w2 24321 (Nat.zero_le _) R2.out (by simp)).mono ?_
  rintro e w3 ⟨uu3, rfl, b3, A3, n3, c3, P3, m3, d3, hv, r1, k1⟩
  obtain rfl : uu3 = .agg #[.int .i64 24321, .slice A3 n3 c3, .slice P3 m3 d3] := hv
  have N3 := Lib.hid (show NdG 0 0 (leafN 24321 [48, 49, 48, 56]) (.agg #[.int .i64 24321, .slice A3 n3 c3, .slice P3 m3 d3]) w3 from ⟨_, _, _, _, _, _, rfl, r1, k1⟩)
  have E3 := Lib.hid (E2.out.tr b3)
  have H3 := Lib.hid (H2.out.ext b3)
  clear b3 r1 k1 hw2 kc2
  obtain ⟨w4, hw4⟩ : ∃ w4, w3.alloc (.cells #[.int .u8 48, .int .u8 52, .int .u8 48, .int .u8 48, .int .u8 48, .int .u8 48] 5 (6, 7)) = w4 := ⟨_, rfl⟩
  have kc4 : (convert 26 26 (.slice (some ⟨w3.heap.size, 0, none⟩) 6 6)).run Tryz.prog (w3.alloc (.cells #[.int .u8 48, .int .u8 52, .int .u8 48, .int .u8 48, .int .u8 48, .int .u8 48] 5)) = .ok (.slice (some ⟨w3.heap.size, 0, none⟩) 6 6) w4 := by
    rw [← hw4]
    exact Lib.run_convert_bytes_const (P := Tryz.prog) w3 26 5 #[.int .u8 48, .int .u8 52, .int .u8 48, .int .u8 48, .int .u8 48, .int .u8 48] 6 6 Tryz.underlying26 Tryz.underlying5
  have x4 : Ext w3 w4 := by rw [← hw4]; exact (Below.refl _ _).alloc (Nat.le_refl _) _
  have R4 := Lib.hid (show Rd w4 (.slice (some ⟨w3.heap.size, 0, none⟩) 6 6) (bvs [48, 52, 48, 48, 48, 48]) by rw [← hw4]; exact rd_mark w3 #[.int .u8 48, .int .u8 52, .int .u8 48, .int .u8 48, .int .u8 48, .int .u8 48] 5 _ 6 rfl (by unfold maxLen; omega))
  have E4 := Lib.hid (E3.out.tr x4)
  have H4 := Lib.hid (H3.out.ext x4)
  have N3' := Lib.hid (stable_NdG _ _ _ _ _ _ x4 N3.out)
  clear x4
  go_wp2_with fail
  refine (leaf02 (B := 0) (d := 0) w4 24374 (Nat.zero_le _) R4.out (by simp)).mono ?_
  rintro e w5 ⟨uu5, rfl, b5, A5, n5, c5, P5, m5, d5, hv, r1, k1⟩
  obtain rfl : uu5 = .agg #[.int .i64 24374, .slice A5 n5 c5, .slice P5 m5 d5] := hv
  have N5 := Lib.hid (show NdG 0 0 (leafN 24374 [48, 52, 48, 48, 48, 48]) (.agg #[.int .i64 24374, .slice A5 n5 c5, .slice P5 m5 d5]) w5 from ⟨_, _, _, _, _, _, rfl, r1, k1⟩)
  have E5 := Lib.hid (E4.out.tr b5)
  have H5 := Lib.hid (H4.out.ext b5)
  have N3'' := Lib.hid (stable_NdG _ _ _ _ _ _ b5 N3'.out)
  clear b5 r1 k1 hw4 kc4 N3 N3'
  go_wp2_with fail
  refine (leaf02 (B := 0) (d := 0) w5 92 (Nat.zero_le _) H5.out (by simp)).mono ?_
  rintro e w6 ⟨uu6, rfl, b6, A6, n6, c6, P6, m6, d6, hv, r1, k1⟩
  obtain rfl : uu6 = .agg #[.int .i64 92, .slice A6 n6 c6, .slice P6 m6 d6] := hv
  have N6 := Lib.hid (show NdG 0 0 (leafN 92 [97]) (.agg #[.int .i64 92, .slice A6 n6 c6, .slice P6 m6 d6]) w6 from ⟨_, _, _, _, _, _, rfl, r1, k1⟩)
  have E6 := Lib.hid (E5.out.tr b6)
  have M3 := Lib.hid (stable_NdG _ _ _ _ _ _ b6 N3''.out)
  have M5 := Lib.hid (stable_NdG _ _ _ _ _ _ b6 N5.out)
  clear b6 r1 k1 N3'' N5
  obtain ⟨v7, w7, R7, b7, N7⟩ := run_nodes3 w6 (Nat.zero_le _) M3.out M5.out N6.out
  obtain ⟨A7, n7, c7, rfl⟩ := NdsS.slice N7
  have HN7 := Lib.hid N7
  have X7 := Lib.hid (E6.out.tr b7)
  rw [run_bs3] at R7
  injection R7 with R7a R7
  injection R7a with R7b R7c R7d
  subst R7c R7d
  rw [← R7b] at HN7
  clear N7 b7 R7b
  go_wp2_with fail
  clear R7
  refine (traveldocref15_wrap (d := 1) 16 17 (by decide) w7 (by decide) (HG.out w7 X7.out) (NdsS.rd HN7.out) ok_comN (by decide) cnt_com len_com).mono ?_
  rintro e w8 ⟨A8, n8, c8, rfl, h8⟩
  have H8 := Lib.hid h8
  clear h8
  go_wp2_with fail
  go_ret2
  exact ⟨_, _, _, rfl, H8.out.1, H8.out.2.1.mono X7.out.size, X7.out.tr H8.out.2.2⟩
end Go.Proofs.YthbpdhanljpigaaGreatDoor
