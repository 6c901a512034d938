/- Parts Me of the proof. -/
import Derived.Test.YtmmoenkmicimcaaGreatDoorDRay
import Derived.Test.YtmmoenkmicimcaaGreatDoorDRbe
namespace Go.Proofs.YtmmoenkmicimcaaGreatDoor
open Go.RowKit
set_option linter.unusedVariables false
set_option maxRecDepth 100000
/-- Why a list of a day is not its signer's. -/
def pubE (c : NC) (made day : Int) (b : List UInt8) (e s : Int) : Int := if day < made ∨ made < c.fr then 64 else if c.un < made then 63 else if verB c.key b e s = true then 0 else 11
noncomputable def sndE (roots pool : List NC) (c : NC) (made day : Int) (b : List UInt8) (e s : Int) : Int := if npK roots pool c day ≠ 0 then npK roots pool c day else pubE c made day b e s
/-- Two blocks: a certificate and a signature. -/
structure TwoS (w wz : World) (c : NC) (e s : Int) : Prop where
  ext : Ext w wz
  c : NcAt wz w.heap.size c
  z : wz.heap[w.heap.size + 1]? = some (.cells #[.int .i64 e, .int .i64 s] 37 (0, 0))
theorem TwoS.tr {w wz wy : World} {c : NC} {e s : Int} (h : TwoS w wz c e s) (x : Ext wz wy) : TwoS w wy c e s := ⟨h.ext.tr x, h.c.ext x, (x.block _ (block_lt h.z)).trans h.z⟩
theorem TwoS.s0 {w wz : World} {c : NC} {e s : Int} (h : TwoS w wz c e s) : wz.cell? ⟨w.heap.size + 1, 0, none⟩ = some (.int .i64 e) := by rw [cell_of_row _ _ 0 _ _ _ h.z]; rfl
theorem TwoS.s1 {w wz : World} {c : NC} {e s : Int} (h : TwoS w wz c e s) : wz.cell? ⟨w.heap.size + 1, 1, none⟩ = some (.int .i64 s) := by rw [cell_of_row _ _ 1 _ _ _ h.z]; rfl
theorem two_allocS (w : World) (c : NC) (e s : Int) : ∃ wz, wz = (w.alloc (ncO c)).alloc (.cells #[.int .i64 e, .int .i64 s] 37) ∧ TwoS w wz c e s := by
  have e1 : Ext w (w.alloc (ncO c)) := (Below.refl _ _).alloc (Nat.le_refl _) _
  have e2 : Ext (w.alloc (ncO c)) ((w.alloc (ncO c)).alloc (.cells #[.int .i64 e, .int .i64 s] 37)) := (Below.refl _ _).alloc (Nat.le_refl _) _
  refine ⟨_, rfl, e1.tr e2, (NcAt.new w c).ext e2, ?_⟩
  have := heap_alloc_new' (w.alloc (ncO c)) (.cells #[.int .i64 e, .int .i64 s] 37)
  rw [show (w.alloc (ncO c)).heap.size = w.heap.size + 1 by simp] at this
  exact this
set_option maxHeartbeats 4000000 in
theorem msigned_any {v1 v2 u : Value} {roots pool : List NC} {l : List UInt8} (c : NC) (made day e s : Int) (w : World) (h1 : RdN w v1 roots) (h2 : RdN w v2 pool) (hu : Rd w u (bvs l)) (hl : l.length ≤ 5000) (hs1 : smL roots) (hs2 : smL pool) (hc : smN c) (hll : roots.length + pool.length ≤ 900000) (E : KTab w 1) :
    Calls Tryz.prog 34 #[v1, v2, ncV c, .int .i64 made, .int .i64 day, u, .agg #[.int .i64 e, .int .i64 s]] w (RetQ w (.int .i64 (sndE roots pool c made day l e s))) := by
  obtain ⟨wz, hwz, Tz⟩ := two_allocS w c e s
  have HPT := Lib.hid (fun W (x : Ext w W) => npath_any c day W (RdK.ext h1 x) (RdK.ext h2 x) hs1 hs2 hc hll (E.below x))
  have HVF := Lib.hid (fun W (x : Ext w W) => verify_any (a := u) c.key e s W (hu.ext x) (by omega) (E.below x))
  obtain ⟨K, hK⟩ : ∃ K, sndE roots pool c made day l e s = K := ⟨_, rfl⟩
  rw [hK]
  have HK := Lib.hid hK
  obtain ⟨U1, U2, U3, rfl, -⟩ := hu
  obtain ⟨V1, V2, V3, rfl, -⟩ := h1.at_
  obtain ⟨W1, W2, W3, rfl, -⟩ := h2.at_
  have TT := Lib.hid Tz
  clear hK hc hs1 hs2 hll hl E Tz
  unfold ncV
  go_enter Tryz.func34, Tryz.ntmps34
  go_upto_region 1 with fail
  rw [← hwz]
  clear hwz
  obtain ⟨t0, t1, t2, t3, t4, t5, t6, t7, t8, t9, t10⟩ := TT.out.c.cells
  have hl := TT.out.c.lt
  have s0 := TT.out.s0
  have s1 := TT.out.s1
  have sl := block_lt TT.out.z
  go_wp2_with fail
  refine (HPT.out _ TT.out.ext).mono ?_
  rintro e0 w1 ⟨b1, A1, cp1, rfl, -⟩
  clear t0 t1 t2 t3 t4 t5 t6 t7 t8 t9 t10 hl s0 s1 sl
  have TT1 := Lib.hid (TT.out.tr b1)
  clear TT b1
  have TT := TT1
  clear TT1
  by_cases hk : npK roots pool c day = 0
  case neg =>
    have HR := Lib.hid (show K = npK roots pool c day by rw [← HK.out]; exact if_pos hk)
    have hb : (npK roots pool c day != 0) = true := by simpa using hk
    have X := Lib.hid TT.out.ext
    clear hk
    go_wp2_with fail
    go_ret
    exact ⟨by first | (rw [HR.out]; rfl) | rw [HR.out], X.out⟩
  have HP := Lib.hid (show K = pubE c made day l e s by rw [← HK.out]; unfold sndE; rw [if_neg (not_not_intro hk)])
  rw [hk]
  clear hk HK
  obtain ⟨t0, t1, t2, t3, t4, t5, t6, t7, t8, t9, t10⟩ := TT.out.c.cells
  have hl := TT.out.c.lt
  have s0 := TT.out.s0
  have s1 := TT.out.s1
  have sl := block_lt TT.out.z
  have X := Lib.hid TT.out.ext
  by_cases d1 : day < made
  case pos =>
    have HR := Lib.hid (show K = 64 by rw [HP.out]; exact if_pos (.inl d1))
    clear HP
    go_wp2_with fail
    go_ret
    exact ⟨by first | (rw [HR.out]; rfl) | rw [HR.out], X.out⟩
  have hd1 : ¬ day < made := d1
  by_cases d2 : made < c.fr
  case pos =>
    have HR := Lib.hid (show K = 64 by rw [HP.out]; exact if_pos (.inr d2))
    clear HP
    go_wp2_with fail
    go_ret
    exact ⟨by first | (rw [HR.out]; rfl) | rw [HR.out], X.out⟩
  have HN := Lib.hid (show ¬ (day < made ∨ made < c.fr) from fun q => q.elim d1 d2)
  by_cases d3 : c.un < made
  case pos =>
    have HR := Lib.hid (show K = 63 by rw [HP.out]; unfold pubE; rw [if_neg HN.out, if_pos d3])
    clear HP
    go_wp2_with fail
    go_ret
    exact ⟨by first | (rw [HR.out]; rfl) | rw [HR.out], X.out⟩
  have HR := Lib.hid (show K = if verB c.key l e s = true then 0 else 11 by rw [HP.out]; unfold pubE; rw [if_neg HN.out, if_neg d3])
  clear HP HN
  go_wp2_with fail
  refine (HVF.out _ X.out).mono ?_
  rintro e0 w9 ⟨rfl, b9⟩
  have X9 := Lib.hid (X.out.tr b9)
  clear b9 d1 d2 d3 hd1 X
  clear t0 t1 t2 t3 t4 t5 t6 t7 t8 t9 t10 hl s0 s1 sl
  generalize verB c.key l e s = q at *
  cases q
  · go_wp2_with fail
    go_ret
    exact ⟨by first | (rw [HR.out]; rfl) | rw [HR.out], X9.out⟩
  · go_wp2_with fail
    go_ret
    exact ⟨by first | (rw [HR.out]; rfl) | rw [HR.out], X9.out⟩
end Go.Proofs.YtmmoenkmicimcaaGreatDoor
