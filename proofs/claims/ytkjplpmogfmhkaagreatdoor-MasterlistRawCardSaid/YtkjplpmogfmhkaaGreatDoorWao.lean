/- Parts Sg Sv Sx Se Sd of the proof. -/
import Derived.Test.YtkjplpmogfmhkaaGreatDoorWan
import Derived.Test.YtkjplpmogfmhkaaGreatDoorWak
import Derived.Test.YtkjplpmogfmhkaaGreatDoorWaj
import Derived.Test.YtkjplpmogfmhkaaGreatDoorWad
import Derived.Test.YtkjplpmogfmhkaaGreatDoorWab
namespace Go.Proofs.YtkjplpmogfmhkaaGreatDoor
open Go.RowKit
set_option linter.unusedVariables false
set_option maxRecDepth 100000
def hnum (r : Int) (l : List UInt8) (m : Int) : Int := num ((sha (be4 r ++ l)).take 7) % m
theorem hnum_bd (r : Int) (l : List UInt8) {m : Int} (h : 1 ≤ m) : 0 ≤ hnum r l m ∧ hnum r l m < m := ⟨Int.emod_nonneg _ (by omega), Int.emod_lt_of_pos _ (by omega)⟩
theorem number_h {a : Value} {l : List UInt8} (r m : Int) (w : World) (ha : Rd w a (bvs l)) (hl : l.length ≤ 140737488352000) (h0 : 0 ≤ r) (h1 : r < 4294967296) (hm : 1 ≤ m) (E : KTab w 1) :
 Calls Tryz.prog 216 #[.int .i64 r, a, .int .i64 m] w (RetQ w (.int .i64 (hnum r l m))) := by
 have ha0 := ha
 obtain ⟨A, n1, c, rfl, hn1, hnc, hcm, hA⟩ := ha.bytes
 subst hn1
 clear hA ha
 have q1 := (num_bd7 (l := (sha (be4 r ++ l)).take 7) (by rw [List.length_take]; omega)).1
 have q2 := (num_bd7 (l := (sha (be4 r ++ l)).take 7) (by rw [List.length_take]; omega)).2
 go_enter Tryz.func216, Tryz.ntmps216
 go_wp2_with fail
 refine (oct4_any _ _ (by omega) (by omega)).mono ?_
 rintro e w1 ⟨A1, n1, c1, rfl, hn1, o1, b1⟩
 have e0 : Ext w1 (w1.alloc (.cells #[.slice A1 n1 c1, .slice A l.length c] 89)) := (Below.refl _ _).alloc (Nat.le_refl _) _
 go_wp2_with (first
  | (go_at_call 264; refine (concat2_any (xs := be4 r) _ (heap_alloc_new' w1 _) (o1.rd.ext e0) (ha0.ext (b1.tr e0)) (by simp [be4]; omega)).mono ?_; rintro e w2 ⟨A2, n2, c2, rfl, hn2, o2, b2⟩)
  | (go_at_call 263; refine (digsum_any _ o2.rd (by simp [be4]; omega) (E.below ((b1.tr e0).tr b2))).mono ?_; rintro e w3 ⟨A3, n3, c3, rfl, hn3, o3, b3⟩; obtain rfl : n3 = 32 := (by rw [hn3.out, sha_length]); have hc3 := o3.rd.caps; have h7 : 7 ≤ c3 := (by omega); clear hc3)
  | (go_at_call 262; refine (number_any _ (o3.rd.take 7 (by omega)) (by rw [List.length_take]; omega)).mono ?_; rintro e w4 ⟨rfl, rfl⟩))
 go_ret
 exact ⟨rfl, ((b1.tr e0).tr b2).tr b3⟩
theorem challenge_any {a : Value} {l : List UInt8} (r : Int) (w : World) (ha : Rd w a (bvs l)) (hl : l.length ≤ 140737488352000) (E : KTab w 0) :
 Calls Tryz.prog 223 #[.int .i64 r, a] w (RetQ w (.int .i64 (hnum r l 1073741789))) := by
 have ha0 := ha
 obtain ⟨A, n1, c, rfl, hn1, hnc, hcm, hA⟩ := ha.bytes
 subst hn1
 clear hA ha
 go_enter Tryz.func223, Tryz.ntmps223
 go_wp2_with (first
  | (go_at_call 222; refine (four_any _ _).mono ?_; rintro e w1 ⟨A1, n1, c1, rfl, hn1, o1, b1⟩)
  | (go_at_call 221; refine (join_any _ o1.rd (ha0.ext b1) (by simp [be4]; omega)).mono ?_; rintro e w2 ⟨A2, n2, c2, rfl, hn2, o2, b2⟩)
  | (go_at_call 220; refine (refsum_any _ o2.rd (by simp [be4]; omega) (E.below (b1.tr b2))).mono ?_; rintro e w3 ⟨A3, n3, c3, rfl, hn3, o3, b3⟩)
  | (go_at_call 219; refine (refnum7_any _ _ o3.rd (by rw [sha_length]; omega) (by omega)).mono ?_; rintro e w4 ⟨rfl, rfl⟩))
 go_ret
 exact ⟨rfl, (b1.tr b2).tr b3⟩
def sigN (k : Int) (l : List UInt8) : Int := 1 + hnum k l 1073741788
def sigE (k : Int) (l : List UInt8) : Int := hnum (pw 4 (sigN k l)) l 1073741789
def sigS (k : Int) (l : List UInt8) : Int := (sigN k l + sigE k l * k) % 1073741789
theorem sigN_bd (k : Int) (l : List UInt8) : 1 ≤ sigN k l ∧ sigN k l < 1073741789 := by
 obtain ⟨a, b⟩ := hnum_bd k l (m := 1073741788) (by omega)
 unfold sigN; omega
theorem sigE_bd (k : Int) (l : List UInt8) : 0 ≤ sigE k l ∧ sigE k l < 1073741789 := hnum_bd _ l (by omega)
theorem sigS_bd (k : Int) (l : List UInt8) : 0 ≤ sigS k l ∧ sigS k l < 1073741789 := by unfold sigS; omega
def sgV (e s k : Int) : Value := .tuple #[.agg #[.int .i64 e, .int .i64 s], .int .i64 k]
theorem in4 : inB 1 2147483579 4 = true := inB_yes (by omega) (by omega)
set_option maxHeartbeats 400000 in
theorem sign_yes {a : Value} {l : List UInt8} (k : Int) (w : World) (hk : inB 1 1073741789 k = true) (ha : Rd w a (bvs l)) (hl : l.length ≤ 140737488352000) (E : KTab w 1) :
 Calls Tryz.prog 156 #[.int .i64 k, a] w (RetQ w (sgV (sigE k l) (sigS k l) 0)) := by
 obtain ⟨k0, k1⟩ := inB_true hk
 have ha0 := ha
 obtain ⟨A, n1, c, rfl, hn1, hnc, hcm, hA⟩ := ha.bytes
 subst hn1
 clear hA ha
 have e0 : Ext w (w.alloc (.cells #[.int .i64 0, .int .i64 0] 33)) := (Below.refl _ _).alloc (Nat.le_refl _) _
 go_enter Tryz.func156, Tryz.ntmps156
 go_wp2_with fail
 refine (public_yes _ _ hk).mono ?_
 rintro e w' ⟨rfl, rfl⟩
 go_wp2_with fail
 refine (number_h _ _ _ (ha0.ext e0) (by omega) (by omega) (by omega) (by omega) (E.below e0)).mono ?_
 rintro e w1 ⟨rfl, b1⟩
 obtain ⟨n0, n1⟩ := sigN_bd k l
 have HN := Lib.hid (show 1 + hnum k l 1073741788 = sigN k l from rfl)
 obtain ⟨hb0, hb1⟩ := hnum_bd k l (m := 1073741788) (by omega)
 go_wp2_with fail
 rw [HN.out]
 refine (gpower_yes _ _ _ in4 (by omega) (by omega)).mono ?_
 rintro e w' ⟨rfl, rfl⟩
 have p0 := pw_lo 4 (sigN k l)
 have p1 := pw_hi 4 (sigN k l)
 clear hb0 hb1
 have b01 := e0.tr b1
 go_wp2_with fail
 refine (number_h _ _ _ (ha0.ext b01) (by omega) (by omega) (by omega) (by omega) (E.below b01)).mono ?_
 rw [show hnum (pw 4 (sigN k l)) l 1073741789 = sigE k l from rfl]
 rintro e w2 ⟨rfl, b2⟩
 obtain ⟨g0, g1⟩ := sigE_bd k l
 obtain ⟨m0, m1⟩ := mul_sq g0 (by omega) (by omega : 0 ≤ k) (by omega)
 have HS := Lib.hid (show (sigN k l + sigE k l * k) % 1073741789 = sigS k l from rfl)
 have hlt : w.heap.size < (w.alloc (.cells #[.int .i64 0, .int .i64 0] 33)).heap.size := by simp
 have c0 : w2.cell? ⟨w.heap.size, 0, none⟩ = some (.int .i64 0) := ((b1.tr b2).cell (p := ⟨w.heap.size, 0, none⟩) hlt).trans (by go_simp)
 have c1 : w2.cell? ⟨w.heap.size, 1, none⟩ = some (.int .i64 0) := ((b1.tr b2).cell (p := ⟨w.heap.size, 1, none⟩) hlt).trans (by go_simp)
 have f0 : w2.frozen? ⟨w.heap.size, 0, none⟩ = false := ((b1.tr b2).frozen (p := ⟨w.heap.size, 0, none⟩) hlt).trans (by go_simp)
 have f1 : w2.frozen? ⟨w.heap.size, 1, none⟩ = false := ((b1.tr b2).frozen (p := ⟨w.heap.size, 1, none⟩) hlt).trans (by go_simp)
 have b02 := b01.tr b2
 go_wp2_with fail
 rw [HS.out]
 refine bodyPost_ret (v := sgV (sigE k l) (sigS k l) 0) ?_ rfl ⟨rfl, (b02.setCell (p := ⟨w.heap.size, 0, none⟩) (Nat.le_refl _) _).setCell (p := ⟨w.heap.size, 1, none⟩) (Nat.le_refl _) _⟩
 simp [results, Tryz.results156, go_sem, c0, c1, sgV]
theorem sign_no {a : Value} {l : List UInt8} (k : Int) (w : World) (hk : inB 1 1073741789 k = false) (ha : Rd w a (bvs l)) :
 Calls Tryz.prog 156 #[.int .i64 k, a] w (RetQ w (sgV 0 0 3)) := by
 go_enter Tryz.func156, Tryz.ntmps156
 go_wp2_with (go_at_call 215; refine (public_no _ _ hk).mono ?_; rintro e w' ⟨rfl, rfl⟩)
 refine bodyPost_ret (v := sgV 0 0 3) ?_ rfl ⟨rfl, (Below.refl _ _).alloc (Nat.le_refl _) _⟩
 simp [results, Tryz.results156, go_sem, sgV]
set_option maxHeartbeats 400000 in
theorem refsign_yes {a : Value} {l : List UInt8} (k : Int) (w : World) (hk : inB 1 1073741789 k = true) (ha : Rd w a (bvs l)) (hl : l.length ≤ 140737488352000) (E : KTab w 0) :
 Calls Tryz.prog 157 #[.int .i64 k, a] w (RetQ w (sgV (sigE k l) (sigS k l) 0)) := by
 obtain ⟨k0, k1⟩ := inB_true hk
 have ha0 := ha
 obtain ⟨A, n1, c, rfl, hn1, hnc, hcm, hA⟩ := ha.bytes
 subst hn1
 clear hA ha
 have e0 : Ext w (w.alloc (.cells #[.int .i64 0, .int .i64 0] 33)) := (Below.refl _ _).alloc (Nat.le_refl _) _
 obtain ⟨hb0, hb1⟩ := hnum_bd k l (m := 1073741788) (by omega)
 go_enter Tryz.func157, Tryz.ntmps157
 go_wp2_with (first
  | (go_at_call 218; refine (refsecretB_any _ _).mono ?_; rw [hk]; rintro e w' ⟨rfl, rfl⟩)
  | (go_at_call 222; refine (four_any _ _).mono ?_; rintro e w1 ⟨A1, n1, c1, rfl, hn1, o1, b1⟩)
  | (go_at_call 221; refine (join_any _ o1.rd (ha0.ext (e0.tr b1)) (by simp [be4]; omega)).mono ?_; rintro e w2 ⟨A2, n2, c2, rfl, hn2, o2, b2⟩)
  | (go_at_call 220; refine (refsum_any _ o2.rd (by simp [be4]; omega) (E.below ((e0.tr b1).tr b2))).mono ?_; rintro e w3 ⟨A3, n3, c3, rfl, hn3, o3, b3⟩)
  | (go_at_call 219; refine (refnum7_any _ _ o3.rd (by rw [sha_length]; omega) (by omega)).mono ?_; rw [show num ((sha (be4 k ++ l)).take 7) % 1073741788 = hnum k l 1073741788 from rfl]; rintro e w4 ⟨rfl, rfl⟩)
  | fail)
 obtain ⟨n0, n1⟩ := sigN_bd k l
 have HN := Lib.hid (show 1 + hnum k l 1073741788 = sigN k l from rfl)
 rw [HN.out]
 refine (refpow_any _ _ _ (by omega) (by omega) (by omega) (by omega)).mono ?_
 rintro e w' ⟨rfl, rfl⟩
 have p0 := pw_lo 4 (sigN k l)
 have p1 := pw_hi 4 (sigN k l)
 clear hb0 hb1
 have b13 := (b1.tr b2).tr b3
 have b03 := e0.tr b13
 go_wp2_with fail
 refine (challenge_any _ _ (ha0.ext b03) (by omega) (E.below b03)).mono ?_
 rw [show hnum (pw 4 (sigN k l)) l 1073741789 = sigE k l from rfl]
 rintro e w4 ⟨rfl, b4⟩
 obtain ⟨g0, g1⟩ := sigE_bd k l
 obtain ⟨m0, m1⟩ := mul_sq g0 (by omega) (by omega : 0 ≤ k) (by omega)
 have HS := Lib.hid (show (sigN k l + sigE k l * k) % 1073741789 = sigS k l from rfl)
 have hlt : w.heap.size < (w.alloc (.cells #[.int .i64 0, .int .i64 0] 33)).heap.size := by simp
 have c0 : w4.cell? ⟨w.heap.size, 0, none⟩ = some (.int .i64 0) := ((b13.tr b4).cell (p := ⟨w.heap.size, 0, none⟩) hlt).trans (by go_simp)
 have c1 : w4.cell? ⟨w.heap.size, 1, none⟩ = some (.int .i64 0) := ((b13.tr b4).cell (p := ⟨w.heap.size, 1, none⟩) hlt).trans (by go_simp)
 have f0 : w4.frozen? ⟨w.heap.size, 0, none⟩ = false := ((b13.tr b4).frozen (p := ⟨w.heap.size, 0, none⟩) hlt).trans (by go_simp)
 have f1 : w4.frozen? ⟨w.heap.size, 1, none⟩ = false := ((b13.tr b4).frozen (p := ⟨w.heap.size, 1, none⟩) hlt).trans (by go_simp)
 have b04 := b03.tr b4
 go_wp2_with fail
 rw [HS.out]
 refine bodyPost_ret (v := sgV (sigE k l) (sigS k l) 0) ?_ rfl ⟨rfl, (b04.setCell (p := ⟨w.heap.size, 0, none⟩) (Nat.le_refl _) _).setCell (p := ⟨w.heap.size, 1, none⟩) (Nat.le_refl _) _⟩
 simp [results, Tryz.results157, go_sem, c0, c1, sgV]
theorem refsign_no {a : Value} {l : List UInt8} (k : Int) (w : World) (hk : inB 1 1073741789 k = false) (ha : Rd w a (bvs l)) :
 Calls Tryz.prog 157 #[.int .i64 k, a] w (RetQ w (sgV 0 0 3)) := by
 go_enter Tryz.func157, Tryz.ntmps157
 go_wp2_with (go_at_call 218; refine (refsecretB_any _ _).mono ?_; rw [hk]; rintro e w' ⟨rfl, rfl⟩)
 refine bodyPost_ret (v := sgV 0 0 3) ?_ rfl ⟨rfl, (Below.refl _ _).alloc (Nat.le_refl _) _⟩
 simp [results, Tryz.results157, go_sem, sgV]
def verB (p : Int) (l : List UInt8) (e s : Int) : Bool := isElem p && inB 0 1073741789 e && inB 0 1073741789 s && (hnum (pw 4 s * pw p (1073741789 - e) % 2147483579) l 1073741789 == e)
theorem verB_p {p : Int} {l : List UInt8} {e s : Int} (h : isElem p = false) : verB p l e s = false := by simp [verB, h]
theorem verB_e {p : Int} {l : List UInt8} {e s : Int} (h : inB 0 1073741789 e = false) : verB p l e s = false := by simp [verB, h]
theorem verB_s {p : Int} {l : List UInt8} {e s : Int} (h : inB 0 1073741789 s = false) : verB p l e s = false := by simp [verB, h]
theorem verB_eq {p : Int} {l : List UInt8} {e s : Int} (h1 : isElem p = true) (h2 : inB 0 1073741789 e = true) (h3 : inB 0 1073741789 s = true) : verB p l e s = (hnum (pw 4 s * pw p (1073741789 - e) % 2147483579) l 1073741789 == e) := by simp [verB, h1, h2, h3]
theorem multiply_any (x y : Int) (w : World) (x0 : 0 ≤ x) (x1 : x < 2147483579) (y0 : 0 ≤ y) (y1 : y < 2147483579) : Calls Tryz.prog 250 #[.int .i64 x, .int .i64 y] w fun e w' => (∃ k, e = .returned (.tuple #[.int .i64 (x * y % 2147483579), .int .i64 k])) ∧ w = w' := by
 by_cases hx : x = 0
 · subst hx
   have h : inB 1 2147483579 0 = false := inB_no (by omega)
   rw [Int.zero_mul]
   go_enter Tryz.func250, Tryz.ntmps250
   go_wp2_with (go_at_call 265; refine (residue_any _ _).mono ?_; rw [h]; rintro e w' ⟨rfl, rfl⟩)
   go_ret2
   exact ⟨⟨_, rfl⟩, rfl⟩
 · have hi : inB 1 2147483579 x = true := inB_yes (by omega) x1
   by_cases hy : y = 0
   · subst hy
     have h : inB 1 2147483579 0 = false := inB_no (by omega)
     rw [Int.mul_zero]
     go_enter Tryz.func250, Tryz.ntmps250
     go_wp2_with fail
     refine (residue_any _ _).mono ?_
     rw [hi]
     rintro e w' ⟨rfl, rfl⟩
     go_wp2_with fail
     refine (residue_any _ _).mono ?_
     rw [h]
     rintro e w' ⟨rfl, rfl⟩
     go_wp2_with fail
     go_ret2
     exact ⟨⟨_, rfl⟩, rfl⟩
   · exact (multiply_yes x y w hi (inB_yes (by omega) y1)).mono fun e w' ⟨h1, h2⟩ => ⟨⟨_, h1⟩, h2⟩
set_option maxHeartbeats 1000000 in
theorem verify_any {a : Value} {l : List UInt8} (p e s : Int) (w : World) (ha : Rd w a (bvs l)) (hl : l.length ≤ 140737488352000) (E : KTab w 1) :
 Calls Tryz.prog 205 #[.int .i64 p, a, .agg #[.int .i64 e, .int .i64 s]] w (RetQ w (.bool (verB p l e s))) := by
 have e0 : Ext w (w.alloc (.cells #[.int .i64 e, .int .i64 s] 33)) := (Below.refl _ _).alloc (Nat.le_refl _) _
 by_cases hp : isElem p = true
 · by_cases he : inB 0 1073741789 e = true
   · by_cases hs : inB 0 1073741789 s = true
     · rw [verB_eq hp he hs]
       obtain ⟨p0, p1⟩ := isElem_in hp
       have hpi := inB_yes p0 p1
       obtain ⟨g0, g1⟩ := inB_true he
       obtain ⟨s0, s1⟩ := inB_true hs
       have HL := Lib.hid he
       clear he
       have ha0 := ha
       obtain ⟨A, n1, c, rfl, hn1, hnc, hcm, hA⟩ := ha.bytes
       subst hn1
       clear hA ha
       go_enter Tryz.func205, Tryz.ntmps205
       go_wp2_with fail
       refine (element_any _ _).mono ?_
       rw [hp]
       rintro e' w' ⟨rfl, rfl⟩
       go_wp2_with fail
       refine (exponent_any _ _).mono ?_
       rw [HL.out]
       rintro e' w' ⟨rfl, rfl⟩
       go_wp2_with fail
       refine (exponent_any _ _).mono ?_
       rw [hs]
       rintro e' w' ⟨rfl, rfl⟩
       go_wp2_with fail
       refine (gpower_yes _ _ _ in4 (by omega) (by omega)).mono ?_
       rintro e' w' ⟨rfl, rfl⟩
       go_wp2_with fail
       refine (gpower_yes _ _ _ hpi (by omega) (by omega)).mono ?_
       rintro e' w' ⟨rfl, rfl⟩
       have q0 := pw_lo 4 s
       have q1 := pw_hi 4 s
       have q2 := pw_lo p (1073741789 - e)
       have q3 := pw_hi p (1073741789 - e)
       go_wp2_with fail
       refine (multiply_any _ _ _ q0 q1 q2 q3).mono ?_
       rintro e' w' ⟨⟨k, rfl⟩, rfl⟩
       obtain ⟨r0, r1⟩ := mul_bd (a := pw 4 s) (b := pw p (1073741789 - e))
       go_wp2_with fail
       have cs : ∀ W : World, Ext (w.alloc (.cells #[.int .i64 e, .int .i64 s] 33)) W → W.cell? ⟨w.heap.size, 0, none⟩ = some (.int .i64 e) := fun W h => (h.cell (p := ⟨w.heap.size, 0, none⟩) (by simp)).trans (by go_simp)
       have CS := Lib.hid cs
       clear cs
       refine wp_region_X 5 (by kernel_rfl) (by kernel_rfl) ?_
       simp only [List.take_succ_cons, List.take_zero, List.drop_succ_cons, List.drop_zero]
       intro w1 hw1
       have L : ∀ m : Lt w1, Ext (w.alloc (.cells #[.int .i64 e, .int .i64 s] 33)) m.1 := fun m => hw1.tr m.2
       have cs : ∀ m : Lt w1, m.1.cell? ⟨w.heap.size, 0, none⟩ = some (.int .i64 e) := fun m => CS.out _ (L m)
       repeat (refine wpX_pure rfl rfl rfl rfl rfl (fun K hK => ?_); go_big_quiet_op; refine hK _ ?_; clear hK K)
       refine wpX_callFn (.int .i64 (hnum (pw 4 s * pw p (1073741789 - e) % 2147483579) l 1073741789)) rfl rfl rfl rfl (by kernel_rfl) rfl rfl (fun m => number_h _ _ _ (ha0.ext (e0.tr (L m))) (by omega) (by omega) (by omega) (by omega) (E.below (e0.tr (L m)))) ?_
       simp only [Act.put, List.setIfInBounds_toArray, List.set_cons_zero, List.set_cons_succ]
       repeat (refine wpX_pure rfl rfl rfl rfl rfl (fun K hK => ?_); go_big_quiet_op; refine hK _ ?_; clear hK K)
       refine wpX_end0 (fun m => ?_)
       have Lm := L m
       obtain ⟨wy, hwy⟩ := m
       clear L cs
       go_wp2_with fail
       go_ret
       exact ⟨rfl, e0.tr Lm⟩
     · have hs' := not_true hs
       rw [verB_s hs']
       go_enter Tryz.func205, Tryz.ntmps205
       go_wp2_with fail
       refine (element_any _ _).mono ?_
       rw [hp]
       rintro e' w' ⟨rfl, rfl⟩
       go_wp2_with fail
       refine (exponent_any _ _).mono ?_
       rw [he]
       rintro e' w' ⟨rfl, rfl⟩
       go_wp2_with fail
       refine (exponent_any _ _).mono ?_
       rw [hs']
       rintro e' w' ⟨rfl, rfl⟩
       go_wp2_with fail
       go_ret
       exact ⟨rfl, e0⟩
   · have he' := not_true he
     rw [verB_e he']
     go_enter Tryz.func205, Tryz.ntmps205
     go_wp2_with fail
     refine (element_any _ _).mono ?_
     rw [hp]
     rintro e' w' ⟨rfl, rfl⟩
     go_wp2_with fail
     refine (exponent_any _ _).mono ?_
     rw [he']
     rintro e' w' ⟨rfl, rfl⟩
     go_wp2_with fail
     go_ret
     exact ⟨rfl, e0⟩
 · have hp' := not_true hp
   rw [verB_p hp']
   go_enter Tryz.func205, Tryz.ntmps205
   go_wp2_with fail
   refine (element_any _ _).mono ?_
   rw [hp']
   rintro e' w' ⟨rfl, rfl⟩
   go_wp2_with fail
   go_ret
   exact ⟨rfl, e0⟩
set_option maxHeartbeats 1000000 in
theorem refverify_any {a : Value} {l : List UInt8} (p e s : Int) (w : World) (ha : Rd w a (bvs l)) (hl : l.length ≤ 140737488352000) (E : KTab w 0) :
 Calls Tryz.prog 161 #[.int .i64 p, a, .agg #[.int .i64 e, .int .i64 s]] w (RetQ w (.bool (verB p l e s))) := by
 have e0 : Ext w (w.alloc (.cells #[.int .i64 e, .int .i64 s] 33)) := (Below.refl _ _).alloc (Nat.le_refl _) _
 by_cases hp : isElem p = true
 · by_cases he : inB 0 1073741789 e = true
   · by_cases hs : inB 0 1073741789 s = true
     · rw [verB_eq hp he hs]
       obtain ⟨p0, p1⟩ := isElem_in hp
       obtain ⟨g0, g1⟩ := inB_true he
       obtain ⟨s0, s1⟩ := inB_true hs
       have HL := Lib.hid he
       clear he
       have ha0 := ha
       obtain ⟨A, n1, c, rfl, hn1, hnc, hcm, hA⟩ := ha.bytes
       subst hn1
       clear hA ha
       go_enter Tryz.func161, Tryz.ntmps161
       go_wp2_with fail
       refine (refelement_any _ _).mono ?_
       rw [hp]
       rintro e' w' ⟨rfl, rfl⟩
       go_wp2_with fail
       refine (small_any _ _).mono ?_
       rw [HL.out]
       rintro e' w' ⟨rfl, rfl⟩
       go_wp2_with fail
       refine (small_any _ _).mono ?_
       rw [hs]
       rintro e' w' ⟨rfl, rfl⟩
       have q0 := pw_lo 4 s
       have q1 := pw_hi 4 s
       have q2 := pw_lo p (1073741789 - e)
       have q3 := pw_hi p (1073741789 - e)
       obtain ⟨m0, m1⟩ := mul_sq q0 q1 q2 q3
       have cs : ∀ W : World, Ext (w.alloc (.cells #[.int .i64 e, .int .i64 s] 33)) W → W.cell? ⟨w.heap.size, 0, none⟩ = some (.int .i64 e) := fun W h => (h.cell (p := ⟨w.heap.size, 0, none⟩) (by simp)).trans (by go_simp)
       have cs1 : ∀ W : World, Ext (w.alloc (.cells #[.int .i64 e, .int .i64 s] 33)) W → W.cell? ⟨w.heap.size, 1, none⟩ = some (.int .i64 s) := fun W h => (h.cell (p := ⟨w.heap.size, 1, none⟩) (by simp)).trans (by go_simp)
       have CS := Lib.hid cs
       have CS1 := Lib.hid cs1
       clear cs cs1
       go_wp2_with fail
       have wi1 : IntKind.i64.wrap (1073741789 - e) = 1073741789 - e := IntWalk.i64_in _ (by omega)
       have tm : (pw 4 s * pw p (1073741789 - e)).tmod 2147483579 = pw 4 s * pw p (1073741789 - e) % 2147483579 := Int.tmod_eq_emod_of_nonneg m0
       have wi2 : IntKind.i64.wrap (pw 4 s * pw p (1073741789 - e)) = pw 4 s * pw p (1073741789 - e) := IntWalk.i64_in _ (by omega)
       refine wp_region_X 10 (by kernel_rfl) (by kernel_rfl) ?_
       simp only [List.take_succ_cons, List.take_zero, List.drop_succ_cons, List.drop_zero]
       intro w1 hw1
       have L : ∀ m : Lt w1, Ext (w.alloc (.cells #[.int .i64 e, .int .i64 s] 33)) m.1 := fun m => hw1.tr m.2
       have cs : ∀ m : Lt w1, m.1.cell? ⟨w.heap.size, 0, none⟩ = some (.int .i64 e) := fun m => CS.out _ (L m)
       have cs1 : ∀ m : Lt w1, m.1.cell? ⟨w.heap.size, 1, none⟩ = some (.int .i64 s) := fun m => CS1.out _ (L m)
       repeat (refine wpX_pure rfl rfl rfl rfl rfl (fun K hK => ?_); go_big_quiet_op; refine hK _ ?_; clear hK K)
       refine wpX_callFn (.int .i64 (pw 4 s)) rfl rfl rfl rfl (by kernel_rfl) rfl rfl (fun m => (refpow_any _ _ _ (by omega) (by omega) (by omega) (by omega)).mono fun _ _ ⟨h1, h2⟩ => ⟨h1, h2 ▸ Below.refl _ _⟩) ?_
       simp only [Act.put, List.setIfInBounds_toArray, List.set_cons_zero, List.set_cons_succ]
       repeat (refine wpX_pure rfl rfl rfl rfl rfl (fun K hK => ?_); go_big_quiet_op; refine hK _ ?_; clear hK K)
       refine wpX_callFn (.int .i64 (pw p (1073741789 - e))) rfl rfl rfl rfl (by kernel_rfl) rfl rfl (fun m => (refpow_any _ _ _ (by omega) (by omega) (by omega) (by omega)).mono fun _ _ ⟨h1, h2⟩ => ⟨h1, h2 ▸ Below.refl _ _⟩) ?_
       simp only [Act.put, List.setIfInBounds_toArray, List.set_cons_zero, List.set_cons_succ]
       repeat (refine wpX_pure rfl rfl rfl rfl rfl (fun K hK => ?_); go_big_quiet_op; refine hK _ ?_; clear hK K)
       refine wpX_end0 (fun m => ?_)
       have Lm := L m
       obtain ⟨wy, hwy⟩ := m
       clear L cs cs1
       obtain ⟨r0, r1⟩ := mul_bd (a := pw 4 s) (b := pw p (1073741789 - e))
       go_wp2_with fail
       clear wi1 wi2 tm
       refine wp_region_X 5 (by kernel_rfl) (by kernel_rfl) ?_
       simp only [List.take_succ_cons, List.take_zero, List.drop_succ_cons, List.drop_zero]
       intro w1 hw1
       have L : ∀ m : Lt w1, Ext (w.alloc (.cells #[.int .i64 e, .int .i64 s] 33)) m.1 := fun m => (Lm.tr hw1).tr m.2
       have cs : ∀ m : Lt w1, m.1.cell? ⟨w.heap.size, 0, none⟩ = some (.int .i64 e) := fun m => CS.out _ (L m)
       repeat (refine wpX_pure rfl rfl rfl rfl rfl (fun K hK => ?_); go_big_quiet_op; refine hK _ ?_; clear hK K)
       refine wpX_callFn (.int .i64 (hnum (pw 4 s * pw p (1073741789 - e) % 2147483579) l 1073741789)) rfl rfl rfl rfl (by kernel_rfl) rfl rfl (fun m => challenge_any _ _ (ha0.ext (e0.tr (L m))) (by omega) (E.below (e0.tr (L m)))) ?_
       simp only [Act.put, List.setIfInBounds_toArray, List.set_cons_zero, List.set_cons_succ]
       refine wpX_end0 (fun m => ?_)
       have Lm2 := L m
       obtain ⟨wz, hwz⟩ := m
       clear L cs
       go_wp2_with fail
       go_ret
       exact ⟨by rw [Bool.beq_comm]; rfl, e0.tr Lm2⟩
     · have hs' := not_true hs
       rw [verB_s hs']
       go_enter Tryz.func161, Tryz.ntmps161
       go_wp2_with fail
       refine (refelement_any _ _).mono ?_
       rw [hp]
       rintro e' w' ⟨rfl, rfl⟩
       go_wp2_with fail
       refine (small_any _ _).mono ?_
       rw [he]
       rintro e' w' ⟨rfl, rfl⟩
       go_wp2_with fail
       refine (small_any _ _).mono ?_
       rw [hs']
       rintro e' w' ⟨rfl, rfl⟩
       go_wp2_with fail
       go_ret
       exact ⟨rfl, e0⟩
   · have he' := not_true he
     rw [verB_e he']
     go_enter Tryz.func161, Tryz.ntmps161
     go_wp2_with fail
     refine (refelement_any _ _).mono ?_
     rw [hp]
     rintro e' w' ⟨rfl, rfl⟩
     go_wp2_with fail
     refine (small_any _ _).mono ?_
     rw [he']
     rintro e' w' ⟨rfl, rfl⟩
     go_wp2_with fail
     go_ret
     exact ⟨rfl, e0⟩
 · have hp' := not_true hp
   rw [verB_p hp']
   go_enter Tryz.func161, Tryz.ntmps161
   go_wp2_with fail
   refine (refelement_any _ _).mono ?_
   rw [hp']
   rintro e' w' ⟨rfl, rfl⟩
   go_wp2_with fail
   go_ret
   exact ⟨rfl, e0⟩
theorem sig_verifies {k : Int} (h0 : 1 ≤ k) (h1 : k < 1073741789) (l : List UInt8) : verB (pw 4 k) l (sigE k l) (sigS k l) = true := by
 obtain ⟨e0, e1⟩ := sigE_bd k l
 obtain ⟨s0, s1⟩ := sigS_bd k l
 obtain ⟨n0, n1⟩ := sigN_bd k l
 rw [verB_eq (pub_elem h0 h1) (inB_yes e0 e1) (inB_yes s0 s1)]
 have key : pw 4 (sigS k l) * pw (pw 4 k) (1073741789 - sigE k l) % 2147483579 = pw 4 (sigN k l) := by
  have hs : sigS k l = (sigN k l + sigE k l * k) % 1073741789 := rfl
  generalize sigE k l = e at *
  generalize sigN k l = n at *
  rw [hs]
  obtain ⟨k', rfl⟩ := Int.eq_ofNat_of_zero_le (show 0 ≤ k by omega)
  obtain ⟨e', rfl⟩ := Int.eq_ofNat_of_zero_le e0
  obtain ⟨n', rfl⟩ := Int.eq_ofNat_of_zero_le (show 0 ≤ n by omega)
  have h := sig_back (k := k') (n := n') (e := e') (by omega) (by omega) (by omega)
  have c1 : ((n' : Int) + (e' : Int) * (k' : Int)) % 1073741789 = (((n' + e' * k') % 1073741789 : Nat) : Int) := by simp
  have c2 : (1073741789 : Int) - (e' : Int) = ((1073741789 - e' : Nat) : Int) := by omega
  rw [c1, c2, show (4 : Int) = ((4 : Nat) : Int) from rfl, pw_nat, pw_nat, pw_nat, pw_nat, ← h]
  simp
 rw [key]
 simp only [sigE, beq_self_eq_true]
def sE (k : Int) (l : List UInt8) : Int := if inB 1 1073741789 k = true then sigE k l else 0
def sS (k : Int) (l : List UInt8) : Int := if inB 1 1073741789 k = true then sigS k l else 0
def sK (k : Int) : Int := if inB 1 1073741789 k = true then 0 else 3
theorem sign_any {a : Value} {l : List UInt8} (k : Int) (w : World) (ha : Rd w a (bvs l)) (hl : l.length ≤ 140737488352000) (E : KTab w 1) :
 Calls Tryz.prog 156 #[.int .i64 k, a] w (RetQ w (sgV (sE k l) (sS k l) (sK k))) := by
 unfold sE sS sK
 by_cases h : inB 1 1073741789 k = true
 · rw [if_pos h, if_pos h, if_pos h]; exact sign_yes k w h ha hl E
 · rw [if_neg h, if_neg h, if_neg h]; exact sign_no k w (not_true h) ha
theorem refsign_any {a : Value} {l : List UInt8} (k : Int) (w : World) (ha : Rd w a (bvs l)) (hl : l.length ≤ 140737488352000) (E : KTab w 0) :
 Calls Tryz.prog 157 #[.int .i64 k, a] w (RetQ w (sgV (sE k l) (sS k l) (sK k))) := by
 unfold sE sS sK
 by_cases h : inB 1 1073741789 k = true
 · rw [if_pos h, if_pos h, if_pos h]; exact refsign_yes k w h ha hl E
 · rw [if_neg h, if_neg h, if_neg h]; exact refsign_no k w (not_true h) ha
structure SgAt (w wa : World) (g : Nat) (e s : Int) : Prop where
 ext : Ext w wa
 lt : g < wa.heap.size
 c0 : wa.cell? ⟨g, 0, none⟩ = some (.int .i64 e)
 c1 : wa.cell? ⟨g, 1, none⟩ = some (.int .i64 s)
theorem sg_alloc (w : World) (e s : Int) : ∃ wa, wa = w.alloc (.cells #[.int .i64 e, .int .i64 s] 33) ∧ SgAt w wa w.heap.size e s :=
 ⟨_, rfl, (Below.refl _ _).alloc (Nat.le_refl _) _, by simp, by go_simp, by go_simp⟩
theorem SgAt.keep {w wa wb : World} {g : Nat} {e s : Int} (h : SgAt w wa g e s) (b : Ext wa wb) : SgAt w wb g e s :=
 ⟨h.ext.tr b, Nat.lt_of_lt_of_le h.lt b.size, (b.cell (p := ⟨g, 0, none⟩) h.lt).trans h.c0, (b.cell (p := ⟨g, 1, none⟩) h.lt).trans h.c1⟩
def EncR (w : World) (e s : Int) (v i : Value) (wr : World) : Prop :=
 ∃ A n c, v = .slice A n c ∧ Ext w wr ∧ ((i = .int .i64 0 ∧ Own wr w.heap.size 5 (.slice A n c) (bvs [])) ∨ (i = .int .i64 1 ∧ Own wr w.heap.size 5 (.slice A n c) (bvs (be4 e))) ∨ (i = .int .i64 2 ∧ Hid (n = 8) ∧ Own wr w.heap.size 5 (.slice A n c) (bvs (be4 e ++ be4 s))))
set_option maxHeartbeats 1000000 in
theorem enc_yes (e s : Int) (w : World) (he : inB 0 1073741789 e = true) (hs : inB 0 1073741789 s = true) :
 Calls Tryz.prog 206 #[.agg #[.int .i64 e, .int .i64 s]] w (RetBE w (be4 e ++ be4 s) 0) := by
 obtain ⟨e0, e1⟩ := inB_true he
 obtain ⟨s0, s1⟩ := inB_true hs
 have i0 : ∀ w : World, (Instr.index 255 (.agg #[.int .i64 e, .int .i64 s]) (.int .i64 0)).run Tryz.prog w = .ok (.int .i64 e) w := fun _ => by kernel_rfl
 have i1 : ∀ w : World, (Instr.index 255 (.agg #[.int .i64 e, .int .i64 s]) (.int .i64 1)).run Tryz.prog w = .ok (.int .i64 s) w := fun _ => by kernel_rfl
 have x0 : Ext w (w.alloc (.cells #[.int .i64 e, .int .i64 s] 33)) := (Below.refl _ _).alloc (Nat.le_refl _) _
 go_enter Tryz.func206, Tryz.ntmps206
 go_wp2_with fail
 go_loopw [4, 14] (fun v i wr => EncR w e s v i wr) (fun _ i _ => 2 - (intOf i).toNat)
 case atStart => exact ⟨_, _, _, rfl, x0, .inl ⟨rfl, nilB _ _⟩⟩
 case round =>
  obtain ⟨A, n, c, rfl, b, hrel⟩ := hrel
  rcases hrel with ⟨rfl, o⟩ | ⟨rfl, o⟩ | ⟨rfl, hn, o⟩
  · go_wp2_with (first
     | (go_at_call 249; refine (exponent_any _ _).mono ?_; rw [he]; rintro e' w' ⟨rfl, rfl⟩)
     | (go_at_call 251; refine (oct4_any _ _ (by omega) (by omega)).mono ?_; rintro e' w3 ⟨A3, n3, c3, rfl, hn3, o3, b3⟩)
     | (refine appB (o.ext b3) o3.rd (b.tr b3) (by simp [be4]) (b.tr b3).size rfl rfl rfl rfl ?_; intro A6 n6 c6 w6 hn6 o6 (b6 : Ext _ _) g6))
    go_roundw
    case rel => exact ⟨_, _, _, rfl, b6, .inr (.inl ⟨rfl, by simpa using o6⟩)⟩
    case measure => simp [intOf]
  · go_wp2_with (first
     | (go_at_call 249; refine (exponent_any _ _).mono ?_; rw [hs]; rintro e' w' ⟨rfl, rfl⟩)
     | (go_at_call 251; refine (oct4_any _ _ (by omega) (by omega)).mono ?_; rintro e' w3 ⟨A3, n3, c3, rfl, hn3, o3, b3⟩)
     | (refine appB (o.ext b3) o3.rd (b.tr b3) (by simp [be4]) (b.tr b3).size rfl rfl rfl rfl ?_; intro A6 n6 c6 w6 hn6 o6 (b6 : Ext _ _) g6))
    go_roundw
    case rel => exact ⟨_, _, _, rfl, b6, .inr (.inr ⟨rfl, hn6, o6⟩)⟩
    case measure => simp [intOf]
  · go_wp2_with fail
    go_ret2
    exact ⟨_, _, _, rfl, hn, o, b⟩
def encK (e s : Int) : Int := if inB 0 1073741789 e = true ∧ inB 0 1073741789 s = true then 0 else 3
def dcOk (l : List UInt8) : Prop := inB 0 1073741789 (num (l.take 4)) = true ∧ inB 0 1073741789 (num (l.drop 4)) = true
instance (l : List UInt8) : Decidable (dcOk l) := inferInstanceAs (Decidable (_ ∧ _))
end Go.Proofs.YtkjplpmogfmhkaaGreatDoor
