/- Layer 9: sign and its reference. -/
import Derived.Test.YtkjplpmogfmhkaaGreatDoorCc
import Derived.Test.YtkjplpmogfmhkaaGreatDoorEv
import Derived.Test.YtkjplpmogfmhkaaGreatDoorGs
namespace Go.Proofs.YtkjplpmogfmhkaaGreatDoor
open Go.RowKit
set_option linter.unusedVariables false
set_option maxRecDepth 100000

/-- A number of the digest of a number and a message. -/
def hnum (r : Int) (l : List UInt8) (m : Int) : Int := num ((sha (be4 r ++ l)).take 7) % m
theorem hnum_bd (r : Int) (l : List UInt8) {m : Int} (h : 1 ≤ m) : 0 ≤ hnum r l m ∧ hnum r l m < m := ⟨Int.emod_nonneg _ (by omega), Int.emod_lt_of_pos _ (by omega)⟩
theorem number_h {a : Value} {l : List UInt8} (r m : Int) (w : World) (ha : Rd w a (bvs l)) (hl : l.length ≤ 140737488352000) (h0 : 0 ≤ r) (h1 : r < 4294967296) (hm : 1 ≤ m) (E : KTab w 1) :
    Calls Tryz.prog 216 #[.int .i64 r, a, .int .i64 m] w (RetQ w (.int .i64 (hnum r l m))) := by
  have ha0 := ha
  obtain ⟨A, n1, c, rfl, hn1, hnc, hcm, hA⟩ := ha.bytes
  subst hn1
  clear hA ha
  have q1 := (num_bd7 (l := (sha (be4 r ++ l)).take 7) (by rw [List.length_take]; omega)).1
  have q2 := (num_bd7 (l := (sha (be4 r ++ l)).take 7) (by rw [List.length_take]; omega)).2
  go_enter Tryz.func216, Tryz.ntmps216
  go_wp2_with fail
  refine (oct4_any _ _ (by omega) (by omega)).mono ?_
  rintro e w1 ⟨A1, n1, c1, rfl, hn1, o1, b1⟩
  have e0 : Ext w1 (w1.alloc (.cells #[.slice A1 n1 c1, .slice A l.length c] 89)) := (Below.refl _ _).alloc (Nat.le_refl _) _
  go_wp2_with (first
    | (go_at_call 264; refine (concat2_any (xs := be4 r) _ (heap_alloc_new' w1 _) (o1.rd.ext e0) (ha0.ext (b1.tr e0)) (by simp [be4]; omega)).mono ?_; rintro e w2 ⟨A2, n2, c2, rfl, hn2, o2, b2⟩)
    | (go_at_call 263; refine (digsum_any _ o2.rd (by simp [be4]; omega) (E.below ((b1.tr e0).tr b2))).mono ?_; rintro e w3 ⟨A3, n3, c3, rfl, hn3, o3, b3⟩; obtain rfl : n3 = 32 := (by rw [hn3.out, sha_length]); have hc3 := o3.rd.caps; have h7 : 7 ≤ c3 := (by omega); clear hc3)
    | (go_at_call 262; refine (number_any _ (o3.rd.take 7 (by omega)) (by rw [List.length_take]; omega)).mono ?_; rintro e w4 ⟨rfl, rfl⟩))
  go_ret
  exact ⟨rfl, ((b1.tr e0).tr b2).tr b3⟩
theorem challenge_any {a : Value} {l : List UInt8} (r : Int) (w : World) (ha : Rd w a (bvs l)) (hl : l.length ≤ 140737488352000) (E : KTab w 0) :
    Calls Tryz.prog 223 #[.int .i64 r, a] w (RetQ w (.int .i64 (hnum r l 1073741789))) := by
  have ha0 := ha
  obtain ⟨A, n1, c, rfl, hn1, hnc, hcm, hA⟩ := ha.bytes
  subst hn1
  clear hA ha
  go_enter Tryz.func223, Tryz.ntmps223
  go_wp2_with (first
    | (go_at_call 222; refine (four_any _ _).mono ?_; rintro e w1 ⟨A1, n1, c1, rfl, hn1, o1, b1⟩)
    | (go_at_call 221; refine (join_any _ o1.rd (ha0.ext b1) (by simp [be4]; omega)).mono ?_; rintro e w2 ⟨A2, n2, c2, rfl, hn2, o2, b2⟩)
    | (go_at_call 220; refine (refsum_any _ o2.rd (by simp [be4]; omega) (E.below (b1.tr b2))).mono ?_; rintro e w3 ⟨A3, n3, c3, rfl, hn3, o3, b3⟩)
    | (go_at_call 219; refine (refnum7_any _ _ o3.rd (by rw [sha_length]; omega) (by omega)).mono ?_; rintro e w4 ⟨rfl, rfl⟩))
  go_ret
  exact ⟨rfl, (b1.tr b2).tr b3⟩

/-- The signature of a message. -/
def sigN (k : Int) (l : List UInt8) : Int := 1 + hnum k l 1073741788
def sigE (k : Int) (l : List UInt8) : Int := hnum (pw 4 (sigN k l)) l 1073741789
def sigS (k : Int) (l : List UInt8) : Int := (sigN k l + sigE k l * k) % 1073741789
theorem sigN_bd (k : Int) (l : List UInt8) : 1 ≤ sigN k l ∧ sigN k l < 1073741789 := by
  obtain ⟨a, b⟩ := hnum_bd k l (m := 1073741788) (by omega)
  unfold sigN; omega
theorem sigE_bd (k : Int) (l : List UInt8) : 0 ≤ sigE k l ∧ sigE k l < 1073741789 := hnum_bd _ l (by omega)
theorem sigS_bd (k : Int) (l : List UInt8) : 0 ≤ sigS k l ∧ sigS k l < 1073741789 := by unfold sigS; omega
/-- A call that returns a signature and a number. -/
def sgV (e s k : Int) : Value := .tuple #[.agg #[.int .i64 e, .int .i64 s], .int .i64 k]
theorem in4 : inB 1 2147483579 4 = true := inB_yes (by omega) (by omega)
set_option maxHeartbeats 400000 in
theorem sign_yes {a : Value} {l : List UInt8} (k : Int) (w : World) (hk : inB 1 1073741789 k = true) (ha : Rd w a (bvs l)) (hl : l.length ≤ 140737488352000) (E : KTab w 1) :
    Calls Tryz.prog 156 #[.int .i64 k, a] w (RetQ w (sgV (sigE k l) (sigS k l) 0)) := by
  obtain ⟨k0, k1⟩ := inB_true hk
  have ha0 := ha
  obtain ⟨A, n1, c, rfl, hn1, hnc, hcm, hA⟩ := ha.bytes
  subst hn1
  clear hA ha
  have e0 : Ext w (w.alloc (.cells #[.int .i64 0, .int .i64 0] 33)) := (Below.refl _ _).alloc (Nat.le_refl _) _
  go_enter Tryz.func156, Tryz.ntmps156
  go_wp2_with fail
  refine (public_yes _ _ hk).mono ?_
  rintro e w' ⟨rfl, rfl⟩
  go_wp2_with fail
  refine (number_h _ _ _ (ha0.ext e0) (by omega) (by omega) (by omega) (by omega) (E.below e0)).mono ?_
  rintro e w1 ⟨rfl, b1⟩
  obtain ⟨n0, n1⟩ := sigN_bd k l
  have HN := Lib.hid (show 1 + hnum k l 1073741788 = sigN k l from rfl)
  obtain ⟨hb0, hb1⟩ := hnum_bd k l (m := 1073741788) (by omega)
  go_wp2_with fail
  rw [HN.out]
  refine (gpower_yes _ _ _ in4 (by omega) (by omega)).mono ?_
  rintro e w' ⟨rfl, rfl⟩
  have p0 := pw_lo 4 (sigN k l)
  have p1 := pw_hi 4 (sigN k l)
  clear hb0 hb1
  have b01 := e0.tr b1
  go_wp2_with fail
  refine (number_h _ _ _ (ha0.ext b01) (by omega) (by omega) (by omega) (by omega) (E.below b01)).mono ?_
  rw [show hnum (pw 4 (sigN k l)) l 1073741789 = sigE k l from rfl]
  rintro e w2 ⟨rfl, b2⟩
  obtain ⟨g0, g1⟩ := sigE_bd k l
  obtain ⟨m0, m1⟩ := mul_sq g0 (by omega) (by omega : 0 ≤ k) (by omega)
  have HS := Lib.hid (show (sigN k l + sigE k l * k) % 1073741789 = sigS k l from rfl)
  have hlt : w.heap.size < (w.alloc (.cells #[.int .i64 0, .int .i64 0] 33)).heap.size := by simp
  have c0 : w2.cell? ⟨w.heap.size, 0, none⟩ = some (.int .i64 0) := ((b1.tr b2).cell (p := ⟨w.heap.size, 0, none⟩) hlt).trans (by go_simp)
  have c1 : w2.cell? ⟨w.heap.size, 1, none⟩ = some (.int .i64 0) := ((b1.tr b2).cell (p := ⟨w.heap.size, 1, none⟩) hlt).trans (by go_simp)
  have f0 : w2.frozen? ⟨w.heap.size, 0, none⟩ = false := ((b1.tr b2).frozen (p := ⟨w.heap.size, 0, none⟩) hlt).trans (by go_simp)
  have f1 : w2.frozen? ⟨w.heap.size, 1, none⟩ = false := ((b1.tr b2).frozen (p := ⟨w.heap.size, 1, none⟩) hlt).trans (by go_simp)
  have b02 := b01.tr b2
  go_wp2_with fail
  rw [HS.out]
  refine bodyPost_ret (v := sgV (sigE k l) (sigS k l) 0) ?_ rfl ⟨rfl, (b02.setCell (p := ⟨w.heap.size, 0, none⟩) (Nat.le_refl _) _).setCell (p := ⟨w.heap.size, 1, none⟩) (Nat.le_refl _) _⟩
  simp [results, Tryz.results156, go_sem, c0, c1, sgV]
theorem sign_no {a : Value} {l : List UInt8} (k : Int) (w : World) (hk : inB 1 1073741789 k = false) (ha : Rd w a (bvs l)) :
    Calls Tryz.prog 156 #[.int .i64 k, a] w (RetQ w (sgV 0 0 3)) := by
  go_enter Tryz.func156, Tryz.ntmps156
  go_wp2_with (go_at_call 215; refine (public_no _ _ hk).mono ?_; rintro e w' ⟨rfl, rfl⟩)
  refine bodyPost_ret (v := sgV 0 0 3) ?_ rfl ⟨rfl, (Below.refl _ _).alloc (Nat.le_refl _) _⟩
  simp [results, Tryz.results156, go_sem, sgV]
set_option maxHeartbeats 400000 in
theorem refsign_yes {a : Value} {l : List UInt8} (k : Int) (w : World) (hk : inB 1 1073741789 k = true) (ha : Rd w a (bvs l)) (hl : l.length ≤ 140737488352000) (E : KTab w 0) :
    Calls Tryz.prog 157 #[.int .i64 k, a] w (RetQ w (sgV (sigE k l) (sigS k l) 0)) := by
  obtain ⟨k0, k1⟩ := inB_true hk
  have ha0 := ha
  obtain ⟨A, n1, c, rfl, hn1, hnc, hcm, hA⟩ := ha.bytes
  subst hn1
  clear hA ha
  have e0 : Ext w (w.alloc (.cells #[.int .i64 0, .int .i64 0] 33)) := (Below.refl _ _).alloc (Nat.le_refl _) _
  obtain ⟨hb0, hb1⟩ := hnum_bd k l (m := 1073741788) (by omega)
  go_enter Tryz.func157, Tryz.ntmps157
  go_wp2_with (first
    | (go_at_call 218; refine (refsecretB_any _ _).mono ?_; rw [hk]; rintro e w' ⟨rfl, rfl⟩)
    | (go_at_call 222; refine (four_any _ _).mono ?_; rintro e w1 ⟨A1, n1, c1, rfl, hn1, o1, b1⟩)
    | (go_at_call 221; refine (join_any _ o1.rd (ha0.ext (e0.tr b1)) (by simp [be4]; omega)).mono ?_; rintro e w2 ⟨A2, n2, c2, rfl, hn2, o2, b2⟩)
    | (go_at_call 220; refine (refsum_any _ o2.rd (by simp [be4]; omega) (E.below ((e0.tr b1).tr b2))).mono ?_; rintro e w3 ⟨A3, n3, c3, rfl, hn3, o3, b3⟩)
    | (go_at_call 219; refine (refnum7_any _ _ o3.rd (by rw [sha_length]; omega) (by omega)).mono ?_; rw [show num ((sha (be4 k ++ l)).take 7) % 1073741788 = hnum k l 1073741788 from rfl]; rintro e w4 ⟨rfl, rfl⟩)
    | fail)
  obtain ⟨n0, n1⟩ := sigN_bd k l
  have HN := Lib.hid (show 1 + hnum k l 1073741788 = sigN k l from rfl)
  rw [HN.out]
  refine (refpow_any _ _ _ (by omega) (by omega) (by omega) (by omega)).mono ?_
  rintro e w' ⟨rfl, rfl⟩
  have p0 := pw_lo 4 (sigN k l)
  have p1 := pw_hi 4 (sigN k l)
  clear hb0 hb1
  have b13 := (b1.tr b2).tr b3
  have b03 := e0.tr b13
  go_wp2_with fail
  refine (challenge_any _ _ (ha0.ext b03) (by omega) (E.below b03)).mono ?_
  rw [show hnum (pw 4 (sigN k l)) l 1073741789 = sigE k l from rfl]
  rintro e w4 ⟨rfl, b4⟩
  obtain ⟨g0, g1⟩ := sigE_bd k l
  obtain ⟨m0, m1⟩ := mul_sq g0 (by omega) (by omega : 0 ≤ k) (by omega)
  have HS := Lib.hid (show (sigN k l + sigE k l * k) % 1073741789 = sigS k l from rfl)
  have hlt : w.heap.size < (w.alloc (.cells #[.int .i64 0, .int .i64 0] 33)).heap.size := by simp
  have c0 : w4.cell? ⟨w.heap.size, 0, none⟩ = some (.int .i64 0) := ((b13.tr b4).cell (p := ⟨w.heap.size, 0, none⟩) hlt).trans (by go_simp)
  have c1 : w4.cell? ⟨w.heap.size, 1, none⟩ = some (.int .i64 0) := ((b13.tr b4).cell (p := ⟨w.heap.size, 1, none⟩) hlt).trans (by go_simp)
  have f0 : w4.frozen? ⟨w.heap.size, 0, none⟩ = false := ((b13.tr b4).frozen (p := ⟨w.heap.size, 0, none⟩) hlt).trans (by go_simp)
  have f1 : w4.frozen? ⟨w.heap.size, 1, none⟩ = false := ((b13.tr b4).frozen (p := ⟨w.heap.size, 1, none⟩) hlt).trans (by go_simp)
  have b04 := b03.tr b4
  go_wp2_with fail
  rw [HS.out]
  refine bodyPost_ret (v := sgV (sigE k l) (sigS k l) 0) ?_ rfl ⟨rfl, (b04.setCell (p := ⟨w.heap.size, 0, none⟩) (Nat.le_refl _) _).setCell (p := ⟨w.heap.size, 1, none⟩) (Nat.le_refl _) _⟩
  simp [results, Tryz.results157, go_sem, c0, c1, sgV]
theorem refsign_no {a : Value} {l : List UInt8} (k : Int) (w : World) (hk : inB 1 1073741789 k = false) (ha : Rd w a (bvs l)) :
    Calls Tryz.prog 157 #[.int .i64 k, a] w (RetQ w (sgV 0 0 3)) := by
  go_enter Tryz.func157, Tryz.ntmps157
  go_wp2_with (go_at_call 218; refine (refsecretB_any _ _).mono ?_; rw [hk]; rintro e w' ⟨rfl, rfl⟩)
  refine bodyPost_ret (v := sgV 0 0 3) ?_ rfl ⟨rfl, (Below.refl _ _).alloc (Nat.le_refl _) _⟩
  simp [results, Tryz.results157, go_sem, sgV]
end Go.Proofs.YtkjplpmogfmhkaaGreatDoor
