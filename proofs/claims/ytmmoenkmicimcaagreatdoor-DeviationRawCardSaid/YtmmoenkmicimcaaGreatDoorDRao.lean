/- Parts Sg Sv Sx Se Sd Ct Nt Za Zb Cq Ck Nk Ge Zd Va of the proof. -/
import Derived.Test.YtmmoenkmicimcaaGreatDoorDRan
import Derived.Test.YtmmoenkmicimcaaGreatDoorDRak
import Derived.Test.YtmmoenkmicimcaaGreatDoorDRaj
import Derived.Test.YtmmoenkmicimcaaGreatDoorDRae
import Derived.Test.YtmmoenkmicimcaaGreatDoorDRac
import Derived.Test.YtmmoenkmicimcaaGreatDoorDRai
import Derived.Test.YtmmoenkmicimcaaGreatDoorDRag
namespace Go.Proofs.YtmmoenkmicimcaaGreatDoor
open Go.RowKit
set_option linter.unusedVariables false
set_option maxRecDepth 100000
/-- A number of the digest of a number and a message. -/
def hnum (r : Int) (l : List UInt8) (m : Int) : Int := num ((sha (be4 r ++ l)).take 7) % m
theorem hnum_bd (r : Int) (l : List UInt8) {m : Int} (h : 1 ≤ m) : 0 ≤ hnum r l m ∧ hnum r l m < m := ⟨Int.emod_nonneg _ (by omega), Int.emod_lt_of_pos _ (by omega)⟩
theorem number_h {a : Value} {l : List UInt8} (r m : Int) (w : World) (ha : Rd w a (bvs l)) (hl : l.length ≤ 140737488352000) (h0 : 0 ≤ r) (h1 : r < 4294967296) (hm : 1 ≤ m) (E : KTab w 1) :
    Calls Tryz.prog 98 #[.int .i64 r, a, .int .i64 m] w (RetQ w (.int .i64 (hnum r l m))) := by
  have ha0 := ha
  obtain ⟨A, n1, c, rfl, hn1, hnc, hcm, hA⟩ := ha.bytes
  subst hn1
  clear hA ha
  have q1 := (num_bd7 (l := (sha (be4 r ++ l)).take 7) (by rw [List.length_take]; omega)).1
  have q2 := (num_bd7 (l := (sha (be4 r ++ l)).take 7) (by rw [List.length_take]; omega)).2
  go_enter Tryz.func98, Tryz.ntmps98
  go_wp2_with fail
  refine (oct4_any _ _ (by omega) (by omega)).mono ?_
  rintro e w1 ⟨A1, n1, c1, rfl, hn1, o1, b1⟩
  have e0 : Ext w1 (w1.alloc (.cells #[.slice A1 n1 c1, .slice A l.length c] 48)) := (Below.refl _ _).alloc (Nat.le_refl _) _
  go_wp2_with (first
    | (go_at_call 142; refine (concat2_any (xs := be4 r) _ (heap_alloc_new' w1 _) (o1.rd.ext e0) (ha0.ext (b1.tr e0)) (by simp [be4]; omega)).mono ?_; rintro e w2 ⟨A2, n2, c2, rfl, hn2, o2, b2⟩)
    | (go_at_call 141; refine (digsum_any _ o2.rd (by simp [be4]; omega) (E.below ((b1.tr e0).tr b2))).mono ?_; rintro e w3 ⟨A3, n3, c3, rfl, hn3, o3, b3⟩; obtain rfl : n3 = 32 := (by rw [hn3.out, sha_length]); have hc3 := o3.rd.caps; have h7 : 7 ≤ c3 := (by omega); clear hc3)
    | (go_at_call 140; refine (number_any _ (o3.rd.take 7 (by omega)) (by rw [List.length_take]; omega)).mono ?_; rintro e w4 ⟨rfl, rfl⟩))
  go_ret
  exact ⟨rfl, ((b1.tr e0).tr b2).tr b3⟩
theorem challenge_any {a : Value} {l : List UInt8} (r : Int) (w : World) (ha : Rd w a (bvs l)) (hl : l.length ≤ 140737488352000) (E : KTab w 0) :
    Calls Tryz.prog 105 #[.int .i64 r, a] w (RetQ w (.int .i64 (hnum r l 1073741789))) := by
  have ha0 := ha
  obtain ⟨A, n1, c, rfl, hn1, hnc, hcm, hA⟩ := ha.bytes
  subst hn1
  clear hA ha
  go_enter Tryz.func105, Tryz.ntmps105
  go_wp2_with (first
    | (go_at_call 104; refine (four_any _ _).mono ?_; rintro e w1 ⟨A1, n1, c1, rfl, hn1, o1, b1⟩)
    | (go_at_call 103; refine (join_any _ o1.rd (ha0.ext b1) (by simp [be4]; omega)).mono ?_; rintro e w2 ⟨A2, n2, c2, rfl, hn2, o2, b2⟩)
    | (go_at_call 102; refine (refsum_any _ o2.rd (by simp [be4]; omega) (E.below (b1.tr b2))).mono ?_; rintro e w3 ⟨A3, n3, c3, rfl, hn3, o3, b3⟩)
    | (go_at_call 101; refine (refnum7_any _ _ o3.rd (by rw [sha_length]; omega) (by omega)).mono ?_; rintro e w4 ⟨rfl, rfl⟩))
  go_ret
  exact ⟨rfl, (b1.tr b2).tr b3⟩

/-- The signature of a message. -/
def sigN (k : Int) (l : List UInt8) : Int := 1 + hnum k l 1073741788
def sigE (k : Int) (l : List UInt8) : Int := hnum (pw 4 (sigN k l)) l 1073741789
def sigS (k : Int) (l : List UInt8) : Int := (sigN k l + sigE k l * k) % 1073741789
theorem sigN_bd (k : Int) (l : List UInt8) : 1 ≤ sigN k l ∧ sigN k l < 1073741789 := by
  obtain ⟨a, b⟩ := hnum_bd k l (m := 1073741788) (by omega)
  unfold sigN; omega
theorem sigE_bd (k : Int) (l : List UInt8) : 0 ≤ sigE k l ∧ sigE k l < 1073741789 := hnum_bd _ l (by omega)
theorem sigS_bd (k : Int) (l : List UInt8) : 0 ≤ sigS k l ∧ sigS k l < 1073741789 := by unfold sigS; omega
/-- A call that returns a signature and a number. -/
def sgV (e s k : Int) : Value := .tuple #[.agg #[.int .i64 e, .int .i64 s], .int .i64 k]
theorem in4 : inB 1 2147483579 4 = true := inB_yes (by omega) (by omega)
set_option maxHeartbeats 400000 in
theorem sign_yes {a : Value} {l : List UInt8} (k : Int) (w : World) (hk : inB 1 1073741789 k = true) (ha : Rd w a (bvs l)) (hl : l.length ≤ 140737488352000) (E : KTab w 1) :
    Calls Tryz.prog 54 #[.int .i64 k, a] w (RetQ w (sgV (sigE k l) (sigS k l) 0)) := by
  obtain ⟨k0, k1⟩ := inB_true hk
  have ha0 := ha
  obtain ⟨A, n1, c, rfl, hn1, hnc, hcm, hA⟩ := ha.bytes
  subst hn1
  clear hA ha
  have e0 : Ext w (w.alloc (.cells #[.int .i64 0, .int .i64 0] 37)) := (Below.refl _ _).alloc (Nat.le_refl _) _
  go_enter Tryz.func54, Tryz.ntmps54
  go_wp2_with fail
  refine (public_yes _ _ hk).mono ?_
  rintro e w' ⟨rfl, rfl⟩
  go_wp2_with fail
  refine (number_h _ _ _ (ha0.ext e0) (by omega) (by omega) (by omega) (by omega) (E.below e0)).mono ?_
  rintro e w1 ⟨rfl, b1⟩
  obtain ⟨n0, n1⟩ := sigN_bd k l
  have HN := Lib.hid (show 1 + hnum k l 1073741788 = sigN k l from rfl)
  obtain ⟨hb0, hb1⟩ := hnum_bd k l (m := 1073741788) (by omega)
  go_wp2_with fail
  rw [HN.out]
  refine (gpower_yes _ _ _ in4 (by omega) (by omega)).mono ?_
  rintro e w' ⟨rfl, rfl⟩
  have p0 := pw_lo 4 (sigN k l)
  have p1 := pw_hi 4 (sigN k l)
  clear hb0 hb1
  have b01 := e0.tr b1
  go_wp2_with fail
  refine (number_h _ _ _ (ha0.ext b01) (by omega) (by omega) (by omega) (by omega) (E.below b01)).mono ?_
  rw [show hnum (pw 4 (sigN k l)) l 1073741789 = sigE k l from rfl]
  rintro e w2 ⟨rfl, b2⟩
  obtain ⟨g0, g1⟩ := sigE_bd k l
  obtain ⟨m0, m1⟩ := mul_sq g0 (by omega) (by omega : 0 ≤ k) (by omega)
  have HS := Lib.hid (show (sigN k l + sigE k l * k) % 1073741789 = sigS k l from rfl)
  have hlt : w.heap.size < (w.alloc (.cells #[.int .i64 0, .int .i64 0] 37)).heap.size := by simp
  have c0 : w2.cell? ⟨w.heap.size, 0, none⟩ = some (.int .i64 0) := ((b1.tr b2).cell (p := ⟨w.heap.size, 0, none⟩) hlt).trans (by go_simp)
  have c1 : w2.cell? ⟨w.heap.size, 1, none⟩ = some (.int .i64 0) := ((b1.tr b2).cell (p := ⟨w.heap.size, 1, none⟩) hlt).trans (by go_simp)
  have f0 : w2.frozen? ⟨w.heap.size, 0, none⟩ = false := ((b1.tr b2).frozen (p := ⟨w.heap.size, 0, none⟩) hlt).trans (by go_simp)
  have f1 : w2.frozen? ⟨w.heap.size, 1, none⟩ = false := ((b1.tr b2).frozen (p := ⟨w.heap.size, 1, none⟩) hlt).trans (by go_simp)
  have b02 := b01.tr b2
  go_wp2_with fail
  rw [HS.out]
  refine bodyPost_ret (v := sgV (sigE k l) (sigS k l) 0) ?_ rfl ⟨rfl, (b02.setCell (p := ⟨w.heap.size, 0, none⟩) (Nat.le_refl _) _).setCell (p := ⟨w.heap.size, 1, none⟩) (Nat.le_refl _) _⟩
  simp [results, Tryz.results54, go_sem, c0, c1, sgV]
theorem sign_no {a : Value} {l : List UInt8} (k : Int) (w : World) (hk : inB 1 1073741789 k = false) (ha : Rd w a (bvs l)) :
    Calls Tryz.prog 54 #[.int .i64 k, a] w (RetQ w (sgV 0 0 3)) := by
  go_enter Tryz.func54, Tryz.ntmps54
  go_wp2_with (go_at_call 97; refine (public_no _ _ hk).mono ?_; rintro e w' ⟨rfl, rfl⟩)
  refine bodyPost_ret (v := sgV 0 0 3) ?_ rfl ⟨rfl, (Below.refl _ _).alloc (Nat.le_refl _) _⟩
  simp [results, Tryz.results54, go_sem, sgV]
set_option maxHeartbeats 400000 in
theorem refsign_yes {a : Value} {l : List UInt8} (k : Int) (w : World) (hk : inB 1 1073741789 k = true) (ha : Rd w a (bvs l)) (hl : l.length ≤ 140737488352000) (E : KTab w 0) :
    Calls Tryz.prog 55 #[.int .i64 k, a] w (RetQ w (sgV (sigE k l) (sigS k l) 0)) := by
  obtain ⟨k0, k1⟩ := inB_true hk
  have ha0 := ha
  obtain ⟨A, n1, c, rfl, hn1, hnc, hcm, hA⟩ := ha.bytes
  subst hn1
  clear hA ha
  have e0 : Ext w (w.alloc (.cells #[.int .i64 0, .int .i64 0] 37)) := (Below.refl _ _).alloc (Nat.le_refl _) _
  obtain ⟨hb0, hb1⟩ := hnum_bd k l (m := 1073741788) (by omega)
  go_enter Tryz.func55, Tryz.ntmps55
  go_wp2_with (first
    | (go_at_call 100; refine (refsecretB_any _ _).mono ?_; rw [hk]; rintro e w' ⟨rfl, rfl⟩)
    | (go_at_call 104; refine (four_any _ _).mono ?_; rintro e w1 ⟨A1, n1, c1, rfl, hn1, o1, b1⟩)
    | (go_at_call 103; refine (join_any _ o1.rd (ha0.ext (e0.tr b1)) (by simp [be4]; omega)).mono ?_; rintro e w2 ⟨A2, n2, c2, rfl, hn2, o2, b2⟩)
    | (go_at_call 102; refine (refsum_any _ o2.rd (by simp [be4]; omega) (E.below ((e0.tr b1).tr b2))).mono ?_; rintro e w3 ⟨A3, n3, c3, rfl, hn3, o3, b3⟩)
    | (go_at_call 101; refine (refnum7_any _ _ o3.rd (by rw [sha_length]; omega) (by omega)).mono ?_; rw [show num ((sha (be4 k ++ l)).take 7) % 1073741788 = hnum k l 1073741788 from rfl]; rintro e w4 ⟨rfl, rfl⟩)
    | fail)
  obtain ⟨n0, n1⟩ := sigN_bd k l
  have HN := Lib.hid (show 1 + hnum k l 1073741788 = sigN k l from rfl)
  rw [HN.out]
  refine (refpow_any _ _ _ (by omega) (by omega) (by omega) (by omega)).mono ?_
  rintro e w' ⟨rfl, rfl⟩
  have p0 := pw_lo 4 (sigN k l)
  have p1 := pw_hi 4 (sigN k l)
  clear hb0 hb1
  have b13 := (b1.tr b2).tr b3
  have b03 := e0.tr b13
  go_wp2_with fail
  refine (challenge_any _ _ (ha0.ext b03) (by omega) (E.below b03)).mono ?_
  rw [show hnum (pw 4 (sigN k l)) l 1073741789 = sigE k l from rfl]
  rintro e w4 ⟨rfl, b4⟩
  obtain ⟨g0, g1⟩ := sigE_bd k l
  obtain ⟨m0, m1⟩ := mul_sq g0 (by omega) (by omega : 0 ≤ k) (by omega)
  have HS := Lib.hid (show (sigN k l + sigE k l * k) % 1073741789 = sigS k l from rfl)
  have hlt : w.heap.size < (w.alloc (.cells #[.int .i64 0, .int .i64 0] 37)).heap.size := by simp
  have c0 : w4.cell? ⟨w.heap.size, 0, none⟩ = some (.int .i64 0) := ((b13.tr b4).cell (p := ⟨w.heap.size, 0, none⟩) hlt).trans (by go_simp)
  have c1 : w4.cell? ⟨w.heap.size, 1, none⟩ = some (.int .i64 0) := ((b13.tr b4).cell (p := ⟨w.heap.size, 1, none⟩) hlt).trans (by go_simp)
  have f0 : w4.frozen? ⟨w.heap.size, 0, none⟩ = false := ((b13.tr b4).frozen (p := ⟨w.heap.size, 0, none⟩) hlt).trans (by go_simp)
  have f1 : w4.frozen? ⟨w.heap.size, 1, none⟩ = false := ((b13.tr b4).frozen (p := ⟨w.heap.size, 1, none⟩) hlt).trans (by go_simp)
  have b04 := b03.tr b4
  go_wp2_with fail
  rw [HS.out]
  refine bodyPost_ret (v := sgV (sigE k l) (sigS k l) 0) ?_ rfl ⟨rfl, (b04.setCell (p := ⟨w.heap.size, 0, none⟩) (Nat.le_refl _) _).setCell (p := ⟨w.heap.size, 1, none⟩) (Nat.le_refl _) _⟩
  simp [results, Tryz.results55, go_sem, c0, c1, sgV]
theorem refsign_no {a : Value} {l : List UInt8} (k : Int) (w : World) (hk : inB 1 1073741789 k = false) (ha : Rd w a (bvs l)) :
    Calls Tryz.prog 55 #[.int .i64 k, a] w (RetQ w (sgV 0 0 3)) := by
  go_enter Tryz.func55, Tryz.ntmps55
  go_wp2_with (go_at_call 100; refine (refsecretB_any _ _).mono ?_; rw [hk]; rintro e w' ⟨rfl, rfl⟩)
  refine bodyPost_ret (v := sgV 0 0 3) ?_ rfl ⟨rfl, (Below.refl _ _).alloc (Nat.le_refl _) _⟩
  simp [results, Tryz.results55, go_sem, sgV]
end Go.Proofs.YtmmoenkmicimcaaGreatDoor
namespace Go.Proofs.YtmmoenkmicimcaaGreatDoor
open Go.RowKit
set_option linter.unusedVariables false
set_option maxRecDepth 100000
/-- What Verify reports. -/
def verB (p : Int) (l : List UInt8) (e s : Int) : Bool := isElem p && inB 0 1073741789 e && inB 0 1073741789 s && (hnum (pw 4 s * pw p (1073741789 - e) % 2147483579) l 1073741789 == e)
theorem verB_p {p : Int} {l : List UInt8} {e s : Int} (h : isElem p = false) : verB p l e s = false := by simp [verB, h]
theorem verB_e {p : Int} {l : List UInt8} {e s : Int} (h : inB 0 1073741789 e = false) : verB p l e s = false := by simp [verB, h]
theorem verB_s {p : Int} {l : List UInt8} {e s : Int} (h : inB 0 1073741789 s = false) : verB p l e s = false := by simp [verB, h]
theorem verB_eq {p : Int} {l : List UInt8} {e s : Int} (h1 : isElem p = true) (h2 : inB 0 1073741789 e = true) (h3 : inB 0 1073741789 s = true) : verB p l e s = (hnum (pw 4 s * pw p (1073741789 - e) % 2147483579) l 1073741789 == e) := by simp [verB, h1, h2, h3]
theorem multiply_any (x y : Int) (w : World) (x0 : 0 ≤ x) (x1 : x < 2147483579) (y0 : 0 ≤ y) (y1 : y < 2147483579) : Calls Tryz.prog 123 #[.int .i64 x, .int .i64 y] w fun e w' => (∃ k, e = .returned (.tuple #[.int .i64 (x * y % 2147483579), .int .i64 k])) ∧ w = w' := by
  by_cases hx : x = 0
  · subst hx
    have h : inB 1 2147483579 0 = false := inB_no (by omega)
    rw [Int.zero_mul]
    go_enter Tryz.func123, Tryz.ntmps123
    go_wp2_with (go_at_call 143; refine (residue_any _ _).mono ?_; rw [h]; rintro e w' ⟨rfl, rfl⟩)
    go_ret2
    exact ⟨⟨_, rfl⟩, rfl⟩
  · have hi : inB 1 2147483579 x = true := inB_yes (by omega) x1
    by_cases hy : y = 0
    · subst hy
      have h : inB 1 2147483579 0 = false := inB_no (by omega)
      rw [Int.mul_zero]
      go_enter Tryz.func123, Tryz.ntmps123
      go_wp2_with fail
      refine (residue_any _ _).mono ?_
      rw [hi]
      rintro e w' ⟨rfl, rfl⟩
      go_wp2_with fail
      refine (residue_any _ _).mono ?_
      rw [h]
      rintro e w' ⟨rfl, rfl⟩
      go_wp2_with fail
      go_ret2
      exact ⟨⟨_, rfl⟩, rfl⟩
    · exact (multiply_yes x y w hi (inB_yes (by omega) y1)).mono fun e w' ⟨h1, h2⟩ => ⟨⟨_, h1⟩, h2⟩
set_option maxHeartbeats 1000000 in
theorem verify_any {a : Value} {l : List UInt8} (p e s : Int) (w : World) (ha : Rd w a (bvs l)) (hl : l.length ≤ 140737488352000) (E : KTab w 1) :
    Calls Tryz.prog 79 #[.int .i64 p, a, .agg #[.int .i64 e, .int .i64 s]] w (RetQ w (.bool (verB p l e s))) := by
  have e0 : Ext w (w.alloc (.cells #[.int .i64 e, .int .i64 s] 37)) := (Below.refl _ _).alloc (Nat.le_refl _) _
  by_cases hp : isElem p = true
  · by_cases he : inB 0 1073741789 e = true
    · by_cases hs : inB 0 1073741789 s = true
      · rw [verB_eq hp he hs]
        obtain ⟨p0, p1⟩ := isElem_in hp
        have hpi := inB_yes p0 p1
        obtain ⟨g0, g1⟩ := inB_true he
        obtain ⟨s0, s1⟩ := inB_true hs
        have HL := Lib.hid he
        clear he
        have ha0 := ha
        obtain ⟨A, n1, c, rfl, hn1, hnc, hcm, hA⟩ := ha.bytes
        subst hn1
        clear hA ha
        go_enter Tryz.func79, Tryz.ntmps79
        go_wp2_with fail
        refine (element_any _ _).mono ?_
        rw [hp]
        rintro e' w' ⟨rfl, rfl⟩
        go_wp2_with fail
        refine (exponent_any _ _).mono ?_
        rw [HL.out]
        rintro e' w' ⟨rfl, rfl⟩
        go_wp2_with fail
        refine (exponent_any _ _).mono ?_
        rw [hs]
        rintro e' w' ⟨rfl, rfl⟩
        go_wp2_with fail
        refine (gpower_yes _ _ _ in4 (by omega) (by omega)).mono ?_
        rintro e' w' ⟨rfl, rfl⟩
        go_wp2_with fail
        refine (gpower_yes _ _ _ hpi (by omega) (by omega)).mono ?_
        rintro e' w' ⟨rfl, rfl⟩
        have q0 := pw_lo 4 s
        have q1 := pw_hi 4 s
        have q2 := pw_lo p (1073741789 - e)
        have q3 := pw_hi p (1073741789 - e)
        go_wp2_with fail
        refine (multiply_any _ _ _ q0 q1 q2 q3).mono ?_
        rintro e' w' ⟨⟨k, rfl⟩, rfl⟩
        obtain ⟨r0, r1⟩ := mul_bd (a := pw 4 s) (b := pw p (1073741789 - e))
        go_wp2_with fail
        have cs : ∀ W : World, Ext (w.alloc (.cells #[.int .i64 e, .int .i64 s] 37)) W → W.cell? ⟨w.heap.size, 0, none⟩ = some (.int .i64 e) := fun W h => (h.cell (p := ⟨w.heap.size, 0, none⟩) (by simp)).trans (by go_simp)
        have CS := Lib.hid cs
        clear cs
        refine wp_region_X 5 (by kernel_rfl) (by kernel_rfl) ?_
        simp only [List.take_succ_cons, List.take_zero, List.drop_succ_cons, List.drop_zero]
        intro w1 hw1
        have L : ∀ m : Lt w1, Ext (w.alloc (.cells #[.int .i64 e, .int .i64 s] 37)) m.1 := fun m => hw1.tr m.2
        have cs : ∀ m : Lt w1, m.1.cell? ⟨w.heap.size, 0, none⟩ = some (.int .i64 e) := fun m => CS.out _ (L m)
        repeat (refine wpX_pure rfl rfl rfl rfl rfl (fun K hK => ?_); go_big_quiet_op; refine hK _ ?_; clear hK K)
        refine wpX_callFn (.int .i64 (hnum (pw 4 s * pw p (1073741789 - e) % 2147483579) l 1073741789)) rfl rfl rfl rfl (by kernel_rfl) rfl rfl (fun m => number_h _ _ _ (ha0.ext (e0.tr (L m))) (by omega) (by omega) (by omega) (by omega) (E.below (e0.tr (L m)))) ?_
        simp only [Act.put, List.setIfInBounds_toArray, List.set_cons_zero, List.set_cons_succ]
        repeat (refine wpX_pure rfl rfl rfl rfl rfl (fun K hK => ?_); go_big_quiet_op; refine hK _ ?_; clear hK K)
        refine wpX_end0 (fun m => ?_)
        have Lm := L m
        obtain ⟨wy, hwy⟩ := m
        clear L cs
        go_wp2_with fail
        go_ret
        exact ⟨rfl, e0.tr Lm⟩
      · have hs' := not_true hs
        rw [verB_s hs']
        go_enter Tryz.func79, Tryz.ntmps79
        go_wp2_with fail
        refine (element_any _ _).mono ?_
        rw [hp]
        rintro e' w' ⟨rfl, rfl⟩
        go_wp2_with fail
        refine (exponent_any _ _).mono ?_
        rw [he]
        rintro e' w' ⟨rfl, rfl⟩
        go_wp2_with fail
        refine (exponent_any _ _).mono ?_
        rw [hs']
        rintro e' w' ⟨rfl, rfl⟩
        go_wp2_with fail
        go_ret
        exact ⟨rfl, e0⟩
    · have he' := not_true he
      rw [verB_e he']
      go_enter Tryz.func79, Tryz.ntmps79
      go_wp2_with fail
      refine (element_any _ _).mono ?_
      rw [hp]
      rintro e' w' ⟨rfl, rfl⟩
      go_wp2_with fail
      refine (exponent_any _ _).mono ?_
      rw [he']
      rintro e' w' ⟨rfl, rfl⟩
      go_wp2_with fail
      go_ret
      exact ⟨rfl, e0⟩
  · have hp' := not_true hp
    rw [verB_p hp']
    go_enter Tryz.func79, Tryz.ntmps79
    go_wp2_with fail
    refine (element_any _ _).mono ?_
    rw [hp']
    rintro e' w' ⟨rfl, rfl⟩
    go_wp2_with fail
    go_ret
    exact ⟨rfl, e0⟩
end Go.Proofs.YtmmoenkmicimcaaGreatDoor
namespace Go.Proofs.YtmmoenkmicimcaaGreatDoor
open Go.RowKit
set_option linter.unusedVariables false
set_option maxRecDepth 100000
/-- A signature is right under the public key of its secret. -/
theorem sig_verifies {k : Int} (h0 : 1 ≤ k) (h1 : k < 1073741789) (l : List UInt8) : verB (pw 4 k) l (sigE k l) (sigS k l) = true := by
  obtain ⟨e0, e1⟩ := sigE_bd k l
  obtain ⟨s0, s1⟩ := sigS_bd k l
  obtain ⟨n0, n1⟩ := sigN_bd k l
  rw [verB_eq (pub_elem h0 h1) (inB_yes e0 e1) (inB_yes s0 s1)]
  have key : pw 4 (sigS k l) * pw (pw 4 k) (1073741789 - sigE k l) % 2147483579 = pw 4 (sigN k l) := by
    have hs : sigS k l = (sigN k l + sigE k l * k) % 1073741789 := rfl
    generalize sigE k l = e at *
    generalize sigN k l = n at *
    rw [hs]
    obtain ⟨k', rfl⟩ := Int.eq_ofNat_of_zero_le (show 0 ≤ k by omega)
    obtain ⟨e', rfl⟩ := Int.eq_ofNat_of_zero_le e0
    obtain ⟨n', rfl⟩ := Int.eq_ofNat_of_zero_le (show 0 ≤ n by omega)
    have h := sig_back (k := k') (n := n') (e := e') (by omega) (by omega) (by omega)
    have c1 : ((n' : Int) + (e' : Int) * (k' : Int)) % 1073741789 = (((n' + e' * k') % 1073741789 : Nat) : Int) := by simp
    have c2 : (1073741789 : Int) - (e' : Int) = ((1073741789 - e' : Nat) : Int) := by omega
    rw [c1, c2, show (4 : Int) = ((4 : Nat) : Int) from rfl, pw_nat, pw_nat, pw_nat, pw_nat, ← h]
    simp
  rw [key]
  simp only [sigE, beq_self_eq_true]
def sE (k : Int) (l : List UInt8) : Int := if inB 1 1073741789 k = true then sigE k l else 0
def sS (k : Int) (l : List UInt8) : Int := if inB 1 1073741789 k = true then sigS k l else 0
def sK (k : Int) : Int := if inB 1 1073741789 k = true then 0 else 3
theorem sign_any {a : Value} {l : List UInt8} (k : Int) (w : World) (ha : Rd w a (bvs l)) (hl : l.length ≤ 140737488352000) (E : KTab w 1) :
    Calls Tryz.prog 54 #[.int .i64 k, a] w (RetQ w (sgV (sE k l) (sS k l) (sK k))) := by
  unfold sE sS sK
  by_cases h : inB 1 1073741789 k = true
  · rw [if_pos h, if_pos h, if_pos h]; exact sign_yes k w h ha hl E
  · rw [if_neg h, if_neg h, if_neg h]; exact sign_no k w (not_true h) ha
theorem refsign_any {a : Value} {l : List UInt8} (k : Int) (w : World) (ha : Rd w a (bvs l)) (hl : l.length ≤ 140737488352000) (E : KTab w 0) :
    Calls Tryz.prog 55 #[.int .i64 k, a] w (RetQ w (sgV (sE k l) (sS k l) (sK k))) := by
  unfold sE sS sK
  by_cases h : inB 1 1073741789 k = true
  · rw [if_pos h, if_pos h, if_pos h]; exact refsign_yes k w h ha hl E
  · rw [if_neg h, if_neg h, if_neg h]; exact refsign_no k w (not_true h) ha
/-- A new signature's block. -/
structure SgAt (w wa : World) (g : Nat) (e s : Int) : Prop where
  ext : Ext w wa
  lt : g < wa.heap.size
  c0 : wa.cell? ⟨g, 0, none⟩ = some (.int .i64 e)
  c1 : wa.cell? ⟨g, 1, none⟩ = some (.int .i64 s)
theorem sg_alloc (w : World) (e s : Int) : ∃ wa, wa = w.alloc (.cells #[.int .i64 e, .int .i64 s] 37) ∧ SgAt w wa w.heap.size e s :=
  ⟨_, rfl, (Below.refl _ _).alloc (Nat.le_refl _) _, by simp, by go_simp, by go_simp⟩
theorem SgAt.keep {w wa wb : World} {g : Nat} {e s : Int} (h : SgAt w wa g e s) (b : Ext wa wb) : SgAt w wb g e s :=
  ⟨h.ext.tr b, Nat.lt_of_lt_of_le h.lt b.size, (b.cell (p := ⟨g, 0, none⟩) h.lt).trans h.c0, (b.cell (p := ⟨g, 1, none⟩) h.lt).trans h.c1⟩
end Go.Proofs.YtmmoenkmicimcaaGreatDoor
namespace Go.Proofs.YtmmoenkmicimcaaGreatDoor
open Go.RowKit
set_option linter.unusedVariables false
set_option maxRecDepth 100000
def encK (e s : Int) : Int := if inB 0 1073741789 e = true ∧ inB 0 1073741789 s = true then 0 else 3
end Go.Proofs.YtmmoenkmicimcaaGreatDoor
namespace Go.Proofs.YtmmoenkmicimcaaGreatDoor
open Go.RowKit
set_option linter.unusedVariables false
set_option maxRecDepth 100000
/-- What Decode returns. -/
def dcOk (l : List UInt8) : Prop := inB 0 1073741789 (num (l.take 4)) = true ∧ inB 0 1073741789 (num (l.drop 4)) = true
instance (l : List UInt8) : Decidable (dcOk l) := inferInstanceAs (Decidable (_ ∧ _))
end Go.Proofs.YtmmoenkmicimcaaGreatDoor
namespace Go.Proofs.YtmmoenkmicimcaaGreatDoor
open Go.RowKit
set_option linter.unusedVariables false
set_option maxRecDepth 100000
def bstr (l : List UInt8) : ByteArray := ⟨l.toArray⟩
def upI (z : Int) : Prop := 65 ≤ z ∧ z ≤ 90
def dgI (z : Int) : Prop := 48 ≤ z ∧ z ≤ 57
instance (z : Int) : Decidable (upI z) := inferInstanceAs (Decidable (_ ∧ _))
instance (z : Int) : Decidable (dgI z) := inferInstanceAs (Decidable (_ ∧ _))
/-- A name. -/
def nameP (l : List UInt8) : Prop := (1 ≤ l.length ∧ l.length ≤ 16) ∧ upI (byteI l 0) ∧ ∀ i, i < l.length → upI (byteI l i) ∨ dgI (byteI l i)
instance (l : List UInt8) : Decidable (nameP l) := inferInstanceAs (Decidable (_ ∧ _ ∧ _))
structure TC where
  au : List UInt8
  ho : List UInt8
  key : Int
  role : Int
  rights : Int
  fr : Int
  to : Int
  e : Int
  s : Int
def daysP (fr to : Int) : Prop := 0 ≤ fr ∧ fr ≤ to ∧ to ≤ 73048
instance (fr to : Int) : Decidable (daysP fr to) := inferInstanceAs (Decidable (_ ∧ _))
/-- What Check reports. -/
def ckT (c : TC) : Int :=
  if ¬ nameP c.au ∨ ¬ nameP c.ho then 60 else if isElem c.key = false then 10 else if c.role < 1 ∨ 4 < c.role then 61 else
  if c.rights < 0 ∨ 65535 < c.rights then 62 else if ¬ daysP c.fr c.to then 8 else 0
/-- Three bytes of a number. -/
def be3 (x : Int) : List UInt8 := [u8 (x / 65536), u8 (x / 256), u8 x]
def leafN (t : Int) (l : List UInt8) : Nd := .mk t l []
def bodyT (c : TC) : Nd := .mk 32590 [] [leafN 66 c.au, leafN 24352 c.ho, leafN 134 (be4 c.key), .mk 32588 [] [leafN 83 [u8 c.role, u8 (c.rights / 256), u8 c.rights]], leafN 24357 (be3 c.fr), leafN 24356 (be3 c.to)]
def bodyB (c : TC) : List UInt8 := encNs 3 [bodyT c]
theorem okLeaf {d : Nat} {t : Int} {l : List UInt8} (h0 : 0 ≤ t) (h1 : t < 65536) (hv : validT t = true) (hc : consT t = false) : (0 ≤ (leafN t l).tag ∧ (leafN t l).tag < 65536) ∧ validT (leafN t l).tag = true ∧ (consT (leafN t l).tag = true → (leafN t l).val = []) ∧ (consT (leafN t l).tag = false → (leafN t l).kids = []) ∧ okNs d (leafN t l).kids := by
  refine ⟨⟨h0, h1⟩, hv, fun h => ?_, fun _ => rfl, ?_⟩
  · rw [show (leafN t l).tag = t from rfl, hc] at h; cases h
  · show okNs d []
    cases d with
    | zero => rfl
    | succ d => intro t ht; cases ht
theorem okCons {d : Nat} {t : Int} {ks : List Nd} (h0 : 0 ≤ t) (h1 : t < 65536) (hv : validT t = true) (hc : consT t = true) (hk : okNs d ks) : (0 ≤ (Nd.mk t [] ks).tag ∧ (Nd.mk t [] ks).tag < 65536) ∧ validT (Nd.mk t [] ks).tag = true ∧ (consT (Nd.mk t [] ks).tag = true → (Nd.mk t [] ks).val = []) ∧ (consT (Nd.mk t [] ks).tag = false → (Nd.mk t [] ks).kids = []) ∧ okNs d (Nd.mk t [] ks).kids :=
  ⟨⟨h0, h1⟩, hv, fun _ => rfl, fun h => (by rw [show (Nd.mk t [] ks).tag = t from rfl, hc] at h; cases h), hk⟩
theorem okNs_nil (d : Nat) : okNs d [] := by
  cases d with
  | zero => rfl
  | succ d => intro t ht; cases ht
theorem okNs_cons {d : Nat} {t : Nd} {ts : List Nd} (h : (0 ≤ t.tag ∧ t.tag < 65536) ∧ validT t.tag = true ∧ (consT t.tag = true → t.val = []) ∧ (consT t.tag = false → t.kids = []) ∧ okNs d t.kids) (hs : okNs (d + 1) ts) : okNs (d + 1) (t :: ts) := by
  intro u hu
  rcases List.mem_cons.1 hu with rfl | hu
  · exact h
  · exact hs u hu
end Go.Proofs.YtmmoenkmicimcaaGreatDoor
namespace Go.Proofs.YtmmoenkmicimcaaGreatDoor
open Go.RowKit
set_option linter.unusedVariables false
set_option maxRecDepth 100000
section
variable {α : Type} {V : α → Prop} {B : α → List UInt8} {O : α → List Nd} {x : List Nd → Option α}
end
/-! ### National certificates -/
/-- The name of a state. -/
def stateP (l : List UInt8) : Prop := (1 ≤ l.length ∧ l.length ≤ 3) ∧ ∀ i, i < l.length → upI (byteI l i)
instance (l : List UInt8) : Decidable (stateP l) := inferInstanceAs (Decidable (_ ∧ _))
def serP (x : Int) : Prop := 1 ≤ x ∧ x ≤ 1073741824
instance (x : Int) : Decidable (serP x) := inferInstanceAs (Decidable (_ ∧ _))
structure NC where
  st : List UInt8
  kind : Int
  num : Int
  iss : Int
  own : Int
  key : Int
  fr : Int
  un : Int
  to : Int
  e : Int
  s : Int
/-- The numbers of a certificate. -/
def numsP (num iss own kind : Int) : Prop := serP num ∧ serP iss ∧ serP own ∧ (iss = own ↔ kind = 1)
instance (num iss own kind : Int) : Decidable (numsP num iss own kind) := inferInstanceAs (Decidable (_ ∧ _ ∧ _ ∧ _))
/-- The days of a certificate. -/
def termP (fr un to : Int) : Prop := 0 ≤ fr ∧ fr ≤ un ∧ un ≤ to ∧ to ≤ 73048
instance (fr un to : Int) : Decidable (termP fr un to) := inferInstanceAs (Decidable (_ ∧ _ ∧ _ ∧ _))
/-- What Check reports. -/
def ckN (c : NC) : Int :=
  if ¬ stateP c.st then 60 else if c.kind < 1 ∨ 4 < c.kind then 61 else if ¬ numsP c.num c.iss c.own c.kind then 3 else
  if isElem c.key = false then 10 else if ¬ termP c.fr c.un c.to then 8 else 0
theorem ckN_ok {c : NC} (h : ckN c = 0) : stateP c.st ∧ 1 ≤ c.kind ∧ c.kind ≤ 4 ∧ numsP c.num c.iss c.own c.kind ∧ isElem c.key = true ∧ termP c.fr c.un c.to := by
  unfold ckN at h
  split at h
  · cases h
  · rename_i h1
    split at h
    · cases h
    · rename_i h2
      split at h
      · cases h
      · rename_i h3
        split at h
        · cases h
        · rename_i h4
          split at h
          · cases h
          · rename_i h5
            simp only [Decidable.not_not] at h1 h3 h5
            exact ⟨h1, by omega, by omega, h3, by simpa using h4, h5⟩
theorem ckN_st {c : NC} (h : ¬ stateP c.st) : ckN c = 60 := if_pos h
theorem ckN_kind {c : NC} (h1 : stateP c.st) (h2 : c.kind < 1 ∨ 4 < c.kind) : ckN c = 61 := by unfold ckN; rw [if_neg (not_not_intro h1), if_pos h2]
theorem ckN_nums {c : NC} (h1 : stateP c.st) (h2 : ¬ (c.kind < 1 ∨ 4 < c.kind)) (h3 : ¬ numsP c.num c.iss c.own c.kind) : ckN c = 3 := by unfold ckN; rw [if_neg (not_not_intro h1), if_neg h2, if_pos h3]
theorem ckN_key {c : NC} (h1 : stateP c.st) (h2 : ¬ (c.kind < 1 ∨ 4 < c.kind)) (h3 : numsP c.num c.iss c.own c.kind) (h4 : isElem c.key = false) : ckN c = 10 := by unfold ckN; rw [if_neg (not_not_intro h1), if_neg h2, if_neg (not_not_intro h3), if_pos h4]
theorem ckN_term {c : NC} (h1 : stateP c.st) (h2 : ¬ (c.kind < 1 ∨ 4 < c.kind)) (h3 : numsP c.num c.iss c.own c.kind) (h4 : isElem c.key = true) (h5 : ¬ termP c.fr c.un c.to) : ckN c = 8 := by unfold ckN; rw [if_neg (not_not_intro h1), if_neg h2, if_neg (not_not_intro h3), if_neg (by rw [h4]; simp), if_pos h5]
theorem ckN_yes {c : NC} (h1 : stateP c.st) (h2 : ¬ (c.kind < 1 ∨ 4 < c.kind)) (h3 : numsP c.num c.iss c.own c.kind) (h4 : isElem c.key = true) (h5 : termP c.fr c.un c.to) : ckN c = 0 := by unfold ckN; rw [if_neg (not_not_intro h1), if_neg h2, if_neg (not_not_intro h3), if_neg (by rw [h4]; simp), if_neg (not_not_intro h5)]
/-- What On reports. -/
def onN (c : NC) (day : Int) : Int := if ckN c = 0 then (if day < c.fr then 64 else if c.to < day then 63 else 0) else ckN c
def ncV (c : NC) : Value := .agg #[.string (bstr c.st), .int .i64 c.kind, .int .i64 c.num, .int .i64 c.iss, .int .i64 c.own, .int .i64 c.key, .int .i64 c.fr, .int .i64 c.un, .int .i64 c.to, .int .i64 c.e, .int .i64 c.s]
def zeroN : NC := ⟨[], 0, 0, 0, 0, 0, 0, 0, 0, 0, 0⟩
def daysB (c : NC) : List UInt8 := be3 c.fr ++ be3 c.un ++ be3 c.to
def bodyN (c : NC) : Nd := .mk 48 [] [leafN 19 c.st, leafN 129 [u8 c.kind], leafN 130 (be4 c.num), leafN 131 (be4 c.iss), leafN 132 (be4 c.own), leafN 133 (be4 c.key), leafN 134 (daysB c)]
def bodyNB (c : NC) : List UInt8 := encNs 2 [bodyN c]
/-- A certificate that can be written. -/
def validN (c : NC) : Prop := ckN c = 0 ∧ encK c.e c.s = 0
theorem ok_bodyN (c : NC) : okNs 2 [bodyN c] := by
  refine okNs_cons (okCons (by decide) (by decide) (by decide) (by decide) ?_) (okNs_nil _)
  refine okNs_cons (okLeaf (by decide) (by decide) (by decide) (by decide)) ?_
  refine okNs_cons (okLeaf (by decide) (by decide) (by decide) (by decide)) ?_
  refine okNs_cons (okLeaf (by decide) (by decide) (by decide) (by decide)) ?_
  refine okNs_cons (okLeaf (by decide) (by decide) (by decide) (by decide)) ?_
  refine okNs_cons (okLeaf (by decide) (by decide) (by decide) (by decide)) ?_
  refine okNs_cons (okLeaf (by decide) (by decide) (by decide) (by decide)) ?_
  exact okNs_cons (okLeaf (by decide) (by decide) (by decide) (by decide)) (okNs_nil _)
theorem bodyNB_len {c : NC} (h1 : c.st.length ≤ 3) : (bodyNB c).length ≤ 200 := by
  have h := encNs_len 2 [bodyN c]
  have e1 : cntNs 2 [bodyN c] = 8 := rfl
  have e2 : valNs 2 [bodyN c] = c.st.length + 26 := by
    simp only [valNs, bodyN, leafN, daysB, Nd.val, Nd.kids, List.map_cons, List.map_nil, List.sum_cons, List.sum_nil, List.length_append, List.length_nil, List.length_cons, be4, be3]
    omega
  unfold bodyNB
  omega
/-! ### What the functions of the layer return -/
def updN (c : NC) (e s : Int) : NC := ⟨c.st, c.kind, c.num, c.iss, c.own, c.key, c.fr, c.un, c.to, e, s⟩
def byN (c : NC) : List UInt8 := if ckN c = 0 then bodyNB c else []
def isCN (k : Int) (c : NC) : NC := if ckN c = 0 ∧ sK k = 0 then updN c (sE k (bodyNB c)) (sS k (bodyNB c)) else zeroN
def isKN (k : Int) (c : NC) : Int := if ckN c = 0 then sK k else ckN c
def vfN (p : Int) (c : NC) : Bool := if ckN c = 0 then verB p (bodyNB c) c.e c.s else false
def rtN (c : NC) : Bool := if c.kind = 1 then vfN c.key c else false
theorem ckN_upd (c : NC) (e s : Int) : ckN (updN c e s) = ckN c := rfl
theorem bodyNB_upd (c : NC) (e s : Int) : bodyNB (updN c e s) = bodyNB c := rfl
theorem isCN_in {k : Int} {c : NC} (hk : inB 1 1073741789 k = true) (hc : ckN c = 0) : isCN k c = updN c (sigE k (bodyNB c)) (sigS k (bodyNB c)) := by
  unfold isCN sE sS
  have hs : sK k = 0 := if_pos hk
  rw [if_pos ⟨hc, hs⟩, if_pos hk, if_pos hk]
theorem vfN_issue {k : Int} {c : NC} (hk : inB 1 1073741789 k = true) (hc : ckN c = 0) : vfN (pw 4 k) (isCN k c) = true := by
  obtain ⟨h0, h1⟩ := inB_true hk
  rw [isCN_in hk hc]
  unfold vfN
  rw [ckN_upd, if_pos hc, bodyNB_upd]
  exact sig_verifies h0 h1 _
theorem encKN_in {e s : Int} (he : 0 ≤ e ∧ e < 1073741789) (hs : 0 ≤ s ∧ s < 1073741789) : encK e s = 0 := if_pos ⟨inB_yes he.1 he.2, inB_yes hs.1 hs.2⟩
theorem validN_issue {k : Int} {c : NC} (hk : inB 1 1073741789 k = true) (hc : ckN c = 0) : validN (isCN k c) := by
  rw [isCN_in hk hc]
  exact ⟨hc, encKN_in (sigE_bd _ _) (sigS_bd _ _)⟩
theorem byN_len (c : NC) : (byN c).length ≤ 200 := by
  unfold byN
  split
  · rename_i h
    exact bodyNB_len (ckN_ok h).1.1.2
  · simp
/-- A certificate whose text is short. -/
def smN (c : NC) : Prop := c.st.length ≤ maxLen
theorem sm_ofN {c : NC} (h : ckN c = 0) : smN c := by have := (ckN_ok h).1.1.2; unfold smN maxLen; omega
end Go.Proofs.YtmmoenkmicimcaaGreatDoor
namespace Go.Proofs.YtmmoenkmicimcaaGreatDoor
open Go.RowKit
set_option linter.unusedVariables false
set_option maxRecDepth 100000
def NC.nums (c : NC) : List Int := [c.kind, c.num, c.iss, c.own, c.key, c.fr, c.un, c.to, c.e, c.s]
theorem NC.tup_inj {a b : NC} (h : a.st = b.st ∧ a.nums = b.nums) : a = b := by
  cases a; cases b
  simp only [NC.nums, List.cons.injEq, and_true] at h
  obtain ⟨rfl, rfl, rfl, rfl, rfl, rfl, rfl, rfl, rfl, rfl, rfl⟩ := h
  rfl
instance : DecidableEq NC := fun a b => decidable_of_iff (a.st = b.st ∧ a.nums = b.nums) ⟨NC.tup_inj, fun h => by rw [h]; exact ⟨rfl, rfl⟩⟩
/-- Whether b follows a on a day. -/
def folP (day : Int) (a b : NC) : Prop := a.st = b.st ∧ b.iss = a.own ∧ (a.kind = 1 ∨ a.kind = 2) ∧ b.kind ≠ 1 ∧ onN a day = 0 ∧ onN b day = 0 ∧ vfN a.key b = true
instance (day : Int) (a b : NC) : Decidable (folP day a b) := inferInstanceAs (Decidable (_ ∧ _))
def folB (day : Int) (a b : NC) : Bool := decide (folP day a b)
/-- A root that is trusted. -/
def rootP (st : List UInt8) (day : Int) (c : NC) : Prop := c.st = st ∧ onN c day = 0 ∧ rtN c = true
instance (st : List UInt8) (day : Int) (c : NC) : Decidable (rootP st day c) := inferInstanceAs (Decidable (_ ∧ _))
def firstStep (st : List UInt8) (day : Int) (l : List NC) (c : NC) : List NC := if rootP st day c ∧ c ∉ l then l ++ [c] else l
def firstT (roots : List NC) (st : List UInt8) (day : Int) : List NC := roots.foldl (firstStep st day) []
/-- One more link. -/
def linkP (day : Int) (out next : List NC) (c : NC) : Prop := c.kind = 2 ∧ c ∉ next ∧ (out.any fun a => folB day a c) = true
instance (day : Int) (out next : List NC) (c : NC) : Decidable (linkP day out next c) := inferInstanceAs (Decidable (_ ∧ _))
def linkStep (day : Int) (out next : List NC) (c : NC) : List NC := if linkP day out next c then next ++ [c] else next
def roundT (pool : List NC) (day : Int) (out : List NC) : List NC := pool.foldl (linkStep day out) out
/-- How many of the pool are not there yet. -/
def restT (pool out : List NC) : Nat := (pool.filter fun c => decide (c ∉ out)).length
def trT (pool : List NC) (day : Int) : Nat → List NC → List NC
  | 0, out => out
  | n + 1, out => if (roundT pool day out).length = out.length then out else trT pool day n (roundT pool day out)
/-- What Trusted returns. -/
def trustT (roots pool : List NC) (st : List UInt8) (day : Int) : List NC := trT pool day (pool.length + 1) (firstT roots st day)
/-! ### A step keeps what was there, and adds of the pool -/
theorem linkStep_ext (day : Int) (out next : List NC) (c : NC) : ∃ t, linkStep day out next c = next ++ t ∧ (t = [] ∨ (t = [c] ∧ linkP day out next c)) := by
  unfold linkStep
  split
  · rename_i h
    exact ⟨[c], rfl, .inr ⟨rfl, h⟩⟩
  · exact ⟨[], (List.append_nil _).symm, .inl rfl⟩
theorem foldl_ext (day : Int) (out : List NC) : ∀ (l next : List NC), ∃ t, l.foldl (linkStep day out) next = next ++ t ∧ ∀ c ∈ t, c ∈ l ∧ c.kind = 2 ∧ c ∉ next ∧ (out.any fun a => folB day a c) = true
  | [], next => ⟨[], (List.append_nil _).symm, fun c h => by cases h⟩
  | x :: l, next => by
    obtain ⟨t1, e1, h1⟩ := linkStep_ext day out next x
    obtain ⟨t2, e2, h2⟩ := foldl_ext day out l (linkStep day out next x)
    refine ⟨t1 ++ t2, by rw [List.foldl_cons, e2, e1, List.append_assoc], fun c hc => ?_⟩
    rcases List.mem_append.1 hc with hc | hc
    · rcases h1 with rfl | ⟨rfl, h1⟩
      · cases hc
      · obtain rfl : c = x := List.mem_singleton.1 hc
        exact ⟨List.mem_cons_self, h1.1, h1.2.1, h1.2.2⟩
    · obtain ⟨q1, q2, q3, q4⟩ := h2 c hc
      exact ⟨List.mem_cons_of_mem _ q1, q2, fun q => q3 (by rw [e1]; exact List.mem_append_left _ q), q4⟩
theorem roundT_ext (pool : List NC) (day : Int) (out : List NC) : ∃ t, roundT pool day out = out ++ t ∧ ∀ c ∈ t, c ∈ pool ∧ c.kind = 2 ∧ c ∉ out ∧ (out.any fun a => folB day a c) = true := foldl_ext day out pool out
theorem restT_le (pool out : List NC) : restT pool out ≤ pool.length := List.length_filter_le _ _
theorem filter_lt {α : Type} (p q : α → Bool) : ∀ (l : List α), (∀ x ∈ l, q x = true → p x = true) → (∃ x ∈ l, p x = true ∧ q x = false) → (l.filter q).length < (l.filter p).length
  | [], _, ⟨x, h, _⟩ => by cases h
  | y :: l, h, ⟨x, hx, hp, hq⟩ => by
    have le : (l.filter q).length ≤ (l.filter p).length := by
      have : ∀ m : List α, (∀ x ∈ m, q x = true → p x = true) → (m.filter q).length ≤ (m.filter p).length := by
        intro m
        induction m with
        | nil => intro _; exact Nat.le_refl _
        | cons z m IH =>
          intro hm
          have h1 := IH fun x hx => hm x (List.mem_cons_of_mem _ hx)
          have h2 := hm z List.mem_cons_self
          cases hqz : q z with
          | true => rw [List.filter_cons_of_pos hqz, List.filter_cons_of_pos (h2 hqz)]; exact Nat.succ_le_succ h1
          | false =>
            rw [List.filter_cons_of_neg (by rw [hqz]; simp)]
            cases hpz : p z with
            | true => rw [List.filter_cons_of_pos hpz]; exact Nat.le_succ_of_le h1
            | false => rw [List.filter_cons_of_neg (by rw [hpz]; simp)]; exact h1
      exact this l fun x hx => h x (List.mem_cons_of_mem _ hx)
    rcases List.mem_cons.1 hx with rfl | hx
    · rw [List.filter_cons_of_pos hp, List.filter_cons_of_neg (by rw [hq]; simp)]
      exact Nat.lt_succ_of_le le
    · have IH := filter_lt p q l (fun x hx => h x (List.mem_cons_of_mem _ hx)) ⟨x, hx, hp, hq⟩
      have h2 := h y List.mem_cons_self
      cases hqy : q y with
      | true => rw [List.filter_cons_of_pos hqy, List.filter_cons_of_pos (h2 hqy)]; exact Nat.succ_lt_succ IH
      | false =>
        rw [List.filter_cons_of_neg (by rw [hqy]; simp)]
        cases hpy : p y with
        | true => rw [List.filter_cons_of_pos hpy]; exact Nat.lt_succ_of_lt IH
        | false => rw [List.filter_cons_of_neg (by rw [hpy]; simp)]; exact IH
theorem restT_lt {pool out : List NC} {day : Int} (h : (roundT pool day out).length ≠ out.length) : restT pool (roundT pool day out) < restT pool out := by
  obtain ⟨t, e, ht⟩ := roundT_ext pool day out
  rw [e] at h ⊢
  have hne : t ≠ [] := fun q => h (by rw [q]; simp)
  obtain ⟨c, hc⟩ := List.exists_mem_of_ne_nil t hne
  obtain ⟨q1, _, q3, _⟩ := ht c hc
  refine filter_lt _ _ pool (fun x _ hx => ?_) ⟨c, q1, decide_eq_true q3, decide_eq_false (fun q => q (List.mem_append_right _ hc))⟩
  have hx' : x ∉ out ++ t := of_decide_eq_true hx
  exact decide_eq_true fun q => hx' (List.mem_append_left _ q)
/-- More rounds than the pool has certificates come to the same. -/
theorem trT_more (pool : List NC) (day : Int) : ∀ (n m : Nat) (out : List NC), restT pool out < n → restT pool out < m → trT pool day n out = trT pool day m out
  | 0, _, _, h, _ => absurd h (Nat.not_lt_zero _)
  | _, 0, _, _, h => absurd h (Nat.not_lt_zero _)
  | n + 1, m + 1, out, hn, hm => by
    unfold trT
    by_cases h : (roundT pool day out).length = out.length
    · rw [if_pos h, if_pos h]
    · rw [if_neg h, if_neg h]
      have := restT_lt h
      exact trT_more pool day n m _ (by omega) (by omega)
/-- What is reached from a list. -/
def allT (pool : List NC) (day : Int) (out : List NC) : List NC := trT pool day (pool.length + 1) out
theorem allT_stop {pool out : List NC} {day : Int} (h : (roundT pool day out).length = out.length) : allT pool day out = out := by
  unfold allT trT
  rw [if_pos h]
theorem allT_step {pool out : List NC} {day : Int} (h : (roundT pool day out).length ≠ out.length) : allT pool day out = allT pool day (roundT pool day out) := by
  have hl := restT_lt h
  have h1 := restT_le pool out
  have h2 := restT_le pool (roundT pool day out)
  have e : allT pool day out = trT pool day pool.length (roundT pool day out) := by
    unfold allT
    rw [trT, if_neg h]
  rw [e]
  exact trT_more pool day _ _ _ (by omega) (by omega)
end Go.Proofs.YtmmoenkmicimcaaGreatDoor
namespace Go.Proofs.YtmmoenkmicimcaaGreatDoor
open Go.RowKit
set_option linter.unusedVariables false
set_option maxRecDepth 100000
/-- The first of a list that a certificate follows. -/
def fstF (day : Int) (L : List NC) (c : NC) : Option NC := L.find? fun a => folB day a c
/-- The predecessors of a certificate, back to a root. -/
inductive BkN (day : Int) (L : List NC) : NC → List NC → Prop
  | root {x y : NC} : fstF day L x = some y → y.kind = 1 → BkN day L x [y]
  | step {x y : NC} {b : List NC} : fstF day L x = some y → y.kind ≠ 1 → BkN day L y b → BkN day L x (y :: b)
theorem BkN.det {day : Int} {L : List NC} {x : NC} {b : List NC} (h : BkN day L x b) : ∀ {b' : List NC}, BkN day L x b' → b = b' := by
  induction h with
  | root h1 h2 =>
    intro b' h'
    cases h' with
    | root k1 k2 => rw [h1] at k1; injection k1 with k1; rw [k1]
    | step k1 k2 k3 => rw [h1] at k1; injection k1 with k1; subst k1; exact absurd h2 k2
  | step h1 h2 h3 IH =>
    intro b' h'
    cases h' with
    | root k1 k2 => rw [h1] at k1; injection k1 with k1; subst k1; exact absurd k2 h2
    | step k1 k2 k3 => rw [h1] at k1; injection k1 with k1; subst k1; rw [IH k3]
open Classical in
/-- The path to a certificate, from a root on. -/
noncomputable def pathT (day : Int) (L : List NC) (c : NC) : Option (List NC) := if h : ∃ b, BkN day L c b then some ((c :: Classical.choose h).reverse) else none
theorem pathT_of {day : Int} {L : List NC} {c : NC} {b : List NC} (h : BkN day L c b) : pathT day L c = some ((c :: b).reverse) := by
  have hx : ∃ b, BkN day L c b := ⟨b, h⟩
  unfold pathT
  rw [dif_pos hx, (Classical.choose_spec hx).det h]
theorem pathT_no {day : Int} {L : List NC} {c : NC} (h : fstF day L c = none) : pathT day L c = none := by
  unfold pathT
  rw [dif_neg]
  rintro ⟨b, hb⟩
  cases hb with
  | root k1 k2 => rw [h] at k1; cases k1
  | step k1 k2 k3 => rw [h] at k1; cases k1
theorem fstF_mem {day : Int} {L : List NC} {c y : NC} (h : fstF day L c = some y) : y ∈ L ∧ folB day y c = true := ⟨List.mem_of_find?_eq_some h, List.find?_some (p := fun a => folB day a c) h⟩
/-- A list in which each link has a predecessor ahead of it. -/
def Lad (day : Int) (L : List NC) : Prop := ∀ y ∈ L, y.kind ≠ 1 → ∃ z, fstF day L y = some z ∧ L.idxOf z < L.idxOf y
theorem idx_appG {α : Type} [BEq α] [LawfulBEq α] {l t : List α} {z : α} (h : z ∈ l) : (l ++ t).idxOf z = l.idxOf z := by rw [List.idxOf_append, if_pos h]
theorem idx_ltG {α : Type} [BEq α] [LawfulBEq α] {l : List α} {z : α} (h : z ∈ l) : l.idxOf z < l.length := List.idxOf_lt_length_of_mem h
theorem idx_geG {α : Type} [BEq α] [LawfulBEq α] {l t : List α} {z : α} (h : z ∉ l) : l.length ≤ (l ++ t).idxOf z := by
  rw [List.idxOf_append, if_neg h]
  omega
theorem find_of_mem {p : NC → Bool} {l : List NC} {w : NC} (hw : w ∈ l) (hp : p w = true) : ∃ z, l.find? p = some z := by
  cases h : l.find? p with
  | some z => exact ⟨z, rfl⟩
  | none => exact absurd hp (by simpa using List.find?_eq_none.1 h w hw)
/-- In such a list there is a way back from each link. -/
theorem Lad.back {day : Int} {L : List NC} (h : Lad day L) : ∀ (n : Nat) (y : NC), y ∈ L → y.kind ≠ 1 → L.idxOf y < n → ∃ b, BkN day L y b
  | 0, _, _, _, hn => absurd hn (Nat.not_lt_zero _)
  | n + 1, y, hy, hk, hn => by
    obtain ⟨z, hz, hlt⟩ := h y hy hk
    by_cases h1 : z.kind = 1
    · exact ⟨_, .root hz h1⟩
    · obtain ⟨b, hb⟩ := h.back n z (fstF_mem hz).1 h1 (by omega)
      exact ⟨_, .step hz h1 hb⟩
theorem Lad.path {day : Int} {L : List NC} (h : Lad day L) {c y : NC} (hc : fstF day L c = some y) : ∃ b, BkN day L c b := by
  by_cases h1 : y.kind = 1
  · exact ⟨_, .root hc h1⟩
  · obtain ⟨b, hb⟩ := h.back _ y (fstF_mem hc).1 h1 (Nat.lt_succ_self _)
    exact ⟨_, .step hc h1 hb⟩
theorem Lad.none_iff {day : Int} {L : List NC} (h : Lad day L) {c : NC} : pathT day L c = none ↔ fstF day L c = none := by
  refine ⟨fun q => ?_, pathT_no⟩
  cases hc : fstF day L c with
  | none => rfl
  | some y =>
    obtain ⟨b, hb⟩ := h.path hc
    rw [pathT_of hb] at q
    cases q
/-! ### What Trusted returns is such a list -/
theorem idx_app {l t : List NC} {z : NC} (h : z ∈ l) : (l ++ t).idxOf z = l.idxOf z := idx_appG h
theorem idx_lt {l : List NC} {z : NC} (h : z ∈ l) : l.idxOf z < l.length := idx_ltG h
theorem idx_ge {l t : List NC} {z : NC} (h : z ∉ l) : l.length ≤ (l ++ t).idxOf z := idx_geG h
theorem lad_ext {day : Int} {out t : List NC} (h : Lad day out) (ht : ∀ c ∈ t, c ∉ out ∧ (out.any fun a => folB day a c) = true) : Lad day (out ++ t) := by
  intro y hy hk
  by_cases ho : y ∈ out
  · obtain ⟨z, hz, hlt⟩ := h y ho hk
    refine ⟨z, ?_, by rw [idx_app (fstF_mem hz).1, idx_app ho]; exact hlt⟩
    unfold fstF at hz ⊢
    rw [List.find?_append, hz]
    rfl
  · have hyt : y ∈ t := (List.mem_append.1 hy).resolve_left ho
    obtain ⟨_, ha⟩ := ht y hyt
    obtain ⟨w, hw, hf⟩ := List.any_eq_true.1 ha
    obtain ⟨z, hz⟩ := find_of_mem (p := fun a => folB day a y) hw hf
    refine ⟨z, ?_, ?_⟩
    · unfold fstF
      rw [List.find?_append, hz]
      rfl
    · have hzm := List.mem_of_find?_eq_some hz
      rw [idx_app hzm]
      exact Nat.lt_of_lt_of_le (idx_lt hzm) (idx_ge ho)
theorem lad_round {day : Int} {pool out : List NC} (h : Lad day out) : Lad day (roundT pool day out) := by
  obtain ⟨t, e, ht⟩ := roundT_ext pool day out
  rw [e]
  exact lad_ext h fun c hc => ⟨(ht c hc).2.2.1, (ht c hc).2.2.2⟩
theorem lad_tr {day : Int} {pool : List NC} : ∀ (n : Nat) (out : List NC), Lad day out → Lad day (trT pool day n out)
  | 0, _, h => h
  | n + 1, out, h => by
    unfold trT
    split
    · exact h
    · exact lad_tr n _ (lad_round h)
theorem rt_kind {c : NC} (h : rtN c = true) : c.kind = 1 ∧ vfN c.key c = true := by
  unfold rtN at h
  split at h
  · rename_i q
    exact ⟨q, h⟩
  · cases h
theorem firstT_foldl (st : List UInt8) (day : Int) : ∀ (l acc : List NC), ∀ c ∈ l.foldl (firstStep st day) acc, c ∈ acc ∨ (c ∈ l ∧ rootP st day c)
  | [], acc, c, hc => .inl hc
  | x :: l, acc, c, hc => by
    rcases firstT_foldl st day l _ c hc with h | h
    · unfold firstStep at h
      split at h
      · rename_i q
        rcases List.mem_append.1 h with h | h
        · exact .inl h
        · obtain rfl := List.mem_singleton.1 h
          exact .inr ⟨List.mem_cons_self, q.1⟩
      · exact .inl h
    · exact .inr ⟨List.mem_cons_of_mem _ h.1, h.2⟩
theorem firstT_mem {roots : List NC} {st : List UInt8} {day : Int} {c : NC} (h : c ∈ firstT roots st day) : c ∈ roots ∧ rootP st day c :=
  (firstT_foldl st day roots [] c h).resolve_left (by simp)
theorem firstStep_keep {st : List UInt8} {day : Int} {acc : List NC} {x c : NC} (h : c ∈ acc) : c ∈ firstStep st day acc x := by
  unfold firstStep
  split
  · exact List.mem_append_left _ h
  · exact h
theorem firstT_keep (st : List UInt8) (day : Int) : ∀ (l acc : List NC) (c : NC), c ∈ acc → c ∈ l.foldl (firstStep st day) acc
  | [], _, _, h => h
  | x :: l, acc, c, h => firstT_keep st day l _ c (firstStep_keep h)
theorem firstT_all (st : List UInt8) (day : Int) : ∀ (l acc : List NC) (c : NC), c ∈ l → rootP st day c → c ∈ l.foldl (firstStep st day) acc
  | x :: l, acc, c, h, hp => by
    rcases List.mem_cons.1 h with rfl | h
    · refine firstT_keep st day l _ c ?_
      unfold firstStep
      by_cases hm : c ∈ acc
      · rw [if_neg (fun q => q.2 hm)]; exact hm
      · rw [if_pos ⟨hp, hm⟩]; exact List.mem_append_right _ List.mem_cons_self
    · exact firstT_all st day l _ c h hp
theorem firstT_iff {roots : List NC} {st : List UInt8} {day : Int} {c : NC} : c ∈ firstT roots st day ↔ c ∈ roots ∧ rootP st day c :=
  ⟨firstT_mem, fun h => firstT_all st day roots [] c h.1 h.2⟩
theorem lad_first (roots : List NC) (st : List UInt8) (day : Int) : Lad day (firstT roots st day) := fun y hy hk => absurd (rt_kind (firstT_mem hy).2.2.2).1 hk
theorem lad_trust (roots pool : List NC) (st : List UInt8) (day : Int) : Lad day (trustT roots pool st day) := lad_tr _ _ (lad_first _ _ _)
/-! ### What is in the list -/
theorem trT_ext (pool : List NC) (day : Int) : ∀ (n : Nat) (out : List NC), ∃ t, trT pool day n out = out ++ t ∧ ∀ c ∈ t, c ∈ pool ∧ c.kind = 2
  | 0, out => ⟨[], (List.append_nil _).symm, fun c h => by cases h⟩
  | n + 1, out => by
    unfold trT
    split
    · exact ⟨[], (List.append_nil _).symm, fun c h => by cases h⟩
    · obtain ⟨t1, e1, h1⟩ := roundT_ext pool day out
      obtain ⟨t2, e2, h2⟩ := trT_ext pool day n (roundT pool day out)
      refine ⟨t1 ++ t2, by rw [e2, e1, List.append_assoc], fun c hc => ?_⟩
      rcases List.mem_append.1 hc with hc | hc
      · exact ⟨(h1 c hc).1, (h1 c hc).2.1⟩
      · exact h2 c hc
theorem trust_ext (roots pool : List NC) (st : List UInt8) (day : Int) : ∃ t, trustT roots pool st day = firstT roots st day ++ t ∧ ∀ c ∈ t, c ∈ pool ∧ c.kind = 2 := trT_ext pool day _ _
/-! ### What a path proves -/
/-- Each follows the one before it. -/
def chainB (day : Int) : List NC → Bool
  | a :: b :: l => folB day a b && chainB day (b :: l)
  | _ => true
end Go.Proofs.YtmmoenkmicimcaaGreatDoor
namespace Go.Proofs.YtmmoenkmicimcaaGreatDoor
open Go.RowKit
set_option linter.unusedVariables false
set_option maxRecDepth 100000
def vfB (p : Int) (c : TC) : Bool := if ckT c = 0 then verB p (bodyB c) c.e c.s else false
end Go.Proofs.YtmmoenkmicimcaaGreatDoor
namespace Go.Proofs.YtmmoenkmicimcaaGreatDoor
open Go.RowKit
set_option linter.unusedVariables false
set_option maxRecDepth 100000
theorem byteS {s : ByteArray} {k : Nat} (h : k < s.size) : byteI s.data.toList k = (s[k].toNat : Int) := by
  rw [byteI_get (l := s.data.toList) (by simpa using h)]
  rfl
def dayP (x : Int) : Prop := 0 ≤ x ∧ x ≤ 73048
instance (x : Int) : Decidable (dayP x) := inferInstanceAs (Decidable (_ ∧ _))
end Go.Proofs.YtmmoenkmicimcaaGreatDoor
namespace Go.Proofs.YtmmoenkmicimcaaGreatDoor
open Go.RowKit
set_option linter.unusedVariables false
set_option maxRecDepth 100000
/-- A certificate's block. -/
abbrev ncO (c : NC) : Obj := .cells #[.string (bstr c.st), .int .i64 c.kind, .int .i64 c.num, .int .i64 c.iss, .int .i64 c.own, .int .i64 c.key, .int .i64 c.fr, .int .i64 c.un, .int .i64 c.to, .int .i64 c.e, .int .i64 c.s] 39
theorem stateP_no_short {l : List UInt8} (h : l.length < 1) : decide (stateP l) = false := decide_eq_false fun q => by have := q.1.1; omega
theorem stateP_no_long {l : List UInt8} (h : 3 < l.length) : decide (stateP l) = false := decide_eq_false fun q => by have := q.1.2; omega
theorem stateP_no_at {l : List UInt8} (i : Nat) (hi : i < l.length) (h : ¬ upI (byteI l i)) : decide (stateP l) = false := decide_eq_false fun q => h (q.2 i hi)
theorem stateP_yes {l : List UInt8} (h1 : 1 ≤ l.length) (h2 : l.length ≤ 3) (h4 : ∀ i, i < l.length → upI (byteI l i)) : decide (stateP l) = true := decide_eq_true ⟨⟨h1, h2⟩, h4⟩
set_option maxHeartbeats 1000000 in
theorem state_any (s : ByteArray) (w : World) (hs : s.size ≤ maxLen) : Calls Tryz.prog 56 #[.string s] w fun e w' => e = .returned (.bool (decide (stateP s.data.toList))) ∧ w = w' := by
  unfold maxLen at hs
  have hsz : s.data.toList.length = s.size := by simp
  by_cases h1 : s.size < 1
  · have HN := Lib.hid (stateP_no_short (l := s.data.toList) (by omega))
    clear hsz
    go_enter Tryz.func56, Tryz.ntmps56
    go_wp2
    go_ret
    exact ⟨by rw [HN.out]; rfl, rfl⟩
  by_cases h16 : 3 < s.size
  · have HN := Lib.hid (stateP_no_long (l := s.data.toList) (by omega))
    clear hsz
    go_enter Tryz.func56, Tryz.ntmps56
    go_wp2
    go_ret
    exact ⟨by rw [HN.out]; rfl, rfl⟩
  have HZ := Lib.hid hsz
  clear hsz
  go_enter Tryz.func56, Tryz.ntmps56
  go_wp2
  go_loop [3, 14] (fun _ i => ∃ k : Nat, k ≤ s.size ∧ i = .int .i64 (k : Int) ∧ ∀ j, j < k → upI (byteI s.data.toList j)) (fun _ i => s.size - (intOf i).toNat)
  case atStart => exact ⟨0, Nat.zero_le _, rfl, fun j hj => absurd hj (by omega)⟩
  case round =>
    obtain ⟨k, hk, rfl, hall⟩ := hrel
    have HA := Lib.hid hall
    clear hall
    by_cases hlt : k < s.size
    · have HQ := Lib.hid (byteS hlt)
      have uk : (s[k].toNat : Int) < 256 := by have := UInt8.toNat_lt s[k]; omega
      have next : upI (s[k].toNat : Int) → ∀ j, j < k + 1 → upI (byteI s.data.toList j) := fun h j hj => by
        by_cases hjk : j < k
        · exact HA.out j hjk
        · obtain rfl : j = k := by omega
          rw [HQ.out]; exact h
      have NX := Lib.hid next
      have bad : ¬ upI (s[k].toNat : Int) → decide (stateP s.data.toList) = false := fun h => stateP_no_at k (by rw [HZ.out]; exact hlt) (by rw [HQ.out]; exact h)
      have BD := Lib.hid bad
      clear next bad
      by_cases c1 : (s[k].toNat : Int) < 65
      · have HN := Lib.hid (BD.out (by unfold upI; omega))
        go_wp2
        go_ret
        exact ⟨by rw [HN.out]; rfl, rfl⟩
      · by_cases c2 : 90 < (s[k].toNat : Int)
        · have HN := Lib.hid (BD.out (by unfold upI; omega))
          go_wp2
          go_ret
          exact ⟨by rw [HN.out]; rfl, rfl⟩
        · have HN := Lib.hid (NX.out (by unfold upI; omega))
          go_wp2
          go_round
          case rel => exact ⟨k + 1, by omega, by go_num, HN.out⟩
          case measure => simp [intOf]; omega
    · obtain rfl : k = s.size := by omega
      have HN := Lib.hid (stateP_yes (l := s.data.toList) (by rw [HZ.out]; omega) (by rw [HZ.out]; omega) (fun i hi => HA.out i (by rw [← HZ.out]; exact hi)))
      go_wp2
      go_ret
      exact ⟨by rw [HN.out]; rfl, rfl⟩
set_option maxHeartbeats 1000000 in
theorem refstate_any (s : ByteArray) (w : World) (hs : s.size ≤ maxLen) : Calls Tryz.prog 60 #[.string s] w fun e w' => e = .returned (.bool (decide (stateP s.data.toList))) ∧ w = w' := by
  unfold maxLen at hs
  have hsz : s.data.toList.length = s.size := by simp
  have HZ := Lib.hid hsz
  clear hsz
  go_enter Tryz.func60, Tryz.ntmps60
  go_wp2
  go_loop [3] (fun i => ∃ k : Nat, k ≤ s.size ∧ i = .int .i64 (k : Int) ∧ ∀ j, j < k → upI (byteI s.data.toList j)) (fun i => s.size - (intOf i).toNat)
  case atStart => exact ⟨0, Nat.zero_le _, rfl, fun j hj => absurd hj (by omega)⟩
  case round =>
    obtain ⟨k, hk, rfl, hall⟩ := hrel
    have HA := Lib.hid hall
    clear hall
    by_cases hlt : k < s.size
    · have HQ := Lib.hid (byteS hlt)
      have uk : (s[k].toNat : Int) < 256 := by have := UInt8.toNat_lt s[k]; omega
      have NX := Lib.hid (fun (h : upI (s[k].toNat : Int)) => (fun j hj => by
        by_cases hjk : j < k
        · exact HA.out j hjk
        · obtain rfl : j = k := by omega
          rw [HQ.out]; exact h : ∀ j, j < k + 1 → upI (byteI s.data.toList j)))
      have BD := Lib.hid (fun (h : ¬ upI (s[k].toNat : Int)) => stateP_no_at (l := s.data.toList) k (by rw [HZ.out]; exact hlt) (by rw [HQ.out]; exact h))
      by_cases c1 : (s[k].toNat : Int) < 65
      · have HN := Lib.hid (BD.out (by unfold upI; omega))
        go_wp2
        go_ret
        exact ⟨by rw [HN.out]; rfl, rfl⟩
      · by_cases c2 : 90 < (s[k].toNat : Int)
        · have HN := Lib.hid (BD.out (by unfold upI; omega))
          go_wp2
          go_ret
          exact ⟨by rw [HN.out]; rfl, rfl⟩
        · have HN := Lib.hid (NX.out (by unfold upI; omega))
          go_wp2
          go_round
          case rel => exact ⟨k + 1, by omega, by go_num, HN.out⟩
          case measure => simp [intOf]; omega
    · obtain rfl : k = s.size := by omega
      by_cases h1 : 1 ≤ s.size
      · by_cases h2 : s.size ≤ 3
        · have HN := Lib.hid ((stateP_yes (l := s.data.toList) (by rw [HZ.out]; omega) (by rw [HZ.out]; omega) (fun i hi => HA.out i (by rw [← HZ.out]; exact hi))).trans (decide_eq_true (show (s.size : Int) ≤ 3 by omega)).symm)
          go_wp2
          go_ret
          exact ⟨by rw [HN.out]; rfl, rfl⟩
        · have HN := Lib.hid ((stateP_no_long (l := s.data.toList) (by rw [HZ.out]; omega)).trans (decide_eq_false (show ¬ (s.size : Int) ≤ 3 by omega)).symm)
          go_wp2
          go_ret
          exact ⟨by rw [HN.out]; rfl, rfl⟩
      · have HN := Lib.hid (stateP_no_short (l := s.data.toList) (by rw [HZ.out]; omega))
        go_wp2
        go_ret
        exact ⟨by rw [HN.out]; rfl, rfl⟩
theorem nationalcert_st (l : List UInt8) (w : World) (hl : l.length ≤ maxLen) : Calls Tryz.prog 56 #[.string (bstr l)] w fun e w' => e = .returned (.bool (decide (stateP l))) ∧ w = w' :=
  state_any (bstr l) w (by show l.toArray.size ≤ _; simpa using hl)
theorem traveldocref29_st (l : List UInt8) (w : World) (hl : l.length ≤ maxLen) : Calls Tryz.prog 60 #[.string (bstr l)] w fun e w' => e = .returned (.bool (decide (stateP l))) ∧ w = w' :=
  refstate_any (bstr l) w (by show l.toArray.size ≤ _; simpa using hl)
theorem nationalcert_el (x : Int) (w : World) : Calls Tryz.prog 121 #[.int .i64 x] w fun e w' => e = .returned (.bool (isElem x)) ∧ w = w' := element_any x w
theorem traveldocref29_el (x : Int) (w : World) : Calls Tryz.prog 127 #[.int .i64 x] w fun e w' => e = .returned (.bool (isElem x)) ∧ w = w' := refelement_any x w
theorem nationalcert_serial (x : Int) (w : World) : Calls Tryz.prog 57 #[.int .i64 x] w fun e w' => e = .returned (.bool (decide (serP x))) ∧ w = w' := by
  by_cases h1 : 1 ≤ x
  · have HN := Lib.hid (show decide (serP x) = decide (x ≤ 1073741824) from decide_eq_decide.2 ⟨fun h => h.2, fun h => ⟨h1, h⟩⟩)
    go_enter Tryz.func57, Tryz.ntmps57
    go_wp2
    go_ret
    exact ⟨by rw [HN.out]; rfl, rfl⟩
  · have HN := Lib.hid (show decide (serP x) = false from decide_eq_false fun h => h1 h.1)
    go_enter Tryz.func57, Tryz.ntmps57
    go_wp2
    go_ret
    exact ⟨by rw [HN.out]; rfl, rfl⟩
theorem traveldocref29_serial (x : Int) (w : World) : Calls Tryz.prog 61 #[.int .i64 x] w fun e w' => e = .returned (.bool (decide (serP x))) ∧ w = w' := by
  by_cases h1 : 1 ≤ x
  · have HN := Lib.hid (show decide (serP x) = decide (x ≤ 1073741824) from decide_eq_decide.2 ⟨fun h => h.2, fun h => ⟨h1, h⟩⟩)
    go_enter Tryz.func61, Tryz.ntmps61
    go_wp2
    go_ret
    exact ⟨by rw [HN.out]; rfl, rfl⟩
  · have HN := Lib.hid (show decide (serP x) = false from decide_eq_false fun h => h1 h.1)
    go_enter Tryz.func61, Tryz.ntmps61
    go_wp2
    go_ret
    exact ⟨by rw [HN.out]; rfl, rfl⟩
set_option maxHeartbeats 2000000 in
theorem nationalcert_check (c : NC) (w : World) (hs : smN c) : Calls Tryz.prog 107 #[ncV c] w (RetQ w (.int .i64 (ckN c))) := by
  unfold smN at hs
  have x0 : Ext w (w.alloc (ncO c)) := (Below.refl _ _).alloc (Nat.le_refl _) _
  unfold ncV
  go_enter Tryz.func107, Tryz.ntmps107
  go_wp2_with fail
  refine (nationalcert_st _ _ hs).mono ?_
  rintro e w' ⟨rfl, rfl⟩
  by_cases nA : stateP c.st
  · rw [decide_eq_true nA]
    by_cases r1 : c.kind < 1
    · have HN := Lib.hid (ckN_kind nA (.inl r1))
      clear nA
      go_wp2_with fail
      go_ret
      exact ⟨by rw [HN.out]; rfl, x0⟩
    by_cases r2 : 4 < c.kind
    · have HN := Lib.hid (ckN_kind nA (.inr r2))
      clear nA
      go_wp2_with fail
      go_ret
      exact ⟨by rw [HN.out]; rfl, x0⟩
    have HR := Lib.hid (show ¬ (c.kind < 1 ∨ 4 < c.kind) by omega)
    go_wp2_with fail
    refine (nationalcert_serial _ _).mono ?_
    rintro e w' ⟨rfl, rfl⟩
    by_cases s1 : serP c.num
    · rw [decide_eq_true s1]
      go_wp2_with fail
      refine (nationalcert_serial _ _).mono ?_
      rintro e w' ⟨rfl, rfl⟩
      by_cases s2 : serP c.iss
      · rw [decide_eq_true s2]
        go_wp2_with fail
        refine (nationalcert_serial _ _).mono ?_
        rintro e w' ⟨rfl, rfl⟩
        by_cases s3 : serP c.own
        · rw [decide_eq_true s3]
          have HS := Lib.hid (And.intro s1 (And.intro s2 s3))
          have HA := Lib.hid nA
          clear s1 s2 s3 nA
          by_cases q : (c.iss = c.own ↔ c.kind = 1)
          · have HQ := Lib.hid (show numsP c.num c.iss c.own c.kind from ⟨HS.out.1, HS.out.2.1, HS.out.2.2, q⟩)
            have hq : ((c.iss == c.own) == (c.kind == 1)) = true := by
              by_cases u : c.iss = c.own
              · have := q.1 u
                simp [u, this]
              · have : ¬ c.kind = 1 := fun k => u (q.2 k)
                have e1 : (c.iss == c.own) = false := by simpa using u
                have e2 : (c.kind == 1) = false := by simpa using this
                rw [e1, e2]; rfl
            clear q
            go_wp2_with fail
            refine (nationalcert_el _ _).mono ?_
            rintro e w' ⟨rfl, rfl⟩
            cases hE : isElem c.key with
            | false =>
              have HN := Lib.hid (ckN_key HA.out HR.out HQ.out hE)
              go_wp2_with fail
              go_ret
              exact ⟨by rw [HN.out]; rfl, x0⟩
            | true =>
              by_cases d1 : c.fr < 0
              · have HN := Lib.hid (ckN_term HA.out HR.out HQ.out hE (fun q => by have := q.1; omega))
                go_wp2_with fail
                go_ret
                exact ⟨by rw [HN.out]; rfl, x0⟩
              by_cases d2 : c.un < c.fr
              · have HN := Lib.hid (ckN_term HA.out HR.out HQ.out hE (fun q => by have := q.2.1; omega))
                go_wp2_with fail
                go_ret
                exact ⟨by rw [HN.out]; rfl, x0⟩
              by_cases d3 : c.to < c.un
              · have HN := Lib.hid (ckN_term HA.out HR.out HQ.out hE (fun q => by have := q.2.2.1; omega))
                go_wp2_with fail
                go_ret
                exact ⟨by rw [HN.out]; rfl, x0⟩
              by_cases d4 : 73048 < c.to
              · have HN := Lib.hid (ckN_term HA.out HR.out HQ.out hE (fun q => by have := q.2.2.2; omega))
                go_wp2_with fail
                go_ret
                exact ⟨by rw [HN.out]; rfl, x0⟩
              have HN := Lib.hid (ckN_yes HA.out HR.out HQ.out hE ⟨by omega, by omega, by omega, by omega⟩)
              go_wp2_with fail
              go_ret
              exact ⟨by rw [HN.out]; rfl, x0⟩
          · have HN := Lib.hid (ckN_nums HA.out HR.out (fun k => q k.2.2.2))
            have hq : ((c.iss == c.own) == (c.kind == 1)) = false := by
              by_cases u : c.iss = c.own
              · have : ¬ c.kind = 1 := fun k => q ⟨fun _ => k, fun _ => u⟩
                have e2 : (c.kind == 1) = false := by simpa using this
                simp [u, e2]
              · have : c.kind = 1 := Decidable.byContradiction fun k => q ⟨fun h => absurd h u, fun h => absurd h k⟩
                have e1 : (c.iss == c.own) = false := by simpa using u
                rw [e1, this]; rfl
            clear q
            go_wp2_with fail
            go_ret
            exact ⟨by rw [HN.out]; rfl, x0⟩
        · rw [decide_eq_false s3]
          have HN := Lib.hid (ckN_nums nA HR.out (fun k => s3 k.2.2.1))
          clear s1 s2 s3 nA
          go_wp2_with fail
          go_ret
          exact ⟨by rw [HN.out]; rfl, x0⟩
      · rw [decide_eq_false s2]
        have HN := Lib.hid (ckN_nums nA HR.out (fun k => s2 k.2.1))
        clear s1 s2 nA
        go_wp2_with fail
        go_ret
        exact ⟨by rw [HN.out]; rfl, x0⟩
    · rw [decide_eq_false s1]
      have HN := Lib.hid (ckN_nums nA HR.out (fun k => s1 k.1))
      clear s1 nA
      go_wp2_with fail
      go_ret
      exact ⟨by rw [HN.out]; rfl, x0⟩
  · rw [decide_eq_false nA]
    have HN := Lib.hid (ckN_st nA)
    clear nA
    go_wp2_with fail
    go_ret
    exact ⟨by rw [HN.out]; rfl, x0⟩
set_option maxHeartbeats 1000000 in
theorem nationalcert_on (c : NC) (day : Int) (w : World) (hs : smN c) : Calls Tryz.prog 116 #[ncV c, .int .i64 day] w (RetQ w (.int .i64 (onN c day))) := by
  obtain ⟨wz, hwz, z0, zr⟩ : ∃ wz, wz = w.alloc (ncO c) ∧ Ext w wz ∧ wz.heap[w.heap.size]? = some (.cells #[.string (bstr c.st), .int .i64 c.kind, .int .i64 c.num, .int .i64 c.iss, .int .i64 c.own, .int .i64 c.key, .int .i64 c.fr, .int .i64 c.un, .int .i64 c.to, .int .i64 c.e, .int .i64 c.s] 39 (0, 0)) := ⟨_, rfl, (Below.refl _ _).alloc (Nat.le_refl _) _, heap_alloc_new' w _⟩
  unfold ncV
  go_enter Tryz.func116, Tryz.ntmps116
  go_wp2_with fail
  rw [← hwz]
  clear hwz
  refine (nationalcert_check c _ hs).mono ?_
  rintro e w1 ⟨rfl, b1⟩
  have x1 := z0.tr b1
  have row := (b1.block _ (block_lt zr)).trans zr
  have q6 := cell_of_row w1 w.heap.size 6 _ _ _ row
  have q8 := cell_of_row w1 w.heap.size 8 _ _ _ row
  have hl := block_lt row
  by_cases hc : ckN c = 0
  · by_cases h1 : day < c.fr
    · have HN := Lib.hid (show onN c day = 64 by unfold onN; rw [if_pos hc, if_pos h1])
      rw [hc]
      clear hc row zr
      go_wp2_with fail
      go_ret
      exact ⟨by rw [HN.out]; rfl, x1⟩
    by_cases h2 : c.to < day
    · have HN := Lib.hid (show onN c day = 63 by unfold onN; rw [if_pos hc, if_neg h1, if_pos h2])
      rw [hc]
      clear hc row zr
      go_wp2_with fail
      go_ret
      exact ⟨by rw [HN.out]; rfl, x1⟩
    have HN := Lib.hid (show onN c day = 0 by unfold onN; rw [if_pos hc, if_neg h1, if_neg h2])
    rw [hc]
    clear hc row zr
    go_wp2_with fail
    go_ret
    exact ⟨by rw [HN.out]; rfl, x1⟩
  · have HN := Lib.hid (show onN c day = ckN c from if_neg hc)
    have hb : (ckN c != 0) = true := by simpa using hc
    clear hc row zr
    go_wp2_with fail
    go_ret
    exact ⟨by rw [HN.out]; rfl, x1⟩
set_option maxHeartbeats 2000000 in
theorem traveldocref29_check (c : NC) (w : World) (hs : smN c) : Calls Tryz.prog 108 #[ncV c] w (RetQ w (.int .i64 (ckN c))) := by
  unfold smN at hs
  have x0 : Ext w (w.alloc (ncO c)) := (Below.refl _ _).alloc (Nat.le_refl _) _
  unfold ncV
  go_enter Tryz.func108, Tryz.ntmps108
  go_wp2_with fail
  refine (traveldocref29_st _ _ hs).mono ?_
  rintro e w' ⟨rfl, rfl⟩
  by_cases nA : stateP c.st
  · rw [decide_eq_true nA]
    by_cases r1 : c.kind < 1
    · have HN := Lib.hid (ckN_kind nA (.inl r1))
      clear nA
      go_wp2_with fail
      go_ret
      exact ⟨by rw [HN.out]; rfl, x0⟩
    by_cases r2 : 4 < c.kind
    · have HN := Lib.hid (ckN_kind nA (.inr r2))
      clear nA
      go_wp2_with fail
      go_ret
      exact ⟨by rw [HN.out]; rfl, x0⟩
    have HR := Lib.hid (show ¬ (c.kind < 1 ∨ 4 < c.kind) by omega)
    go_wp2_with fail
    refine (traveldocref29_serial _ _).mono ?_
    rintro e w' ⟨rfl, rfl⟩
    by_cases s1 : serP c.num
    · rw [decide_eq_true s1]
      go_wp2_with fail
      refine (traveldocref29_serial _ _).mono ?_
      rintro e w' ⟨rfl, rfl⟩
      by_cases s2 : serP c.iss
      · rw [decide_eq_true s2]
        go_wp2_with fail
        refine (traveldocref29_serial _ _).mono ?_
        rintro e w' ⟨rfl, rfl⟩
        by_cases s3 : serP c.own
        · rw [decide_eq_true s3]
          have HS := Lib.hid (And.intro s1 (And.intro s2 s3))
          have HA := Lib.hid nA
          clear s1 s2 s3 nA
          by_cases q : (c.iss = c.own ↔ c.kind = 1)
          · have HQ := Lib.hid (show numsP c.num c.iss c.own c.kind from ⟨HS.out.1, HS.out.2.1, HS.out.2.2, q⟩)
            have hq : ((c.iss == c.own) == (c.kind == 1)) = true := by
              by_cases u : c.iss = c.own
              · have := q.1 u
                simp [u, this]
              · have : ¬ c.kind = 1 := fun k => u (q.2 k)
                have e1 : (c.iss == c.own) = false := by simpa using u
                have e2 : (c.kind == 1) = false := by simpa using this
                rw [e1, e2]; rfl
            clear q
            go_wp2_with fail
            refine (traveldocref29_el _ _).mono ?_
            rintro e w' ⟨rfl, rfl⟩
            cases hE : isElem c.key with
            | false =>
              have HN := Lib.hid (ckN_key HA.out HR.out HQ.out hE)
              go_wp2_with fail
              go_ret
              exact ⟨by rw [HN.out]; rfl, x0⟩
            | true =>
              by_cases d1 : c.fr < 0
              · have HN := Lib.hid (ckN_term HA.out HR.out HQ.out hE (fun q => by have := q.1; omega))
                go_wp2_with fail
                go_ret
                exact ⟨by rw [HN.out]; rfl, x0⟩
              by_cases d2 : c.un < c.fr
              · have HN := Lib.hid (ckN_term HA.out HR.out HQ.out hE (fun q => by have := q.2.1; omega))
                go_wp2_with fail
                go_ret
                exact ⟨by rw [HN.out]; rfl, x0⟩
              by_cases d3 : c.to < c.un
              · have HN := Lib.hid (ckN_term HA.out HR.out HQ.out hE (fun q => by have := q.2.2.1; omega))
                go_wp2_with fail
                go_ret
                exact ⟨by rw [HN.out]; rfl, x0⟩
              by_cases d4 : 73048 < c.to
              · have HN := Lib.hid (ckN_term HA.out HR.out HQ.out hE (fun q => by have := q.2.2.2; omega))
                go_wp2_with fail
                go_ret
                exact ⟨by rw [HN.out]; rfl, x0⟩
              have HN := Lib.hid (ckN_yes HA.out HR.out HQ.out hE ⟨by omega, by omega, by omega, by omega⟩)
              go_wp2_with fail
              go_ret
              exact ⟨by rw [HN.out]; rfl, x0⟩
          · have HN := Lib.hid (ckN_nums HA.out HR.out (fun k => q k.2.2.2))
            have hq : ((c.iss == c.own) == (c.kind == 1)) = false := by
              by_cases u : c.iss = c.own
              · have : ¬ c.kind = 1 := fun k => q ⟨fun _ => k, fun _ => u⟩
                have e2 : (c.kind == 1) = false := by simpa using this
                simp [u, e2]
              · have : c.kind = 1 := Decidable.byContradiction fun k => q ⟨fun h => absurd h u, fun h => absurd h k⟩
                have e1 : (c.iss == c.own) = false := by simpa using u
                rw [e1, this]; rfl
            clear q
            go_wp2_with fail
            go_ret
            exact ⟨by rw [HN.out]; rfl, x0⟩
        · rw [decide_eq_false s3]
          have HN := Lib.hid (ckN_nums nA HR.out (fun k => s3 k.2.2.1))
          clear s1 s2 s3 nA
          go_wp2_with fail
          go_ret
          exact ⟨by rw [HN.out]; rfl, x0⟩
      · rw [decide_eq_false s2]
        have HN := Lib.hid (ckN_nums nA HR.out (fun k => s2 k.2.1))
        clear s1 s2 nA
        go_wp2_with fail
        go_ret
        exact ⟨by rw [HN.out]; rfl, x0⟩
    · rw [decide_eq_false s1]
      have HN := Lib.hid (ckN_nums nA HR.out (fun k => s1 k.1))
      clear s1 nA
      go_wp2_with fail
      go_ret
      exact ⟨by rw [HN.out]; rfl, x0⟩
  · rw [decide_eq_false nA]
    have HN := Lib.hid (ckN_st nA)
    clear nA
    go_wp2_with fail
    go_ret
    exact ⟨by rw [HN.out]; rfl, x0⟩
end Go.Proofs.YtmmoenkmicimcaaGreatDoor
namespace Go.Proofs.YtmmoenkmicimcaaGreatDoor
open Go.RowKit
set_option linter.unusedVariables false
set_option maxRecDepth 100000
def elB (x : Int) : List UInt8 := if isElem x = true then be4 x else []
def elK (x : Int) : Int := if isElem x = true then 0 else 10
theorem gencode_any (x : Int) (w : World) : Calls Tryz.prog 181 #[.int .i64 x] w (RetBE w (elB x) (elK x)) := by
  cases h : isElem x with
  | true =>
    obtain ⟨x0, x1⟩ := isElem_in h
    unfold elB elK
    rw [if_pos h, if_pos h]
    go_enter Tryz.func181, Tryz.ntmps181
    go_wp2_with fail
    refine (element_any x _).mono ?_
    rintro e w' ⟨rfl, rfl⟩
    rw [h]
    go_wp2_with fail
    refine (oct4_any x _ (by omega) (by omega)).mono ?_
    rintro e w2 ⟨A, n, c, rfl, hn, o, b⟩
    go_wp2_with fail
    go_ret2
    exact ⟨_, _, _, rfl, hn, o, b⟩
  | false =>
    unfold elB elK
    rw [if_neg (by simp [h]), if_neg (by simp [h])]
    go_enter Tryz.func181, Tryz.ntmps181
    go_wp2_with fail
    refine (element_any x _).mono ?_
    rintro e w' ⟨rfl, rfl⟩
    rw [h]
    go_wp2_with fail
    go_ret2
    exact ⟨_, _, _, rfl, (show _ = _ from rfl), Own.nil_ _ _ _, Below.refl _ _⟩
theorem refgencode_any (x : Int) (w : World) : Calls Tryz.prog 177 #[.int .i64 x] w (RetBE w (elB x) (elK x)) := by
  cases h : isElem x with
  | true =>
    unfold elB elK
    rw [if_pos h, if_pos h]
    go_enter Tryz.func177, Tryz.ntmps177
    go_wp2_with fail
    refine (refelement_any x _).mono ?_
    rintro e w' ⟨rfl, rfl⟩
    rw [h]
    go_wp2_with fail
    refine (four_any x _).mono ?_
    rintro e w2 ⟨A, n, c, rfl, hn, o, b⟩
    go_wp2_with fail
    go_ret2
    exact ⟨_, _, _, rfl, hn, o, b⟩
  | false =>
    unfold elB elK
    rw [if_neg (by simp [h]), if_neg (by simp [h])]
    go_enter Tryz.func177, Tryz.ntmps177
    go_wp2_with fail
    refine (refelement_any x _).mono ?_
    rintro e w' ⟨rfl, rfl⟩
    rw [h]
    go_wp2_with fail
    go_ret2
    exact ⟨_, _, _, rfl, (show _ = _ from rfl), Own.nil_ _ _ _, Below.refl _ _⟩
def gdOk (l : List UInt8) : Prop := l.length = 4 ∧ isElem (num l) = true
instance (l : List UInt8) : Decidable (gdOk l) := inferInstanceAs (Decidable (_ ∧ _))
end Go.Proofs.YtmmoenkmicimcaaGreatDoor
namespace Go.Proofs.YtmmoenkmicimcaaGreatDoor
open Go.RowKit
set_option linter.unusedVariables false
set_option maxRecDepth 100000
def utoZ : List UInt8 := [85, 84, 79]
def deuN : List UInt8 := [68]
def xomN : List UInt8 := [88, 79, 77]
def zzzN : List UInt8 := [90, 90, 90]
/-- The name of a state. -/
def stateN (n : Int) : List UInt8 := if modI n 4 = 0 then utoZ else if modI n 4 = 1 then deuN else if modI n 4 = 2 then xomN else zzzN
theorem state_utoZ : stateP utoZ := by decide
theorem state_deu : stateP deuN := by decide
theorem stateN_ok (n : Int) : stateP (stateN n) := by
  unfold stateN
  split
  · exact state_utoZ
  · split
    · exact state_deu
    · split
      · exact (by decide : stateP xomN)
      · exact (by decide : stateP zzzN)
/-- A certificate that is signed with a secret. -/
def natC (k : Int) (st : List UInt8) (kind num iss own key fr un td : Int) : NC := isCN k ⟨st, kind, num, iss, own, key, fr, un, td, 0, 0⟩
/-- A certificate with these entries that is right under the key p. -/
structure IsNat (c : NC) (st : List UInt8) (kind num iss own key fr un td p : Int) : Prop where
  ck : ckN c = 0
  st : c.st = st
  kind : c.kind = kind
  num : c.num = num
  iss : c.iss = iss
  own : c.own = own
  key : c.key = key
  fr : c.fr = fr
  un : c.un = un
  tdd : c.to = td
  vf : vfN p c = true
theorem isNat {k : Int} {st : List UInt8} {kind num iss own key fr un td : Int} (hk : inB 1 1073741789 k = true) (h1 : stateP st) (h2 : 1 ≤ kind ∧ kind ≤ 4) (h3 : numsP num iss own kind) (h4 : isElem key = true) (h5 : termP fr un td) :
    IsNat (natC k st kind num iss own key fr un td) st kind num iss own key fr un td (pw 4 k) := by
  have hc : ckN ⟨st, kind, num, iss, own, key, fr, un, td, 0, 0⟩ = 0 := ckN_yes h1 (by show ¬ (kind < 1 ∨ 4 < kind); omega) h3 h4 h5
  have hv := vfN_issue hk hc
  have hw := (validN_issue hk hc).1
  unfold natC
  rw [isCN_in hk hc] at hv hw ⊢
  exact ⟨hw, rfl, rfl, rfl, rfl, rfl, rfl, rfl, rfl, rfl, hv⟩
theorem isNat_key {k : Int} {st : List UInt8} {kind num iss own key fr un td : Int} {c : NC} (h : IsNat c st kind num iss own key fr un td k) : smN c := sm_ofN h.ck
theorem IsNat.on {c : NC} {st : List UInt8} {kind num iss own key fr un td p day : Int} (h : IsNat c st kind num iss own key fr un td p) (h1 : fr ≤ day) (h2 : day ≤ td) : onN c day = 0 := by
  unfold onN
  rw [if_pos h.ck, if_neg (by rw [h.fr]; omega), if_neg (by rw [h.tdd]; omega)]
/-- A national authority. -/
structure AU where
  st : List UInt8
  next : Int
  roots : List NC
  links : List NC
  secs : List Int
  sg : NC
  ls : NC
  ssec : Int
  lsec : Int
def keyK (a : AU) (seed : Int) : Int := nearI (seed * 97 + (a.secs.length : Int) * 13)
def keyS (a : AU) (seed : Int) : Int := nearI (seed * 89 + (a.secs.length : Int) * 7 + 1)
def keyL (a : AU) (seed : Int) : Int := nearI (seed * 83 + (a.secs.length : Int) * 5 + 2)
/-- The number of the next signer. -/
def keyN (a : AU) : Int := if a.secs.length = 0 then a.next + 1 else a.next + 1 + 1
def rootC (a : AU) (seed day : Int) : NC := natC (keyK a seed) a.st 1 a.next ((a.secs.length : Int) + 1) ((a.secs.length : Int) + 1) (pw 4 (keyK a seed)) day (day + 1825) (day + 5475)
def linkC (a : AU) (seed day : Int) : NC := natC (a.secs.getD (a.secs.length - 1) 0) a.st 2 (a.next + 1) (a.secs.length : Int) ((a.secs.length : Int) + 1) (pw 4 (keyK a seed)) day (day + 1825) (day + 5475)
def signC (a : AU) (seed day : Int) : NC := natC (keyK a seed) a.st 3 (keyN a) ((a.secs.length : Int) + 1) (1000 + keyN a) (pw 4 (keyS a seed)) day (day + 90) (day + 3740)
def listC (a : AU) (seed day : Int) : NC := natC (keyK a seed) a.st 4 (keyN a + 1) ((a.secs.length : Int) + 1) (1000 + (keyN a + 1)) (pw 4 (keyL a seed)) day (day + 365) (day + 730)
/-- The authority with a further key. -/
def keyA (a : AU) (seed day : Int) : AU :=
  ⟨a.st, keyN a + 1 + 1, a.roots ++ [rootC a seed day], (if a.secs.length = 0 then a.links else a.links ++ [linkC a seed day]), a.secs ++ [keyK a seed], signC a seed day, listC a seed day, keyS a seed, keyL a seed⟩
def zeroA (st : List UInt8) : AU := ⟨st, 1, [], [], [], zeroN, zeroN, 0, 0⟩
theorem nearI_in (x : Int) : inB 1 1073741789 (nearI x) = true := near_in x
theorem elem_near (x : Int) : isElem (pw 4 (nearI x)) = true := by
  obtain ⟨h0, h1⟩ := inB_true (nearI_in x)
  exact pub_elem h0 h1
/-- What holds of an authority's certificates; ds: the days of its keys. -/
structure AuI (a : AU) (ds : List Int) : Prop where
  st : stateP a.st
  len : a.secs.length = ds.length
  le : ds.length ≤ 8
  next : 1 ≤ a.next ∧ a.next ≤ 1 + 4 * (ds.length : Int)
  days : ∀ d ∈ ds, 40000 ≤ d ∧ d ≤ 42000
  rlen : a.roots.length = ds.length
  llen : a.links.length = ds.length - 1
  sec : ∀ k ∈ a.secs, inB 1 1073741789 k = true
  rt : ∀ (i : Nat) (c : NC), a.roots[i]? = some c → ∃ k d num : Int, a.secs[i]? = some k ∧ ds[i]? = some d ∧ 1 ≤ num ∧ num ≤ 100 ∧ IsNat c a.st 1 num ((i : Int) + 1) ((i : Int) + 1) (pw 4 k) d (d + 1825) (d + 5475) (pw 4 k)
  lk : ∀ (i : Nat) (c : NC), a.links[i]? = some c → ∃ k k' d num : Int, a.secs[i]? = some k ∧ a.secs[i + 1]? = some k' ∧ ds[i + 1]? = some d ∧ 1 ≤ num ∧ num ≤ 100 ∧ IsNat c a.st 2 num ((i : Int) + 1) ((i : Int) + 1 + 1) (pw 4 k') d (d + 1825) (d + 5475) (pw 4 k)
  sg : ds ≠ [] → ∃ k d num : Int, a.secs[ds.length - 1]? = some k ∧ ds[ds.length - 1]? = some d ∧ 1 ≤ num ∧ num ≤ 100 ∧ inB 1 1073741789 a.ssec = true ∧ IsNat a.sg a.st 3 num (ds.length : Int) (1000 + num) (pw 4 a.ssec) d (d + 90) (d + 3740) (pw 4 k)
  ls : ds ≠ [] → ∃ k d num : Int, a.secs[ds.length - 1]? = some k ∧ ds[ds.length - 1]? = some d ∧ 1 ≤ num ∧ num ≤ 100 ∧ inB 1 1073741789 a.lsec = true ∧ IsNat a.ls a.st 4 num (ds.length : Int) (1000 + num) (pw 4 a.lsec) d (d + 365) (d + 730) (pw 4 k)
  ne : ds ≠ [] → a.sg.num ≠ a.ls.num
theorem auI_zero {st : List UInt8} (h : stateP st) : AuI (zeroA st) [] :=
  ⟨h, rfl, Nat.zero_le _, ⟨by show (1 : Int) ≤ 1; omega, by show (1 : Int) ≤ 1 + 4 * 0; omega⟩, fun d hd => (by cases hd), rfl, rfl, fun k hk => (by cases hk), fun i c hc => (by cases hc), fun i c hc => (by cases hc), fun q => absurd rfl q, fun q => absurd rfl q, fun q => absurd rfl q⟩
theorem snoc_get {α : Type} {l : List α} {x y : α} {i : Nat} (h : (l ++ [x])[i]? = some y) : l[i]? = some y ∨ (i = l.length ∧ y = x) := by
  by_cases hi : i < l.length
  · rw [List.getElem?_append_left hi] at h
    exact .inl h
  · rw [List.getElem?_append_right (by omega)] at h
    have h0 : i - l.length = 0 := by
      have := (List.getElem?_eq_some_iff.1 h).1
      simpa using this
    rw [h0] at h
    exact .inr ⟨by omega, (Option.some.inj h).symm⟩
theorem snoc_old {α : Type} {l : List α} {x y : α} {i : Nat} (h : l[i]? = some y) : (l ++ [x])[i]? = some y := by
  rw [List.getElem?_append_left (List.getElem?_eq_some_iff.1 h).1]
  exact h
theorem snoc_new {α : Type} (l : List α) (x : α) {n : Nat} (h : n = l.length) : (l ++ [x])[n]? = some x := by
  subst h
  simp
theorem keyN_eq (a : AU) : keyN a = a.next + 1 ∨ keyN a = a.next + 1 + 1 := by
  unfold keyN
  split
  · exact .inl rfl
  · exact .inr rfl
/-- One more key. -/
theorem auI_key {a : AU} {ds : List Int} (h : AuI a ds) (seed : Int) {day : Int} (h0 : 40000 ≤ day) (h1 : day ≤ 42000) (h8 : ds.length < 8) : AuI (keyA a seed day) (ds ++ [day]) := by
  have hn := h.next
  have hk := keyN_eq a
  have hl := h.len
  have hle : (a.secs.length : Int) ≤ 7 := by rw [hl]; omega
  have kin : inB 1 1073741789 (keyK a seed) = true := nearI_in _
  have hroot : IsNat (rootC a seed day) a.st 1 a.next ((ds.length : Int) + 1) ((ds.length : Int) + 1) (pw 4 (keyK a seed)) day (day + 1825) (day + 5475) (pw 4 (keyK a seed)) := by
    have := isNat (k := keyK a seed) (st := a.st) (kind := 1) (num := a.next) (iss := (a.secs.length : Int) + 1) (own := (a.secs.length : Int) + 1) (key := pw 4 (keyK a seed)) (fr := day) (un := day + 1825) (td := day + 5475) kin h.st ⟨by omega, by omega⟩
      ⟨⟨by omega, by omega⟩, ⟨by omega, by omega⟩, ⟨by omega, by omega⟩, ⟨fun _ => rfl, fun _ => rfl⟩⟩ (elem_near _) ⟨by omega, by omega, by omega, by omega⟩
    rw [show (ds.length : Int) = (a.secs.length : Int) by rw [hl]]
    exact this
  have hsign : IsNat (signC a seed day) a.st 3 (keyN a) ((ds.length : Int) + 1) (1000 + keyN a) (pw 4 (keyS a seed)) day (day + 90) (day + 3740) (pw 4 (keyK a seed)) := by
    have := isNat (k := keyK a seed) (st := a.st) (kind := 3) (num := keyN a) (iss := (a.secs.length : Int) + 1) (own := 1000 + keyN a) (key := pw 4 (keyS a seed)) (fr := day) (un := day + 90) (td := day + 3740) kin h.st ⟨by omega, by omega⟩
      ⟨⟨by omega, by omega⟩, ⟨by omega, by omega⟩, ⟨by omega, by omega⟩, ⟨fun _ => by omega, fun _ => by omega⟩⟩ (elem_near _) ⟨by omega, by omega, by omega, by omega⟩
    rw [show (ds.length : Int) = (a.secs.length : Int) by rw [hl]]
    exact this
  have hlist : IsNat (listC a seed day) a.st 4 (keyN a + 1) ((ds.length : Int) + 1) (1000 + (keyN a + 1)) (pw 4 (keyL a seed)) day (day + 365) (day + 730) (pw 4 (keyK a seed)) := by
    have := isNat (k := keyK a seed) (st := a.st) (kind := 4) (num := keyN a + 1) (iss := (a.secs.length : Int) + 1) (own := 1000 + (keyN a + 1)) (key := pw 4 (keyL a seed)) (fr := day) (un := day + 365) (td := day + 730) kin h.st ⟨by omega, by omega⟩
      ⟨⟨by omega, by omega⟩, ⟨by omega, by omega⟩, ⟨by omega, by omega⟩, ⟨fun _ => by omega, fun _ => by omega⟩⟩ (elem_near _) ⟨by omega, by omega, by omega, by omega⟩
    rw [show (ds.length : Int) = (a.secs.length : Int) by rw [hl]]
    exact this
  have el : (ds ++ [day]).length = ds.length + 1 := by simp
  have ec : (((ds ++ [day]).length : Nat) : Int) = (ds.length : Int) + 1 := by rw [el]; omega
  refine ⟨h.st, ?_, by rw [el]; omega, ?_, ?_, ?_, ?_, ?_, ?_, ?_, ?_, ?_, ?_⟩
  · show (a.secs ++ [_]).length = _
    rw [List.length_append, el, hl]
    rfl
  · show 1 ≤ keyN a + 1 + 1 ∧ keyN a + 1 + 1 ≤ _
    rw [ec]
    omega
  · intro d hd
    rcases List.mem_append.1 hd with hd | hd
    · exact h.days d hd
    · rw [List.mem_singleton.1 hd]; exact ⟨h0, h1⟩
  · show (a.roots ++ [_]).length = _
    rw [List.length_append, el, h.rlen]
    rfl
  · show (if a.secs.length = 0 then a.links else a.links ++ [linkC a seed day]).length = _
    rw [el]
    have := h.llen
    split
    · rename_i q
      rw [this]; omega
    · rename_i q
      rw [List.length_append, this]
      show ds.length - 1 + 1 = _
      omega
  · intro k hk
    rcases List.mem_append.1 hk with hk | hk
    · exact h.sec k hk
    · rw [List.mem_singleton.1 hk]; exact kin
  · intro i c hc
    rcases snoc_get hc with hc | ⟨hi, rfl⟩
    · obtain ⟨k, d, num, q1, q2, q3, q4, q5⟩ := h.rt i c hc
      exact ⟨k, d, num, snoc_old q1, snoc_old q2, q3, q4, q5⟩
    · rw [h.rlen] at hi
      subst hi
      exact ⟨_, _, _, snoc_new _ _ hl.symm, snoc_new _ _ rfl, hn.1, by omega, hroot⟩
  · intro i c hc
    by_cases h00 : a.secs.length = 0
    · have hc' : (if a.secs.length = 0 then a.links else a.links ++ [linkC a seed day])[i]? = some c := hc
      rw [if_pos h00] at hc'
      have := (List.getElem?_eq_some_iff.1 hc').1
      rw [h.llen] at this
      omega
    · have hc' : (if a.secs.length = 0 then a.links else a.links ++ [linkC a seed day])[i]? = some c := hc
      rw [if_neg h00] at hc'
      rcases snoc_get hc' with hc | ⟨hi, rfl⟩
      · obtain ⟨k, k', d, num, q1, q1', q2, q3, q4, q5⟩ := h.lk i c hc
        exact ⟨k, k', d, num, snoc_old q1, snoc_old q1', snoc_old q2, q3, q4, q5⟩
      · rw [h.llen] at hi
        have hsl : ds.length - 1 < a.secs.length := by omega
        obtain ⟨ko, hko⟩ : ∃ ko, a.secs[ds.length - 1]? = some ko := ⟨_, List.getElem?_eq_getElem hsl⟩
        have e1 : a.secs.getD (a.secs.length - 1) 0 = ko := by rw [hl, List.getD_eq_getElem?_getD, hko]; rfl
        have kin0 := h.sec ko (List.mem_of_getElem? hko)
        have hlink := isNat (k := ko) (st := a.st) (kind := 2) (num := a.next + 1) (iss := (a.secs.length : Int)) (own := (a.secs.length : Int) + 1) (key := pw 4 (keyK a seed)) (fr := day) (un := day + 1825) (td := day + 5475) kin0 h.st ⟨by omega, by omega⟩
          ⟨⟨by omega, by omega⟩, ⟨by omega, by omega⟩, ⟨by omega, by omega⟩, ⟨fun _ => by omega, fun _ => by omega⟩⟩ (elem_near _) ⟨by omega, by omega, by omega, by omega⟩
        subst hi
        refine ⟨ko, keyK a seed, day, a.next + 1, snoc_old hko, snoc_new _ _ (by omega), snoc_new _ _ (by omega), by omega, by omega, ?_⟩
        have ei : (((ds.length - 1 : Nat) : Int) + 1) = (a.secs.length : Int) := by omega
        rw [ei]
        unfold linkC
        rw [e1]
        exact hlink
  · intro _
    refine ⟨keyK a seed, day, keyN a, ?_, ?_, by omega, by omega, nearI_in _, ?_⟩
    · rw [el]; exact snoc_new _ _ (by omega)
    · rw [el]; exact snoc_new _ _ (by omega)
    · rw [ec]; exact hsign
  · intro _
    refine ⟨keyK a seed, day, keyN a + 1, ?_, ?_, by omega, by omega, nearI_in _, ?_⟩
    · rw [el]; exact snoc_new _ _ (by omega)
    · rw [el]; exact snoc_new _ _ (by omega)
    · rw [ec]; exact hlist
  · intro _
    show (signC a seed day).num ≠ (listC a seed day).num
    rw [hsign.num, hlist.num]
    omega
/-! ### One follows the other -/
theorem fol_nat {a b : NC} {st : List UInt8} {ka na ia oa ya fa ua ta pa kb nb ib ob yb fb ub tb pb day : Int} (ha : IsNat a st ka na ia oa ya fa ua ta pa) (hb : IsNat b st kb nb ib ob yb fb ub tb pb) (h1 : ib = oa) (h2 : ka = 1 ∨ ka = 2) (h3 : kb ≠ 1) (h4 : pb = ya)
    (d1 : fa ≤ day) (d2 : day ≤ ta) (d3 : fb ≤ day) (d4 : day ≤ tb) : folB day a b = true :=
  decide_eq_true ⟨by rw [ha.st, hb.st], by rw [hb.iss, ha.own]; exact h1, by rw [ha.kind]; exact h2, by rw [hb.kind]; exact h3, ha.on d1 d2, hb.on d3 d4, by rw [ha.key, ← h4]; exact hb.vf⟩
theorem root_nat {c : NC} {st : List UInt8} {num iss own key fr un td day : Int} (h : IsNat c st 1 num iss own key fr un td key) (d1 : fr ≤ day) (d2 : day ≤ td) : rootP st day c :=
  ⟨h.st, h.on d1 d2, by unfold rtN; rw [if_pos h.kind, h.key]; exact h.vf⟩
end Go.Proofs.YtmmoenkmicimcaaGreatDoor
namespace Go.Proofs.YtmmoenkmicimcaaGreatDoor
open Go.RowKit
set_option linter.unusedVariables false
set_option maxRecDepth 100000
structure TP where
  ho : List UInt8
  key : Int
  rights : Int
  fr : Int
  to : Int
structure CH where
  ho : List UInt8
  key : Int
  role : Int
  rights : Int
  fr : Int
  to : Int
structure TR where
  ps : List TP
  dt : Int
/-- What point reports. -/
def ptK (p : TP) : Int :=
  if ¬ nameP p.ho then 60 else if isElem p.key = false then 10 else if p.rights < 0 ∨ 65535 < p.rights then 62 else if ¬ daysP p.fr p.to then 8 else 0
def ptsK : List TP → Int
  | [] => 0
  | p :: l => if ptK p = 0 then ptsK l else ptK p
def dupP : List TP → Bool
  | [p, q] => decide (p.ho = q.ho)
  | _ => false
/-- What Valid reports. -/
def vdK (t : TR) : Int :=
  if t.ps.length < 1 ∨ 2 < t.ps.length then 72 else if ptsK t.ps ≠ 0 then ptsK t.ps else if dupP t.ps = true then 15 else if t.dt < 0 ∨ 73048 < t.dt then 8 else 0
def followB (b r : Int) : Bool := if b = 1 then decide (r ≠ 4) else if b = 2 ∨ b = 3 then decide (r = 4) else false
section
variable {t : TR} {c : CH} {x : TC} (h1 : vdK t = 0)
include h1
variable (h2 : c.ho ≠ [])
include h2
variable (h3 : ckT x = 0)
include h3
variable (h4 : x.au = c.ho)
include h4
variable (h5 : vfB c.key x = true)
include h5
variable (h6 : followB c.role x.role = true)
include h6
variable (h7 : ¬ (c.to < t.dt ∨ x.to < t.dt))
include h7
end
end Go.Proofs.YtmmoenkmicimcaaGreatDoor
