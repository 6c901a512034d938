/- Parts Sg Sx Se Sd Ct Qp Qq Qv Xv Qz Qs of the proof. -/
import Derived.Test.YthbpdhanljpigaaGreatDoorVan
import Derived.Test.YthbpdhanljpigaaGreatDoorVak
import Derived.Test.YthbpdhanljpigaaGreatDoorVaj
import Derived.Test.YthbpdhanljpigaaGreatDoorVae
import Derived.Test.YthbpdhanljpigaaGreatDoorVaa
import Derived.Test.YthbpdhanljpigaaGreatDoorVac
import Derived.Test.YthbpdhanljpigaaGreatDoorVah
import Derived.Test.YthbpdhanljpigaaGreatDoorVag
namespace Go.Proofs.YthbpdhanljpigaaGreatDoor
open Go.RowKit
set_option linter.unusedVariables false
set_option maxRecDepth 100000
/-- A number of the digest of a number and a message. -/
def hnum (r : Int) (l : List UInt8) (m : Int) : Int := num ((sha (be4 r ++ l)).take 7) % m
theorem hnum_bd (r : Int) (l : List UInt8) {m : Int} (h : 1 ≤ m) : 0 ≤ hnum r l m ∧ hnum r l m < m := ⟨Int.emod_nonneg _ (by omega), Int.emod_lt_of_pos _ (by omega)⟩
theorem number_h {a : Value} {l : List UInt8} (r m : Int) (w : World) (ha : Rd w a (bvs l)) (hl : l.length ≤ 140737488352000) (h0 : 0 ≤ r) (h1 : r < 4294967296) (hm : 1 ≤ m) (E : KTab w 2) :
    Calls Tryz.prog 82 #[.int .i64 r, a, .int .i64 m] w (RetQ w (.int .i64 (hnum r l m))) := by
  have ha0 := ha
  obtain ⟨A, n1, c, rfl, hn1, hnc, hcm, hA⟩ := ha.bytes
  subst hn1
  clear hA ha
  have q1 := (num_bd7 (l := (sha (be4 r ++ l)).take 7) (by rw [List.length_take]; omega)).1
  have q2 := (num_bd7 (l := (sha (be4 r ++ l)).take 7) (by rw [List.length_take]; omega)).2
  go_enter Tryz.func82, Tryz.ntmps82
  go_wp2_with fail
  refine (oct4_any _ _ (by omega) (by omega)).mono ?_
  rintro e w1 ⟨A1, n1, c1, rfl, hn1, o1, b1⟩
  have e0 : Ext w1 (w1.alloc (.cells #[.slice A1 n1 c1, .slice A l.length c] 26)) := (Below.refl _ _).alloc (Nat.le_refl _) _
  go_wp2_with (first
    | (go_at_call 130; refine (concat2_any (xs := be4 r) _ (heap_alloc_new' w1 _) (o1.rd.ext e0) (ha0.ext (b1.tr e0)) (by simp [be4]; omega)).mono ?_; rintro e w2 ⟨A2, n2, c2, rfl, hn2, o2, b2⟩)
    | (go_at_call 44; refine (digsum_any _ o2.rd (by simp [be4]; omega) (E.below ((b1.tr e0).tr b2))).mono ?_; rintro e w3 ⟨A3, n3, c3, rfl, hn3, o3, b3⟩; obtain rfl : n3 = 32 := (by rw [hn3.out, sha_length]); have hc3 := o3.rd.caps; have h7 : 7 ≤ c3 := (by omega); clear hc3)
    | (go_at_call 126; refine (number_any _ (o3.rd.take 7 (by omega)) (by rw [List.length_take]; omega)).mono ?_; rintro e w4 ⟨rfl, rfl⟩))
  go_ret
  exact ⟨rfl, ((b1.tr e0).tr b2).tr b3⟩
/-- The signature of a message. -/
def sigN (k : Int) (l : List UInt8) : Int := 1 + hnum k l 1073741788
def sigE (k : Int) (l : List UInt8) : Int := hnum (pw 4 (sigN k l)) l 1073741789
def sigS (k : Int) (l : List UInt8) : Int := (sigN k l + sigE k l * k) % 1073741789
theorem sigN_bd (k : Int) (l : List UInt8) : 1 ≤ sigN k l ∧ sigN k l < 1073741789 := by
  obtain ⟨a, b⟩ := hnum_bd k l (m := 1073741788) (by omega)
  unfold sigN; omega
theorem sigE_bd (k : Int) (l : List UInt8) : 0 ≤ sigE k l ∧ sigE k l < 1073741789 := hnum_bd _ l (by omega)
theorem sigS_bd (k : Int) (l : List UInt8) : 0 ≤ sigS k l ∧ sigS k l < 1073741789 := by unfold sigS; omega
/-- A call that returns a signature and a number. -/
def sgV (e s k : Int) : Value := .tuple #[.agg #[.int .i64 e, .int .i64 s], .int .i64 k]
theorem in4 : inB 1 2147483579 4 = true := inB_yes (by omega) (by omega)
set_option maxHeartbeats 400000 in
theorem sign_yes {a : Value} {l : List UInt8} (k : Int) (w : World) (hk : inB 1 1073741789 k = true) (ha : Rd w a (bvs l)) (hl : l.length ≤ 140737488352000) (E : KTab w 2) :
    Calls Tryz.prog 49 #[.int .i64 k, a] w (RetQ w (sgV (sigE k l) (sigS k l) 0)) := by
  obtain ⟨k0, k1⟩ := inB_true hk
  have ha0 := ha
  obtain ⟨A, n1, c, rfl, hn1, hnc, hcm, hA⟩ := ha.bytes
  subst hn1
  clear hA ha
  have e0 : Ext w (w.alloc (.cells #[.int .i64 0, .int .i64 0] 35)) := (Below.refl _ _).alloc (Nat.le_refl _) _
  go_enter Tryz.func49, Tryz.ntmps49
  go_wp2_with fail
  refine (public_yes _ _ hk).mono ?_
  rintro e w' ⟨rfl, rfl⟩
  go_wp2_with fail
  refine (number_h _ _ _ (ha0.ext e0) (by omega) (by omega) (by omega) (by omega) (E.below e0)).mono ?_
  rintro e w1 ⟨rfl, b1⟩
  obtain ⟨n0, n1⟩ := sigN_bd k l
  have HN := Lib.hid (show 1 + hnum k l 1073741788 = sigN k l from rfl)
  obtain ⟨hb0, hb1⟩ := hnum_bd k l (m := 1073741788) (by omega)
  go_wp2_with fail
  rw [HN.out]
  refine (gpower_yes _ _ _ in4 (by omega) (by omega)).mono ?_
  rintro e w' ⟨rfl, rfl⟩
  have p0 := pw_lo 4 (sigN k l)
  have p1 := pw_hi 4 (sigN k l)
  clear hb0 hb1
  have b01 := e0.tr b1
  go_wp2_with fail
  refine (number_h _ _ _ (ha0.ext b01) (by omega) (by omega) (by omega) (by omega) (E.below b01)).mono ?_
  rw [show hnum (pw 4 (sigN k l)) l 1073741789 = sigE k l from rfl]
  rintro e w2 ⟨rfl, b2⟩
  obtain ⟨g0, g1⟩ := sigE_bd k l
  obtain ⟨m0, m1⟩ := mul_sq g0 (by omega) (by omega : 0 ≤ k) (by omega)
  have HS := Lib.hid (show (sigN k l + sigE k l * k) % 1073741789 = sigS k l from rfl)
  have hlt : w.heap.size < (w.alloc (.cells #[.int .i64 0, .int .i64 0] 35)).heap.size := by simp
  have c0 : w2.cell? ⟨w.heap.size, 0, none⟩ = some (.int .i64 0) := ((b1.tr b2).cell (p := ⟨w.heap.size, 0, none⟩) hlt).trans (by go_simp)
  have c1 : w2.cell? ⟨w.heap.size, 1, none⟩ = some (.int .i64 0) := ((b1.tr b2).cell (p := ⟨w.heap.size, 1, none⟩) hlt).trans (by go_simp)
  have f0 : w2.frozen? ⟨w.heap.size, 0, none⟩ = false := ((b1.tr b2).frozen (p := ⟨w.heap.size, 0, none⟩) hlt).trans (by go_simp)
  have f1 : w2.frozen? ⟨w.heap.size, 1, none⟩ = false := ((b1.tr b2).frozen (p := ⟨w.heap.size, 1, none⟩) hlt).trans (by go_simp)
  have b02 := b01.tr b2
  go_wp2_with fail
  rw [HS.out]
  refine bodyPost_ret (v := sgV (sigE k l) (sigS k l) 0) ?_ rfl ⟨rfl, (b02.setCell (p := ⟨w.heap.size, 0, none⟩) (Nat.le_refl _) _).setCell (p := ⟨w.heap.size, 1, none⟩) (Nat.le_refl _) _⟩
  simp [results, Tryz.results49, go_sem, c0, c1, sgV]
theorem sign_no {a : Value} {l : List UInt8} (k : Int) (w : World) (hk : inB 1 1073741789 k = false) (ha : Rd w a (bvs l)) :
    Calls Tryz.prog 49 #[.int .i64 k, a] w (RetQ w (sgV 0 0 3)) := by
  go_enter Tryz.func49, Tryz.ntmps49
  go_wp2_with (go_at_call 107; refine (public_no _ _ hk).mono ?_; rintro e w' ⟨rfl, rfl⟩)
  refine bodyPost_ret (v := sgV 0 0 3) ?_ rfl ⟨rfl, (Below.refl _ _).alloc (Nat.le_refl _) _⟩
  simp [results, Tryz.results49, go_sem, sgV]
end Go.Proofs.YthbpdhanljpigaaGreatDoor
namespace Go.Proofs.YthbpdhanljpigaaGreatDoor
open Go.RowKit
set_option linter.unusedVariables false
set_option maxRecDepth 100000
def sE (k : Int) (l : List UInt8) : Int := if inB 1 1073741789 k = true then sigE k l else 0
def sS (k : Int) (l : List UInt8) : Int := if inB 1 1073741789 k = true then sigS k l else 0
def sK (k : Int) : Int := if inB 1 1073741789 k = true then 0 else 3
theorem sign_any {a : Value} {l : List UInt8} (k : Int) (w : World) (ha : Rd w a (bvs l)) (hl : l.length ≤ 140737488352000) (E : KTab w 2) :
    Calls Tryz.prog 49 #[.int .i64 k, a] w (RetQ w (sgV (sE k l) (sS k l) (sK k))) := by
  unfold sE sS sK
  by_cases h : inB 1 1073741789 k = true
  · rw [if_pos h, if_pos h, if_pos h]; exact sign_yes k w h ha hl E
  · rw [if_neg h, if_neg h, if_neg h]; exact sign_no k w (not_true h) ha
end Go.Proofs.YthbpdhanljpigaaGreatDoor
namespace Go.Proofs.YthbpdhanljpigaaGreatDoor
open Go.RowKit
set_option linter.unusedVariables false
set_option maxRecDepth 100000
/-- Where the loop stands. -/
def EncR (w : World) (e s : Int) (v i : Value) (wr : World) : Prop :=
  ∃ A n c, v = .slice A n c ∧ Ext w wr ∧ ((i = .int .i64 0 ∧ Own wr w.heap.size 5 (.slice A n c) (bvs [])) ∨ (i = .int .i64 1 ∧ Own wr w.heap.size 5 (.slice A n c) (bvs (be4 e))) ∨ (i = .int .i64 2 ∧ Hid (n = 8) ∧ Own wr w.heap.size 5 (.slice A n c) (bvs (be4 e ++ be4 s))))
set_option maxHeartbeats 1000000 in
theorem enc_yes (e s : Int) (w : World) (he : inB 0 1073741789 e = true) (hs : inB 0 1073741789 s = true) :
    Calls Tryz.prog 62 #[.agg #[.int .i64 e, .int .i64 s]] w (RetBE w (be4 e ++ be4 s) 0) := by
  obtain ⟨e0, e1⟩ := inB_true he
  obtain ⟨s0, s1⟩ := inB_true hs
  have i0 : ∀ w : World, (Instr.index 136 (.agg #[.int .i64 e, .int .i64 s]) (.int .i64 0)).run Tryz.prog w = .ok (.int .i64 e) w := fun _ => by kernel_rfl
  have i1 : ∀ w : World, (Instr.index 136 (.agg #[.int .i64 e, .int .i64 s]) (.int .i64 1)).run Tryz.prog w = .ok (.int .i64 s) w := fun _ => by kernel_rfl
  have x0 : Ext w (w.alloc (.cells #[.int .i64 e, .int .i64 s] 35)) := (Below.refl _ _).alloc (Nat.le_refl _) _
  go_enter Tryz.func62, Tryz.ntmps62
  go_wp2_with fail
  go_loopw [4, 14] (fun v i wr => EncR w e s v i wr) (fun _ i _ => 2 - (intOf i).toNat)
  case atStart => exact ⟨_, _, _, rfl, x0, .inl ⟨rfl, nilB _ _⟩⟩
  case round =>
    obtain ⟨A, n, c, rfl, b, hrel⟩ := hrel
    rcases hrel with ⟨rfl, o⟩ | ⟨rfl, o⟩ | ⟨rfl, hn, o⟩
    · go_wp2_with (first
        | (go_at_call 79; refine (exponent_any _ _).mono ?_; rw [he]; rintro e' w' ⟨rfl, rfl⟩)
        | (go_at_call 118; refine (oct4_any _ _ (by omega) (by omega)).mono ?_; rintro e' w3 ⟨A3, n3, c3, rfl, hn3, o3, b3⟩)
        | (refine appB (o.ext b3) o3.rd (b.tr b3) (by simp [be4]) (b.tr b3).size rfl rfl rfl rfl ?_; intro A6 n6 c6 w6 hn6 o6 (b6 : Ext _ _) g6))
      go_roundw
      case rel => exact ⟨_, _, _, rfl, b6, .inr (.inl ⟨rfl, by simpa using o6⟩)⟩
      case measure => simp [intOf]
    · go_wp2_with (first
        | (go_at_call 79; refine (exponent_any _ _).mono ?_; rw [hs]; rintro e' w' ⟨rfl, rfl⟩)
        | (go_at_call 118; refine (oct4_any _ _ (by omega) (by omega)).mono ?_; rintro e' w3 ⟨A3, n3, c3, rfl, hn3, o3, b3⟩)
        | (refine appB (o.ext b3) o3.rd (b.tr b3) (by simp [be4]) (b.tr b3).size rfl rfl rfl rfl ?_; intro A6 n6 c6 w6 hn6 o6 (b6 : Ext _ _) g6))
      go_roundw
      case rel => exact ⟨_, _, _, rfl, b6, .inr (.inr ⟨rfl, hn6, o6⟩)⟩
      case measure => simp [intOf]
    · go_wp2_with fail
      go_ret2
      exact ⟨_, _, _, rfl, hn, o, b⟩
set_option maxHeartbeats 1000000 in
theorem enc_no1 (e s : Int) (w : World) (he : inB 0 1073741789 e = false) :
    Calls Tryz.prog 62 #[.agg #[.int .i64 e, .int .i64 s]] w (RetQ w (.tuple #[.slice none 0 0, .int .i64 3])) := by
  have i0 : ∀ w : World, (Instr.index 136 (.agg #[.int .i64 e, .int .i64 s]) (.int .i64 0)).run Tryz.prog w = .ok (.int .i64 e) w := fun _ => by kernel_rfl
  have x0 : Ext w (w.alloc (.cells #[.int .i64 e, .int .i64 s] 35)) := (Below.refl _ _).alloc (Nat.le_refl _) _
  go_enter Tryz.func62, Tryz.ntmps62
  go_wp2_with fail
  go_loopw [4, 14] (fun v i wr => i = .int .i64 0 ∧ Ext w wr) (fun _ i _ => 2 - (intOf i).toNat)
  case atStart => exact ⟨rfl, x0⟩
  case round =>
    obtain ⟨rfl, b⟩ := hrel
    go_wp2_with (go_at_call 79; refine (exponent_any _ _).mono ?_; rw [he]; rintro e' w' ⟨rfl, rfl⟩)
    go_ret2
    exact ⟨rfl, b⟩
def EncR2 (w : World) (e : Int) (v i : Value) (wr : World) : Prop :=
  ∃ A n c, v = .slice A n c ∧ Ext w wr ∧ ((i = .int .i64 0 ∧ Own wr w.heap.size 5 (.slice A n c) (bvs [])) ∨ (i = .int .i64 1 ∧ Own wr w.heap.size 5 (.slice A n c) (bvs (be4 e))))
set_option maxHeartbeats 1000000 in
theorem enc_no2 (e s : Int) (w : World) (he : inB 0 1073741789 e = true) (hs : inB 0 1073741789 s = false) :
    Calls Tryz.prog 62 #[.agg #[.int .i64 e, .int .i64 s]] w (RetQ w (.tuple #[.slice none 0 0, .int .i64 3])) := by
  obtain ⟨e0, e1⟩ := inB_true he
  have i0 : ∀ w : World, (Instr.index 136 (.agg #[.int .i64 e, .int .i64 s]) (.int .i64 0)).run Tryz.prog w = .ok (.int .i64 e) w := fun _ => by kernel_rfl
  have i1 : ∀ w : World, (Instr.index 136 (.agg #[.int .i64 e, .int .i64 s]) (.int .i64 1)).run Tryz.prog w = .ok (.int .i64 s) w := fun _ => by kernel_rfl
  have x0 : Ext w (w.alloc (.cells #[.int .i64 e, .int .i64 s] 35)) := (Below.refl _ _).alloc (Nat.le_refl _) _
  go_enter Tryz.func62, Tryz.ntmps62
  go_wp2_with fail
  go_loopw [4, 14] (fun v i wr => EncR2 w e v i wr) (fun _ i _ => 2 - (intOf i).toNat)
  case atStart => exact ⟨_, _, _, rfl, x0, .inl ⟨rfl, nilB _ _⟩⟩
  case round =>
    obtain ⟨A, n, c, rfl, b, hrel⟩ := hrel
    rcases hrel with ⟨rfl, o⟩ | ⟨rfl, o⟩
    · go_wp2_with (first
        | (go_at_call 79; refine (exponent_any _ _).mono ?_; rw [he]; rintro e' w' ⟨rfl, rfl⟩)
        | (go_at_call 118; refine (oct4_any _ _ (by omega) (by omega)).mono ?_; rintro e' w3 ⟨A3, n3, c3, rfl, hn3, o3, b3⟩)
        | (refine appB (o.ext b3) o3.rd (b.tr b3) (by simp [be4]) (b.tr b3).size rfl rfl rfl rfl ?_; intro A6 n6 c6 w6 hn6 o6 (b6 : Ext _ _) g6))
      go_roundw
      case rel => exact ⟨_, _, _, rfl, b6, .inr ⟨rfl, by simpa using o6⟩⟩
      case measure => simp [intOf]
    · go_wp2_with (go_at_call 79; refine (exponent_any _ _).mono ?_; rw [hs]; rintro e' w' ⟨rfl, rfl⟩)
      go_ret2
      exact ⟨rfl, b⟩
set_option maxHeartbeats 1000000 in
theorem refenc_yes (e s : Int) (w : World) (he : inB 0 1073741789 e = true) (hs : inB 0 1073741789 s = true) :
    Calls Tryz.prog 64 #[.agg #[.int .i64 e, .int .i64 s]] w (RetRE w (be4 e ++ be4 s) 0) := by
  have x0 : Ext w (w.alloc (.cells #[.int .i64 e, .int .i64 s] 35)) := (Below.refl _ _).alloc (Nat.le_refl _) _
  have Ec : ∀ W, Ext (w.alloc (.cells #[.int .i64 e, .int .i64 s] 35)) W → W.cell? ⟨w.heap.size, 0, none⟩ = some (.int .i64 e) ∧ W.cell? ⟨w.heap.size, 1, none⟩ = some (.int .i64 s) := fun W h =>
    ⟨(h.cell (p := ⟨w.heap.size, 0, none⟩) (by simp)).trans (by go_simp), (h.cell (p := ⟨w.heap.size, 1, none⟩) (by simp)).trans (by go_simp)⟩
  have EC := Lib.hid Ec
  clear Ec
  go_enter Tryz.func64, Tryz.ntmps64
  go_wp2_with fail
  refine (small_any _ _).mono ?_
  rw [he]
  rintro e' w' ⟨rfl, rfl⟩
  go_wp2_with fail
  refine (small_any _ _).mono ?_
  rw [hs]
  rintro e' w' ⟨rfl, rfl⟩
  go_wp2_with fail
  refine Gd.wp_region_X 7 (by kernel_rfl) (by kernel_rfl) ?_
  simp only [List.take_succ_cons, List.take_zero, List.drop_succ_cons, List.drop_zero]
  intro w1 hw1
  have L : ∀ m : Lt w1, Ext (w.alloc (.cells #[.int .i64 e, .int .i64 s] 35)) m.1 := fun m => hw1.tr m.2
  have q0 : ∀ m : Lt w1, m.1.cell? ⟨w.heap.size, 0, none⟩ = some (.int .i64 e) := fun m => (EC.out _ (L m)).1
  have q1 : ∀ m : Lt w1, m.1.cell? ⟨w.heap.size, 1, none⟩ = some (.int .i64 s) := fun m => (EC.out _ (L m)).2
  repeat (refine Gd.wpX_pureP rfl fun K hK => ?_; go_big_quiet_op; refine hK _ ?_; clear hK K)
  refine Gd.wpX_callHole (Gd.gR rfl) (GB (be4 e)) (stable_GB _) rfl rfl rfl rfl (by kernel_rfl) rfl rfl (fun m => (four_any _ _).mono fun _ _ h => h.gb) ?_
  simp only [Act.put, List.setIfInBounds_toArray, List.set_cons_zero, List.set_cons_succ]
  repeat (refine Gd.wpX_pureP rfl fun K hK => ?_; go_big_quiet_op; refine hK _ ?_; clear hK K)
  refine Gd.wpX_callHole (Gd.gR rfl) (GB (be4 s)) (stable_GB _) rfl rfl rfl rfl (by kernel_rfl) rfl rfl (fun m => (four_any _ _).mono fun _ _ h => h.gb) ?_
  simp only [Act.put, List.setIfInBounds_toArray, List.set_cons_zero, List.set_cons_succ]
  refine Gd.wpX_callL (Gd.gR rfl) (GB (be4 e ++ be4 s)) (stable_GB _) (fun f => [f 16, f 19]) rfl rfl rfl rfl (fun f => rfl) (by kernel_rfl) (fun f => rfl) (fun m f hf => by
    obtain ⟨A1, n1, c1, h1, hn1, r1⟩ := hf 16 _ rfl rfl
    obtain ⟨A2, n2, c2, h2, hn2, r2⟩ := hf 19 _ rfl rfl
    rw [h1, h2]
    exact (join_any _ r1 r2 (by simp [be4])).mono fun _ _ h => h.gb) ?_
  simp only [Act.put, List.setIfInBounds_toArray, List.set_cons_zero, List.set_cons_succ]
  refine Gd.wpX_end3 (by decide) (by decide) (by decide) (fun m u1 u2 u3 hu1 hu2 hu3 => ?_)
  simp only [Act.put, List.setIfInBounds_toArray, List.set_cons_zero, List.set_cons_succ]
  obtain ⟨A5, n5, c5, rfl, hn5, r5⟩ := hu3
  have Lm := L m
  obtain ⟨wy, hwy⟩ := m
  clear L q0 q1
  go_wp2_with fail
  go_ret2
  exact ⟨_, _, _, rfl, hn5, r5, x0.tr Lm⟩
theorem refenc_no (e s : Int) (w : World) (h : ¬ (inB 0 1073741789 e = true ∧ inB 0 1073741789 s = true)) :
    Calls Tryz.prog 64 #[.agg #[.int .i64 e, .int .i64 s]] w (RetQ w (.tuple #[.slice none 0 0, .int .i64 3])) := by
  have x0 : Ext w (w.alloc (.cells #[.int .i64 e, .int .i64 s] 35)) := (Below.refl _ _).alloc (Nat.le_refl _) _
  by_cases he : inB 0 1073741789 e = true
  · have hs : inB 0 1073741789 s = false := not_true fun hs => h ⟨he, hs⟩
    clear h
    go_enter Tryz.func64, Tryz.ntmps64
    go_wp2_with fail
    refine (small_any _ _).mono ?_
    rw [he]
    rintro e' w' ⟨rfl, rfl⟩
    go_wp2_with fail
    refine (small_any _ _).mono ?_
    rw [hs]
    rintro e' w' ⟨rfl, rfl⟩
    go_wp2_with fail
    go_ret2
    exact ⟨rfl, x0⟩
  · have he' := not_true he
    clear h
    go_enter Tryz.func64, Tryz.ntmps64
    go_wp2_with fail
    refine (small_any _ _).mono ?_
    rw [he']
    rintro e' w' ⟨rfl, rfl⟩
    go_wp2_with fail
    go_ret2
    exact ⟨rfl, x0⟩
def encB (e s : Int) : List UInt8 := if inB 0 1073741789 e = true ∧ inB 0 1073741789 s = true then be4 e ++ be4 s else []
def encK (e s : Int) : Int := if inB 0 1073741789 e = true ∧ inB 0 1073741789 s = true then 0 else 3
theorem enc_any (e s : Int) (w : World) : Calls Tryz.prog 62 #[.agg #[.int .i64 e, .int .i64 s]] w (RetRE w (encB e s) (encK e s)) := by
  unfold encB encK
  by_cases h : inB 0 1073741789 e = true ∧ inB 0 1073741789 s = true
  · rw [if_pos h, if_pos h]
    exact (enc_yes e s w h.1 h.2).mono fun _ _ ⟨A, n, c, h1, h2, h3, h4⟩ => ⟨A, n, c, h1, h2, h3.rd, h4⟩
  · rw [if_neg h, if_neg h]
    have key : Calls Tryz.prog 62 #[.agg #[.int .i64 e, .int .i64 s]] w (RetQ w (.tuple #[.slice none 0 0, .int .i64 3])) := by
      by_cases he : inB 0 1073741789 e = true
      · exact enc_no2 e s w he (not_true fun hs => h ⟨he, hs⟩)
      · exact enc_no1 e s w (not_true he)
    exact key.mono fun _ _ ⟨h1, h2⟩ => ⟨_, _, _, h1, (show _ = _ from rfl), Rd.nil_ _, h2⟩
theorem refenc_any (e s : Int) (w : World) : Calls Tryz.prog 64 #[.agg #[.int .i64 e, .int .i64 s]] w (RetRE w (encB e s) (encK e s)) := by
  unfold encB encK
  by_cases h : inB 0 1073741789 e = true ∧ inB 0 1073741789 s = true
  · rw [if_pos h, if_pos h]
    exact refenc_yes e s w h.1 h.2
  · rw [if_neg h, if_neg h]
    exact (refenc_no e s w h).mono fun _ _ ⟨h1, h2⟩ => ⟨_, _, _, h1, (show _ = _ from rfl), Rd.nil_ _, h2⟩
end Go.Proofs.YthbpdhanljpigaaGreatDoor
namespace Go.Proofs.YthbpdhanljpigaaGreatDoor
open Go.RowKit
set_option linter.unusedVariables false
set_option maxRecDepth 100000
/-- What Decode returns. -/
def dcOk (l : List UInt8) : Prop := inB 0 1073741789 (num (l.take 4)) = true ∧ inB 0 1073741789 (num (l.drop 4)) = true
instance (l : List UInt8) : Decidable (dcOk l) := inferInstanceAs (Decidable (_ ∧ _))
def dcE (l : List UInt8) : Int := if l.length = 8 ∧ dcOk l then num (l.take 4) else 0
def dcS (l : List UInt8) : Int := if l.length = 8 ∧ dcOk l then num (l.drop 4) else 0
def dcK (l : List UInt8) : Int := if l.length = 8 then (if dcOk l then 0 else 3) else 2
theorem decode_len {a : Value} {l : List UInt8} (w : World) (ha : Rd w a (bvs l)) (h8 : l.length ≠ 8) :
    Calls Tryz.prog 70 #[a] w (RetQ w (sgV 0 0 2)) := by
  obtain ⟨A, n1, c, rfl, hn1, hnc, hcm, hA⟩ := ha.bytes
  subst hn1
  unfold maxLen at hcm
  have h8' : ((l.length : Int) != 8) = true := by simp; omega
  clear hA ha h8
  go_enter Tryz.func70, Tryz.ntmps70
  go_wp2_with fail
  refine bodyPost_ret (v := sgV 0 0 2) ?_ rfl ⟨rfl, (Below.refl _ _).alloc (Nat.le_refl _) _⟩
  simp [results, Tryz.results70, go_sem, sgV]
set_option maxHeartbeats 1000000 in
theorem decode_8 {a : Value} {l : List UInt8} (w : World) (ha : Rd w a (bvs l)) (h8 : l.length = 8) :
    Calls Tryz.prog 70 #[a] w (RetQ w (if dcOk l then sgV (num (l.take 4)) (num (l.drop 4)) 0 else sgV 0 0 3)) := by
  have ha0 := ha
  obtain ⟨A, n1, c, rfl, hn1, hnc, hcm, hA⟩ := ha.bytes
  rw [h8] at hn1
  subst hn1
  obtain ⟨bb, oo, rfl, _, _⟩ := hA (by omega)
  unfold maxLen at hcm
  clear hA ha
  have x0 : Ext w (w.alloc (.cells #[.int .i64 0, .int .i64 0] 35)) := (Below.refl _ _).alloc (Nat.le_refl _) _
  have r1 := (ha0.ext x0).take 4 (by omega)
  have r2 := (ha0.ext x0).dropB 4 (by omega)
  have l1 : (l.take 4).length ≤ 7 := by rw [List.length_take]; omega
  have l2 : (l.drop 4).length ≤ 7 := by rw [List.length_drop]; omega
  have H8 := Lib.hid h8
  have h4c : 4 ≤ c := by omega
  have h4n : c ≠ 4 := by omega
  clear h8
  have key : ∀ (p q : Bool), inB 0 1073741789 (num (l.take 4)) = p → inB 0 1073741789 (num (l.drop 4)) = q →
      Calls Tryz.prog 70 #[.slice (some ⟨bb, oo, none⟩) 8 c] w (RetQ w (if p = true ∧ q = true then sgV (num (l.take 4)) (num (l.drop 4)) 0 else sgV 0 0 3)) := by
    intro p q hp hq
    have HP := Lib.hid hp
    have HQ := Lib.hid hq
    clear hp hq
    cases p with
    | true =>
      cases q with
      | true =>
        go_enter Tryz.func70, Tryz.ntmps70
        go_wp2_with fail
        refine (number_any _ r1 l1).mono ?_
        rintro e w' ⟨rfl, rfl⟩
        go_wp2_with fail
        refine (number_any _ r2 l2).mono ?_
        rintro e w' ⟨rfl, rfl⟩
        go_wp2_with fail
        refine (exponent_any _ _).mono ?_
        rw [HP.out]
        rintro e w' ⟨rfl, rfl⟩
        go_wp2_with fail
        refine (exponent_any _ _).mono ?_
        rw [HQ.out]
        rintro e w' ⟨rfl, rfl⟩
        go_wp2_with fail
        refine bodyPost_ret (v := sgV (num (l.take 4)) (num (l.drop 4)) 0) ?_ rfl ⟨rfl, (Below.refl _ _).alloc (Nat.le_refl _) _⟩
        simp [results, Tryz.results70, go_sem, sgV]
      | false =>
        go_enter Tryz.func70, Tryz.ntmps70
        go_wp2_with fail
        refine (number_any _ r1 l1).mono ?_
        rintro e w' ⟨rfl, rfl⟩
        go_wp2_with fail
        refine (number_any _ r2 l2).mono ?_
        rintro e w' ⟨rfl, rfl⟩
        go_wp2_with fail
        refine (exponent_any _ _).mono ?_
        rw [HP.out]
        rintro e w' ⟨rfl, rfl⟩
        go_wp2_with fail
        refine (exponent_any _ _).mono ?_
        rw [HQ.out]
        rintro e w' ⟨rfl, rfl⟩
        go_wp2_with fail
        refine bodyPost_ret (v := sgV 0 0 3) ?_ rfl ⟨rfl, (Below.refl _ _).alloc (Nat.le_refl _) _⟩
        simp [results, Tryz.results70, go_sem, sgV]
    | false =>
      simp only [Bool.false_eq_true, false_and, if_false]
      go_enter Tryz.func70, Tryz.ntmps70
      go_wp2_with fail
      refine (number_any _ r1 l1).mono ?_
      rintro e w' ⟨rfl, rfl⟩
      go_wp2_with fail
      refine (number_any _ r2 l2).mono ?_
      rintro e w' ⟨rfl, rfl⟩
      go_wp2_with fail
      refine (exponent_any _ _).mono ?_
      rw [HP.out]
      rintro e w' ⟨rfl, rfl⟩
      go_wp2_with fail
      refine bodyPost_ret (v := sgV 0 0 3) ?_ rfl ⟨rfl, (Below.refl _ _).alloc (Nat.le_refl _) _⟩
      simp [results, Tryz.results70, go_sem, sgV]
  exact key _ _ rfl rfl
theorem decode_any {a : Value} {l : List UInt8} (w : World) (ha : Rd w a (bvs l)) :
    Calls Tryz.prog 70 #[a] w (RetQ w (sgV (dcE l) (dcS l) (dcK l))) := by
  unfold dcE dcS dcK
  by_cases h8 : l.length = 8
  · have h := decode_8 w ha h8
    by_cases ho : dcOk l
    · rw [if_pos ⟨h8, ho⟩, if_pos ⟨h8, ho⟩, if_pos h8, if_pos ho]
      rwa [if_pos ho] at h
    · rw [if_neg (fun h => ho h.2), if_neg (fun h => ho h.2), if_pos h8, if_neg ho]
      rwa [if_neg ho] at h
  · rw [if_neg (fun h => h8 h.1), if_neg (fun h => h8 h.1), if_neg h8]
    exact decode_len w ha h8
theorem refdecode_len {a : Value} {l : List UInt8} (w : World) (ha : Rd w a (bvs l)) (h8 : l.length ≠ 8) :
    Calls Tryz.prog 74 #[a] w (RetQ w (sgV 0 0 2)) := by
  obtain ⟨A, n1, c, rfl, hn1, hnc, hcm, hA⟩ := ha.bytes
  subst hn1
  unfold maxLen at hcm
  have h8' : ((l.length : Int) != 8) = true := by simp; omega
  clear hA ha h8
  go_enter Tryz.func74, Tryz.ntmps74
  go_wp2_with fail
  refine bodyPost_ret (v := sgV 0 0 2) ?_ rfl ⟨rfl, (Below.refl _ _).alloc (Nat.le_refl _) _⟩
  simp [results, Tryz.results74, go_sem, sgV]
set_option maxHeartbeats 1000000 in
theorem refdecode_8 {a : Value} {l : List UInt8} (w : World) (ha : Rd w a (bvs l)) (h8 : l.length = 8) :
    Calls Tryz.prog 74 #[a] w (RetQ w (if dcOk l then sgV (num (l.take 4)) (num (l.drop 4)) 0 else sgV 0 0 3)) := by
  have ha0 := ha
  obtain ⟨A, n1, c, rfl, hn1, hnc, hcm, hA⟩ := ha.bytes
  rw [h8] at hn1
  subst hn1
  obtain ⟨bb, oo, rfl, _, _⟩ := hA (by omega)
  unfold maxLen at hcm
  clear hA ha
  have x0 : Ext w (w.alloc (.cells #[.int .i64 0, .int .i64 0] 35)) := (Below.refl _ _).alloc (Nat.le_refl _) _
  have r1 := (ha0.ext x0).take 4 (by omega)
  have r2 := (ha0.ext x0).dropB 4 (by omega)
  have l1 : (l.take 4).length ≤ 7 := by rw [List.length_take]; omega
  have l2 : (l.drop 4).length ≤ 7 := by rw [List.length_drop]; omega
  have H8 := Lib.hid h8
  have h4c : 4 ≤ c := by omega
  have h4n : c ≠ 4 := by omega
  clear h8
  have key : ∀ (p q : Bool), inB 0 1073741789 (num (l.take 4)) = p → inB 0 1073741789 (num (l.drop 4)) = q →
      Calls Tryz.prog 74 #[.slice (some ⟨bb, oo, none⟩) 8 c] w (RetQ w (if p = true ∧ q = true then sgV (num (l.take 4)) (num (l.drop 4)) 0 else sgV 0 0 3)) := by
    intro p q hp hq
    have HP := Lib.hid hp
    have HQ := Lib.hid hq
    clear hp hq
    cases p with
    | true =>
      cases q with
      | true =>
        go_enter Tryz.func74, Tryz.ntmps74
        go_wp2_with fail
        refine (refnumber_any _ r1 l1).mono ?_
        rintro e w' ⟨rfl, rfl⟩
        go_wp2_with fail
        refine (refnumber_any _ r2 l2).mono ?_
        rintro e w' ⟨rfl, rfl⟩
        go_wp2_with fail
        refine (small_any _ _).mono ?_
        rw [HP.out]
        rintro e w' ⟨rfl, rfl⟩
        go_wp2_with fail
        refine (small_any _ _).mono ?_
        rw [HQ.out]
        rintro e w' ⟨rfl, rfl⟩
        go_wp2_with fail
        refine bodyPost_ret (v := sgV (num (l.take 4)) (num (l.drop 4)) 0) ?_ rfl ⟨rfl, (Below.refl _ _).alloc (Nat.le_refl _) _⟩
        simp [results, Tryz.results74, go_sem, sgV]
      | false =>
        go_enter Tryz.func74, Tryz.ntmps74
        go_wp2_with fail
        refine (refnumber_any _ r1 l1).mono ?_
        rintro e w' ⟨rfl, rfl⟩
        go_wp2_with fail
        refine (refnumber_any _ r2 l2).mono ?_
        rintro e w' ⟨rfl, rfl⟩
        go_wp2_with fail
        refine (small_any _ _).mono ?_
        rw [HP.out]
        rintro e w' ⟨rfl, rfl⟩
        go_wp2_with fail
        refine (small_any _ _).mono ?_
        rw [HQ.out]
        rintro e w' ⟨rfl, rfl⟩
        go_wp2_with fail
        refine bodyPost_ret (v := sgV 0 0 3) ?_ rfl ⟨rfl, (Below.refl _ _).alloc (Nat.le_refl _) _⟩
        simp [results, Tryz.results74, go_sem, sgV]
    | false =>
      simp only [Bool.false_eq_true, false_and, if_false]
      go_enter Tryz.func74, Tryz.ntmps74
      go_wp2_with fail
      refine (refnumber_any _ r1 l1).mono ?_
      rintro e w' ⟨rfl, rfl⟩
      go_wp2_with fail
      refine (refnumber_any _ r2 l2).mono ?_
      rintro e w' ⟨rfl, rfl⟩
      go_wp2_with fail
      refine (small_any _ _).mono ?_
      rw [HP.out]
      rintro e w' ⟨rfl, rfl⟩
      go_wp2_with fail
      refine bodyPost_ret (v := sgV 0 0 3) ?_ rfl ⟨rfl, (Below.refl _ _).alloc (Nat.le_refl _) _⟩
      simp [results, Tryz.results74, go_sem, sgV]
  exact key _ _ rfl rfl
theorem refdecode_any {a : Value} {l : List UInt8} (w : World) (ha : Rd w a (bvs l)) :
    Calls Tryz.prog 74 #[a] w (RetQ w (sgV (dcE l) (dcS l) (dcK l))) := by
  unfold dcE dcS dcK
  by_cases h8 : l.length = 8
  · have h := refdecode_8 w ha h8
    by_cases ho : dcOk l
    · rw [if_pos ⟨h8, ho⟩, if_pos ⟨h8, ho⟩, if_pos h8, if_pos ho]
      rwa [if_pos ho] at h
    · rw [if_neg (fun h => ho h.2), if_neg (fun h => ho h.2), if_pos h8, if_neg ho]
      rwa [if_neg ho] at h
  · rw [if_neg (fun h => h8 h.1), if_neg (fun h => h8 h.1), if_neg h8]
    exact refdecode_len w ha h8
end Go.Proofs.YthbpdhanljpigaaGreatDoor
namespace Go.Proofs.YthbpdhanljpigaaGreatDoor
open Go.RowKit
set_option linter.unusedVariables false
set_option maxRecDepth 100000
def upI (z : Int) : Prop := 65 ≤ z ∧ z ≤ 90
def dgI (z : Int) : Prop := 48 ≤ z ∧ z ≤ 57
instance (z : Int) : Decidable (upI z) := inferInstanceAs (Decidable (_ ∧ _))
instance (z : Int) : Decidable (dgI z) := inferInstanceAs (Decidable (_ ∧ _))
/-- A name. -/
def nameP (l : List UInt8) : Prop := (1 ≤ l.length ∧ l.length ≤ 16) ∧ upI (byteI l 0) ∧ ∀ i, i < l.length → upI (byteI l i) ∨ dgI (byteI l i)
instance (l : List UInt8) : Decidable (nameP l) := inferInstanceAs (Decidable (_ ∧ _ ∧ _))
def daysP (fr to : Int) : Prop := 0 ≤ fr ∧ fr ≤ to ∧ to ≤ 73048
instance (fr to : Int) : Decidable (daysP fr to) := inferInstanceAs (Decidable (_ ∧ _))
def leafN (t : Int) (l : List UInt8) : Nd := .mk t l []
theorem okLeaf {d : Nat} {t : Int} {l : List UInt8} (h0 : 0 ≤ t) (h1 : t < 65536) (hv : validT t = true) (hc : consT t = false) : (0 ≤ (leafN t l).tag ∧ (leafN t l).tag < 65536) ∧ validT (leafN t l).tag = true ∧ (consT (leafN t l).tag = true → (leafN t l).val = []) ∧ (consT (leafN t l).tag = false → (leafN t l).kids = []) ∧ okNs d (leafN t l).kids := by
  refine ⟨⟨h0, h1⟩, hv, fun h => ?_, fun _ => rfl, ?_⟩
  · rw [show (leafN t l).tag = t from rfl, hc] at h; cases h
  · show okNs d []
    cases d with
    | zero => rfl
    | succ d => intro t ht; cases ht
theorem okCons {d : Nat} {t : Int} {ks : List Nd} (h0 : 0 ≤ t) (h1 : t < 65536) (hv : validT t = true) (hc : consT t = true) (hk : okNs d ks) : (0 ≤ (Nd.mk t [] ks).tag ∧ (Nd.mk t [] ks).tag < 65536) ∧ validT (Nd.mk t [] ks).tag = true ∧ (consT (Nd.mk t [] ks).tag = true → (Nd.mk t [] ks).val = []) ∧ (consT (Nd.mk t [] ks).tag = false → (Nd.mk t [] ks).kids = []) ∧ okNs d (Nd.mk t [] ks).kids :=
  ⟨⟨h0, h1⟩, hv, fun _ => rfl, fun h => (by rw [show (Nd.mk t [] ks).tag = t from rfl, hc] at h; cases h), hk⟩
theorem okNs_nil (d : Nat) : okNs d [] := by
  cases d with
  | zero => rfl
  | succ d => intro t ht; cases ht
theorem okNs_cons {d : Nat} {t : Nd} {ts : List Nd} (h : (0 ≤ t.tag ∧ t.tag < 65536) ∧ validT t.tag = true ∧ (consT t.tag = true → t.val = []) ∧ (consT t.tag = false → t.kids = []) ∧ okNs d t.kids) (hs : okNs (d + 1) ts) : okNs (d + 1) (t :: ts) := by
  intro u hu
  rcases List.mem_cons.1 hu with rfl | hu
  · exact h
  · exact hs u hu
end Go.Proofs.YthbpdhanljpigaaGreatDoor
namespace Go.Proofs.YthbpdhanljpigaaGreatDoor
set_option linter.unusedVariables false
set_option maxRecDepth 100000
/-- A security object: version, hashes, certificate, signature. -/
structure SE where
  v : Int
  hs : List (Int × List UInt8)
  cert : List UInt8
  e : Int
  s : Int
/-- The first error of hashes. -/
def ckH : Int → List (Int × List UInt8) → Int
  | _, [] => 0
  | b, h :: r => if h.1 < 1 ∨ 16 < h.1 then 3 else if h.1 ≤ b then 17 else if h.2.length ≠ 32 then 2 else ckH h.1 r
def ckS (s : SE) : Int := if s.v ≠ 0 ∧ s.v ≠ 1 then 3 else if s.hs.length < 1 ∨ 16 < s.hs.length then 2 else ckH 0 s.hs
def vdS (s : SE) : Int := if ckS s ≠ 0 then ckS s else if s.cert.length < 1 ∨ 1024 < s.cert.length then 2 else if encK s.e s.s ≠ 0 then 11 else 0
def hashN (h : Int × List UInt8) : Nd := .mk 48 [] [leafN 2 [u8 h.1], leafN 4 h.2]
/-- What is signed. -/
def msgN (s : SE) : Nd := .mk 48 [] [leafN 2 [u8 s.v], .mk 48 [] (s.hs.map hashN)]
def msgB (s : SE) : List UInt8 := if ckS s = 0 then encNs 4 [msgN s] else []
def objN (s : SE) : Nd := .mk 119 [] [.mk 48 [] [leafN 4 (encNs 4 [msgN s]), leafN 4 s.cert, leafN 4 (encB s.e s.s)]]
/-- The file of a security object. -/
def filB (s : SE) : List UInt8 := if vdS s = 0 then encNs 3 [objN s] else []
theorem ckH_ok : ∀ (b : Int) (l : List (Int × List UInt8)), ckH b l = 0 → ∀ h ∈ l, (1 ≤ h.1 ∧ h.1 ≤ 16) ∧ h.2.length = 32
  | _, [], _, h, hm => by cases hm
  | b, x :: r, hc, h, hm => by
    unfold ckH at hc
    split at hc
    · cases hc
    · split at hc
      · cases hc
      · split at hc
        · cases hc
        · rename_i h1 h2 h3
          rcases List.mem_cons.1 hm with rfl | hm
          · exact ⟨by omega, by omega⟩
          · exact ckH_ok _ r hc h hm
theorem ckS_ok {s : SE} (h : ckS s = 0) : (s.v = 0 ∨ s.v = 1) ∧ 1 ≤ s.hs.length ∧ s.hs.length ≤ 16 ∧ ∀ x ∈ s.hs, (1 ≤ x.1 ∧ x.1 ≤ 16) ∧ x.2.length = 32 := by
  unfold ckS at h
  split at h
  · cases h
  · split at h
    · cases h
    · rename_i h1 h2
      exact ⟨by omega, by omega, by omega, ckH_ok _ _ h⟩
theorem vdS_ok {s : SE} (h : vdS s = 0) : ckS s = 0 ∧ 1 ≤ s.cert.length ∧ s.cert.length ≤ 1024 ∧ encK s.e s.s = 0 := by
  unfold vdS at h
  split at h
  · rename_i h1; exact absurd h h1
  · split at h
    · cases h
    · split at h
      · cases h
      · rename_i h1 h2 h3
        exact ⟨Decidable.not_not.1 h1, by omega, by omega, Decidable.not_not.1 h3⟩
theorem ok_hashN (h : Int × List UInt8) : (0 ≤ (hashN h).tag ∧ (hashN h).tag < 65536) ∧ validT (hashN h).tag = true ∧ (consT (hashN h).tag = true → (hashN h).val = []) ∧ (consT (hashN h).tag = false → (hashN h).kids = []) ∧ okNs 1 (hashN h).kids := by
  refine okCons (by decide) (by decide) (by decide) (by decide) ?_
  refine okNs_cons (okLeaf (by decide) (by decide) (by decide) (by decide)) ?_
  exact okNs_cons (okLeaf (by decide) (by decide) (by decide) (by decide)) (okNs_nil _)
theorem ok_msgN (s : SE) : okNs 4 [msgN s] := by
  refine okNs_cons (okCons (by decide) (by decide) (by decide) (by decide) ?_) (okNs_nil _)
  refine okNs_cons (okLeaf (by decide) (by decide) (by decide) (by decide)) ?_
  refine okNs_cons (okCons (by decide) (by decide) (by decide) (by decide) ?_) (okNs_nil _)
  intro t ht
  obtain ⟨h, _, rfl⟩ := List.mem_map.1 ht
  exact ok_hashN h
theorem ok_objN (s : SE) : okNs 3 [objN s] := by
  refine okNs_cons (okCons (by decide) (by decide) (by decide) (by decide) ?_) (okNs_nil _)
  refine okNs_cons (okCons (by decide) (by decide) (by decide) (by decide) ?_) (okNs_nil _)
  refine okNs_cons (okLeaf (by decide) (by decide) (by decide) (by decide)) ?_
  refine okNs_cons (okLeaf (by decide) (by decide) (by decide) (by decide)) ?_
  exact okNs_cons (okLeaf (by decide) (by decide) (by decide) (by decide)) (okNs_nil _)
theorem cnt_hs : ∀ (l : List (Int × List UInt8)), cntNs 2 (l.map hashN) = 3 * l.length
  | [] => rfl
  | h :: r => by
    have e : cntNs 2 ((h :: r).map hashN) = 3 + cntNs 2 (r.map hashN) := rfl
    rw [e, cnt_hs r, List.length_cons]
    omega
theorem val_hs : ∀ (l : List (Int × List UInt8)), (∀ h ∈ l, h.2.length = 32) → valNs 2 (l.map hashN) = 33 * l.length
  | [], _ => rfl
  | h :: r, hh => by
    have e : valNs 2 ((h :: r).map hashN) = 0 + (1 + 0 + (h.2.length + 0)) + valNs 2 (r.map hashN) := rfl
    rw [e, val_hs r fun x hx => hh x (List.mem_cons_of_mem _ hx), hh h List.mem_cons_self, List.length_cons]
    omega
theorem cnt_msgN (s : SE) : cntNs 4 [msgN s] = 3 + 3 * s.hs.length := by
  have e : cntNs 4 [msgN s] = 1 + (1 + (1 + cntNs 2 (s.hs.map hashN))) := rfl
  rw [e, cnt_hs]
  omega
theorem msg_len {s : SE} (h : ckS s = 0) : (encNs 4 [msgN s]).length ≤ 1000 ∧ cntNs 4 [msgN s] ≤ 256 := by
  obtain ⟨_, h1, h2, h3⟩ := ckS_ok h
  have hl := encNs_len 4 [msgN s]
  have hc := cnt_msgN s
  have e : valNs 4 [msgN s] = 0 + (1 + 0 + (0 + valNs 2 (s.hs.map hashN))) := rfl
  rw [val_hs _ fun x hx => (h3 x hx).2] at e
  omega
theorem encB_len8 {e s : Int} : (encB e s).length ≤ 8 := by
  unfold encB
  split
  · simp [be4]
  · simp
theorem obj_len {s : SE} (h : vdS s = 0) : (encNs 3 [objN s]).length ≤ 4096 ∧ cntNs 3 [objN s] ≤ 256 := by
  obtain ⟨h1, h2, h3, h4⟩ := vdS_ok h
  obtain ⟨m1, m2⟩ := msg_len h1
  have hl := encNs_len 3 [objN s]
  have hb := encB_len8 (e := s.e) (s := s.s)
  have hc : cntNs 3 [objN s] = 5 := rfl
  have e : valNs 3 [objN s] = 0 + (0 + ((encNs 4 [msgN s]).length + 0 + (s.cert.length + 0 + ((encB s.e s.s).length + 0)))) := rfl
  omega
/-- The number of the group with a tag. -/
def grpT : List Int := [0x61, 0x75, 0x63, 0x76, 0x65, 0x66, 0x67, 0x68, 0x69, 0x6a, 0x6b, 0x6c, 0x6d, 0x6e, 0x6f, 0x70, 0x60, 0x77]
def grpG : List Int → Int → Nat → Int
  | [], _, _ => 0
  | x :: r, t, i => if x = t then (i : Int) + 1 else grpG r t (i + 1)
/-- .. 0: there is none. -/
def grpX (t : Int) : Int := grpG grpT t 0
/-- What Open answers. -/
def opnX (l : List UInt8) : Except Int (Int × List Nd) :=
  match parX false l with
  | .error e => .error e
  | .ok [x] => if grpX x.tag = 0 then .error 4 else .ok (grpX x.tag, x.kids)
  | .ok _ => .error 1
def pairX (x : Nd) (a b : Int) : Bool := match x.kids with
  | [p, q] => x.tag == 48 && p.tag == a && q.tag == b
  | _ => false
/-- A hash out of its object. -/
def rdH (x : Nd) : Option (Int × List UInt8) := match x.kids with
  | [p, q] => if x.tag = 48 ∧ p.tag = 2 ∧ q.tag = 4 ∧ p.val.length = 1 then some (byteI p.val 0, q.val) else none
  | _ => none
def rdHs : List Nd → Option (List (Int × List UInt8))
  | [] => some []
  | x :: r => match rdH x with
    | none => none
    | some h => match rdHs r with
      | none => none
      | some l => some (h :: l)
/-- The version and the hashes of a message. -/
def rdM : List Nd → Option (Int × List (Int × List UInt8))
  | [x] => match x.kids with
    | [p, q] => if x.tag = 48 ∧ p.tag = 2 ∧ q.tag = 48 ∧ p.val.length = 1 then (match rdHs q.kids with
      | none => none
      | some l => some (byteI p.val 0, l)) else none
    | _ => none
  | _ => none
/-- The three parts of a file. -/
def ptX (ks : List Nd) : Option (List UInt8 × List UInt8 × List UInt8) := match ks with
  | [x] => match x.kids with
    | [p, q, r] => if x.tag = 48 ∧ p.tag = 4 ∧ q.tag = 4 ∧ r.tag = 4 then some (p.val, q.val, r.val) else none
    | _ => none
  | _ => none
/-- What Decode answers. -/
def decX (l : List UInt8) : Except Int SE :=
  match opnX l with
  | .error e => .error e
  | .ok (n, ks) => if n ≠ 18 then .error 4 else match ptX ks with
    | none => .error 1
    | some (m, c, g) => match parX true m with
      | .error e => .error e
      | .ok ts => match rdM ts with
        | none => .error 1
        | some (v, hs) => if dcK g ≠ 0 then .error (dcK g) else if vdS ⟨v, hs, c, dcE g, dcS g⟩ ≠ 0 then .error (vdS ⟨v, hs, c, dcE g, dcS g⟩) else .ok ⟨v, hs, c, dcE g, dcS g⟩
/-- What is read is well formed. -/
theorem objX1_okN {q : Bool} {rec : RecX} {d : Nat} {cnt : Nat} {l : List UInt8} {x : Nd} {c u : Nat} (hr : ∀ d' op cnt' m ks c u, d = d' + 1 → m.length + 2 ≤ l.length → rec op (9 - (d' : Int)) cnt' m = .ok (ks, c, u) → okNs d' ks) (h : objX1 q rec (9 - (d : Int)) cnt l = .ok (x, c, u)) :
    ∃ d', d = d' + 1 ∧ ((0 ≤ x.tag ∧ x.tag < 65536) ∧ validT x.tag = true ∧ (consT x.tag = true → x.val = []) ∧ (consT x.tag = false → x.kids = []) ∧ okNs d' x.kids) := by
  unfold objX1 at h
  split at h
  · cases h
  · rename_i t o n ht
    obtain ⟨g1, g2, g3, g4, g5, g6, g7, g8, g9, g10⟩ := headX_bd ht
    obtain ⟨d', rfl⟩ : ∃ d', d = d' + 1 := ⟨d - 1, by omega⟩
    refine ⟨d', rfl, ?_⟩
    have e9 : (9 : Int) - ((d' + 1 : Nat) : Int) + 1 = 9 - (d' : Int) := by omega
    split at h
    · rename_i hn
      split at h
      · cases h
      · rename_i ks c2 u2 hk
        rw [e9] at hk
        simp only [Except.ok.injEq, Prod.mk.injEq] at h
        obtain ⟨rfl, _, _⟩ := h
        exact ⟨⟨g5, g6⟩, g7, fun _ => rfl, fun hc => (by rw [show (Nd.mk t [] ks).tag = t from rfl, (g10 hn).1] at hc; cases hc), hr _ _ _ _ _ _ _ rfl (by rw [List.length_drop]; omega) hk⟩
    · split at h
      · rename_i hc1
        split at h
        · cases h
        · rename_i ks c2 u2 hk
          rw [e9] at hk
          simp only [Except.ok.injEq, Prod.mk.injEq] at h
          obtain ⟨rfl, _, _⟩ := h
          exact ⟨⟨g5, g6⟩, g7, fun _ => rfl, fun hc => (by rw [show (Nd.mk t [] ks).tag = t from rfl, hc1] at hc; cases hc), hr _ _ _ _ _ _ _ rfl (by rw [List.length_take, List.length_drop]; omega) hk⟩
      · rename_i hc1
        simp only [Except.ok.injEq, Prod.mk.injEq] at h
        obtain ⟨rfl, _, _⟩ := h
        exact ⟨⟨g5, g6⟩, g7, fun hc => absurd hc hc1, fun _ => rfl, okNs_nil _⟩
theorem objsX_okN : ∀ (k : Nat) (l : List UInt8) (q op : Bool) (d : Nat) (cnt : Nat) (ts : List Nd) (c u : Nat), l.length ≤ k → objsX q op (9 - (d : Int)) cnt l = .ok (ts, c, u) → okNs d ts
  | k, l, q, op, d, cnt, ts, c, u, hk, h => by
    rw [objsX_eq] at h
    split at h
    · cases h
    · split at h
      · simp only [Except.ok.injEq, Prod.mk.injEq] at h
        obtain ⟨rfl, _, _⟩ := h
        exact okNs_nil _
      · split at h
        · simp only [Except.ok.injEq, Prod.mk.injEq] at h
          obtain ⟨rfl, _, _⟩ := h
          exact okNs_nil _
        · split at h
          · cases h
          · rename_i x c1 u1 hx
            obtain ⟨u0, u2⟩ := objX1_used (fun _ _ _ _ _ _ _ hm => objsX_used hm) hx
            cases k with
            | zero => omega
            | succ k =>
              split at h
              · cases h
              · rename_i xs c2 u3 hy
                have h2 := objsX_okN k _ _ _ d _ _ _ _ (by rw [List.length_drop]; omega) hy
                simp only [Except.ok.injEq, Prod.mk.injEq] at h
                obtain ⟨rfl, _, _⟩ := h
                obtain ⟨d', rfl, hw⟩ := objX1_okN (fun d' op' cnt' m ks' c' u' e hm hy' => objsX_okN k m _ _ d' _ _ _ _ (by omega) hy') hx
                exact okNs_cons hw h2
theorem parX_ok {q : Bool} {l : List UInt8} {ts : List Nd} (h : parX q l = .ok ts) : okNs 8 ts ∧ l.length ≤ 4096 := by
  unfold parX at h
  split at h
  · cases h
  · split at h
    · cases h
    · rename_i ks c u hk
      injection h with h
      subst h
      exact ⟨objsX_okN _ l q false 8 0 ks c u (Nat.le_refl _) hk, by omega⟩
end Go.Proofs.YthbpdhanljpigaaGreatDoor
namespace Go.Proofs.YthbpdhanljpigaaGreatDoor
open Go.RowKit
set_option linter.unusedVariables false
set_option maxRecDepth 100000
/-- The slice reads as hashes. -/
def HsRd (w : World) (v : Value) (hs : List (Int × List UInt8)) : Prop := ∃ A n c, v = .slice A n c ∧ n = hs.length ∧ n ≤ c ∧ c ≤ maxLen ∧
  (0 < n → ∃ b o, A = some ⟨b, o, none⟩ ∧ b < w.heap.size ∧ ∀ i h, hs[i]? = some h → ∃ A1 n1 c1, w.cell? ⟨b, o + i * 2, none⟩ = some (.int .i64 h.1) ∧ w.cell? ⟨b, o + i * 2 + 1, none⟩ = some (.slice A1 n1 c1) ∧ Rd w (.slice A1 n1 c1) (bvs h.2))
theorem HsRd.keep {w w' : World} {v : Value} {hs : List (Int × List UInt8)} (h : HsRd w v hs) (hw : w.heap.size ≤ w'.heap.size) (hk : ∀ p : Addr, p.block < w.heap.size → w'.cell? p = w.cell? p) : HsRd w' v hs := by
  obtain ⟨A, n, c, h1, h2, h3, h4, h5⟩ := h
  refine ⟨A, n, c, h1, h2, h3, h4, fun h0 => ?_⟩
  obtain ⟨b, o, hA, hb, h6⟩ := h5 h0
  refine ⟨b, o, hA, by omega, fun i x hx => ?_⟩
  obtain ⟨A1, n1, c1, e0, e1, r⟩ := h6 i x hx
  exact ⟨A1, n1, c1, (hk _ hb).trans e0, (hk _ hb).trans e1, r.keep hk⟩
theorem HsRd.ext {w w' : World} {v : Value} {hs : List (Int × List UInt8)} (h : HsRd w v hs) (e : Ext w w') : HsRd w' v hs := h.keep e.size fun _ hp => e.cell hp
theorem HsRd.nil_ (w : World) : HsRd w (.slice none 0 0) [] := ⟨none, 0, 0, rfl, rfl, Nat.le_refl _, by unfold maxLen; omega, fun h => absurd h (by omega)⟩
/-- What a slice of hashes is, to a walk. -/
theorem HsRd.open_ {w : World} {v : Value} {hs : List (Int × List UInt8)} (h : HsRd w v hs) : ∃ A n c, v = .slice A n c ∧ n = hs.length ∧ n ≤ c ∧ c ≤ maxLen ∧
    ∀ i x, hs[i]? = some x → ∃ b o, A = some ⟨b, o, none⟩ ∧ b < w.heap.size ∧ ∃ A1 n1 c1, w.cell? ⟨b, o + i * 2, none⟩ = some (.int .i64 x.1) ∧ w.cell? ⟨b, o + i * 2 + 1, none⟩ = some (.slice A1 n1 c1) ∧ Rd w (.slice A1 n1 c1) (bvs x.2) := by
  obtain ⟨A, n, c, rfl, h2, h3, h4, h5⟩ := h
  refine ⟨A, n, c, rfl, h2, h3, h4, fun i x hx => ?_⟩
  have hi := (List.getElem?_eq_some_iff.1 hx).1
  obtain ⟨b, o, hA, hb, h6⟩ := h5 (by omega)
  exact ⟨b, o, hA, hb, h6 i x hx⟩
/-- A row of hashes, each with the slice of its bytes. -/
def hsCells (p : (Int × List UInt8) × Value) : List Value := [.int .i64 p.1.1, p.2]
theorem hsRd_of {w : World} {A : Option Addr} {n c : Nat} {ps : List ((Int × List UInt8) × Value)} (h : RdK w 2 (.slice A n c) (ps.flatMap hsCells)) (hg : ∀ p ∈ ps, Rd w p.2 (bvs p.1.2)) : HsRd w (.slice A n c) (ps.map (·.1)) := by
  obtain ⟨A', n', c', e, h2, h3, h4, h5⟩ := RdK.flat (f := hsCells) (k := 2) (by omega) (fun _ => rfl) h
  injection e with e1 e2 e3
  subst e1 e2 e3
  refine ⟨A, n, c, rfl, by rw [List.length_map]; exact h2, h3, h4, fun h0 => ?_⟩
  obtain ⟨b, o, rfl, hb, h6⟩ := h5 h0
  refine ⟨b, o, rfl, hb, fun i x hx => ?_⟩
  rw [List.getElem?_map, Option.map_eq_some_iff] at hx
  obtain ⟨p, hp, rfl⟩ := hx
  obtain ⟨hi, hp'⟩ := List.getElem?_eq_some_iff.1 hp
  have hr := hg p (List.mem_of_getElem? hp)
  obtain ⟨A1, n1, c1, hv, hr'⟩ := hr
  have e0 := h6 i hi 0 (.int .i64 p.1.1) (by rw [hp']; rfl)
  have e1 := h6 i hi 1 p.2 (by rw [hp']; rfl)
  rw [Nat.add_zero] at e0
  rw [hv] at e1
  exact ⟨A1, n1, c1, e0, e1, A1, n1, c1, rfl, hr'⟩
/-- A security object by value: vh, vc: the slices of its hashes and its certificate. -/
def seV (s : SE) (vh vc : Value) : Value := .agg #[.int .i64 s.v, vh, vc, .int .i64 s.e, .int .i64 s.s]
/-- .. and what it reads as. -/
structure SeR (w : World) (s : SE) (vh vc : Value) : Prop where
  h : HsRd w vh s.hs
  c : Rd w vc (bvs s.cert)
theorem SeR.ext {w w' : World} {s : SE} {vh vc : Value} (h : SeR w s vh vc) (e : Ext w w') : SeR w' s vh vc := ⟨h.h.ext e, h.c.ext e⟩
/-- It lies in block g. -/
def SeAt (w : World) (g : Nat) (s : SE) (vh vc : Value) : Prop := w.heap[g]? = some (.cells #[.int .i64 s.v, vh, vc, .int .i64 s.e, .int .i64 s.s] 37 (0, 0))
section
variable {w w' : World} {g : Nat} {s : SE} {vh vc : Value}
theorem SeAt.lt (h : SeAt w g s vh vc) : g < w.heap.size := block_lt h
theorem SeAt.ext (h : SeAt w g s vh vc) (e : Ext w w') : SeAt w' g s vh vc := (e.block g h.lt).trans h
theorem SeAt.frozen (h : SeAt w g s vh vc) (i : Nat) : w.frozen? ⟨g, i, none⟩ = false := by
  unfold SeAt at h
  simp [World.frozen?, h]
theorem SeAt.c0 (h : SeAt w g s vh vc) : w.cell? ⟨g, 0, none⟩ = some (.int .i64 s.v) := by rw [cell_of_row w g 0 _ _ _ h]; rfl
theorem SeAt.c1 (h : SeAt w g s vh vc) : w.cell? ⟨g, 1, none⟩ = some vh := by rw [cell_of_row w g 1 _ _ _ h]; rfl
theorem SeAt.c2 (h : SeAt w g s vh vc) : w.cell? ⟨g, 2, none⟩ = some vc := by rw [cell_of_row w g 2 _ _ _ h]; rfl
theorem SeAt.c3 (h : SeAt w g s vh vc) : w.cell? ⟨g, 3, none⟩ = some (.int .i64 s.e) := by rw [cell_of_row w g 3 _ _ _ h]; rfl
theorem SeAt.c4 (h : SeAt w g s vh vc) : w.cell? ⟨g, 4, none⟩ = some (.int .i64 s.s) := by rw [cell_of_row w g 4 _ _ _ h]; rfl
theorem se_alloc (w : World) (s : SE) (vh vc : Value) : ∃ wz, wz = w.alloc (.cells #[.int .i64 s.v, vh, vc, .int .i64 s.e, .int .i64 s.s] 37) ∧ Ext w wz ∧ SeAt wz w.heap.size s vh vc :=
  ⟨_, rfl, (Below.refl _ _).alloc (Nat.le_refl _) _, heap_alloc_new' w _⟩
end
/-- A table of tags. -/
def GTab (w : World) (g : Nat) : Prop := ∀ t, t < 18 → w.cell? ⟨g, t, none⟩ = some (.int .i64 (grpT.getD t 0))
theorem GTab.lt {w : World} {g : Nat} (h : GTab w g) : g < w.heap.size := World.block_lt_of_cell? w _ (h 0 (by omega))
theorem GTab.ext {w w' : World} {g : Nat} (h : GTab w g) (hb : Ext w w') : GTab w' g := fun t ht => (hb.cell (p := ⟨g, t, none⟩) h.lt).trans (h t ht)
end Go.Proofs.YthbpdhanljpigaaGreatDoor
namespace Go.Proofs.YthbpdhanljpigaaGreatDoor
open Go.RowKit
set_option linter.unusedVariables false
set_option maxRecDepth 100000
theorem ckH_bad1 {b : Int} {h : Int × List UInt8} {r : List (Int × List UInt8)} (q : h.1 < 1 ∨ 16 < h.1) : ckH b (h :: r) = 3 := if_pos q
theorem ckH_bad2 {b : Int} {h : Int × List UInt8} {r : List (Int × List UInt8)} (q : ¬ (h.1 < 1 ∨ 16 < h.1)) (q2 : h.1 ≤ b) : ckH b (h :: r) = 17 := (if_neg q).trans (if_pos q2)
theorem ckH_bad3 {b : Int} {h : Int × List UInt8} {r : List (Int × List UInt8)} (q : ¬ (h.1 < 1 ∨ 16 < h.1)) (q2 : ¬ h.1 ≤ b) (q3 : h.2.length ≠ 32) : ckH b (h :: r) = 2 := (if_neg q).trans ((if_neg q2).trans (if_pos q3))
theorem ckH_on {b : Int} {h : Int × List UInt8} {r : List (Int × List UInt8)} (q : ¬ (h.1 < 1 ∨ 16 < h.1)) (q2 : ¬ h.1 ≤ b) (q3 : ¬ h.2.length ≠ 32) : ckH b (h :: r) = ckH h.1 r := (if_neg q).trans ((if_neg q2).trans (if_neg q3))
theorem drop_at {α : Type} {l : List α} {j : Nat} {x : α} (h : l[j]? = some x) : l.drop j = x :: l.drop (j + 1) := by
  obtain ⟨hj, rfl⟩ := List.getElem?_eq_some_iff.1 h
  exact List.drop_eq_getElem_cons hj
set_option maxHeartbeats 4000000 in
theorem check16_any (s : SE) (vh vc : Value) (w : World) (hr : SeR w s vh vc) : Calls Tryz.prog 55 #[seV s vh vc] w (RetQ w (.int .i64 (ckS s))) := by
  obtain ⟨v, hs, cert, e, sg⟩ := s
  obtain ⟨A, n, c, rfl, hn, hnc, hcm, hel⟩ := hr.h.open_
  obtain ⟨Ac, nc, cc, rfl, hnc', hncc, hcmc, _⟩ := hr.c.bytes
  simp only at hn hel hnc' hncc hcm hnc
  subst hn hnc'
  unfold maxLen at hcm hcmc
  have HE := Lib.hid hel
  clear hr hel
  obtain ⟨wz, hwz, ez, TZ⟩ := se_alloc w ⟨v, hs, cert, e, sg⟩ (.slice A hs.length c) (.slice Ac cert.length cc)
  have EZ := Lib.hid ez
  have HTZ := Lib.hid TZ
  obtain ⟨K, hK⟩ : ∃ K, ckS ⟨v, hs, cert, e, sg⟩ = K := ⟨_, rfl⟩
  rw [hK]
  unfold ckS at hK
  simp only at hK
  have HKK := Lib.hid hK
  clear ez TZ hK
  unfold seV
  simp only at hwz
  by_cases hv : v ≠ 0 ∧ v ≠ 1
  · have HK := Lib.hid (HKK.out.symm.trans (if_pos hv))
    have hv0 : (v != 0) = true := by simp [hv.1]
    have hv1 : (v != 1) = true := by simp [hv.2]
    clear hv
    go_enter Tryz.func55, Tryz.ntmps55
    go_wp2
    go_ret
    exact ⟨by rw [HK.out]; rfl, by rw [← hwz]; exact EZ.out⟩
  have HK1 := Lib.hid (HKK.out.symm.trans (if_neg hv))
  clear HKK
  by_cases hl : hs.length < 1 ∨ 16 < hs.length
  · have HK := Lib.hid (HK1.out.trans (if_pos hl))
    rcases (show v = 0 ∨ v = 1 by omega) with rfl | rfl
    all_goals
      clear hv
      rcases hl with hl | hl
    all_goals
      first
        | (have hl1 : (hs.length : Int) < 1 := by omega
           clear hl
           go_enter Tryz.func55, Tryz.ntmps55
           go_wp2
           go_ret
           exact ⟨by rw [HK.out]; rfl, by rw [← hwz]; exact EZ.out⟩)
        | (have hl1 : ¬ (hs.length : Int) < 1 := by omega
           have hl2 : (16 : Int) < (hs.length : Int) := by omega
           clear hl
           go_enter Tryz.func55, Tryz.ntmps55
           go_wp2
           go_ret
           exact ⟨by rw [HK.out]; rfl, by rw [← hwz]; exact EZ.out⟩)
  have HK2 := Lib.hid (HK1.out.trans (if_neg hl))
  clear HK1
  have hl1 : ¬ (hs.length : Int) < 1 := by omega
  have hl2 : ¬ (16 : Int) < (hs.length : Int) := by omega
  clear hl
  rcases (show v = 0 ∨ v = 1 by omega) with rfl | rfl
  all_goals
    clear hv
    go_enter Tryz.func55, Tryz.ntmps55
    go_wp2_with fail
    try rw [← hwz]
    try clear hwz
    go_loopw [3, 5, 27, 31, 40, 45] (fun b3 _ i _ _ _ wr => ∃ (j : Nat) (b : Int), j ≤ hs.length ∧ i = .int .i64 (j : Int) ∧ b3 = .int .i64 b ∧ Hid (Ext w wr) ∧ Hid (wz.heap.size ≤ wr.heap.size ∧ Ext wz wr) ∧ Hid (K = ckH b (hs.drop j))) (fun _ _ i _ _ _ _ => hs.length - (intOf i).toNat)
    case atStart => exact ⟨0, 0, Nat.zero_le _, rfl, rfl, EZ, Lib.hid ⟨Nat.le_refl _, Below.refl _ _⟩, Lib.hid (by rw [List.drop_zero]; exact HK2.out)⟩
    case round =>
      obtain ⟨j, b, hj, rfl, rfl, EW, EW2, HKJ⟩ := hrel
      have TW := HTZ.out.ext EW2.out.2
      have t1 := TW.c1
      have tl := TW.lt
      have HTW := Lib.hid TW
      clear TW
      by_cases hlt : j < hs.length
      · obtain ⟨x, hx⟩ : ∃ x, hs[j]? = some x := ⟨_, List.getElem?_eq_getElem hlt⟩
        obtain ⟨bb, o, rfl, hbl, A1, n1, c1, e0, e1, r1⟩ := HE.out j x hx
        have l0 := (EW.out.cell (p := ⟨bb, o + j * 2, none⟩) hbl).trans e0
        have l1 := (EW.out.cell (p := ⟨bb, o + j * 2 + 1, none⟩) hbl).trans e1
        obtain ⟨A1', n1', c1', eq1, hn1, _⟩ := r1.bytes
        injection eq1 with _ eq1 _
        rw [← eq1] at hn1
        have HJ := Lib.hid (HKJ.out.trans (congrArg (ckH b) (drop_at hx)))
        have HN1 := Lib.hid hn1
        clear e0 e1 r1 hx eq1 hn1
        have EN := Lib.hid (fun (o : Obj) => (show Ext wr (wr.alloc o) from (Below.refl _ _).alloc (Nat.le_refl _) _))
        have wi1 : IntKind.i64.wrap ((j : Int)) = (j : Int) := IntWalk.i64_in _ (by omega)
        have zi1 : (0 : Int) ≤ (j : Int) := by omega
        have li1 : (j : Int) < (hs.length : Int) := by omega
        have ti1 : ((j : Int)).toNat = j := by omega
        by_cases g1 : x.1 < 1 ∨ 16 < x.1
        · have HR := Lib.hid (HJ.out.trans (ckH_bad1 g1))
          rcases g1 with g1 | g1
          · go_wp2_with fail
            go_ret
            exact ⟨by rw [HR.out]; rfl, EW.out.tr (EN.out _)⟩
          · have g1' : ¬ x.1 < 1 := by omega
            go_wp2_with fail
            go_ret
            exact ⟨by rw [HR.out]; rfl, EW.out.tr (EN.out _)⟩
        · have G1 := Lib.hid g1
          have g2 : ¬ x.1 < 1 := by omega
          have g3 : ¬ 16 < x.1 := by omega
          clear g1
          by_cases g4 : x.1 ≤ b
          · have HR := Lib.hid (HJ.out.trans (ckH_bad2 G1.out g4))
            go_wp2_with fail
            go_ret
            exact ⟨by rw [HR.out]; rfl, EW.out.tr (EN.out _)⟩
          · by_cases g5 : x.2.length = 32
            · have HR := Lib.hid (HJ.out.trans (ckH_on G1.out g4 (by simp [g5])))
              have g6 : n1 = 32 := by rw [HN1.out]; exact g5
              clear g5 HN1
              subst g6
              go_wp2_with fail
              go_roundw
              case rel => repeat (first | exact ⟨j + 1, x.1, by omega, by go_num, rfl, Lib.hid (EW.out.tr (EN.out _)), Lib.hid ⟨Nat.le_trans EW2.out.1 (EN.out _).size, EW2.out.2.tr (EN.out _)⟩, HR⟩ | refine ⟨_, ?_⟩)
              case measure => simp [intOf]; omega
            · have HR := Lib.hid (HJ.out.trans (ckH_bad3 G1.out g4 g5))
              have g6 : ((n1 : Int) != 32) = true := by rw [HN1.out]; simp; omega
              clear g5 HN1
              go_wp2_with fail
              go_ret
              exact ⟨by rw [HR.out]; rfl, EW.out.tr (EN.out _)⟩
      · obtain rfl : j = hs.length := by omega
        have HR := Lib.hid (show K = 0 by rw [HKJ.out, List.drop_length]; rfl)
        go_wp2_with fail
        go_ret
        exact ⟨by rw [HR.out]; rfl, EW.out⟩
set_option maxHeartbeats 4000000 in
theorem refhashes_any (s : SE) (vh vc : Value) (w : World) (hr : SeR w s vh vc) : Calls Tryz.prog 58 #[seV s vh vc] w (RetQ w (.int .i64 (ckS s))) := by
  obtain ⟨v, hs, cert, e, sg⟩ := s
  obtain ⟨A, n, c, rfl, hn, hnc, hcm, hel⟩ := hr.h.open_
  obtain ⟨Ac, nc, cc, rfl, hnc', hncc, hcmc, _⟩ := hr.c.bytes
  simp only at hn hel hnc' hncc hcm hnc
  subst hn hnc'
  unfold maxLen at hcm hcmc
  have HE := Lib.hid hel
  clear hr hel
  obtain ⟨wz, hwz, ez, TZ⟩ := se_alloc w ⟨v, hs, cert, e, sg⟩ (.slice A hs.length c) (.slice Ac cert.length cc)
  have EZ := Lib.hid ez
  have HTZ := Lib.hid TZ
  obtain ⟨K, hK⟩ : ∃ K, ckS ⟨v, hs, cert, e, sg⟩ = K := ⟨_, rfl⟩
  rw [hK]
  unfold ckS at hK
  simp only at hK
  have HKK := Lib.hid hK
  clear ez TZ hK
  unfold seV
  simp only at hwz
  by_cases hv : v ≠ 0 ∧ v ≠ 1
  · have HK := Lib.hid (HKK.out.symm.trans (if_pos hv))
    have hv0 : (v != 0) = true := by simp [hv.1]
    have hv1 : (v != 1) = true := by simp [hv.2]
    have hv2 : v < 0 ∨ (¬ v < 0 ∧ 1 < v) := by omega
    rcases hv2 with hv2 | ⟨hv2, hv3⟩
    all_goals
     clear hv
     go_enter Tryz.func58, Tryz.ntmps58
     go_wp2
     go_ret
     exact ⟨by rw [HK.out]; rfl, by rw [← hwz]; exact EZ.out⟩
  have HK1 := Lib.hid (HKK.out.symm.trans (if_neg hv))
  clear HKK
  by_cases hl : hs.length < 1 ∨ 16 < hs.length
  · have HK := Lib.hid (HK1.out.trans (if_pos hl))
    rcases (show v = 0 ∨ v = 1 by omega) with rfl | rfl
    all_goals
      clear hv
      rcases hl with hl | hl
    all_goals
      first
        | (have hl1 : (hs.length : Int) < 1 := by omega
           clear hl
           go_enter Tryz.func58, Tryz.ntmps58
           go_wp2
           go_ret
           exact ⟨by rw [HK.out]; rfl, by rw [← hwz]; exact EZ.out⟩)
        | (have hl1 : ¬ (hs.length : Int) < 1 := by omega
           have hl2 : (16 : Int) < (hs.length : Int) := by omega
           clear hl
           go_enter Tryz.func58, Tryz.ntmps58
           go_wp2
           go_ret
           exact ⟨by rw [HK.out]; rfl, by rw [← hwz]; exact EZ.out⟩)
  have HK2 := Lib.hid (HK1.out.trans (if_neg hl))
  clear HK1
  have hl1 : ¬ (hs.length : Int) < 1 := by omega
  have hl2 : ¬ (16 : Int) < (hs.length : Int) := by omega
  clear hl
  rcases (show v = 0 ∨ v = 1 by omega) with rfl | rfl
  all_goals
    clear hv
    go_enter Tryz.func58, Tryz.ntmps58
    go_wp2_with fail
    try rw [← hwz]
    try clear hwz
    go_loopw [3, 4, 5, 36, 45, 50] (fun b3 i _ _ _ _ wr => ∃ (j : Nat) (b : Int), j ≤ hs.length ∧ i = .int .i64 (j : Int) ∧ b3 = .int .i64 b ∧ Hid (Ext w wr) ∧ Hid (wz.heap.size ≤ wr.heap.size ∧ Ext wz wr) ∧ Hid (K = ckH b (hs.drop j))) (fun _ i _ _ _ _ _ => hs.length - (intOf i).toNat)
    case atStart => exact ⟨0, 0, Nat.zero_le _, rfl, rfl, EZ, Lib.hid ⟨Nat.le_refl _, Below.refl _ _⟩, Lib.hid (by rw [List.drop_zero]; exact HK2.out)⟩
    case round =>
      obtain ⟨j, b, hj, rfl, rfl, EW, EW2, HKJ⟩ := hrel
      have TW := HTZ.out.ext EW2.out.2
      have t1 := TW.c1
      have tl := TW.lt
      have HTW := Lib.hid TW
      clear TW
      by_cases hlt : j < hs.length
      · obtain ⟨x, hx⟩ : ∃ x, hs[j]? = some x := ⟨_, List.getElem?_eq_getElem hlt⟩
        obtain ⟨bb, o, rfl, hbl, A1, n1, c1, e0, e1, r1⟩ := HE.out j x hx
        have l0 := (EW.out.cell (p := ⟨bb, o + j * 2, none⟩) hbl).trans e0
        have l1 := (EW.out.cell (p := ⟨bb, o + j * 2 + 1, none⟩) hbl).trans e1
        obtain ⟨A1', n1', c1', eq1, hn1, _⟩ := r1.bytes
        injection eq1 with _ eq1 _
        rw [← eq1] at hn1
        have HJ := Lib.hid (HKJ.out.trans (congrArg (ckH b) (drop_at hx)))
        have HN1 := Lib.hid hn1
        clear e0 e1 r1 hx eq1 hn1
        have EN := Lib.hid (fun (o : Obj) => (show Ext wr (wr.alloc o) from (Below.refl _ _).alloc (Nat.le_refl _) _))
        have wi2 : IntKind.i64.wrap ((j : Int)) = (j : Int) := IntWalk.i64_in _ (by omega)
        have zi2 : (0 : Int) ≤ (j : Int) := by omega
        have li2 : (j : Int) < (hs.length : Int) := by omega
        have ti2 : ((j : Int)).toNat = j := by omega
        by_cases g1 : x.1 < 1 ∨ 16 < x.1
        · have HR := Lib.hid (HJ.out.trans (ckH_bad1 g1))
          rcases g1 with g1 | g1
          · go_wp2_with fail
            go_ret
            exact ⟨by rw [HR.out]; rfl, EW.out.tr (EN.out _)⟩
          · have g1' : ¬ x.1 < 1 := by omega
            go_wp2_with fail
            go_ret
            exact ⟨by rw [HR.out]; rfl, EW.out.tr (EN.out _)⟩
        · have G1 := Lib.hid g1
          have g2 : ¬ x.1 < 1 := by omega
          have g3 : ¬ 16 < x.1 := by omega
          clear g1
          by_cases g4 : x.1 ≤ b
          · have HR := Lib.hid (HJ.out.trans (ckH_bad2 G1.out g4))
            go_wp2_with fail
            go_ret
            exact ⟨by rw [HR.out]; rfl, EW.out.tr (EN.out _)⟩
          · by_cases g5 : x.2.length = 32
            · have HR := Lib.hid (HJ.out.trans (ckH_on G1.out g4 (by simp [g5])))
              have g6 : n1 = 32 := by rw [HN1.out]; exact g5
              clear g5 HN1
              subst g6
              go_wp2_with fail
              go_roundw
              case rel => repeat (first | exact ⟨j + 1, x.1, by omega, by go_num, rfl, Lib.hid (EW.out.tr (EN.out _)), Lib.hid ⟨Nat.le_trans EW2.out.1 (EN.out _).size, EW2.out.2.tr (EN.out _)⟩, HR⟩ | refine ⟨_, ?_⟩)
              case measure => simp [intOf]; omega
            · have HR := Lib.hid (HJ.out.trans (ckH_bad3 G1.out g4 g5))
              have g6 : ((n1 : Int) != 32) = true := by rw [HN1.out]; simp; omega
              clear g5 HN1
              go_wp2_with fail
              go_ret
              exact ⟨by rw [HR.out]; rfl, EW.out.tr (EN.out _)⟩
      · obtain rfl : j = hs.length := by omega
        have HR := Lib.hid (show K = 0 by rw [HKJ.out, List.drop_length]; rfl)
        go_wp2_with fail
        go_ret
        exact ⟨by rw [HR.out]; rfl, EW.out⟩
end Go.Proofs.YthbpdhanljpigaaGreatDoor
namespace Go.Proofs.YthbpdhanljpigaaGreatDoor
open Go.RowKit
set_option linter.unusedVariables false
set_option maxRecDepth 100000
def crtX (l : List UInt8) : Bool := decide (1 ≤ l.length ∧ l.length ≤ 1024)
theorem cert16_any {v : Value} {l : List UInt8} (w : World) (h : Rd w v (bvs l)) : Calls Tryz.prog 47 #[v] w fun e w' => e = .returned (.bool (crtX l)) ∧ w = w' := by
  obtain ⟨A, n, c, rfl, hn, hnc, hcm, _⟩ := h.bytes
  subst hn
  unfold maxLen at hcm
  clear h
  by_cases h1 : 1 ≤ l.length
  · have h1' : (1 : Int) ≤ (l.length : Int) := by omega
    obtain ⟨D, hD⟩ : ∃ D, D = decide ((l.length : Int) ≤ 1024) := ⟨_, rfl⟩
    have H := Lib.hid (show crtX l = D by rw [hD]; exact decide_eq_decide.2 (by omega))
    clear h1
    go_enter Tryz.func47, Tryz.ntmps47
    go_wp2
    go_ret
    exact ⟨by rw [H.out, hD]; rfl, rfl⟩
  · have h1' : ¬ (1 : Int) ≤ (l.length : Int) := by omega
    have H := Lib.hid (show crtX l = false from decide_eq_false (by omega))
    clear h1
    go_enter Tryz.func47, Tryz.ntmps47
    go_wp2
    go_ret
    exact ⟨by rw [H.out]; rfl, rfl⟩
theorem vdS_1 {s : SE} (h : ckS s ≠ 0) : vdS s = ckS s := if_pos h
theorem vdS_2 {s : SE} (h : ckS s = 0) (hc : crtX s.cert = false) : vdS s = 2 := by
  unfold vdS
  rw [if_neg (not_not_intro h), if_pos (by have := of_decide_eq_false hc; omega)]
theorem vdS_3 {s : SE} (h : ckS s = 0) (hc : crtX s.cert = true) (he : encK s.e s.s ≠ 0) : vdS s = 11 := by
  have := of_decide_eq_true hc
  unfold vdS
  rw [if_neg (not_not_intro h), if_neg (by omega), if_pos he]
theorem vdS_4 {s : SE} (h : ckS s = 0) (hc : crtX s.cert = true) (he : encK s.e s.s = 0) : vdS s = 0 := by
  have := of_decide_eq_true hc
  unfold vdS
  rw [if_neg (not_not_intro h), if_neg (by omega), if_neg (not_not_intro he)]
set_option maxHeartbeats 2000000 in
theorem valid16P_any (s : SE) (vh vc : Value) (w : World) (hr : SeR w s vh vc) : Calls Tryz.prog 30 #[seV s vh vc] w (RetQ w (.int .i64 (vdS s))) := by
  obtain ⟨A, n, c, rfl, hn, _⟩ := hr.h.open_
  obtain ⟨Ac, nc, cc, rfl, hnc, _⟩ := hr.c.bytes
  subst hn hnc
  obtain ⟨wz, hwz, ez, TZ⟩ := se_alloc w s (.slice A s.hs.length c) (.slice Ac s.cert.length cc)
  have EZ := Lib.hid ez
  have HTZ := Lib.hid TZ
  have HR := Lib.hid hr
  clear hr ez TZ
  unfold seV
  go_enter Tryz.func30, Tryz.ntmps30
  go_wp2_with fail
  rw [← hwz]
  clear hwz
  refine (check16_any s _ _ wz (HR.out.ext EZ.out)).mono ?_
  rintro e w1 ⟨rfl, b1⟩
  have X1 := Lib.hid (EZ.out.tr b1)
  have T1 := Lib.hid (HTZ.out.ext b1)
  clear b1
  have t2 := T1.out.c2
  have t3 := T1.out.c3
  have t4 := T1.out.c4
  have tl := T1.out.lt
  by_cases hc : ckS s = 0
  · have HC := Lib.hid hc
    rw [hc]
    clear hc
    go_wp2_with fail
    refine (cert16_any w1 (HR.out.c.ext X1.out)).mono ?_
    rintro e w1' ⟨rfl, rfl⟩
    cases hq : crtX s.cert with
    | false =>
      have HV := Lib.hid (vdS_2 HC.out hq)
      clear hq
      go_wp2_with fail
      go_ret
      exact ⟨by rw [HV.out]; rfl, X1.out⟩
    | true =>
      have HQ := Lib.hid hq
      clear hq
      go_wp2_with fail
      refine (enc_any s.e s.s _).mono ?_
      rintro e w2 ⟨A2, n2, c2, rfl, hn2, r2, b2⟩
      have X2 := Lib.hid (X1.out.tr b2)
      clear hn2 r2 b2
      by_cases he : encK s.e s.s = 0
      · have HV := Lib.hid (vdS_4 HC.out HQ.out he)
        rw [he]
        clear he
        go_wp2_with fail
        go_ret
        exact ⟨by rw [HV.out]; rfl, X2.out⟩
      · have hb : (encK s.e s.s != 0) = true := by simpa using he
        have HV := Lib.hid (vdS_3 HC.out HQ.out he)
        clear he
        go_wp2_with fail
        go_ret
        exact ⟨by rw [HV.out]; rfl, X2.out⟩
  · have hb : (ckS s != 0) = true := by simpa using hc
    have HV := Lib.hid (vdS_1 hc)
    clear hc
    go_wp2_with fail
    go_ret
    exact ⟨by rw [HV.out]; rfl, X1.out⟩
set_option maxHeartbeats 2000000 in
theorem valid16R_any (s : SE) (vh vc : Value) (w : World) (hr : SeR w s vh vc) : Calls Tryz.prog 31 #[seV s vh vc] w (RetQ w (.int .i64 (vdS s))) := by
  obtain ⟨A, n, c, rfl, hn, _⟩ := hr.h.open_
  obtain ⟨Ac, nc, cc, rfl, hnc, _⟩ := hr.c.bytes
  subst hn hnc
  obtain ⟨wz, hwz, ez, TZ⟩ := se_alloc w s (.slice A s.hs.length c) (.slice Ac s.cert.length cc)
  have EZ := Lib.hid ez
  have HTZ := Lib.hid TZ
  have HR := Lib.hid hr
  clear hr ez TZ
  unfold seV
  go_enter Tryz.func31, Tryz.ntmps31
  go_wp2_with fail
  rw [← hwz]
  clear hwz
  refine (refhashes_any s _ _ wz (HR.out.ext EZ.out)).mono ?_
  rintro e w1 ⟨rfl, b1⟩
  have X1 := Lib.hid (EZ.out.tr b1)
  have T1 := Lib.hid (HTZ.out.ext b1)
  clear b1
  have t2 := T1.out.c2
  have t3 := T1.out.c3
  have t4 := T1.out.c4
  have tl := T1.out.lt
  by_cases hc : ckS s = 0
  · have HC := Lib.hid hc
    rw [hc]
    clear hc
    cases hq : crtX s.cert with
    | false =>
      have HV := Lib.hid (vdS_2 HC.out hq)
      have hl := of_decide_eq_false hq
      clear hq
      by_cases hl1 : s.cert.length < 1
      · have hl2 : (s.cert.length : Int) < 1 := by omega
        clear hl hl1
        go_wp2_with fail
        go_ret
        exact ⟨by rw [HV.out]; rfl, X1.out⟩
      · have hl2 : ¬ (s.cert.length : Int) < 1 := by omega
        have hl3 : (1024 : Int) < (s.cert.length : Int) := by omega
        clear hl hl1
        go_wp2_with fail
        go_ret
        exact ⟨by rw [HV.out]; rfl, X1.out⟩
    | true =>
      have HQ := Lib.hid hq
      have hl := of_decide_eq_true hq
      have hl2 : ¬ (s.cert.length : Int) < 1 := by omega
      have hl3 : ¬ (1024 : Int) < (s.cert.length : Int) := by omega
      clear hq hl
      go_wp2_with fail
      refine (refenc_any s.e s.s _).mono ?_
      rintro e w2 ⟨A2, n2, c2, rfl, hn2, r2, b2⟩
      have X2 := Lib.hid (X1.out.tr b2)
      clear hn2 r2 b2
      by_cases he : encK s.e s.s = 0
      · have HV := Lib.hid (vdS_4 HC.out HQ.out he)
        rw [he]
        clear he
        go_wp2_with fail
        go_ret
        exact ⟨by rw [HV.out]; rfl, X2.out⟩
      · have hb : (encK s.e s.s != 0) = true := by simpa using he
        have HV := Lib.hid (vdS_3 HC.out HQ.out he)
        clear he
        go_wp2_with fail
        go_ret
        exact ⟨by rw [HV.out]; rfl, X2.out⟩
  · have hb : (ckS s != 0) = true := by simpa using hc
    have HV := Lib.hid (vdS_1 hc)
    clear hc
    go_wp2_with fail
    go_ret
    exact ⟨by rw [HV.out]; rfl, X1.out⟩
end Go.Proofs.YthbpdhanljpigaaGreatDoor
namespace Go.Proofs.YthbpdhanljpigaaGreatDoor
set_option linter.unusedVariables false
set_option maxRecDepth 100000
/-- Hashes of one file. -/
def hs1X (f : List UInt8) : Except Int (List (Int × List UInt8)) := match opnX f with
  | .error e => .error e
  | .ok (n, _) => if 16 < n then .error 3 else .ok [(n, sha f)]
/-- What Make answers: k: the secret; nf: how many files; r: their hashes. -/
def mkX (k : Int) (cert : List UInt8) (nf : Nat) (r : Except Int (List (Int × List UInt8))) : Except Int SE := match r with
  | .error e => .error e
  | .ok hs => if nf = 0 ∨ cert.length < 1 ∨ 1024 < cert.length then .error 2 else
    if inB 1 1073741789 k = true then .ok ⟨1, hs, cert, sigE k (msgB ⟨1, hs, cert, 0, 0⟩), sigS k (msgB ⟨1, hs, cert, 0, 0⟩)⟩ else .error 3
/-- The groups whose hash is not there. -/
def dfX (s hs : List (Int × List UInt8)) : List Int := (hs.filter fun h => !(s.any fun x => x.1 == h.1 && x.2 == h.2)).map (·.1)
def difX (s : SE) (r : Except Int (List (Int × List UInt8))) : Except Int (List Int) := if vdS s ≠ 0 then .error (vdS s) else match r with
  | .error e => .error e
  | .ok hs => .ok (dfX s.hs hs)
def g1B : List UInt8 := [97, 0]
def comN : Nd := .mk 96 [] [leafN 24321 [48, 49, 48, 56], leafN 24374 [48, 52, 48, 48, 48, 48], leafN 92 [97]]
def comB : List UInt8 := encNs 2 [comN]
theorem comB_eq : comB = [96, 19, 95, 1, 4, 48, 49, 48, 56, 95, 54, 6, 48, 52, 48, 48, 48, 48, 92, 1, 97] := by decide +kernel
theorem ok_comN : okNs 2 [comN] := by
  refine okNs_cons (okCons (by decide) (by decide) (by decide) (by decide) ?_) (okNs_nil _)
  refine okNs_cons (okLeaf (by decide) (by decide) (by decide) (by decide)) ?_
  refine okNs_cons (okLeaf (by decide) (by decide) (by decide) (by decide)) ?_
  exact okNs_cons (okLeaf (by decide) (by decide) (by decide) (by decide)) (okNs_nil _)
def opnN (l : List UInt8) : Int := match opnX l with
  | .error _ => -1
  | .ok (n, _) => n
theorem opnN_g1 : opnN g1B = 1 := by decide +kernel
theorem opnN_com : opnN comB = 17 := by rw [comB_eq]; decide +kernel
theorem be4s_len : ∀ (l : List Int), (l.map (List.length ∘ be4)).sum = 4 * l.length
  | [] => rfl
  | a :: l => by
    rw [List.map_cons, List.sum_cons, be4s_len l]
    show 4 + _ = _
    rw [List.length_cons]
    omega
theorem sha_len (l : List UInt8) : (sha l).length = 32 := by
  unfold sha bytes8
  have h := states_length (pad l) ((pad l).length / 64)
  generalize states (pad l) ((pad l).length / 64) = s at h
  rw [List.length_flatten, List.map_map]
  rw [be4s_len, h]
theorem hs1_g1 : hs1X g1B = .ok [(1, sha g1B)] := by
  have h := opnN_g1
  unfold opnN at h
  unfold hs1X
  cases ho : opnX g1B with
  | error e => rw [ho] at h; simp at h
  | ok r => obtain ⟨n, ks⟩ := r; rw [ho] at h; simp only at h; subst h; rfl
theorem hs1_com : hs1X comB = .error 3 := by
  have h := opnN_com
  unfold opnN at h
  unfold hs1X
  cases ho : opnX comB with
  | error e => rw [ho] at h; simp at h
  | ok r => obtain ⟨n, ks⟩ := r; rw [ho] at h; simp only at h; subst h; rfl
/-- The object that the wake makes. -/
def awS (e s : Int) : SE := ⟨1, [(1, sha g1B)], [1], e, s⟩
theorem ck_aw (e s : Int) : ckS (awS e s) = 0 := by
  show (if (1 : Int) ≠ 0 ∧ (1 : Int) ≠ 1 then (3 : Int) else if ([(1, sha g1B)] : List (Int × List UInt8)).length < 1 ∨ 16 < ([(1, sha g1B)] : List (Int × List UInt8)).length then 2 else ckH 0 [(1, sha g1B)]) = 0
  rw [if_neg (by decide), if_neg (by simp)]
  unfold ckH
  rw [if_neg (by decide), if_neg (by decide), if_neg (by rw [sha_len]; decide)]
  rfl
theorem encN_len {d L : Nat} {t : Nd} (h : (contN d t).length = L) (ht : ¬ 255 < t.tag) (hL : L < 128) : (encN d t).length = 2 + L := by
  unfold encN
  rw [List.length_append, List.length_append, h]
  unfold tagB lenB
  rw [if_neg ht, if_pos hL]
  show 1 + 1 + L = 2 + L
  omega
theorem encNs_two {d a b : Nat} {t u : Nd} (h1 : (encN d t).length = a) (h2 : (encN d u).length = b) : (encNs (d + 1) [t, u]).length = a + b := by
  rw [encNs_succ, List.flatMap_cons, List.flatMap_cons, List.flatMap_nil, List.append_nil, List.length_append, h1, h2]
theorem encNs_one {d a : Nat} {t : Nd} (h1 : (encN d t).length = a) : (encNs (d + 1) [t]).length = a := by
  rw [encNs_succ, List.flatMap_cons, List.flatMap_nil, List.append_nil, h1]
theorem msg_aw (e s : Int) : (msgB (awS e s)).length = 46 := by
  unfold msgB
  rw [if_pos (ck_aw e s)]
  have h0 := sha_len g1B
  generalize hh : sha g1B = h at h0
  have e1 : ∀ d, (encN d (leafN 4 h)).length = 2 + 32 := fun d => encN_len ((congrArg List.length (if_neg (show ¬ consT (4 : Int) = true by decide))).trans h0) (show ¬ 255 < (4 : Int) by decide) (by omega)
  have e2 : ∀ d x, (encN d (leafN 2 [x])).length = 2 + 1 := fun d x => encN_len ((congrArg List.length (if_neg (show ¬ consT (2 : Int) = true by decide))).trans rfl) (show ¬ 255 < (2 : Int) by decide) (by omega)
  have e3 : (encN 1 (hashN (1, h))).length = 2 + 37 := encN_len ((congrArg List.length (if_pos (show consT (48 : Int) = true by decide))).trans (encNs_two (e2 0 _) (e1 0))) (show ¬ 255 < (48 : Int) by decide) (by omega)
  have e4 : (encN 2 (.mk 48 [] [hashN (1, h)])).length = 2 + 39 := encN_len ((congrArg List.length (if_pos (show consT (48 : Int) = true by decide))).trans (encNs_one e3)) (show ¬ 255 < (48 : Int) by decide) (by omega)
  have e5 : (encN 3 (msgN ⟨1, [(1, h)], [1], e, s⟩)).length = 2 + 44 := encN_len ((congrArg List.length (if_pos (show consT (48 : Int) = true by decide))).trans (encNs_two (e2 2 _) e4)) (show ¬ 255 < (48 : Int) by decide) (by omega)
  have e6 := encNs_one (d := 3) e5
  unfold awS
  rw [hh]
  exact e6
theorem df_aw (e s : Int) : dfX (awS e s).hs [(1, sha g1B)] = [] := by
  show ((List.filter _ [(1, sha g1B)]).map _) = []
  simp [awS]
end Go.Proofs.YthbpdhanljpigaaGreatDoor
namespace Go.Proofs.YthbpdhanljpigaaGreatDoor
open Go.RowKit
set_option linter.unusedVariables false
set_option maxRecDepth 100000
theorem same_drew {a b : Value} {xs : List UInt8} (w : World) (ha : Rd w a (bvs xs)) (hb : Rd w b (bvs xs)) :
    Calls Tryz.prog 32 #[a, b] w fun e w' => e = .returned (.bool true) ∧ ∃ n, w.drewN n = w' := by
  obtain ⟨A, n1, c, rfl, hn1, hnc, hcm, hA⟩ := ha.bytes
  obtain ⟨A2, n2, c2, rfl, hn2, hnc2, hcm2, hB⟩ := hb.bytes
  subst hn1 hn2
  unfold maxLen at hcm hcm2
  go_enter Tryz.func32, Tryz.ntmps32
  go_wp2
  go_loopw [5] (fun i wr => ∃ k : Nat, k ≤ xs.length ∧ i = .int .i64 k ∧ ∃ n, wr = w.drewN n) (fun i _ => xs.length - (intOf i).toNat)
  case atStart => exact ⟨0, Nat.zero_le _, rfl, 0, rfl⟩
  case round =>
    obtain ⟨k, hk, rfl, n, rfl⟩ := hrel
    by_cases hlt : k < xs.length
    · obtain ⟨b1, o1, rfl, _, hc1⟩ := hA (by omega)
      obtain ⟨b2, o2, rfl, _, hc2⟩ := hB (by omega)
      have d1 := hc1 k hlt
      have d2 := hc2 k hlt
      have e1 : (0 : Int) ≤ (k : Int) := by omega
      have e2 : (k : Int) < (xs.length : Int) := by omega
      clear hc1 hc2 hA hB
      go_wp2
      go_quiet (fail)
      go_wp2
      go_roundw
      case rel => exact ⟨k + 1, by omega, by go_num, n + nq, by simp⟩
      case measure => simp [intOf]; omega
    · go_wp2
      go_ret
      exact ⟨rfl, n, rfl⟩
set_option maxHeartbeats 2000000 in
theorem samehs_any {va vb : Value} {hs : List (Int × List UInt8)} (w : World) (ha : HsRd w va hs) (hb : HsRd w vb hs) : Calls Tryz.prog 17 #[va, vb] w fun e w' => e = .returned (.bool true) ∧ ∃ n, w.drewN n = w' := by
  obtain ⟨A, n, c, rfl, hn, hnc, hcm, hel⟩ := ha.open_
  obtain ⟨A2, n2, c2, rfl, hn2, hnc2, hcm2, hel2⟩ := hb.open_
  subst hn hn2
  unfold maxLen at hcm hcm2
  have HE := Lib.hid hel
  have HE2 := Lib.hid hel2
  clear hel hel2 ha hb
  go_enter Tryz.func17, Tryz.ntmps17
  go_wp2
  go_loopw [5] (fun i wr => ∃ k : Nat, k ≤ hs.length ∧ i = .int .i64 (k : Int) ∧ Hid (∃ n, wr = w.drewN n)) (fun i _ => hs.length - (intOf i).toNat)
  case atStart => exact ⟨0, Nat.zero_le _, rfl, Lib.hid ⟨0, rfl⟩⟩
  case round =>
    obtain ⟨k, hk, rfl, HW⟩ := hrel
    have bw : Ext w wr := by obtain ⟨n, h⟩ := HW.out; rw [h]; exact Ext.drewN_ _ _
    by_cases hlt : k < hs.length
    · obtain ⟨x, hx⟩ : ∃ x, hs[k]? = some x := ⟨_, List.getElem?_eq_getElem hlt⟩
      obtain ⟨b1, o1, rfl, hb1, P1, m1, k1, e0, e1, r1⟩ := HE.out k x hx
      obtain ⟨b2, o2, rfl, hb2, P2, m2, k2, f0, f1, r2⟩ := HE2.out k x hx
      have d0 := (bw.cell (p := ⟨b1, o1 + k * 2, none⟩) hb1).trans e0
      have d1 := (bw.cell (p := ⟨b1, o1 + k * 2 + 1, none⟩) hb1).trans e1
      have d2 := (bw.cell (p := ⟨b2, o2 + k * 2, none⟩) hb2).trans f0
      have d3 := (bw.cell (p := ⟨b2, o2 + k * 2 + 1, none⟩) hb2).trans f1
      have R1 := Lib.hid (fun (W : World) (e : Ext w W) => r1.ext e)
      have R2 := Lib.hid (fun (W : World) (e : Ext w W) => r2.ext e)
      clear r1 r2 hx e0 e1 f0 f1
      have wi1 : IntKind.i64.wrap ((k : Int)) = (k : Int) := IntWalk.i64_in _ (by omega)
      have zi1 : (0 : Int) ≤ (k : Int) := by omega
      have li1 : (k : Int) < (hs.length : Int) := by omega
      have ti1 : ((k : Int)).toNat = k := by omega
      go_wp2_with (go_quiet (first | (go_at_call 32; refine Calls.quiet_of ((same_drew _ (R1.out _ (bw.tr (Ext.drewN_ _ _))) (R2.out _ (bw.tr (Ext.drewN_ _ _)))).mono fun _ _ ⟨h1, n, h2⟩ => ⟨h1, n, h2.symm⟩))))
      go_wp2_with fail
      go_roundw
      case rel => exact ⟨k + 1, by omega, by go_num, Lib.hid (by obtain ⟨n, h⟩ := HW.out; exact ⟨n + nq, by rw [h]; simp⟩)⟩
      case measure => simp [intOf]; omega
    · obtain rfl : k = hs.length := by omega
      go_wp2
      go_ret
      exact ⟨rfl, by obtain ⟨n, h⟩ := HW.out; exact ⟨n, h.symm⟩⟩
set_option maxHeartbeats 2000000 in
theorem same16_any (s : SE) (vh vc vh' vc' : Value) (w : World) (h1 : SeR w s vh vc) (h2 : SeR w s vh' vc') : Calls Tryz.prog 18 #[seV s vh vc, seV s vh' vc'] w (RetQ w (.bool true)) := by
  obtain ⟨A, n, c, rfl, hn, _⟩ := h1.h.open_
  obtain ⟨A', n', c', rfl, hn', _⟩ := h2.h.open_
  obtain ⟨B, m, k, rfl, hm, _⟩ := h1.c.bytes
  obtain ⟨B', m', k', rfl, hm', _⟩ := h2.c.bytes
  subst hn hn' hm hm'
  obtain ⟨wa, hwa, ea, TA⟩ := se_alloc w s (.slice A s.hs.length c) (.slice B s.cert.length k)
  obtain ⟨wb, hwb, eb, TB⟩ := se_alloc wa s (.slice A' s.hs.length c') (.slice B' s.cert.length k')
  have x0 : Ext w wb := ea.tr eb
  have hsz : wa.heap.size = w.heap.size + 1 := by rw [hwa]; simp
  rw [hsz] at TB
  have HA := Lib.hid (TA.ext eb)
  have HB := Lib.hid TB
  clear ea eb hsz TA TB
  have HX := Lib.hid x0
  have H1 := Lib.hid h1
  have H2 := Lib.hid h2
  clear x0 h1 h2
  unfold seV
  go_enter Tryz.func18, Tryz.ntmps18
  go_wp2_with fail
  rw [← hwa, ← hwb]
  clear hwa hwb
  refine (samehs_any _ (H1.out.h.ext HX.out) (H2.out.h.ext HX.out)).mono ?_
  rintro e w1 ⟨rfl, q1, rfl⟩
  have X1 := Lib.hid (HX.out.tr (Ext.drewN_ wb q1))
  have A1 := Lib.hid (HA.out.ext (Ext.drewN_ wb q1))
  have B1 := Lib.hid (HB.out.ext (Ext.drewN_ wb q1))
  generalize wb.drewN q1 = wc at *
  have a2 := A1.out.c2
  have b2 := B1.out.c2
  have al := A1.out.lt
  have bl := B1.out.lt
  go_wp2_with fail
  refine (same_drew _ (H1.out.c.ext X1.out) (H2.out.c.ext X1.out)).mono ?_
  rintro e w2 ⟨rfl, q2, rfl⟩
  have X2 := Lib.hid (X1.out.tr (Ext.drewN_ wc q2))
  have A2 := Lib.hid (A1.out.ext (Ext.drewN_ wc q2))
  have B2 := Lib.hid (B1.out.ext (Ext.drewN_ wc q2))
  generalize wc.drewN q2 = wd at *
  clear a2 b2 al bl
  have a3 := A2.out.c3
  have a4 := A2.out.c4
  have b3 := B2.out.c3
  have b4 := B2.out.c4
  have al := A2.out.lt
  have bl := B2.out.lt
  go_wp2_with fail
  go_ret
  exact ⟨rfl, X2.out⟩
end Go.Proofs.YthbpdhanljpigaaGreatDoor
