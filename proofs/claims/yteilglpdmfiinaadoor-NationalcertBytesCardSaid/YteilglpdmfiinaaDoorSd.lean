/- Layer 9: Decode. -/
import Derived.Test.YteilglpdmfiinaaDoorSe
namespace Go.Proofs.YteilglpdmfiinaaDoor
open Go.RowKit
set_option linter.unusedVariables false
set_option maxRecDepth 100000

/-- What Decode returns. -/
def dcOk (l : List UInt8) : Prop := inB 0 1073741789 (num (l.take 4)) = true ∧ inB 0 1073741789 (num (l.drop 4)) = true
instance (l : List UInt8) : Decidable (dcOk l) := inferInstanceAs (Decidable (_ ∧ _))
def dcE (l : List UInt8) : Int := if l.length = 8 ∧ dcOk l then num (l.take 4) else 0
def dcS (l : List UInt8) : Int := if l.length = 8 ∧ dcOk l then num (l.drop 4) else 0
def dcK (l : List UInt8) : Int := if l.length = 8 then (if dcOk l then 0 else 3) else 2
theorem decode_len {a : Value} {l : List UInt8} (w : World) (ha : Rd w a (bvs l)) (h8 : l.length ≠ 8) :
    Calls Tryd.prog 71 #[a] w (RetQ w (sgV 0 0 2)) := by
  obtain ⟨A, n1, c, rfl, hn1, hnc, hcm, hA⟩ := ha.bytes
  subst hn1
  unfold maxLen at hcm
  have h8' : ((l.length : Int) != 8) = true := by simp; omega
  clear hA ha h8
  go_enter Tryd.func71, Tryd.ntmps71
  go_wp2_with fail
  refine bodyPost_ret (v := sgV 0 0 2) ?_ rfl ⟨rfl, (Below.refl _ _).alloc (Nat.le_refl _) _⟩
  simp [results, Tryd.results71, go_sem, sgV]
set_option maxHeartbeats 1000000 in
theorem decode_8 {a : Value} {l : List UInt8} (w : World) (ha : Rd w a (bvs l)) (h8 : l.length = 8) :
    Calls Tryd.prog 71 #[a] w (RetQ w (if dcOk l then sgV (num (l.take 4)) (num (l.drop 4)) 0 else sgV 0 0 3)) := by
  have ha0 := ha
  obtain ⟨A, n1, c, rfl, hn1, hnc, hcm, hA⟩ := ha.bytes
  rw [h8] at hn1
  subst hn1
  obtain ⟨bb, oo, rfl, _, _⟩ := hA (by omega)
  unfold maxLen at hcm
  clear hA ha
  have x0 : Ext w (w.alloc (.cells #[.int .i64 0, .int .i64 0] 23)) := (Below.refl _ _).alloc (Nat.le_refl _) _
  have r1 := (ha0.ext x0).take 4 (by omega)
  have r2 := (ha0.ext x0).dropB 4 (by omega)
  have l1 : (l.take 4).length ≤ 7 := by rw [List.length_take]; omega
  have l2 : (l.drop 4).length ≤ 7 := by rw [List.length_drop]; omega
  have H8 := Lib.hid h8
  have h4c : 4 ≤ c := by omega
  have h4n : c ≠ 4 := by omega
  clear h8
  have key : ∀ (p q : Bool), inB 0 1073741789 (num (l.take 4)) = p → inB 0 1073741789 (num (l.drop 4)) = q →
      Calls Tryd.prog 71 #[.slice (some ⟨bb, oo, none⟩) 8 c] w (RetQ w (if p = true ∧ q = true then sgV (num (l.take 4)) (num (l.drop 4)) 0 else sgV 0 0 3)) := by
    intro p q hp hq
    have HP := Lib.hid hp
    have HQ := Lib.hid hq
    clear hp hq
    cases p with
    | true =>
      cases q with
      | true =>
        go_enter Tryd.func71, Tryd.ntmps71
        go_wp2_with fail
        refine (number_any _ r1 l1).mono ?_
        rintro e w' ⟨rfl, rfl⟩
        go_wp2_with fail
        refine (number_any _ r2 l2).mono ?_
        rintro e w' ⟨rfl, rfl⟩
        go_wp2_with fail
        refine (exponent_any _ _).mono ?_
        rw [HP.out]
        rintro e w' ⟨rfl, rfl⟩
        go_wp2_with fail
        refine (exponent_any _ _).mono ?_
        rw [HQ.out]
        rintro e w' ⟨rfl, rfl⟩
        go_wp2_with fail
        refine bodyPost_ret (v := sgV (num (l.take 4)) (num (l.drop 4)) 0) ?_ rfl ⟨rfl, (Below.refl _ _).alloc (Nat.le_refl _) _⟩
        simp [results, Tryd.results71, go_sem, sgV]
      | false =>
        go_enter Tryd.func71, Tryd.ntmps71
        go_wp2_with fail
        refine (number_any _ r1 l1).mono ?_
        rintro e w' ⟨rfl, rfl⟩
        go_wp2_with fail
        refine (number_any _ r2 l2).mono ?_
        rintro e w' ⟨rfl, rfl⟩
        go_wp2_with fail
        refine (exponent_any _ _).mono ?_
        rw [HP.out]
        rintro e w' ⟨rfl, rfl⟩
        go_wp2_with fail
        refine (exponent_any _ _).mono ?_
        rw [HQ.out]
        rintro e w' ⟨rfl, rfl⟩
        go_wp2_with fail
        refine bodyPost_ret (v := sgV 0 0 3) ?_ rfl ⟨rfl, (Below.refl _ _).alloc (Nat.le_refl _) _⟩
        simp [results, Tryd.results71, go_sem, sgV]
    | false =>
      simp only [Bool.false_eq_true, false_and, if_false]
      go_enter Tryd.func71, Tryd.ntmps71
      go_wp2_with fail
      refine (number_any _ r1 l1).mono ?_
      rintro e w' ⟨rfl, rfl⟩
      go_wp2_with fail
      refine (number_any _ r2 l2).mono ?_
      rintro e w' ⟨rfl, rfl⟩
      go_wp2_with fail
      refine (exponent_any _ _).mono ?_
      rw [HP.out]
      rintro e w' ⟨rfl, rfl⟩
      go_wp2_with fail
      refine bodyPost_ret (v := sgV 0 0 3) ?_ rfl ⟨rfl, (Below.refl _ _).alloc (Nat.le_refl _) _⟩
      simp [results, Tryd.results71, go_sem, sgV]
  exact key _ _ rfl rfl
theorem decode_any {a : Value} {l : List UInt8} (w : World) (ha : Rd w a (bvs l)) :
    Calls Tryd.prog 71 #[a] w (RetQ w (sgV (dcE l) (dcS l) (dcK l))) := by
  unfold dcE dcS dcK
  by_cases h8 : l.length = 8
  · have h := decode_8 w ha h8
    by_cases ho : dcOk l
    · rw [if_pos ⟨h8, ho⟩, if_pos ⟨h8, ho⟩, if_pos h8, if_pos ho]
      rwa [if_pos ho] at h
    · rw [if_neg (fun h => ho h.2), if_neg (fun h => ho h.2), if_pos h8, if_neg ho]
      rwa [if_neg ho] at h
  · rw [if_neg (fun h => h8 h.1), if_neg (fun h => h8 h.1), if_neg h8]
    exact decode_len w ha h8
theorem num_be4 {x : Int} (h0 : 0 ≤ x) (h1 : x < 4294967296) : num (be4 x) = x := by
  simp only [num, be4, List.foldl_cons, List.foldl_nil, u8_val]
  omega
theorem dc_enc {e s : Int} (he : inB 0 1073741789 e = true) (hs : inB 0 1073741789 s = true) : dcE (be4 e ++ be4 s) = e ∧ dcS (be4 e ++ be4 s) = s ∧ dcK (be4 e ++ be4 s) = 0 := by
  obtain ⟨e0, e1⟩ := inB_true he
  obtain ⟨s0, s1⟩ := inB_true hs
  have t1 : (be4 e ++ be4 s).take 4 = be4 e := rfl
  have t2 : (be4 e ++ be4 s).drop 4 = be4 s := rfl
  have l8 : (be4 e ++ be4 s).length = 8 := rfl
  have ho : dcOk (be4 e ++ be4 s) := by
    unfold dcOk
    rw [t1, t2, num_be4 e0 (by omega), num_be4 s0 (by omega)]
    exact ⟨he, hs⟩
  unfold dcE dcS dcK
  rw [if_pos ⟨l8, ho⟩, if_pos ⟨l8, ho⟩, if_pos l8, if_pos ho, t1, t2, num_be4 e0 (by omega), num_be4 s0 (by omega)]
  exact ⟨rfl, rfl, rfl⟩
end Go.Proofs.YteilglpdmfiinaaDoor
