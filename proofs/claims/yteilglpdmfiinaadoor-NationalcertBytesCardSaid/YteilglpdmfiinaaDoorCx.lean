/- Layer 24: Check, in both ways. -/
import Derived.Test.YteilglpdmfiinaaDoorCk
namespace Go.Proofs.YteilglpdmfiinaaDoor
open Go.RowKit
set_option linter.unusedVariables false
set_option maxRecDepth 100000

def smT (c : TC) : Prop := c.au.length ≤ 4096 ∧ c.ho.length ≤ 4096
theorem ck_au {c : TC} (h : ¬ nameP c.au) : ckT c = 60 := if_pos (.inl h)
theorem ck_ho {c : TC} (h : ¬ nameP c.ho) : ckT c = 60 := if_pos (.inr h)
theorem ck_el {c : TC} (h1 : nameP c.au) (h2 : nameP c.ho) (h3 : isElem c.key = false) : ckT c = 10 := by
  unfold ckT; rw [if_neg (by simp [h1, h2]), if_pos h3]
theorem ck_ro {c : TC} (h1 : nameP c.au) (h2 : nameP c.ho) (h3 : isElem c.key = true) (h4 : c.role < 1 ∨ 4 < c.role) : ckT c = 61 := by
  unfold ckT; rw [if_neg (by simp [h1, h2]), if_neg (by simp [h3]), if_pos h4]
theorem ck_ri {c : TC} (h1 : nameP c.au) (h2 : nameP c.ho) (h3 : isElem c.key = true) (h4 : ¬ (c.role < 1 ∨ 4 < c.role)) (h5 : c.rights < 0 ∨ 65535 < c.rights) : ckT c = 62 := by
  unfold ckT; rw [if_neg (by simp [h1, h2]), if_neg (by simp [h3]), if_neg h4, if_pos h5]
theorem ck_da {c : TC} (h1 : nameP c.au) (h2 : nameP c.ho) (h3 : isElem c.key = true) (h4 : ¬ (c.role < 1 ∨ 4 < c.role)) (h5 : ¬ (c.rights < 0 ∨ 65535 < c.rights)) (h6 : ¬ daysP c.fr c.to) : ckT c = 8 := by
  unfold ckT; rw [if_neg (by simp [h1, h2]), if_neg (by simp [h3]), if_neg h4, if_neg h5, if_pos h6]
theorem ck_ok {c : TC} (h1 : nameP c.au) (h2 : nameP c.ho) (h3 : isElem c.key = true) (h4 : ¬ (c.role < 1 ∨ 4 < c.role)) (h5 : ¬ (c.rights < 0 ∨ 65535 < c.rights)) (h6 : daysP c.fr c.to) : ckT c = 0 := by
  unfold ckT; rw [if_neg (by simp [h1, h2]), if_neg (by simp [h3]), if_neg h4, if_neg h5, if_neg (by simp [h6])]
set_option maxHeartbeats 1000000 in
theorem checkP_any (c : TC) (w : World) (hs : smT c) : Calls Tryd.prog 10 #[tcV c] w (RetQ w (.int .i64 (ckT c))) := by
  obtain ⟨ha, hh⟩ := hs
  have x0 : Ext w (w.alloc (.cells #[.string (bstr c.au), .string (bstr c.ho), .int .i64 c.key, .int .i64 c.role, .int .i64 c.rights, .int .i64 c.fr, .int .i64 c.to, .int .i64 c.e, .int .i64 c.s] 25)) := (Below.refl _ _).alloc (Nat.le_refl _) _
  unfold tcV
  go_enter Tryd.func10, Tryd.ntmps10
  go_wp2_with fail
  refine (name_tc _ _ ha).mono ?_
  rintro e w' ⟨rfl, rfl⟩
  by_cases nA : nameP c.au
  · rw [decide_eq_true nA]
    go_wp2_with fail
    refine (name_tc _ _ hh).mono ?_
    rintro e w' ⟨rfl, rfl⟩
    by_cases nH : nameP c.ho
    · rw [decide_eq_true nH]
      go_wp2_with fail
      refine (element_any _ _).mono ?_
      rintro e w' ⟨rfl, rfl⟩
      cases hE : isElem c.key with
      | false =>
        have HN := Lib.hid (ck_el nA nH hE)
        go_wp2_with fail
        go_ret
        exact ⟨by rw [HN.out]; rfl, x0⟩
      | true =>
        by_cases r1 : c.role < 1
        · have HN := Lib.hid (ck_ro nA nH hE (.inl r1))
          go_wp2_with fail
          go_ret
          exact ⟨by rw [HN.out]; rfl, x0⟩
        by_cases r2 : 4 < c.role
        · have HN := Lib.hid (ck_ro nA nH hE (.inr r2))
          go_wp2_with fail
          go_ret
          exact ⟨by rw [HN.out]; rfl, x0⟩
        have hr : ¬ (c.role < 1 ∨ 4 < c.role) := by omega
        have HR := Lib.hid hr
        clear hr
        by_cases s1 : c.rights < 0
        · have HN := Lib.hid (ck_ri nA nH hE HR.out (.inl s1))
          go_wp2_with fail
          go_ret
          exact ⟨by rw [HN.out]; rfl, x0⟩
        by_cases s2 : 65535 < c.rights
        · have HN := Lib.hid (ck_ri nA nH hE HR.out (.inr s2))
          go_wp2_with fail
          go_ret
          exact ⟨by rw [HN.out]; rfl, x0⟩
        have hr : ¬ (c.rights < 0 ∨ 65535 < c.rights) := by omega
        have HS := Lib.hid hr
        clear hr
        go_wp2_with fail
        refine (days_any _ _ _).mono ?_
        rintro e w' ⟨rfl, rfl⟩
        by_cases dD : daysP c.fr c.to
        · rw [decide_eq_true dD]
          have HN := Lib.hid (ck_ok nA nH hE HR.out HS.out dD)
          go_wp2_with fail
          go_ret
          exact ⟨by rw [HN.out]; rfl, x0⟩
        · rw [decide_eq_false dD]
          have HN := Lib.hid (ck_da nA nH hE HR.out HS.out dD)
          go_wp2_with fail
          go_ret
          exact ⟨by rw [HN.out]; rfl, x0⟩
    · rw [decide_eq_false nH]
      have HN := Lib.hid (ck_ho nH)
      go_wp2_with fail
      go_ret
      exact ⟨by rw [HN.out]; rfl, x0⟩
  · rw [decide_eq_false nA]
    have HN := Lib.hid (ck_au nA)
    go_wp2_with fail
    go_ret
    exact ⟨by rw [HN.out]; rfl, x0⟩
set_option maxHeartbeats 1000000 in
theorem checkR_any (c : TC) (w : World) (hs : smT c) : Calls Tryd.prog 11 #[tcV c] w (RetQ w (.int .i64 (ckT c))) := by
  obtain ⟨ha, hh⟩ := hs
  have x0 : Ext w (w.alloc (.cells #[.string (bstr c.au), .string (bstr c.ho), .int .i64 c.key, .int .i64 c.role, .int .i64 c.rights, .int .i64 c.fr, .int .i64 c.to, .int .i64 c.e, .int .i64 c.s] 25)) := (Below.refl _ _).alloc (Nat.le_refl _) _
  unfold tcV
  go_enter Tryd.func11, Tryd.ntmps11
  go_wp2_with fail
  refine (refname_tc _ _ ha).mono ?_
  rintro e w' ⟨rfl, rfl⟩
  by_cases nA : nameP c.au
  · rw [decide_eq_true nA]
    go_wp2_with fail
    refine (refname_tc _ _ hh).mono ?_
    rintro e w' ⟨rfl, rfl⟩
    by_cases nH : nameP c.ho
    · rw [decide_eq_true nH]
      go_wp2_with fail
      refine (refelement_any _ _).mono ?_
      rintro e w' ⟨rfl, rfl⟩
      cases hE : isElem c.key with
      | false =>
        have HN := Lib.hid (ck_el nA nH hE)
        go_wp2_with fail
        go_ret
        exact ⟨by rw [HN.out]; rfl, x0⟩
      | true =>
        by_cases r1 : c.role < 1
        · have HN := Lib.hid (ck_ro nA nH hE (.inl r1))
          go_wp2_with fail
          go_ret
          exact ⟨by rw [HN.out]; rfl, x0⟩
        by_cases r2 : 4 < c.role
        · have HN := Lib.hid (ck_ro nA nH hE (.inr r2))
          go_wp2_with fail
          go_ret
          exact ⟨by rw [HN.out]; rfl, x0⟩
        have hr : ¬ (c.role < 1 ∨ 4 < c.role) := by omega
        have HR := Lib.hid hr
        clear hr
        by_cases s1 : c.rights < 0
        · have HN := Lib.hid (ck_ri nA nH hE HR.out (.inl s1))
          go_wp2_with fail
          go_ret
          exact ⟨by rw [HN.out]; rfl, x0⟩
        by_cases s2 : 65535 < c.rights
        · have HN := Lib.hid (ck_ri nA nH hE HR.out (.inr s2))
          go_wp2_with fail
          go_ret
          exact ⟨by rw [HN.out]; rfl, x0⟩
        have hr : ¬ (c.rights < 0 ∨ 65535 < c.rights) := by omega
        have HS := Lib.hid hr
        clear hr
        go_wp2_with fail
        refine (refday_any _ _).mono ?_
        rintro e w' ⟨rfl, rfl⟩
        by_cases d1 : dayP c.fr
        · rw [decide_eq_true d1]
          go_wp2_with fail
          refine (refday_any _ _).mono ?_
          rintro e w' ⟨rfl, rfl⟩
          by_cases d2 : dayP c.to
          · rw [decide_eq_true d2]
            by_cases d3 : c.to < c.fr
            · have HN := Lib.hid (ck_da nA nH hE HR.out HS.out (fun q => by have := q.2.1; omega))
              go_wp2_with fail
              go_ret
              exact ⟨by rw [HN.out]; rfl, x0⟩
            · have HN := Lib.hid (ck_ok nA nH hE HR.out HS.out ⟨d1.1, by omega, d2.2⟩)
              go_wp2_with fail
              go_ret
              exact ⟨by rw [HN.out]; rfl, x0⟩
          · rw [decide_eq_false d2]
            have HN := Lib.hid (ck_da nA nH hE HR.out HS.out (fun q => d2 ⟨by have := q.1; have := q.2.1; omega, q.2.2⟩))
            go_wp2_with fail
            go_ret
            exact ⟨by rw [HN.out]; rfl, x0⟩
        · rw [decide_eq_false d1]
          have HN := Lib.hid (ck_da nA nH hE HR.out HS.out (fun q => d1 ⟨q.1, by have := q.2.1; have := q.2.2; omega⟩))
          go_wp2_with fail
          go_ret
          exact ⟨by rw [HN.out]; rfl, x0⟩
    · rw [decide_eq_false nH]
      have HN := Lib.hid (ck_ho nH)
      go_wp2_with fail
      go_ret
      exact ⟨by rw [HN.out]; rfl, x0⟩
  · rw [decide_eq_false nA]
    have HN := Lib.hid (ck_au nA)
    go_wp2_with fail
    go_ret
    exact ⟨by rw [HN.out]; rfl, x0⟩
end Go.Proofs.YteilglpdmfiinaaDoor
