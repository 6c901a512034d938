/- Parts Va Vb of the proof. -/
import Derived.Test.YtkjplpmogfmhkaaGreatDoorPkj
import Derived.Test.YtkjplpmogfmhkaaGreatDoorPkd
namespace Go.Proofs.YtkjplpmogfmhkaaGreatDoor
open Go.RowKit
set_option linter.unusedVariables false
set_option maxRecDepth 100000

structure TP where
  ho : List UInt8
  key : Int
  rights : Int
  fr : Int
  to : Int
structure CH where
  ho : List UInt8
  key : Int
  role : Int
  rights : Int
  fr : Int
  to : Int
structure TR where
  ps : List TP
  dt : Int
def zeroC : CH := ⟨[], 0, 0, 0, 0, 0⟩
def andR (x y : Int) : Int := bits .and .i64 x y
/-- What point reports. -/
def ptK (p : TP) : Int :=
  if ¬ nameP p.ho then 60 else if isElem p.key = false then 10 else if p.rights < 0 ∨ 65535 < p.rights then 62 else if ¬ daysP p.fr p.to then 8 else 0
def ptsK : List TP → Int
  | [] => 0
  | p :: l => if ptK p = 0 then ptsK l else ptK p
def hasP (l : List TP) (h : List UInt8) : Bool := l.any fun p => decide (p.ho = h)
def dupP : List TP → Bool
  | [p, q] => decide (p.ho = q.ho)
  | _ => false
/-- What Valid reports. -/
def vdK (t : TR) : Int :=
  if t.ps.length < 1 ∨ 2 < t.ps.length then 72 else if ptsK t.ps ≠ 0 then ptsK t.ps else if dupP t.ps = true then 15 else if t.dt < 0 ∨ 73048 < t.dt then 8 else 0
def lnDt (t : TR) (b : CH) (c : TC) : Int := if c.role ≠ 4 ∨ b.role = 2 then max t.dt c.fr else t.dt
def lnPt (b : CH) (c : TC) : TP := ⟨c.ho, c.key, andR c.rights b.rights, c.fr, c.to⟩
def lnKept (t : TR) (b : CH) (c : TC) : List TP := (t.ps.filter fun p => decide (lnDt t b c ≤ p.to)) ++ [lnPt b c]
/-- What Learn returns. -/
def learnT (t : TR) (b : CH) (c : TC) : TR :=
  if vdK t ≠ 0 ∨ ckT c ≠ 0 then t else if c.role ≠ 1 ∨ hasP t.ps c.ho = true then ⟨t.ps, lnDt t b c⟩ else
  ⟨if 2 < (lnKept t b c).length then (lnKept t b c).drop 1 else lnKept t b c, lnDt t b c⟩
/-- What Start returns. -/
def startO (t : TR) (h : List UInt8) : Option CH :=
  if vdK t ≠ 0 then none else (t.ps.find? fun p => decide (p.ho = h)).map fun p => ⟨p.ho, p.key, 1, p.rights, p.fr, p.to⟩
def startC (t : TR) (h : List UInt8) : CH := (startO t h).getD zeroC
def startB (t : TR) (h : List UInt8) : Bool := (startO t h).isSome
def followB (b r : Int) : Bool := if b = 1 then decide (r ≠ 4) else if b = 2 ∨ b = 3 then decide (r = 4) else false
/-- What examine reports. -/
def exK (t : TR) (c : CH) (x : TC) : Int :=
  if vdK t ≠ 0 then vdK t else if c.ho = [] then 23 else if ckT x ≠ 0 then ckT x else if x.au ≠ c.ho then 65 else if vfB c.key x = false then 11 else
  if followB c.role x.role = false then 61 else if c.to < t.dt ∨ x.to < t.dt then 63 else if c.role ≠ 1 ∧ (x.fr < c.fr ∨ c.to < x.fr) then 64 else 0
def nextC (c : CH) (x : TC) : CH := ⟨x.ho, x.key, x.role, andR c.rights x.rights, x.fr, x.to⟩
/-- What Import returns. -/
def impT (t : TR) (c : CH) (x : TC) : TR := if exK t c x ≠ 0 then t else learnT t c x
def impC (t : TR) (c : CH) (x : TC) : CH := if exK t c x ≠ 0 then c else nextC c x
/-- What the certificates of a path come to. -/
def runP : TR → CH → List TC → TR × CH × Int
  | t, c, [] => (t, c, 0)
  | t, c, x :: l => if exK t c x ≠ 0 then (t, zeroC, exK t c x) else runP (learnT t c x) (nextC c x) l
/-- What Path returns. -/
def pathO (t : TR) (l : List TC) : TR × CH × Int :=
  match l with
  | [] => (t, zeroC, 16)
  | x :: _ => if 4 < l.length then (t, zeroC, 72) else match startO t x.au with
    | none => (t, zeroC, 70)
    | some c => runP t c l
theorem ptK_ho {p : TP} (h : ¬ nameP p.ho) : ptK p = 60 := if_pos h
theorem ptK_el {p : TP} (h1 : nameP p.ho) (h2 : isElem p.key = false) : ptK p = 10 := by unfold ptK; rw [if_neg (not_not_intro h1), if_pos h2]
theorem ptK_ri {p : TP} (h1 : nameP p.ho) (h2 : isElem p.key = true) (h3 : p.rights < 0 ∨ 65535 < p.rights) : ptK p = 62 := by unfold ptK; rw [if_neg (not_not_intro h1), if_neg (by rw [h2]; simp), if_pos h3]
theorem ptK_da {p : TP} (h1 : nameP p.ho) (h2 : isElem p.key = true) (h3 : ¬ (p.rights < 0 ∨ 65535 < p.rights)) (h4 : ¬ daysP p.fr p.to) : ptK p = 8 := by unfold ptK; rw [if_neg (not_not_intro h1), if_neg (by rw [h2]; simp), if_neg h3, if_pos h4]
theorem ptK_ok {p : TP} (h1 : nameP p.ho) (h2 : isElem p.key = true) (h3 : ¬ (p.rights < 0 ∨ 65535 < p.rights)) (h4 : daysP p.fr p.to) : ptK p = 0 := by unfold ptK; rw [if_neg (not_not_intro h1), if_neg (by rw [h2]; simp), if_neg h3, if_neg (not_not_intro h4)]
theorem ptsK_to : ∀ (l : List TP) (k : Nat), (∀ j (h : j < l.length), j < k → ptK l[j] = 0) → ∀ h : k < l.length, ptK l[k] ≠ 0 → ptsK l = ptK l[k]
  | p :: l, 0, _, _, hk => if_neg hk
  | p :: l, k + 1, ha, h, hk => by
    have h0 : ptK p = 0 := ha 0 (Nat.zero_lt_succ _) (Nat.zero_lt_succ _)
    show (if ptK p = 0 then ptsK l else ptK p) = _
    rw [if_pos h0]
    exact ptsK_to l k (fun j hj hjk => ha (j + 1) (Nat.succ_lt_succ hj) (Nat.succ_lt_succ hjk)) (Nat.lt_of_succ_lt_succ h) hk
theorem ptsK_ok : ∀ l : List TP, (∀ j (h : j < l.length), ptK l[j] = 0) → ptsK l = 0
  | [], _ => rfl
  | p :: l, ha => by
    show (if ptK p = 0 then ptsK l else ptK p) = _
    rw [if_pos (show ptK p = 0 from ha 0 (Nat.zero_lt_succ _))]
    exact ptsK_ok l fun j hj => ha (j + 1) (Nat.succ_lt_succ hj)
theorem vdK_n {t : TR} (h : t.ps.length < 1 ∨ 2 < t.ps.length) : vdK t = 72 := if_pos h
theorem vdK_p {t : TR} (h : ¬ (t.ps.length < 1 ∨ 2 < t.ps.length)) (h2 : ptsK t.ps ≠ 0) : vdK t = ptsK t.ps := by unfold vdK; rw [if_neg h, if_pos h2]
theorem vdK_d {t : TR} (h : ¬ (t.ps.length < 1 ∨ 2 < t.ps.length)) (h2 : ptsK t.ps = 0) (h3 : dupP t.ps = true) : vdK t = 15 := by unfold vdK; rw [if_neg h, if_neg (not_not_intro h2), if_pos h3]
theorem vdK_t {t : TR} (h : ¬ (t.ps.length < 1 ∨ 2 < t.ps.length)) (h2 : ptsK t.ps = 0) (h3 : dupP t.ps = false) (h4 : t.dt < 0 ∨ 73048 < t.dt) : vdK t = 8 := by unfold vdK; rw [if_neg h, if_neg (not_not_intro h2), if_neg (by rw [h3]; simp), if_pos h4]
theorem vdK_ok {t : TR} (h : ¬ (t.ps.length < 1 ∨ 2 < t.ps.length)) (h2 : ptsK t.ps = 0) (h3 : dupP t.ps = false) (h4 : ¬ (t.dt < 0 ∨ 73048 < t.dt)) : vdK t = 0 := by unfold vdK; rw [if_neg h, if_neg (not_not_intro h2), if_neg (by rw [h3]; simp), if_neg h4]
theorem vdK_zero {t : TR} (h : vdK t = 0) : 1 ≤ t.ps.length ∧ t.ps.length ≤ 2 ∧ ptsK t.ps = 0 ∧ dupP t.ps = false ∧ 0 ≤ t.dt ∧ t.dt ≤ 73048 := by
  by_cases h1 : t.ps.length < 1 ∨ 2 < t.ps.length
  · rw [vdK_n h1] at h; cases h
  by_cases h2 : ptsK t.ps = 0
  · by_cases h3 : dupP t.ps = true
    · rw [vdK_d h1 h2 h3] at h; cases h
    · by_cases h4 : t.dt < 0 ∨ 73048 < t.dt
      · rw [vdK_t h1 h2 (by simpa using h3) h4] at h; cases h
      · exact ⟨by omega, by omega, h2, by simpa using h3, by omega, by omega⟩
  · rw [vdK_p h1 h2] at h; exact absurd h h2
theorem ptsK_all : ∀ {l : List TP}, ptsK l = 0 → ∀ p ∈ l, ptK p = 0
  | [], _, p, h => by cases h
  | q :: l, h, p, hp => by
    have h' : (if ptK q = 0 then ptsK l else ptK q) = 0 := h
    by_cases h0 : ptK q = 0
    · rw [if_pos h0] at h'
      rcases List.mem_cons.1 hp with rfl | hp
      · exact h0
      · exact ptsK_all h' p hp
    · rw [if_neg h0] at h'; exact absurd h' h0
theorem ptK_zero {p : TP} (h : ptK p = 0) : nameP p.ho ∧ isElem p.key = true ∧ 0 ≤ p.rights ∧ p.rights ≤ 65535 ∧ daysP p.fr p.to := by
  by_cases h1 : nameP p.ho
  · cases h2 : isElem p.key with
    | false => rw [ptK_el h1 h2] at h; cases h
    | true =>
      by_cases h3 : p.rights < 0 ∨ 65535 < p.rights
      · rw [ptK_ri h1 h2 h3] at h; cases h
      · by_cases h4 : daysP p.fr p.to
        · exact ⟨h1, rfl, by omega, by omega, h4⟩
        · rw [ptK_da h1 h2 h3 h4] at h; cases h
  · rw [ptK_ho h1] at h; cases h
theorem hasP_true {l : List TP} {h : List UInt8} (k : Nat) (hk : k < l.length) (e : l[k].ho = h) : hasP l h = true := by
  unfold hasP
  rw [List.any_eq_true]
  exact ⟨l[k], List.getElem_mem hk, decide_eq_true e⟩
theorem hasP_false {l : List TP} {h : List UInt8} (ha : ∀ j (hj : j < l.length), l[j].ho ≠ h) : hasP l h = false := by
  unfold hasP
  rw [List.any_eq_false]
  intro p hp
  obtain ⟨j, hj, rfl⟩ := List.getElem_of_mem hp
  simpa using ha j hj
theorem find_at : ∀ (l : List TP) (h : List UInt8) (k : Nat) (hk : k < l.length), (∀ j (hj : j < l.length), j < k → l[j].ho ≠ h) → l[k].ho = h → (l.find? fun p => decide (p.ho = h)) = some l[k]
  | p :: l, h, 0, _, _, e => List.find?_cons_of_pos (p := fun p : TP => decide (p.ho = h)) (decide_eq_true e)
  | p :: l, h, k + 1, hk, ha, e => by
    rw [List.find?_cons_of_neg (p := fun p : TP => decide (p.ho = h)) (by simpa using ha 0 (Nat.zero_lt_succ _) (Nat.zero_lt_succ _))]
    exact find_at l h k (Nat.lt_of_succ_lt_succ hk) (fun j hj hjk => ha (j + 1) (Nat.succ_lt_succ hj) (Nat.succ_lt_succ hjk)) e
theorem find_no {l : List TP} {h : List UInt8} (ha : ∀ j (hj : j < l.length), l[j].ho ≠ h) : (l.find? fun p => decide (p.ho = h)) = none := by
  rw [List.find?_eq_none]
  intro p hp
  obtain ⟨j, hj, rfl⟩ := List.getElem_of_mem hp
  simpa using ha j hj
def chOf (p : TP) : CH := ⟨p.ho, p.key, 1, p.rights, p.fr, p.to⟩
theorem startO_bad {t : TR} {h : List UInt8} (hv : vdK t ≠ 0) : startO t h = none := if_pos hv
theorem startO_at {t : TR} {h : List UInt8} (hv : vdK t = 0) (k : Nat) (hk : k < t.ps.length) (ha : ∀ j (hj : j < t.ps.length), j < k → t.ps[j].ho ≠ h) (e : t.ps[k].ho = h) : startO t h = some (chOf t.ps[k]) := by
  unfold startO
  rw [if_neg (not_not_intro hv), find_at _ _ k hk ha e]
  rfl
theorem startO_no {t : TR} {h : List UInt8} (hv : vdK t = 0) (ha : ∀ j (hj : j < t.ps.length), t.ps[j].ho ≠ h) : startO t h = none := by
  unfold startO
  rw [if_neg (not_not_intro hv), find_no ha]
  rfl
theorem startB_eq {t : TR} {h : List UInt8} {c : CH} (e : startO t h = some c) : startC t h = c ∧ startB t h = true := by unfold startC startB; rw [e]; exact ⟨rfl, rfl⟩
theorem startB_no {t : TR} {h : List UInt8} (e : startO t h = none) : startC t h = zeroC ∧ startB t h = false := by unfold startC startB; rw [e]; exact ⟨rfl, rfl⟩
/-! ### The ways of examine -/
theorem exK_vd {t : TR} {c : CH} {x : TC} (h : vdK t ≠ 0) : exK t c x = vdK t := if_pos h
section
variable {t : TR} {c : CH} {x : TC} (h1 : vdK t = 0)
include h1
theorem exK_st (h2 : c.ho = []) : exK t c x = 23 := by unfold exK; rw [if_neg (not_not_intro h1), if_pos h2]
variable (h2 : c.ho ≠ [])
include h2
theorem exK_ck (h3 : ckT x ≠ 0) : exK t c x = ckT x := by unfold exK; rw [if_neg (not_not_intro h1), if_neg h2, if_pos h3]
variable (h3 : ckT x = 0)
include h3
theorem exK_au (h4 : x.au ≠ c.ho) : exK t c x = 65 := by unfold exK; rw [if_neg (not_not_intro h1), if_neg h2, if_neg (not_not_intro h3), if_pos h4]
variable (h4 : x.au = c.ho)
include h4
theorem exK_vf (h5 : vfB c.key x = false) : exK t c x = 11 := by unfold exK; rw [if_neg (not_not_intro h1), if_neg h2, if_neg (not_not_intro h3), if_neg (not_not_intro h4), if_pos h5]
variable (h5 : vfB c.key x = true)
include h5
theorem exK_fo (h6 : followB c.role x.role = false) : exK t c x = 61 := by unfold exK; rw [if_neg (not_not_intro h1), if_neg h2, if_neg (not_not_intro h3), if_neg (not_not_intro h4), if_neg (by rw [h5]; simp), if_pos h6]
variable (h6 : followB c.role x.role = true)
include h6
theorem exK_xp (h7 : c.to < t.dt ∨ x.to < t.dt) : exK t c x = 63 := by unfold exK; rw [if_neg (not_not_intro h1), if_neg h2, if_neg (not_not_intro h3), if_neg (not_not_intro h4), if_neg (by rw [h5]; simp), if_neg (by rw [h6]; simp), if_pos h7]
variable (h7 : ¬ (c.to < t.dt ∨ x.to < t.dt))
include h7
theorem exK_ea (h8 : c.role ≠ 1 ∧ (x.fr < c.fr ∨ c.to < x.fr)) : exK t c x = 64 := by unfold exK; rw [if_neg (not_not_intro h1), if_neg h2, if_neg (not_not_intro h3), if_neg (not_not_intro h4), if_neg (by rw [h5]; simp), if_neg (by rw [h6]; simp), if_neg h7, if_pos h8]
theorem exK_ok (h8 : ¬ (c.role ≠ 1 ∧ (x.fr < c.fr ∨ c.to < x.fr))) : exK t c x = 0 := by unfold exK; rw [if_neg (not_not_intro h1), if_neg h2, if_neg (not_not_intro h3), if_neg (not_not_intro h4), if_neg (by rw [h5]; simp), if_neg (by rw [h6]; simp), if_neg h7, if_neg h8]
end
theorem exK_zero {t : TR} {c : CH} {x : TC} (h : exK t c x = 0) : vdK t = 0 ∧ c.ho ≠ [] ∧ ckT x = 0 ∧ x.au = c.ho ∧ vfB c.key x = true ∧ followB c.role x.role = true ∧ t.dt ≤ c.to ∧ t.dt ≤ x.to := by
  by_cases h1 : vdK t = 0
  case neg =>
    rw [exK_vd h1] at h
    exact absurd h h1
  by_cases h2 : c.ho = []
  · rw [exK_st h1 h2] at h; cases h
  by_cases h3 : ckT x = 0
  case neg =>
    rw [exK_ck h1 h2 h3] at h
    exact absurd h h3
  by_cases h4 : x.au = c.ho
  case neg =>
    rw [exK_au h1 h2 h3 h4] at h; cases h
  cases h5 : vfB c.key x with
  | false => rw [exK_vf h1 h2 h3 h4 h5] at h; cases h
  | true =>
    cases h6 : followB c.role x.role with
    | false => rw [exK_fo h1 h2 h3 h4 h5 h6] at h; cases h
    | true =>
      by_cases h7 : c.to < t.dt ∨ x.to < t.dt
      · rw [exK_xp h1 h2 h3 h4 h5 h6 h7] at h; cases h
      · exact ⟨h1, h2, h3, h4, rfl, rfl, by omega, by omega⟩
/-! ### Consequences -/
theorem learn_dt (t : TR) (b : CH) (c : TC) : t.dt ≤ (learnT t b c).dt := by
  have h : t.dt ≤ lnDt t b c := by unfold lnDt; split <;> omega
  unfold learnT
  split
  · exact Int.le_refl _
  · split
    · exact h
    · exact h
theorem run_dt : ∀ (l : List TC) (t : TR) (c : CH), t.dt ≤ (runP t c l).1.dt
  | [], t, c => Int.le_refl _
  | x :: l, t, c => by
    unfold runP
    split
    · exact Int.le_refl _
    · exact Int.le_trans (learn_dt t c x) (run_dt l _ _)
theorem path_dt (t : TR) (l : List TC) : t.dt ≤ (pathO t l).1.dt := by
  unfold pathO
  split
  · exact Int.le_refl _
  · split
    · exact Int.le_refl _
    · split
      · exact Int.le_refl _
      · exact run_dt _ _ _
theorem run_bad : ∀ (l : List TC) (t : TR) (c : CH), (runP t c l).2.2 ≠ 0 → (runP t c l).2.1 = zeroC
  | [], t, c, h => absurd rfl h
  | x :: l, t, c, h => by
    unfold runP at *
    split
    · rfl
    · rename_i q
      rw [if_neg q] at h
      exact run_bad l _ _ h
theorem path_bad (t : TR) (l : List TC) (h : (pathO t l).2.2 ≠ 0) : (pathO t l).2.1 = zeroC := by
  unfold pathO at *
  split
  · rfl
  · split
    · rfl
    · rename_i q
      simp only [q, if_false] at h
      split
      · rfl
      · rename_i e
        rw [e] at h
        exact run_bad _ _ _ h
/-- Bits that are all among others'. -/
def subR (x y : Int) : Prop := ∃ m n : Nat, x = (m : Int) ∧ y = (n : Int) ∧ m < 65536 ∧ n < 65536 ∧ m &&& n = m
theorem andR_nat (m n : Nat) (hm : m < 65536) (hn : n < 65536) : andR m n = ((m &&& n : Nat) : Int) := i64_and_nat m n (by omega) (by omega)
theorem and_lt_left (m n : Nat) (hm : m < 65536) : m &&& n < 65536 := Nat.lt_of_le_of_lt Nat.and_le_left hm
theorem subR_andL {x y : Int} (hx : 0 ≤ x ∧ x ≤ 65535) (hy : 0 ≤ y ∧ y ≤ 65535) : subR (andR x y) x ∧ subR (andR x y) y ∧ 0 ≤ andR x y ∧ andR x y ≤ 65535 := by
  obtain ⟨m, rfl⟩ := Int.eq_ofNat_of_zero_le hx.1
  obtain ⟨n, rfl⟩ := Int.eq_ofNat_of_zero_le hy.1
  rw [andR_nat m n (by omega) (by omega)]
  have hl := and_lt_left m n (by omega)
  refine ⟨⟨_, m, rfl, rfl, hl, by omega, ?_⟩, ⟨_, n, rfl, rfl, hl, by omega, ?_⟩, by omega, by omega⟩
  · rw [Nat.and_comm, ← Nat.and_assoc, Nat.and_self]
  · rw [Nat.and_assoc, Nat.and_self]
theorem subR_refl {x : Int} (h : 0 ≤ x ∧ x ≤ 65535) : subR x x := by
  obtain ⟨m, rfl⟩ := Int.eq_ofNat_of_zero_le h.1
  exact ⟨m, m, rfl, rfl, by omega, by omega, Nat.and_self m⟩
theorem subR_trans {x y z : Int} (h : subR x y) (k : subR y z) : subR x z := by
  obtain ⟨m, n, rfl, rfl, hm, hn, e⟩ := h
  obtain ⟨n', o, e1, rfl, hn', ho, e2⟩ := k
  obtain rfl : n = n' := by omega
  exact ⟨m, o, rfl, rfl, hm, ho, by rw [← e, Nat.and_assoc, e2]⟩
end Go.Proofs.YtkjplpmogfmhkaaGreatDoor

namespace Go.Proofs.YtkjplpmogfmhkaaGreatDoor
open Go.RowKit
set_option linter.unusedVariables false
set_option maxRecDepth 100000

theorem andNot_sub {x y : Int} (h : subR x y) : bits .andNot .i64 x y = 0 := by
  obtain ⟨m, n, rfl, rfl, hm, hn, e⟩ := h
  have q : ∀ c : Nat, c < 65536 → (BitVec.ofInt 64 (c : Int)).toNat = c := fun c hc => by
    rw [BitVec.ofInt_natCast, BitVec.toNat_ofNat]; exact Nat.mod_eq_of_lt (by omega)
  have h1 : BitVec.ofInt 64 (m : Int) &&& BitVec.ofInt 64 (n : Int) = BitVec.ofInt 64 (m : Int) := by
    apply BitVec.eq_of_toNat_eq
    rw [BitVec.toNat_and, q m hm, q n hn, e]
  have h2 : BitVec.ofInt 64 (m : Int) &&& ~~~ BitVec.ofInt 64 (n : Int) = 0#64 := by
    rw [← h1, BitVec.and_assoc]
    have h3 : BitVec.ofInt 64 (n : Int) &&& ~~~ BitVec.ofInt 64 (n : Int) = 0#64 := by ext i; simp
    rw [h3]
    exact BitVec.and_zero
  show IntKind.i64.wrap ((BitVec.ofInt 64 (m : Int) &&& ~~~ BitVec.ofInt 64 (n : Int)).toNat : Int) = 0
  rw [h2]
  rfl
def inR (x : Int) : Prop := 0 ≤ x ∧ x ≤ 65535
theorem runP_bad {t : TR} {c : CH} {x : TC} {l : List TC} (h : exK t c x ≠ 0) : runP t c (x :: l) = (t, zeroC, exK t c x) := by rw [runP, if_pos h]
theorem runP_ok {t : TR} {c : CH} {x : TC} {l : List TC} (h : exK t c x = 0) : runP t c (x :: l) = runP (learnT t c x) (nextC c x) l := by rw [runP, if_neg (not_not_intro h)]
/-- What holds of each certificate of a path that is accepted. -/
theorem run_good : ∀ (l : List TC) (t : TR) (c : CH), (runP t c l).2.2 = 0 → inR c.rights → subR (runP t c l).2.1.rights c.rights ∧ inR (runP t c l).2.1.rights ∧
    ∀ (i : Nat) (hi : i < l.length), (runP t c (l.take i)).2.2 = 0 ∧ (runP t c (l.take i)).1.dt ≤ l[i].to ∧ subR (runP t c l).2.1.rights l[i].rights
  | [], t, c, _, hr => ⟨subR_refl hr, hr, fun i hi => absurd hi (Nat.not_lt_zero _)⟩
  | x :: l, t, c, h, hr => by
    by_cases hx : exK t c x = 0
    · rw [runP_ok hx] at h ⊢
      obtain ⟨v0, v1, v2, v3, v4, v5, v6, v7⟩ := exK_zero hx
      obtain ⟨k1, k2, k3, k4, k5, k6, k7, k8⟩ := ckT_ok v2
      obtain ⟨s1, s2, s3, s4⟩ := subR_andL (x := c.rights) (y := x.rights) hr ⟨k6, k7⟩
      obtain ⟨q1, q2, q3⟩ := run_good l (learnT t c x) (nextC c x) h ⟨s3, s4⟩
      have e : (nextC c x).rights = andR c.rights x.rights := rfl
      rw [e] at q1
      refine ⟨subR_trans q1 s1, q2, fun i hi => ?_⟩
      cases i with
      | zero => exact ⟨rfl, v7, subR_trans q1 s2⟩
      | succ i =>
        rw [List.take_succ_cons, runP_ok hx]
        exact q3 i (Nat.lt_of_succ_lt_succ hi)
    · rw [runP_bad hx] at h
      exact absurd h hx
theorem pathO_cons {t : TR} {x : TC} {l : List TC} {c : CH} (h4 : (x :: l).length ≤ 4) (hs : startO t x.au = some c) : pathO t (x :: l) = runP t c (x :: l) := by
  unfold pathO
  simp only [if_neg (show ¬ 4 < (x :: l).length by omega), hs]
theorem path_good {t : TR} {x : TC} {l : List TC} (h : (pathO t (x :: l)).2.2 = 0) : ∃ c, startO t x.au = some c ∧ (x :: l).length ≤ 4 ∧ pathO t (x :: l) = runP t c (x :: l) := by
  by_cases h4 : 4 < (x :: l).length
  · unfold pathO at h
    simp only [if_pos h4] at h
    cases h
  · cases hs : startO t x.au with
    | none =>
      unfold pathO at h
      simp only [if_neg h4, hs] at h
      cases h
    | some c => exact ⟨c, rfl, by omega, pathO_cons (by omega) hs⟩
theorem startO_some {t : TR} {h : List UInt8} {c : CH} (e : startO t h = some c) : vdK t = 0 ∧ inR c.rights := by
  by_cases hv : vdK t = 0
  · refine ⟨hv, ?_⟩
    unfold startO at e
    rw [if_neg (not_not_intro hv)] at e
    cases hf : t.ps.find? fun p => decide (p.ho = h) with
    | none => rw [hf] at e; cases e
    | some p =>
      rw [hf] at e
      injection e with e
      subst e
      have hp := List.mem_of_find?_eq_some hf
      obtain ⟨_, _, h1, h2, _⟩ := ptK_zero (ptsK_all (vdK_zero hv).2.2.1 p hp)
      exact ⟨h1, h2⟩
  · rw [startO_bad hv] at e; cases e
/-- The rights at the end of a path, and what held before each certificate. -/
theorem path_rights {t : TR} {x : TC} {l : List TC} (h : (pathO t (x :: l)).2.2 = 0) :
    ∃ f, startO t x.au = some f ∧ (x :: l).length ≤ 4 ∧ subR (pathO t (x :: l)).2.1.rights f.rights ∧ ∀ (i : Nat) (hi : i < (x :: l).length), subR (pathO t (x :: l)).2.1.rights (x :: l)[i].rights ∧
      (i = 0 → t.dt ≤ (x :: l)[i].to) ∧ (i ≠ 0 → (pathO t ((x :: l).take i)).2.2 = 0 ∧ (pathO t ((x :: l).take i)).1.dt ≤ (x :: l)[i].to) := by
  obtain ⟨c, hs, h4, e⟩ := path_good h
  rw [e] at h ⊢
  obtain ⟨q1, q2, q3⟩ := run_good _ _ _ h (startO_some hs).2
  refine ⟨c, hs, h4, q1, fun i hi => ?_⟩
  obtain ⟨r1, r2, r3⟩ := q3 i hi
  refine ⟨r3, fun h0 => ?_, fun h0 => ?_⟩
  · subst h0; exact r2
  · obtain ⟨j, rfl⟩ := Nat.exists_eq_succ_of_ne_zero h0
    rw [List.take_succ_cons] at r1 r2 ⊢
    have hl : (x :: l.take j).length ≤ 4 := by simp at h4 ⊢; omega
    rw [pathO_cons hl hs]
    exact ⟨r1, r2⟩
end Go.Proofs.YtkjplpmogfmhkaaGreatDoor
