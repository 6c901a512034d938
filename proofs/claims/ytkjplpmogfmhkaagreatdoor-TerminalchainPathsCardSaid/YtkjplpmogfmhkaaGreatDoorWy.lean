/- Regions that draw (Wx): an end with any number of holes. -/
import Derived.Test.YtkjplpmogfmhkaaGreatDoorWx
namespace Go.Proofs.YtkjplpmogfmhkaaGreatDoor
open Go Go.RowKit
set_option linter.unusedVariables false
section
variable {P : Program} {Q : Exit → Act → World → Prop} {w0 : World} {R : Act → World → Prop}

def fillH (a : Act) : List (Nat × VPred) → (Nat → Value) → Act
  | [], _ => a
  | (t, _) :: r, f => (fillH a r f).put (some t) (f t)
theorem fillH_size (a : Act) (f : Nat → Value) : ∀ hs : List (Nat × VPred), (fillH a hs f).tmps.size = a.tmps.size
  | [] => rfl
  | (t, _) :: r => by simp [fillH, Act.put, fillH_size a f r]
theorem fillH_defers (a : Act) (f : Nat → Value) : ∀ hs : List (Nat × VPred), (fillH a hs f).defers = a.defers
  | [] => rfl
  | (t, _) :: r => by simp [fillH, Act.put, fillH_defers a f r]
theorem fillH_at (a : Act) (f : Nat → Value) : ∀ (hs : List (Nat × VPred)) (i : Nat) (h1 : i < (fillH a hs f).tmps.size) (h2 : i < a.tmps.size), (fillH a hs f).tmps[i] = if (hs.lookup i).isSome then f i else a.tmps[i]
  | [], i, h1, h2 => by simp [fillH]
  | (t, p) :: r, i, h1, h2 => by
    have h3 : i < (fillH a r f).tmps.size := by rw [fillH_size]; exact h2
    by_cases hi : i = t
    · subst hi
      simp [fillH, Act.put]
    · have e : (i == t) = false := by simpa using hi
      have := fillH_at a f r i h3 h2
      simp only [fillH, Act.put, List.lookup_cons, e]
      rw [Array.getElem_setIfInBounds h3, if_neg (Ne.symm hi), this]
theorem lookup_mem' : ∀ {hs : List (Nat × VPred)} {t : Nat} {p : VPred}, hs.lookup t = some p → (t, p) ∈ hs
  | [], _, _, h => by cases h
  | (s, q) :: r, t, p, h => by
    by_cases e : t = s
    · subst e
      simp at h
      subst h
      exact List.mem_cons_self
    · have e' : (t == s) = false := by simpa using e
      simp only [List.lookup_cons, e'] at h
      exact List.mem_cons_of_mem _ (lookup_mem' h)
theorem wpX_endL {a : Act} {hs : List (Nat × VPred)} (h : ∀ (m : Lt w0) (f : Nat → Value), (∀ t p, hs.lookup t = some p → p (f t) m.1) → R (fillH a hs f) m.1) : wpX P Q w0 R [] a hs := fun a' w he hd hz hsl => by
  have : a' = fillH a hs (fun t => a'.eval (.tmp t)) := by
    have k1 := fillH_size a (fun t => a'.eval (.tmp t)) hs
    have k2 := fillH_defers a (fun t => a'.eval (.tmp t)) hs
    have k3 := fillH_at a (fun t => a'.eval (.tmp t)) hs
    generalize fillH a hs (fun t => a'.eval (.tmp t)) = b at *
    obtain ⟨t, d⟩ := a
    obtain ⟨t', d'⟩ := a'
    obtain ⟨tb, db⟩ := b
    simp only at hd hz k1 k2 k3
    subst hd k2
    congr 1
    apply Array.ext (by omega)
    intro i g1 g2
    have q := hsl i
    rw [k3 i g2 (by omega)]
    cases hl : hs.lookup i with
    | some p => simp [Act.eval, g1]
    | none =>
      have g3 : i < t.size := by omega
      simp only [slotP, hl] at q
      simpa [Act.eval, g1, g3] using q
  rw [this]
  refine h ⟨w, he⟩ _ fun t p hl => ?_
  have := hsl t
  simpa only [slotP, hl] using this
theorem wpX_end3 {a : Act} {t1 t2 t3 : Nat} {p1 p2 p3 : VPred} (h12 : t1 ≠ t2) (h13 : t1 ≠ t3) (h23 : t2 ≠ t3) (h : ∀ (m : Lt w0) (u1 u2 u3 : Value), p1 u1 m.1 → p2 u2 m.1 → p3 u3 m.1 → R (((a.put (some t1) u1).put (some t2) u2).put (some t3) u3) m.1) : wpX P Q w0 R [] a [(t3, p3), (t2, p2), (t1, p1)] :=
  wpX_endL fun m f hf => h m (f t1) (f t2) (f t3) (hf t1 p1 (by simp [List.lookup_cons, beq_false_of_ne h12, beq_false_of_ne h13])) (hf t2 p2 (by simp [List.lookup_cons, beq_false_of_ne h23])) (hf t3 p3 (by simp))
theorem wpX_end4 {a : Act} {t1 t2 t3 t4 : Nat} {p1 p2 p3 p4 : VPred} (h12 : t1 ≠ t2) (h13 : t1 ≠ t3) (h14 : t1 ≠ t4) (h23 : t2 ≠ t3) (h24 : t2 ≠ t4) (h34 : t3 ≠ t4) (h : ∀ (m : Lt w0) (u1 u2 u3 u4 : Value), p1 u1 m.1 → p2 u2 m.1 → p3 u3 m.1 → p4 u4 m.1 → R ((((a.put (some t1) u1).put (some t2) u2).put (some t3) u3).put (some t4) u4) m.1) : wpX P Q w0 R [] a [(t4, p4), (t3, p3), (t2, p2), (t1, p1)] :=
  wpX_endL fun m f hf => h m (f t1) (f t2) (f t3) (f t4) (hf t1 p1 (by simp [List.lookup_cons, beq_false_of_ne h12, beq_false_of_ne h13, beq_false_of_ne h14])) (hf t2 p2 (by simp [List.lookup_cons, beq_false_of_ne h23, beq_false_of_ne h24])) (hf t3 p3 (by simp [List.lookup_cons, beq_false_of_ne h34])) (hf t4 p4 (by simp))
end
end Go.Proofs.YtkjplpmogfmhkaaGreatDoor
