/- Layer 24 in plain Lean: what its functions return. -/
import Derived.Test.YteilglpdmfiinaaDoorCt
namespace Go.Proofs.YteilglpdmfiinaaDoor
open Go.RowKit
set_option linter.unusedVariables false
set_option maxRecDepth 100000

def updS (c : TC) (e s : Int) : TC := ⟨c.au, c.ho, c.key, c.role, c.rights, c.fr, c.to, e, s⟩
def byB (c : TC) : List UInt8 := if ckT c = 0 then bodyB c else []
def ecK (c : TC) : Int := if ckT c = 0 then encK c.e c.s else ckT c
def ecB (c : TC) : List UInt8 := if ecK c = 0 then tcB c else []
def isC (k : Int) (c : TC) : TC := if ckT c = 0 ∧ sK k = 0 then updS c (sE k (bodyB c)) (sS k (bodyB c)) else zeroT
def isK (k : Int) (c : TC) : Int := if ckT c = 0 then sK k else ckT c
def vfB (p : Int) (c : TC) : Bool := if ckT c = 0 then verB p (bodyB c) c.e c.s else false
theorem ecK_valid {c : TC} : ecK c = 0 ↔ validT' c := by
  unfold ecK validT'
  by_cases h : ckT c = 0
  · rw [if_pos h]; exact ⟨fun k => ⟨h, k⟩, fun k => k.2⟩
  · rw [if_neg h]; exact ⟨fun k => absurd k h, fun k => absurd k.1 h⟩
theorem ckT_upd (c : TC) (e s : Int) : ckT (updS c e s) = ckT c := rfl
theorem bodyB_upd (c : TC) (e s : Int) : bodyB (updS c e s) = bodyB c := rfl
theorem sK_in {k : Int} (h : inB 1 1073741789 k = true) : sK k = 0 := if_pos h
theorem isC_in {k : Int} {c : TC} (hk : inB 1 1073741789 k = true) (hc : ckT c = 0) : isC k c = updS c (sigE k (bodyB c)) (sigS k (bodyB c)) := by
  unfold isC sE sS
  rw [if_pos ⟨hc, sK_in hk⟩, if_pos hk, if_pos hk]
theorem isK_in {k : Int} {c : TC} (hk : inB 1 1073741789 k = true) (hc : ckT c = 0) : isK k c = 0 := by
  unfold isK; rw [if_pos hc, sK_in hk]
theorem vf_issue {k : Int} {c : TC} (hk : inB 1 1073741789 k = true) (hc : ckT c = 0) : vfB (pw 4 k) (isC k c) = true := by
  obtain ⟨h0, h1⟩ := inB_true hk
  rw [isC_in hk hc]
  unfold vfB
  rw [ckT_upd, if_pos hc, bodyB_upd]
  exact sig_verifies h0 h1 _
theorem encK_in {e s : Int} (he : 0 ≤ e ∧ e < 1073741789) (hs : 0 ≤ s ∧ s < 1073741789) : encK e s = 0 := if_pos ⟨inB_yes he.1 he.2, inB_yes hs.1 hs.2⟩
theorem valid_issue {k : Int} {c : TC} (hk : inB 1 1073741789 k = true) (hc : ckT c = 0) : validT' (isC k c) := by
  rw [isC_in hk hc]
  exact ⟨hc, encK_in (sigE_bd _ _) (sigS_bd _ _)⟩
theorem ecK_issue {k : Int} {c : TC} (hk : inB 1 1073741789 k = true) (hc : ckT c = 0) : ecK (isC k c) = 0 := ecK_valid.2 (valid_issue hk hc)
theorem vf_one (c : TC) : vfB 1 c = false := by
  unfold vfB
  split
  · exact verB_p isElem_one
  · rfl
noncomputable def dtC (b : List UInt8) : TC := (decT b).getD zeroT
noncomputable def dtK (b : List UInt8) : Int := match decT b with
  | none => 1
  | some _ => 0
theorem dt_none {b : List UInt8} (h : decT b = none) : dtC b = zeroT ∧ dtK b = 1 := by unfold dtC dtK; rw [h]; exact ⟨rfl, rfl⟩
theorem dt_some {b : List UInt8} {c : TC} (h : decT b = some c) : dtC b = c ∧ dtK b = 0 := by unfold dtC dtK; rw [h]; exact ⟨rfl, rfl⟩
theorem dt_of {c : TC} (h : validT' c) : dtC (ecB c) = c ∧ dtK (ecB c) = 0 := by
  unfold ecB
  rw [if_pos (ecK_valid.2 h)]
  exact dt_some (decT_of h)
theorem byB_len (c : TC) : (byB c).length ≤ 200 := by
  unfold byB
  split
  · rename_i h
    obtain ⟨⟨a1, _⟩, ⟨a2, _⟩, _⟩ := ckT_ok h
    exact bodyB_len a1.2 a2.2
  · simp
theorem ecB_len (c : TC) : (ecB c).length ≤ 200 := by
  unfold ecB
  split
  · rename_i h
    obtain ⟨⟨a1, _⟩, ⟨a2, _⟩, _⟩ := ckT_ok (ecK_valid.1 h).1
    exact tcB_len a1.2 a2.2
  · simp
/-- What an extraction that knows certificates makes of bytes. -/
theorem dt_by {x : List Nd → Option TC} (hx : ∀ c, validT' c → x [certT c] = some c) (b : List UInt8) :
    (∀ ts n c, objsP 1 0 b = some (ts, n) → x ts = some c → ecK c = 0 → ecB c = b → dtC b = c ∧ dtK b = 0) ∧
    (∀ ts n c, objsP 1 0 b = some (ts, n) → x ts = some c → ¬ (ecK c = 0 ∧ ecB c = b) → dtC b = zeroT ∧ dtK b = 1) ∧
    (∀ ts n, objsP 1 0 b = some (ts, n) → x ts = none → dtC b = zeroT ∧ dtK b = 1) ∧ (objsP 1 0 b = none → dtC b = zeroT ∧ dtK b = 1) := by
  have h := decT_by hx b
  refine ⟨fun ts n c h1 h2 h3 h4 => ?_, fun ts n c h1 h2 h3 => ?_, fun ts n h1 h2 => ?_, fun h1 => ?_⟩
  · rw [h1] at h
    simp only [h2] at h
    have h5 : tcB c = b := by unfold ecB at h4; rwa [if_pos h3] at h4
    rw [if_pos ⟨ecK_valid.1 h3, h5⟩] at h
    exact dt_some h
  · rw [h1] at h
    simp only [h2] at h
    rw [if_neg (fun q => h3 ⟨ecK_valid.2 q.1, by unfold ecB; rw [if_pos (ecK_valid.2 q.1)]; exact q.2⟩)] at h
    exact dt_none h
  · rw [h1] at h
    simp only [h2] at h
    exact dt_none h
  · rw [h1] at h
    exact dt_none h
end Go.Proofs.YteilglpdmfiinaaDoor
