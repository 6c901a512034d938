/- Elements as bytes, in both ways. -/
import Derived.Test.YteilglpdmfiinaaDoorSe
import Derived.Test.YteilglpdmfiinaaDoorNo
import Derived.Test.YteilglpdmfiinaaDoorGs
import Derived.Test.YteilglpdmfiinaaDoorWd1
namespace Go.Proofs.YteilglpdmfiinaaDoor
open Go.RowKit
set_option linter.unusedVariables false
set_option maxRecDepth 100000

def elB (x : Int) : List UInt8 := if isElem x = true then be4 x else []
def elK (x : Int) : Int := if isElem x = true then 0 else 10
theorem gencode_any (x : Int) (w : World) : Calls Tryd.prog 78 #[.int .i64 x] w (RetBE w (elB x) (elK x)) := by
  cases h : isElem x with
  | true =>
    obtain ⟨x0, x1⟩ := isElem_in h
    unfold elB elK
    rw [if_pos h, if_pos h]
    go_enter Tryd.func78, Tryd.ntmps78
    go_wp2_with fail
    refine (element_any x _).mono ?_
    rintro e w' ⟨rfl, rfl⟩
    rw [h]
    go_wp2_with fail
    refine (oct4_any x _ (by omega) (by omega)).mono ?_
    rintro e w2 ⟨A, n, c, rfl, hn, o, b⟩
    go_wp2_with fail
    go_ret2
    exact ⟨_, _, _, rfl, hn, o, b⟩
  | false =>
    unfold elB elK
    rw [if_neg (by simp [h]), if_neg (by simp [h])]
    go_enter Tryd.func78, Tryd.ntmps78
    go_wp2_with fail
    refine (element_any x _).mono ?_
    rintro e w' ⟨rfl, rfl⟩
    rw [h]
    go_wp2_with fail
    go_ret2
    exact ⟨_, _, _, rfl, (show _ = _ from rfl), Own.nil_ _ _ _, Below.refl _ _⟩
theorem refgencode_any (x : Int) (w : World) : Calls Tryd.prog 85 #[.int .i64 x] w (RetBE w (elB x) (elK x)) := by
  cases h : isElem x with
  | true =>
    unfold elB elK
    rw [if_pos h, if_pos h]
    go_enter Tryd.func85, Tryd.ntmps85
    go_wp2_with fail
    refine (refelement_any x _).mono ?_
    rintro e w' ⟨rfl, rfl⟩
    rw [h]
    go_wp2_with fail
    refine (four_any x _).mono ?_
    rintro e w2 ⟨A, n, c, rfl, hn, o, b⟩
    go_wp2_with fail
    go_ret2
    exact ⟨_, _, _, rfl, hn, o, b⟩
  | false =>
    unfold elB elK
    rw [if_neg (by simp [h]), if_neg (by simp [h])]
    go_enter Tryd.func85, Tryd.ntmps85
    go_wp2_with fail
    refine (refelement_any x _).mono ?_
    rintro e w' ⟨rfl, rfl⟩
    rw [h]
    go_wp2_with fail
    go_ret2
    exact ⟨_, _, _, rfl, (show _ = _ from rfl), Own.nil_ _ _ _, Below.refl _ _⟩
def gdOk (l : List UInt8) : Prop := l.length = 4 ∧ isElem (num l) = true
instance (l : List UInt8) : Decidable (gdOk l) := inferInstanceAs (Decidable (_ ∧ _))
def gdV (l : List UInt8) : Int := if gdOk l then num l else 0
def gdK (l : List UInt8) : Int := if gdOk l then 0 else if l.length = 4 then 10 else 2
theorem gdecode_any {b : Value} {l : List UInt8} (w : World) (hb : Rd w b (bvs l)) :
    Calls Tryd.prog 70 #[b] w (RetQ w (.tuple #[.int .i64 (gdV l), .int .i64 (gdK l)])) := by
  have hb0 := hb
  obtain ⟨A, n, c, rfl, hn, hnc, hcm, hA⟩ := hb.bytes
  subst hn
  unfold maxLen at hcm
  clear hA hb
  by_cases h4 : l.length = 4
  · have t4 : ((l.length : Int) != 4) = false := by simp; omega
    have H4 := Lib.hid h4
    clear h4
    cases h : isElem (num l) with
    | true =>
      have HV := Lib.hid (show gdV l = num l from if_pos ⟨H4.out, h⟩)
      have HK := Lib.hid (show gdK l = 0 from if_pos ⟨H4.out, h⟩)
      go_enter Tryd.func70, Tryd.ntmps70
      go_wp2_with fail
      refine (number_any _ hb0 (by have := H4.out; omega)).mono ?_
      rintro e w' ⟨rfl, rfl⟩
      go_wp2_with fail
      refine (element_any _ _).mono ?_
      rintro e w' ⟨rfl, rfl⟩
      rw [h]
      go_wp2_with fail
      go_ret2
      exact ⟨by rw [HV.out, HK.out]; rfl, Below.refl _ _⟩
    | false =>
      have HV := Lib.hid (show gdV l = 0 from if_neg (fun q => by have q2 := q.2; rw [h] at q2; cases q2))
      have HK := Lib.hid (show gdK l = 10 by unfold gdK; rw [if_neg (fun q => by have q2 := q.2; rw [h] at q2; cases q2), if_pos H4.out])
      go_enter Tryd.func70, Tryd.ntmps70
      go_wp2_with fail
      refine (number_any _ hb0 (by have := H4.out; omega)).mono ?_
      rintro e w' ⟨rfl, rfl⟩
      go_wp2_with fail
      refine (element_any _ _).mono ?_
      rintro e w' ⟨rfl, rfl⟩
      rw [h]
      go_wp2_with fail
      go_ret2
      exact ⟨by rw [HV.out, HK.out]; rfl, Below.refl _ _⟩
  · have t4 : ((l.length : Int) != 4) = true := by simp; omega
    have HV := Lib.hid (show gdV l = 0 from if_neg (fun q => h4 q.1))
    have HK := Lib.hid (show gdK l = 2 by unfold gdK; rw [if_neg (fun q => h4 q.1), if_neg h4])
    clear h4
    go_enter Tryd.func70, Tryd.ntmps70
    go_wp2_with fail
    go_ret2
    exact ⟨by rw [HV.out, HK.out]; rfl, Below.refl _ _⟩
end Go.Proofs.YteilglpdmfiinaaDoor
