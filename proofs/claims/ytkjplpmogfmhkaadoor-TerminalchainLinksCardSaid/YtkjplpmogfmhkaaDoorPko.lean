/- Parts La Lb Dc Pa Fl of the proof. -/
import Derived.Test.YtkjplpmogfmhkaaDoorPkj
import Derived.Laws.IdiomStrings
import Derived.Test.YtkjplpmogfmhkaaDoorMl
import Derived.Test.YtkjplpmogfmhkaaDoorEv
import Derived.Deep.Cut
import Derived.Test.YtkjplpmogfmhkaaDoorKk
namespace Go.Proofs.YtkjplpmogfmhkaaDoor
open Go.RowKit
set_option linter.unusedVariables false
set_option maxRecDepth 100000

def rootN : List UInt8 := [82, 79, 79, 84, 49]
def homeN : List UInt8 := [72, 79, 77, 69, 49]
def kRoot : Int := holderK rootN
theorem kRoot_in : inB 1 1073741789 kRoot = true := near_in _
theorem holderK_in (l : List UInt8) : inB 1 1073741789 (holderK l) = true := near_in _
theorem elem_holder (l : List UInt8) : isElem (pw 4 (holderK l)) = true := by
  obtain ⟨h0, h1⟩ := inB_true (holderK_in l)
  exact pub_elem h0 h1
theorem name_root : nameP rootN := by decide
theorem name_home : nameP homeN := by decide
def awC (ph : Int) : TC := ⟨rootN, homeN, ph, 2, 3, 10, 20, 0, 0⟩
theorem ck_awC {ph : Int} (h : isElem ph = true) : ckT (awC ph) = 0 := ck_ok name_root name_home h (by show ¬ ((2 : Int) < 1 ∨ 4 < (2 : Int)); omega) (by show ¬ ((3 : Int) < 0 ∨ 65535 < (3 : Int)); omega) (by show (0 : Int) ≤ 10 ∧ (10 : Int) ≤ 20 ∧ (20 : Int) ≤ 73048; omega)
theorem ck_zero : ckT zeroT = 60 := ck_au (by decide)
theorem tsecret_root (w : World) : Calls Tryd.prog 12 #[.string ⟨#[82, 79, 79, 84, 49]⟩] w fun e w' => e = .returned (.int .i64 kRoot) ∧ w = w' :=
  tsecret_any _ w (by unfold maxLen; decide)
theorem holder_root (w : World) : Calls Tryd.prog 10 #[.string ⟨#[82, 79, 79, 84, 49]⟩] w fun e w' => e = .returned (.int .i64 (pw 4 kRoot)) ∧ w = w' :=
  holder_any _ w (by unfold maxLen; decide)
theorem holder_home (w : World) : Calls Tryd.prog 10 #[.string ⟨#[72, 79, 77, 69, 49]⟩] w fun e w' => e = .returned (.int .i64 (pw 4 (holderK homeN))) ∧ w = w' :=
  holder_any _ w (by unfold maxLen; decide)
theorem run_buildZ (W : World) : (Instr.build 30 ([] : List (Nat × Value)).toArray).run Tryd.prog W = .ok (tcV zeroT) W := run_build W _ _ _ (by kernel_rfl)
end Go.Proofs.YtkjplpmogfmhkaaDoor

namespace Go.Proofs.YtkjplpmogfmhkaaDoor
open Go.RowKit
set_option linter.unusedVariables false
set_option maxRecDepth 100000

def ltT (c : TC) : Prop := c.au.length ≤ 100 ∧ c.ho.length ≤ 100
instance (c : TC) : Decidable (ltT c) := inferInstanceAs (Decidable (_ ∧ _))
theorem sm_isC {k : Int} {c : TC} (h : smT c) : smT (isC k c) := by
  unfold isC
  split
  · exact h
  · exact ⟨Nat.zero_le _, Nat.zero_le _⟩
end Go.Proofs.YtkjplpmogfmhkaaDoor

namespace Go.Proofs.YtkjplpmogfmhkaaDoor
open Go.RowKit
set_option linter.unusedVariables false
set_option maxRecDepth 100000

def wf64 (x : Int) : Prop := -9223372036854775808 ≤ x ∧ x < 9223372036854775808
/-- What the dice give. -/
def dv (L : List Int) (n : Int) : Int := match L with
  | [] => 0
  | x :: _ => modI x n
theorem dv_bd (L : List Int) {n : Int} (h : 1 ≤ n) : 0 ≤ dv L n ∧ dv L n < n := by
  cases L with
  | nil => exact ⟨Int.le_refl _, by show (0 : Int) < n; omega⟩
  | cons x L => exact modI_bd h
theorem elemI : Elem Tryd.prog 119 3 8 := by
  have h : (Tryd.prog.info? 3).map (fun i => (i.zero, i.size, i.bytes)) = some (some (.int .i64 0), 1, 8) := by kernel_rfl
  obtain ⟨i, h1, h2, h3, h4⟩ := info_parts h
  exact ⟨i, _, Tryd.underlying119, h1, h2, h3, h4, rfl⟩
theorem getD_drop {full : List Int} {k : Nat} {x : Int} {L : List Int} (h : x :: L = full.drop k) : full.getD k 0 = x ∧ L = full.drop (k + 1) ∧ k < full.length := by
  have hk : k < full.length := by
    rcases Nat.lt_or_ge k full.length with q | q
    · exact q
    · rw [List.drop_of_length_le q] at h; cases h
  rw [List.drop_eq_getElem_cons hk] at h
  injection h with h1 h2
  exact ⟨by simp [List.getD_eq_getElem?_getD, hk, h1], h2, hk⟩
end Go.Proofs.YtkjplpmogfmhkaaDoor

namespace Go.Proofs.YtkjplpmogfmhkaaDoor
open Go.RowKit
set_option linter.unusedVariables false
set_option maxRecDepth 100000

/-- A call that returns the name of a holder. -/
def NameR (w : World) (e : Ending) (w' : World) : Prop := Ext w w' ∧ ∃ nm : List UInt8, nameP nm ∧ e = .returned (.string (bstr nm))
theorem NameR.mk {w w' : World} (nm : List UInt8) (s : ByteArray) (hs : s = bstr nm) (h : nameP nm) (x : Ext w w') : NameR w (.returned (.string s)) w' := ⟨x, nm, h, by rw [hs]⟩
theorem mod_lt3 {n : Int} (h0 : 0 ≤ n) (h3 : n < 3) : modI n 3 = n := by rw [modI_pos (by omega)]; omega
theorem mod_cases2 (n : Int) : modI n 2 = 0 ∨ modI n 2 = 1 := by have := modI_bd (x := n) (m := 2) (by omega); omega
theorem mod_cases3 (n : Int) : modI n 3 = 0 ∨ modI n 3 = 1 ∨ modI n 3 = 2 := by have := modI_bd (x := n) (m := 3) (by omega); omega
/-- What Cert returns. -/
def certC (a h : List UInt8) (role rights fr td : Int) : TC := isC (holderK a) ⟨a, h, pw 4 (holderK h), role, rights, fr, td, 0, 0⟩
theorem sm_certC {a h : List UInt8} {role rights fr td : Int} (ha : a.length ≤ 4096) (hh : h.length ≤ 4096) : smT (certC a h role rights fr td) := sm_isC ⟨ha, hh⟩
theorem holder_l (l : List UInt8) (w : World) (hl : l.length ≤ 4096) : Calls Tryd.prog 10 #[.string (bstr l)] w fun e w' => e = .returned (.int .i64 (pw 4 (holderK l))) ∧ w = w' :=
  holder_any (bstr l) w (by show l.toArray.size ≤ _; unfold maxLen; simp; omega)
theorem tsecret_l (l : List UInt8) (w : World) (hl : l.length ≤ 4096) : Calls Tryd.prog 12 #[.string (bstr l)] w fun e w' => e = .returned (.int .i64 (holderK l)) ∧ w = w' :=
  tsecret_any (bstr l) w (by show l.toArray.size ≤ _; unfold maxLen; simp; omega)
set_option maxHeartbeats 4000000 in
theorem cert_any (a h : List UInt8) (role rights fr td : Int) (w : World) (ha : a.length ≤ 4096) (hh : h.length ≤ 4096) (E : KTab w 0) :
    Calls Tryd.prog 6 #[.string (bstr a), .string (bstr h), .int .i64 role, .int .i64 rights, .int .i64 fr, .int .i64 td] w (RetQ w (tcV (certC a h role rights fr td))) := by
  obtain ⟨wz, hwz, z0, zr⟩ := zero_alloc w
  have H1 := Lib.hid (fun W => tsecret_l a W ha)
  have H2 := Lib.hid (fun W => holder_l h W hh)
  obtain ⟨c1, hc1⟩ : ∃ c1, isC (holderK a) ⟨a, h, pw 4 (holderK h), role, rights, fr, td, 0, 0⟩ = c1 := ⟨_, rfl⟩
  have HC := Lib.hid hc1
  have H3 := Lib.hid (fun W (x : Ext w W) => refissue_any (holderK a) ⟨a, h, pw 4 (holderK h), role, rights, fr, td, 0, 0⟩ W ⟨ha, hh⟩ (E.below x))
  unfold certC
  rw [hc1]
  clear hc1
  generalize pw 4 (holderK h) = ph at *
  go_enter Tryd.func6, Tryd.ntmps6
  go_wp2_with fail
  rw [← hwz]
  clear hwz
  refine (H1.out _).mono ?_
  rintro e w' ⟨rfl, rfl⟩
  go_wp2_with fail
  refine (H2.out _).mono ?_
  rintro e w' ⟨rfl, rfl⟩
  go_wp2_with fail
  refine (H3.out _ z0).mono ?_
  rintro e w1 ⟨rfl, b1⟩
  rw [HC.out]
  clear H1 H2 H3 HC
  have x1 := z0.tr b1
  have zr1 := zr.ext b1
  have hl0 := zr.lt
  have hle := b1.size
  have hne : w.heap.size ≠ w1.heap.size := by omega
  have hne' : w1.heap.size ≠ w.heap.size := by omega
  obtain ⟨wa1, hwb1, ea1, TA1⟩ := zero_alloc w1
  have hwa1 := hwb1.symm
  clear hwb1
  obtain ⟨wc1, hwc1, ec1, TC1⟩ : ∃ wc, wc = (((((((((wa1.setCell ⟨w1.heap.size, 0, none⟩ (.string (bstr c1.au))).setCell ⟨w1.heap.size, 1, none⟩ (.string (bstr c1.ho))).setCell ⟨w1.heap.size, 2, none⟩ (.int .i64 c1.key)).setCell ⟨w1.heap.size, 3, none⟩ (.int .i64 c1.role)).setCell ⟨w1.heap.size, 4, none⟩ (.int .i64 c1.rights)).setCell ⟨w1.heap.size, 5, none⟩ (.int .i64 c1.fr)).setCell ⟨w1.heap.size, 6, none⟩ (.int .i64 c1.to)).setCell ⟨w1.heap.size, 7, none⟩ (.int .i64 c1.e)).setCell ⟨w1.heap.size, 8, none⟩ (.int .i64 c1.s)) ∧ Ext w1 wc ∧ TcAt wc w1.heap.size c1 := ⟨_, rfl, ext_setT ea1 (Nat.le_refl _) c1, TA1.setT c1⟩
  have HZ1 := Lib.hid (show wc1.heap.size = wa1.heap.size by rw [hwc1]; simp)
  have hla1 := TA1.lt
  obtain ⟨ra0, ra1, ra2, ra3, ra4, ra5, ra6, ra7, ra8⟩ := TA1.cells
  have ga0 := TA1.frozen 0
  have ga1 := TA1.frozen 1
  have ga2 := TA1.frozen 2
  have ga3 := TA1.frozen 3
  have ga4 := TA1.frozen 4
  have ga5 := TA1.frozen 5
  have ga6 := TA1.frozen 6
  have ga7 := TA1.frozen 7
  have ga8 := TA1.frozen 8
  clear ea1
  unfold tcV
  go_upto_region 2 with fail
  rw [← hwc1]
  clear hwc1 hwa1 hla1 TA1 ra0 ga0 ra1 ga1 ra2 ga2 ra3 ga3 ra4 ga4 ra5 ga5 ra6 ga6 ra7 ga7 ra8 ga8
  have zrc := zr1.ext ec1
  have hlr := zrc.lt
  have hlc := TC1.lt
  obtain ⟨i0, i1, i2, i3, i4, i5, i6, i7, i8⟩ := TC1.cells
  obtain ⟨s0, s1, s2, s3, s4, s5, s6, s7, s8⟩ := zrc.cells
  have f0 := zrc.frozen 0
  have f1 := zrc.frozen 1
  have f2 := zrc.frozen 2
  have f3 := zrc.frozen 3
  have f4 := zrc.frozen 4
  have f5 := zrc.frozen 5
  have f6 := zrc.frozen 6
  have f7 := zrc.frozen 7
  have f8 := zrc.frozen 8
  have TZ : TcAt (set9 wc1 w.heap.size (.string (bstr c1.au)) (.string (bstr c1.ho)) (.int .i64 c1.key) (.int .i64 c1.role) (.int .i64 c1.rights) (.int .i64 c1.fr) (.int .i64 c1.to) (.int .i64 c1.e) (.int .i64 c1.s)) w.heap.size c1 := zrc.setT c1
  have XF := Lib.hid (ext_setT (x1.tr ec1) (Nat.le_refl _) c1)
  clear zr zr1 zrc b1 z0 x1 HZ1
  go_wp2_with fail
  refine bodyPost_ret (v := tcV c1) ?_ rfl ⟨rfl, XF.out⟩
  obtain ⟨q0, q1, q2, q3, q4, q5, q6, q7, q8⟩ := TZ.cells
  clear s0 s1 s2 s3 s4 s5 s6 s7 s8 i0 i1 i2 i3 i4 i5 i6 i7 i8
  simp [results, Tryd.results6, go_sem, tcV, q0, q1, q2, q3, q4, q5, q6, q7, q8]
end Go.Proofs.YtkjplpmogfmhkaaDoor

namespace Go.Proofs.YtkjplpmogfmhkaaDoor
open Go.RowKit
set_option linter.unusedVariables false

theorem flat_len {α : Type} (f : α → List Value) (k : Nat) (hf : ∀ x, (f x).length = k) : ∀ l : List α, (l.flatMap f).length = l.length * k
  | [] => by simp
  | x :: l => by rw [List.flatMap_cons, List.length_append, hf, flat_len f k hf l, List.length_cons, Nat.succ_mul]; omega
theorem flat_get {α : Type} (f : α → List Value) (k : Nat) (hf : ∀ x, (f x).length = k) : ∀ (l : List α) (i : Nat) (hi : i < l.length) (j : Nat), j < k → (l.flatMap f)[i * k + j]? = (f l[i])[j]?
  | x :: l, 0, _, j, hj => by
    rw [List.flatMap_cons, List.getElem?_append_left (by rw [hf]; omega)]
    simp
  | x :: l, i + 1, hi, j, hj => by
    rw [List.flatMap_cons, List.getElem?_append_right (by rw [hf, Nat.succ_mul]; omega), hf, show (i + 1) * k + j - k = i * k + j by rw [Nat.succ_mul]; omega]
    rw [flat_get f k hf l i (by simpa using hi) j hj]
    rfl
/-- A slice of structs, opened. -/
theorem RdK.flat {w : World} {α : Type} {f : α → List Value} {k : Nat} (h0 : 0 < k) (hf : ∀ x, (f x).length = k) {v : Value} {l : List α} (h : RdK w k v (l.flatMap f)) :
    ∃ A n c, v = .slice A n c ∧ n = l.length ∧ n ≤ c ∧ c ≤ maxLen ∧ (0 < n → ∃ b o, A = some ⟨b, o, none⟩ ∧ b < w.heap.size ∧ ∀ (i : Nat) (hi : i < l.length) (j : Nat) (u : Value), (f l[i])[j]? = some u → w.cell? ⟨b, o + i * k + j, none⟩ = some u) := by
  obtain ⟨A, n, c, rfl, hn, hnc, hcm, hc⟩ := h
  have hl : n = l.length := by
    rw [flat_len f k hf] at hn
    exact Nat.eq_of_mul_eq_mul_right h0 hn
  refine ⟨A, n, c, rfl, hl, hnc, hcm, fun hp => ?_⟩
  obtain ⟨b, o, rfl, hcell⟩ := hc hp
  have all : ∀ (i : Nat) (hi : i < l.length) (j : Nat) (u : Value), (f l[i])[j]? = some u → w.cell? ⟨b, o + i * k + j, none⟩ = some u := fun i hi j u hu => by
    have hj : j < k := by rw [← hf l[i]]; exact (List.getElem?_eq_some_iff.1 hu).1
    rw [Nat.add_assoc]
    exact hcell _ u (by rw [flat_get f k hf l i hi j hj]; exact hu)
  refine ⟨b, o, rfl, ?_, all⟩
  have h1 : 0 < l.length := by omega
  have h2 : 0 < (f l[0]).length := by rw [hf]; exact h0
  exact World.block_lt_of_cell? w _ (all 0 h1 0 (f l[0])[0] (List.getElem?_eq_getElem h2))
end Go.Proofs.YtkjplpmogfmhkaaDoor
