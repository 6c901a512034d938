/- Parts La Lb Dc Pa Fl Pb of the proof. -/
import Derived.Test.YtkjplpmogfmhkaaGreatDoorPkj
import Derived.Laws.IdiomStrings
import Derived.Test.YtkjplpmogfmhkaaGreatDoorMl
import Derived.Test.YtkjplpmogfmhkaaGreatDoorEv
import Derived.Deep.Cut
import Derived.Test.YtkjplpmogfmhkaaGreatDoorKk
import Derived.Deep.CutRange
import Derived.Deep.CutBlock
namespace Go.Proofs.YtkjplpmogfmhkaaGreatDoor
open Go.RowKit
set_option linter.unusedVariables false
set_option maxRecDepth 100000

def rootN : List UInt8 := [82, 79, 79, 84, 49]
def homeN : List UInt8 := [72, 79, 77, 69, 49]
def kRoot : Int := holderK rootN
theorem kRoot_in : inB 1 1073741789 kRoot = true := near_in _
theorem holderK_in (l : List UInt8) : inB 1 1073741789 (holderK l) = true := near_in _
theorem elem_holder (l : List UInt8) : isElem (pw 4 (holderK l)) = true := by
  obtain ⟨h0, h1⟩ := inB_true (holderK_in l)
  exact pub_elem h0 h1
theorem name_root : nameP rootN := by decide
theorem name_home : nameP homeN := by decide
def awC (ph : Int) : TC := ⟨rootN, homeN, ph, 2, 3, 10, 20, 0, 0⟩
theorem ck_awC {ph : Int} (h : isElem ph = true) : ckT (awC ph) = 0 := ck_ok name_root name_home h (by show ¬ ((2 : Int) < 1 ∨ 4 < (2 : Int)); omega) (by show ¬ ((3 : Int) < 0 ∨ 65535 < (3 : Int)); omega) (by show (0 : Int) ≤ 10 ∧ (10 : Int) ≤ 20 ∧ (20 : Int) ≤ 73048; omega)
theorem ck_zero : ckT zeroT = 60 := ck_au (by decide)
theorem tsecret_root (w : World) : Calls Tryz.prog 180 #[.string ⟨#[82, 79, 79, 84, 49]⟩] w fun e w' => e = .returned (.int .i64 kRoot) ∧ w = w' :=
  tsecret_any _ w (by unfold maxLen; decide)
theorem holder_root (w : World) : Calls Tryz.prog 112 #[.string ⟨#[82, 79, 79, 84, 49]⟩] w fun e w' => e = .returned (.int .i64 (pw 4 kRoot)) ∧ w = w' :=
  holder_any _ w (by unfold maxLen; decide)
theorem holder_home (w : World) : Calls Tryz.prog 112 #[.string ⟨#[72, 79, 77, 69, 49]⟩] w fun e w' => e = .returned (.int .i64 (pw 4 (holderK homeN))) ∧ w = w' :=
  holder_any _ w (by unfold maxLen; decide)
theorem run_buildZ (W : World) : (Instr.build 35 ([] : List (Nat × Value)).toArray).run Tryz.prog W = .ok (tcV zeroT) W := run_build W _ _ _ (by kernel_rfl)
end Go.Proofs.YtkjplpmogfmhkaaGreatDoor

namespace Go.Proofs.YtkjplpmogfmhkaaGreatDoor
open Go.RowKit
set_option linter.unusedVariables false
set_option maxRecDepth 100000

def ltT (c : TC) : Prop := c.au.length ≤ 100 ∧ c.ho.length ≤ 100
instance (c : TC) : Decidable (ltT c) := inferInstanceAs (Decidable (_ ∧ _))
theorem sm_isC {k : Int} {c : TC} (h : smT c) : smT (isC k c) := by
  unfold isC
  split
  · exact h
  · exact ⟨Nat.zero_le _, Nat.zero_le _⟩
end Go.Proofs.YtkjplpmogfmhkaaGreatDoor

namespace Go.Proofs.YtkjplpmogfmhkaaGreatDoor
open Go.RowKit
set_option linter.unusedVariables false
set_option maxRecDepth 100000

def wf64 (x : Int) : Prop := -9223372036854775808 ≤ x ∧ x < 9223372036854775808
/-- The dice's block D, their numbers in block b: L is what is left. -/
def DiceAt (w : World) (D b : Nat) (L : List Int) : Prop :=
  ∃ (A : Option Addr) (n c k : Nat) (full : List Int), w.heap[D]? = some (.cells #[.slice A n c, .int .i64 (k : Int)] 217 (0, 0)) ∧ n = full.length ∧ k ≤ n ∧ L = full.drop k ∧ n ≤ c ∧ c ≤ maxLen ∧ b < w.heap.size ∧ (∀ x ∈ full, wf64 x) ∧
    (0 < n → ∃ o, A = some ⟨b, o, none⟩ ∧ b ≠ D ∧ ∀ j, j < n → w.cell? ⟨b, o + j, none⟩ = some (.int .i64 (full.getD j 0)))
theorem DiceAt.lt {w : World} {D b : Nat} {L : List Int} (h : DiceAt w D b L) : D < w.heap.size := by
  obtain ⟨A, n, c, k, full, h1, _⟩ := h
  exact block_lt h1
theorem DiceAt.ltb {w : World} {D b : Nat} {L : List Int} (h : DiceAt w D b L) : b < w.heap.size := by
  obtain ⟨A, n, c, k, full, h1, h2, h3, h4, h5, h6, h7, _⟩ := h
  exact h7
theorem DiceAt.keep {w w' : World} {D b : Nat} {L : List Int} (h : DiceAt w D b L) (h1 : w'.heap[D]? = w.heap[D]?) (h2 : w'.heap[b]? = w.heap[b]?) : DiceAt w' D b L := by
  obtain ⟨A, n, c, k, full, e1, e2, e3, e4, e5, e6, e7, e8, e9⟩ := h
  refine ⟨A, n, c, k, full, h1.trans e1, e2, e3, e4, e5, e6, ?_, e8, fun h0 => ?_⟩
  · have : w'.heap[b]?.isSome = true := by rw [h2]; simp [e7]
    simpa using this
  · obtain ⟨o, q1, q2, q3⟩ := e9 h0
    exact ⟨o, q1, q2, fun j hj => (World.cell?_of_block h2).trans (q3 j hj)⟩
theorem DiceAt.ext {w w' : World} {D b : Nat} {L : List Int} (h : DiceAt w D b L) (e : Ext w w') : DiceAt w' D b L := h.keep (e.block D h.lt) (e.block b h.ltb)
theorem DiceAt.gb {w w' : World} {D b g : Nat} {L : List Int} (h : DiceAt w D b L) (e : Gb g w w') (h1 : D ≠ g) (h2 : b ≠ g) : DiceAt w' D b L :=
  h.keep (e.block D h.lt (fun q => h1 (by injection q))) (e.block b h.ltb (fun q => h2 (by injection q)))
/-- What the dice give. -/
def dv (L : List Int) (n : Int) : Int := match L with
  | [] => 0
  | x :: _ => modI x n
theorem dv_bd (L : List Int) {n : Int} (h : 1 ≤ n) : 0 ≤ dv L n ∧ dv L n < n := by
  cases L with
  | nil => exact ⟨Int.le_refl _, by show (0 : Int) < n; omega⟩
  | cons x L => exact modI_bd h
/-- A throw: its value, and the dice behind it. -/
def ThrowR (w : World) (D b : Nat) (L : List Int) (n : Int) (e : Ending) (w' : World) : Prop := e = .returned (.int .i64 (dv L n)) ∧ Gb D w w' ∧ DiceAt w' D b L.tail ∧ w'.heap.size = w.heap.size
theorem elemI : Elem Tryz.prog 41 3 8 := by
  have h : (Tryz.prog.info? 3).map (fun i => (i.zero, i.size, i.bytes)) = some (some (.int .i64 0), 1, 8) := by kernel_rfl
  obtain ⟨i, h1, h2, h3, h4⟩ := info_parts h
  exact ⟨i, _, Tryz.underlying41, h1, h2, h3, h4, rfl⟩
theorem mlight_any {v : Value} {l : List Int} (w : World) (h : RdI w .i64 v l) : Calls Tryz.prog 26 #[v] w fun e w' => e = .returned (.bool (decide (l.length ≤ 80))) ∧ w = w' := by
  obtain ⟨A, n, c, rfl, hn, hnc, hcm, hA⟩ := h.ints
  subst hn
  clear hA h
  have H := Lib.hid (show decide (l.length ≤ 80) = decide ((l.length : Int) ≤ 80) from decide_eq_decide.2 (by omega))
  go_enter Tryz.func26, Tryz.ntmps26
  go_wp2
  go_ret
  exact ⟨by rw [H.out]; rfl, rfl⟩
theorem dice_mk {w : World} {B : Nat} {A : Option Addr} {n c : Nat} {l : List Int} (h : Own w B 3 (.slice A n c) (l.map (Value.int .i64))) (hB : B ≤ w.heap.size) (hw : ∀ x ∈ l, wf64 x) :
    ∃ b, B ≤ b ∧ DiceAt (w.alloc (.cells #[.slice A n c, .int .i64 0] 217)) w.heap.size b l := by
  have e : Ext w (w.alloc (.cells #[.slice A n c, .int .i64 0] 217)) := (Below.refl _ _).alloc (Nat.le_refl _) _
  obtain ⟨A', n', c', hv, hn, hcase⟩ := h
  injection hv with h1 h2 h3
  subst h1 h2 h3
  rw [List.length_map] at hn
  rcases hcase with ⟨h0, hc0⟩ | ⟨g, cur, hA, hg, hcur, hnc, hcm, hcs, ht⟩
  · exact ⟨w.heap.size, hB, A, n, c, 0, l, heap_alloc_new' w _, hn, by omega, rfl, by omega, by unfold maxLen; omega, by simp, hw, fun h => absurd h (by omega)⟩
  · have hgl := block_lt hcur
    refine ⟨g, hg, A, n, c, 0, l, heap_alloc_new' w _, hn, by omega, rfl, hnc, hcm, by simp; omega, hw, fun h => ⟨0, hA, by omega, fun j hj => ?_⟩⟩
    refine (e.cell (p := ⟨g, 0 + j, none⟩) hgl).trans ?_
    rw [Nat.zero_add, cell_of_row w g j cur _ _ hcur]
    have hj' : (l.map (Value.int .i64))[j]? = some (.int .i64 (l.getD j 0)) := by
      rw [List.getElem?_map, List.getElem?_eq_getElem (by omega)]
      simp [List.getD_eq_getElem?_getD, hn ▸ hj]
    rw [← ht, List.getElem?_take, if_pos hj] at hj'
    simpa using hj'
theorem roll_any {v : Value} {l : List Int} (w : World) (h : RdI w .i64 v l) (hw : ∀ x ∈ l, wf64 x) (hl : l.length ≤ 1000) :
    Calls Tryz.prog 110 #[v] w fun e w' => ∃ D b, e = .returned (.pointer (some ⟨D, 0, none⟩)) ∧ w.heap.size ≤ D ∧ w.heap.size ≤ b ∧ DiceAt w' D b l ∧ Ext w w' := by
  have h1 : ∀ u ∈ l.map (Value.int .i64), u.oneCell' = true := by
    intro u hu
    obtain ⟨x, _, rfl⟩ := List.mem_map.1 hu
    rfl
  have hm : l.length ≤ maxLen := by unfold maxLen; omega
  go_enter Tryz.func110, Tryz.ntmps110
  go_wp2_with (refine wpList_app (B := w.heap.size) (w0 := w) elemI (Own.empty _ _ _ _) (by first | exact h | exact Rd.ext h ((Below.refl _ _).alloc (Nat.le_refl _) _)) h1 (by first | exact Below.refl _ _ | exact (Below.refl _ _).alloc (Nat.le_refl _) _) (by simp; omega) (by simpa using hm) (by first | exact Nat.le_refl _ | simp) rfl rfl rfl rfl ?_; intro A c w1 o1 b1 g1)
  simp only [List.nil_append, List.length_nil, List.length_map, Nat.zero_add] at o1
  obtain ⟨b, hb, hd⟩ := dice_mk o1 b1.size hw
  go_ret
  exact ⟨_, b, rfl, b1.size, hb, hd, b1.alloc b1.size _⟩
theorem getD_drop {full : List Int} {k : Nat} {x : Int} {L : List Int} (h : x :: L = full.drop k) : full.getD k 0 = x ∧ L = full.drop (k + 1) ∧ k < full.length := by
  have hk : k < full.length := by
    rcases Nat.lt_or_ge k full.length with q | q
    · exact q
    · rw [List.drop_of_length_le q] at h; cases h
  rw [List.drop_eq_getElem_cons hk] at h
  injection h with h1 h2
  exact ⟨by simp [List.getD_eq_getElem?_getD, hk, h1], h2, hk⟩
set_option maxHeartbeats 1000000 in
theorem next_any {D b : Nat} {L : List Int} (n : Int) (w : World) (h : DiceAt w D b L) (n2 : n ≤ 4611686018427387904) :
    Calls Tryz.prog 111 #[.pointer (some ⟨D, 0, none⟩), .int .i64 n] w (ThrowR w D b L n) := by
  have hD := h.lt
  have HH := Lib.hid h
  obtain ⟨A, m, c, k, full, e1, e2, e3, e4, e5, e6, e7, e8, e9⟩ := h
  subst e2
  have c0 : w.cell? ⟨D, 0, none⟩ = some (.slice A full.length c) := by rw [cell_of_row w D 0 _ _ _ e1]; rfl
  have c1 : w.cell? ⟨D, 1, none⟩ = some (.int .i64 (k : Int)) := by rw [cell_of_row w D 1 _ _ _ e1]; rfl
  have f1 : w.frozen? ⟨D, 1, none⟩ = false := by simp [World.frozen?, e1]
  unfold maxLen at e6
  cases L with
  | nil =>
    have hk : k = full.length := by
      have := congrArg List.length e4
      simp at this
      omega
    subst hk
    clear e4 e8 e9 e1
    go_enter Tryz.func111, Tryz.ntmps111
    go_wp2_with (go_quiet (fail))
    go_ret
    exact ⟨rfl, Gb.of _ (Ext.drewN_ _ _), HH.out.ext (Ext.drewN_ _ _), rfl⟩
  | cons x L =>
    obtain ⟨hx, hL, hlt⟩ := getD_drop e4
    obtain ⟨o, rfl, hbD, hcell⟩ := e9 (by omega)
    have hck := hcell k hlt
    rw [hx] at hck
    have hwx : wf64 x := e8 x (by rw [← hx]; simp [List.getD_eq_getElem?_getD, hlt])
    have hbD' : D ≠ b := fun q => hbD q.symm
    obtain ⟨x0, x1⟩ := hwx
    have HM := Lib.hid (fun W => mod_any x n W x0 x1 n2)
    have HL := Lib.hid hL
    have wi1 : IntKind.i64.wrap ((k : Int)) = (k : Int) := IntWalk.i64_in _ (by omega)
    have zi1 : (0 : Int) ≤ (k : Int) := by omega
    have li1 : (k : Int) < (full.length : Int) := by omega
    have ti1 : ((k : Int)).toNat = k := by omega
    have wj : IntKind.i64.wrap ((k : Int) + 1) = (k : Int) + 1 := IntWalk.i64_in _ (by omega)
    have HW := Lib.hid e8
    clear e4 e8 hcell hx hL x0 x1
    go_enter Tryz.func111, Tryz.ntmps111
    go_wp2_with (go_quiet (fail))
    have xq := Ext.drewN_ w nq
    have hbk := HH.out.ltb
    obtain ⟨w2, hw2, G2, D2, S2⟩ : ∃ w2, w2 = (w.drewN nq).setCell ⟨D, 1, none⟩ (.int .i64 ((k : Int) + 1)) ∧ Gb D w w2 ∧ DiceAt w2 D b L ∧ w2.heap.size = w.heap.size := by
      refine ⟨_, rfl, (Gb.of _ xq).tr (Gb.set D 1 _ _), ?_, by simp⟩
      have hb2 : ((w.drewN nq).setCell ⟨D, 1, none⟩ (.int .i64 ((k : Int) + 1))).heap[D]? = some (.cells #[.slice (some ⟨b, o, none⟩) full.length c, .int .i64 ((k : Int) + 1)] 217 (0, 0)) := by
        have := row_set ((xq.block D hD).trans e1) 1 (.int .i64 ((k : Int) + 1))
        simpa using this
      refine ⟨some ⟨b, o, none⟩, full.length, c, k + 1, full, hb2.trans (by simp), rfl, hlt, HL.out, e5, by unfold maxLen; exact e6, by simpa using e7, HW.out, fun h0 => ?_⟩
      obtain ⟨o', q1, q2, q3⟩ := e9 h0
      exact ⟨o', q1, q2, fun j hj => (World.cell?_of_block ((setCell_block hbD).trans (xq.block b e7))).trans (q3 j hj)⟩
    have HG := Lib.hid (And.intro G2 (And.intro D2 S2))
    have HB1 := Lib.hid e1
    clear e9 e1 G2 D2 S2
    rw [← hw2]
    have d1 : w2.cell? ⟨D, 1, none⟩ = some (.int .i64 ((k : Int) + 1)) := by
      have hb2 := row_set ((xq.block D hD).trans HB1.out) 1 (.int .i64 ((k : Int) + 1))
      rw [← hw2] at hb2
      rw [cell_of_row w2 D 1 _ _ _ hb2]
      simp
    have d0 : w2.cell? ⟨D, 0, none⟩ = some (.slice (some ⟨b, o, none⟩) full.length c) := by
      have hb2 := row_set ((xq.block D hD).trans HB1.out) 1 (.int .i64 ((k : Int) + 1))
      rw [← hw2] at hb2
      rw [cell_of_row w2 D 0 _ _ _ hb2]
      simp
    have dk : w2.cell? ⟨b, o + k, none⟩ = some (.int .i64 x) := by
      rw [hw2]
      exact (World.cell?_of_block ((setCell_block hbD).trans (xq.block b e7))).trans hck
    have hlD : D < w2.heap.size := by rw [HG.out.2.2]; exact hD
    have hlb : b < w2.heap.size := by rw [HG.out.2.2]; exact e7
    clear hw2 xq c0 c1 f1 hck
    go_wp2_with (go_quiet (first | (go_at_call 30; exact (HM.out _).mono fun _ _ ⟨h1, h2⟩ => ⟨h1, _, h2.symm⟩)))
    go_ret
    exact ⟨rfl, HG.out.1.tr (Gb.of _ (Ext.drewN_ _ _)), HG.out.2.1.ext (Ext.drewN_ _ _), HG.out.2.2⟩
end Go.Proofs.YtkjplpmogfmhkaaGreatDoor

namespace Go.Proofs.YtkjplpmogfmhkaaGreatDoor
open Go.RowKit
set_option linter.unusedVariables false
set_option maxRecDepth 100000

/-- A call that returns the name of a holder. -/
def NameR (w : World) (e : Ending) (w' : World) : Prop := Ext w w' ∧ ∃ nm : List UInt8, nameP nm ∧ e = .returned (.string (bstr nm))
theorem NameR.mk {w w' : World} (nm : List UInt8) (s : ByteArray) (hs : s = bstr nm) (h : nameP nm) (x : Ext w w') : NameR w (.returned (.string s)) w' := ⟨x, nm, h, by rw [hs]⟩
theorem mod_lt3 {n : Int} (h0 : 0 ≤ n) (h3 : n < 3) : modI n 3 = n := by rw [modI_pos (by omega)]; omega
theorem mod_cases2 (n : Int) : modI n 2 = 0 ∨ modI n 2 = 1 := by have := modI_bd (x := n) (m := 2) (by omega); omega
theorem mod_cases3 (n : Int) : modI n 3 = 0 ∨ modI n 3 = 1 ∨ modI n 3 = 2 := by have := modI_bd (x := n) (m := 3) (by omega); omega
set_option maxHeartbeats 1000000 in
theorem names_any (role n : Int) (w : World) (hn : wf64 n) : Calls Tryz.prog 113 #[.int .i64 role, .int .i64 n] w (NameR w) := by
  obtain ⟨n0, n1⟩ := hn
  have HM3 := Lib.hid (fun W => mod_any n 3 W n0 n1 (by omega))
  have HM2 := Lib.hid (fun W => mod_any n 2 W n0 n1 (by omega))
  have c3 := mod_cases3 n
  have c2 := mod_cases2 n
  generalize modI n 3 = m3 at *
  generalize modI n 2 = m2 at *
  clear n0 n1
  by_cases h1 : role = 1
  · subst h1
    clear c2 HM2
    go_enter Tryz.func113, Tryz.ntmps113
    go_wp2_with fail
    refine (HM3.out _).mono ?_
    rintro e w' ⟨rfl, rfl⟩
    rcases c3 with rfl | rfl | rfl
    · go_wp2_with fail
      go_ret
      exact NameR.mk [82, 79, 79, 84, 50] _ rfl (by decide) ((Below.refl _ _).alloc (Nat.le_refl _) _)
    · go_wp2_with fail
      go_ret
      exact NameR.mk [82, 79, 79, 84, 51] _ rfl (by decide) ((Below.refl _ _).alloc (Nat.le_refl _) _)
    · go_wp2_with fail
      go_ret
      exact NameR.mk [82, 79, 79, 84, 49] _ rfl (by decide) ((Below.refl _ _).alloc (Nat.le_refl _) _)
  by_cases h2 : role = 2
  · subst h2
    clear c3 HM3
    go_enter Tryz.func113, Tryz.ntmps113
    go_wp2_with fail
    refine (HM2.out _).mono ?_
    rintro e w' ⟨rfl, rfl⟩
    rcases c2 with rfl | rfl
    · go_wp2_with fail
      go_ret
      exact NameR.mk [72, 79, 77, 69, 49] _ rfl (by decide) ((Below.refl _ _).alloc (Nat.le_refl _) _)
    · go_wp2_with fail
      go_ret
      exact NameR.mk [72, 79, 77, 69, 50] _ rfl (by decide) ((Below.refl _ _).alloc (Nat.le_refl _) _)
  by_cases h3 : role = 3
  · subst h3
    clear c3 HM3
    go_enter Tryz.func113, Tryz.ntmps113
    go_wp2_with fail
    refine (HM2.out _).mono ?_
    rintro e w' ⟨rfl, rfl⟩
    rcases c2 with rfl | rfl
    · go_wp2_with fail
      go_ret
      exact NameR.mk [65, 87, 65, 89, 49] _ rfl (by decide) ((Below.refl _ _).alloc (Nat.le_refl _) _)
    · go_wp2_with fail
      go_ret
      exact NameR.mk [65, 87, 65, 89, 50] _ rfl (by decide) ((Below.refl _ _).alloc (Nat.le_refl _) _)
  · have e1 : (role == 1) = false := by simpa using h1
    have e2 : (role == 2) = false := by simpa using h2
    have e3 : (role == 3) = false := by simpa using h3
    clear c2 HM2 h1 h2 h3
    go_enter Tryz.func113, Tryz.ntmps113
    go_wp2_with fail
    refine (HM3.out _).mono ?_
    rintro e w' ⟨rfl, rfl⟩
    rcases c3 with rfl | rfl | rfl
    · go_wp2_with fail
      go_ret
      exact NameR.mk [84, 69, 82, 77, 49] _ rfl (by decide) ((Below.refl _ _).alloc (Nat.le_refl _) _)
    · go_wp2_with fail
      go_ret
      exact NameR.mk [84, 69, 82, 77, 50] _ rfl (by decide) ((Below.refl _ _).alloc (Nat.le_refl _) _)
    · go_wp2_with fail
      go_ret
      exact NameR.mk [84, 69, 82, 77, 51] _ rfl (by decide) ((Below.refl _ _).alloc (Nat.le_refl _) _)
/-- What Cert returns. -/
def certC (a h : List UInt8) (role rights fr td : Int) : TC := isC (holderK a) ⟨a, h, pw 4 (holderK h), role, rights, fr, td, 0, 0⟩
theorem sm_certC {a h : List UInt8} {role rights fr td : Int} (ha : a.length ≤ 4096) (hh : h.length ≤ 4096) : smT (certC a h role rights fr td) := sm_isC ⟨ha, hh⟩
theorem holder_l (l : List UInt8) (w : World) (hl : l.length ≤ 4096) : Calls Tryz.prog 112 #[.string (bstr l)] w fun e w' => e = .returned (.int .i64 (pw 4 (holderK l))) ∧ w = w' :=
  holder_any (bstr l) w (by show l.toArray.size ≤ _; unfold maxLen; simp; omega)
theorem tsecret_l (l : List UInt8) (w : World) (hl : l.length ≤ 4096) : Calls Tryz.prog 180 #[.string (bstr l)] w fun e w' => e = .returned (.int .i64 (holderK l)) ∧ w = w' :=
  tsecret_any (bstr l) w (by show l.toArray.size ≤ _; unfold maxLen; simp; omega)
set_option maxHeartbeats 4000000 in
theorem cert_any (a h : List UInt8) (role rights fr td : Int) (w : World) (ha : a.length ≤ 4096) (hh : h.length ≤ 4096) (E : KTab w 0) :
    Calls Tryz.prog 99 #[.string (bstr a), .string (bstr h), .int .i64 role, .int .i64 rights, .int .i64 fr, .int .i64 td] w (RetQ w (tcV (certC a h role rights fr td))) := by
  obtain ⟨wz, hwz, z0, zr⟩ := zero_alloc w
  have H1 := Lib.hid (fun W => tsecret_l a W ha)
  have H2 := Lib.hid (fun W => holder_l h W hh)
  obtain ⟨c1, hc1⟩ : ∃ c1, isC (holderK a) ⟨a, h, pw 4 (holderK h), role, rights, fr, td, 0, 0⟩ = c1 := ⟨_, rfl⟩
  have HC := Lib.hid hc1
  have H3 := Lib.hid (fun W (x : Ext w W) => refissue_any (holderK a) ⟨a, h, pw 4 (holderK h), role, rights, fr, td, 0, 0⟩ W ⟨ha, hh⟩ (E.below x))
  unfold certC
  rw [hc1]
  clear hc1
  generalize pw 4 (holderK h) = ph at *
  go_enter Tryz.func99, Tryz.ntmps99
  go_wp2_with fail
  rw [← hwz]
  clear hwz
  refine (H1.out _).mono ?_
  rintro e w' ⟨rfl, rfl⟩
  go_wp2_with fail
  refine (H2.out _).mono ?_
  rintro e w' ⟨rfl, rfl⟩
  go_wp2_with fail
  refine (H3.out _ z0).mono ?_
  rintro e w1 ⟨rfl, b1⟩
  rw [HC.out]
  clear H1 H2 H3 HC
  have x1 := z0.tr b1
  have zr1 := zr.ext b1
  have hl0 := zr.lt
  have hle := b1.size
  have hne : w.heap.size ≠ w1.heap.size := by omega
  have hne' : w1.heap.size ≠ w.heap.size := by omega
  obtain ⟨wa1, hwb1, ea1, TA1⟩ := zero_alloc w1
  have hwa1 := hwb1.symm
  clear hwb1
  obtain ⟨wc1, hwc1, ec1, TC1⟩ : ∃ wc, wc = (((((((((wa1.setCell ⟨w1.heap.size, 0, none⟩ (.string (bstr c1.au))).setCell ⟨w1.heap.size, 1, none⟩ (.string (bstr c1.ho))).setCell ⟨w1.heap.size, 2, none⟩ (.int .i64 c1.key)).setCell ⟨w1.heap.size, 3, none⟩ (.int .i64 c1.role)).setCell ⟨w1.heap.size, 4, none⟩ (.int .i64 c1.rights)).setCell ⟨w1.heap.size, 5, none⟩ (.int .i64 c1.fr)).setCell ⟨w1.heap.size, 6, none⟩ (.int .i64 c1.to)).setCell ⟨w1.heap.size, 7, none⟩ (.int .i64 c1.e)).setCell ⟨w1.heap.size, 8, none⟩ (.int .i64 c1.s)) ∧ Ext w1 wc ∧ TcAt wc w1.heap.size c1 := ⟨_, rfl, ext_setT ea1 (Nat.le_refl _) c1, TA1.setT c1⟩
  have HZ1 := Lib.hid (show wc1.heap.size = wa1.heap.size by rw [hwc1]; simp)
  have hla1 := TA1.lt
  obtain ⟨ra0, ra1, ra2, ra3, ra4, ra5, ra6, ra7, ra8⟩ := TA1.cells
  have ga0 := TA1.frozen 0
  have ga1 := TA1.frozen 1
  have ga2 := TA1.frozen 2
  have ga3 := TA1.frozen 3
  have ga4 := TA1.frozen 4
  have ga5 := TA1.frozen 5
  have ga6 := TA1.frozen 6
  have ga7 := TA1.frozen 7
  have ga8 := TA1.frozen 8
  clear ea1
  unfold tcV
  go_upto_region 2 with fail
  rw [← hwc1]
  clear hwc1 hwa1 hla1 TA1 ra0 ga0 ra1 ga1 ra2 ga2 ra3 ga3 ra4 ga4 ra5 ga5 ra6 ga6 ra7 ga7 ra8 ga8
  have zrc := zr1.ext ec1
  have hlr := zrc.lt
  have hlc := TC1.lt
  obtain ⟨i0, i1, i2, i3, i4, i5, i6, i7, i8⟩ := TC1.cells
  obtain ⟨s0, s1, s2, s3, s4, s5, s6, s7, s8⟩ := zrc.cells
  have f0 := zrc.frozen 0
  have f1 := zrc.frozen 1
  have f2 := zrc.frozen 2
  have f3 := zrc.frozen 3
  have f4 := zrc.frozen 4
  have f5 := zrc.frozen 5
  have f6 := zrc.frozen 6
  have f7 := zrc.frozen 7
  have f8 := zrc.frozen 8
  have TZ : TcAt (set9 wc1 w.heap.size (.string (bstr c1.au)) (.string (bstr c1.ho)) (.int .i64 c1.key) (.int .i64 c1.role) (.int .i64 c1.rights) (.int .i64 c1.fr) (.int .i64 c1.to) (.int .i64 c1.e) (.int .i64 c1.s)) w.heap.size c1 := zrc.setT c1
  have XF := Lib.hid (ext_setT (x1.tr ec1) (Nat.le_refl _) c1)
  clear zr zr1 zrc b1 z0 x1 HZ1
  go_wp2_with fail
  refine bodyPost_ret (v := tcV c1) ?_ rfl ⟨rfl, XF.out⟩
  obtain ⟨q0, q1, q2, q3, q4, q5, q6, q7, q8⟩ := TZ.cells
  clear s0 s1 s2 s3 s4 s5 s6 s7 s8 i0 i1 i2 i3 i4 i5 i6 i7 i8
  simp [results, Tryz.results99, go_sem, tcV, q0, q1, q2, q3, q4, q5, q6, q7, q8]
end Go.Proofs.YtkjplpmogfmhkaaGreatDoor

namespace Go.Proofs.YtkjplpmogfmhkaaGreatDoor
open Go.RowKit
set_option linter.unusedVariables false

theorem flat_len {α : Type} (f : α → List Value) (k : Nat) (hf : ∀ x, (f x).length = k) : ∀ l : List α, (l.flatMap f).length = l.length * k
  | [] => by simp
  | x :: l => by rw [List.flatMap_cons, List.length_append, hf, flat_len f k hf l, List.length_cons, Nat.succ_mul]; omega
theorem flat_get {α : Type} (f : α → List Value) (k : Nat) (hf : ∀ x, (f x).length = k) : ∀ (l : List α) (i : Nat) (hi : i < l.length) (j : Nat), j < k → (l.flatMap f)[i * k + j]? = (f l[i])[j]?
  | x :: l, 0, _, j, hj => by
    rw [List.flatMap_cons, List.getElem?_append_left (by rw [hf]; omega)]
    simp
  | x :: l, i + 1, hi, j, hj => by
    rw [List.flatMap_cons, List.getElem?_append_right (by rw [hf, Nat.succ_mul]; omega), hf, show (i + 1) * k + j - k = i * k + j by rw [Nat.succ_mul]; omega]
    rw [flat_get f k hf l i (by simpa using hi) j hj]
    rfl
/-- A slice of structs, opened. -/
theorem RdK.flat {w : World} {α : Type} {f : α → List Value} {k : Nat} (h0 : 0 < k) (hf : ∀ x, (f x).length = k) {v : Value} {l : List α} (h : RdK w k v (l.flatMap f)) :
    ∃ A n c, v = .slice A n c ∧ n = l.length ∧ n ≤ c ∧ c ≤ maxLen ∧ (0 < n → ∃ b o, A = some ⟨b, o, none⟩ ∧ b < w.heap.size ∧ ∀ (i : Nat) (hi : i < l.length) (j : Nat) (u : Value), (f l[i])[j]? = some u → w.cell? ⟨b, o + i * k + j, none⟩ = some u) := by
  obtain ⟨A, n, c, rfl, hn, hnc, hcm, hc⟩ := h
  have hl : n = l.length := by
    rw [flat_len f k hf] at hn
    exact Nat.eq_of_mul_eq_mul_right h0 hn
  refine ⟨A, n, c, rfl, hl, hnc, hcm, fun hp => ?_⟩
  obtain ⟨b, o, rfl, hcell⟩ := hc hp
  have all : ∀ (i : Nat) (hi : i < l.length) (j : Nat) (u : Value), (f l[i])[j]? = some u → w.cell? ⟨b, o + i * k + j, none⟩ = some u := fun i hi j u hu => by
    have hj : j < k := by rw [← hf l[i]]; exact (List.getElem?_eq_some_iff.1 hu).1
    rw [Nat.add_assoc]
    exact hcell _ u (by rw [flat_get f k hf l i hi j hj]; exact hu)
  refine ⟨b, o, rfl, ?_, all⟩
  have h1 : 0 < l.length := by omega
  have h2 : 0 < (f l[0]).length := by rw [hf]; exact h0
  exact World.block_lt_of_cell? w _ (all 0 h1 0 (f l[0])[0] (List.getElem?_eq_getElem h2))
end Go.Proofs.YtkjplpmogfmhkaaGreatDoor

namespace Go.Proofs.YtkjplpmogfmhkaaGreatDoor
open Go.RowKit
set_option linter.unusedVariables false
set_option maxRecDepth 100000

/-- A certificate's cells. -/
def tcCells (c : TC) : List Value := [.string (bstr c.au), .string (bstr c.ho), .int .i64 c.key, .int .i64 c.role, .int .i64 c.rights, .int .i64 c.fr, .int .i64 c.to, .int .i64 c.e, .int .i64 c.s]
def tcsCells (cs : List TC) : List Value := cs.flatMap tcCells
theorem tcsCells_len (cs : List TC) : (tcsCells cs).length = cs.length * 9 := by
  induction cs with
  | nil => rfl
  | cons c cs IH => show (tcCells c ++ tcsCells cs).length = _; rw [List.length_append, IH, List.length_cons]; show 9 + cs.length * 9 = _; omega
theorem tcsCells_snoc (cs : List TC) (c : TC) : tcsCells cs ++ tcCells c = tcsCells (cs ++ [c]) := by simp [tcsCells]
theorem tcCells_one (c : TC) : ∀ u ∈ tcCells c, u.oneCell' = true := by
  intro u hu
  simp only [tcCells, List.mem_cons, List.not_mem_nil, or_false] at hu
  rcases hu with rfl | rfl | rfl | rfl | rfl | rfl | rfl | rfl | rfl <;> rfl
theorem elemTc : ElemK Tryz.prog 44 35 9 88 := by
  have h : (Tryz.prog.info? 35).map (fun i => (i.zero, i.size, i.bytes)) = some (some (.agg #[.string ⟨#[]⟩, .string ⟨#[]⟩, .int .i64 0, .int .i64 0, .int .i64 0, .int .i64 0, .int .i64 0, .int .i64 0, .int .i64 0]), 9, 88) := by kernel_rfl
  obtain ⟨i, h1, h2, h3, h4⟩ := info_parts h
  exact ⟨i, _, Tryz.underlying44, h1, h2, h3, h4, rfl⟩
/-- Where Path stands: the dice, the certificates so far. -/
structure PaS (w : World) (B D b k : Nat) (out : Value) (wr : World) : Prop where
  dice : ∃ L, DiceAt wr D b L
  outp : ∃ A n cc, out = .slice A n cc ∧ n = k
  row : ∃ cs : List TC, OwnK wr B 35 9 out (tcsCells cs) ∧ cs.length = k ∧ ∀ c ∈ cs, validT' c
  ext : Ext w wr
  size : B ≤ wr.heap.size
theorem PaS.tr {w : World} {B D b k : Nat} {out : Value} {wr wx : World} (h : PaS w B D b k out wr) (e : Ext wr wx) : PaS w B D b k out wx := by
  obtain ⟨⟨L, h1⟩, h2, ⟨cs, h3, h4, h5⟩, h6, h7⟩ := h
  exact ⟨⟨L, h1.ext e⟩, h2, ⟨cs, h3.ext e, h4, h5⟩, h6.tr e, Nat.le_trans h7 e.size⟩
theorem paNext {w : World} {B D b k : Nat} {out : Value} {wr : World} (n : Int) (n1 : 1 ≤ n) (n2 : n ≤ 4611686018427387904) (hD : D < B) (hw : w.heap.size ≤ D) (h : PaS w B D b k out wr) :
    Calls Tryz.prog 111 #[.pointer (some ⟨D, 0, none⟩), .int .i64 n] wr fun e w' => ∃ z : Int, 0 ≤ z ∧ z < n ∧ e = .returned (.int .i64 z) ∧ PaS w B D b k out w' ∧ Gb D wr w' := by
  obtain ⟨⟨L, h1⟩, h2, ⟨cs, h3, h4, h5⟩, h6, h7⟩ := h
  refine (next_any n wr h1 n2).mono fun e w' ⟨q1, q2, q3, q4⟩ => ⟨dv L n, (dv_bd L n1).1, (dv_bd L n1).2, q1, ⟨⟨_, q3⟩, h2, ⟨cs, h3.grown q2 ?_, h4, h5⟩, Gb.below h6 q2 hw, by omega⟩, q2⟩
  cases hq : rowOf out with
  | none => exact .inl rfl
  | some r => exact .inr (fun q => by have := rowOf_geK h3 r hq; injection q with q; omega)
theorem PaS.poke {w : World} {B D b k : Nat} {out : Value} {wx : World} {g : Nat} (h : PaS w B D b k out wx) (h1 : D ≠ g) (h2 : b ≠ g) (h3 : ∀ r, rowOf out = some r → r ≠ g) (h4 : w.heap.size ≤ g) (i : Nat) (v : Value) : PaS w B D b k out (wx.setCell ⟨g, i, none⟩ v) := by
  obtain ⟨⟨L, q1⟩, q2, ⟨cs, q3, q4, q5⟩, q6, q7⟩ := h
  refine ⟨⟨L, q1.keep (setCell_block h1) (setCell_block h2)⟩, q2, ⟨cs, q3.grown (Gb.set g i wx v) ?_, q4, q5⟩, ext_set q6 h4, by simpa using q7⟩
  cases hq : rowOf out with
  | none => exact .inl rfl
  | some r => exact .inr (fun q => h3 r hq (by injection q))
/-- What Path returns. -/
def PathR (w : World) (e : Ending) (w' : World) : Prop := Ext w w' ∧ ∃ (A : Option Addr) (n c : Nat) (cs : List TC), e = .returned (.slice A n c) ∧ OwnK w' w.heap.size 35 9 (.slice A n c) (tcsCells cs) ∧ Hid (n = cs.length) ∧ 1 ≤ cs.length ∧ cs.length ≤ 4 ∧ ∀ c ∈ cs, validT' c
/-- Where the loop of Path stands. -/
def PaL (w : World) (B D b : Nat) (at_ role out i : Value) (wr : World) : Prop :=
  ∃ (k : Nat) (nm : List UInt8) (r : Int), k ≤ 4 ∧ i = .int .i64 (k : Int) ∧ at_ = .string (bstr nm) ∧ nameP nm ∧ role = .int .i64 r ∧ 1 ≤ r ∧ r ≤ 4 ∧ (k = 0 → r = 1) ∧ PaS w B D b k out wr
theorem valid_cert {a h : List UInt8} {role rights fr td : Int} (h1 : nameP a) (h2 : nameP h) (h3 : 1 ≤ role ∧ role ≤ 4) (h4 : 0 ≤ rights ∧ rights ≤ 65535) (h5 : daysP fr td) : validT' (certC a h role rights fr td) :=
  valid_issue (holderK_in a) (ck_ok h1 h2 (elem_holder h) (by show ¬ (role < 1 ∨ 4 < role); omega) (by show ¬ (rights < 0 ∨ 65535 < rights); omega) h5)
theorem name_len {l : List UInt8} (h : nameP l) : l.length ≤ 4096 := by have := h.1.2; omega
theorem valid_s {c : TC} (h : validT' c) (s : Int) (h0 : 0 ≤ s) (h1 : s < 1073741789) : validT' (updS c c.e s) :=
  ⟨h.1, encK_in (encK_ok h.2).1 ⟨h0, h1⟩⟩
theorem valid_au {c : TC} (h : validT' c) (l : List UInt8) (hl : nameP l) : validT' ⟨l, c.ho, c.key, c.role, c.rights, c.fr, c.to, c.e, c.s⟩ := by
  obtain ⟨h1, h2, h3, h4, h5, h6, h7, h8⟩ := ckT_ok h.1
  exact ⟨ck_ok hl h2 h3 (by show ¬ (c.role < 1 ∨ 4 < c.role); omega) (by show ¬ (c.rights < 0 ∨ 65535 < c.rights); omega) h8, h.2⟩
theorem TcAt.setS {w : World} {g : Nat} {c : TC} (h : TcAt w g c) (s : Int) : TcAt (w.setCell ⟨g, 8, none⟩ (.int .i64 s)) g (updS c c.e s) := by
  have h9 := row_set h 8 (.int .i64 s)
  simp only [List.setIfInBounds_toArray, List.set_cons_zero, List.set_cons_succ] at h9
  exact h9
theorem TcAt.setAu {w : World} {g : Nat} {c : TC} (h : TcAt w g c) (l : List UInt8) : TcAt (w.setCell ⟨g, 0, none⟩ (.string (bstr l))) g ⟨l, c.ho, c.key, c.role, c.rights, c.fr, c.to, c.e, c.s⟩ := by
  have h9 := row_set h 0 (.string (bstr l))
  simp only [List.setIfInBounds_toArray, List.set_cons_zero] at h9
  exact h9
set_option maxHeartbeats 8000000 in
theorem path_any {v : Value} {l : List Int} (w : World) (h : RdI w .i64 v l) (hw : ∀ x ∈ l, wf64 x) (hl : l.length ≤ 1000) (E : KTab w 0) :
    Calls Tryz.prog 28 #[v] w (PathR w) := by
  go_enter Tryz.func28, Tryz.ntmps28
  go_wp2_with fail
  refine (roll_any w h hw hl).mono ?_
  rintro e w1 ⟨D, b, rfl, hD, hb, hd, b1⟩
  go_wp2_with fail
  refine (next_any 6 w1 hd (by omega)).mono ?_
  rintro e w2 ⟨rfl, g2, d2, z2⟩
  have x2 := Gb.below b1 g2 hD
  have hDB := d2.lt
  have hbB := d2.ltb
  have PS0 : PaS w w2.heap.size D b 0 (.slice none 0 0) w2 := ⟨⟨_, d2⟩, ⟨_, _, _, rfl, rfl⟩, ⟨[], OwnK.empty _ _ _ _ _, rfl, fun c hc => by cases hc⟩, x2, Nat.le_refl _⟩
  have HPS := Lib.hid PS0
  generalize dv l 6 = z6 at *
  clear d2 g2 hd z2 x2 PS0 b1 h
  go_upto_if 16 with fail
  go_cut [4] from 12 to 78 (fun s4 wx => (∃ nm, nameP nm ∧ s4 = .string (bstr nm)) ∧ wx = w2)
  case first =>
    by_cases h5 : z6 = 5
    · have hb5 : (z6 == 5) = true := by simp [h5]
      clear h5
      go_wp2_with fail
      go_meet
      exact ⟨⟨[82, 79, 79, 84, 50], by decide, rfl⟩, rfl⟩
    · have hb5 : (z6 == 5) = false := by simpa using h5
      clear h5
      go_wp2_with fail
      go_meet
      exact ⟨⟨rootN, name_root, rfl⟩, rfl⟩
  case rest =>
    obtain ⟨⟨nm, hnm, rfl⟩, rfl⟩ := hcut
    generalize wc.heap.size = B at *
    go_wp2_with fail
    go_loopw [4, 5, 6, 7] (fun s4 s5 s6 s7 wr => PaL w B D b s4 s5 s6 s7 wr) (fun _ _ _ i _ => 4 - (intOf i).toNat)
    case atStart => exact ⟨0, nm, 1, by omega, rfl, rfl, hnm, rfl, by omega, by omega, fun _ => rfl, HPS.out⟩
    case round =>
      obtain ⟨k, nm, r, hk, rfl, rfl, hnm, rfl, r1, r4, hk0, ps⟩ := hrel
      obtain ⟨A, n, cc, rfl, hn⟩ := ps.outp
      have HN := Lib.hid hn
      clear hn
      have PS := Lib.hid ps
      have HK0 := Lib.hid hk0
      clear ps hk0
      by_cases hc : k < 4 ∧ r ≠ 4
      · obtain ⟨hk4, hr4⟩ := hc
        have hk4' : (k : Int) < 4 := by omega
        have hr4' : (r != 4) = true := by simpa using hr4
        clear hr4
        go_upto_if 26 with fail
        go_cut [8] from 17 to 77 (fun s8 wx => ∃ z : Int, s8 = .int .i64 z ∧ 1 ≤ z ∧ z ≤ 4 ∧ PaS w B D b k (.slice A n cc) wx)
        case first =>
          by_cases hr : r = 1
          · subst hr
            have eX : Ext wr (wr.alloc (.cells #[.int .i64 2, .int .i64 3, .int .i64 1, .int .i64 2, .int .i64 4] 3)) := (Below.refl _ _).alloc (Nat.le_refl _) _
            have hXD : wr.heap.size ≠ D := by have := PS.out.size; omega
            go_wp2_with fail
            refine (paNext 5 (by omega) (by omega) hDB hD (PS.out.tr eX)).mono ?_
            rintro e w3 ⟨z, z0, z5, rfl, ps3, g3⟩
            have row : w3.heap[wr.heap.size]? = some (.cells #[.int .i64 2, .int .i64 3, .int .i64 1, .int .i64 2, .int .i64 4] 3 (0, 0)) := (g3.block _ (by simp) (fun q => hXD (by injection q))).trans (heap_alloc_new' _ _)
            have y0 : w3.cell? ⟨wr.heap.size, 0, none⟩ = some (.int .i64 2) := by rw [cell_of_row w3 _ 0 _ _ _ row]; rfl
            have y1 : w3.cell? ⟨wr.heap.size, 1, none⟩ = some (.int .i64 3) := by rw [cell_of_row w3 _ 1 _ _ _ row]; rfl
            have y2 : w3.cell? ⟨wr.heap.size, 2, none⟩ = some (.int .i64 1) := by rw [cell_of_row w3 _ 2 _ _ _ row]; rfl
            have y3 : w3.cell? ⟨wr.heap.size, 3, none⟩ = some (.int .i64 2) := by rw [cell_of_row w3 _ 3 _ _ _ row]; rfl
            have y4 : w3.cell? ⟨wr.heap.size, 4, none⟩ = some (.int .i64 4) := by rw [cell_of_row w3 _ 4 _ _ _ row]; rfl
            have P3 := Lib.hid ps3
            have hz : z = 0 ∨ z = 1 ∨ z = 2 ∨ z = 3 ∨ z = 4 := by omega
            clear row g3 ps3 z0 z5
            rcases hz with rfl | rfl | rfl | rfl | rfl
            · go_wp2_with fail
              go_meet
              exact ⟨2, rfl, by omega, by omega, P3.out⟩
            · go_wp2_with fail
              go_meet
              exact ⟨3, rfl, by omega, by omega, P3.out⟩
            · go_wp2_with fail
              go_meet
              exact ⟨1, rfl, by omega, by omega, P3.out⟩
            · go_wp2_with fail
              go_meet
              exact ⟨2, rfl, by omega, by omega, P3.out⟩
            · go_wp2_with fail
              refine (paNext 3 (by omega) (by omega) hDB hD P3.out).mono ?_
              rintro e w4 ⟨z, z0, z3, rfl, ps4, g4⟩
              have P4 := Lib.hid ps4
              clear ps4 g4
              by_cases hz : 0 < z
              · go_wp2_with fail
                go_meet
                exact ⟨3, rfl, by omega, by omega, P4.out⟩
              · go_wp2_with fail
                go_meet
                exact ⟨4, rfl, by omega, by omega, P4.out⟩
          · have hr' : (r == 1) = false := by simpa using hr
            clear hr
            go_wp2_with fail
            go_meet
            exact ⟨4, rfl, by omega, by omega, PS.out⟩
        case rest =>
          obtain ⟨nx, rfl, nx1, nx4, psx⟩ := hcut
          have PX := Lib.hid psx
          clear psx
          go_wp2_with fail
          refine (paNext 3 (by omega) (by omega) hDB hD PX.out).mono ?_
          rintro e w3 ⟨z3, a0, a1, rfl, ps3, g3⟩
          clear g3
          go_wp2_with fail
          refine (names_any nx z3 _ ⟨by omega, by omega⟩).mono ?_
          rintro e w4 ⟨x4, nm2, hnm2, rfl⟩
          have P4 := Lib.hid (ps3.tr x4)
          clear ps3 x4 a0 a1
          go_wp2_with fail
          refine (paNext 70 (by omega) (by omega) hDB hD P4.out).mono ?_
          rintro e w5 ⟨z70, c0, c1, rfl, ps5, g5⟩
          have P5 := Lib.hid ps5
          clear ps5 g5
          go_wp2_with fail
          refine (paNext 64 (by omega) (by omega) hDB hD P5.out).mono ?_
          rintro e w6 ⟨z64, d0, d1, rfl, ps6, g6⟩
          have P6 := Lib.hid ps6
          clear ps6 g6
          go_wp2_with fail
          refine (paNext 60 (by omega) (by omega) hDB hD P6.out).mono ?_
          rintro e w7 ⟨z60, e0, e1, rfl, ps7, g7⟩
          have P7 := Lib.hid ps7
          clear ps7 g7
          have hv := valid_cert (rights := z64) (fr := 20 + z70) (td := 20 + z70 + 20 + z60) hnm hnm2 ⟨nx1, nx4⟩ ⟨d0, by omega⟩ ⟨by omega, by omega, by omega⟩
          have hcert := fun W (x : Ext w W) => cert_any nm nm2 nx z64 (20 + z70) (20 + z70 + 20 + z60) W (name_len hnm) (name_len hnm2) (E.below x)
          generalize certC nm nm2 nx z64 (20 + z70) (20 + z70 + 20 + z60) = c9 at *
          have HV := Lib.hid hv
          have HCt := Lib.hid hcert
          clear hv hcert
          go_wp2_with fail
          refine (HCt.out _ P7.out.ext).mono ?_
          rintro e w8 ⟨rfl, b8⟩
          have P8 := Lib.hid (P7.out.tr b8)
          clear b8 c0 c1 d0 d1 e0 e1
          obtain ⟨wa1, hwb1, ea1, TA1⟩ := zero_alloc w8
          have hwa1 := hwb1.symm
          clear hwb1
          obtain ⟨wc1, hwc1, ec1, TC1⟩ : ∃ wc, wc = (((((((((wa1.setCell ⟨w8.heap.size, 0, none⟩ (.string (bstr c9.au))).setCell ⟨w8.heap.size, 1, none⟩ (.string (bstr c9.ho))).setCell ⟨w8.heap.size, 2, none⟩ (.int .i64 c9.key)).setCell ⟨w8.heap.size, 3, none⟩ (.int .i64 c9.role)).setCell ⟨w8.heap.size, 4, none⟩ (.int .i64 c9.rights)).setCell ⟨w8.heap.size, 5, none⟩ (.int .i64 c9.fr)).setCell ⟨w8.heap.size, 6, none⟩ (.int .i64 c9.to)).setCell ⟨w8.heap.size, 7, none⟩ (.int .i64 c9.e)).setCell ⟨w8.heap.size, 8, none⟩ (.int .i64 c9.s)) ∧ Ext w8 wc ∧ TcAt wc w8.heap.size c9 := ⟨_, rfl, ext_setT ea1 (Nat.le_refl _) c9, TA1.setT c9⟩
          have HZ1 := Lib.hid (show wc1.heap.size = wa1.heap.size by rw [hwc1]; simp)
          have hla1 := TA1.lt
          obtain ⟨ra0, ra1, ra2, ra3, ra4, ra5, ra6, ra7, ra8⟩ := TA1.cells
          have ga0 := TA1.frozen 0
          have ga1 := TA1.frozen 1
          have ga2 := TA1.frozen 2
          have ga3 := TA1.frozen 3
          have ga4 := TA1.frozen 4
          have ga5 := TA1.frozen 5
          have ga6 := TA1.frozen 6
          have ga7 := TA1.frozen 7
          have ga8 := TA1.frozen 8
          clear ea1
          unfold tcV
          go_wp2_with fail
          rw [← hwc1]
          clear hwc1 hwa1 hla1 TA1 ra0 ga0 ra1 ga1 ra2 ga2 ra3 ga3 ra4 ga4 ra5 ga5 ra6 ga6 ra7 ga7 ra8 ga8
          have hne8 : w8.heap.size ≠ D := by have := P8.out.size; omega
          have P9 := Lib.hid (P8.out.tr ec1)
          have hrl : ∀ q, rowOf (.slice A n cc) = some q → q ≠ w8.heap.size := fun q hq => by
            obtain ⟨cs, h3, _⟩ := P8.out.row
            have := rowOf_ltK h3 q hq
            omega
          have hDg : D ≠ w8.heap.size := fun q => hne8 q.symm
          have hbg : b ≠ w8.heap.size := by have := P8.out.size; omega
          have hwg : w.heap.size ≤ w8.heap.size := P8.out.ext.size
          have HRL := Lib.hid hrl
          clear hrl
          refine (paNext 16 (by omega) (by omega) hDB hD P9.out).mono ?_
          rintro e w10 ⟨z16, h0, h1, rfl, ps10, g10⟩
          have T10 : TcAt w10 w8.heap.size c9 := (g10.block _ TC1.lt (fun q => hne8 (by injection q))).trans TC1
          have P10 := Lib.hid ps10
          clear TC1 ec1 g10 ps10 HZ1
          go_upto_block 2 with fail
          go_cut [] from 17 to 77 (fun wx => ∃ c2, validT' c2 ∧ TcAt wx w8.heap.size c2 ∧ PaS w B D b k (.slice A n cc) wx)
          case first =>
            obtain ⟨_, s0, s1⟩ := encK_ok HV.out.2
            obtain ⟨t0, _, _, _, _, _, _, _, t8⟩ := T10.cells
            have f0 := T10.frozen 0
            have f8 := T10.frozen 8
            have hl10 := T10.lt
            by_cases h15 : z16 = 15
            · have hb : (z16 == 15) = true := by simp [h15]
              have HM := Lib.hid (fun W => mod_any (c9.s + 1) 1073741789 W (by omega) (by omega) (by omega))
              have hm := modI_bd (x := c9.s + 1) (m := 1073741789) (by omega)
              generalize modI (c9.s + 1) 1073741789 = ms at *
              have Z := Lib.hid (show ∃ c2, validT' c2 ∧ TcAt (w10.setCell ⟨w8.heap.size, 8, none⟩ (.int .i64 ms)) w8.heap.size c2 ∧ PaS w B D b k (.slice A n cc) (w10.setCell ⟨w8.heap.size, 8, none⟩ (.int .i64 ms)) from ⟨_, valid_s HV.out ms hm.1 hm.2, T10.setS ms, P10.out.poke hDg hbg HRL.out hwg 8 _⟩)
              clear h15 hm
              go_wp2_with fail
              refine (HM.out _).mono ?_
              rintro e w' ⟨rfl, rfl⟩
              go_wp2_with fail
              go_meet
              exact Z.out
            · have hb : (z16 == 15) = false := by simpa using h15
              clear h15
              by_cases h14 : z16 = 14
              · have hb2 : (z16 == 14) = true := by simp [h14]
                have Z := Lib.hid (show ∃ c2, validT' c2 ∧ TcAt (w10.setCell ⟨w8.heap.size, 0, none⟩ (.string (bstr homeN))) w8.heap.size c2 ∧ PaS w B D b k (.slice A n cc) (w10.setCell ⟨w8.heap.size, 0, none⟩ (.string (bstr homeN))) from ⟨_, valid_au HV.out homeN name_home, T10.setAu homeN, P10.out.poke hDg hbg HRL.out hwg 0 _⟩)
                clear h14
                go_wp2_with fail
                go_meet
                exact Z.out
              · have hb2 : (z16 == 14) = false := by simpa using h14
                clear h14
                go_wp2_with fail
                go_meet
                exact ⟨c9, HV.out, T10, P10.out⟩
          case rest =>
            obtain ⟨c2, hv2, T2, ps2⟩ := hcut
            obtain ⟨cs, ow, hcs, hcv⟩ := ps2.row
            obtain ⟨t0, t1, t2, t3, t4, t5, t6, t7, t8⟩ := T2.cells
            have hlt := T2.lt
            have eA : Ext wc (wc.alloc (.cells #[.string (bstr c2.au), .string (bstr c2.ho), .int .i64 c2.key, .int .i64 c2.role, .int .i64 c2.rights, .int .i64 c2.fr, .int .i64 c2.to, .int .i64 c2.e, .int .i64 c2.s] 35)) := (Below.refl _ _).alloc (Nat.le_refl _) _
            have RK := RdK.lit wc 9 #[.string (bstr c2.au), .string (bstr c2.ho), .int .i64 c2.key, .int .i64 c2.role, .int .i64 c2.rights, .int .i64 c2.fr, .int .i64 c2.to, .int .i64 c2.e, .int .i64 c2.s] 35 1 rfl (by unfold maxLen; omega)
            have HNX := Lib.hid (show n * 9 = (tcsCells cs).length by rw [tcsCells_len, hcs, HN.out])
            have HN4 := Lib.hid (show n ≤ 4 by rw [HN.out]; omega)
            obtain ⟨L, hd⟩ := ps2.dice
            have hd2 := hd.ext eA
            have owA := ow.ext eA
            have hge := rowOf_geK owA
            have xA := ps2.ext.tr eA
            have hBs : B ≤ (wc.alloc (.cells #[.string (bstr c2.au), .string (bstr c2.ho), .int .i64 c2.key, .int .i64 c2.role, .int .i64 c2.rights, .int .i64 c2.fr, .int .i64 c2.to, .int .i64 c2.e, .int .i64 c2.s] 35)).heap.size := Nat.le_trans ps2.size eA.size
            have HH := Lib.hid (And.intro hcs (And.intro hcv (And.intro hd2 (And.intro hge (And.intro xA hBs)))))
            have HO := Lib.hid owA
            clear hcs hcv hd hd2 hge xA hBs owA ow ps2
            go_wp2_with (refine wpList_appKR (k := 9) (by decide) elemTc (n := n) (m := 1) HO.out HNX.out RK rfl (tcCells_one c2) (Below.refl _ _) (by have := HN4.out; omega) (by have := HN4.out; unfold maxLen; omega) HH.out.2.2.2.2.2 rfl rfl rfl rfl ?_; intro A8 n8 c8 w9 hn8 o8 _ g8 h8)
            obtain ⟨hcs, hcv, hd2, hge, xA, hBs⟩ := HH.out
            have hd9 : DiceAt w9 D b L := hd2.keep (g8.block D hd2.lt (fun q => by have := hge _ q.symm; omega)) (g8.block b hd2.ltb (fun q => by have := hge _ q.symm; omega))
            have x9 : Ext w w9 := xA.grown g8 xA.size (fun r hr => by have := hge r hr; omega)
            have P9' : PaS w B D b (k + 1) (.slice A8 n8 c8) w9 := ⟨⟨L, hd9⟩, ⟨_, _, _, rfl, by rw [hn8.out, HN.out]⟩, ⟨cs ++ [c2], by rw [← tcsCells_snoc]; exact o8, by simp [hcs], fun c hc => by
              rcases List.mem_append.1 hc with q | q
              · exact hcv c q
              · rw [List.mem_singleton.1 q]; exact hv2⟩, x9, Nat.le_trans hBs g8.size⟩
            have PP := Lib.hid P9'
            clear P9' hd9 hd2 hcs hcv hge xA hBs o8 g8 h8
            go_roundw
            case rel =>
              repeat (first | exact ⟨⟨k + 1, nm2, nx, by omega, by go_num, rfl, hnm2, rfl, nx1, nx4, by omega, PP.out⟩, rfl⟩ | refine ⟨_, ?_⟩)
              exact ⟨k + 1, nm2, nx, by omega, by go_num, rfl, hnm2, rfl, nx1, nx4, by omega, PP.out⟩
            case measure => simp [intOf]; omega
      · have hex : ¬ ((k : Int) < 4) ∨ ((k : Int) < 4 ∧ r = 4) := by
          by_cases hk4 : k < 4
          · exact .inr ⟨by omega, by by_cases q : r = 4; exact q; exact absurd ⟨hk4, q⟩ hc⟩
          · exact .inl (by omega)
        obtain ⟨cs, ow, hcs, hcv⟩ := PS.out.row
        have FIN := Lib.hid (show PathR w (.returned (.slice A n cc)) wr from ⟨PS.out.ext, A, n, cc, cs, rfl, ow.mono (by omega), (show _ = _ by rw [HN.out, hcs]), by
          rw [hcs]
          rcases hex with q | q
          · omega
          · by_cases k0 : k = 0
            · have := HK0.out k0; omega
            · omega, by rw [hcs]; exact hk, hcv⟩)
        clear ow hcs hcv hc
        rcases hex with q | ⟨q, rfl⟩
        · go_wp2_with fail
          go_ret
          exact FIN.out
        · go_wp2_with fail
          go_ret
          exact FIN.out
end Go.Proofs.YtkjplpmogfmhkaaGreatDoor
