/- Layer 27: terminalauth and its reference. -/
import Derived.Test.YteihfboomegpkaaDoorBk
import Derived.Test.YteihfboomegpkaaDoorMl
import Derived.Test.YteihfboomegpkaaDoorSx
namespace Go.Proofs.YteihfboomegpkaaDoor
open Go.RowKit
set_option linter.unusedVariables false
set_option maxRecDepth 100000

def taHead (n : Nat) : List UInt8 := [84, 65, 49, u8 (n : Int)]
def taMsg (id ch sh : List UInt8) : List UInt8 := taHead id.length ++ id ++ ch ++ sh
def taOk (id ch sh : List UInt8) : Prop := 1 ≤ id.length ∧ id.length ≤ 32 ∧ ch.length = 8 ∧ sh.length = 8
instance (id ch sh : List UInt8) : Decidable (taOk id ch sh) := inferInstanceAs (Decidable (_ ∧ _))
theorem taMsg_length (id ch sh : List UInt8) : (taMsg id ch sh).length = 4 + id.length + ch.length + sh.length := by simp [taMsg, taHead]; omega
theorem splice_rep {p ys : List UInt8} {m off : Nat} (ho : off = p.length) (h : ys.length ≤ m) : (p ++ List.replicate m 0).take off ++ ys ++ (p ++ List.replicate m 0).drop (off + ys.length) = p ++ ys ++ List.replicate (m - ys.length) 0 := by
  subst ho
  rw [List.take_left, List.drop_append, List.drop_of_length_le (by omega), List.drop_replicate]
  simp
/-- Where the loop stands. -/
def MsgR (w : World) (g g2 : Nat) (id ch sh : List UInt8) (sl : Array Value) (n i : Value) (wr : World) : Prop :=
  Below w.heap.size w wr ∧ wr.heap[g2]? = some (.cells sl 22 (0, 0)) ∧
  ((i = .int .i64 0 ∧ n = .int .i64 4 ∧ Bk wr g (taHead id.length ++ List.replicate (id.length + 16) 0)) ∨
   (i = .int .i64 1 ∧ n = .int .i64 (4 + (id.length : Int)) ∧ Bk wr g (taHead id.length ++ id ++ List.replicate 16 0)) ∨
   (i = .int .i64 2 ∧ n = .int .i64 (4 + (id.length : Int) + (ch.length : Int)) ∧ Bk wr g (taHead id.length ++ id ++ ch ++ List.replicate 8 0)) ∨
   (i = .int .i64 3 ∧ Bk wr g (taMsg id ch sh)))
set_option maxHeartbeats 2000000 in
theorem message_yes {a b c : Value} {id ch sh : List UInt8} (w : World) (ha : Rd w a (bvs id)) (hb : Rd w b (bvs ch)) (hc : Rd w c (bvs sh)) (h : taOk id ch sh) :
    Calls Tryd.prog 53 #[a, b, c] w (RetBE w (taMsg id ch sh) 0) := by
  obtain ⟨h1, h32, h8, h8'⟩ := h
  have ha0 := ha
  have hb0 := hb
  have hc0 := hc
  obtain ⟨A, na, ca, rfl, hna, hnac, hcam, hA⟩ := ha.bytes
  obtain ⟨B, nb, cb, rfl, hnb, hnbc, hcbm, hB⟩ := hb.bytes
  obtain ⟨C, nc, cc, rfl, hnc, hncc, hccm, hC⟩ := hc.bytes
  subst hna hnb hnc
  clear hA hB hC ha hb hc
  have t1 : ((ch.length : Int) != 8) = false := by simp; omega
  have t2 : ((sh.length : Int) != 8) = false := by simp; omega
  have l1 : ch.length ≤ 8 := by omega
  have l2 : 8 ≤ ch.length := by omega
  have l3 : sh.length ≤ 8 := by omega
  have l4 : 8 ≤ sh.length := by omega
  have H8 := Lib.hid h8
  have H8' := Lib.hid h8'
  clear h8 h8'
  unfold maxLen at hcam hcbm hccm
  go_enter Tryd.func53, Tryd.ntmps53
  go_wp2_with (first
    | (refine makeB (id.length + 20) _ rfl rfl rfl rfl (by omega) (by omega) (Below.refl _ _) (Nat.le_refl _) ?_; intro w1 k1 b1 x1)
    | (refine copyS (off := 0) 3 rfl k1 (by show 3 ≤ _; omega) (by show 0 + 3 ≤ _; simp) b1 (Nat.le_refl _) rfl rfl rfl rfl ?_; intro w2 k2 b2 o2 z2; clear z2; have k2' : Bk w2 w.heap.size ([84, 65, 49] ++ List.replicate (id.length + 17) 0) := (by have e : (List.replicate (id.length + 20) (0 : UInt8)).drop 3 = List.replicate (id.length + 17) 0 := (by rw [List.drop_replicate]; rfl); have k3 := k2; rw [show (0 + (ByteArray.mk #[84, 65, 49]).size) = 3 from rfl, e] at k3; exact k3); have c3 := k2'.cell (j := 3) (by simp); have f3 := k2'.frozen 3; clear k2))
  have k3 := k2'.set 3 (id.length : Int) (by omega) (by omega)
  have e3 : ([84, 65, 49] ++ List.replicate (id.length + 17) (0 : UInt8)).set 3 (u8 (id.length : Int)) = taHead id.length ++ List.replicate (id.length + 16) 0 := by
    rw [show id.length + 17 = (id.length + 16) + 1 from rfl, List.replicate_succ]
    rfl
  rw [e3] at k3
  have k4 := k3.ext ((Below.refl _ _).alloc (Nat.le_refl _) (.cells #[.slice A id.length ca, .slice B ch.length cb, .slice C sh.length cc] 22))
  have s4 := heap_alloc_new' (w2.setCell ⟨w.heap.size, 3, none⟩ (.int .u8 (id.length : Int))) (.cells #[.slice A id.length ca, .slice B ch.length cb, .slice C sh.length cc] 22)
  have b4 : Below w.heap.size w ((w2.setCell ⟨w.heap.size, 3, none⟩ (.int .u8 (id.length : Int))).alloc (.cells #[.slice A id.length ca, .slice B ch.length cb, .slice C sh.length cc] 22)) := (b2.setCell (p := ⟨w.heap.size, 3, none⟩) (Nat.le_refl _) _).alloc (by simpa using b2.size) _
  have z4 : (w2.setCell ⟨w.heap.size, 3, none⟩ (.int .u8 (id.length : Int))).heap.size = w2.heap.size := by simp
  rw [z4] at s4
  have hlt := k2'.lt
  have R0 : MsgR w w.heap.size w2.heap.size id ch sh #[.slice A id.length ca, .slice B ch.length cb, .slice C sh.length cc] (.int .i64 4) (.int .i64 0) ((w2.setCell ⟨w.heap.size, 3, none⟩ (.int .u8 (id.length : Int))).alloc (.cells #[.slice A id.length ca, .slice B ch.length cb, .slice C sh.length cc] 22)) := ⟨b4, s4, .inl ⟨rfl, rfl, k4⟩⟩
  clear c3 f3 k3 k4 s4 b4 k1 b1 x1 b2 o2 k2' z4 e3
  go_loopw [9, 11, 50] (fun n _ i wr => MsgR w w.heap.size w2.heap.size id ch sh #[.slice A id.length ca, .slice B ch.length cb, .slice C sh.length cc] n i wr) (fun _ _ i _ => 3 - (intOf i).toNat)
  case atStart => exact R0
  case round =>
    obtain ⟨bb, hs, hrel⟩ := hrel
    have hne : w2.heap.size ≠ w.heap.size := by omega
    have g0 : wr.cell? ⟨w2.heap.size, 0, none⟩ = some (.slice A id.length ca) := by rw [cell_of_row wr _ 0 _ _ _ hs]; rfl
    have g1 : wr.cell? ⟨w2.heap.size, 1, none⟩ = some (.slice B ch.length cb) := by rw [cell_of_row wr _ 1 _ _ _ hs]; rfl
    have g2 : wr.cell? ⟨w2.heap.size, 2, none⟩ = some (.slice C sh.length cc) := by rw [cell_of_row wr _ 2 _ _ _ hs]; rfl
    have HS := Lib.hid hs
    clear hs
    rcases hrel with ⟨rfl, rfl, k⟩ | ⟨rfl, rfl, k⟩ | ⟨rfl, rfl, k⟩ | ⟨rfl, k⟩
    · go_wp2_with (refine copyB (off := 4) (ys := id) k (ha0.below bb) (by omega) (by omega) (by simp [taHead]; omega) bb (Nat.le_refl _) rfl rfl rfl rfl ?_; intro w5 k5 b5 o5 z5)
      have k5' : Bk w5 w.heap.size (taHead id.length ++ id ++ List.replicate 16 0) := by
        have e := splice_rep (p := taHead id.length) (ys := id) (m := id.length + 16) (off := 4) rfl (by omega)
        rw [show id.length + 16 - id.length = 16 by omega] at e
        rw [e] at k5
        exact k5
      go_roundw
      case rel => exact ⟨b5, (o5 _ hne).trans HS.out, .inr (.inl ⟨rfl, rfl, k5'⟩)⟩
      case measure => simp [intOf]
    · go_wp2_with (refine copyB (off := 4 + id.length) (ys := ch) k (hb0.below bb) (by omega) (by omega) (by simp [taHead]; omega) bb (Nat.le_refl _) rfl rfl rfl rfl ?_; intro w5 k5 b5 o5 z5)
      have k5' : Bk w5 w.heap.size (taHead id.length ++ id ++ ch ++ List.replicate 8 0) := by
        have e := splice_rep (p := taHead id.length ++ id) (ys := ch) (m := 16) (off := 4 + id.length) (by simp [taHead]; omega) (by omega)
        rw [show 16 - ch.length = 8 by omega] at e
        rw [e] at k5
        exact k5
      go_roundw
      case rel => exact ⟨b5, (o5 _ hne).trans HS.out, .inr (.inr (.inl ⟨rfl, rfl, k5'⟩))⟩
      case measure => simp [intOf]
    · go_wp2_with (refine copyB (off := 4 + id.length + ch.length) (ys := sh) k (hc0.below bb) (by omega) (by omega) (by simp [taHead]; omega) bb (Nat.le_refl _) rfl rfl rfl rfl ?_; intro w5 k5 b5 o5 z5)
      have k5' : Bk w5 w.heap.size (taMsg id ch sh) := by
        have e := splice_rep (p := taHead id.length ++ id ++ ch) (ys := sh) (m := 8) (off := 4 + id.length + ch.length) (by simp [taHead]; omega) (by omega)
        rw [show 8 - sh.length = 0 by omega, List.replicate_zero, List.append_nil] at e
        rw [e] at k5
        exact k5
      go_roundw
      case rel => exact ⟨b5, (o5 _ hne).trans HS.out, .inr (.inr (.inr ⟨rfl, k5'⟩))⟩
      case measure => simp [intOf]
    · go_wp2
      go_ret2
      have hl : (taMsg id ch sh).length = id.length + 20 := by rw [taMsg_length]; omega
      have ho := k.own (B := w.heap.size) (Nat.le_refl _) (by rw [hl]; unfold maxLen; omega)
      rw [hl] at ho
      exact ⟨_, _, _, rfl, (show _ = _ from hl.symm), ho, bb⟩
set_option maxHeartbeats 1000000 in
theorem refmessage_yes {a b c : Value} {id ch sh : List UInt8} (w : World) (ha : Rd w a (bvs id)) (hb : Rd w b (bvs ch)) (hc : Rd w c (bvs sh)) (h : taOk id ch sh) :
    Calls Tryd.prog 54 #[a, b, c] w (RetBE w (taMsg id ch sh) 0) := by
  obtain ⟨h1, h32, h8, h8'⟩ := h
  have ha0 := ha
  have hb0 := hb
  have hc0 := hc
  obtain ⟨A, na, ca, rfl, hna, hnac, hcam, hA⟩ := ha.bytes
  obtain ⟨B, nb, cb, rfl, hnb, hnbc, hcbm, hB⟩ := hb.bytes
  obtain ⟨C, nc, cc, rfl, hnc, hncc, hccm, hC⟩ := hc.bytes
  subst hna hnb hnc
  clear hA hB hC ha hb hc
  have t1 : ((ch.length : Int) != 8) = false := by simp; omega
  have t2 : ((sh.length : Int) != 8) = false := by simp; omega
  have l1 : ch.length ≤ 8 := by omega
  have l3 : sh.length ≤ 8 := by omega
  clear h8 h8'
  have e0 : Ext w (w.alloc (.cells #[.int .u8 84, .int .u8 65, .int .u8 49, .int .u8 (id.length : Int)] 5)) := (Below.refl _ _).alloc (Nat.le_refl _) _
  have o0 : Own (w.alloc (.cells #[.int .u8 84, .int .u8 65, .int .u8 49, .int .u8 (id.length : Int)] 5)) w.heap.size 5 (.slice (some ⟨w.heap.size, 0, none⟩) 4 4) (bvs (taHead id.length)) := by
    have e : bvs (taHead id.length) = (#[.int .u8 84, .int .u8 65, .int .u8 49, .int .u8 (id.length : Int)] : Array Value).toList := by
      have hb : bv (u8 (id.length : Int)) = .int .u8 (id.length : Int) := by rw [bv_u8, Int.emod_eq_of_lt (by omega) (by omega)]
      show [bv 84, bv 65, bv 49, bv (u8 (id.length : Int))] = _
      rw [hb]
      rfl
    rw [e]
    exact Own.lit w _ _ 4 rfl (by unfold maxLen; omega)
  go_enter Tryd.func54, Tryd.ntmps54
  go_wp2_with (first
    | (refine appB o0 (ha0.ext e0) e0 (by simp [taHead]; omega) e0.size rfl rfl rfl rfl ?_; intro A2 n2 c2 w2 hn2 o2 (b2 : Ext _ _) g2)
    | (refine appB o2 (hb0.ext b2) b2 (by simp [taHead]; omega) b2.size rfl rfl rfl rfl ?_; intro A3 n3 c3 w3 hn3 o3 (b3 : Ext _ _) g3)
    | (refine appB o3 (hc0.ext b3) b3 (by simp [taHead]; omega) b3.size rfl rfl rfl rfl ?_; intro A4 n4 c4 w4 hn4 o4 (b4 : Ext _ _) g4))
  go_ret2
  exact ⟨_, _, _, rfl, (show _ = _ by rw [hn4.out]; exact List.length_append.symm), o4, b4⟩
end Go.Proofs.YteihfboomegpkaaDoor
