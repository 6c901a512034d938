/- Layer 26: trusts made of numbers: Trust. -/
import Derived.Test.YtkjplpmogfmhkaaGreatDoorPkw
import Derived.Test.YtkjplpmogfmhkaaGreatDoorSt
import Derived.Deep.CutRange
import Derived.Deep.CutBlock
namespace Go.Proofs.YtkjplpmogfmhkaaGreatDoor
open Go.RowKit
set_option linter.unusedVariables false
set_option maxRecDepth 100000

/-- Where Trust stands: the dice, the two trusts' blocks, the points so far. -/
structure TuS (w : World) (B D b : Nat) (l : List TP) (A : Option Addr) (n c : Nat) (d : Int) (g : Nat) (wr : World) : Prop where
  dice : ∃ L, DiceAt wr D b L
  z : TrAt wr w.heap.size none 0 0 0
  t : TrAt wr g A n c d
  row : OwnK wr B 139 5 (.slice A n c) (tpsCells l)
  ext : Ext w wr
  size : B ≤ wr.heap.size
theorem TuS.tr {w : World} {B D b : Nat} {l : List TP} {A : Option Addr} {n c : Nat} {d : Int} {g : Nat} {wr wx : World} (h : TuS w B D b l A n c d g wr) (e : Ext wr wx) : TuS w B D b l A n c d g wx := by
  obtain ⟨⟨L, h1⟩, h2, h3, h4, h5, h6⟩ := h
  exact ⟨⟨L, h1.ext e⟩, h2.ext e, h3.ext e, h4.ext e, h5.tr e, Nat.le_trans h6 e.size⟩
theorem tuNext {w : World} {B D b : Nat} {l : List TP} {A : Option Addr} {n c : Nat} {d : Int} {g : Nat} {wr : World} (m : Int) (m1 : 1 ≤ m) (m2 : m ≤ 4611686018427387904) (hD : D < B) (hw : w.heap.size < D) (hg : g ≠ D) (h : TuS w B D b l A n c d g wr) :
    Calls Tryz.prog 111 #[.pointer (some ⟨D, 0, none⟩), .int .i64 m] wr fun e w' => ∃ z : Int, 0 ≤ z ∧ z < m ∧ e = .returned (.int .i64 z) ∧ TuS w B D b l A n c d g w' := by
  obtain ⟨⟨L, h1⟩, h2, h3, h4, h5, h6⟩ := h
  refine (next_any m wr h1 m2).mono fun e w' ⟨q1, q2, q3, q4⟩ => ⟨dv L m, (dv_bd L m1).1, (dv_bd L m1).2, q1, ⟨_, q3⟩, (q2.block _ h2.lt (fun q => by injection q; omega)).trans h2, (q2.block _ h3.lt (fun q => hg (by injection q))).trans h3, h4.grown q2 ?_, Gb.below h5 q2 (Nat.le_of_lt hw), by omega⟩
  cases hq : rowOf (.slice A n c) with
  | none => exact .inl rfl
  | some r => exact .inr (fun q => by have := rowOf_geK h4 r hq; injection q with q; omega)
theorem rowOf_noneT (A : Option Addr) : rowOf (.slice A 0 0) = none := by cases A <;> rfl
theorem grown_noneT {w w' : World} (h : w.grownBy w' none) : Ext w w' := ⟨h.os, h.tape, h.output, h.size, fun k hk => h.block k hk (by simp)⟩
def tpC (s : ByteArray) (k r f t : Int) : TP := ⟨s.data.toList, k, r, f, t⟩
/-- One point appended to no points. -/
theorem app1T (X : World) (ty : TypeId) (s : ByteArray) (k r f t : Int) : ∃ A c w', (Builtin.append_ #[22, 22] ty #[.slice none 0 0, .slice (some ⟨X.heap.size, 0, none⟩) 1 1]).run Tryz.prog (X.alloc (.cells #[.string s, .int .i64 k, .int .i64 r, .int .i64 f, .int .i64 t] 139)) = .ok (.slice A 1 c) w' ∧ OwnK w' X.heap.size 139 5 (.slice A 1 c) (tpsCells [tpC s k r f t]) ∧ Ext X w' := by
  have R : RdK (X.alloc (.cells #[.string s, .int .i64 k, .int .i64 r, .int .i64 f, .int .i64 t] 139)) 5 (.slice (some ⟨X.heap.size, 0, none⟩) 1 1) (tpsCells [tpC s k r f t]) := RdK.lit X 5 #[.string s, .int .i64 k, .int .i64 r, .int .i64 f, .int .i64 t] 139 1 rfl (by unfold maxLen; omega)
  have e : Ext X (X.alloc (.cells #[.string s, .int .i64 k, .int .i64 r, .int .i64 f, .int .i64 t] 139)) := (Below.refl _ _).alloc (Nat.le_refl _) _
  obtain ⟨A, c, w', h1, h2, h3, h4⟩ := run_appKR (ty := ty) (k := 5) (by decide) elemTp (n := 0) (m := 1) (OwnK.empty _ X.heap.size 139 5 none) rfl R (by rw [tpsCells_len]; rfl) (tpsCells_one _) (by omega) (by unfold maxLen; omega) e.size
  rw [rowOf_noneT] at h3
  exact ⟨A, c, w', h1, h2, e.tr (grown_noneT h3)⟩
/-- One point appended to one point. -/
theorem app2T (X : World) (ty : TypeId) {B : Nat} {A0 : Option Addr} {c0 : Nat} {p : TP} (h : OwnK X B 139 5 (.slice A0 1 c0) (tpsCells [p])) (hB : B ≤ X.heap.size) (s : ByteArray) (k r f t : Int) : ∃ A c w', (Builtin.append_ #[22, 22] ty #[.slice A0 1 c0, .slice (some ⟨X.heap.size, 0, none⟩) 1 1]).run Tryz.prog (X.alloc (.cells #[.string s, .int .i64 k, .int .i64 r, .int .i64 f, .int .i64 t] 139)) = .ok (.slice A 2 c) w' ∧ OwnK w' B 139 5 (.slice A 2 c) (tpsCells [p, tpC s k r f t]) ∧ X.grownBy w' (rowOf (.slice A0 1 c0)) := by
  have R : RdK (X.alloc (.cells #[.string s, .int .i64 k, .int .i64 r, .int .i64 f, .int .i64 t] 139)) 5 (.slice (some ⟨X.heap.size, 0, none⟩) 1 1) (tpsCells [tpC s k r f t]) := RdK.lit X 5 #[.string s, .int .i64 k, .int .i64 r, .int .i64 f, .int .i64 t] 139 1 rfl (by unfold maxLen; omega)
  have e : Ext X (X.alloc (.cells #[.string s, .int .i64 k, .int .i64 r, .int .i64 f, .int .i64 t] 139)) := (Below.refl _ _).alloc (Nat.le_refl _) _
  obtain ⟨A, c, w', h1, h2, h3, h4⟩ := run_appKR (ty := ty) (k := 5) (by decide) elemTp (n := 1) (m := 1) (h.ext e) (by rw [tpsCells_len]; rfl) R (by rw [tpsCells_len]; rfl) (tpsCells_one _) (by omega) (by unfold maxLen; omega) (Nat.le_trans hB e.size)
  exact ⟨A, c, w', h1, h2, World.grownBy.trans ⟨e.os, e.tape, e.output, e.size, fun i hi _ => e.block i hi⟩ h3⟩
/-- The same, for all points at once. -/
theorem app1F (X : World) : ∃ (fA : TypeId → ByteArray → Int → Int → Int → Int → Option Addr) (fc : TypeId → ByteArray → Int → Int → Int → Int → Nat) (fw : TypeId → ByteArray → Int → Int → Int → Int → World), (∀ (ty : TypeId) (s : ByteArray) (k r f t : Int), (Builtin.append_ #[22, 22] ty #[.slice none 0 0, .slice (some ⟨X.heap.size, 0, none⟩) 1 1]).run Tryz.prog (X.alloc (.cells #[.string s, .int .i64 k, .int .i64 r, .int .i64 f, .int .i64 t] 139)) = .ok (.slice (fA ty s k r f t) 1 (fc ty s k r f t)) (fw ty s k r f t)) ∧ Hid (∀ (ty : TypeId) (s : ByteArray) (k r f t : Int), OwnK (fw ty s k r f t) X.heap.size 139 5 (.slice (fA ty s k r f t) 1 (fc ty s k r f t)) (tpsCells [tpC s k r f t]) ∧ Ext X (fw ty s k r f t)) :=
  ⟨fun ty s k r f t => (app1T X ty s k r f t).choose, fun ty s k r f t => (app1T X ty s k r f t).choose_spec.choose, fun ty s k r f t => (app1T X ty s k r f t).choose_spec.choose_spec.choose, fun ty s k r f t => (app1T X ty s k r f t).choose_spec.choose_spec.choose_spec.1, Lib.hid fun ty s k r f t => (app1T X ty s k r f t).choose_spec.choose_spec.choose_spec.2⟩
theorem app2F (X : World) {B : Nat} {A0 : Option Addr} {c0 : Nat} {p : TP} (h : OwnK X B 139 5 (.slice A0 1 c0) (tpsCells [p])) (hB : B ≤ X.heap.size) : ∃ (fA : TypeId → ByteArray → Int → Int → Int → Int → Option Addr) (fc : TypeId → ByteArray → Int → Int → Int → Int → Nat) (fw : TypeId → ByteArray → Int → Int → Int → Int → World), (∀ (ty : TypeId) (s : ByteArray) (k r f t : Int), (Builtin.append_ #[22, 22] ty #[.slice A0 1 c0, .slice (some ⟨X.heap.size, 0, none⟩) 1 1]).run Tryz.prog (X.alloc (.cells #[.string s, .int .i64 k, .int .i64 r, .int .i64 f, .int .i64 t] 139)) = .ok (.slice (fA ty s k r f t) 2 (fc ty s k r f t)) (fw ty s k r f t)) ∧ Hid (∀ (ty : TypeId) (s : ByteArray) (k r f t : Int), OwnK (fw ty s k r f t) B 139 5 (.slice (fA ty s k r f t) 2 (fc ty s k r f t)) (tpsCells [p, tpC s k r f t]) ∧ X.grownBy (fw ty s k r f t) (rowOf (.slice A0 1 c0))) :=
  ⟨fun ty s k r f t => (app2T X ty h hB s k r f t).choose, fun ty s k r f t => (app2T X ty h hB s k r f t).choose_spec.choose, fun ty s k r f t => (app2T X ty h hB s k r f t).choose_spec.choose_spec.choose, fun ty s k r f t => (app2T X ty h hB s k r f t).choose_spec.choose_spec.choose_spec.1, Lib.hid fun ty s k r f t => (app2T X ty h hB s k r f t).choose_spec.choose_spec.choose_spec.2⟩
/-- Behind an append: the points' slice stored. -/
theorem TuS.app {w X w' : World} {B D b : Nat} {l0 l : List TP} {A0 A : Option Addr} {n0 c0 n c : Nat} {d : Int} {g : Nat} (h : TuS w B D b l0 A0 n0 c0 d g X) (hDB : D < B) (hbB : b < B) (hgB : g < B) (hw : w.heap.size < g) (hDg : D ≠ g) (hbg : b ≠ g)
    (own : OwnK w' B 139 5 (.slice A n c) (tpsCells l)) (e : X.grownBy w' (rowOf (.slice A0 n0 c0))) : TuS w B D b l A n c d g (w'.setCell ⟨g, 0, none⟩ (.slice A n c)) := by
  obtain ⟨⟨L, h1⟩, h2, h3, h4, h5, h6⟩ := h
  have hrow := rowOf_geK h4
  have kp : ∀ k, k < B → k < X.heap.size → w'.heap[k]? = X.heap[k]? := fun k hk hx => e.block k hx (fun q => by
    have := hrow k (by first | exact q | exact q.symm)
    omega)
  have hex : Ext w w' := h5.grown e h5.size (fun r hr => by have := hrow r hr; omega)
  refine ⟨⟨L, (h1.keep (kp D hDB h1.lt) (kp b hbB h1.ltb)).keep (setCell_block hDg) (setCell_block hbg)⟩, (setCell_block (by omega)).trans ((kp _ (by omega) h2.lt).trans h2), TrAt.setPs ((kp g hgB h3.lt).trans h3), own.grown (Gb.set g 0 w' _) ?_, ext_set hex (by omega), ?_⟩
  · cases hq : rowOf (.slice A n c) with
    | none => exact .inl rfl
    | some r => exact .inr (fun q => by have := rowOf_geK own r hq; injection q with q; omega)
  · have := e.size
    simp
    omega
theorem ext_grown {X w' : World} (e : Ext X w') : X.grownBy w' (rowOf (.slice none 0 0)) := ⟨e.os, e.tape, e.output, e.size, fun i hi _ => e.block i hi⟩
/-- The room that the first append makes, and the world behind it. -/
def tuC (X : World) : Nat := (Question.appendCap 1 0 139).cut (X.tape X.drawn (Question.appendCap 1 0 139))
def tuE (X : World) (s : ByteArray) (k r f t : Int) : World := ((X.alloc (.cells #[.string s, .int .i64 k, .int .i64 r, .int .i64 f, .int .i64 t] 139)).alloc (.cells (#[.string s, .int .i64 k, .int .i64 r, .int .i64 f, .int .i64 t] ++ Builtin.zeroCells #[.string ⟨#[]⟩, .int .i64 0, .int .i64 0, .int .i64 0, .int .i64 0] (tuC X - 1)) 139)).drew
theorem app1X (X : World) (s : ByteArray) (k r f t : Int) : OwnK (tuE X s k r f t) X.heap.size 139 5 (.slice (some ⟨X.heap.size + 1, 0, none⟩) 1 (tuC X)) (tpsCells [tpC s k r f t]) ∧ Ext X (tuE X s k r f t) := by
  obtain ⟨A, c, w', h1, h2, h3⟩ := app1T X 0 s k r f t
  have q0 : (Builtin.append_ #[22, 22] 0 #[.slice none 0 0, .slice (some ⟨X.heap.size, 0, none⟩) 1 1]).run Tryz.prog (X.alloc (.cells #[.string s, .int .i64 k, .int .i64 r, .int .i64 f, .int .i64 t] 139)) = .ok (.slice (some ⟨X.heap.size + 1, 0, none⟩) 1 (tuC X)) (tuE X s k r f t) := by
    have hb : ¬ 281474976710656 < Builtin.nextslicecap 1 0 * Tryz.t139.bytes := by decide
    unfold tuC tuE
    go_simp
    rfl
  rw [q0] at h1
  injection h1 with e1 e2
  injection e1 with e3 e4 e5
  subst e2 e3 e5
  exact ⟨h2, h3⟩
theorem tuE_set (X : World) (s : ByteArray) (k r f t : Int) {g : Nat} (hg : g < X.heap.size) (v : Value) : (tuE X s k r f t).setCell ⟨g, 0, none⟩ v = (((X.setCell ⟨g, 0, none⟩ v).alloc (.cells #[.string s, .int .i64 k, .int .i64 r, .int .i64 f, .int .i64 t] 139)).alloc (.cells (#[.string s, .int .i64 k, .int .i64 r, .int .i64 f, .int .i64 t] ++ Builtin.zeroCells #[.string ⟨#[]⟩, .int .i64 0, .int .i64 0, .int .i64 0, .int .i64 0] (tuC X - 1)) 139)).drew := by
  unfold tuE
  go_simp
/-- Behind the first append. -/
theorem TuS.app1 {w X : World} {B D b : Nat} {d : Int} {g : Nat} (h : TuS w B D b [] none 0 0 d g X) (hDB : D < B) (hb : b < B ∧ g < B ∧ w.heap.size < g ∧ D ≠ g ∧ b ≠ g) (s : ByteArray) (k r f t : Int) :
    TuS w B D b [tpC s k r f t] (some ⟨X.heap.size + 1, 0, none⟩) 1 ((Question.appendCap 1 0 139).cut (X.tape X.drawn (Question.appendCap 1 0 139))) d g (((X.setCell ⟨g, 0, none⟩ (.slice (some ⟨X.heap.size + 1, 0, none⟩) 1 ((Question.appendCap 1 0 139).cut (X.tape X.drawn (Question.appendCap 1 0 139))))).alloc (.cells #[.string s, .int .i64 k, .int .i64 r, .int .i64 f, .int .i64 t] 139)).alloc (.cells (#[.string s, .int .i64 k, .int .i64 r, .int .i64 f, .int .i64 t] ++ Builtin.zeroCells #[.string ⟨#[]⟩, .int .i64 0, .int .i64 0, .int .i64 0, .int .i64 0] (((Question.appendCap 1 0 139).cut (X.tape X.drawn (Question.appendCap 1 0 139))) - 1)) 139)).drew := by
  obtain ⟨h1, h2⟩ := app1X X s k r f t
  have h3 := h.app hDB hb.1 hb.2.1 hb.2.2.1 hb.2.2.2.1 hb.2.2.2.2 (h1.mono h.size) (ext_grown h2)
  rw [tuE_set X s k r f t h.t.lt] at h3
  exact h3
theorem TuS.atG {w X w' : World} {B D b : Nat} {l0 : List TP} {A0 : Option Addr} {n0 c0 : Nat} {d : Int} {g : Nat} (h : TuS w B D b l0 A0 n0 c0 d g X) (hgB : g < B) (e : X.grownBy w' (rowOf (.slice A0 n0 c0))) : TrAt w' g A0 n0 c0 d :=
  (e.block g h.t.lt (fun q => by
    have := rowOf_geK h.row g (by first | exact q | exact q.symm)
    omega)).trans h.t
/-- The result's block filled. -/
theorem TuS.fin {w X : World} {B D b : Nat} {l : List TP} {A : Option Addr} {n c : Nat} {d : Int} {g : Nat} (h : TuS w B D b l A n c d g X) (hw : w.heap.size < B) (v0 v1 : Value) :
    Ext w ((X.setCell ⟨w.heap.size, 0, none⟩ v0).setCell ⟨w.heap.size, 1, none⟩ v1) ∧ SafeK ((X.setCell ⟨w.heap.size, 0, none⟩ v0).setCell ⟨w.heap.size, 1, none⟩ v1) 0 139 5 (.slice A n c) (tpsCells l) := by
  refine ⟨ext_set (ext_set h.ext (Nat.le_refl _)) (Nat.le_refl _), OwnK.safe (B0 := B) ?_ 0⟩
  have hr : rowOf (.slice A n c) = none ∨ rowOf (.slice A n c) ≠ some w.heap.size := by
    cases hq : rowOf (.slice A n c) with
    | none => exact .inl rfl
    | some r => exact .inr (fun q => by have := rowOf_geK h.row r hq; injection q with q; omega)
  exact (h.row.grown (Gb.set _ 0 X v0) hr).grown (Gb.set _ 1 _ v1) hr
/-- A throw, as a step of a region. -/
theorem tuStep {w : World} {B D b : Nat} {l : List TP} {A : Option Addr} {n c : Nat} {d : Int} {g : Nat} {wr : World} (m : Int) (m1 : 1 ≤ m) (m2 : m ≤ 4611686018427387904) (hD : D < B) (hw : w.heap.size < D) (hg : g ≠ D) (h : TuS w B D b l A n c d g wr)
    {ops : Array Oper} {o : Oper} {a : Act} {K : Act → World → Prop} {Q : Exit → Act → World → Prop} {E : Prop} (hgd : o.guard = none) {x : Operand} {xs : Array Operand} {ats : Array TypeId}
    (ho : o.op = .call { callee := .value x, args := xs, argTypes := ats }) (hx : a.eval x = .func (.func 111) #[] #[]) (ha : xs.toList.map a.eval = [.pointer (some ⟨D, 0, none⟩), .int .i64 m])
    (hK : ∀ (z : Int) (w' : World), 0 ≤ z → z < m → TuS w B D b l A n c d g w' → K (a.put o.dst (.int .i64 z)) w') : if Region.wanted o (yielded ops a.tmps) = true then Oper.wp Tryz.prog o a wr K Q else E :=
  step_callFn (G := fun u w'' => ∃ z : Int, 0 ≤ z ∧ z < m ∧ u = .int .i64 z ∧ TuS w B D b l A n c d g w'') 111 _ hgd ho hx (by kernel_rfl) ha ((tuNext m m1 m2 hD hw hg h).mono fun e w'' ⟨z, q1, q2, q3, q4⟩ => ⟨_, q3, z, q1, q2, rfl, q4⟩) (fun u w'' ⟨z, q1, q2, q3, q4⟩ => by subst q3; exact hK z w'' q1 q2 q4)
end Go.Proofs.YtkjplpmogfmhkaaGreatDoor
