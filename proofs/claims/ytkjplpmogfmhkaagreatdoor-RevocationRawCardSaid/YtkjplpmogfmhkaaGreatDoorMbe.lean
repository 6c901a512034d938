/- Parts Uk Ul of the proof. -/
import Derived.Test.YtkjplpmogfmhkaaGreatDoorMax
import Derived.Test.YtkjplpmogfmhkaaGreatDoorMbc
import Derived.Deep.CutRange
namespace Go.Proofs.YtkjplpmogfmhkaaGreatDoor
open Go.RowKit
set_option linter.unusedVariables false
set_option maxRecDepth 100000
/-- A number put among others. -/
def insT (l : List Int) (n : Int) : List Int := (l.filter fun x => decide (x < n)) ++ n :: (l.filter fun x => decide (n < x))
def lowT (l : List Int) (n : Int) : List Int := l.filter fun x => decide (x < n)
def hiT (l : List Int) (n : Int) : List Int := l.filter fun x => decide (n < x)
theorem lowT_snoc {l : List Int} {n y : Int} {k : Nat} (h : l[k]? = some y) : lowT (l.take (k + 1)) n = if y < n then lowT (l.take k) n ++ [y] else lowT (l.take k) n := by
  obtain ⟨hk, rfl⟩ := List.getElem?_eq_some_iff.1 h
  unfold lowT
  rw [List.take_succ_eq_append_getElem hk, List.filter_append]
  by_cases q : l[k] < n
  · simp [q]
  · simp [q]
theorem hiT_snoc {l : List Int} {n y : Int} {k : Nat} (h : l[k]? = some y) : hiT (l.take (k + 1)) n = if n < y then hiT (l.take k) n ++ [y] else hiT (l.take k) n := by
  obtain ⟨hk, rfl⟩ := List.getElem?_eq_some_iff.1 h
  unfold hiT
  rw [List.take_succ_eq_append_getElem hk, List.filter_append]
  by_cases q : n < l[k]
  · simp [q]
  · simp [q]
theorem lowT_len (l : List Int) (n : Int) (k : Nat) : (lowT (l.take k) n).length ≤ l.length := Nat.le_trans (List.length_filter_le _ _) (List.length_take_le' _ _)
theorem hiT_len (l : List Int) (n : Int) (k : Nat) : (hiT (l.take k) n).length ≤ l.length := Nat.le_trans (List.length_filter_le _ _) (List.length_take_le' _ _)
theorem insT_eq (l : List Int) (n : Int) : insT l n = (lowT (l.take l.length) n ++ [n]) ++ hiT (l.take l.length) n := by
  unfold insT lowT hiT
  rw [List.take_length]
  simp
theorem au_zeroU (w : World) : ∃ wz, wz = w.alloc (.cells (.string ⟨#[]⟩ :: .slice none 0 0 :: .slice none 0 0 :: .slice none 0 0 :: .string ⟨#[]⟩ :: .int .i64 0 :: .int .i64 0 :: .int .i64 0 :: .int .i64 0 :: .int .i64 0 :: .int .i64 0 :: .int .i64 0 :: .int .i64 0 :: .int .i64 0 :: .int .i64 0 :: .string ⟨#[]⟩ :: .int .i64 0 :: .int .i64 0 :: .int .i64 0 :: .int .i64 0 :: .int .i64 0 :: .int .i64 0 :: .int .i64 0 :: .int .i64 0 :: .int .i64 0 :: .int .i64 0 :: .int .i64 0 :: .int .i64 0 :: .int .i64 0 :: .int .i64 0 :: .slice none 0 0 :: .slice none 0 0 :: .slice none 0 0 :: ([] : List Value)).toArray 98) ∧ Ext w wz ∧ AuAt wz w.heap.size zeroAB :=
  ⟨_, rfl, (Below.refl _ _).alloc (Nat.le_refl _) _, heap_alloc_new' w _⟩
theorem lit_one (w : World) (x : Int) : Rd (w.alloc (.cells #[.int .i64 x] 3)) (.slice (some ⟨w.heap.size, 0, none⟩) 1 1) [.int .i64 x] := by
  have := RdK.lit w 1 #[.int .i64 x] 3 1 rfl (by unfold maxLen; omega)
  exact RdK.r1 this
theorem AuAt.put_V {w : World} {g : Nat} {x : AB} (h : AuAt w g x) (v : Value) : AuAt (w.setCell ⟨g, 30, none⟩ v) g { x with V := v } := by
  have h9 := row_set h 30 v
  simp only [List.setIfInBounds_toArray, List.set_cons_zero, List.set_cons_succ] at h9
  exact h9
theorem AuAt.put_li {w : World} {g : Nat} {x : AB} (h : AuAt w g x) (v : Int) : AuAt (w.setCell ⟨g, 29, none⟩ (.int .i64 v)) g { x with li := v } := by
  have h9 := row_set h 29 (.int .i64 v)
  simp only [List.setIfInBounds_toArray, List.set_cons_zero, List.set_cons_succ] at h9
  exact h9
theorem intsV_snoc (l : List Int) (x : Int) : l.map (Value.int .i64) ++ [.int .i64 x] = (l ++ [x]).map (Value.int .i64) := by simp
/-! ### Regions that make a list's block and store it -/
def rvT : List Nat := [103]
theorem rv_rvT : 103 ∈ rvT := List.mem_singleton.2 rfl
def GRvB (B : Nat) : VPred := fun v w => ∃ g, v = .pointer (some ⟨g, 0, none⟩) ∧ B ≤ g ∧ BlkT w g 103 8
theorem stable_GRvB (B : Nat) (S : List Nat) (G : Nat → Prop) : (RG S G).stable (GRvB B) := fun v w w' r ⟨g, h1, h2, h3⟩ => ⟨g, h1, h2, h3.rg r⟩
/-- New numbers. -/
def GIs (B : Nat) (l : List Int) : VPred := fun v w => ∃ A n c, v = .slice A n c ∧ Own w B 3 (.slice A n c) (l.map (Value.int .i64))
theorem Own.rgs {w w' : World} {B : Nat} {e : TypeId} {v : Value} {xs : List Value} {S : List Nat} {G : Nat → Prop} (h : Own w B e v xs) (r : RgS S G w w') (he : e ∉ S) : Own w' B e v xs := by
  obtain ⟨A, n, c, rfl, hn, h | ⟨g, cur, rfl, hB, hg, hr⟩⟩ := h
  · exact ⟨A, n, c, rfl, hn, .inl h⟩
  · exact ⟨_, n, c, rfl, hn, .inr ⟨g, cur, rfl, hB, r.other hg he, hr⟩⟩
theorem stable_GIs (B : Nat) (l : List Int) (G : Nat → Prop) : (RG rvT G).stable (GIs B l) := fun v w w' r ⟨A, n, c, h1, h2⟩ => ⟨A, n, c, h1, h2.rgs r (by decide)⟩
/-- A list as a value, its numbers new. -/
def GRs (B : Nat) (r : RV) (l : List Int) : VPred := fun v w => ∃ A n c, v = rvV r (.slice A n c) ∧ Own w B 3 (.slice A n c) (l.map (Value.int .i64))
theorem stable_GRs (B : Nat) (r : RV) (l : List Int) (G : Nat → Prop) : (RG rvT G).stable (GRs B r l) := fun v w w' q ⟨A, n, c, h1, h2⟩ => ⟨A, n, c, h1, h2.rgs q (by decide)⟩
def GRk (B : Nat) (r : RV) (k : Int) : VPred := fun v w => ∃ A n c, v = .tuple #[rvV r (.slice A n c), .int .i64 k] ∧ Own w B 3 (.slice A n c) (r.ser.map (Value.int .i64))
theorem stable_GRk (B : Nat) (r : RV) (k : Int) (G : Nat → Prop) : (RG rvT G).stable (GRk B r k) := fun v w w' q ⟨A, n, c, h1, h2⟩ => ⟨A, n, c, h1, h2.rgs q (by decide)⟩
theorem run_allocR8 (W : World) : (Instr.alloc 103 true (.tuple #[])).run Tryz.prog W = .ok (.pointer (some ⟨W.heap.size, 0, none⟩)) (W.alloc (.cells #[.string ⟨#[]⟩, .int .i64 0, .int .i64 0, .int .i64 0, .slice none 0 0, .int .i64 0, .int .i64 0, .int .i64 0] 103)) := by go_simp
theorem rv_all (r : RV) (A : Option Addr) (n c : Nat) : (rvRow r (.slice A n c)).all (·.oneCell') = true := by simp [rvRow, Value.oneCell']
theorem rv_store {w : World} {g : Nat} (h : BlkT w g 103 8) (r : RV) (A : Option Addr) (n c : Nat) :
    ∃ w', (Instr.storeAt 103 (.pointer (some ⟨g, 0, none⟩)) (rvV r (.slice A n c))).run Tryz.prog w = .ok () w' ∧ RvAt w' g r (.slice A n c) ∧ ∀ G : Nat → Prop, G g → RgS [103] G w w' := by
  obtain ⟨cs, h1, h2⟩ := h
  exact ⟨_, row_store (cells := rvRow r (.slice A n c)) h1 info_rv h2 (rv_all r A n c), row_at h1, fun G hG => RgS.setRow h1 (List.mem_singleton.2 rfl) hG h2.symm⟩
section
open Go.Proofs.YtkjplpmogfmhkaaGreatDoor.Gd (GRun)
variable {P : Program} {r : Gt.Rl} {ops : Array Oper} {Q : Exit → Act → World → Prop} {w0 : World} {R : Act → World → Prop} {ss : List (Nat × VPred)}
theorem Gt.wpX_allocR8 {o : Oper} {rest : List Oper} {a : Act} {hs : List (Nat × VPred)} {d : Nat} (B : Nat) (hB : ∀ m : r.Lt w0, B ≤ m.1.heap.size) (hst : r.stable (GRvB B)) (hg : GRun ops o a hs)
    (hd : o.dst = some d) (hz : Nat.blt d a.tmps.size = true) (ho : o.op = .alloc 103) (hin : (opTmps o).all (fun t => Nat.blt t a.tmps.size) = true)
    (hr : Gt.wpX r Tryz.prog ops Q w0 R ss rest (a.put (some d) undef) ((d, GRvB B) :: hs)) : Gt.wpX r Tryz.prog ops Q w0 R ss (o :: rest) a hs :=
  Gt.wpX_newL hg (GRvB B) hst (fun _ => Instr.alloc 103 true (.tuple #[])) hd hz (by unfold notSelect; rw [ho]) hin (fun f => by unfold execOp; simp only [ho])
    (fun m f hf => ⟨_, _, run_allocR8 m.1, (Below.refl _ _).alloc (Nat.le_refl _) _, _, rfl, hB m, _, heap_alloc_new' m.1 _, rfl⟩) hr
/-- A slot copied. -/
theorem Gt.wpX_movU {o : Oper} {rest : List Oper} {a : Act} {hs : List (Nat × VPred)} {d : Nat} (hg : GRun ops o a hs) (g : VPred) (hst : r.stable g) {x : Operand} (xv : (Nat → Value) → Value)
    (hd : o.dst = some d) (hz : Nat.blt d a.tmps.size = true) (ho : o.op = .move x) (hin : (opTmps o).all (fun t => Nat.blt t a.tmps.size) = true) (hq : okOp a x = true) (ha : ∀ f, evF a hs f x = xv f)
    (h : ∀ (m : r.Lt w0) (f : Nat → Value), (∀ t p, hs.lookup t = some p → (opTmps o).contains t = true → p (f t) m.1) → g (xv f) m.1)
    (hr : Gt.wpX r P ops Q w0 R ss rest (a.put (some d) undef) ((d, g) :: hs)) : Gt.wpX r P ops Q w0 R ss (o :: rest) a hs :=
  Gt.wpX_newL hg g hst (fun f => pure (xv f)) hd hz (by unfold notSelect; rw [ho]) hin (fun f => by unfold execOp; simp only [ho]; rw [Gt.ev_fill hq, ha f]; rfl) (fun m f hf => ⟨_, _, rfl, Below.refl _ _, h m f hf⟩) hr
theorem Gt.wpX_asgU {o : Oper} {rest : List Oper} {a : Act} {hs : List (Nat × VPred)} {d : Nat} (hg : GRun ops o a hs) (g : VPred) (hst : r.stable g) {x : Operand} (xv : (Nat → Value) → Value)
    (hd : o.dst = some d) (hz : Nat.blt d a.tmps.size = true) (ho : o.op = .assign x) (hin : (opTmps o).all (fun t => Nat.blt t a.tmps.size) = true) (hq : okOp a x = true) (ha : ∀ f, evF a hs f x = xv f)
    (h : ∀ (m : r.Lt w0) (f : Nat → Value), (∀ t p, hs.lookup t = some p → (opTmps o).contains t = true → p (f t) m.1) → g (xv f) m.1)
    (hr : Gt.wpX r P ops Q w0 R ss rest (a.put (some d) undef) ((d, g) :: hs)) : Gt.wpX r P ops Q w0 R ss (o :: rest) a hs :=
  Gt.wpX_newL hg g hst (fun f => pure (xv f)) hd hz (by unfold notSelect; rw [ho]) hin (fun f => by unfold execOp; simp only [ho]; rw [Gt.ev_fill hq, ha f]; rfl) (fun m f hf => ⟨_, _, rfl, Below.refl _ _, h m f hf⟩) hr
/-- append, whatever holes it reads, where it makes a new block. -/
theorem Gt.wpX_appU {o : Oper} {rest : List Oper} {a : Act} {hs : List (Nat × VPred)} {d : Nat} (hg : GRun ops o a hs) (g : VPred) (hst : r.stable g) {t : TypeId} {s x : Operand} (sv xv : (Nat → Value) → Value)
    (hd : o.dst = some d) (hz : Nat.blt d a.tmps.size = true) (ho : o.op = .call { callee := .builtin .append, args := #[s, x], argTypes := #[t, t] }) (hin : (opTmps o).all (fun t => Nat.blt t a.tmps.size) = true) (hqs : okOp a s = true) (hqx : okOp a x = true)
    (hs' : ∀ f, evF a hs f s = sv f) (hx' : ∀ f, evF a hs f x = xv f)
    (h : ∀ (m : r.Lt w0) (f : Nat → Value), (∀ t p, hs.lookup t = some p → (opTmps o).contains t = true → p (f t) m.1) → ∃ v w'', (Builtin.append_ #[t, t] o.type #[sv f, xv f]).run P m.1 = .ok v w'' ∧ Ext m.1 w'' ∧ g v w'')
    (hr : Gt.wpX r P ops Q w0 R ss rest (a.put (some d) undef) ((d, g) :: hs)) : Gt.wpX r P ops Q w0 R ss (o :: rest) a hs :=
  Gt.wpX_useL hg g hst hd hz (by unfold notSelect; rw [ho]) hin (fun m f hf K hK => by
    obtain ⟨v, w'', h1, h2, h3⟩ := h m f hf
    have e1 : (fillH a hs f).eval s = sv f := (Gt.ev_fill hqs).trans (hs' f)
    have e2 : (fillH a hs f).eval x = xv f := (Gt.ev_fill hqx).trans (hx' f)
    unfold Oper.wp execOp
    simp only [ho, resolve, invoke, builtin, Sem.run_bind, Sem.run_pure, Result.andThen_ok, List.map_toArray, List.map_cons, List.map_nil, e1, e2, h1]
    exact hK _ _ (by rw [hd]; show ((fillH a hs f).put (some d) v).defers = _; simp [Act.put, fillH_defers]) ⟨h2, by rw [hd, eval_put_same (Gt.fill_put_size f d hz)]; exact h3⟩) hr
/-- A struct loaded whole. -/
theorem Gt.wpX_rowU {o : Oper} {rest : List Oper} {a : Act} {hs : List (Nat × VPred)} {d : Nat} (hg : GRun ops o a hs) {ty t : TypeId} {x : Operand} (g : Nat) (cs : Array Value) {fr : Nat × Nat} {dsc : TypeDesc}
    (hd : o.dst = some d) (hz : Nat.blt d a.tmps.size = true) (ho : o.op = .load ty x) (hin : (opTmps o).all (fun t => Nat.blt t a.tmps.size) = true) (hq : okOp a x = true) (ha : ∀ f, evF a hs f x = .pointer (some ⟨g, 0, none⟩))
    (hrow : ∀ m : r.Lt w0, m.1.heap[g]? = some (.cells cs t fr)) (hu : P.underlying ty = some dsc) (hdd : (match dsc with | .struct _ | .array _ _ => true | _ => false) = true) (hi : (P.info? ty).map (·.size) = some cs.size)
    (hr : Gt.wpX r P ops Q w0 R ss rest (a.put (some d) undef) ((d, fun v _ => v = .agg cs) :: hs)) : Gt.wpX r P ops Q w0 R ss (o :: rest) a hs :=
  Gt.wpX_newL hg (fun v _ => v = .agg cs) (Gt.Rl.stable_eq _ _) (fun _ => Instr.loadAt ty (.pointer (some ⟨g, 0, none⟩))) hd hz (by unfold notSelect; rw [ho]) hin (fun f => by unfold execOp; simp only [ho]; rw [Gt.ev_fill hq, ha f])
    (fun m f hf => ⟨_, _, by simp only [Instr.loadAt, Instr.sureAddr, Sem.run_bind, Sem.run_pure, Result.andThen_ok, run_loadVar_row m.1 g t ty cs fr dsc (hrow m) hu hdd hi], Below.refl _ _, rfl⟩) hr
end
def GNil1 : VPred := fun v _ => ∃ A, v = .slice A 0 0
theorem stable_GNil1 (S : List Nat) (G : Nat → Prop) : (RG S G).stable GNil1 := fun _ _ _ _ h => h
theorem run_bs0I (W : World) : (Instr.buildSlice 41 0 [].toArray).run Tryz.prog W = .ok (.slice (some ⟨W.heap.size, 0, none⟩) 0 0) (W.alloc (.cells #[] 3)) := by go_simp
/-- An append onto an empty list: all that was is as it was. -/
theorem run_app0I {ty : TypeId} {W : World} {B : Nat} {v u : Value} {l : List Int} (h : GNil1 v W) (hr : RdI W .i64 u l) (hl : l.length ≤ 1000000) (hB : B ≤ W.heap.size) : ∃ v' w'', (Builtin.append_ #[41, 41] ty #[v, u]).run Tryz.prog W = .ok v' w'' ∧ Ext W w'' ∧ GIs B l v' w'' := by
  obtain ⟨A, rfl⟩ := h
  have h1 : ∀ u ∈ l.map (Value.int .i64), u.oneCell' = true := by
    intro u hu
    obtain ⟨x, _, rfl⟩ := List.mem_map.1 hu
    rfl
  obtain ⟨A2, c2, w'', q1, q2, q3⟩ := run_app (P := Tryz.prog) (ty := ty) elemI (Own.empty W W.heap.size 3 A) hr h1 (by simp; omega) (by unfold maxLen; simp; omega) (Nat.le_refl _)
  rw [List.nil_append] at q2
  exact ⟨_, w'', q1, (Below.refl W.heap.size W).grown q3 (Nat.le_refl _) (fun k hk => by cases A <;> simp [rowOf] at hk), A2, _, c2, rfl, q2.mono hB⟩
theorem run_buildRv (W : World) (st : List UInt8) (num day nxt iss : Int) (A : Option Addr) (n c : Nat) : (Instr.build 103 [(0, .string (bstr st)), (1, .int .i64 num), (2, .int .i64 day), (3, .int .i64 nxt), (4, .slice A n c), (5, .int .i64 iss)].toArray).run Tryz.prog W = .ok (rvV ⟨st, num, day, nxt, [], iss, 0, 0⟩ (.slice A n c)) W := by
  unfold rvV
  go_simp
end Go.Proofs.YtkjplpmogfmhkaaGreatDoor
namespace Go.Proofs.YtkjplpmogfmhkaaGreatDoor
open Go.RowKit
set_option linter.unusedVariables false
set_option maxRecDepth 100000
/-- What the maker returns. -/
def RvkR (w : World) (x : AB) (l' : List Int) (r : RV) (k : Int) (e : Ending) (w' : World) : Prop := ∃ (A : Option Addr) (n c : Nat) (A2 : Option Addr) (n2 c2 : Nat), e = .returned (.tuple #[abV { x with V := .slice A n c, li := x.li + 1 }, rvV r (.slice A2 n2 c2), .int .i64 k]) ∧ RdI w' .i64 (.slice A n c) l' ∧ RdI w' .i64 (.slice A2 n2 c2) r.ser ∧ Ext w w'
/-- Where it stands. -/
structure RkZ (w wr : World) (x : AB) : Prop where
  a : AuAt wr w.heap.size x
  z : AuAt wr (w.heap.size + 1) zeroAB
  r : RvAt wr (w.heap.size + 1 + 1) zeroR (.slice none 0 0)
theorem RkZ.below {w wr wx : World} {x : AB} {B : Nat} (h : RkZ w wr x) (e : Below B wr wx) (hB : w.heap.size + 1 + 1 < B) : RkZ w wx x :=
  ⟨(e.block _ (by omega)).trans h.a, (e.block _ (by omega)).trans h.z, (e.block _ (by omega)).trans h.r⟩
theorem RkZ.ext {w wr wx : World} {x : AB} (h : RkZ w wr x) (e : Ext wr wx) : RkZ w wx x := ⟨h.a.ext e, h.z.ext e, h.r.ext e⟩
def auT : List Nat := [98, 103]
theorem au_auT : 98 ∈ auT := List.mem_cons_self
theorem rv_auT : 103 ∈ auT := List.mem_cons_of_mem _ (List.mem_singleton.2 rfl)
def auG (w : World) (k : Nat) : Prop := k = w.heap.size + 1 ∨ k = w.heap.size + 1 + 1
def GRvE (B : Nat) (r : RV) : VPred := fun v w => ∃ g A n c, v = .pointer (some ⟨g, 0, none⟩) ∧ B ≤ g ∧ RvAt w g r (.slice A n c) ∧ Own w B 3 (.slice A n c) (r.ser.map (Value.int .i64))
theorem GRvE.ext {B : Nat} {r : RV} (v : Value) (w w' : World) (e : Ext w w') (h : GRvE B r v w) : GRvE B r v w' := by
  obtain ⟨g, A, n, c, h1, h2, h3, h4⟩ := h
  exact ⟨g, A, n, c, h1, h2, h3.ext e, h4.ext e⟩
theorem GRvE.st {B : Nat} {r : RV} {G : Nat → Prop} (T : Nat) (hT : T ≠ 103) (v : Value) (w w' : World) (e : (RG rvT G).st T w w') (h : GRvE B r v w) : GRvE B r v w' := absurd (List.mem_singleton.1 e.1) hT
/-- What the reference's Issue leaves, as a slot. -/
theorem issue_gk {B : Nat} {k : Int} {r : RV} {v : Value} {w w' : World} {e : Ending} (h : RetRQ w v (isCR k r) (isKR k r) e w') (o : Own w B 3 v (r.ser.map (Value.int .i64))) (hne : r.ser ≠ []) : ∃ u, e = .returned u ∧ Ext w w' ∧ GRk B (isCR k r) (isKR k r) u w' := by
  obtain ⟨A, n, c, rfl, hr, x, hv⟩ := h
  refine ⟨_, rfl, x, A, n, c, rfl, ?_⟩
  obtain ⟨A', n', c', e', hn', -⟩ := hr.ints
  injection e' with e1 e2 e3
  subst e1 e2 e3
  rcases hv with hv | hv
  · subst hv
    obtain ⟨A', n', c', e', hn2, -⟩ := id o
    injection e' with e1 e2 e3
    subst e1 e2 e3
    rw [List.length_map] at hn2
    by_cases q : ckR r = 0 ∧ sK k = 0
    · have : isCR k r = updR r (sE k (bodyRB r)) (sS k (bodyRB r)) := if_pos q
      rw [this]
      exact o.ext x
    · have : isCR k r = zeroR := if_neg q
      rw [this] at hn'
      rw [hn'] at hn2
      exact absurd (List.eq_nil_of_length_eq_zero hn2.symm) hne
  · injection hv with e1 e2 e3
    subst e1 e2 e3
    rw [List.eq_nil_of_length_eq_zero hn'.symm]
    exact Own.nil_ _ _ _
set_option maxHeartbeats 16000000 in
theorem revk_any (x : AB) (l ks : List Int) (k num day : Int) (w : World) (hV : RdI w .i64 x.V l) (hS : RdI w .i64 x.S ks) (hk : ks[ks.length - 1]? = some k) (hk1 : ks.length ≤ 100) (hl : l.length ≤ 1000) (hst : x.st.length ≤ maxLen) (d0 : 0 ≤ day) (d1 : day ≤ 1000000)
    (li0 : 0 ≤ x.li) (li1 : x.li ≤ 1000000) (h1 : AbOne x) (E : KTab w 0) :
    Calls Tryz.prog 74 #[abV x, .int .i64 num, .int .i64 day] w (RvkR w x (insT l num) (isCR k ⟨x.st, x.li, day, day + 90, insT l num, (ks.length : Int), 0, 0⟩) (isKR k ⟨x.st, x.li, day, day + 90, insT l num, (ks.length : Int), 0, 0⟩)) := by
  obtain ⟨st, R, L, S, sg, ls, ssec, lsec, nx, li, V, D, Z⟩ := x
  simp only at hV hS hst li0 li1
  obtain ⟨AV, nV, cV, rfl, hnV, hncV, hcmV, helV⟩ := hV.ints
  obtain ⟨AS, nS, cS, rfl, hnS, hncS, hcmS, helS⟩ := hS.ints
  subst hnV hnS
  obtain ⟨wa, hwa, ea, TA⟩ := au_alloc w ⟨st, R, L, .slice AS ks.length cS, sg, ls, ssec, lsec, nx, li, .slice AV l.length cV, D, Z⟩
  obtain ⟨wb, hwb, eb, TB⟩ := au_zeroU wa
  obtain ⟨wz, hwz⟩ : ∃ wz, wz = wb.alloc (.cells #[.string ⟨#[]⟩, .int .i64 0, .int .i64 0, .int .i64 0, .slice none 0 0, .int .i64 0, .int .i64 0, .int .i64 0] 103) := ⟨_, rfl⟩
  have ez : Ext wb wz := by rw [hwz]; exact (Below.refl _ _).alloc (Nat.le_refl _) _
  have TZ : RvAt wz wb.heap.size zeroR (.slice none 0 0) := by rw [hwz]; exact RvAt.new wb zeroR (.slice none 0 0)
  dsimp only at hwa
  have has : wa.heap.size = w.heap.size + 1 := by rw [hwa]; simp
  have hbs : wb.heap.size = w.heap.size + 1 + 1 := by rw [hwb]; simp [has]
  have hzs : wz.heap.size = w.heap.size + 1 + 1 + 1 := by rw [hwz]; simp [hbs]
  rw [has] at TB
  rw [hbs] at TZ
  have EZ := Lib.hid (ea.tr (eb.tr ez))
  have RZ := Lib.hid (show RkZ w wz ⟨st, R, L, .slice AS ks.length cS, sg, ls, ssec, lsec, nx, li, .slice AV l.length cV, D, Z⟩ from ⟨(TA.ext eb).ext ez, TB.ext ez, TZ⟩)
  have HEV := Lib.hid helV
  have HES := Lib.hid helS
  have HKL := Lib.hid hk
  have HKP := Lib.hid (show 0 < ks.length from by have := (List.getElem?_eq_some_iff.1 hk).1; omega)
  have HIS := Lib.hid (fun (u : Value) W (e : Ext w W) (hu : RdI W .i64 u (insT l num)) => refrissue_any k ⟨st, li, day, day + 90, insT l num, (ks.length : Int), 0, 0⟩ u W hu hst (E.below e))
  have HIN := Lib.hid (insT_eq l num)
  have H1 := Lib.hid h1
  have HLT := Lib.hid (lowT_len l num)
  have HGT := Lib.hid (hiT_len l num)
  unfold maxLen at hcmV hcmS
  have HB := Lib.hid (show w.heap.size + 1 + 1 < wz.heap.size by omega)
  obtain ⟨B, hB⟩ : ∃ B, wz.heap.size = B := ⟨_, rfl⟩
  rw [hB] at HB
  have hB' := Lib.hid hB
  have c30 := RZ.out.a.c30
  have cl := RZ.out.a.lt
  clear hV hS hk helV helS ea eb ez TA TB TZ has hbs hzs h1 E hst hB
  unfold abV
  go_enter Tryz.func74, Tryz.ntmps74
  go_upto_region 3 with fail
  rw [← hwa, ← hwb, ← hwz]
  clear hwa hwb hwz c30 cl
  go_loopw [9, 10] (fun s9 si wr => ∃ (k : Nat) (A9 : Option Addr) (c9 : Nat), k ≤ l.length ∧ si = .int .i64 (k : Int) ∧ s9 = .slice A9 (lowT (l.take k) num).length c9 ∧ Hid (Own wr B 3 (.slice A9 (lowT (l.take k) num).length c9) ((lowT (l.take k) num).map (Value.int .i64))) ∧ Hid (Below B wz wr)) (fun _ si _ => l.length - (intOf si).toNat)
  case atStart => exact ⟨0, _, _, Nat.zero_le _, rfl, rfl, Lib.hid (Own.nil_ _ _ _), Lib.hid (Below.refl _ _)⟩
  case round =>
  obtain ⟨k, A9, c9, hkl, rfl, rfl, O, X⟩ := hrel
  have Z5 := Lib.hid (RZ.out.below X.out HB.out)
  have X5 := Lib.hid (show Ext w wr from EZ.out.trans (X.out.mono (by have := EZ.out.size; have := hB'.out; omega)))
  have c30 := Z5.out.a.c30
  have cl := Z5.out.a.lt
  by_cases hlt : k < l.length
  case neg =>
    obtain rfl : k = l.length := by omega
    have hd : ¬ ((l.length : Int) < (l.length : Int)) := by omega
    clear hlt hd
    have HP0 := Lib.hid (show Own wr B 3 (.slice A9 (lowT (l.take l.length) num).length c9) ((lowT (l.take l.length) num).map (Value.int .i64)) from O.out)
    obtain ⟨P0, hP0⟩ : ∃ P0, lowT (l.take l.length) num = P0 := ⟨_, rfl⟩
    have HPL := Lib.hid (show P0.length ≤ 1000 by rw [← hP0]; have := HLT.out l.length; omega)
    rw [hP0] at HP0 HIN
    rw [hP0]
    clear hP0 O
    have eA : Ext wr (wr.alloc (.cells #[.int .i64 num] 3)) := (Below.refl _ _).alloc (Nat.le_refl _) _
    have HOA := Lib.hid (HP0.out.ext eA)
    have HRA := Lib.hid (lit_one wr num)
    have XA := Lib.hid (X.out.alloc (by have := X.out.size; have := hB'.out; omega) (.cells #[.int .i64 num] 3))
    go_upto_region 7 with fail
    clear c30 cl eA HP0 X X5 Z5
    go_upto_region 9 with (refine wpList_app (B := B) (w0 := wz) elemI HOA.out HRA.out (fun u hu => by rw [List.mem_singleton.1 hu]; rfl) XA.out (by have := HPL.out; simp only [List.length_map, List.length_cons, List.length_nil]; omega) (by have := HPL.out; unfold maxLen; simp only [List.length_map, List.length_cons, List.length_nil]; omega) (by have := XA.out.size; have := hB'.out; omega) rfl rfl rfl rfl ?_; intro A8 c8 w8 o8 x8 g8)
    have HO8 := Lib.hid (show Own w8 B 3 (.slice A8 (P0 ++ [num]).length c8) ((P0 ++ [num]).map (Value.int .i64)) by rw [← intsV_snoc, List.length_append]; rw [List.length_map] at o8; exact o8)
    have HX8 := Lib.hid x8
    rw [show P0.length + 1 = (P0 ++ [num]).length by simp]
    clear o8 x8 g8 HOA HRA XA
    have HPL2 := Lib.hid (show (P0 ++ [num]).length ≤ 1001 by rw [List.length_append]; have := HPL.out; simp only [List.length_cons, List.length_nil]; omega)
    generalize P0 ++ [num] = P1 at *
    clear HPL
    have HAP := Lib.hid (show (P1 ++ hiT (l.take 0) num) = P1 from List.append_nil P1)
    go_loopw [9, 11] (fun s9 si wr => ∃ (k : Nat) (A9 : Option Addr) (c9 : Nat), k ≤ l.length ∧ si = .int .i64 (k : Int) ∧ s9 = .slice A9 (P1 ++ hiT (l.take k) num).length c9 ∧ Hid (Own wr B 3 (.slice A9 (P1 ++ hiT (l.take k) num).length c9) ((P1 ++ hiT (l.take k) num).map (Value.int .i64))) ∧ Hid (Below B wz wr)) (fun _ si _ => l.length - (intOf si).toNat)
    case atStart => exact ⟨0, _, _, Nat.zero_le _, rfl, by rw [HAP.out], by rw [HAP.out]; exact HO8, HX8⟩
    case round =>
    obtain ⟨k, A9, c9, hkl, rfl, rfl, O, X⟩ := hrel
    have Z5 := Lib.hid (RZ.out.below X.out HB.out)
    have X5 := Lib.hid (show Ext w wr from EZ.out.trans (X.out.mono (by have := EZ.out.size; have := hB'.out; omega)))
    have c30 := Z5.out.a.c30
    have cl := Z5.out.a.lt
    by_cases hlt : k < l.length
    case neg =>
      obtain rfl : k = l.length := by omega
      have hd : ¬ ((l.length : Int) < (l.length : Int)) := by omega
      clear hlt hd
      have HO9 := Lib.hid (show Own wr B 3 (.slice A9 (P1 ++ hiT (l.take l.length) num).length c9) ((insT l num).map (Value.int .i64)) by rw [HIN.out]; exact O.out)
      obtain ⟨n9, hn9⟩ : ∃ n9, (P1 ++ hiT (l.take l.length) num).length = n9 := ⟨_, rfl⟩
      have HN9 := Lib.hid (show n9 = (insT l num).length by rw [HIN.out, hn9])
      rw [hn9] at HO9
      rw [hn9]
      clear hn9 O
      obtain ⟨ws, hws⟩ : ∃ ws, ws = (wr.setCell ⟨w.heap.size, 30, none⟩ (.slice A9 n9 c9)) := ⟨_, rfl⟩
      have fa := Z5.out.a.frozen 30
      have hB30 : w.heap.size < B := by have := HB.out; omega
      have ZS := Lib.hid (show RkZ w ws ⟨st, R, L, .slice AS ks.length cS, sg, ls, ssec, lsec, nx, li, .slice A9 n9 c9, D, Z⟩ by
        rw [hws]
        exact ⟨AuAt.put_V (x := ⟨st, R, L, .slice AS ks.length cS, sg, ls, ssec, lsec, nx, li, .slice AV l.length cV, D, Z⟩) Z5.out.a (.slice A9 n9 c9), Z5.out.z.other (by omega), Z5.out.r.other (by omega)⟩)
      have HOS := Lib.hid (show Own ws B 3 (.slice A9 n9 c9) ((insT l num).map (Value.int .i64)) by rw [hws]; exact HO9.out.setLow hB30)
      have XS := Lib.hid (show Ext w ws by rw [hws]; exact ext_set X5.out (Nat.le_refl _))
      have hBs := Lib.hid (show B ≤ ws.heap.size by rw [hws]; have := X.out.size; have := hB'.out; simp; omega)
      go_upto_region 14 with fail
      rw [← hws]
      clear hws fa c30 cl X X5 Z5 HO9 HEV hB30
      have c3 := ZS.out.a.c3
      have cl := ZS.out.a.lt
      go_upto_region 15 with fail
      clear c3 cl
      obtain ⟨bS, oS, rfl, hbS, hcS⟩ := HES.out HKP.out
      have hlk : ks.length - 1 < ks.length := by have := HKP.out; omega
      have hck := hcS (ks.length - 1) hlk
      rw [show ks.getD (ks.length - 1) 0 = k by rw [List.getD_eq_getElem?_getD, HKL.out]; rfl] at hck
      have HCK := Lib.hid (And.intro hbS hck)
      clear hcS hck hbS hlk
      have hkp := HKP.out
      have wi1 : IntKind.i64.wrap ((ks.length : Int) - 1) = (ks.length : Int) - 1 := IntWalk.i64_in _ (by omega)
      have zi1 : (0 : Int) ≤ (ks.length : Int) - 1 := by omega
      have li1 : (ks.length : Int) - 1 < (ks.length : Int) := by omega
      have ti1 : ((ks.length : Int) - 1).toNat = ks.length - 1 := by omega
      have wd : IntKind.i64.wrap (day + 90) = day + 90 := IntWalk.i64_in _ (by omega)
      refine Gt.wp_region_X (r := RG rvT (fun k => ws.heap.size ≤ k)) 25 (by kernel_rfl) (by kernel_rfl) ?_
      simp only [List.take_succ_cons, List.take_zero, List.drop_succ_cons, List.drop_zero]
      intro wq hw1
      have LR : ∀ m : (RG rvT (fun k => ws.heap.size ≤ k)).Lt wq, RgS rvT (fun k => ws.heap.size ≤ k) ws m.1 := fun m => RgS.tr hw1 m.2
      have LB : ∀ m : (RG rvT (fun k => ws.heap.size ≤ k)).Lt wq, Ext ws m.1 := fun m => (LR m).below (fun _ h => h) (Nat.le_refl _)
      have p0 : ∀ m : (RG rvT (fun k => ws.heap.size ≤ k)).Lt wq, m.1.cell? ⟨w.heap.size, 0, none⟩ = some (.string (bstr st)) := fun m => (ZS.out.a.ext (LB m)).c0
      have p3 : ∀ m : (RG rvT (fun k => ws.heap.size ≤ k)).Lt wq, m.1.cell? ⟨w.heap.size, 3, none⟩ = some (.slice (some ⟨bS, oS, none⟩) ks.length cS) := fun m => (ZS.out.a.ext (LB m)).c3
      have p29 : ∀ m : (RG rvT (fun k => ws.heap.size ≤ k)).Lt wq, m.1.cell? ⟨w.heap.size, 29, none⟩ = some (.int .i64 li) := fun m => (ZS.out.a.ext (LB m)).c29
      have pk : ∀ m : (RG rvT (fun k => ws.heap.size ≤ k)).Lt wq, m.1.cell? ⟨bS, oS + (ks.length - 1), none⟩ = some (.int .i64 k) := fun m => ((XS.out.tr (LB m)).cell (p := ⟨bS, oS + (ks.length - 1), none⟩) HCK.out.1).trans HCK.out.2
      have pl : ∀ m : (RG rvT (fun k => ws.heap.size ≤ k)).Lt wq, w.heap.size < m.1.heap.size := fun m => (ZS.out.a.ext (LB m)).lt
      have pb : ∀ m : (RG rvT (fun k => ws.heap.size ≤ k)).Lt wq, bS < m.1.heap.size := fun m => Nat.lt_of_lt_of_le HCK.out.1 (XS.out.tr (LB m)).size
      repeat (refine Gt.wpX_pure (by first | exact trivial | exact ⟨_, rfl, rfl, rfl⟩) rfl rfl rfl rfl rfl (fun K hK => ?_); go_big_quiet_op; refine hK _ ?_; clear hK K)
      refine Gt.wpX_buildSL (by first | exact trivial | exact ⟨_, rfl, rfl, rfl⟩) GNil1 (stable_GNil1 _ _) (fun _ => []) rfl rfl rfl rfl rfl (fun _ => rfl) (fun m f hf => ⟨_, _, run_bs0I m.1, (Below.refl _ _).alloc (Nat.le_refl _) _, _, rfl⟩) ?_
      simp only [Act.put, List.setIfInBounds_toArray, List.set_cons_zero, List.set_cons_succ]
      repeat (refine Gt.wpX_pure (by first | exact trivial | exact ⟨_, rfl, rfl, rfl⟩) rfl rfl rfl rfl rfl (fun K hK => ?_); go_big_quiet_op; refine hK _ ?_; clear hK K)
      refine Gt.wpX_appU (by first | exact trivial | exact ⟨_, rfl, rfl, rfl⟩) (GIs ws.heap.size (insT l num)) (stable_GIs _ _ _) (fun f => f 82) (fun _ => .slice A9 n9 c9) rfl rfl rfl rfl rfl rfl (fun _ => rfl) (fun _ => rfl) (fun m f hf => run_app0I (hf 82 _ rfl rfl) (HOS.out.ext (LB m)).rd (by rw [← HN9.out]; have := HPL2.out; have := HGT.out l.length; have := HN9.out; rw [HIN.out, List.length_append] at this; omega) (LB m).size) ?_
      simp only [Act.put, List.setIfInBounds_toArray, List.set_cons_zero, List.set_cons_succ]
      repeat (refine Gt.wpX_pure (by first | exact trivial | exact ⟨_, rfl, rfl, rfl⟩) rfl rfl rfl rfl rfl (fun K hK => ?_); go_big_quiet_op; refine hK _ ?_; clear hK K)
      refine Gt.wpX_buildL (by first | exact trivial | exact ⟨_, rfl, rfl, rfl⟩) (GRs ws.heap.size ⟨st, li, day, day + 90, insT l num, (ks.length : Int), 0, 0⟩ (insT l num)) (stable_GRs _ _ _ _) (fun f => [(0, .string (bstr st)), (1, .int .i64 li), (2, .int .i64 day), (3, .int .i64 (day + 90)), (4, f 84), (5, .int .i64 (ks.length : Int))]) rfl rfl rfl rfl rfl (fun _ => rfl) (fun m f hf => ?_) ?_
      · obtain ⟨A5, n5, c5, h5, o5⟩ := hf 84 _ rfl rfl
        rw [h5]
        exact ⟨_, _, run_buildRv m.1 st li day (day + 90) (ks.length : Int) A5 n5 c5, Below.refl _ _, A5, n5, c5, rfl, o5⟩
      simp only [Act.put, List.setIfInBounds_toArray, List.set_cons_zero, List.set_cons_succ]
      refine Gt.wpX_callF (by first | exact trivial | exact ⟨_, rfl, rfl, rfl⟩) (GRk ws.heap.size (isCR k ⟨st, li, day, day + 90, insT l num, (ks.length : Int), 0, 0⟩) (isKR k ⟨st, li, day, day + 90, insT l num, (ks.length : Int), 0, 0⟩)) (stable_GRk _ _ _ _) (fun f => [.int .i64 k, f 86]) rfl rfl rfl rfl rfl (by kernel_rfl) rfl (fun _ => rfl) (fun m f hf => ?_) ?_
      · obtain ⟨A5, n5, c5, h5, o5⟩ := hf 86 _ rfl rfl
        rw [h5]
        exact (HIS.out _ m.1 (XS.out.tr (LB m)) o5.rd).mono fun e w'' q => issue_gk q o5 (by show insT l num ≠ []; unfold insT; simp)
      simp only [Act.put, List.setIfInBounds_toArray, List.set_cons_zero, List.set_cons_succ]
      refine Gt.wpX_movU (by first | exact trivial | exact ⟨_, rfl, rfl, rfl⟩) (GRk ws.heap.size (isCR k ⟨st, li, day, day + 90, insT l num, (ks.length : Int), 0, 0⟩) (isKR k ⟨st, li, day, day + 90, insT l num, (ks.length : Int), 0, 0⟩)) (stable_GRk _ _ _ _) (fun f => f 87) rfl rfl rfl rfl rfl (fun _ => rfl) (fun m f hf => hf 87 _ rfl rfl) ?_
      simp only [Act.put, List.setIfInBounds_toArray, List.set_cons_zero, List.set_cons_succ]
      refine Gt.wpX_extL (by first | exact trivial | exact ⟨_, rfl, rfl, rfl⟩) (GRs ws.heap.size (isCR k ⟨st, li, day, day + 90, insT l num, (ks.length : Int), 0, 0⟩) (isCR k ⟨st, li, day, day + 90, insT l num, (ks.length : Int), 0, 0⟩).ser) (stable_GRs _ _ _ _) (fun f => f 68) rfl rfl rfl rfl rfl (fun _ => rfl) (fun m f hf => by obtain ⟨A5, n5, c5, h5, o5⟩ := hf 68 _ rfl rfl; rw [h5]; exact ⟨_, _, (run_ext2 _ _ _).1, Below.refl _ _, A5, n5, c5, rfl, o5⟩) ?_
      simp only [Act.put, List.setIfInBounds_toArray, List.set_cons_zero, List.set_cons_succ]
      refine Gt.wpX_extL (by first | exact trivial | exact ⟨_, rfl, rfl, rfl⟩) (fun v _ => v = .int .i64 (isKR k ⟨st, li, day, day + 90, insT l num, (ks.length : Int), 0, 0⟩)) (Gt.Rl.stable_eq _ _) (fun f => f 68) rfl rfl rfl rfl rfl (fun _ => rfl) (fun m f hf => by obtain ⟨A5, n5, c5, h5, o5⟩ := hf 68 _ rfl rfl; rw [h5]; exact ⟨_, _, (run_ext2 _ _ _).2, Below.refl _ _, rfl⟩) ?_
      simp only [Act.put, List.setIfInBounds_toArray, List.set_cons_zero, List.set_cons_succ]
      refine Gt.wpX_allocR8 ws.heap.size (fun m => (LB m).size) (stable_GRvB _ _ _) (by first | exact trivial | exact ⟨_, rfl, rfl, rfl⟩) rfl rfl rfl rfl ?_
      simp only [Act.put, List.setIfInBounds_toArray, List.set_cons_zero, List.set_cons_succ]
      refine Gt.wpX_store (by first | exact trivial | exact ⟨_, rfl, rfl, rfl⟩) (GRvE ws.heap.size (isCR k ⟨st, li, day, day + 90, insT l num, (ks.length : Int), 0, 0⟩)) (fun f => f 13) (fun f => f 88) rfl rfl rfl rfl rfl (fun _ => rfl) (fun _ => rfl) GRvE.ext GRvE.st (fun m f hf => ?_) ?_
      · obtain ⟨g, e9, hg, bg⟩ := hf 13 _ rfl rfl
        obtain ⟨A5, n5, c5, h5, o5⟩ := hf 88 _ rfl rfl
        rw [e9, h5]
        obtain ⟨w9, q1, q2, q3⟩ := rv_store bg (isCR k ⟨st, li, day, day + 90, insT l num, (ks.length : Int), 0, 0⟩) A5 n5 c5
        exact ⟨w9, q1, ⟨rv_rvT, q3 _ hg⟩, g, A5, n5, c5, rfl, hg, q2, o5.rgs (q3 (fun k => ws.heap.size ≤ k) hg) (by decide)⟩
      refine Gt.wpX_asgU (by first | exact trivial | exact ⟨_, rfl, rfl, rfl⟩) (fun v _ => v = .int .i64 (isKR k ⟨st, li, day, day + 90, insT l num, (ks.length : Int), 0, 0⟩)) (Gt.Rl.stable_eq _ _) (fun f => f 89) rfl rfl rfl rfl rfl (fun _ => rfl) (fun m f hf => hf 89 _ rfl rfl) ?_
      simp only [Act.put, List.setIfInBounds_toArray, List.set_cons_zero, List.set_cons_succ]
      refine Gt.wpX_endG rfl (fun m f hf hqs => ?_)
      have hq1 : GRvE ws.heap.size (isCR k ⟨st, li, day, day + 90, insT l num, (ks.length : Int), 0, 0⟩) (f 13) m.1 := hqs _ List.mem_cons_self
      have hk2 : f 14 = .int .i64 (isKR k ⟨st, li, day, day + 90, insT l num, (ks.length : Int), 0, 0⟩) := hf 14 _ rfl
      obtain ⟨g, A5, n5, c5, eg, hg, T5, O5⟩ := hq1
      simp only [fillH]
      simp only [Act.put, List.setIfInBounds_toArray, List.set_cons_zero, List.set_cons_succ]
      rw [eg, hk2]
      have LM := Lib.hid (LB m)
      have HT5 := Lib.hid T5
      have HO5 := Lib.hid O5
      clear hqs hf eg hk2 LR LB hw1 p0 p3 p29 pk pl pb T5 O5
      generalize m.1 = wm at *
      generalize f 82 = f82 at *
      generalize f 84 = f84 at *
      generalize f 86 = f86 at *
      generalize f 87 = f87 at *
      generalize f 68 = f68 at *
      generalize f 88 = f88 at *
      generalize f 89 = f89 at *
      clear m f
      generalize isCR k ⟨st, li, day, day + 90, insT l num, (ks.length : Int), 0, 0⟩ = rr at *
      generalize isKR k ⟨st, li, day, day + 90, insT l num, (ks.length : Int), 0, 0⟩ = kk at *
      show wpList _ _ _ _ _ _
      have ZM := Lib.hid (ZS.out.ext LM.out)
      have c29 := ZM.out.a.c29
      have cl := ZM.out.a.lt
      have f29 := ZM.out.a.frozen 29
      have wl : IntKind.i64.wrap (li + 1) = li + 1 := IntWalk.i64_in _ (by omega)
      obtain ⟨wt, hwt⟩ : ∃ wt, wt = wm.setCell ⟨w.heap.size, 29, none⟩ (.int .i64 (li + 1)) := ⟨_, rfl⟩
      have hgH : w.heap.size + 1 + 1 < g := by have := ZS.out.r.lt; omega
      have ZT := Lib.hid (show RkZ w wt ⟨st, R, L, .slice (some ⟨bS, oS, none⟩) ks.length cS, sg, ls, ssec, lsec, nx, li + 1, .slice A9 n9 c9, D, Z⟩ by
        rw [hwt]
        exact ⟨AuAt.put_li (x := ⟨st, R, L, .slice (some ⟨bS, oS, none⟩) ks.length cS, sg, ls, ssec, lsec, nx, li, .slice A9 n9 c9, D, Z⟩) ZM.out.a (li + 1), ZM.out.z.other (by omega), ZM.out.r.other (by omega)⟩)
      have XT := Lib.hid (show Ext w wt by rw [hwt]; exact ext_set (XS.out.tr LM.out) (Nat.le_refl _))
      have HOT := Lib.hid (show Own wt B 3 (.slice A9 n9 c9) ((insT l num).map (Value.int .i64)) by rw [hwt]; exact (HOS.out.ext LM.out).setLow (by have := HB.out; omega))
      have HO6 := Lib.hid (show Own wt ws.heap.size 3 (.slice A5 n5 c5) (rr.ser.map (Value.int .i64)) by rw [hwt]; exact HO5.out.setLow (by have := hBs.out; have := HB.out; omega))
      have HT6 := Lib.hid (show RvAt wt g rr (.slice A5 n5 c5) by rw [hwt]; exact HT5.out.other (by omega))
      go_upto_region 17 with fail
      rw [← hwt]
      clear hwt c29 cl f29 ZM HO5 HT5 LM HOS ZS XS
      have H1X := Lib.hid (abRow_one (x := ⟨st, R, L, .slice (some ⟨bS, oS, none⟩) ks.length cS, sg, ls, ssec, lsec, nx, li + 1, .slice A9 n9 c9, D, Z⟩) ⟨H1.out.R, H1.out.L, rfl, rfl, H1.out.D, H1.out.Z⟩)
      refine Gt.wp_region_X (r := RG auT (auG w)) 6 (by kernel_rfl) (by kernel_rfl) ?_
      simp only [List.take_succ_cons, List.take_zero, List.drop_succ_cons, List.drop_zero]
      intro wq hw1
      have LR : ∀ m : (RG auT (auG w)).Lt wq, RgS auT (auG w) wt m.1 := fun m => RgS.tr hw1 m.2
      refine Gt.wpX_rowU (by first | exact trivial | exact ⟨_, rfl, rfl, rfl⟩) w.heap.size (abRow ⟨st, R, L, .slice (some ⟨bS, oS, none⟩) ks.length cS, sg, ls, ssec, lsec, nx, li + 1, .slice A9 n9 c9, D, Z⟩) rfl rfl rfl rfl rfl (fun _ => rfl) (fun m => (LR m).keep ZT.out.a.row (fun q => by rcases q with q | q <;> omega)) Tryz.underlying98 rfl info_au ?_
      simp only [Act.put, List.setIfInBounds_toArray, List.set_cons_zero, List.set_cons_succ]
      refine Gt.wpX_rowU (by first | exact trivial | exact ⟨_, rfl, rfl, rfl⟩) g (rvRow rr (.slice A5 n5 c5)) rfl rfl rfl rfl rfl (fun _ => rfl) (fun m => (LR m).keep HT6.out.row (fun q => by rcases q with q | q <;> omega)) Tryz.underlying103 rfl info_rv ?_
      simp only [Act.put, List.setIfInBounds_toArray, List.set_cons_zero, List.set_cons_succ]
      repeat (refine Gt.wpX_pure (by first | exact trivial | exact ⟨_, rfl, rfl, rfl⟩) rfl rfl rfl rfl rfl (fun K hK => ?_); go_big_quiet_op; refine hK _ ?_; clear hK K)
      refine Gt.wpX_store (by first | exact trivial | exact ⟨_, rfl, rfl, rfl⟩) (fun _ w' => AuAt w' (w.heap.size + 1) ⟨st, R, L, .slice (some ⟨bS, oS, none⟩) ks.length cS, sg, ls, ssec, lsec, nx, li + 1, .slice A9 n9 c9, D, Z⟩) (fun _ => .pointer (some ⟨w.heap.size + 1, 0, none⟩)) (fun f => f 94) rfl rfl rfl rfl rfl (fun _ => rfl) (fun _ => rfl) (fun _ _ _ e h => AuAt.ext h e) (fun T hT _ _ _ e h => e.2.other h (fun q => hT (List.mem_singleton.1 q).symm)) (fun m f hf => ?_) ?_
      · have e5 : f 94 = .agg (abRow ⟨st, R, L, .slice (some ⟨bS, oS, none⟩) ks.length cS, sg, ls, ssec, lsec, nx, li + 1, .slice A9 n9 c9, D, Z⟩) := hf 94 _ rfl rfl
        rw [e5]
        obtain ⟨cs9, q1, q2⟩ := BlkT.rg (n := 33) ⟨_, ZT.out.z.row, rfl⟩ (LR m)
        exact ⟨_, row_store (cells := abRow ⟨st, R, L, .slice (some ⟨bS, oS, none⟩) ks.length cS, sg, ls, ssec, lsec, nx, li + 1, .slice A9 n9 c9, D, Z⟩) q1 info_au q2 H1X.out, ⟨au_auT, RgS.setRow q1 (List.mem_singleton.2 rfl) (.inl rfl) q2.symm⟩, row_at q1⟩
      refine Gt.wpX_store (by first | exact trivial | exact ⟨_, rfl, rfl, rfl⟩) (fun _ w' => RvAt w' (w.heap.size + 1 + 1) rr (.slice A5 n5 c5)) (fun _ => .pointer (some ⟨w.heap.size + 1 + 1, 0, none⟩)) (fun f => f 95) rfl rfl rfl rfl rfl (fun _ => rfl) (fun _ => rfl) (fun _ _ _ e h => RvAt.ext h e) (fun T hT _ _ _ e h => e.2.other h (fun q => hT (List.mem_singleton.1 q).symm)) (fun m f hf => ?_) ?_
      · have e5 : f 95 = .agg (rvRow rr (.slice A5 n5 c5)) := hf 95 _ rfl rfl
        rw [e5]
        obtain ⟨cs9, q1, q2⟩ := BlkT.rg (n := 8) ⟨_, ZT.out.r.row, rfl⟩ (LR m)
        exact ⟨_, row_store (cells := rvRow rr (.slice A5 n5 c5)) q1 info_rv q2 (rv_all rr A5 n5 c5), ⟨rv_auT, RgS.setRow q1 (List.mem_singleton.2 rfl) (.inr rfl) q2.symm⟩, row_at q1⟩
      repeat (refine Gt.wpX_pure (by first | exact trivial | exact ⟨_, rfl, rfl, rfl⟩) rfl rfl rfl rfl rfl (fun K hK => ?_); go_big_quiet_op; refine hK _ ?_; clear hK K)
      refine Gt.wpX_endG rfl (fun m f hf hqs => ?_)
      have hq2 : RvAt m.1 (w.heap.size + 1 + 1) rr (.slice A5 n5 c5) := hqs _ List.mem_cons_self
      have hq1 : AuAt m.1 (w.heap.size + 1) ⟨st, R, L, .slice (some ⟨bS, oS, none⟩) ks.length cS, sg, ls, ssec, lsec, nx, li + 1, .slice A9 n9 c9, D, Z⟩ := hqs _ (List.mem_cons_of_mem _ List.mem_cons_self)
      simp only [fillH]
      simp only [Act.put, List.setIfInBounds_toArray, List.set_cons_zero, List.set_cons_succ]
      have HQ1 := Lib.hid hq1
      have HQ2 := Lib.hid hq2
      have XE := Lib.hid (show Ext w m.1 from XT.out.trans ((LR m).below (B := w.heap.size + 1) (fun k q => by rcases q with q | q <;> omega) ZT.out.a.lt |>.mono (Nat.le_succ _)))
      have R9 := Lib.hid (show RdI m.1 .i64 (.slice A9 n9 c9) (insT l num) from (HOT.out.rgs (LR m) (by decide)).rd)
      have R5 := Lib.hid (show RdI m.1 .i64 (.slice A5 n5 c5) rr.ser from (HO6.out.rgs (LR m) (by decide)).rd)
      clear hqs hf hw1 LR hq1 hq2
      generalize m.1 = we at *
      show wpList _ _ _ _ _ _
      go_wp2_with fail
      refine bodyPost_ret (v := .tuple #[.agg (abRow ⟨st, R, L, .slice (some ⟨bS, oS, none⟩) ks.length cS, sg, ls, ssec, lsec, nx, li + 1, .slice A9 n9 c9, D, Z⟩), .agg (rvRow rr (.slice A5 n5 c5)), .int .i64 kk]) ?_ rfl ⟨A9, n9, c9, A5, n5, c5, rfl, R9.out, R5.out, XE.out⟩
      simp [results, Tryz.results74, asAddr, run_loadVar_row we (w.heap.size + 1) 98 98 (abRow ⟨st, R, L, .slice (some ⟨bS, oS, none⟩) ks.length cS, sg, ls, ssec, lsec, nx, li + 1, .slice A9 n9 c9, D, Z⟩) (0, 0) _ HQ1.out.row Tryz.underlying98 rfl info_au, run_loadVar_row we (w.heap.size + 1 + 1) 103 103 (rvRow rr (.slice A5 n5 c5)) (0, 0) _ HQ2.out.row Tryz.underlying103 rfl info_rv]
    case pos =>
    obtain ⟨t, ht⟩ : ∃ t, l[k]? = some t := ⟨_, List.getElem?_eq_getElem hlt⟩
    obtain ⟨b, oo, rfl, hbl, hc⟩ := HEV.out (by omega)
    have l0 := (X5.out.cell (p := ⟨b, oo + k, none⟩) hbl).trans (hc k hlt)
    rw [show l.getD k 0 = t by rw [List.getD_eq_getElem?_getD, ht]; rfl] at l0
    have HSN := Lib.hid (hiT_snoc (n := num) ht)
    have HLE := Lib.hid (show (P1 ++ hiT (l.take k) num).length ≤ 2001 by have := HPL2.out; have := HGT.out k; rw [List.length_append]; omega)
    clear hc ht
    have wi2 : IntKind.i64.wrap ((k : Int)) = (k : Int) := IntWalk.i64_in _ (by omega)
    have zi2 : (0 : Int) ≤ (k : Int) := by omega
    have li2 : (k : Int) < (l.length : Int) := by omega
    have ti2 : ((k : Int)).toNat = k := by omega
    obtain ⟨N, hN⟩ : ∃ N, hiT (l.take k) num = N := ⟨_, rfl⟩
    rw [hN] at HSN HLE O
    rw [hN]
    clear hN
    by_cases d3 : num < t
    case neg =>
      have HF := Lib.hid (show hiT (l.take (k + 1)) num = N by rw [HSN.out]; exact if_neg d3)
      go_wp2_with fail
      go_roundw
      case rel => exact ⟨k + 1, A9, c9, by omega, by go_num, by rw [HF.out], by rw [HF.out]; exact O, X⟩
      case measure => simp [intOf]; omega
    have HF := Lib.hid (show hiT (l.take (k + 1)) num = N ++ [t] by rw [HSN.out]; exact if_pos d3)
    have eA : Ext wr (wr.alloc (.cells #[.int .i64 t] 3)) := (Below.refl _ _).alloc (Nat.le_refl _) _
    have HOA := Lib.hid (O.out.ext eA)
    have HRA := Lib.hid (lit_one wr t)
    have XA := Lib.hid (X.out.alloc (by have := X.out.size; have := hB'.out; omega) (.cells #[.int .i64 t] 3))
    clear eA
    go_wp2_with (refine wpList_app (B := B) (w0 := wz) elemI HOA.out HRA.out (fun u hu => by rw [List.mem_singleton.1 hu]; rfl) XA.out (by have := HLE.out; simp only [List.length_map, List.length_cons, List.length_nil]; omega) (by have := HLE.out; unfold maxLen; simp only [List.length_map, List.length_cons, List.length_nil]; omega) (by have := XA.out.size; have := hB'.out; omega) rfl rfl rfl rfl ?_; intro A8 c8 w8 o8 x8 g8)
    have HO8 := Lib.hid o8
    have HX8 := Lib.hid x8
    clear o8 x8 g8
    go_roundw
    case rel => exact ⟨k + 1, A8, c8, by omega, by go_num, by rw [HF.out]; simp [List.length_append, Nat.add_assoc], by rw [HF.out]; refine Lib.hid ?_; have := HO8.out; simpa [List.append_assoc, Nat.add_assoc] using this, HX8⟩
    case measure => simp [intOf]; omega
  case pos =>
  obtain ⟨t, ht⟩ : ∃ t, l[k]? = some t := ⟨_, List.getElem?_eq_getElem hlt⟩
  obtain ⟨b, oo, rfl, hbl, hc⟩ := HEV.out (by omega)
  have l0 := (X5.out.cell (p := ⟨b, oo + k, none⟩) hbl).trans (hc k hlt)
  rw [show l.getD k 0 = t by rw [List.getD_eq_getElem?_getD, ht]; rfl] at l0
  have HSN := Lib.hid (lowT_snoc (n := num) ht)
  have HLE := Lib.hid (show (lowT (l.take k) num).length ≤ 2001 by have := HLT.out l.length; have := HLT.out k; (try simp only [List.length_append, List.length_cons, List.length_nil]); omega)
  clear hc ht
  have wi3 : IntKind.i64.wrap ((k : Int)) = (k : Int) := IntWalk.i64_in _ (by omega)
  have zi3 : (0 : Int) ≤ (k : Int) := by omega
  have li3 : (k : Int) < (l.length : Int) := by omega
  have ti3 : ((k : Int)).toNat = k := by omega
  obtain ⟨N, hN⟩ : ∃ N, lowT (l.take k) num = N := ⟨_, rfl⟩
  rw [hN] at HSN HLE O
  rw [hN]
  clear hN
  by_cases d3 : t < num
  case neg =>
    have HF := Lib.hid (show lowT (l.take (k + 1)) num = N by rw [HSN.out]; exact if_neg d3)
    go_wp2_with fail
    go_roundw
    case rel => exact ⟨k + 1, A9, c9, by omega, by go_num, by rw [HF.out], by rw [HF.out]; exact O, X⟩
    case measure => simp [intOf]; omega
  have HF := Lib.hid (show lowT (l.take (k + 1)) num = N ++ [t] by rw [HSN.out]; exact if_pos d3)
  have eA : Ext wr (wr.alloc (.cells #[.int .i64 t] 3)) := (Below.refl _ _).alloc (Nat.le_refl _) _
  have HOA := Lib.hid (O.out.ext eA)
  have HRA := Lib.hid (lit_one wr t)
  have XA := Lib.hid (X.out.alloc (by have := X.out.size; have := hB'.out; omega) (.cells #[.int .i64 t] 3))
  clear eA
  go_wp2_with (refine wpList_app (B := B) (w0 := wz) elemI HOA.out HRA.out (fun u hu => by rw [List.mem_singleton.1 hu]; rfl) XA.out (by have := HLE.out; simp only [List.length_map, List.length_cons, List.length_nil]; omega) (by have := HLE.out; unfold maxLen; simp only [List.length_map, List.length_cons, List.length_nil]; omega) (by have := XA.out.size; have := hB'.out; omega) rfl rfl rfl rfl ?_; intro A8 c8 w8 o8 x8 g8)
  have HO8 := Lib.hid o8
  have HX8 := Lib.hid x8
  clear o8 x8 g8
  go_roundw
  case rel => exact ⟨k + 1, A8, c8, by omega, by go_num, by rw [HF.out]; simp [List.length_append], by rw [HF.out]; refine Lib.hid ?_; have := HO8.out; simpa [List.append_assoc, Nat.add_assoc] using this, HX8⟩
  case measure => simp [intOf]; omega
end Go.Proofs.YtkjplpmogfmhkaaGreatDoor
