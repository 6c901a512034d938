/- Parts Tt Tu Qc Qd Qe Qf Rq Rr Rl Qg of the proof. -/
import Derived.Test.YthbpdhanljpigaaGreatDoorVas
import Derived.Lib.SliceRun
import Derived.Deep.LoopGhost
import Derived.Lib.LazyBuf
import Derived.Test.YthbpdhanljpigaaGreatDoorVab
import Derived.Test.YthbpdhanljpigaaGreatDoorVah
namespace Go.Proofs.YthbpdhanljpigaaGreatDoor
open Go.RowKit
set_option linter.unusedVariables false
set_option maxRecDepth 100000
theorem eql_nilB (w : World) (A : Option Addr) (n c : Nat) : (binOp .eql 26 (.slice A n c) (.slice none 0 0)).run Tryz.prog w = .ok (.bool A.isNone) w := Lib.run_eql_slice_nil w _ 5 A n c 0 0 Tryz.underlying26
set_option maxHeartbeats 1000000 in
theorem cloneB_any {a : Value} {l : List UInt8} (w : World) (ha : Rd w a (bvs l)) (hl : l.length ≤ 140737488355328) : Calls Tryz.prog 48 #[a] w (RetB w l) := by
  have ha0 := ha
  obtain ⟨A, n, c, rfl, hn, hnc, hcm, hA⟩ := ha.bytes
  subst hn
  unfold maxLen at hcm
  cases A with
  | none =>
    have h0 : l = [] := by
      by_cases h : 0 < l.length
      · obtain ⟨b, o, e, _⟩ := hA h; cases e
      · exact List.eq_nil_of_length_eq_zero (by omega)
    subst h0
    clear hA ha ha0
    have hq := fun w => eql_nilB w none 0 c
    go_enter Tryz.func48, Tryz.ntmps48
    go_wp2
    go_ret
    exact ⟨_, _, _, rfl, (show _ = _ from rfl), nilB _ _, Below.refl _ _⟩
  | some ad =>
    clear hA ha
    have hq := fun w => eql_nilB w (some ad) l.length c
    have e6 : Ext w (w.alloc (.cells #[] 5)) := (Below.refl _ _).alloc (Nat.le_refl _) _
    go_enter Tryz.func48, Tryz.ntmps48
    go_wp2_with (refine appN (ys := l) (ha0.ext e6) e6 hl e6.size rfl rfl rfl rfl ?_; intro A2 n2 c2 w2 hn2 o2 (b2 : Ext _ _) g2)
    go_ret
    exact ⟨_, _, _, rfl, hn2, o2, b2⟩
theorem rowOf_ltK {w : World} {B : Nat} {e : TypeId} {k : Nat} {v : Value} {xs : List Value} (h : OwnK w B e k v xs) : ∀ r, rowOf v = some r → r < w.heap.size := by
  obtain ⟨A, n, c, rfl, hn, ⟨rfl, rfl⟩ | ⟨g, cur, rfl, hb, hg, _⟩⟩ := h
  · intro k hk; cases A <;> simp [rowOf] at hk
  · intro k hk
    cases c with
    | zero => simp [rowOf] at hk
    | succ c =>
      have := block_lt hg
      simp [rowOf] at hk
      omega
end Go.Proofs.YthbpdhanljpigaaGreatDoor
namespace Go.Proofs.YthbpdhanljpigaaGreatDoor
open Go.RowKit
set_option linter.unusedVariables false
set_option maxRecDepth 100000
section
variable {P : Program} {Q : Exit → Act → World → Prop} {w0 : World} {R : Act → World → Prop}
/-- A nil check of a pointer that is none, in a region that draws. -/
theorem wpX_nil {o : Oper} {rest : List Oper} {a : Act} {hs : List (Nat × VPred)} {d : Nat} (ad : Addr) {x : Operand} (hd : o.dst = some d) (hz : Nat.blt d a.tmps.size = true) (ho : o.op = .nilCheck x) (hx : a.eval x = .pointer (some ad)) (hn : noHole o hs = true)
    (hr : wpX P Q w0 R rest (a.put (some d) (.pointer (some ad))) hs) : wpX P Q w0 R (o :: rest) a hs :=
  wpX_call (.pointer (some ad)) hd hz (by unfold notSelect; rw [ho]) hn (fun m K hK => by
    unfold Oper.wp execOp
    simp only [ho, hx, Sem.run_pure, Oper.upon]
    exact hK _ _ (by rw [hd]; rfl) ⟨Below.refl _ _, by rw [hd, eval_put_same (blt_lt hz)]⟩) hr
end
/-- A block of three cells. -/
def C3 (W : World) (b : Nat) (v0 v1 v2 : Value) : Prop := W.heap[b]? = some (.cells #[v0, v1, v2] 83 (0, 0))
theorem C3.cells {W : World} {b : Nat} {v0 v1 v2 : Value} (h : C3 W b v0 v1 v2) : W.cell? ⟨b, 0, none⟩ = some v0 ∧ W.cell? ⟨b, 1, none⟩ = some v1 ∧ W.cell? ⟨b, 2, none⟩ = some v2 ∧ W.frozen? ⟨b, 0, none⟩ = false ∧ W.frozen? ⟨b, 1, none⟩ = false ∧ W.frozen? ⟨b, 2, none⟩ = false := by
  refine ⟨?_, ?_, ?_, ?_, ?_, ?_⟩
  · rw [cell_of_row W b 0 _ _ _ h]; rfl
  · rw [cell_of_row W b 1 _ _ _ h]; rfl
  · rw [cell_of_row W b 2 _ _ _ h]; rfl
  all_goals (unfold C3 at h; simp [World.frozen?, h])
theorem C3.gb {W W' : World} {g b : Nat} {v0 v1 v2 : Value} (h : C3 W b v0 v1 v2) (k : Gb g W W') (hne : b ≠ g) : C3 W' b v0 v1 v2 := (k.block b (block_lt h) (fun e => hne (by injection e))).trans h
theorem C3.new (W : World) (v0 v1 v2 : Value) : C3 (W.alloc (.cells #[v0, v1, v2] 83)) W.heap.size v0 v1 v2 := heap_alloc_new' W _
theorem C3.lt {W : World} {b : Nat} {v0 v1 v2 : Value} (h : C3 W b v0 v1 v2) : b < W.heap.size := block_lt h
theorem Gb.poke {g b i : Nat} {W W' : World} {v : Value} (h : Gb g W W') (hb : W.heap.size ≤ b) : Gb g W (W'.setCell ⟨b, i, none⟩ v) :=
  ⟨h.os, h.tape, h.output, by simpa using h.size, fun k hk hne => by
    have e : k ≠ b := by omega
    rw [← h.block k hk hne]
    simp [World.setCell, Array.getElem?_modify, Ne.symm e]⟩
theorem setCell_block {W : World} {b i k : Nat} {v : Value} (h : k ≠ b) : (W.setCell ⟨b, i, none⟩ v).heap[k]? = W.heap[k]? := by simp [World.setCell, Array.getElem?_modify, Ne.symm h]
theorem C3.other {W : World} {b b' i : Nat} {v0 v1 v2 v : Value} (h : C3 W b v0 v1 v2) (hne : b ≠ b') : C3 (W.setCell ⟨b', i, none⟩ v) b v0 v1 v2 := (setCell_block hne).trans h
abbrev set3 (W : World) (b : Nat) (v0 v1 v2 : Value) : World := ((W.setCell ⟨b, 0, none⟩ v0).setCell ⟨b, 1, none⟩ v1).setCell ⟨b, 2, none⟩ v2
theorem C3.set2 {W : World} {b : Nat} {v0 v1 v2 : Value} (h : C3 W b v0 v1 v2) (u : Value) : C3 (W.setCell ⟨b, 2, none⟩ u) b v0 v1 u := by
  unfold C3 at h ⊢
  simp only [World.setCell, Array.getElem?_modify, if_true, h, Option.map_some]
  rfl
theorem C3.set1 {W : World} {b : Nat} {v0 v1 v2 : Value} (h : C3 W b v0 v1 v2) (u : Value) : C3 (W.setCell ⟨b, 1, none⟩ u) b v0 u v2 := by
  unfold C3 at h ⊢
  simp only [World.setCell, Array.getElem?_modify, if_true, h, Option.map_some]
  rfl
theorem C3.set0 {W : World} {b : Nat} {v0 v1 v2 : Value} (h : C3 W b v0 v1 v2) (u : Value) : C3 (W.setCell ⟨b, 0, none⟩ u) b u v1 v2 := by
  unfold C3 at h ⊢
  simp only [World.setCell, Array.getElem?_modify, if_true, h, Option.map_some]
  rfl
theorem C3.set3 {W : World} {b : Nat} {v0 v1 v2 : Value} (h : C3 W b v0 v1 v2) (u0 u1 u2 : Value) : C3 (set3 W b u0 u1 u2) b u0 u1 u2 := ((h.set0 u0).set1 u1).set2 u2
theorem Gb.set3 {g b : Nat} {W W' : World} {v0 v1 v2 : Value} (h : Gb g W W') (hb : W.heap.size ≤ b) : Gb g W (set3 W' b v0 v1 v2) := ((h.poke hb).poke hb).poke hb
theorem set3_block {W : World} {b k : Nat} {v0 v1 v2 : Value} (h : k ≠ b) : (set3 W b v0 v1 v2).heap[k]? = W.heap[k]? := by
  unfold Go.Proofs.YthbpdhanljpigaaGreatDoor.set3
  rw [setCell_block h, setCell_block h, setCell_block h]
theorem win_take {L : List UInt8} {e p n : Nat} (h : p + n ≤ e) : ((L.take e).drop p).take n = (L.take (p + n)).drop p := by
  rw [List.drop_take, List.take_take, List.drop_take, Nat.min_eq_left (by omega)]
  congr 1
  omega
end Go.Proofs.YthbpdhanljpigaaGreatDoor
namespace Go.Proofs.YthbpdhanljpigaaGreatDoor
open Go.RowKit
set_option linter.unusedVariables false
set_option maxRecDepth 100000
/-- Objects ahead of what is read. -/
def addX (d : List Nd) (k : Nat) (r : Except Int (List Nd × Nat × Nat)) : Except Int (List Nd × Nat × Nat) := match r with
  | .error e => .error e
  | .ok (ks, c, u) => .ok (d ++ ks, c, k + u)
theorem addX_nil (r : Except Int (List Nd × Nat × Nat)) : addX [] 0 r = r := by
  cases r with
  | error e => rfl
  | ok r => obtain ⟨ks, c, u⟩ := r; simp [addX]
theorem addX_addX (d d' : List Nd) (k k' : Nat) (r : Except Int (List Nd × Nat × Nat)) : addX d k (addX d' k' r) = addX (d ++ d') (k + k') r := by
  cases r with
  | error e => rfl
  | ok r => obtain ⟨ks, c, u⟩ := r; simp [addX, Nat.add_assoc]
/-- The bytes do not end here. -/
def moreX (op : Bool) (l : List UInt8) : Prop := ¬ (op = true ∧ (l.length < 1 ∨ (byteI l 0 = 0 ∧ l.length < 2))) ∧ ¬ (op = true ∧ byteI l 0 = 0 ∧ byteI l 1 = 0) ∧ ¬ (op = false ∧ l.length < 1)
theorem objsX_more {q op : Bool} {dep : Int} {cnt : Nat} {l : List UInt8} (h : moreX op l) : objsX q op dep cnt l = match objX1 q (objsX q) dep cnt l with
    | .error e => .error e
    | .ok (x, c, u) => addX [x] u (objsX q op dep c (l.drop u)) := by
  rw [objsX_eq, if_neg h.1, if_neg h.2.1, if_neg h.2.2]
  cases objX1 q (objsX q) dep cnt l with
  | error e => rfl
  | ok r =>
    obtain ⟨x, c, u⟩ := r
    simp only []
    unfold addX
    cases objsX q op dep c (l.drop u) with
    | error e => rfl
    | ok r => rfl
theorem objsX_err {q op : Bool} {dep : Int} {cnt : Nat} {l : List UInt8} {e : Int} (h : moreX op l) (hx : objX1 q (objsX q) dep cnt l = .error e) : objsX q op dep cnt l = .error e := by rw [objsX_more h, hx]
theorem objsX_ok {q op : Bool} {dep : Int} {cnt : Nat} {l : List UInt8} {x : Nd} {c u : Nat} (h : moreX op l) (hx : objX1 q (objsX q) dep cnt l = .ok (x, c, u)) : objsX q op dep cnt l = addX [x] u (objsX q op dep c (l.drop u)) := by rw [objsX_more h, hx]
theorem objX1_usedX {q : Bool} {dep : Int} {cnt : Nat} {l : List UInt8} {x : Nd} {c u : Nat} (h : objX1 q (objsX q) dep cnt l = .ok (x, c, u)) : 2 ≤ u ∧ u ≤ l.length := objX1_used (fun _ _ _ _ _ _ _ hm => objsX_used hm) h
theorem objX1_cntX {q : Bool} {dep : Int} {cnt : Nat} {l : List UInt8} {x : Nd} {c u : Nat} (hr : ∀ op dep' cnt' m ks c u, m.length < l.length → objsX q op dep' cnt' m = .ok (ks, c, u) → cnt' ≤ 256 → c ≤ 256 ∧ cnt' ≤ c) (h : objX1 q (objsX q) dep cnt l = .ok (x, c, u)) : c ≤ 256 ∧ cnt + 1 ≤ c := by
  unfold objX1 at h
  split at h
  · cases h
  · rename_i t o n ht
    obtain ⟨g1, g2, g3, g4, _, _, _, g8, g9, _⟩ := headX_bd ht
    split at h
    · split at h
      · cases h
      · rename_i ks c2 u2 hk
        have := hr _ _ _ _ _ _ _ (by rw [List.length_drop]; omega) hk (by omega)
        simp only [Except.ok.injEq, Prod.mk.injEq] at h
        omega
    · split at h
      · split at h
        · cases h
        · rename_i ks c2 u2 hk
          have := hr _ _ _ _ _ _ _ (by rw [List.length_take, List.length_drop]; omega) hk (by omega)
          simp only [Except.ok.injEq, Prod.mk.injEq] at h
          omega
      · simp only [Except.ok.injEq, Prod.mk.injEq] at h
        omega
theorem objsX_cnt : ∀ (k : Nat) (l : List UInt8) (q op : Bool) (dep : Int) (cnt : Nat) (ts : List Nd) (c u : Nat), l.length ≤ k → objsX q op dep cnt l = .ok (ts, c, u) → cnt ≤ 256 → c ≤ 256 ∧ cnt + ts.length ≤ c ∧ (op = false → u = l.length)
  | k, l, q, op, dep, cnt, ts, c, u, hk, h, hc => by
    rw [objsX_eq] at h
    split at h
    · cases h
    · split at h
      · rename_i h2
        simp only [Except.ok.injEq, Prod.mk.injEq] at h
        obtain ⟨rfl, rfl, rfl⟩ := h
        exact ⟨hc, by simp, fun q => by rw [q] at h2; exact absurd h2.1 (by decide)⟩
      · split at h
        · rename_i h3
          simp only [Except.ok.injEq, Prod.mk.injEq] at h
          obtain ⟨rfl, rfl, rfl⟩ := h
          exact ⟨hc, by simp, fun _ => by omega⟩
        · split at h
          · cases h
          · rename_i x c1 u1 hx
            have hu := objX1_usedX hx
            match k, hk with
            | 0, hk => omega
            | k + 1, hk =>
              obtain ⟨d1, d2⟩ := objX1_cntX (fun op' dep' cnt' m ks c u hm hy hc' => by have := objsX_cnt k m q op' dep' cnt' ks c u (by omega) hy hc'; omega) hx
              split at h
              · cases h
              · rename_i xs c2 u2 hy
                obtain ⟨f1, f2, f3⟩ := objsX_cnt k _ q op dep c1 xs c2 u2 (by rw [List.length_drop]; omega) hy d1
                rw [List.length_drop] at f3
                simp only [Except.ok.injEq, Prod.mk.injEq] at h
                obtain ⟨rfl, rfl, rfl⟩ := h
                exact ⟨f1, by simp only [List.length_cons]; omega, fun e => by have := f3 e; omega⟩
theorem objX1_cntQ {q : Bool} {dep : Int} {cnt : Nat} {l : List UInt8} {x : Nd} {c u : Nat} (h : objX1 q (objsX q) dep cnt l = .ok (x, c, u)) : c ≤ 256 ∧ cnt + 1 ≤ c := objX1_cntX (fun op dep' cnt' m ks c u _ hy hc => by have := objsX_cnt _ m q op dep' cnt' ks c u (Nat.le_refl _) hy hc; omega) h
theorem objX1_depQ {q : Bool} {rec : RecX} {dep : Int} {cnt : Nat} {l : List UInt8} {r : Nd × Nat × Nat} (h : objX1 q rec dep cnt l = .ok r) : dep ≤ 8 := by
  unfold objX1 at h
  split at h
  · cases h
  · rename_i t o n ht
    exact (headX_bd ht).2.2.2.2.2.2.2.1
/-- What objects, what kids returns. -/
def ObjsQ (W : World) (g : Nat) (bs : Value) (q : Bool) (d a : Nat) (r : Except Int (List Nd × Nat × Nat)) (en : Ending) (W' : World) : Prop := Gb g W W' ∧
  ((∃ (A : Option Addr) (n c : Nat) (k : Int), r = .error k ∧ k ≠ 0 ∧ en = .returned (.tuple #[.slice A n c, .int .i64 k])) ∨
   (∃ ts c u A n cc, r = .ok (ts, c, u) ∧ en = .returned (.tuple #[.slice A n cc, .int .i64 0]) ∧ RAq W' g bs q ((a + u : Nat) : Int) (c : Int) ∧ NdsS (fun b => W.heap.size ≤ b) d W' (.slice A n cc) ts))
def ObjsOkQ (q : Bool) (d : Nat) : Prop := ∀ (w0 W : World) (bs : Value) (L : List UInt8) (a e cnt : Nat), Rd w0 bs (bvs L) → Below w0.heap.size w0 W → RAq W w0.heap.size bs q (a : Int) (cnt : Int) → a ≤ e → e ≤ L.length → L.length ≤ 4096 → cnt ≤ 256 →
  Calls Tryz.prog 123 #[.pointer (some ⟨w0.heap.size, 0, none⟩), .int .i64 (e : Int), .int .i64 (9 - (d : Int))] W (ObjsQ W w0.heap.size bs q d a (objsX q false (9 - (d : Int)) cnt ((L.take e).drop a)))
def KidsOkQ (q : Bool) (d : Nat) : Prop := ∀ (w0 W : World) (bs : Value) (L : List UInt8) (a e cnt : Nat), Rd w0 bs (bvs L) → Below w0.heap.size w0 W → RAq W w0.heap.size bs q (a : Int) (cnt : Int) → a ≤ e → e ≤ L.length → L.length ≤ 4096 → cnt ≤ 256 →
  Calls Tryz.prog 180 #[.pointer (some ⟨w0.heap.size, 0, none⟩), .int .i64 (e : Int), .int .i64 (9 - (d : Int))] W (ObjsQ W w0.heap.size bs q d a (objsX q true (9 - (d : Int)) cnt ((L.take e).drop a)))
/-- What object returns. -/
def ObjQ (W : World) (g : Nat) (bs : Value) (q : Bool) (d a : Nat) (r : Except Int (Nd × Nat × Nat)) (en : Ending) (W' : World) : Prop := Gb g W W' ∧
  ((∃ (t : Int) (A1 : Option Addr) (n1 c1 : Nat) (A2 : Option Addr) (n2 c2 : Nat) (k : Int), r = .error k ∧ k ≠ 0 ∧ en = .returned (.tuple #[.agg #[.int .i64 t, .slice A1 n1 c1, .slice A2 n2 c2], .int .i64 k])) ∨
   (∃ x c u A1 n1 c1 A2 n2 c2, r = .ok (x, c, u) ∧ en = .returned (.tuple #[.agg #[.int .i64 x.tag, .slice A1 n1 c1, .slice A2 n2 c2], .int .i64 0]) ∧ RAq W' g bs q ((a + u : Nat) : Int) (c : Int) ∧
     RdS (fun b => W.heap.size ≤ b) W' (.slice A1 n1 c1) (bvs x.val) ∧ NdsS (fun b => W.heap.size ≤ b) (d - 1) W' (.slice A2 n2 c2) x.kids))
def ObjOkQ (q : Bool) (d : Nat) : Prop := ∀ (w0 W : World) (bs : Value) (L : List UInt8) (a e cnt : Nat), Rd w0 bs (bvs L) → Below w0.heap.size w0 W → RAq W w0.heap.size bs q (a : Int) (cnt : Int) → a ≤ e → e ≤ L.length → L.length ≤ 4096 → cnt ≤ 256 →
  Calls Tryz.prog 158 #[.pointer (some ⟨w0.heap.size, 0, none⟩), .int .i64 (e : Int), .int .i64 (9 - (d : Int))] W (ObjQ W w0.heap.size bs q d a (objX1 q (objsX q) (9 - (d : Int)) cnt ((L.take e).drop a)))
/-- Where the loop stands. -/
def ObLq (W : World) (g : Nat) (bs : Value) (q op : Bool) (L : List UInt8) (d a e cnt : Nat) (dep : Int) (k : Nat) (out : Value) (wr : World) : Prop :=
  ∃ (p c' : Nat) (A : Option Addr) (n cc : Nat) (xs : List Value) (done : List Nd), out = .slice A n cc ∧ n = done.length ∧ a ≤ p ∧ p ≤ e ∧ e - p ≤ k ∧ done.length + cnt ≤ c' ∧ c' ≤ 256 ∧ Gb g W wr ∧ RAq wr g bs q (p : Int) (c' : Int) ∧
    OwnK wr W.heap.size 83 3 (.slice A n cc) xs ∧ NdCells (fun b => W.heap.size ≤ b ∧ rowOf (.slice A n cc) ≠ some b) (d - 1) wr xs done ∧ (d = 0 → done = []) ∧
    objsX q op dep cnt ((L.take e).drop a) = addX done (p - a) (objsX q op dep c' ((L.take e).drop p))
/-- What is returned behind the last object. -/
theorem objs_fin {d : Nat} {W wr : World} {A : Option Addr} {n cc : Nat} {xs : List Value} {done : List Nd} (hn : n = done.length) (hd0 : d = 0 → done = []) (ow : OwnK wr W.heap.size 83 3 (.slice A n cc) xs) (nc : NdCells (fun b => W.heap.size ≤ b ∧ rowOf (.slice A n cc) ≠ some b) (d - 1) wr xs done) : NdsS (fun b => W.heap.size ≤ b) d wr (.slice A n cc) done := by
  cases d with
  | zero =>
    obtain rfl := hd0 rfl
    have : n = 0 := hn
    subst this
    exact ⟨rfl, A, cc, rfl, by
      have := ow.rd
      obtain ⟨A', n', c'', e', _, _, h3, _⟩ := this
      injection e' with _ _ e'
      rw [e']; exact h3⟩
  | succ d => exact NdsS.mk ow nc (fun b h => h.1) (fun b h => h)
set_option maxHeartbeats 4000000 in
theorem objsq_of {q : Bool} {d : Nat} (H : ObjOkQ q d) : ObjsOkQ q d := by
  intro w0 W bs L a e cnt hb bel hr hae he hl hc
  have HH := Lib.hid H
  clear H
  obtain ⟨A0, n0, c0, rfl, hn0, hnc0, hcm0, _⟩ := hb.bytes
  subst hn0
  unfold maxLen at hcm0
  have HB := Lib.hid hb
  clear hb
  have hgl := hr.lt
  have R0 : ObLq W w0.heap.size (.slice A0 L.length c0) q false L d a e cnt (9 - (d : Int)) (e - a) (.slice none 0 0) W :=
    ⟨a, cnt, none, 0, 0, [], [], rfl, rfl, Nat.le_refl _, hae, Nat.le_refl _, by simp, hc, Gb.refl _ _, hr, OwnK.empty _ _ _ _ _, NdCells.nil _ _ _, fun _ => rfl, by rw [Nat.sub_self, addX_nil]⟩
  have R0' := Lib.hid R0
  clear R0 hr
  obtain ⟨r, hr⟩ : ∃ r, objsX q false (9 - (d : Int)) cnt ((L.take e).drop a) = r := ⟨_, rfl⟩
  rw [hr]
  have HRR := Lib.hid hr
  clear hr
  go_enter Tryz.func123, Tryz.ntmps123
  go_wp2
  go_loopg [8, 9, 10] (e - a) (fun k out _ _ wr => ObLq W w0.heap.size (.slice A0 L.length c0) q false L d a e cnt (9 - (d : Int)) k out wr)
  case atStart => exact R0'.out
  case round =>
    obtain ⟨p, c', A, n, cc, xs, done, rfl, hn, hap, hpe, hk, hdc, hc6, gw, rw_, ow, nc, hd0, hP⟩ := hrel
    obtain ⟨q0, q1, q2, q3, f1, f3⟩ := rw_.cells
    have hglr := rw_.lt
    have HP := Lib.hid (HRR.out.symm.trans hP)
    have HN := Lib.hid hn
    have belr := Gb.below bel gw (Nat.le_refl _)
    clear hP q0 q2 q3 f1 f3 hn
    by_cases hlt : p < e
    · have hlt' : (p : Int) < (e : Int) := by omega
      have hwl := win_len (L := L) (a := p) he
      obtain ⟨r1, hr1⟩ : ∃ r1, objX1 q (objsX q) (9 - (d : Int)) c' ((L.take e).drop p) = r1 := ⟨_, rfl⟩
      have hO := HH.out w0 wr _ L p e c' HB.out belr rw_ hpe he hl hc6
      rw [hr1] at hO
      have HO := Lib.hid hO
      have HR1 := Lib.hid hr1
      have HW := Lib.hid hwl
      clear hO hr1 hwl
      go_wp2_with fail
      refine HO.out.mono ?_
      rintro en wx ⟨gx, hx⟩
      have hsz := gx.size
      rcases hx with ⟨t, A1, n1, c1, A2, n2, c2, k', rfl, hk', rfl⟩ | ⟨x, c, u, A1, n1, c1, A2, n2, c2, rfl, rfl, rx, r1, r2⟩
      · have hk2 : (k' != 0) = true := by simpa using hk'
        go_wp2_with fail
        go_ret2
        refine ⟨gw.tr (gx.tr (Gb.of _ ((Below.refl _ _).alloc (Nat.le_refl _) _))), .inl ⟨_, _, _, k', ?_, hk', rfl⟩⟩
        have h1 := objsX_err (op := false) ⟨fun h => absurd h.1 (by decide), fun h => absurd h.1 (by decide), fun h => by have := h.2; rw [HW.out] at this; omega⟩ HR1.out
        rw [HP.out, h1]
        rfl
      · obtain ⟨u0, u1⟩ := objX1_usedX HR1.out
        rw [HW.out] at u1
        obtain ⟨k0, k1⟩ := objX1_cntQ HR1.out
        have hdep := objX1_depQ HR1.out
        have hstep := objsX_ok (op := false) ⟨fun h => absurd h.1 (by decide), fun h => absurd h.1 (by decide), fun h => by have := h.2; rw [HW.out] at this; omega⟩ HR1.out
        rw [List.drop_drop] at hstep
        have HST := Lib.hid hstep
        clear hstep
        have xy : Ext wx (wx.alloc (.cells #[.int .i64 x.tag, .slice A1 n1 c1, .slice A2 n2 c2] 83)) := (Below.refl _ _).alloc (Nat.le_refl _) _
        have xz : Ext (wx.alloc (.cells #[.int .i64 x.tag, .slice A1 n1 c1, .slice A2 n2 c2] 83)) ((wx.alloc (.cells #[.int .i64 x.tag, .slice A1 n1 c1, .slice A2 n2 c2] 83)).alloc (.cells #[.int .i64 x.tag, .slice A1 n1 c1, .slice A2 n2 c2] 83)) := (Below.refl _ _).alloc (Nat.le_refl _) _
        have gz : Gb w0.heap.size wr ((wx.alloc (.cells #[.int .i64 x.tag, .slice A1 n1 c1, .slice A2 n2 c2] 83)).alloc (.cells #[.int .i64 x.tag, .slice A1 n1 c1, .slice A2 n2 c2] 83)) := gx.tr (Gb.of _ (xy.tr xz))
        have hrow := rowOf_geK ow
        have hrlt := rowOf_ltK ow
        have sW := gw.size
        have ow2 := (ow.grown gz (by
          cases hq : rowOf (.slice A n cc) with
          | none => exact .inl rfl
          | some r => exact .inr (fun h => by have := hrow r hq; injection h with h; omega)))
        have nc2 := nc.map (S' := fun b => W.heap.size ≤ b ∧ rowOf (.slice A n cc) ≠ some b) (w' := (wx.alloc (.cells #[.int .i64 x.tag, .slice A1 n1 c1, .slice A2 n2 c2] 83)).alloc (.cells #[.int .i64 x.tag, .slice A1 n1 c1, .slice A2 n2 c2] 83)) (fun b hb hbl => ⟨hb, gz.block b hbl (fun h => by injection h with h; have := hb.1; omega)⟩)
        have hm : ∀ b, wr.heap.size ≤ b → b < wx.heap.size → (W.heap.size ≤ b ∧ rowOf (.slice A n cc) ≠ some b) ∧ ((wx.alloc (.cells #[.int .i64 x.tag, .slice A1 n1 c1, .slice A2 n2 c2] 83)).alloc (.cells #[.int .i64 x.tag, .slice A1 n1 c1, .slice A2 n2 c2] 83)).heap[b]? = wx.heap[b]? := fun b hb hbl =>
          ⟨⟨by omega, fun h => by have := hrlt b h; omega⟩, (xy.tr xz).block b hbl⟩
        have r1' := r1.map hm
        have r2' := r2.map hm
        have R := RdK.lit (wx.alloc (.cells #[.int .i64 x.tag, .slice A1 n1 c1, .slice A2 n2 c2] 83)) 3 #[.int .i64 x.tag, .slice A1 n1 c1, .slice A2 n2 c2] 83 1 rfl (by unfold maxLen; omega)
        rw [show ((wx.alloc (.cells #[.int .i64 x.tag, .slice A1 n1 c1, .slice A2 n2 c2] 83))).heap.size = wx.heap.size + 1 by simp] at R
        have rz := rx.ext (xy.tr xz)
        have hWz : W.heap.size ≤ ((wx.alloc (.cells #[.int .i64 x.tag, .slice A1 n1 c1, .slice A2 n2 c2] 83)).alloc (.cells #[.int .i64 x.tag, .slice A1 n1 c1, .slice A2 n2 c2] 83)).heap.size := Nat.le_trans sW gz.size
        have HM := Lib.hid hm
        have HRW := Lib.hid hrow
        clear hm r1 r2 nc ow hrlt rx rw_ q1 hrow
        go_wp2_with (first
          | fail
          | (refine appNd (S0 := fun b => W.heap.size ≤ b) (B := W.heap.size) (t := x) ow2 nc2 R r1' r2' (by omega) hWz rfl rfl rfl rfl ?_; intro A8 n8 c8 w8 hn8 o8 nc8 g8 hge))
        have hWS := sW
        have HN8 := hn8.out
        have gx2 : Gb w0.heap.size W w8 := (gw.tr gz).andThen g8 (fun j hj => .inl (hge j hj))
        have hne8 : some w0.heap.size ≠ rowOf (.slice A n cc) := fun h => by have := hge _ h.symm; omega
        have r8 : RAq w8 w0.heap.size (.slice A0 L.length c0) q ((p + u : Nat) : Int) (c : Int) := (g8.block _ rz.lt hne8).trans rz
        have hP8 : objsX q false (9 - (d : Int)) cnt ((L.take e).drop a) = addX (done ++ [x]) (p + u - a) (objsX q false (9 - (d : Int)) c ((L.take e).drop (p + u))) := by
          rw [HRR.out, HP.out, HST.out, addX_addX, show p + u - a = p - a + u by omega]
        go_roundg (e - (p + u))
        case rel => exact ⟨p + u, c, A8, n8, c8, _, done ++ [x], rfl, by rw [HN8]; simp, by omega, by omega, Nat.le_refl _, by simp; omega, k0, gx2, r8, o8, nc8, fun h => by omega, hP8⟩
        case measure => omega
    · obtain rfl : p = e := by omega
      have hnil : (L.take p).drop p = [] := List.drop_eq_nil_of_le (by rw [List.length_take]; omega)
      have hr2 := HP.out
      rw [hnil, show objsX q false (9 - (d : Int)) c' [] = .ok ([], c', 0) from by rw [objsX_eq, if_neg (by simp), if_neg (by simp), if_pos (by simp)]] at hr2
      have HR2 := Lib.hid (hr2.trans (show _ = Except.ok (done, c', p - a) by simp [addX]))
      clear hr2 hnil
      go_wp2
      go_ret2
      refine ⟨gw, .inr ⟨done, c', p - a, A, n, cc, HR2.out, rfl, by rw [show a + (p - a) = p by omega]; exact rw_, objs_fin HN.out hd0 ow nc⟩⟩
end Go.Proofs.YthbpdhanljpigaaGreatDoor
namespace Go.Proofs.YthbpdhanljpigaaGreatDoor
open Go.RowKit
set_option linter.unusedVariables false
set_option maxRecDepth 100000
theorem objsX_t0 {q : Bool} {dep : Int} {c e p : Nat} {L : List UInt8} (h : e ≤ L.length) (h1 : e ≤ p ∨ (byteI L p = 0 ∧ e ≤ p + 1)) : objsX q true dep c ((L.take e).drop p) = .error 6 := by
  rw [objsX_eq, if_pos ⟨rfl, by
    rw [win_len h]
    by_cases h2 : e ≤ p
    · exact .inl (by omega)
    · exact .inr ⟨by rw [byteI_win (i := 0) (by omega), Nat.add_zero]; exact (h1.resolve_left h2).1, by have := (h1.resolve_left h2).2; omega⟩⟩]
theorem objsX_t1 {q : Bool} {dep : Int} {c e p : Nat} {L : List UInt8} (h : e ≤ L.length) (h1 : p + 1 < e) (z0 : byteI L p = 0) (z1 : byteI L (p + 1) = 0) : objsX q true dep c ((L.take e).drop p) = .ok ([], c, 2) := by
  rw [objsX_eq, if_neg (by rw [win_len h]; omega), if_pos ⟨rfl, by rw [byteI_win (i := 0) (by omega), Nat.add_zero]; exact z0, by rw [byteI_win (i := 1) (by omega)]; exact z1⟩]
theorem moreX_t {e p : Nat} {L : List UInt8} (h : e ≤ L.length) (h1 : p < e) (h2 : byteI L p ≠ 0 ∨ (p + 1 < e ∧ byteI L (p + 1) ≠ 0)) : moreX true ((L.take e).drop p) := by
  refine ⟨fun hh => ?_, fun hh => ?_, fun hh => absurd hh.1 (by decide)⟩
  · have hh := hh.2
    rw [win_len h, byteI_win (i := 0) (by omega), Nat.add_zero] at hh
    rcases hh with hh | ⟨hh, hh2⟩
    · omega
    · rcases h2 with h2 | h2
      · exact h2 hh
      · omega
  · obtain ⟨_, z0, z1⟩ := hh
    rw [byteI_win (i := 0) (by omega), Nat.add_zero] at z0
    rcases h2 with h2 | h2
    · exact h2 z0
    · rw [byteI_win (i := 1) (by omega)] at z1
      exact h2.2 z1
theorem ObjQ.pre {W W' w : World} {g d a : Nat} {bs : Value} {q : Bool} {r : Except Int (Nd × Nat × Nat)} {en : Ending} (e : Ext W W') (h : ObjQ W' g bs q d a r en w) : ObjQ W g bs q d a r en w := by
  obtain ⟨h1, h2⟩ := h
  refine ⟨(Gb.of _ e).tr h1, ?_⟩
  rcases h2 with h2 | ⟨x, c, u, A1, n1, c1, A2, n2, c2, k1, k2, k3, k4, k5⟩
  · exact .inl h2
  · exact .inr ⟨x, c, u, A1, n1, c1, A2, n2, c2, k1, k2, k3, k4.map fun b hb _ => ⟨Nat.le_trans e.size hb, rfl⟩, k5.map fun b hb _ => ⟨Nat.le_trans e.size hb, rfl⟩⟩
set_option maxHeartbeats 8000000 in
theorem kidsq_of {q : Bool} {d : Nat} (H : ObjOkQ q d) : KidsOkQ q d := by
  intro w0 W bs L a e cnt hb bel hr hae he hl hc
  have HH := Lib.hid H
  clear H
  obtain ⟨A0, n0, c0, rfl, hn0, hnc0, hcm0, hA0⟩ := hb.bytes
  subst hn0
  unfold maxLen at hcm0
  have HB := Lib.hid hb
  have HA0 := Lib.hid hA0
  clear hb hA0
  have hgl := hr.lt
  have R0 : ObLq W w0.heap.size (.slice A0 L.length c0) q true L d a e cnt (9 - (d : Int)) (e - a) (.slice none 0 0) W :=
    ⟨a, cnt, none, 0, 0, [], [], rfl, rfl, Nat.le_refl _, hae, Nat.le_refl _, by simp, hc, Gb.refl _ _, hr, OwnK.empty _ _ _ _ _, NdCells.nil _ _ _, fun _ => rfl, by rw [Nat.sub_self, addX_nil]⟩
  have R0' := Lib.hid R0
  clear R0 hr
  obtain ⟨r, hr⟩ : ∃ r, objsX q true (9 - (d : Int)) cnt ((L.take e).drop a) = r := ⟨_, rfl⟩
  rw [hr]
  have HRR := Lib.hid hr
  clear hr
  go_enter Tryz.func180, Tryz.ntmps180
  go_wp2
  go_loopg [8, 9, 10] (e - a) (fun k out _ _ wr => ObLq W w0.heap.size (.slice A0 L.length c0) q true L d a e cnt (9 - (d : Int)) k out wr)
  case atStart => exact R0'.out
  case round =>
    obtain ⟨p, c', A, n, cc, xs, done, rfl, hn, hap, hpe, hk, hdc, hc6, gw, rw_, ow, nc, hd0, hP⟩ := hrel
    obtain ⟨q0, q1, q2, q3, f1, f3⟩ := rw_.cells
    have hglr := rw_.lt
    have HP := Lib.hid (HRR.out.symm.trans hP)
    have HN := Lib.hid hn
    have belr := Gb.below bel gw (Nat.le_refl _)
    clear hP hn
    by_cases hlt : p < e
    · obtain ⟨b, o, rfl, hbl, hcell⟩ := HA0.out (by omega)
      have hlt' : ¬ (e : Int) ≤ (p : Int) := by omega
      have x0 := (belr.cell (p := ⟨b, o + p, none⟩) hbl).trans (hcell p (by omega))
      have hpl : p < L.length := by omega
      have wi1 : IntKind.i64.wrap ((p : Int)) = (p : Int) := IntWalk.i64_in _ (by omega)
      have zi1 : (0 : Int) ≤ (p : Int) := by omega
      have li1 : (p : Int) < (L.length : Int) := by omega
      have ti1 : ((p : Int)).toNat = p := by omega
      have wa : IntKind.i64.wrap ((p : Int) + 1) = (p : Int) + 1 := IntWalk.i64_in _ (by omega)
      have wa2 : IntKind.i64.wrap ((p : Int) + 2) = (p : Int) + 2 := IntWalk.i64_in _ (by omega)
      have p0 := byteI_lo L p
      have p1 := byteI_hi L p
      by_cases hz : byteI L p = 0
      · rw [hz] at x0
        by_cases h1 : e ≤ p + 1
        · have hl1 : (e : Int) ≤ (p : Int) + 1 := by omega
          have HE := Lib.hid (show r = .error 6 by rw [HP.out, objsX_t0 he (.inr ⟨hz, h1⟩)]; rfl)
          clear hz
          go_wp2_with (go_quiet (fail))
          go_ret2
          exact ⟨gw.tr (Gb.of _ (Ext.drewN_ _ _)), .inl ⟨_, _, _, 6, HE.out, by decide, rfl⟩⟩
        · have hl1 : ¬ (e : Int) ≤ (p : Int) + 1 := by omega
          have x1 := (belr.cell (p := ⟨b, o + (p + 1), none⟩) hbl).trans (hcell (p + 1) (by omega))
          have hpl1 : p + 1 < L.length := by omega
          have r0 := byteI_lo L (p + 1)
          have r1 := byteI_hi L (p + 1)
          clear wa
          have wi2 : IntKind.i64.wrap ((p : Int) + 1) = (p : Int) + 1 := IntWalk.i64_in _ (by omega)
          have zi2 : (0 : Int) ≤ (p : Int) + 1 := by omega
          have li2 : (p : Int) + 1 < (L.length : Int) := by omega
          have ti2 : ((p : Int) + 1).toNat = p + 1 := by omega
          by_cases hz2 : byteI L (p + 1) = 0
          · rw [hz2] at x1
            have HE := Lib.hid (show r = .ok (done, c', p - a + 2) by rw [HP.out, objsX_t1 he (by omega) hz hz2]; simp [addX])
            clear hz hz2 r0 r1
            have hrow := rowOf_geK ow
            have HZ := Lib.hid (fun (k : Nat) (v : Value) => (show NdsS (fun b => W.heap.size ≤ b) d ((wr.drewN k).setCell ⟨w0.heap.size, 1, none⟩ v) (.slice A n cc) done from
              objs_fin HN.out hd0 ((ow.ext (Ext.drewN_ wr k)).grown (Gb.set w0.heap.size 1 _ v) (by
                cases hq : rowOf (.slice A n cc) with
                | none => exact .inl rfl
                | some r => exact .inr (fun h => by have := hrow r hq; injection h with h; omega)))
              (nc.map (fun b hb hbl => ⟨hb, ((Gb.of w0.heap.size (Ext.drewN_ wr k)).tr (Gb.set w0.heap.size 1 _ v)).block b hbl (fun h => by injection h with h; have := hb.1; omega)⟩))))
            clear hrow
            go_wp2_with (go_quiet (fail))
            go_ret2
            refine ⟨gw.tr ((Gb.of _ (Ext.drewN_ _ _)).tr (Gb.set _ _ _ _)), .inr ⟨done, c', p - a + 2, A, n, cc, HE.out, rfl, ?_, HZ.out _ _⟩⟩
            rw [show ((a + (p - a + 2) : Nat) : Int) = (p : Int) + 2 by omega]
            exact (rw_.ext (Ext.drewN_ _ _)).set1 _
          · have hz2b : (byteI L (p + 1) == 0) = false := by simp [hz2]
            have HMO := Lib.hid (moreX_t he hlt (.inr ⟨by omega, hz2⟩))
            clear hz hz2
            go_wp2_with (go_quiet (fail))
            have hwl := win_len (L := L) (a := p) he
            obtain ⟨r1, hr1⟩ : ∃ r1, objX1 q (objsX q) (9 - (d : Int)) c' ((L.take e).drop p) = r1 := ⟨_, rfl⟩
            have hO := fun (wD : World) (eD : Ext wr wD) => (HH.out w0 wD _ L p e c' HB.out (Gb.below belr (Gb.of _ eD) (Nat.le_refl _)) (rw_.ext eD) hpe he hl hc6).mono fun en wx h => ObjQ.pre eD h
            rw [hr1] at hO
            have HO := Lib.hid hO
            have HR1 := Lib.hid hr1
            have HW := Lib.hid hwl
            clear hO hr1 hwl
            refine (HO.out _ (Ext.drewN_ _ _)).mono ?_
            rintro en wx ⟨gx, hx⟩
            have hsz := gx.size
            rcases hx with ⟨t, A1, n1, c1, A2, n2, c2, k', rfl, hk', rfl⟩ | ⟨x, c, u, A1, n1, c1, A2, n2, c2, rfl, rfl, rx, r1, r2⟩
            · have hk2 : (k' != 0) = true := by simpa using hk'
              go_wp2_with fail
              go_ret2
              refine ⟨gw.tr (gx.tr (Gb.of _ ((Below.refl _ _).alloc (Nat.le_refl _) _))), .inl ⟨_, _, _, k', ?_, hk', rfl⟩⟩
              have h1 := objsX_err (op := true) HMO.out HR1.out
              rw [HP.out, h1]
              rfl
            · obtain ⟨u0, u1⟩ := objX1_usedX HR1.out
              rw [HW.out] at u1
              obtain ⟨k0, k1⟩ := objX1_cntQ HR1.out
              have hdep := objX1_depQ HR1.out
              have hstep := objsX_ok (op := true) HMO.out HR1.out
              rw [List.drop_drop] at hstep
              have HST := Lib.hid hstep
              clear hstep
              have xy : Ext wx (wx.alloc (.cells #[.int .i64 x.tag, .slice A1 n1 c1, .slice A2 n2 c2] 83)) := (Below.refl _ _).alloc (Nat.le_refl _) _
              have xz : Ext (wx.alloc (.cells #[.int .i64 x.tag, .slice A1 n1 c1, .slice A2 n2 c2] 83)) ((wx.alloc (.cells #[.int .i64 x.tag, .slice A1 n1 c1, .slice A2 n2 c2] 83)).alloc (.cells #[.int .i64 x.tag, .slice A1 n1 c1, .slice A2 n2 c2] 83)) := (Below.refl _ _).alloc (Nat.le_refl _) _
              have gz : Gb w0.heap.size wr ((wx.alloc (.cells #[.int .i64 x.tag, .slice A1 n1 c1, .slice A2 n2 c2] 83)).alloc (.cells #[.int .i64 x.tag, .slice A1 n1 c1, .slice A2 n2 c2] 83)) := gx.tr (Gb.of _ (xy.tr xz))
              have hrow := rowOf_geK ow
              have hrlt := rowOf_ltK ow
              have sW := gw.size
              have ow2 := (ow.grown gz (by
                cases hq : rowOf (.slice A n cc) with
                | none => exact .inl rfl
                | some r => exact .inr (fun h => by have := hrow r hq; injection h with h; omega)))
              have nc2 := nc.map (S' := fun b => W.heap.size ≤ b ∧ rowOf (.slice A n cc) ≠ some b) (w' := (wx.alloc (.cells #[.int .i64 x.tag, .slice A1 n1 c1, .slice A2 n2 c2] 83)).alloc (.cells #[.int .i64 x.tag, .slice A1 n1 c1, .slice A2 n2 c2] 83)) (fun b hb hbl => ⟨hb, gz.block b hbl (fun h => by injection h with h; have := hb.1; omega)⟩)
              have hm : ∀ b, wr.heap.size ≤ b → b < wx.heap.size → (W.heap.size ≤ b ∧ rowOf (.slice A n cc) ≠ some b) ∧ ((wx.alloc (.cells #[.int .i64 x.tag, .slice A1 n1 c1, .slice A2 n2 c2] 83)).alloc (.cells #[.int .i64 x.tag, .slice A1 n1 c1, .slice A2 n2 c2] 83)).heap[b]? = wx.heap[b]? := fun b hb hbl =>
                ⟨⟨by omega, fun h => by have := hrlt b h; omega⟩, (xy.tr xz).block b hbl⟩
              have r1' := r1.map hm
              have r2' := r2.map hm
              have R := RdK.lit (wx.alloc (.cells #[.int .i64 x.tag, .slice A1 n1 c1, .slice A2 n2 c2] 83)) 3 #[.int .i64 x.tag, .slice A1 n1 c1, .slice A2 n2 c2] 83 1 rfl (by unfold maxLen; omega)
              rw [show ((wx.alloc (.cells #[.int .i64 x.tag, .slice A1 n1 c1, .slice A2 n2 c2] 83))).heap.size = wx.heap.size + 1 by simp] at R
              have rz := rx.ext (xy.tr xz)
              have hWz : W.heap.size ≤ ((wx.alloc (.cells #[.int .i64 x.tag, .slice A1 n1 c1, .slice A2 n2 c2] 83)).alloc (.cells #[.int .i64 x.tag, .slice A1 n1 c1, .slice A2 n2 c2] 83)).heap.size := Nat.le_trans sW gz.size
              have HM := Lib.hid hm
              have HRW := Lib.hid hrow
              clear hm r1 r2 nc ow hrlt rx rw_ q1 hrow
              go_wp2_with (first
                | fail
                | (refine appNd (S0 := fun b => W.heap.size ≤ b) (B := W.heap.size) (t := x) ow2 nc2 R r1' r2' (by omega) hWz rfl rfl rfl rfl ?_; intro A8 n8 c8 w8 hn8 o8 nc8 g8 hge))
              have hWS := sW
              have HN8 := hn8.out
              have gx2 : Gb w0.heap.size W w8 := (gw.tr gz).andThen g8 (fun j hj => .inl (hge j hj))
              have hne8 : some w0.heap.size ≠ rowOf (.slice A n cc) := fun h => by have := hge _ h.symm; omega
              have r8 : RAq w8 w0.heap.size (.slice (some ⟨b, o, none⟩) L.length c0) q ((p + u : Nat) : Int) (c : Int) := (g8.block _ rz.lt hne8).trans rz
              have hP8 : objsX q true (9 - (d : Int)) cnt ((L.take e).drop a) = addX (done ++ [x]) (p + u - a) (objsX q true (9 - (d : Int)) c ((L.take e).drop (p + u))) := by
                rw [HRR.out, HP.out, HST.out, addX_addX, show p + u - a = p - a + u by omega]
              go_roundg (e - (p + u))
              case rel => exact ⟨p + u, c, A8, n8, c8, _, done ++ [x], rfl, by rw [HN8]; simp, by omega, by omega, Nat.le_refl _, by simp; omega, k0, gx2, r8, o8, nc8, fun h => by omega, hP8⟩
              case measure => omega
      · have hzb : (byteI L p == 0) = false := by simp [hz]
        have HMO := Lib.hid (moreX_t he hlt (.inl hz))
        clear hz
        go_wp2_with (go_quiet (fail))
        have hwl := win_len (L := L) (a := p) he
        obtain ⟨r1, hr1⟩ : ∃ r1, objX1 q (objsX q) (9 - (d : Int)) c' ((L.take e).drop p) = r1 := ⟨_, rfl⟩
        have hO := fun (wD : World) (eD : Ext wr wD) => (HH.out w0 wD _ L p e c' HB.out (Gb.below belr (Gb.of _ eD) (Nat.le_refl _)) (rw_.ext eD) hpe he hl hc6).mono fun en wx h => ObjQ.pre eD h
        rw [hr1] at hO
        have HO := Lib.hid hO
        have HR1 := Lib.hid hr1
        have HW := Lib.hid hwl
        clear hO hr1 hwl
        refine (HO.out _ (Ext.drewN_ _ _)).mono ?_
        rintro en wx ⟨gx, hx⟩
        have hsz := gx.size
        rcases hx with ⟨t, A1, n1, c1, A2, n2, c2, k', rfl, hk', rfl⟩ | ⟨x, c, u, A1, n1, c1, A2, n2, c2, rfl, rfl, rx, r1, r2⟩
        · have hk2 : (k' != 0) = true := by simpa using hk'
          go_wp2_with fail
          go_ret2
          refine ⟨gw.tr (gx.tr (Gb.of _ ((Below.refl _ _).alloc (Nat.le_refl _) _))), .inl ⟨_, _, _, k', ?_, hk', rfl⟩⟩
          have h1 := objsX_err (op := true) HMO.out HR1.out
          rw [HP.out, h1]
          rfl
        · obtain ⟨u0, u1⟩ := objX1_usedX HR1.out
          rw [HW.out] at u1
          obtain ⟨k0, k1⟩ := objX1_cntQ HR1.out
          have hdep := objX1_depQ HR1.out
          have hstep := objsX_ok (op := true) HMO.out HR1.out
          rw [List.drop_drop] at hstep
          have HST := Lib.hid hstep
          clear hstep
          have xy : Ext wx (wx.alloc (.cells #[.int .i64 x.tag, .slice A1 n1 c1, .slice A2 n2 c2] 83)) := (Below.refl _ _).alloc (Nat.le_refl _) _
          have xz : Ext (wx.alloc (.cells #[.int .i64 x.tag, .slice A1 n1 c1, .slice A2 n2 c2] 83)) ((wx.alloc (.cells #[.int .i64 x.tag, .slice A1 n1 c1, .slice A2 n2 c2] 83)).alloc (.cells #[.int .i64 x.tag, .slice A1 n1 c1, .slice A2 n2 c2] 83)) := (Below.refl _ _).alloc (Nat.le_refl _) _
          have gz : Gb w0.heap.size wr ((wx.alloc (.cells #[.int .i64 x.tag, .slice A1 n1 c1, .slice A2 n2 c2] 83)).alloc (.cells #[.int .i64 x.tag, .slice A1 n1 c1, .slice A2 n2 c2] 83)) := gx.tr (Gb.of _ (xy.tr xz))
          have hrow := rowOf_geK ow
          have hrlt := rowOf_ltK ow
          have sW := gw.size
          have ow2 := (ow.grown gz (by
            cases hq : rowOf (.slice A n cc) with
            | none => exact .inl rfl
            | some r => exact .inr (fun h => by have := hrow r hq; injection h with h; omega)))
          have nc2 := nc.map (S' := fun b => W.heap.size ≤ b ∧ rowOf (.slice A n cc) ≠ some b) (w' := (wx.alloc (.cells #[.int .i64 x.tag, .slice A1 n1 c1, .slice A2 n2 c2] 83)).alloc (.cells #[.int .i64 x.tag, .slice A1 n1 c1, .slice A2 n2 c2] 83)) (fun b hb hbl => ⟨hb, gz.block b hbl (fun h => by injection h with h; have := hb.1; omega)⟩)
          have hm : ∀ b, wr.heap.size ≤ b → b < wx.heap.size → (W.heap.size ≤ b ∧ rowOf (.slice A n cc) ≠ some b) ∧ ((wx.alloc (.cells #[.int .i64 x.tag, .slice A1 n1 c1, .slice A2 n2 c2] 83)).alloc (.cells #[.int .i64 x.tag, .slice A1 n1 c1, .slice A2 n2 c2] 83)).heap[b]? = wx.heap[b]? := fun b hb hbl =>
            ⟨⟨by omega, fun h => by have := hrlt b h; omega⟩, (xy.tr xz).block b hbl⟩
          have r1' := r1.map hm
          have r2' := r2.map hm
          have R := RdK.lit (wx.alloc (.cells #[.int .i64 x.tag, .slice A1 n1 c1, .slice A2 n2 c2] 83)) 3 #[.int .i64 x.tag, .slice A1 n1 c1, .slice A2 n2 c2] 83 1 rfl (by unfold maxLen; omega)
          rw [show ((wx.alloc (.cells #[.int .i64 x.tag, .slice A1 n1 c1, .slice A2 n2 c2] 83))).heap.size = wx.heap.size + 1 by simp] at R
          have rz := rx.ext (xy.tr xz)
          have hWz : W.heap.size ≤ ((wx.alloc (.cells #[.int .i64 x.tag, .slice A1 n1 c1, .slice A2 n2 c2] 83)).alloc (.cells #[.int .i64 x.tag, .slice A1 n1 c1, .slice A2 n2 c2] 83)).heap.size := Nat.le_trans sW gz.size
          have HM := Lib.hid hm
          have HRW := Lib.hid hrow
          clear hm r1 r2 nc ow hrlt rx rw_ q1 hrow
          go_wp2_with (first
            | fail
            | (refine appNd (S0 := fun b => W.heap.size ≤ b) (B := W.heap.size) (t := x) ow2 nc2 R r1' r2' (by omega) hWz rfl rfl rfl rfl ?_; intro A8 n8 c8 w8 hn8 o8 nc8 g8 hge))
          have hWS := sW
          have HN8 := hn8.out
          have gx2 : Gb w0.heap.size W w8 := (gw.tr gz).andThen g8 (fun j hj => .inl (hge j hj))
          have hne8 : some w0.heap.size ≠ rowOf (.slice A n cc) := fun h => by have := hge _ h.symm; omega
          have r8 : RAq w8 w0.heap.size (.slice (some ⟨b, o, none⟩) L.length c0) q ((p + u : Nat) : Int) (c : Int) := (g8.block _ rz.lt hne8).trans rz
          have hP8 : objsX q true (9 - (d : Int)) cnt ((L.take e).drop a) = addX (done ++ [x]) (p + u - a) (objsX q true (9 - (d : Int)) c ((L.take e).drop (p + u))) := by
            rw [HRR.out, HP.out, HST.out, addX_addX, show p + u - a = p - a + u by omega]
          go_roundg (e - (p + u))
          case rel => exact ⟨p + u, c, A8, n8, c8, _, done ++ [x], rfl, by rw [HN8]; simp, by omega, by omega, Nat.le_refl _, by simp; omega, k0, gx2, r8, o8, nc8, fun h => by omega, hP8⟩
          case measure => omega
    · obtain rfl : p = e := by omega
      have HE := Lib.hid (show r = .error 6 by rw [HP.out, objsX_t0 he (.inl (Nat.le_refl _))]; rfl)
      go_wp2_with (go_quiet (fail))
      go_ret2
      exact ⟨gw.tr (Gb.of _ (Ext.drewN_ _ _)), .inl ⟨_, _, _, 6, HE.out, by decide, rfl⟩⟩
end Go.Proofs.YthbpdhanljpigaaGreatDoor
namespace Go.Proofs.YthbpdhanljpigaaGreatDoor
open Go.RowKit
set_option linter.unusedVariables false
set_option maxRecDepth 100000
theorem RAq.other {W : World} {g b i : Nat} {bs v : Value} {q : Bool} {a k : Int} (h : RAq W g bs q a k) (hne : g ≠ b) : RAq (W.setCell ⟨b, i, none⟩ v) g bs q a k := (setCell_block hne).trans h
theorem RAq.setN3 {W : World} {g b : Nat} {bs : Value} {q : Bool} {a k : Int} {v0 v1 v2 : Value} (h : RAq W g bs q a k) (hne : g ≠ b) : RAq (Go.Proofs.YthbpdhanljpigaaGreatDoor.set3 W b v0 v1 v2) g bs q a k := (set3_block hne).trans h
theorem objQ_no {W W' : World} {g d a : Nat} {bs : Value} {q : Bool} {r : Except Int (Nd × Nat × Nat)} {t k : Int} {A1 A2 : Option Addr} {n1 c1 n2 c2 : Nat} (hk : k ≠ 0) (hr : r = .error k) (h : Gb g W W') : ObjQ W g bs q d a r (.returned (.tuple #[.agg #[.int .i64 t, .slice A1 n1 c1, .slice A2 n2 c2], .int .i64 k])) W' :=
  ⟨h, .inl ⟨t, A1, n1, c1, A2, n2, c2, k, hr, hk, rfl⟩⟩
theorem tagX_ne {l : List UInt8} {k : Int} (h : tagX l = .error k) : k ≠ 0 := by rcases tagX_err h with h | h <;> omega
theorem lenX_ne {q c : Bool} {l : List UInt8} {k : Int} (h : lenX q c l = .error k) : k ≠ 0 := by rcases lenX_err h with h | h <;> omega
set_option maxHeartbeats 8000000 in
theorem objq_of {qq : Bool} {d : Nat} (hd9 : d ≤ 9) (H : ∀ d', d = d' + 1 → ObjsOkQ qq d' ∧ KidsOkQ qq d') : ObjOkQ qq d := by
  intro w0 W bs L a e cnt hb bel hr hae he hl hc
  have HH := Lib.hid H
  clear H
  obtain ⟨A0, n0, c0, rfl, hn0, hnc0, hcm0, _⟩ := hb.bytes
  subst hn0
  unfold maxLen at hcm0
  have HB := Lib.hid hb
  clear hb
  have hgl := hr.lt
  obtain ⟨dep, hdep⟩ : ∃ dep : Int, dep = 9 - (d : Int) := ⟨_, rfl⟩
  rw [← hdep]
  have hdep9 : 0 ≤ dep ∧ dep ≤ 9 := by omega
  obtain ⟨hdepl, hdepu⟩ := hdep9
  have HDEP := Lib.hid hdep
  clear hdep
  obtain ⟨r, hr'⟩ : ∃ r, objX1 qq (objsX qq) dep cnt ((L.take e).drop a) = r := ⟨_, rfl⟩
  rw [hr']
  have HRR := Lib.hid hr'
  clear hr'
  have x1 : Ext W (W.alloc (.cells #[.int .i64 0, .slice none 0 0, .slice none 0 0] 83)) := (Below.refl _ _).alloc (Nat.le_refl _) _
  have hrc := C3.new W (.int .i64 0) (.slice none 0 0) (.slice none 0 0)
  go_enter Tryz.func158, Tryz.ntmps158
  go_wp2_with fail
  generalize W.alloc (.cells #[.int .i64 0, .slice none 0 0, .slice none 0 0] 83) = W1 at *
  have bel1 := Gb.below bel (Gb.of _ x1) (Nat.le_refl _)
  refine (rtagq_any HB.out bel1 (hr.ext x1) he hl).mono ?_
  rintro en W2 ⟨g2, hx⟩
  have hne : W.heap.size ≠ w0.heap.size := by omega
  have hrc2 := hrc.gb g2 hne
  have gW2 : Gb w0.heap.size W W2 := (Gb.of _ x1).tr g2
  rcases hx with ⟨x, k, ht, rfl⟩ | ⟨t, k, ht, rfl, r2⟩
  · have hk := tagX_ne ht
    have hk2 : (k != 0) = true := by simpa using hk
    obtain ⟨q0, q1, q2, f0, f1, f2⟩ := hrc2.cells
    have HN := Lib.hid (show r = .error k by rw [← HRR.out]; unfold objX1 headX; rw [ht])
    clear ht hr
    go_wp2_with fail
    obtain ⟨w0', w1', w2', _, _, _⟩ := (hrc2.set3 (.int .i64 0) (.slice none 0 0) (.slice none 0 0)).cells
    refine bodyPost_ret (v := .tuple #[.agg #[.int .i64 0, .slice none 0 0, .slice none 0 0], .int .i64 k]) ?_ rfl (objQ_no hk HN.out (gW2.set3 (Nat.le_refl _)))
    simp [results, Tryz.results158, go_sem, w0', w1', w2']
  · obtain ⟨k0, k1, k2, t0, t1, hv⟩ := tagX_bd ht
    rw [win_len he] at k2
    have HT := Lib.hid ht
    clear ht hr
    go_wp2_with fail
    refine (cons_any t _ t0 t1).mono ?_
    rintro en' W2' ⟨rfl, rfl⟩
    obtain ⟨q, hq⟩ : ∃ q, consT t = q := ⟨_, rfl⟩
    rw [hq]
    have HQ := Lib.hid hq
    clear hq
    obtain ⟨s0, s1, s2, s3, sf1, sf3⟩ := r2.cells
    have HL := Lib.hid (fun (op : Bool) (hop : op = (q && !qq)) => rlengthq_any (q := qq) (c := q) HB.out (Gb.below bel1 g2 (Nat.le_refl _)) r2 he hl hop)
    have hglr := r2.lt
    have sz2 := gW2.size
    cases q
    · have HL1 := Lib.hid (HL.out false rfl)
      clear HL
      go_wp2_with fail
      refine HL1.out.mono ?_
      rintro en W3 ⟨g3, hx⟩
      have hrc3 := hrc2.gb g3 hne
      have gW3 : Gb w0.heap.size W W3 := gW2.tr g3
      have h3l := hrc3.lt
      clear s0 s1 s2 s3 sf1 sf3
      rcases hx with ⟨x, kk, hn, rfl⟩ | ⟨n, j, hn, rfl, r3⟩
      · have hkk := lenX_ne hn
        have hk2 : (kk != 0) = true := by simpa using hkk
        obtain ⟨q0, q1, q2, f0, f1, f2⟩ := hrc3.cells
        have HN := Lib.hid (show r = .error kk by
          rw [← HRR.out]
          unfold objX1 headX
          rw [HT.out]
          simp only [List.drop_drop]
          rw [HQ.out, hn])
        clear hn
        go_wp2_with fail
        obtain ⟨w0', w1', w2', _, _, _⟩ := (hrc3.set3 (.int .i64 0) (.slice none 0 0) (.slice none 0 0)).cells
        refine bodyPost_ret (v := .tuple #[.agg #[.int .i64 0, .slice none 0 0, .slice none 0 0], .int .i64 kk]) ?_ rfl (objQ_no hkk HN.out (gW3.set3 (Nat.le_refl _)))
        simp [results, Tryz.results158, go_sem, w0', w1', w2']
      · obtain ⟨j0, j1, j2, n3, n4, n5⟩ := lenX_bd hn
        rw [win_len he] at j2
        have hhead : headX qq dep cnt ((L.take e).drop a) = if 8 < dep then .error 7 else if 256 < cnt + 1 then .error 2 else if ((e - a : Nat) : Int) - (k + j : Nat) < n then .error 6 else .ok (t, k + j, n) := by
          unfold headX
          rw [HT.out]
          simp only [List.drop_drop, win_len he]
          rw [HQ.out, hn]
        have HHD := Lib.hid hhead
        have HN5 := Lib.hid n5
        obtain ⟨p, hp⟩ : ∃ p, p = a + k + j := ⟨_, rfl⟩
        rw [← hp] at r3
        have HPP := Lib.hid hp
        have hpe : p ≤ e := by omega
        have hap : a + k + j ≤ p := by omega
        obtain ⟨q0, q1, q2, f0, f1, f2⟩ := hrc3.cells
        obtain ⟨s0, s1, s2, s3, sf1, sf3⟩ := r3.cells
        have hgl3 := r3.lt
        have r4 := r3.set3 ((cnt : Int) + 1)
        have g4 : Gb w0.heap.size W (W3.setCell ⟨w0.heap.size, 3, none⟩ (.int .i64 ((cnt : Int) + 1))) := gW3.tr (Gb.set _ _ _ _)
        have hrc4 : C3 (W3.setCell ⟨w0.heap.size, 3, none⟩ (.int .i64 ((cnt : Int) + 1))) W.heap.size (.int .i64 0) (.slice none 0 0) (.slice none 0 0) := hrc3.gb (Gb.set _ _ _ _) hne
        have sz4 : (W3.setCell ⟨w0.heap.size, 3, none⟩ (.int .i64 ((cnt : Int) + 1))).heap.size = W3.heap.size := by simp
        clear hn hhead hp n5
        have wc : IntKind.i64.wrap ((cnt : Int) + 1) = (cnt : Int) + 1 := IntWalk.i64_in _ (by omega)
        by_cases hd8 : 8 < dep
        · have HN := Lib.hid (show r = .error 7 by rw [← HRR.out]; unfold objX1; rw [HHD.out, if_pos hd8])
          go_wp2_with fail
          obtain ⟨w0', w1', w2', _, _, _⟩ := (hrc4.set3 (.int .i64 0) (.slice none 0 0) (.slice none 0 0)).cells
          refine bodyPost_ret (v := .tuple #[.agg #[.int .i64 0, .slice none 0 0, .slice none 0 0], .int .i64 7]) ?_ rfl (objQ_no (by decide) HN.out (g4.set3 (Nat.le_refl _)))
          simp [results, Tryz.results158, go_sem, w0', w1', w2']
        · have hd0 : 1 ≤ d := by have := HDEP.out; omega
          have HH1 := Lib.hid (HHD.out.trans (if_neg hd8))
          clear HHD
          by_cases hcn : 256 < (cnt : Int) + 1
          · have HN := Lib.hid (show r = .error 2 by rw [← HRR.out]; unfold objX1; rw [HH1.out, if_pos (show 256 < cnt + 1 by omega)])
            go_wp2_with fail
            obtain ⟨w0', w1', w2', _, _, _⟩ := (hrc4.set3 (.int .i64 0) (.slice none 0 0) (.slice none 0 0)).cells
            refine bodyPost_ret (v := .tuple #[.agg #[.int .i64 0, .slice none 0 0, .slice none 0 0], .int .i64 2]) ?_ rfl (objQ_no (by decide) HN.out (g4.set3 (Nat.le_refl _)))
            simp [results, Tryz.results158, go_sem, w0', w1', w2']
          · have HH2 := Lib.hid (HH1.out.trans (if_neg (by omega)))
            clear HH1
            have wp : IntKind.i64.wrap ((e : Int) - (p : Int)) = (e : Int) - (p : Int) := IntWalk.i64_in _ (by omega)
            by_cases hfit : (e : Int) - (p : Int) < n
            · have HN := Lib.hid (show r = .error 6 by rw [← HRR.out]; unfold objX1; rw [HH2.out, if_pos (by have := HPP.out; omega)])
              go_wp2_with fail
              obtain ⟨w0', w1', w2', _, _, _⟩ := (hrc4.set3 (.int .i64 0) (.slice none 0 0) (.slice none 0 0)).cells
              refine bodyPost_ret (v := .tuple #[.agg #[.int .i64 0, .slice none 0 0, .slice none 0 0], .int .i64 6]) ?_ rfl (objQ_no (by decide) HN.out (g4.set3 (Nat.le_refl _)))
              simp [results, Tryz.results158, go_sem, w0', w1', w2']
            · have HY := HH2.out.trans (if_neg (by have := HPP.out; omega))
              obtain ⟨d', rfl⟩ : ∃ d', d = d' + 1 := ⟨d - 1, by omega⟩
              have hrr : r = objX1 qq (objsX qq) dep cnt ((L.take e).drop a) := HRR.out.symm
              unfold objX1 at hrr
              rw [HY] at hrr
              simp only [List.drop_drop] at hrr
              rw [show a + (k + j) = p by have := HPP.out; omega, HQ.out] at hrr
              have HRY := Lib.hid hrr
              clear hrr HY HH2
              have r5 := r4.ext ((Below.refl _ _).alloc (Nat.le_refl _) (.cells #[.int .i64 t, .slice none 0 0, .slice none 0 0] 83))
              have x5 : Ext (W3.setCell ⟨w0.heap.size, 3, none⟩ (.int .i64 ((cnt : Int) + 1))) ((W3.setCell ⟨w0.heap.size, 3, none⟩ (.int .i64 ((cnt : Int) + 1))).alloc (.cells #[.int .i64 t, .slice none 0 0, .slice none 0 0] 83)) := (Below.refl _ _).alloc (Nat.le_refl _) _
              have g5 := g4.tr (Gb.of w0.heap.size x5)
              have hrc5 := hrc4.gb (Gb.of w0.heap.size x5) hne
              have hxc5 := C3.new (W3.setCell ⟨w0.heap.size, 3, none⟩ (.int .i64 ((cnt : Int) + 1))) (.int .i64 t) (.slice none 0 0) (.slice none 0 0)
              rw [sz4] at hxc5
              have hne5 : W3.heap.size ≠ w0.heap.size := by omega
              have hner : W3.heap.size ≠ W.heap.size := by omega
              have hner' : W.heap.size ≠ W3.heap.size := by omega
              have sz5 : ((W3.setCell ⟨w0.heap.size, 3, none⟩ (.int .i64 ((cnt : Int) + 1))).alloc (.cells #[.int .i64 t, .slice none 0 0, .slice none 0 0] 83)).heap.size = W3.heap.size + 1 := by simp
              obtain ⟨m, rfl⟩ : ∃ m : Nat, n = (m : Int) := ⟨n.toNat, by have h := HN5.out; have : ¬ n < 0 := fun hq => absurd (h hq).1 (by decide); omega⟩
              have HRZ := Lib.hid (HRY.out.trans (if_neg (by omega)))
              have HRZ2 := Lib.hid (HRZ.out.trans (if_neg (by decide)))
              clear HRY HRZ HN5 n3 n4
              have hnm1 : ((m : Int) == -1) = false := by simp
              obtain ⟨u0, u1, u2, u3, uf1, uf3⟩ := r5.cells
              obtain ⟨y0, y1, y2, yf0, yf1, yf2⟩ := hxc5.cells
              clear hrc3 hrc2 r4 g4 hrc4 x5
              have wpn : IntKind.i64.wrap ((p : Int) + (m : Int)) = (p : Int) + (m : Int) := IntWalk.i64_in _ (by omega)
              have hpn : p + m ≤ c0 := by omega
              have tpn : ((p : Int) + (m : Int)).toNat = p + m := by omega
              have tp : ((p : Int)).toNat = p := rfl
              have lpn : (p : Int) + (m : Int) ≤ (c0 : Int) := by omega
              have lpn2 : (p : Int) ≤ (p : Int) + (m : Int) := by omega
              have l0p : (0 : Int) ≤ (p : Int) := by omega
              have l0pn : (0 : Int) ≤ (p : Int) + (m : Int) := by omega
              have hrs := (HB.out.below (Gb.below bel g5 (Nat.le_refl _))).cut p (p + m) (by omega) (by rw [bvs_length]; omega)
              rw [Nat.add_sub_cancel_left, show ((bvs L).drop p).take m = bvs ((L.take (p + m)).drop p) by rw [List.drop_take, Nat.add_sub_cancel_left]; simp [bvs, List.map_take, List.map_drop]] at hrs
              have HRS := Lib.hid hrs
              clear hrs
              go_wp2_with fail
              generalize hW5 : (W3.setCell ⟨w0.heap.size, 3, none⟩ (.int .i64 ((cnt : Int) + 1))).alloc (.cells #[.int .i64 t, .slice none 0 0, .slice none 0 0] 83) = W5 at *
              clear hW5 uf1 uf3 u0 u1 u2 u3 y0 y1 y2 yf0 yf1 yf2 sz4 q0 q1 q2 f0 f1 f2 s0 s1 s2 s3 sf1 sf3
              refine wp_region_X 17 (by kernel_rfl) (by kernel_rfl) ?_
              simp only [List.take_succ_cons, List.take_zero, List.drop_succ_cons, List.drop_zero]
              intro w1 hw1
              have LL : ∀ m : Lt w1, Ext W5 m.1 := fun m => hw1.tr m.2
              have v0 : ∀ m : Lt w1, m.1.cell? ⟨w0.heap.size, 0, none⟩ = some (.slice A0 L.length c0) := fun m => (r5.ext (LL m)).cells.1
              have v1 : ∀ m : Lt w1, m.1.cell? ⟨w0.heap.size, 1, none⟩ = some (.int .i64 (p : Int)) := fun m => (r5.ext (LL m)).cells.2.1
              repeat (refine wpX_pure rfl rfl rfl rfl rfl (fun K hK => ?_); go_big_quiet_op; refine hK _ ?_; clear hK K)
              refine wpX_nil _ rfl rfl rfl rfl rfl ?_
              simp only [Act.put, List.setIfInBounds_toArray, List.set_cons_zero, List.set_cons_succ]
              repeat (refine wpX_pure rfl rfl rfl rfl rfl (fun K hK => ?_); go_big_quiet_op; refine hK _ ?_; clear hK K)
              refine wpX_nil _ rfl rfl rfl rfl rfl ?_
              simp only [Act.put, List.setIfInBounds_toArray, List.set_cons_zero, List.set_cons_succ]
              repeat (refine wpX_pure rfl rfl rfl rfl rfl (fun K hK => ?_); go_big_quiet_op; refine hK _ ?_; clear hK K)
              refine wpX_nil _ rfl rfl rfl rfl rfl ?_
              simp only [Act.put, List.setIfInBounds_toArray, List.set_cons_zero, List.set_cons_succ]
              repeat (refine wpX_pure rfl rfl rfl rfl rfl (fun K hK => ?_); go_big_quiet_op; refine hK _ ?_; clear hK K)
              refine wpX_callHole (fun v w => RdS (fun b => W5.heap.size ≤ b) w v (bvs ((L.take (p + m)).drop p))) (fun v w w' hb h => h.map fun k h1 h2 => ⟨h1, hb.block k h2⟩) rfl rfl rfl rfl (by kernel_rfl) rfl rfl (fun m => (cloneB_any _ (HRS.out.ext (LL m)) (by rw [List.length_drop, List.length_take]; omega)).mono fun _ _ ⟨A', n', cc', h1, h2, h3, h4⟩ => ⟨_, h1, h4, RdS.of h3 fun k hk => Nat.le_trans (LL m).size hk⟩) ?_
              simp only [Act.put, List.setIfInBounds_toArray, List.set_cons_zero, List.set_cons_succ]
              repeat (refine wpX_pure rfl rfl rfl rfl rfl (fun K hK => ?_); go_big_quiet_op; refine hK _ ?_; clear hK K)
              refine wpX_end1 (fun m u hu => ?_)
              simp only [Act.put, List.setIfInBounds_toArray, List.set_cons_zero, List.set_cons_succ]
              generalize (if c0 = p then A0 else Option.map (fun x => x.add p) A0) = A9
              have Lm := LL m
              obtain ⟨wy, hwy⟩ := m
              clear LL v0 v1
              have ry : RAq wy w0.heap.size (.slice A0 L.length c0) qq (p : Int) ((cnt : Int) + 1) := r5.ext Lm
              have hrcy := hrc5.gb (Gb.of w0.heap.size Lm) hne
              have hxcy := hxc5.gb (Gb.of w0.heap.size Lm) hne5
              have gWy := g5.tr (Gb.of w0.heap.size Lm)
              have hly := hrcy.lt
              have hlx := hxcy.lt
              have HU := Lib.hid hu
              obtain ⟨A', n', cc', hv'⟩ : ∃ A n c, u = .slice A n c := by obtain ⟨A, n, c, h, _⟩ := hu; exact ⟨_, _, _, h⟩
              clear hu
              subst hv'
              obtain ⟨u0, u1, u2, u3, uf1, uf3⟩ := ry.cells
              obtain ⟨q0, q1, q2, f0, f1, f2⟩ := hrcy.cells
              obtain ⟨y0, y1, y2, yf0, yf1, yf2⟩ := hxcy.cells
              have hne6 : w0.heap.size ≠ W3.heap.size := by omega
              have hne7 : w0.heap.size ≠ W.heap.size := by omega
              have hgy := ry.lt
              go_wp2_with fail
              have hrcz := ((hrcy.other (b' := W3.heap.size) (i := 1) (v := .slice A' n' cc') hner').other (b' := w0.heap.size) (i := 1) (v := .int .i64 ((p : Int) + (m : Int))) hne).set3 (.int .i64 t) (.slice A' n' cc') (.slice none 0 0)
              obtain ⟨w0', w1', w2', _, _, _⟩ := hrcz.cells
              have r6 : RAq ((wy.setCell ⟨W3.heap.size, 1, none⟩ (.slice A' n' cc')).setCell ⟨w0.heap.size, 1, none⟩ (.int .i64 ((p : Int) + (m : Int)))) w0.heap.size (.slice A0 L.length c0) qq ((p : Int) + (m : Int)) ((cnt : Int) + 1) := (ry.other hne6).set1 _
              have gZ := ((gWy.poke (b := W3.heap.size) (i := 1) (v := .slice A' n' cc') (by omega)).tr (Gb.set w0.heap.size 1 _ (.int .i64 ((p : Int) + (m : Int))))).set3 (v0 := .int .i64 t) (v1 := .slice A' n' cc') (v2 := .slice none 0 0) (Nat.le_refl W.heap.size)
              have hU7 := HU.out.map (S' := fun b => W.heap.size ≤ b) (w' := Go.Proofs.YthbpdhanljpigaaGreatDoor.set3 ((wy.setCell ⟨W3.heap.size, 1, none⟩ (.slice A' n' cc')).setCell ⟨w0.heap.size, 1, none⟩ (.int .i64 ((p : Int) + (m : Int)))) W.heap.size (.int .i64 t) (.slice A' n' cc') (.slice none 0 0)) (fun b hb _ => ⟨by omega, ((set3_block (by omega)).trans (setCell_block (by omega))).trans (setCell_block (by omega))⟩)
              have HRW : r = .ok (Nd.mk t ((L.take (p + m)).drop p) [], cnt + 1, k + j + m) := by rw [HRZ2.out, Int.toNat_natCast, win_take (by omega)]
              refine bodyPost_ret (v := .tuple #[.agg #[.int .i64 t, .slice A' n' cc', .slice none 0 0], .int .i64 0]) ?_ rfl ⟨gZ, .inr ⟨_, _, _, _, _, _, _, _, _, HRW, rfl, ?_, hU7, NdsS.nil _ _⟩⟩
              · simp [results, Tryz.results158, go_sem, w0', w1', w2']
              · have e1 : a + (k + j + m) = p + m := by have := HPP.out; omega
                have e2 : ((cnt + 1 : Nat) : Int) = (cnt : Int) + 1 := by omega
                rw [e1, Int.natCast_add, e2]
                exact r6.setN3 (by omega)
    · have HL1 := Lib.hid (HL.out (!qq) rfl)
      clear HL
      go_wp2_with fail
      refine HL1.out.mono ?_
      rintro en W3 ⟨g3, hx⟩
      have hrc3 := hrc2.gb g3 hne
      have gW3 : Gb w0.heap.size W W3 := gW2.tr g3
      have h3l := hrc3.lt
      clear s0 s1 s2 s3 sf1 sf3
      rcases hx with ⟨x, kk, hn, rfl⟩ | ⟨n, j, hn, rfl, r3⟩
      · have hkk := lenX_ne hn
        have hk2 : (kk != 0) = true := by simpa using hkk
        obtain ⟨q0, q1, q2, f0, f1, f2⟩ := hrc3.cells
        have HN := Lib.hid (show r = .error kk by
          rw [← HRR.out]
          unfold objX1 headX
          rw [HT.out]
          simp only [List.drop_drop]
          rw [HQ.out, hn])
        clear hn
        go_wp2_with fail
        obtain ⟨w0', w1', w2', _, _, _⟩ := (hrc3.set3 (.int .i64 0) (.slice none 0 0) (.slice none 0 0)).cells
        refine bodyPost_ret (v := .tuple #[.agg #[.int .i64 0, .slice none 0 0, .slice none 0 0], .int .i64 kk]) ?_ rfl (objQ_no hkk HN.out (gW3.set3 (Nat.le_refl _)))
        simp [results, Tryz.results158, go_sem, w0', w1', w2']
      · obtain ⟨j0, j1, j2, n3, n4, n5⟩ := lenX_bd hn
        rw [win_len he] at j2
        have hhead : headX qq dep cnt ((L.take e).drop a) = if 8 < dep then .error 7 else if 256 < cnt + 1 then .error 2 else if ((e - a : Nat) : Int) - (k + j : Nat) < n then .error 6 else .ok (t, k + j, n) := by
          unfold headX
          rw [HT.out]
          simp only [List.drop_drop, win_len he]
          rw [HQ.out, hn]
        have HHD := Lib.hid hhead
        have HN5 := Lib.hid n5
        obtain ⟨p, hp⟩ : ∃ p, p = a + k + j := ⟨_, rfl⟩
        rw [← hp] at r3
        have HPP := Lib.hid hp
        have hpe : p ≤ e := by omega
        have hap : a + k + j ≤ p := by omega
        obtain ⟨q0, q1, q2, f0, f1, f2⟩ := hrc3.cells
        obtain ⟨s0, s1, s2, s3, sf1, sf3⟩ := r3.cells
        have hgl3 := r3.lt
        have r4 := r3.set3 ((cnt : Int) + 1)
        have g4 : Gb w0.heap.size W (W3.setCell ⟨w0.heap.size, 3, none⟩ (.int .i64 ((cnt : Int) + 1))) := gW3.tr (Gb.set _ _ _ _)
        have hrc4 : C3 (W3.setCell ⟨w0.heap.size, 3, none⟩ (.int .i64 ((cnt : Int) + 1))) W.heap.size (.int .i64 0) (.slice none 0 0) (.slice none 0 0) := hrc3.gb (Gb.set _ _ _ _) hne
        have sz4 : (W3.setCell ⟨w0.heap.size, 3, none⟩ (.int .i64 ((cnt : Int) + 1))).heap.size = W3.heap.size := by simp
        clear hn hhead hp n5
        have wc : IntKind.i64.wrap ((cnt : Int) + 1) = (cnt : Int) + 1 := IntWalk.i64_in _ (by omega)
        by_cases hd8 : 8 < dep
        · have HN := Lib.hid (show r = .error 7 by rw [← HRR.out]; unfold objX1; rw [HHD.out, if_pos hd8])
          go_wp2_with fail
          obtain ⟨w0', w1', w2', _, _, _⟩ := (hrc4.set3 (.int .i64 0) (.slice none 0 0) (.slice none 0 0)).cells
          refine bodyPost_ret (v := .tuple #[.agg #[.int .i64 0, .slice none 0 0, .slice none 0 0], .int .i64 7]) ?_ rfl (objQ_no (by decide) HN.out (g4.set3 (Nat.le_refl _)))
          simp [results, Tryz.results158, go_sem, w0', w1', w2']
        · have hd0 : 1 ≤ d := by have := HDEP.out; omega
          have HH1 := Lib.hid (HHD.out.trans (if_neg hd8))
          clear HHD
          by_cases hcn : 256 < (cnt : Int) + 1
          · have HN := Lib.hid (show r = .error 2 by rw [← HRR.out]; unfold objX1; rw [HH1.out, if_pos (show 256 < cnt + 1 by omega)])
            go_wp2_with fail
            obtain ⟨w0', w1', w2', _, _, _⟩ := (hrc4.set3 (.int .i64 0) (.slice none 0 0) (.slice none 0 0)).cells
            refine bodyPost_ret (v := .tuple #[.agg #[.int .i64 0, .slice none 0 0, .slice none 0 0], .int .i64 2]) ?_ rfl (objQ_no (by decide) HN.out (g4.set3 (Nat.le_refl _)))
            simp [results, Tryz.results158, go_sem, w0', w1', w2']
          · have HH2 := Lib.hid (HH1.out.trans (if_neg (by omega)))
            clear HH1
            have wp : IntKind.i64.wrap ((e : Int) - (p : Int)) = (e : Int) - (p : Int) := IntWalk.i64_in _ (by omega)
            by_cases hfit : (e : Int) - (p : Int) < n
            · have HN := Lib.hid (show r = .error 6 by rw [← HRR.out]; unfold objX1; rw [HH2.out, if_pos (by have := HPP.out; omega)])
              go_wp2_with fail
              obtain ⟨w0', w1', w2', _, _, _⟩ := (hrc4.set3 (.int .i64 0) (.slice none 0 0) (.slice none 0 0)).cells
              refine bodyPost_ret (v := .tuple #[.agg #[.int .i64 0, .slice none 0 0, .slice none 0 0], .int .i64 6]) ?_ rfl (objQ_no (by decide) HN.out (g4.set3 (Nat.le_refl _)))
              simp [results, Tryz.results158, go_sem, w0', w1', w2']
            · have HY := HH2.out.trans (if_neg (by have := HPP.out; omega))
              obtain ⟨d', rfl⟩ : ∃ d', d = d' + 1 := ⟨d - 1, by omega⟩
              have hrr : r = objX1 qq (objsX qq) dep cnt ((L.take e).drop a) := HRR.out.symm
              unfold objX1 at hrr
              rw [HY] at hrr
              simp only [List.drop_drop] at hrr
              rw [show a + (k + j) = p by have := HPP.out; omega, HQ.out] at hrr
              have HRY := Lib.hid hrr
              clear hrr HY HH2
              have r5 := r4.ext ((Below.refl _ _).alloc (Nat.le_refl _) (.cells #[.int .i64 t, .slice none 0 0, .slice none 0 0] 83))
              have x5 : Ext (W3.setCell ⟨w0.heap.size, 3, none⟩ (.int .i64 ((cnt : Int) + 1))) ((W3.setCell ⟨w0.heap.size, 3, none⟩ (.int .i64 ((cnt : Int) + 1))).alloc (.cells #[.int .i64 t, .slice none 0 0, .slice none 0 0] 83)) := (Below.refl _ _).alloc (Nat.le_refl _) _
              have g5 := g4.tr (Gb.of w0.heap.size x5)
              have hrc5 := hrc4.gb (Gb.of w0.heap.size x5) hne
              have hxc5 := C3.new (W3.setCell ⟨w0.heap.size, 3, none⟩ (.int .i64 ((cnt : Int) + 1))) (.int .i64 t) (.slice none 0 0) (.slice none 0 0)
              rw [sz4] at hxc5
              have hne5 : W3.heap.size ≠ w0.heap.size := by omega
              have hner : W3.heap.size ≠ W.heap.size := by omega
              have hner' : W.heap.size ≠ W3.heap.size := by omega
              have sz5 : ((W3.setCell ⟨w0.heap.size, 3, none⟩ (.int .i64 ((cnt : Int) + 1))).alloc (.cells #[.int .i64 t, .slice none 0 0, .slice none 0 0] 83)).heap.size = W3.heap.size + 1 := by simp
              obtain ⟨u0, u1, u2, u3, uf1, uf3⟩ := r5.cells
              obtain ⟨y0, y1, y2, yf0, yf1, yf2⟩ := hxc5.cells
              clear hrc3 hrc2 r4 g4 hrc4 x5
              have wdd : IntKind.i64.wrap (dep + 1) = dep + 1 := IntWalk.i64_in _ (by omega)
              have HH3 := Lib.hid (HH.out d' rfl)
              clear HH
              by_cases hopen : n < 0
              · have hm1 : n = -1 := by omega
                subst hm1
                have hnm1 : ((-1 : Int) == -1) = true := by decide
                have HRZ := Lib.hid (HRY.out.trans (if_pos (by decide)))
                clear HRY HN5 hopen
                have hO := HH3.out.2 w0 _ _ L p e (cnt + 1) HB.out (Gb.below bel g5 (Nat.le_refl _)) r5 (by omega) he hl (by omega)
                rw [show (9 : Int) - (d' : Int) = dep + 1 by have := HDEP.out; omega] at hO
                have HO := Lib.hid hO
                clear hO
                go_wp2_with fail
                generalize hW5 : (W3.setCell ⟨w0.heap.size, 3, none⟩ (.int .i64 ((cnt : Int) + 1))).alloc (.cells #[.int .i64 t, .slice none 0 0, .slice none 0 0] 83) = W5 at *
                clear hW5 uf1 uf3 u0 u1 u2 u3 y0 y1 y2 yf0 yf1 yf2 sz4 q0 q1 q2 f0 f1 f2 s0 s1 s2 s3 sf1 sf3
                refine HO.out.mono ?_
                rintro en W6 ⟨g6, hx⟩
                have hrc6 := hrc5.gb g6 hne
                have hxc6 := hxc5.gb g6 hne5
                obtain ⟨q0, q1, q2, f0, f1, f2⟩ := hrc6.cells
                obtain ⟨y0, y1, y2, yf0, yf1, yf2⟩ := hxc6.cells
                have hl6 := hrc6.lt
                have hl7 := hxc6.lt
                have gW6 := g5.tr g6
                rcases hx with ⟨A', n', c', kk, hn0, hkk, rfl⟩ | ⟨ks, c1, uu, A', n', cc', hn0, rfl, r6, nd6⟩
                · have HN := Lib.hid (show r = .error kk by rw [HRZ.out, hn0])
                  clear hn0
                  go_wp2_with fail
                  obtain ⟨w0', w1', w2', _, _, _⟩ := ((hrc6.other (b' := W3.heap.size) (i := 2) (v := .slice A' n' c') hner').set3 (.int .i64 t) (.slice none 0 0) (.slice A' n' c')).cells
                  refine bodyPost_ret (v := .tuple #[.agg #[.int .i64 t, .slice none 0 0, .slice A' n' c'], .int .i64 kk]) ?_ rfl (objQ_no hkk HN.out ((gW6.poke (by omega)).set3 (Nat.le_refl _)))
                  simp [results, Tryz.results158, go_sem, w0', w1', w2']
                · have HN := Lib.hid (show r = .ok (Nd.mk t [] ks, c1, k + j + uu) by rw [HRZ.out, hn0])
                  have nd7 := nd6.map (S' := fun b => W.heap.size ≤ b) (w' := Go.Proofs.YthbpdhanljpigaaGreatDoor.set3 (W6.setCell ⟨W3.heap.size, 2, none⟩ (.slice A' n' cc')) W.heap.size (.int .i64 t) (.slice none 0 0) (.slice A' n' cc')) (fun b hb _ => ⟨by omega, (set3_block (by omega)).trans (setCell_block (by omega))⟩)
                  have HND := Lib.hid nd7
                  clear hn0 nd6 nd7
                  go_wp2_with fail
                  obtain ⟨w0', w1', w2', _, _, _⟩ := ((hrc6.other (b' := W3.heap.size) (i := 2) (v := .slice A' n' cc') hner').set3 (.int .i64 t) (.slice none 0 0) (.slice A' n' cc')).cells
                  refine bodyPost_ret (v := .tuple #[.agg #[.int .i64 t, .slice none 0 0, .slice A' n' cc'], .int .i64 0]) ?_ rfl ⟨(gW6.poke (by omega)).set3 (Nat.le_refl _), .inr ⟨_, _, _, _, _, _, _, _, _, HN.out, rfl, ?_, RdS.nil _, HND.out⟩⟩
                  · simp [results, Tryz.results158, go_sem, w0', w1', w2']
                  · have e1 : a + (k + j + uu) = p + uu := by have := HPP.out; omega
                    rw [e1]
                    exact (r6.other (by omega)).setN3 (by omega)
              · obtain ⟨m, rfl⟩ : ∃ m : Nat, n = (m : Int) := ⟨n.toNat, by omega⟩
                have hnm1 : ((m : Int) == -1) = false := by simp
                have HRZ := Lib.hid ((HRY.out.trans (if_neg hopen)).trans (if_pos rfl))
                clear HRY HN5 hopen n3 n4
                have hO := HH3.out.1 w0 _ _ L p (p + m) (cnt + 1) HB.out (Gb.below bel g5 (Nat.le_refl _)) r5 (by omega) (by omega) hl (by omega)
                rw [Int.natCast_add, show (9 : Int) - (d' : Int) = dep + 1 by have := HDEP.out; omega] at hO
                have HO := Lib.hid hO
                have wpn : IntKind.i64.wrap ((p : Int) + (m : Int)) = (p : Int) + (m : Int) := IntWalk.i64_in _ (by omega)
                clear hO
                go_wp2_with fail
                generalize hW5 : (W3.setCell ⟨w0.heap.size, 3, none⟩ (.int .i64 ((cnt : Int) + 1))).alloc (.cells #[.int .i64 t, .slice none 0 0, .slice none 0 0] 83) = W5 at *
                clear hW5 uf1 uf3 u0 u1 u2 u3 y0 y1 y2 yf0 yf1 yf2 sz4 q0 q1 q2 f0 f1 f2 s0 s1 s2 s3 sf1 sf3
                refine HO.out.mono ?_
                rintro en W6 ⟨g6, hx⟩
                have hrc6 := hrc5.gb g6 hne
                have hxc6 := hxc5.gb g6 hne5
                obtain ⟨q0, q1, q2, f0, f1, f2⟩ := hrc6.cells
                obtain ⟨y0, y1, y2, yf0, yf1, yf2⟩ := hxc6.cells
                have hl6 := hrc6.lt
                have hl7 := hxc6.lt
                have gW6 := g5.tr g6
                rcases hx with ⟨A', n', c', kk, hn0, hkk, rfl⟩ | ⟨ks, c1, uu, A', n', cc', hn0, rfl, r6, nd6⟩
                · have HN := Lib.hid (show r = .error kk by rw [HRZ.out, Int.toNat_natCast, win_take (by omega), hn0])
                  clear hn0
                  go_wp2_with fail
                  obtain ⟨w0', w1', w2', _, _, _⟩ := ((hrc6.other (b' := W3.heap.size) (i := 2) (v := .slice A' n' c') hner').set3 (.int .i64 t) (.slice none 0 0) (.slice A' n' c')).cells
                  refine bodyPost_ret (v := .tuple #[.agg #[.int .i64 t, .slice none 0 0, .slice A' n' c'], .int .i64 kk]) ?_ rfl (objQ_no hkk HN.out ((gW6.poke (by omega)).set3 (Nat.le_refl _)))
                  simp [results, Tryz.results158, go_sem, w0', w1', w2']
                · have HN := Lib.hid (show r = .ok (Nd.mk t [] ks, c1, k + j + m) by rw [HRZ.out, Int.toNat_natCast, win_take (by omega), hn0])
                  have huu : uu = m := by have := (objsX_cnt _ _ _ _ _ _ _ _ _ (Nat.le_refl _) hn0 (by omega)).2.2 rfl; rw [win_len (by omega)] at this; omega
                  have nd7 := nd6.map (S' := fun b => W.heap.size ≤ b) (w' := Go.Proofs.YthbpdhanljpigaaGreatDoor.set3 (W6.setCell ⟨W3.heap.size, 2, none⟩ (.slice A' n' cc')) W.heap.size (.int .i64 t) (.slice none 0 0) (.slice A' n' cc')) (fun b hb _ => ⟨by omega, (set3_block (by omega)).trans (setCell_block (by omega))⟩)
                  have HND := Lib.hid nd7
                  clear hn0 nd6 nd7
                  go_wp2_with fail
                  obtain ⟨w0', w1', w2', _, _, _⟩ := ((hrc6.other (b' := W3.heap.size) (i := 2) (v := .slice A' n' cc') hner').set3 (.int .i64 t) (.slice none 0 0) (.slice A' n' cc')).cells
                  refine bodyPost_ret (v := .tuple #[.agg #[.int .i64 t, .slice none 0 0, .slice A' n' cc'], .int .i64 0]) ?_ rfl ⟨(gW6.poke (by omega)).set3 (Nat.le_refl _), .inr ⟨_, _, _, _, _, _, _, _, _, HN.out, rfl, ?_, RdS.nil _, HND.out⟩⟩
                  · simp [results, Tryz.results158, go_sem, w0', w1', w2']
                  · have e1 : a + (k + j + m) = p + uu := by have := HPP.out; omega
                    rw [e1]
                    exact (r6.other (by omega)).setN3 (by omega)
end Go.Proofs.YthbpdhanljpigaaGreatDoor
namespace Go.Proofs.YthbpdhanljpigaaGreatDoor
open Go.RowKit
set_option linter.unusedVariables false
set_option maxRecDepth 100000
theorem allq (q : Bool) : ∀ d, d ≤ 9 → ObjsOkQ q d ∧ KidsOkQ q d
  | 0, h =>
    have o : ObjOkQ q 0 := objq_of h fun d' e => by omega
    ⟨objsq_of o, kidsq_of o⟩
  | d + 1, h =>
    have o : ObjOkQ q (d + 1) := objq_of h fun d' e => by
      obtain rfl : d' = d := by omega
      exact allq q _ (by omega)
    ⟨objsq_of o, kidsq_of o⟩
/-- A call that returns objects, or an error. -/
def ParQ (w : World) (d : Nat) (r : Except Int (List Nd)) (en : Ending) (w' : World) : Prop := Ext w w' ∧
  ((∃ (A : Option Addr) (n c : Nat) (k : Int), r = .error k ∧ k ≠ 0 ∧ en = .returned (.tuple #[.slice A n c, .int .i64 k])) ∨
   (∃ ts A n cc, r = .ok ts ∧ en = .returned (.tuple #[.slice A n cc, .int .i64 0]) ∧ NdsRd d w' (.slice A n cc) ts))
theorem parX_err {q : Bool} {l : List UInt8} {k : Int} (h : ¬ 4096 < l.length) (hk : objsX q false 1 0 l = .error k) : parX q l = .error k := by unfold parX; rw [if_neg h, hk]
theorem parX_yes {q : Bool} {l : List UInt8} {ts : List Nd} {c u : Nat} (h : ¬ 4096 < l.length) (hk : objsX q false 1 0 l = .ok (ts, c, u)) : parX q l = .ok ts := by unfold parX; rw [if_neg h, hk]
set_option maxHeartbeats 1000000 in
theorem parseq_any {a : Value} {l : List UInt8} (q : Bool) (w : World) (ha : Rd w a (bvs l)) (hl : l.length ≤ 140737488355328) : Calls Tryz.prog 68 #[a, .bool q] w (ParQ w 8 (parX q l)) := by
  have ha0 := ha
  obtain ⟨A, n, c, rfl, hn, hnc, hcm, _⟩ := ha.bytes
  subst hn
  unfold maxLen at hcm
  clear ha
  have HA := Lib.hid ha0
  clear ha0
  by_cases h : 4096 < l.length
  · have HP := Lib.hid (show parX q l = .error 2 from if_pos h)
    have h' : (4096 : Int) < (l.length : Int) := by omega
    go_enter Tryz.func68, Tryz.ntmps68
    go_wp2
    go_ret2
    exact ⟨Below.refl _ _, .inl ⟨none, 0, 0, 2, HP.out, by decide, rfl⟩⟩
  · have HP := Lib.hid h
    have h' : ¬ (4096 : Int) < (l.length : Int) := by omega
    have x1 : Ext w (w.alloc (.cells #[.slice A l.length c, .int .i64 0, .bool q, .int .i64 0] 140)) := (Below.refl _ _).alloc (Nat.le_refl _) _
    have r1 : RAq (w.alloc (.cells #[.slice A l.length c, .int .i64 0, .bool q, .int .i64 0] 140)) w.heap.size (.slice A l.length c) q ((0 : Nat) : Int) ((0 : Nat) : Int) := heap_alloc_new' w _
    have hO := (allq q 8 (by omega)).1 w _ _ l 0 l.length 0 HA.out x1 r1 (Nat.zero_le _) (Nat.le_refl _) (by omega) (by omega)
    rw [List.take_length, List.drop_zero] at hO
    have HO := Lib.hid hO
    clear hO r1
    go_enter Tryz.func68, Tryz.ntmps68
    go_wp2_with fail
    refine HO.out.mono ?_
    rintro en w2 ⟨g2, hx⟩
    have e2 : Ext w w2 := Gb.below x1 g2 (Nat.le_refl _)
    rcases hx with ⟨A', n', c', k, hn, hk, rfl⟩ | ⟨ts, k, u, A', n', cc, hn, rfl, _, nd⟩
    · have HN := Lib.hid (parX_err HP.out hn)
      clear hn
      go_wp2_with fail
      go_ret2
      exact ⟨e2, .inl ⟨A', n', c', k, HN.out, hk, rfl⟩⟩
    · have HN := Lib.hid (parX_yes HP.out hn)
      have HD := Lib.hid nd.rd
      clear hn nd
      go_wp2_with fail
      go_ret2
      exact ⟨e2, .inr ⟨ts, A', n', cc, HN.out, rfl, HD.out⟩⟩
end Go.Proofs.YthbpdhanljpigaaGreatDoor
namespace Go.Proofs.YthbpdhanljpigaaGreatDoor
open Go.RowKit
set_option linter.unusedVariables false
set_option maxRecDepth 100000
theorem u8_rem (x : Int) (h0 : 0 ≤ x) : x.tmod 32 = x % 32 := Int.tmod_eq_emod_of_nonneg h0
end Go.Proofs.YthbpdhanljpigaaGreatDoor
namespace Go.Proofs.YthbpdhanljpigaaGreatDoor
open Go.RowKit
set_option linter.unusedVariables false
set_option maxRecDepth 100000
theorem num_fold : ∀ (m : List UInt8) (n : Int), m.foldl (fun n c => 256 * n + (c.toNat : Int)) n = n * 256 ^ m.length + num m
  | [], n => by simp [num]
  | c :: m, n => by
    have h1 := num_fold m (256 * n + (c.toNat : Int))
    have h2 := num_fold m (256 * 0 + (c.toNat : Int))
    have e : num (c :: m) = m.foldl (fun n c => 256 * n + (c.toNat : Int)) (256 * 0 + (c.toNat : Int)) := rfl
    rw [List.foldl_cons, h1, e, h2, List.length_cons, Int.pow_succ]
    generalize (256 : Int) ^ m.length = p
    rw [Int.add_mul, Int.add_mul, Int.mul_comm 256 n, Int.mul_assoc, Int.mul_comm 256 p]
    omega
theorem num_cons (c : UInt8) (m : List UInt8) : num (c :: m) = (c.toNat : Int) * 256 ^ m.length + num m := by
  have h := num_fold m (256 * 0 + (c.toNat : Int))
  have e : num (c :: m) = m.foldl (fun n c => 256 * n + (c.toNat : Int)) (256 * 0 + (c.toNat : Int)) := rfl
  rw [e, h, Int.mul_zero, Int.zero_add]
theorem num_top {l : List UInt8} {k : Nat} (hk : k < l.length) : num (l.take (k + 1)) / 256 ^ k = byteI l 0 := by
  cases l with
  | nil => simp at hk
  | cons c m =>
    rw [List.take_succ_cons, num_cons]
    have hl : (m.take k).length = k := by rw [List.length_take]; simp only [List.length_cons] at hk; omega
    obtain ⟨h0, h1⟩ := num_bd _ (m.take k) hl
    rw [hl]
    have hp : (0 : Int) < 256 ^ k := by omega
    rw [Int.add_comm, Int.add_mul_ediv_right _ _ (by omega), Int.ediv_eq_zero_of_lt h0 h1]
    show 0 + _ = ((c.toNat : Nat) : Int)
    omega
end Go.Proofs.YthbpdhanljpigaaGreatDoor
namespace Go.Proofs.YthbpdhanljpigaaGreatDoor
open Go.RowKit
set_option linter.unusedVariables false
set_option maxRecDepth 100000
theorem C3.ext {W W' : World} {b : Nat} {v0 v1 v2 : Value} (h : C3 W b v0 v1 v2) (k : Ext W W') : C3 W' b v0 v1 v2 := (k.block b (block_lt h)).trans h
end Go.Proofs.YthbpdhanljpigaaGreatDoor
namespace Go.Proofs.YthbpdhanljpigaaGreatDoor
open Go.RowKit
set_option linter.unusedVariables false
set_option maxRecDepth 100000
/-- What the reference's tag returns. -/
def RTagX (w : World) (r : Except Int (Int × Nat)) (e : Ending) (w' : World) : Prop := Ext w w' ∧
  ((∃ x y k : Int, r = .error k ∧ e = .returned (.tuple #[.int .i64 x, .int .i64 y, .int .i64 k])) ∨
   (∃ (t : Int) (k : Nat), r = .ok (t, k) ∧ e = .returned (.tuple #[.int .i64 t, .int .i64 (k : Int), .int .i64 0])))
theorem rtagX_no {w w' : World} {r : Except Int (Int × Nat)} {x y k : Int} (hr : r = .error k) (h : Ext w w') : RTagX w r (.returned (.tuple #[.int .i64 x, .int .i64 y, .int .i64 k])) w' := ⟨h, .inl ⟨x, y, k, hr, rfl⟩⟩
theorem rtagX_yes {w w' : World} {r : Except Int (Int × Nat)} {t z : Int} (k : Nat) (hz : z = (k : Int)) (hr : r = .ok (t, k)) (h : Ext w w') : RTagX w r (.returned (.tuple #[.int .i64 t, .int .i64 z, .int .i64 0])) w' := ⟨h, .inr ⟨t, k, hr, by rw [hz]⟩⟩
set_option maxHeartbeats 2000000 in
theorem reftagX_any {b : Value} {l : List UInt8} (w : World) (hb : Rd w b (bvs l)) : Calls Tryz.prog 174 #[b] w (RTagX w (tagX l)) := by
  obtain ⟨A, n, c, rfl, hn, hnc, hcm, hA⟩ := hb.bytes
  subst hn
  unfold maxLen at hcm
  clear hb
  obtain ⟨r, hr⟩ : ∃ r, tagX l = r := ⟨_, rfl⟩
  have hr2 := hr
  unfold tagX at hr2
  rw [hr]
  clear hr
  have HT := Lib.hid hr2
  clear hr2
  by_cases h1 : l.length < 1
  · have HN := Lib.hid (HT.out.symm.trans (if_pos h1))
    have h0 : l.length = 0 := by omega
    rw [h0]
    clear hA HT h1 hcm hnc h0
    go_enter Tryz.func174, Tryz.ntmps174
    go_wp2
    go_ret3
    exact rtagX_no HN.out (Below.refl _ _)
  · have HT1 := Lib.hid (HT.out.symm.trans (if_neg h1))
    clear HT
    obtain ⟨bb, o, rfl, hbl, hcell⟩ := hA (by omega)
    have x0 := hcell 0 (by omega)
    have p0 := byteI_lo l 0
    have p1 := byteI_hi l 0
    have hl0 : 0 < l.length := by omega
    have hl0' : ((l.length : Int) == 0) = false := by rw [beq_eq_false_iff_ne]; omega
    have tm := u8_rem (byteI l 0) p0
    have HC := Lib.hid hcell
    clear hcell hA
    simp only [Nat.add_zero] at x0
    by_cases h2 : byteI l 0 % 32 = 31
    · have h2b : (byteI l 0 % 32 != 31) = false := by simp [h2]
      have HT2 := Lib.hid (HT1.out.trans (if_pos (show longT (byteI l 0) = true by simp [longT, h2])))
      clear HT1
      by_cases h3 : l.length < 2
      · have HN := Lib.hid (HT2.out.trans (if_pos h3))
        have h3' : (l.length : Int) < 2 := by omega
        clear HT2 h2
        go_enter Tryz.func174, Tryz.ntmps174
        go_wp2_with fail
        go_ret3
        exact rtagX_no HN.out (Below.refl _ _)
      · have HT3 := Lib.hid (HT2.out.trans (if_neg h3))
        have h3' : ¬ (l.length : Int) < 2 := by omega
        have hl1 : 1 < l.length := by omega
        have x1 := HC.out 1 hl1
        have q0 := byteI_lo l 1
        have q1 := byteI_hi l 1
        have HV := Lib.hid (fun w => refvalid_any (byteI l 0 * 256 + byteI l 1) w (by omega) (by omega))
        have HE := Lib.hid (show byteI l 0 * 256 + byteI l 1 = 256 * byteI l 0 + byteI l 1 by omega)
        have ww : IntKind.i64.wrap (256 * byteI l 0) = 256 * byteI l 0 := IntWalk.i64_in _ (by omega)
        have wv : IntKind.i64.wrap (256 * byteI l 0 + byteI l 1) = 256 * byteI l 0 + byteI l 1 := IntWalk.i64_in _ (by omega)
        clear HT2 h2
        cases hv : validT (byteI l 0 * 256 + byteI l 1) with
        | false =>
          have HN := Lib.hid (HT3.out.trans (ifb_false hv))
          have HV2 := HV.out
          rw [hv, HE.out] at HV2
          have HV3 := Lib.hid HV2
          clear HV2 hv HV HT3
          go_enter Tryz.func174, Tryz.ntmps174
          go_wp2_with (go_quiet (fail))
          refine (HV3.out _).mono ?_
          rintro e w' ⟨rfl, rfl⟩
          go_wp2_with fail
          go_ret3
          exact rtagX_no HN.out (Ext.drewN_ _ _)
        | true =>
          have HN := Lib.hid (HT3.out.trans (ifb_true hv))
          have HV2 := HV.out
          rw [hv, HE.out] at HV2
          rw [HE.out] at HN
          have HV3 := Lib.hid HV2
          clear HV2 hv HV HT3
          go_enter Tryz.func174, Tryz.ntmps174
          go_wp2_with (go_quiet (fail))
          refine (HV3.out _).mono ?_
          rintro e w' ⟨rfl, rfl⟩
          go_wp2_with fail
          go_ret3
          exact rtagX_yes 2 rfl HN.out (Ext.drewN_ _ _)
    · have h2b : (byteI l 0 % 32 != 31) = true := by simp [h2]
      have HT2 := Lib.hid (HT1.out.trans (if_neg (show ¬ longT (byteI l 0) = true by simp [longT, h2])))
      clear HT1 h1
      have hv : validT (byteI l 0) = decide (0 < byteI l 0) := by
        unfold validT
        rw [if_pos (by omega)]
        have : longT (byteI l 0) = false := by simp [longT, h2]
        rw [this]; simp
      by_cases h3 : byteI l 0 = 0
      · have HN := Lib.hid (HT2.out.trans (if_neg (by rw [hv, h3]; decide)))
        rw [h3] at x0 h2b tm
        clear HT2 hv h3 h2 p0 p1
        go_enter Tryz.func174, Tryz.ntmps174
        go_wp2_with fail
        go_ret3
        exact rtagX_no HN.out (Below.refl _ _)
      · have HN := Lib.hid (HT2.out.trans (if_pos (by rw [hv]; simp; omega)))
        have h3b : (byteI l 0 == 0) = false := by simp [h3]
        clear HT2 hv h3 h2
        go_enter Tryz.func174, Tryz.ntmps174
        go_wp2_with fail
        go_ret3
        exact rtagX_yes 1 rfl HN.out (Below.refl _ _)
end Go.Proofs.YthbpdhanljpigaaGreatDoor
