/- Words for slices of one-cell elements, and laws of the walk on append, slicing, make, copy over them. No program is named here. -/
import Derived.WalkKit
import Derived.Handy
import Derived.Maps.AppendAt
import Derived.Lib.Hide
import Derived.Deep.AppendLies
import Derived.Deep.Draws
namespace Go.Proofs.YtkjplpmogfmhkaaGreatDoor
open Go.RowKit

/-- w' is w with new blocks: all that was there is as it was. -/
abbrev Ext (w w' : World) : Prop := Below w.heap.size w w'
theorem Ext.rfl' (w : World) : Ext w w := Below.refl _ _
theorem Ext.tr {a b c : World} (h : Ext a b) (k : Ext b c) : Ext a c := h.trans (k.mono h.size)

/-- The slice value v reads as the list xs (one cell an element). -/
def Rd (w : World) (v : Value) (xs : List Value) : Prop :=
  ∃ A n c, v = .slice A n c ∧ n = xs.length ∧ n ≤ c ∧ c ≤ maxLen ∧
    (0 < n → ∃ b o, A = some ⟨b, o, none⟩ ∧ ∀ j u, xs[j]? = some u → w.cell? ⟨b, o + j, none⟩ = some u)

/-- The slice value v reads as xs, and what it can be appended to in place is a block from B on that nobody else reads: it may be appended to. -/
def Own (w : World) (B : Nat) (e : TypeId) (v : Value) (xs : List Value) : Prop :=
  ∃ A n c, v = .slice A n c ∧ n = xs.length ∧
    ((n = 0 ∧ c = 0) ∨ ∃ g cur, A = some ⟨g, 0, none⟩ ∧ B ≤ g ∧ w.heap[g]? = some (.cells cur e (0, 0)) ∧ n ≤ c ∧ c ≤ maxLen ∧ cur.size = c ∧ cur.toList.take n = xs)

/-- How many elements a slice has: for a loop's measure. -/
def lenV : Value → Nat | .slice _ n _ => n | _ => 0

/-- The block that an append onto v may write. -/
def rowOf : Value → Option Nat
  | .slice (some a) _ (_ + 1) => some a.block
  | _ => none

theorem Rd.nil_ (w : World) : Rd w (.slice none 0 0) [] := ⟨none, 0, 0, rfl, rfl, Nat.le_refl _, by unfold maxLen; omega, fun h => absurd h (by omega)⟩
theorem Own.nil_ (w : World) (B : Nat) (e : TypeId) : Own w B e (.slice none 0 0) [] := ⟨none, 0, 0, rfl, rfl, .inl ⟨rfl, rfl⟩⟩
theorem Own.empty (w : World) (B : Nat) (e : TypeId) (A : Option Addr) : Own w B e (.slice A 0 0) [] := ⟨A, 0, 0, rfl, rfl, .inl ⟨rfl, rfl⟩⟩

theorem block_lt {w : World} {g : Nat} {o : Obj} (h : w.heap[g]? = some o) : g < w.heap.size := (Array.getElem?_eq_some_iff.1 h).1

theorem Own.rd {w : World} {B : Nat} {e : TypeId} {v : Value} {xs : List Value} (h : Own w B e v xs) : Rd w v xs := by
  obtain ⟨A, n, c, rfl, hn, h | ⟨g, cur, rfl, hB, hg, hnc, hcm, hcs, ht⟩⟩ := h
  · obtain ⟨rfl, rfl⟩ := h
    exact ⟨A, 0, 0, rfl, hn, Nat.le_refl _, by unfold maxLen; omega, fun h => absurd h (by omega)⟩
  · refine ⟨_, n, c, rfl, hn, hnc, hcm, fun _ => ⟨g, 0, rfl, fun j u hu => ?_⟩⟩
    rw [Nat.zero_add, cell_of_row w g j cur e (0, 0) hg]
    rw [← ht, List.getElem?_take] at hu
    split at hu
    · simpa using hu
    · cases hu

theorem Rd.keep {w w' : World} {v : Value} {xs : List Value} (h : Rd w v xs) (hk : ∀ p : Addr, p.block < w.heap.size → w'.cell? p = w.cell? p) : Rd w' v xs := by
  obtain ⟨A, n, c, rfl, hn, hnc, hcm, hc0⟩ := h
  refine ⟨A, n, c, rfl, hn, hnc, hcm, fun h0 => ?_⟩
  obtain ⟨b, o, rfl, hc⟩ := hc0 h0
  exact ⟨b, o, rfl, fun j u hu => (hk _ (World.block_lt_of_cell? w _ (hc j u hu))).trans (hc j u hu)⟩
theorem Rd.ext {w w' : World} {v : Value} {xs : List Value} (h : Rd w v xs) (hb : Ext w w') : Rd w' v xs := h.keep fun _ hp => hb.cell hp
/-- What lay below B when the call began still reads so. -/
theorem Rd.below {w0 w : World} {v : Value} {xs : List Value} (h : Rd w0 v xs) (hb : Below w0.heap.size w0 w) : Rd w v xs := h.keep fun _ hp => hb.cell hp

theorem Own.mono {w : World} {B B' : Nat} {e : TypeId} {v : Value} {xs : List Value} (h : Own w B e v xs) (hB : B' ≤ B) : Own w B' e v xs := by
  obtain ⟨A, n, c, rfl, hn, h | ⟨g, cur, rfl, h1, hr⟩⟩ := h
  · exact ⟨A, n, c, rfl, hn, .inl h⟩
  · exact ⟨_, n, c, rfl, hn, .inr ⟨g, cur, rfl, Nat.le_trans hB h1, hr⟩⟩
theorem Own.ext {w w' : World} {B : Nat} {e : TypeId} {v : Value} {xs : List Value} (h : Own w B e v xs) (hb : Ext w w') : Own w' B e v xs := by
  obtain ⟨A, n, c, rfl, hn, h | ⟨g, cur, rfl, h1, hg, hr⟩⟩ := h
  · exact ⟨A, n, c, rfl, hn, .inl h⟩
  · exact ⟨_, n, c, rfl, hn, .inr ⟨g, cur, rfl, h1, (hb.block g (block_lt hg)).trans hg, hr⟩⟩
theorem Own.grown {w w' : World} {B : Nat} {e : TypeId} {v : Value} {xs : List Value} {row : Option Nat} (h : Own w B e v xs) (hg : w.grownBy w' row) (hne : rowOf v = none ∨ rowOf v ≠ row) : Own w' B e v xs := by
  obtain ⟨A, n, c, rfl, hn, h | ⟨g, cur, rfl, h1, hgg, hnc, hr⟩⟩ := h
  · exact ⟨A, n, c, rfl, hn, .inl h⟩
  · by_cases hc0 : c = 0
    · subst hc0
      exact ⟨_, n, 0, rfl, hn, .inl ⟨by omega, rfl⟩⟩
    · refine ⟨_, n, c, rfl, hn, .inr ⟨g, cur, rfl, h1, (hg.block g (block_lt hgg) ?_).trans hgg, hnc, hr⟩⟩
      obtain ⟨c', rfl⟩ : ∃ c', c = c' + 1 := ⟨c - 1, by omega⟩
      rcases hne with h | h
      · simp [rowOf] at h
      · simpa [rowOf] using h

/-- The element type's row of the table: one cell, so many bytes. -/
structure Elem (P : Program) (t e : TypeId) (bytes : Nat) : Prop where
  ex : ∃ i z, P.underlying t = some (.slice e) ∧ P.info? e = some i ∧ i.zero = some z ∧ i.size = 1 ∧ i.bytes = bytes ∧ z.cells.size = 1

theorem append_none {P : Program} {w : World} {t ty e : TypeId} {i : TypeInfo} (ht : P.underlying t = some (.slice e)) (hi : P.info? e = some i) (A A2 : Option Addr) (n c c2 : Nat) (hnc : n ≤ c) :
    (Builtin.append_ #[t, t] ty #[.slice A n c, .slice A2 0 c2]).run P w = .ok (.slice A n c) w := by
  cases A <;> cases A2 <;> simp [Builtin.append_, run_underlying ht, sizeOf, typeInfo, hi, Builtin.lenOf, Builtin.firstCells, loadCells, loadCellsFrom, hnc, storeCells]

theorem ownsRow_own {w : World} {base : Nat} {e : TypeId} {v : Value} {n : Nat} {xs : List Value} (h : w.ownsRow base e 1 v n xs) : Own w base e v xs := by
  have hl := h.1
  rcases h.2 with ⟨rfl, rfl⟩ | ⟨g, cap, cur, rfl, hb, hg, hnc, hcm, hcs, ht⟩
  · have : xs = [] := List.eq_nil_of_length_eq_zero (by simpa using hl)
    subst this
    exact Own.nil_ _ _ _
  · exact ⟨_, n, cap, rfl, by omega, .inr ⟨g, cur, rfl, hb, hg, hnc, hcm, by omega, by simpa using ht⟩⟩

theorem run_app {P : Program} {w : World} {t ty e : TypeId} {bytes B : Nat} (he : Elem P t e bytes) {v src : Value} {xs news : List Value} (hown : Own w B e v xs) (hr : Rd w src news) (h1 : ∀ u ∈ news, u.oneCell' = true)
    (hb : (xs.length + news.length) * bytes ≤ 140737488355328) (h63 : xs.length + news.length ≤ maxLen) (hB : B ≤ w.heap.size) :
    ∃ A c w', (Builtin.append_ #[t, t] ty #[v, src]).run P w = .ok (.slice A (xs.length + news.length) c) w' ∧ Own w' B e (.slice A (xs.length + news.length) c) (xs ++ news) ∧ w.grownBy w' (rowOf v) := by
  obtain ⟨i, z, ht, hi, hz, hsz, hby, hzs⟩ := he.ex
  obtain ⟨A, n, c, rfl, hn, hcase⟩ := hown
  obtain ⟨A2, m, c2, rfl, hm, hmc, hcm2, hcells⟩ := hr
  by_cases hm0 : m = 0
  · subst hm0
    have hnil : news = [] := List.eq_nil_of_length_eq_zero (by omega)
    subst hnil
    have hnc : n ≤ c := by
      rcases hcase with h | ⟨g, cur, _, _, _, h, _⟩
      · omega
      · exact h
    refine ⟨A, c, w, ?_, ?_, ⟨rfl, rfl, rfl, Nat.le_refl _, fun _ _ _ => rfl⟩⟩
    · rw [append_none ht hi A A2 n c c2 hnc]; simp [hn]
    · simp only [List.length_nil, Nat.add_zero, List.append_nil, ← hn]
      exact ⟨A, n, c, rfl, hn, hcase⟩
  · obtain ⟨b2, o2, rfl, hc2⟩ := hcells (by omega)
    have hnews : ∀ j u, news[j]? = some u → w.cell? ((⟨b2, o2, none⟩ : Addr).add j) = some u := by
      intro j u hu
      rw [Addr.add_lit]
      exact hc2 j u hu
    rcases hcase with ⟨rfl, rfl⟩ | ⟨g, cur, rfl, hbg, hg, hnc, hcm, hcs, htk⟩
    · have hx : xs = [] := List.eq_nil_of_length_eq_zero (by omega)
      subst hx
      have key : ∃ v' w', (Builtin.append_ #[t, t] ty #[.slice A 0 0, .slice (some ⟨b2, o2, none⟩) m c2]).run P w = .ok v' w' ∧ w'.ownsRow w.heap.size e 1 v' m news ∧ w.grownBy w' none := by
        cases A with
        | none =>
          obtain ⟨v', w', h1', h2', h3', _⟩ := run_append_own (P := P) w w.heap.size t ty e i z 1 bytes ht hi hz hsz hby hzs (by decide) (.slice none 0 0) 0 [] (World.ownsRow_nil _ _ _ _) ⟨b2, o2, none⟩ m c2 news (by omega) hnews h1 (by simp only [List.length_nil] at h63; omega) (by simp only [List.length_nil, Nat.zero_add, ← hm] at hb ⊢; exact hb) (Nat.le_refl _)
          simp only [Nat.zero_add, List.nil_append] at h2'
          exact ⟨v', w', h1', h2', h3'⟩
        | some ad =>
          obtain ⟨v', w', h1', h2', h3'⟩ := run_append_arg_grows (P := P) w t ty e i z 1 bytes ht hi hz hsz hby hzs (by decide) ad 0 0 [] rfl (by simp) ⟨b2, o2, none⟩ m c2 news (by omega) hnews (by omega) (by simp only [List.length_nil] at h63; omega) (by simp only [List.length_nil, Nat.zero_add, ← hm] at hb ⊢; exact hb)
          simp only [Nat.zero_add, List.nil_append] at h2'
          exact ⟨v', w', h1', h2', h3'⟩
      obtain ⟨v', w', k1, k2, k3⟩ := key
      obtain ⟨g', cap', rfl, _, _⟩ := k2.form (by omega)
      have ho := (ownsRow_own k2).mono hB
      refine ⟨some ⟨g', 0, none⟩, cap', w', ?_, ?_, ⟨k3.os, k3.tape, k3.output, k3.size, fun k hk _ => k3.block k hk (by simp)⟩⟩
      · rw [k1]; simp [hm]
      · simp only [List.length_nil, Nat.zero_add, List.nil_append, ← hm]; exact ho
    · have hown' : w.ownsRow B e 1 (.slice (some ⟨g, 0, none⟩) n c) n xs := ⟨by omega, .inr ⟨g, c, cur, rfl, hbg, hg, hnc, hcm, by omega, by simpa using htk⟩⟩
      by_cases hc0 : c = 0
      · subst hc0
        obtain rfl : n = 0 := by omega
        have hx : xs = [] := List.eq_nil_of_length_eq_zero (by omega)
        subst hx
        obtain ⟨v', w', k1, k2, k3⟩ := run_append_arg_grows (P := P) w t ty e i z 1 bytes ht hi hz hsz hby hzs (by decide) ⟨g, 0, none⟩ 0 0 [] rfl (by simp) ⟨b2, o2, none⟩ m c2 news (by omega) hnews (by omega) (by simp only [List.length_nil] at h63; omega) (by simp only [List.length_nil, Nat.zero_add, ← hm] at hb ⊢; exact hb)
        simp only [Nat.zero_add, List.nil_append] at k2
        obtain ⟨g', cap', rfl, _, _⟩ := k2.form (by omega)
        have ho := (ownsRow_own k2).mono hB
        refine ⟨some ⟨g', 0, none⟩, cap', w', ?_, ?_, ⟨k3.os, k3.tape, k3.output, k3.size, fun k hk _ => k3.block k hk (by simp)⟩⟩
        · rw [k1]; simp [hm]
        · simp only [List.length_nil, Nat.zero_add, List.nil_append, ← hm]; exact ho
      · obtain ⟨v', w', k1, k2, k3, _, k5⟩ := run_append_own_at (P := P) w B t ty e i z 1 bytes ht hi hz hsz hby hzs (by decide) _ n xs hown' ⟨b2, o2, none⟩ m c2 news (by omega) hnews h1 (by omega) (by rw [hn, hm]; exact hb) hB
        obtain ⟨g', cap', rfl, _, _⟩ := k2.form (by omega)
        obtain ⟨c', rfl⟩ : ∃ c', c = c' + 1 := ⟨c - 1, by omega⟩
        refine ⟨some ⟨g', 0, none⟩, cap', w', ?_, ?_, ?_⟩
        · rw [k1]; simp [hm, hn]
        · rw [← hm, ← hn]; exact ownsRow_own k2
        · exact k3

theorem rowOf_ge {w : World} {B : Nat} {e : TypeId} {v : Value} {xs : List Value} (h : Own w B e v xs) : ∀ k, rowOf v = some k → B ≤ k := by
  obtain ⟨A, n, c, rfl, hn, ⟨rfl, rfl⟩ | ⟨g, cur, rfl, hb, _⟩⟩ := h
  · intro k hk; cases A <;> simp [rowOf] at hk
  · intro k hk
    cases c with
    | zero => simp [rowOf] at hk
    | succ c => simp [rowOf] at hk; omega

section
variable {P : Program} {ops : Array Oper} {rest : List Oper} {o : Oper} {a : Act} {Q : Exit → Act → World → Prop} {w w0 : World}

/-- out = append(out, src...) -/
theorem wpList_app {t e : TypeId} {bytes B : Nat} (he : Elem P t e bytes) {v src : Value} {xs news : List Value} (hown : Own w B e v xs) (hr : Rd w src news) (h1 : ∀ u ∈ news, u.oneCell' = true)
    (hbel : Below B w0 w) (hb : (xs.length + news.length) * bytes ≤ 140737488355328) (h63 : xs.length + news.length ≤ maxLen) (hB : B ≤ w.heap.size)
    {s x : Operand} (hgd : o.guard = none) (ho : o.op = .call { callee := .builtin .append, args := #[s, x], argTypes := #[t, t] }) (hs : a.eval s = v) (hx : a.eval x = src)
    (h : ∀ A c w', Own w' B e (.slice A (xs.length + news.length) c) (xs ++ news) → Below B w0 w' → w.grownBy w' (rowOf v) → wpList P ops Q rest (a.put o.dst (.slice A (xs.length + news.length) c)) w') : wpList P ops Q (o :: rest) a w :=
  wpList_plain hgd fun _ hK => by
    obtain ⟨A, c, w', hrun, h2, h3⟩ := run_app (P := P) (ty := o.type) he hown hr h1 hb h63 hB
    unfold Oper.wp execOp
    simp only [ho, resolve, invoke, builtin, Sem.run_bind, Sem.run_pure, Result.andThen_ok, List.map_toArray, List.map_cons, List.map_nil, hs, hx, hrun]
    exact hK _ _ (h A c w' h2 (hbel.grown h3 hB (rowOf_ge hown)) h3)

/-- src = []T{x, ..}, then out = append(out, src...) -/
theorem Rd.lit (w : World) (cs : Array Value) (e : TypeId) (n : Nat) (hn : n = cs.size) (hm : n ≤ maxLen) : Rd (w.alloc (.cells cs e)) (.slice (some ⟨w.heap.size, 0, none⟩) n n) cs.toList := by
  refine ⟨_, n, n, rfl, by simpa using hn, Nat.le_refl _, hm, fun _ => ⟨_, 0, rfl, fun j u hu => ?_⟩⟩
  rw [Nat.zero_add, cell_of_row _ _ j cs e (0, 0) (heap_alloc_new w _)]
  simpa using hu
theorem Own.lit (w : World) (cs : Array Value) (e : TypeId) (n : Nat) (hn : n = cs.size) (hm : n ≤ maxLen) : Own (w.alloc (.cells cs e)) w.heap.size e (.slice (some ⟨w.heap.size, 0, none⟩) n n) cs.toList :=
  ⟨_, n, n, rfl, by simpa using hn, .inr ⟨_, cs, rfl, Nat.le_refl _, heap_alloc_new w _, Nat.le_refl _, hm, hn.symm, by rw [hn, ← Array.length_toList]; exact List.take_length⟩⟩
theorem Rd.cut {xs : List Value} (i j : Nat) {A : Option Addr} {n c : Nat} (h : Rd w (.slice A n c) xs) (hij : i ≤ j) (hj : j ≤ xs.length) :
    Rd w (.slice (if c = i then A else A.map (·.add i)) (j - i) (c - i)) ((xs.drop i).take (j - i)) := by
  obtain ⟨A', n', c', hv, hn, hnc, hcm, hcells⟩ := h
  injection hv with hA hn' hc'
  subst hA hn' hc'
  refine ⟨_, _, _, rfl, by simp; omega, by omega, by omega, fun h0 => ?_⟩
  obtain ⟨b, o, rfl, hc⟩ := hcells (by omega)
  by_cases hci : c = i
  · omega
  · refine ⟨b, o + i, by simp [hci, Addr.add_lit], fun k u hu => ?_⟩
    rw [List.getElem?_take] at hu
    split at hu
    · rw [List.getElem?_drop] at hu
      have := hc (i + k) u hu
      rwa [← Nat.add_assoc] at this
    · cases hu
end

theorem Below.drewN_ {B : Nat} {a w : World} (h : Below B a w) (n : Nat) : Below B a (w.drewN n) := ⟨h.os, h.tape, h.output, h.size, h.block⟩
theorem Ext.drewN_ (w : World) (n : Nat) : Ext w (w.drewN n) := Below.drewN_ (Below.refl _ _) n
theorem take_snoc_eq {α : Type} {xs ys : List α} {k : Nat} (h : xs.take k = ys.take k) (h1 : k < xs.length) (h2 : k < ys.length) (he : xs[k] = ys[k]) : xs.take (k + 1) = ys.take (k + 1) := by
  rw [List.take_succ_eq_append_getElem h1, List.take_succ_eq_append_getElem h2, h, he]
theorem take_all {α : Type} {xs ys : List α} {k : Nat} (h : xs.take k = ys.take k) (h1 : xs.length ≤ k) (h2 : xs.length = ys.length) : xs = ys := by
  rwa [List.take_of_length_le h1, List.take_of_length_le (by omega)] at h

/-! ### Bytes -/
/-- A byte as a cell. -/
def bv (b : UInt8) : Value := .int .u8 (b.toNat : Int)
def bvs (l : List UInt8) : List Value := l.map bv
theorem bvs_length (l : List UInt8) : (bvs l).length = l.length := by simp [bvs]
theorem bvs_append (l m : List UInt8) : bvs l ++ bvs m = bvs (l ++ m) := by simp [bvs]
theorem bvs_get {l : List UInt8} {j : Nat} {u : Value} (h : (bvs l)[j]? = some u) : ∃ hj : j < l.length, u = .int .u8 (l[j].toNat : Int) := by
  simp only [bvs, List.getElem?_map, Option.map_eq_some_iff] at h
  obtain ⟨x, hx, rfl⟩ := h
  obtain ⟨hj, rfl⟩ := List.getElem?_eq_some_iff.1 hx
  exact ⟨hj, rfl⟩
theorem bvs_at {l : List UInt8} {j : Nat} (h : j < l.length) : (bvs l)[j]? = some (.int .u8 (l[j].toNat : Int)) := by simp [bvs, bv, h]
theorem bvs_one (l : List UInt8) : ∀ u ∈ bvs l, u.oneCell' = true := by
  intro u hu
  obtain ⟨x, _, rfl⟩ := List.mem_map.1 hu
  rfl
/-- The byte of a number. -/
def u8 (z : Int) : UInt8 := UInt8.ofNat (z % 256).toNat
theorem u8_val (z : Int) : ((u8 z).toNat : Int) = z % 256 := by
  unfold u8
  have h : (z % 256).toNat < 256 := by omega
  rw [UInt8.toNat_ofNat']
  simp only [Nat.reducePow]
  omega
theorem bv_u8 (z : Int) : bv (u8 z) = .int .u8 (z % 256) := by unfold bv; rw [u8_val]
/-- Four bytes of a word. -/
def be4 (x : Int) : List UInt8 := [u8 (x / 16777216), u8 (x / 65536), u8 (x / 256), u8 x]
theorem bvs_be4 (x : Int) : bvs (be4 x) = [.int .u8 (x / 16777216 % 256), .int .u8 (x / 65536 % 256), .int .u8 (x / 256 % 256), .int .u8 (x % 256)] := by
  simp [bvs, be4, bv_u8]
/-- Byte number i as a number. -/
def byteI (l : List UInt8) (i : Nat) : Int := ((l.getD i 0).toNat : Int)
theorem byteI_lo (l : List UInt8) (i : Nat) : 0 ≤ byteI l i := by unfold byteI; omega
theorem byteI_hi (l : List UInt8) (i : Nat) : byteI l i < 256 := by unfold byteI; have := UInt8.toNat_lt (l.getD i 0); omega
theorem byteI_get {l : List UInt8} {i : Nat} (h : i < l.length) : byteI l i = (l[i].toNat : Int) := by unfold byteI; simp [List.getD_eq_getElem?_getD, h]
theorem byteI_inj {l m : List UInt8} {i : Nat} (h1 : i < l.length) (h2 : i < m.length) (h : byteI l i = byteI m i) : l[i] = m[i] := by
  rw [byteI_get h1, byteI_get h2] at h
  exact UInt8.toNat_inj.1 (by omega)
/-- What a slice of bytes that came in looks like. -/
theorem Rd.bytes {w : World} {v : Value} {l : List UInt8} (h : Rd w v (bvs l)) : ∃ A n c, v = .slice A n c ∧ n = l.length ∧ n ≤ c ∧ c ≤ maxLen ∧
    (0 < n → ∃ b o, A = some ⟨b, o, none⟩ ∧ b < w.heap.size ∧ ∀ j, j < n → w.cell? ⟨b, o + j, none⟩ = some (.int .u8 (byteI l j))) := by
  obtain ⟨A, n, c, rfl, hn, hnc, hcm, hc⟩ := h
  rw [bvs_length] at hn
  refine ⟨A, n, c, rfl, hn, hnc, hcm, fun h0 => ?_⟩
  obtain ⟨b, o, rfl, hcell⟩ := hc h0
  have hall : ∀ j, j < n → w.cell? ⟨b, o + j, none⟩ = some (.int .u8 (byteI l j)) := fun j hj => by
    rw [byteI_get (hn ▸ hj)]
    exact hcell j _ (bvs_at (hn ▸ hj))
  exact ⟨b, o, rfl, World.block_lt_of_cell? w _ (hall 0 h0), hall⟩
theorem Rd.mkB {w : World} {b o n c : Nat} {l : List UInt8} (hn : n = l.length) (hnc : n ≤ c) (hcm : c ≤ maxLen) (hc : ∀ j, j < n → w.cell? ⟨b, o + j, none⟩ = some (.int .u8 (byteI l j))) :
    Rd w (.slice (some ⟨b, o, none⟩) n c) (bvs l) :=
  ⟨_, n, c, rfl, by rw [bvs_length]; exact hn, hnc, hcm, fun _ => ⟨b, o, rfl, fun j u hu => by
    obtain ⟨hj, rfl⟩ := bvs_get hu
    rw [hc j (hn ▸ hj), byteI_get hj]⟩⟩
theorem byteI_drop (l : List UInt8) (i j : Nat) : byteI (l.drop i) j = byteI l (i + j) := by unfold byteI; simp [List.getD_eq_getElem?_getD]
/-- The slice reads as numbers of kind k. -/
def RdI (w : World) (k : IntKind) (v : Value) (l : List Int) : Prop := Rd w v (l.map (Value.int k))
theorem RdI.ints {w : World} {k : IntKind} {v : Value} {l : List Int} (h : RdI w k v l) : ∃ A n c, v = .slice A n c ∧ n = l.length ∧ n ≤ c ∧ c ≤ maxLen ∧
    (0 < n → ∃ b o, A = some ⟨b, o, none⟩ ∧ b < w.heap.size ∧ ∀ j, j < n → w.cell? ⟨b, o + j, none⟩ = some (.int k (l.getD j 0))) := by
  obtain ⟨A, n, c, rfl, hn, hnc, hcm, hc⟩ := h
  rw [List.length_map] at hn
  refine ⟨A, n, c, rfl, hn, hnc, hcm, fun h0 => ?_⟩
  obtain ⟨b, o, rfl, hcell⟩ := hc h0
  have hall : ∀ j, j < n → w.cell? ⟨b, o + j, none⟩ = some (.int k (l.getD j 0)) := fun j hj => hcell j _ (by
    rw [List.getElem?_map, List.getElem?_eq_getElem (hn ▸ hj)]
    simp [List.getD_eq_getElem?_getD, hn ▸ hj])
  exact ⟨b, o, rfl, World.block_lt_of_cell? w _ (hall 0 h0), hall⟩
/-- A call that returns new bytes. -/
def RetB (w : World) (l : List UInt8) (e : Ending) (w' : World) : Prop :=
  ∃ A n c, e = .returned (.slice A n c) ∧ Hid (n = l.length) ∧ Own w' w.heap.size 5 (.slice A n c) (bvs l) ∧ Ext w w'
/-- A call that only reckons. -/
def RetQ (w : World) (v : Value) (e : Ending) (w' : World) : Prop := e = .returned v ∧ Ext w w'
end Go.Proofs.YtkjplpmogfmhkaaGreatDoor
