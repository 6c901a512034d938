/- Parts Kit S Sha Nm Kk Fl of the proof. -/
import Derived.WalkKit
import Derived.Handy
import Derived.Maps.AppendAt
import Derived.Lib.Hide
import Derived.Deep.AppendLies
import Derived.Deep.Draws
namespace Go.Proofs.YthbpdhanljpigaaGreatDoor
open Go.RowKit
/-- w' is w with new blocks: all that was there is as it was. -/
abbrev Ext (w w' : World) : Prop := Below w.heap.size w w'
theorem Ext.tr {a b c : World} (h : Ext a b) (k : Ext b c) : Ext a c := h.trans (k.mono h.size)

/-- The slice value v reads as the list xs (one cell an element). -/
def Rd (w : World) (v : Value) (xs : List Value) : Prop :=
  ∃ A n c, v = .slice A n c ∧ n = xs.length ∧ n ≤ c ∧ c ≤ maxLen ∧
    (0 < n → ∃ b o, A = some ⟨b, o, none⟩ ∧ ∀ j u, xs[j]? = some u → w.cell? ⟨b, o + j, none⟩ = some u)

/-- The slice value v reads as xs, and what it can be appended to in place is a block from B on that nobody else reads: it may be appended to. -/
def Own (w : World) (B : Nat) (e : TypeId) (v : Value) (xs : List Value) : Prop :=
  ∃ A n c, v = .slice A n c ∧ n = xs.length ∧
    ((n = 0 ∧ c = 0) ∨ ∃ g cur, A = some ⟨g, 0, none⟩ ∧ B ≤ g ∧ w.heap[g]? = some (.cells cur e (0, 0)) ∧ n ≤ c ∧ c ≤ maxLen ∧ cur.size = c ∧ cur.toList.take n = xs)

/-- How many elements a slice has: for a loop's measure. -/
def lenV : Value → Nat | .slice _ n _ => n | _ => 0

/-- The block that an append onto v may write. -/
def rowOf : Value → Option Nat
  | .slice (some a) _ (_ + 1) => some a.block
  | _ => none

theorem Rd.nil_ (w : World) : Rd w (.slice none 0 0) [] := ⟨none, 0, 0, rfl, rfl, Nat.le_refl _, by unfold maxLen; omega, fun h => absurd h (by omega)⟩
theorem Own.nil_ (w : World) (B : Nat) (e : TypeId) : Own w B e (.slice none 0 0) [] := ⟨none, 0, 0, rfl, rfl, .inl ⟨rfl, rfl⟩⟩
theorem Own.empty (w : World) (B : Nat) (e : TypeId) (A : Option Addr) : Own w B e (.slice A 0 0) [] := ⟨A, 0, 0, rfl, rfl, .inl ⟨rfl, rfl⟩⟩

theorem block_lt {w : World} {g : Nat} {o : Obj} (h : w.heap[g]? = some o) : g < w.heap.size := (Array.getElem?_eq_some_iff.1 h).1

theorem Own.rd {w : World} {B : Nat} {e : TypeId} {v : Value} {xs : List Value} (h : Own w B e v xs) : Rd w v xs := by
  obtain ⟨A, n, c, rfl, hn, h | ⟨g, cur, rfl, hB, hg, hnc, hcm, hcs, ht⟩⟩ := h
  · obtain ⟨rfl, rfl⟩ := h
    exact ⟨A, 0, 0, rfl, hn, Nat.le_refl _, by unfold maxLen; omega, fun h => absurd h (by omega)⟩
  · refine ⟨_, n, c, rfl, hn, hnc, hcm, fun _ => ⟨g, 0, rfl, fun j u hu => ?_⟩⟩
    rw [Nat.zero_add, cell_of_row w g j cur e (0, 0) hg]
    rw [← ht, List.getElem?_take] at hu
    split at hu
    · simpa using hu
    · cases hu

theorem Rd.keep {w w' : World} {v : Value} {xs : List Value} (h : Rd w v xs) (hk : ∀ p : Addr, p.block < w.heap.size → w'.cell? p = w.cell? p) : Rd w' v xs := by
  obtain ⟨A, n, c, rfl, hn, hnc, hcm, hc0⟩ := h
  refine ⟨A, n, c, rfl, hn, hnc, hcm, fun h0 => ?_⟩
  obtain ⟨b, o, rfl, hc⟩ := hc0 h0
  exact ⟨b, o, rfl, fun j u hu => (hk _ (World.block_lt_of_cell? w _ (hc j u hu))).trans (hc j u hu)⟩
theorem Rd.ext {w w' : World} {v : Value} {xs : List Value} (h : Rd w v xs) (hb : Ext w w') : Rd w' v xs := h.keep fun _ hp => hb.cell hp
/-- What lay below B when the call began still reads so. -/
theorem Rd.below {w0 w : World} {v : Value} {xs : List Value} (h : Rd w0 v xs) (hb : Below w0.heap.size w0 w) : Rd w v xs := h.keep fun _ hp => hb.cell hp

theorem Own.mono {w : World} {B B' : Nat} {e : TypeId} {v : Value} {xs : List Value} (h : Own w B e v xs) (hB : B' ≤ B) : Own w B' e v xs := by
  obtain ⟨A, n, c, rfl, hn, h | ⟨g, cur, rfl, h1, hr⟩⟩ := h
  · exact ⟨A, n, c, rfl, hn, .inl h⟩
  · exact ⟨_, n, c, rfl, hn, .inr ⟨g, cur, rfl, Nat.le_trans hB h1, hr⟩⟩
theorem Own.ext {w w' : World} {B : Nat} {e : TypeId} {v : Value} {xs : List Value} (h : Own w B e v xs) (hb : Ext w w') : Own w' B e v xs := by
  obtain ⟨A, n, c, rfl, hn, h | ⟨g, cur, rfl, h1, hg, hr⟩⟩ := h
  · exact ⟨A, n, c, rfl, hn, .inl h⟩
  · exact ⟨_, n, c, rfl, hn, .inr ⟨g, cur, rfl, h1, (hb.block g (block_lt hg)).trans hg, hr⟩⟩
theorem Own.grown {w w' : World} {B : Nat} {e : TypeId} {v : Value} {xs : List Value} {row : Option Nat} (h : Own w B e v xs) (hg : w.grownBy w' row) (hne : rowOf v = none ∨ rowOf v ≠ row) : Own w' B e v xs := by
  obtain ⟨A, n, c, rfl, hn, h | ⟨g, cur, rfl, h1, hgg, hnc, hr⟩⟩ := h
  · exact ⟨A, n, c, rfl, hn, .inl h⟩
  · by_cases hc0 : c = 0
    · subst hc0
      exact ⟨_, n, 0, rfl, hn, .inl ⟨by omega, rfl⟩⟩
    · refine ⟨_, n, c, rfl, hn, .inr ⟨g, cur, rfl, h1, (hg.block g (block_lt hgg) ?_).trans hgg, hnc, hr⟩⟩
      obtain ⟨c', rfl⟩ : ∃ c', c = c' + 1 := ⟨c - 1, by omega⟩
      rcases hne with h | h
      · simp [rowOf] at h
      · simpa [rowOf] using h

/-- The element type's row of the table: one cell, so many bytes. -/
structure Elem (P : Program) (t e : TypeId) (bytes : Nat) : Prop where
  ex : ∃ i z, P.underlying t = some (.slice e) ∧ P.info? e = some i ∧ i.zero = some z ∧ i.size = 1 ∧ i.bytes = bytes ∧ z.cells.size = 1

theorem append_none {P : Program} {w : World} {t ty e : TypeId} {i : TypeInfo} (ht : P.underlying t = some (.slice e)) (hi : P.info? e = some i) (A A2 : Option Addr) (n c c2 : Nat) (hnc : n ≤ c) :
    (Builtin.append_ #[t, t] ty #[.slice A n c, .slice A2 0 c2]).run P w = .ok (.slice A n c) w := by
  cases A <;> cases A2 <;> simp [Builtin.append_, run_underlying ht, sizeOf, typeInfo, hi, Builtin.lenOf, Builtin.firstCells, loadCells, loadCellsFrom, hnc, storeCells]

theorem ownsRow_own {w : World} {base : Nat} {e : TypeId} {v : Value} {n : Nat} {xs : List Value} (h : w.ownsRow base e 1 v n xs) : Own w base e v xs := by
  have hl := h.1
  rcases h.2 with ⟨rfl, rfl⟩ | ⟨g, cap, cur, rfl, hb, hg, hnc, hcm, hcs, ht⟩
  · have : xs = [] := List.eq_nil_of_length_eq_zero (by simpa using hl)
    subst this
    exact Own.nil_ _ _ _
  · exact ⟨_, n, cap, rfl, by omega, .inr ⟨g, cur, rfl, hb, hg, hnc, hcm, by omega, by simpa using ht⟩⟩

theorem run_app {P : Program} {w : World} {t ty e : TypeId} {bytes B : Nat} (he : Elem P t e bytes) {v src : Value} {xs news : List Value} (hown : Own w B e v xs) (hr : Rd w src news) (h1 : ∀ u ∈ news, u.oneCell' = true)
    (hb : (xs.length + news.length) * bytes ≤ 140737488355328) (h63 : xs.length + news.length ≤ maxLen) (hB : B ≤ w.heap.size) :
    ∃ A c w', (Builtin.append_ #[t, t] ty #[v, src]).run P w = .ok (.slice A (xs.length + news.length) c) w' ∧ Own w' B e (.slice A (xs.length + news.length) c) (xs ++ news) ∧ w.grownBy w' (rowOf v) := by
  obtain ⟨i, z, ht, hi, hz, hsz, hby, hzs⟩ := he.ex
  obtain ⟨A, n, c, rfl, hn, hcase⟩ := hown
  obtain ⟨A2, m, c2, rfl, hm, hmc, hcm2, hcells⟩ := hr
  by_cases hm0 : m = 0
  · subst hm0
    have hnil : news = [] := List.eq_nil_of_length_eq_zero (by omega)
    subst hnil
    have hnc : n ≤ c := by
      rcases hcase with h | ⟨g, cur, _, _, _, h, _⟩
      · omega
      · exact h
    refine ⟨A, c, w, ?_, ?_, ⟨rfl, rfl, rfl, Nat.le_refl _, fun _ _ _ => rfl⟩⟩
    · rw [append_none ht hi A A2 n c c2 hnc]; simp [hn]
    · simp only [List.length_nil, Nat.add_zero, List.append_nil, ← hn]
      exact ⟨A, n, c, rfl, hn, hcase⟩
  · obtain ⟨b2, o2, rfl, hc2⟩ := hcells (by omega)
    have hnews : ∀ j u, news[j]? = some u → w.cell? ((⟨b2, o2, none⟩ : Addr).add j) = some u := by
      intro j u hu
      rw [Addr.add_lit]
      exact hc2 j u hu
    rcases hcase with ⟨rfl, rfl⟩ | ⟨g, cur, rfl, hbg, hg, hnc, hcm, hcs, htk⟩
    · have hx : xs = [] := List.eq_nil_of_length_eq_zero (by omega)
      subst hx
      have key : ∃ v' w', (Builtin.append_ #[t, t] ty #[.slice A 0 0, .slice (some ⟨b2, o2, none⟩) m c2]).run P w = .ok v' w' ∧ w'.ownsRow w.heap.size e 1 v' m news ∧ w.grownBy w' none := by
        cases A with
        | none =>
          obtain ⟨v', w', h1', h2', h3', _⟩ := run_append_own (P := P) w w.heap.size t ty e i z 1 bytes ht hi hz hsz hby hzs (by decide) (.slice none 0 0) 0 [] (World.ownsRow_nil _ _ _ _) ⟨b2, o2, none⟩ m c2 news (by omega) hnews h1 (by simp only [List.length_nil] at h63; omega) (by simp only [List.length_nil, Nat.zero_add, ← hm] at hb ⊢; exact hb) (Nat.le_refl _)
          simp only [Nat.zero_add, List.nil_append] at h2'
          exact ⟨v', w', h1', h2', h3'⟩
        | some ad =>
          obtain ⟨v', w', h1', h2', h3'⟩ := run_append_arg_grows (P := P) w t ty e i z 1 bytes ht hi hz hsz hby hzs (by decide) ad 0 0 [] rfl (by simp) ⟨b2, o2, none⟩ m c2 news (by omega) hnews (by omega) (by simp only [List.length_nil] at h63; omega) (by simp only [List.length_nil, Nat.zero_add, ← hm] at hb ⊢; exact hb)
          simp only [Nat.zero_add, List.nil_append] at h2'
          exact ⟨v', w', h1', h2', h3'⟩
      obtain ⟨v', w', k1, k2, k3⟩ := key
      obtain ⟨g', cap', rfl, _, _⟩ := k2.form (by omega)
      have ho := (ownsRow_own k2).mono hB
      refine ⟨some ⟨g', 0, none⟩, cap', w', ?_, ?_, ⟨k3.os, k3.tape, k3.output, k3.size, fun k hk _ => k3.block k hk (by simp)⟩⟩
      · rw [k1]; simp [hm]
      · simp only [List.length_nil, Nat.zero_add, List.nil_append, ← hm]; exact ho
    · have hown' : w.ownsRow B e 1 (.slice (some ⟨g, 0, none⟩) n c) n xs := ⟨by omega, .inr ⟨g, c, cur, rfl, hbg, hg, hnc, hcm, by omega, by simpa using htk⟩⟩
      by_cases hc0 : c = 0
      · subst hc0
        obtain rfl : n = 0 := by omega
        have hx : xs = [] := List.eq_nil_of_length_eq_zero (by omega)
        subst hx
        obtain ⟨v', w', k1, k2, k3⟩ := run_append_arg_grows (P := P) w t ty e i z 1 bytes ht hi hz hsz hby hzs (by decide) ⟨g, 0, none⟩ 0 0 [] rfl (by simp) ⟨b2, o2, none⟩ m c2 news (by omega) hnews (by omega) (by simp only [List.length_nil] at h63; omega) (by simp only [List.length_nil, Nat.zero_add, ← hm] at hb ⊢; exact hb)
        simp only [Nat.zero_add, List.nil_append] at k2
        obtain ⟨g', cap', rfl, _, _⟩ := k2.form (by omega)
        have ho := (ownsRow_own k2).mono hB
        refine ⟨some ⟨g', 0, none⟩, cap', w', ?_, ?_, ⟨k3.os, k3.tape, k3.output, k3.size, fun k hk _ => k3.block k hk (by simp)⟩⟩
        · rw [k1]; simp [hm]
        · simp only [List.length_nil, Nat.zero_add, List.nil_append, ← hm]; exact ho
      · obtain ⟨v', w', k1, k2, k3, _, k5⟩ := run_append_own_at (P := P) w B t ty e i z 1 bytes ht hi hz hsz hby hzs (by decide) _ n xs hown' ⟨b2, o2, none⟩ m c2 news (by omega) hnews h1 (by omega) (by rw [hn, hm]; exact hb) hB
        obtain ⟨g', cap', rfl, _, _⟩ := k2.form (by omega)
        obtain ⟨c', rfl⟩ : ∃ c', c = c' + 1 := ⟨c - 1, by omega⟩
        refine ⟨some ⟨g', 0, none⟩, cap', w', ?_, ?_, ?_⟩
        · rw [k1]; simp [hm, hn]
        · rw [← hm, ← hn]; exact ownsRow_own k2
        · exact k3

theorem rowOf_ge {w : World} {B : Nat} {e : TypeId} {v : Value} {xs : List Value} (h : Own w B e v xs) : ∀ k, rowOf v = some k → B ≤ k := by
  obtain ⟨A, n, c, rfl, hn, ⟨rfl, rfl⟩ | ⟨g, cur, rfl, hb, _⟩⟩ := h
  · intro k hk; cases A <;> simp [rowOf] at hk
  · intro k hk
    cases c with
    | zero => simp [rowOf] at hk
    | succ c => simp [rowOf] at hk; omega

section
variable {P : Program} {ops : Array Oper} {rest : List Oper} {o : Oper} {a : Act} {Q : Exit → Act → World → Prop} {w w0 : World}

/-- out = append(out, src...) -/
theorem wpList_app {t e : TypeId} {bytes B : Nat} (he : Elem P t e bytes) {v src : Value} {xs news : List Value} (hown : Own w B e v xs) (hr : Rd w src news) (h1 : ∀ u ∈ news, u.oneCell' = true)
    (hbel : Below B w0 w) (hb : (xs.length + news.length) * bytes ≤ 140737488355328) (h63 : xs.length + news.length ≤ maxLen) (hB : B ≤ w.heap.size)
    {s x : Operand} (hgd : o.guard = none) (ho : o.op = .call { callee := .builtin .append, args := #[s, x], argTypes := #[t, t] }) (hs : a.eval s = v) (hx : a.eval x = src)
    (h : ∀ A c w', Own w' B e (.slice A (xs.length + news.length) c) (xs ++ news) → Below B w0 w' → w.grownBy w' (rowOf v) → wpList P ops Q rest (a.put o.dst (.slice A (xs.length + news.length) c)) w') : wpList P ops Q (o :: rest) a w :=
  wpList_plain hgd fun _ hK => by
    obtain ⟨A, c, w', hrun, h2, h3⟩ := run_app (P := P) (ty := o.type) he hown hr h1 hb h63 hB
    unfold Oper.wp execOp
    simp only [ho, resolve, invoke, builtin, Sem.run_bind, Sem.run_pure, Result.andThen_ok, List.map_toArray, List.map_cons, List.map_nil, hs, hx, hrun]
    exact hK _ _ (h A c w' h2 (hbel.grown h3 hB (rowOf_ge hown)) h3)

/-- src = []T{x, ..}, then out = append(out, src...) -/
theorem Rd.lit (w : World) (cs : Array Value) (e : TypeId) (n : Nat) (hn : n = cs.size) (hm : n ≤ maxLen) : Rd (w.alloc (.cells cs e)) (.slice (some ⟨w.heap.size, 0, none⟩) n n) cs.toList := by
  refine ⟨_, n, n, rfl, by simpa using hn, Nat.le_refl _, hm, fun _ => ⟨_, 0, rfl, fun j u hu => ?_⟩⟩
  rw [Nat.zero_add, cell_of_row _ _ j cs e (0, 0) (heap_alloc_new w _)]
  simpa using hu
theorem Own.lit (w : World) (cs : Array Value) (e : TypeId) (n : Nat) (hn : n = cs.size) (hm : n ≤ maxLen) : Own (w.alloc (.cells cs e)) w.heap.size e (.slice (some ⟨w.heap.size, 0, none⟩) n n) cs.toList :=
  ⟨_, n, n, rfl, by simpa using hn, .inr ⟨_, cs, rfl, Nat.le_refl _, heap_alloc_new w _, Nat.le_refl _, hm, hn.symm, by rw [hn, ← Array.length_toList]; exact List.take_length⟩⟩
theorem Rd.cut {xs : List Value} (i j : Nat) {A : Option Addr} {n c : Nat} (h : Rd w (.slice A n c) xs) (hij : i ≤ j) (hj : j ≤ xs.length) :
    Rd w (.slice (if c = i then A else A.map (·.add i)) (j - i) (c - i)) ((xs.drop i).take (j - i)) := by
  obtain ⟨A', n', c', hv, hn, hnc, hcm, hcells⟩ := h
  injection hv with hA hn' hc'
  subst hA hn' hc'
  refine ⟨_, _, _, rfl, by simp; omega, by omega, by omega, fun h0 => ?_⟩
  obtain ⟨b, o, rfl, hc⟩ := hcells (by omega)
  by_cases hci : c = i
  · omega
  · refine ⟨b, o + i, by simp [hci, Addr.add_lit], fun k u hu => ?_⟩
    rw [List.getElem?_take] at hu
    split at hu
    · rw [List.getElem?_drop] at hu
      have := hc (i + k) u hu
      rwa [← Nat.add_assoc] at this
    · cases hu
end
theorem Below.drewN_ {B : Nat} {a w : World} (h : Below B a w) (n : Nat) : Below B a (w.drewN n) := ⟨h.os, h.tape, h.output, h.size, h.block⟩
theorem Ext.drewN_ (w : World) (n : Nat) : Ext w (w.drewN n) := Below.drewN_ (Below.refl _ _) n
theorem take_snoc_eq {α : Type} {xs ys : List α} {k : Nat} (h : xs.take k = ys.take k) (h1 : k < xs.length) (h2 : k < ys.length) (he : xs[k] = ys[k]) : xs.take (k + 1) = ys.take (k + 1) := by
  rw [List.take_succ_eq_append_getElem h1, List.take_succ_eq_append_getElem h2, h, he]
theorem take_all {α : Type} {xs ys : List α} {k : Nat} (h : xs.take k = ys.take k) (h1 : xs.length ≤ k) (h2 : xs.length = ys.length) : xs = ys := by
  rwa [List.take_of_length_le h1, List.take_of_length_le (by omega)] at h

/-! ### Bytes -/
/-- A byte as a cell. -/
def bv (b : UInt8) : Value := .int .u8 (b.toNat : Int)
def bvs (l : List UInt8) : List Value := l.map bv
theorem bvs_length (l : List UInt8) : (bvs l).length = l.length := by simp [bvs]
theorem bvs_append (l m : List UInt8) : bvs l ++ bvs m = bvs (l ++ m) := by simp [bvs]
theorem bvs_get {l : List UInt8} {j : Nat} {u : Value} (h : (bvs l)[j]? = some u) : ∃ hj : j < l.length, u = .int .u8 (l[j].toNat : Int) := by
  simp only [bvs, List.getElem?_map, Option.map_eq_some_iff] at h
  obtain ⟨x, hx, rfl⟩ := h
  obtain ⟨hj, rfl⟩ := List.getElem?_eq_some_iff.1 hx
  exact ⟨hj, rfl⟩
theorem bvs_at {l : List UInt8} {j : Nat} (h : j < l.length) : (bvs l)[j]? = some (.int .u8 (l[j].toNat : Int)) := by simp [bvs, bv, h]
theorem bvs_one (l : List UInt8) : ∀ u ∈ bvs l, u.oneCell' = true := by
  intro u hu
  obtain ⟨x, _, rfl⟩ := List.mem_map.1 hu
  rfl
/-- The byte of a number. -/
def u8 (z : Int) : UInt8 := UInt8.ofNat (z % 256).toNat
theorem u8_val (z : Int) : ((u8 z).toNat : Int) = z % 256 := by
  unfold u8
  have h : (z % 256).toNat < 256 := by omega
  rw [UInt8.toNat_ofNat']
  simp only [Nat.reducePow]
  omega
theorem bv_u8 (z : Int) : bv (u8 z) = .int .u8 (z % 256) := by unfold bv; rw [u8_val]
/-- Four bytes of a word. -/
def be4 (x : Int) : List UInt8 := [u8 (x / 16777216), u8 (x / 65536), u8 (x / 256), u8 x]
theorem bvs_be4 (x : Int) : bvs (be4 x) = [.int .u8 (x / 16777216 % 256), .int .u8 (x / 65536 % 256), .int .u8 (x / 256 % 256), .int .u8 (x % 256)] := by
  simp [bvs, be4, bv_u8]
/-- Byte number i as a number. -/
def byteI (l : List UInt8) (i : Nat) : Int := ((l.getD i 0).toNat : Int)
theorem byteI_lo (l : List UInt8) (i : Nat) : 0 ≤ byteI l i := by unfold byteI; omega
theorem byteI_hi (l : List UInt8) (i : Nat) : byteI l i < 256 := by unfold byteI; have := UInt8.toNat_lt (l.getD i 0); omega
theorem byteI_get {l : List UInt8} {i : Nat} (h : i < l.length) : byteI l i = (l[i].toNat : Int) := by unfold byteI; simp [List.getD_eq_getElem?_getD, h]
theorem byteI_inj {l m : List UInt8} {i : Nat} (h1 : i < l.length) (h2 : i < m.length) (h : byteI l i = byteI m i) : l[i] = m[i] := by
  rw [byteI_get h1, byteI_get h2] at h
  exact UInt8.toNat_inj.1 (by omega)
/-- What a slice of bytes that came in looks like. -/
theorem Rd.bytes {w : World} {v : Value} {l : List UInt8} (h : Rd w v (bvs l)) : ∃ A n c, v = .slice A n c ∧ n = l.length ∧ n ≤ c ∧ c ≤ maxLen ∧
    (0 < n → ∃ b o, A = some ⟨b, o, none⟩ ∧ b < w.heap.size ∧ ∀ j, j < n → w.cell? ⟨b, o + j, none⟩ = some (.int .u8 (byteI l j))) := by
  obtain ⟨A, n, c, rfl, hn, hnc, hcm, hc⟩ := h
  rw [bvs_length] at hn
  refine ⟨A, n, c, rfl, hn, hnc, hcm, fun h0 => ?_⟩
  obtain ⟨b, o, rfl, hcell⟩ := hc h0
  have hall : ∀ j, j < n → w.cell? ⟨b, o + j, none⟩ = some (.int .u8 (byteI l j)) := fun j hj => by
    rw [byteI_get (hn ▸ hj)]
    exact hcell j _ (bvs_at (hn ▸ hj))
  exact ⟨b, o, rfl, World.block_lt_of_cell? w _ (hall 0 h0), hall⟩
theorem Rd.mkB {w : World} {b o n c : Nat} {l : List UInt8} (hn : n = l.length) (hnc : n ≤ c) (hcm : c ≤ maxLen) (hc : ∀ j, j < n → w.cell? ⟨b, o + j, none⟩ = some (.int .u8 (byteI l j))) :
    Rd w (.slice (some ⟨b, o, none⟩) n c) (bvs l) :=
  ⟨_, n, c, rfl, by rw [bvs_length]; exact hn, hnc, hcm, fun _ => ⟨b, o, rfl, fun j u hu => by
    obtain ⟨hj, rfl⟩ := bvs_get hu
    rw [hc j (hn ▸ hj), byteI_get hj]⟩⟩
theorem byteI_drop (l : List UInt8) (i j : Nat) : byteI (l.drop i) j = byteI l (i + j) := by unfold byteI; simp [List.getD_eq_getElem?_getD]
/-- The slice reads as numbers of kind k. -/
def RdI (w : World) (k : IntKind) (v : Value) (l : List Int) : Prop := Rd w v (l.map (Value.int k))
theorem RdI.ints {w : World} {k : IntKind} {v : Value} {l : List Int} (h : RdI w k v l) : ∃ A n c, v = .slice A n c ∧ n = l.length ∧ n ≤ c ∧ c ≤ maxLen ∧
    (0 < n → ∃ b o, A = some ⟨b, o, none⟩ ∧ b < w.heap.size ∧ ∀ j, j < n → w.cell? ⟨b, o + j, none⟩ = some (.int k (l.getD j 0))) := by
  obtain ⟨A, n, c, rfl, hn, hnc, hcm, hc⟩ := h
  rw [List.length_map] at hn
  refine ⟨A, n, c, rfl, hn, hnc, hcm, fun h0 => ?_⟩
  obtain ⟨b, o, rfl, hcell⟩ := hc h0
  have hall : ∀ j, j < n → w.cell? ⟨b, o + j, none⟩ = some (.int k (l.getD j 0)) := fun j hj => hcell j _ (by
    rw [List.getElem?_map, List.getElem?_eq_getElem (hn ▸ hj)]
    simp [List.getD_eq_getElem?_getD, hn ▸ hj])
  exact ⟨b, o, rfl, World.block_lt_of_cell? w _ (hall 0 h0), hall⟩
/-- A call that returns new bytes. -/
def RetB (w : World) (l : List UInt8) (e : Ending) (w' : World) : Prop :=
  ∃ A n c, e = .returned (.slice A n c) ∧ Hid (n = l.length) ∧ Own w' w.heap.size 5 (.slice A n c) (bvs l) ∧ Ext w w'
/-- A call that only reckons. -/
def RetQ (w : World) (v : Value) (e : Ending) (w' : World) : Prop := e = .returned v ∧ Ext w w'
end Go.Proofs.YthbpdhanljpigaaGreatDoor
namespace Go.Proofs.YthbpdhanljpigaaGreatDoor
set_option linter.unusedVariables false
/-- How many zeros stand in the padding of n bytes. -/
def zeros (n : Nat) : Nat := (119 - n % 64) % 64
theorem zeros_lt (n : Nat) : zeros n < 64 := by unfold zeros; omega
theorem zeros_hit {n k : Nat} (h : k ≤ zeros n) : (n + 1 + k) % 64 = 56 ↔ k = zeros n := by unfold zeros at *; omega
/-- Eight bytes of a number. -/
def be8 (n : Int) : List UInt8 := (List.range 8).map fun k => u8 (n / 2 ^ (8 * (7 - k)))
theorem be8_length (n : Int) : (be8 n).length = 8 := by simp [be8]
/-- Bytes with their padding. -/
def pad (l : List UInt8) : List UInt8 := l ++ [128] ++ List.replicate (zeros l.length) 0 ++ be8 (8 * (l.length : Int))
theorem pad_length (l : List UInt8) : (pad l).length = l.length + 1 + zeros l.length + 8 := by simp [pad, be8_length]; omega
theorem pad_mod (l : List UInt8) : (pad l).length % 64 = 0 := by rw [pad_length]; unfold zeros; omega
theorem rep_snoc (l : List UInt8) (k : Nat) : l ++ List.replicate k 0 ++ [0] = l ++ List.replicate (k + 1) (0 : UInt8) := by
  rw [List.append_assoc, ← List.replicate_succ']
theorem be4_be8 (n : Int) : be4 (n / 4294967296) ++ be4 (n % 4294967296) = be8 n := by
  have hk : ∀ a b : Int, a % 256 = b % 256 → u8 a = u8 b := fun a b h => by unfold u8; rw [h]
  simp only [be4, be8, List.range, List.range.loop, List.map_cons, List.map_nil, List.cons_append, List.nil_append, List.cons.injEq, and_true]
  refine ⟨?_, ?_, ?_, ?_, ?_, ?_, ?_, ?_⟩ <;> (apply hk; simp only [Nat.reduceSub, Nat.reduceMul, Int.reducePow]; try omega)
end Go.Proofs.YthbpdhanljpigaaGreatDoor
namespace Go.Proofs.YthbpdhanljpigaaGreatDoor
open Go
set_option linter.unusedVariables false
def word4 (a b c d : Int) : Int := bits .or .u32 (bits .or .u32 (bits .or .u32 (a * 16777216) (b * 65536)) (c * 256)) d
def wordAt (l : List UInt8) (i : Nat) : Int := word4 (byteI l i) (byteI l (i + 1)) (byteI l (i + 2)) (byteI l (i + 3))

theorem wordAt_drop (l : List UInt8) (i : Nat) : wordAt (l.drop i) 0 = wordAt l i := by simp only [wordAt, byteI_drop, Nat.add_zero, Nat.zero_add]

def rotr (x n : Int) : Int := bits .or .u32 (x / 2 ^ n.toNat) (x * 2 ^ (32 - n).toNat % 4294967296)
def sm0 (x : Int) : Int := bits .xor .u32 (bits .xor .u32 (rotr x 7) (rotr x 18)) (x / 8)
def sm1 (x : Int) : Int := bits .xor .u32 (bits .xor .u32 (rotr x 17) (rotr x 19)) (x / 1024)
def bg0 (x : Int) : Int := bits .xor .u32 (bits .xor .u32 (rotr x 2) (rotr x 13)) (rotr x 22)
def bg1 (x : Int) : Int := bits .xor .u32 (bits .xor .u32 (rotr x 6) (rotr x 11)) (rotr x 25)
/-- A word of the schedule out of four before it. -/
def nextW (y w7 x w16 : Int) : Int := (sm1 y + w7 + sm0 x + w16) % 4294967296
/-- The first t words of the schedule. -/
def sched (l : List UInt8) : Nat → List Int
  | 0 => []
  | t + 1 => sched l t ++ [if t < 16 then wordAt l (4 * t) else nextW ((sched l t).getD (t - 2) 0) ((sched l t).getD (t - 7) 0) ((sched l t).getD (t - 15) 0) ((sched l t).getD (t - 16) 0)]
theorem sched_length (l : List UInt8) : ∀ t, (sched l t).length = t
  | 0 => rfl
  | t + 1 => by simp [sched, sched_length l t]
/-- Word number t of the schedule. -/
def schedW (l : List UInt8) (t : Nat) : Int := (sched l 64).getD t 0
theorem sched_prefix (l : List UInt8) (t : Nat) : ∀ k, (sched l (t + k)).take t = sched l t
  | 0 => by rw [Nat.add_zero, List.take_of_length_le (by rw [sched_length]; exact Nat.le_refl _)]
  | k + 1 => by
    rw [← Nat.add_assoc, sched, List.take_append_of_le_length (by rw [sched_length]; omega), sched_prefix l t k]
theorem sched_get (l : List UInt8) {n t : Nat} (hn : n ≤ 64) (ht : t < n) : (sched l n).getD t 0 = schedW l t := by
  unfold schedW
  have h := sched_prefix l n (64 - n)
  rw [show n + (64 - n) = 64 by omega] at h
  rw [← h]
  simp [List.getD_eq_getElem?_getD, ht]
theorem schedW_lo (l : List UInt8) {t : Nat} (ht : t < 16) : schedW l t = wordAt l (4 * t) := by
  rw [← sched_get l (n := t + 1) (by omega) (by omega)]
  simp [sched, List.getD_eq_getElem?_getD, sched_length, ht]
theorem schedW_hi (l : List UInt8) {t : Nat} (h16 : 16 ≤ t) (ht : t < 64) : schedW l t = nextW (schedW l (t - 2)) (schedW l (t - 7)) (schedW l (t - 15)) (schedW l (t - 16)) := by
  rw [← sched_get l (n := t + 1) (by omega) (by omega)]
  have e : (sched l (t + 1)).getD t 0 = nextW ((sched l t).getD (t - 2) 0) ((sched l t).getD (t - 7) 0) ((sched l t).getD (t - 15) 0) ((sched l t).getD (t - 16) 0) := by
    simp only [sched, List.getD_eq_getElem?_getD]
    rw [List.getElem?_append_right (by rw [sched_length]; exact Nat.le_refl _), sched_length]
    simp [show ¬ t < 16 by omega]
  rw [e, sched_get l (by omega) (by omega), sched_get l (by omega) (by omega), sched_get l (by omega) (by omega), sched_get l (by omega) (by omega)]

/-- The constants of the rounds. -/
def kTab : List Int := [1116352408, 1899447441, 3049323471, 3921009573, 961987163, 1508970993, 2453635748, 2870763221, 3624381080, 310598401, 607225278, 1426881987, 1925078388, 2162078206, 2614888103, 3248222580, 3835390401, 4022224774, 264347078, 604807628, 770255983, 1249150122, 1555081692, 1996064986, 2554220882, 2821834349, 2952996808, 3210313671, 3336571891, 3584528711, 113926993, 338241895, 666307205, 773529912, 1294757372, 1396182291, 1695183700, 1986661051, 2177026350, 2456956037, 2730485921, 2820302411, 3259730800, 3345764771, 3516065817, 3600352804, 4094571909, 275423344, 430227734, 506948616, 659060556, 883997877, 958139571, 1322822218, 1537002063, 1747873779, 1955562222, 2024104815, 2227730452, 2361852424, 2428436474, 2756734187, 3204031479, 3329325298]
def kAt (t : Nat) : Int := kTab.getD t 0

/-- The eight words of a round. -/
structure S8 where
  a : Int
  b : Int
  c : Int
  d : Int
  e : Int
  f : Int
  g : Int
  h : Int
def chF (e f g : Int) : Int := bits .xor .u32 (bits .and .u32 e f) (bits .and .u32 (bits .xor .u32 IntKind.u32.max e) g)
def mjF (a b c : Int) : Int := bits .xor .u32 (bits .xor .u32 (bits .and .u32 a b) (bits .and .u32 a c)) (bits .and .u32 b c)
def t1F (s : S8) (k w : Int) : Int := s.h + bg1 s.e + chF s.e s.f s.g + k + w
def t2F (s : S8) : Int := bg0 s.a + mjF s.a s.b s.c
def roundF (s : S8) (k w : Int) : S8 := ⟨(t1F s k w + t2F s) % 4294967296, s.a, s.b, s.c, (s.d + t1F s k w) % 4294967296, s.e, s.f, s.g⟩
def roundsF (l : List UInt8) (s : S8) : Nat → S8
  | 0 => s
  | t + 1 => roundF (roundsF l s t) (kAt t) (schedW l t)
def s8of (s : List Int) : S8 := ⟨s.getD 0 0, s.getD 1 0, s.getD 2 0, s.getD 3 0, s.getD 4 0, s.getD 5 0, s.getD 6 0, s.getD 7 0⟩
/-- The state behind a block. -/
def comp (s : List Int) (l : List UInt8) : List Int :=
  let r := roundsF l (s8of s) 64
  [(s.getD 0 0 + r.a) % 4294967296, (s.getD 1 0 + r.b) % 4294967296, (s.getD 2 0 + r.c) % 4294967296, (s.getD 3 0 + r.d) % 4294967296, (s.getD 4 0 + r.e) % 4294967296, (s.getD 5 0 + r.f) % 4294967296, (s.getD 6 0 + r.g) % 4294967296, (s.getD 7 0 + r.h) % 4294967296]
def start8 : List Int := [1779033703, 3144134277, 1013904242, 2773480762, 1359893119, 2600822924, 528734635, 1541459225]
/-- The state behind k blocks of p. -/
def states (p : List UInt8) : Nat → List Int
  | 0 => start8
  | k + 1 => comp (states p k) ((p.drop (64 * k)).take 64)
theorem states_length (p : List UInt8) : ∀ k, (states p k).length = 8
  | 0 => rfl
  | k + 1 => rfl
def bytes8 (s : List Int) : List UInt8 := (s.map be4).flatten
/-- The digest. -/
def sha (l : List UInt8) : List UInt8 := bytes8 (states (pad l) ((pad l).length / 64))
end Go.Proofs.YthbpdhanljpigaaGreatDoor
namespace Go.Proofs.YthbpdhanljpigaaGreatDoor
set_option linter.unusedVariables false
/-- The number that bytes stand for. -/
def num (l : List UInt8) : Int := l.foldl (fun n c => 256 * n + (c.toNat : Int)) 0
theorem num_snoc (l : List UInt8) (c : UInt8) : num (l ++ [c]) = 256 * num l + (c.toNat : Int) := by simp [num]
theorem num_step {l : List UInt8} {k : Nat} (h : k < l.length) : num (l.take (k + 1)) = 256 * num (l.take k) + byteI l k := by
  rw [List.take_succ_eq_append_getElem h, num_snoc, byteI_get h]
theorem num_bd : ∀ (k : Nat) (l : List UInt8), l.length = k → 0 ≤ num l ∧ num l < 256 ^ k
  | 0, l, h => by
    obtain rfl := List.eq_nil_of_length_eq_zero h
    decide
  | k + 1, l, h => by
    have hl : l = l.take k ++ [l[k]] := by
      rw [← List.take_succ_eq_append_getElem (by omega), List.take_of_length_le (by omega)]
    have h2 := num_bd k (l.take k) (by rw [List.length_take]; omega)
    have h3 : ((l[k].toNat : Nat) : Int) < 256 := by have := UInt8.toNat_lt l[k]; omega
    rw [hl, num_snoc, Int.pow_succ]
    generalize num (l.take k) = x at *
    generalize (256 : Int) ^ k = y at *
    omega
theorem num_bd7 {l : List UInt8} (h : l.length ≤ 7) : 0 ≤ num l ∧ num l < 72057594037927936 := by
  obtain ⟨h1, h2⟩ := num_bd _ l rfl
  refine ⟨h1, Int.lt_of_lt_of_le h2 ?_⟩
  have : ∀ k, k ≤ 7 → (256 : Int) ^ k ≤ 72057594037927936 := by decide
  exact this _ h
theorem num_lt (l : List UInt8) (k : Nat) (hk : k ≤ 6) (h : l.length ≤ 7) : 0 ≤ num (l.take k) ∧ num (l.take k) < 281474976710656 := by
  obtain ⟨h1, h2⟩ := num_bd _ (l.take k) rfl
  refine ⟨h1, Int.lt_of_lt_of_le h2 ?_⟩
  have : ∀ k, k ≤ 6 → (256 : Int) ^ k ≤ 281474976710656 := by decide
  exact this _ (by rw [List.length_take]; omega)
theorem i64_or_nat (a b : Nat) (ha : a < 9223372036854775808) (hb : b < 9223372036854775808) : bits .or .i64 (a : Int) (b : Int) = ((a ||| b : Nat) : Int) := by
  have hx : a ||| b < 2 ^ 63 := Nat.or_lt_two_pow (by omega) (by omega)
  have e : ∀ c : Nat, c < 9223372036854775808 → (BitVec.ofInt 64 (c : Int)).toNat = c := fun c hc => by
    rw [BitVec.ofInt_natCast, BitVec.toNat_ofNat]; exact Nat.mod_eq_of_lt (by omega)
  show IntKind.i64.wrap ((BitVec.ofInt 64 (a : Int) ||| BitVec.ofInt 64 (b : Int)).toNat : Int) = _
  rw [BitVec.toNat_or, e a ha, e b hb, IntKind.wrap_i64]
  omega
theorem or_low {x y : Int} (hx : 0 ≤ x) (hx2 : x < 281474976710656) (hy : 0 ≤ y) (hy2 : y < 256) : bits .or .i64 (x * 256) y = 256 * x + y := by
  obtain ⟨a, rfl⟩ := Int.eq_ofNat_of_zero_le hx
  obtain ⟨b, rfl⟩ := Int.eq_ofNat_of_zero_le hy
  have h := i64_or_nat (a * 256) b (by omega) (by omega)
  rw [show ((a * 256 : Nat) : Int) = (a : Int) * 256 by simp] at h
  rw [h, Nat.mul_comm a 256, ← Nat.two_pow_add_eq_or_of_lt (i := 8) (by omega)]
  simp
end Go.Proofs.YthbpdhanljpigaaGreatDoor
namespace Go.Proofs.YthbpdhanljpigaaGreatDoor
open Go.RowKit
set_option linter.unusedVariables false
/-- The slice value v reads as the cells xs, k an element. -/
def RdK (w : World) (k : Nat) (v : Value) (xs : List Value) : Prop :=
  ∃ A n c, v = .slice A n c ∧ n * k = xs.length ∧ n ≤ c ∧ c ≤ maxLen ∧
    (0 < n → ∃ b o, A = some ⟨b, o, none⟩ ∧ ∀ j u, xs[j]? = some u → w.cell? ⟨b, o + j, none⟩ = some u)
def OwnK (w : World) (B : Nat) (e : TypeId) (k : Nat) (v : Value) (xs : List Value) : Prop :=
  ∃ A n c, v = .slice A n c ∧ n * k = xs.length ∧
    ((n = 0 ∧ c = 0) ∨ ∃ g cur, A = some ⟨g, 0, none⟩ ∧ B ≤ g ∧ w.heap[g]? = some (.cells cur e (0, 0)) ∧ n ≤ c ∧ c ≤ maxLen ∧ cur.size = c * k ∧ cur.toList.take (n * k) = xs)
theorem RdK.nil_ (w : World) (k : Nat) (A : Option Addr) : RdK w k (.slice A 0 0) [] := ⟨A, 0, 0, rfl, by simp, Nat.le_refl _, by unfold maxLen; omega, fun h => absurd h (by omega)⟩
theorem OwnK.empty (w : World) (B : Nat) (e : TypeId) (k : Nat) (A : Option Addr) : OwnK w B e k (.slice A 0 0) [] := ⟨A, 0, 0, rfl, by simp, .inl ⟨rfl, rfl⟩⟩
theorem OwnK.rd {w : World} {B : Nat} {e : TypeId} {k : Nat} {v : Value} {xs : List Value} (h : OwnK w B e k v xs) : RdK w k v xs := by
  obtain ⟨A, n, c, rfl, hn, h | ⟨g, cur, rfl, hB, hg, hnc, hcm, hcs, ht⟩⟩ := h
  · obtain ⟨rfl, rfl⟩ := h
    exact ⟨A, 0, 0, rfl, hn, Nat.le_refl _, by unfold maxLen; omega, fun h => absurd h (by omega)⟩
  · refine ⟨_, n, c, rfl, hn, hnc, hcm, fun _ => ⟨g, 0, rfl, fun j u hu => ?_⟩⟩
    rw [Nat.zero_add, cell_of_row w g j cur e (0, 0) hg]
    rw [← ht, List.getElem?_take] at hu
    split at hu
    · simpa using hu
    · cases hu
theorem RdK.keep {w w' : World} {k : Nat} {v : Value} {xs : List Value} (h : RdK w k v xs) (hk : ∀ p : Addr, p.block < w.heap.size → w'.cell? p = w.cell? p) : RdK w' k v xs := by
  obtain ⟨A, n, c, rfl, hn, hnc, hcm, hc0⟩ := h
  refine ⟨A, n, c, rfl, hn, hnc, hcm, fun h0 => ?_⟩
  obtain ⟨b, o, rfl, hc⟩ := hc0 h0
  exact ⟨b, o, rfl, fun j u hu => (hk _ (World.block_lt_of_cell? w _ (hc j u hu))).trans (hc j u hu)⟩
theorem RdK.ext {w w' : World} {k : Nat} {v : Value} {xs : List Value} (h : RdK w k v xs) (hb : Ext w w') : RdK w' k v xs := h.keep fun _ hp => hb.cell hp
theorem OwnK.mono {w : World} {B B' : Nat} {e : TypeId} {k : Nat} {v : Value} {xs : List Value} (h : OwnK w B e k v xs) (hB : B' ≤ B) : OwnK w B' e k v xs := by
  obtain ⟨A, n, c, rfl, hn, h | ⟨g, cur, rfl, h1, hr⟩⟩ := h
  · exact ⟨A, n, c, rfl, hn, .inl h⟩
  · exact ⟨_, n, c, rfl, hn, .inr ⟨g, cur, rfl, Nat.le_trans hB h1, hr⟩⟩
theorem OwnK.ext {w w' : World} {B : Nat} {e : TypeId} {k : Nat} {v : Value} {xs : List Value} (h : OwnK w B e k v xs) (hb : Ext w w') : OwnK w' B e k v xs := by
  obtain ⟨A, n, c, rfl, hn, h | ⟨g, cur, rfl, h1, hg, hr⟩⟩ := h
  · exact ⟨A, n, c, rfl, hn, .inl h⟩
  · exact ⟨_, n, c, rfl, hn, .inr ⟨g, cur, rfl, h1, (hb.block g (block_lt hg)).trans hg, hr⟩⟩
theorem OwnK.grown {w w' : World} {B : Nat} {e : TypeId} {k : Nat} {v : Value} {xs : List Value} {row : Option Nat} (h : OwnK w B e k v xs) (hg : w.grownBy w' row) (hne : rowOf v = none ∨ rowOf v ≠ row) : OwnK w' B e k v xs := by
  obtain ⟨A, n, c, rfl, hn, h | ⟨g, cur, rfl, h1, hgg, hnc, hr⟩⟩ := h
  · exact ⟨A, n, c, rfl, hn, .inl h⟩
  · by_cases hc0 : c = 0
    · subst hc0
      exact ⟨_, n, 0, rfl, hn, .inl ⟨by omega, rfl⟩⟩
    · refine ⟨_, n, c, rfl, hn, .inr ⟨g, cur, rfl, h1, (hg.block g (block_lt hgg) ?_).trans hgg, hnc, hr⟩⟩
      obtain ⟨c', rfl⟩ : ∃ c', c = c' + 1 := ⟨c - 1, by omega⟩
      rcases hne with h | h
      · simp [rowOf] at h
      · simpa [rowOf] using h
structure ElemK (P : Program) (t e : TypeId) (k bytes : Nat) : Prop where
  ex : ∃ i z, P.underlying t = some (.slice e) ∧ P.info? e = some i ∧ i.zero = some z ∧ i.size = k ∧ i.bytes = bytes ∧ z.cells.size = k
theorem ownsRow_ownK {w : World} {base : Nat} {e : TypeId} {k : Nat} {v : Value} {n : Nat} {xs : List Value} (hk : 0 < k) (h : w.ownsRow base e k v n xs) : OwnK w base e k v xs := by
  have hl := h.1
  rcases h.2 with ⟨rfl, rfl⟩ | ⟨g, cap, cur, rfl, hb, hg, hnc, hcm, hcs, ht⟩
  · have : xs = [] := List.eq_nil_of_length_eq_zero (by simpa using hl)
    subst this
    exact OwnK.empty _ _ _ _ _
  · exact ⟨_, n, cap, rfl, hl.symm, .inr ⟨g, cur, rfl, hb, hg, hnc, hcm, hcs, ht⟩⟩
theorem rowOf_geK {w : World} {B : Nat} {e : TypeId} {k : Nat} {v : Value} {xs : List Value} (h : OwnK w B e k v xs) : ∀ r, rowOf v = some r → B ≤ r := by
  obtain ⟨A, n, c, rfl, hn, ⟨rfl, rfl⟩ | ⟨g, cur, rfl, hb, _⟩⟩ := h
  · intro k hk; cases A <;> simp [rowOf] at hk
  · intro k hk
    cases c with
    | zero => simp [rowOf] at hk
    | succ c => simp [rowOf] at hk; omega
theorem run_appKR {P : Program} {w : World} {t ty e : TypeId} {k bytes B : Nat} (hk : 0 < k) (he : ElemK P t e k bytes) {v src : Value} {n m : Nat} {xs news : List Value} (hown : OwnK w B e k v xs) (hnx : n * k = xs.length) (hr : RdK w k src news) (hmx : m * k = news.length) (h1 : ∀ u ∈ news, u.oneCell' = true)
    (hb : (n + m) * bytes ≤ 140737488355328) (h63 : n + m ≤ maxLen) (hB : B ≤ w.heap.size) :
    ∃ A c w', (Builtin.append_ #[t, t] ty #[v, src]).run P w = .ok (.slice A (n + m) c) w' ∧ OwnK w' B e k (.slice A (n + m) c) (xs ++ news) ∧ w.grownBy w' (rowOf v) ∧ (∀ r, rowOf (.slice A (n + m) c) = some r → rowOf v = some r ∨ w.heap.size ≤ r) := by
  obtain ⟨i, z, ht, hi, hz, hsz, hby, hzs⟩ := he.ex
  obtain ⟨A, n', c, rfl, hn, hcase⟩ := hown
  obtain ⟨A2, m', c2, rfl, hm, hmc, hcm2, hcells⟩ := hr
  obtain rfl : n' = n := Nat.eq_of_mul_eq_mul_right hk (hn.trans hnx.symm)
  obtain rfl : m' = m := Nat.eq_of_mul_eq_mul_right hk (hm.trans hmx.symm)
  clear hnx hmx
  by_cases hm0 : m' = 0
  · subst hm0
    have hnil : news = [] := List.eq_nil_of_length_eq_zero (by rw [← hm]; simp)
    subst hnil
    have hnc : n' ≤ c := by
      rcases hcase with h | ⟨g, cur, _, _, _, h, _⟩
      · omega
      · exact h
    refine ⟨A, c, w, ?_, ?_, ⟨rfl, rfl, rfl, Nat.le_refl _, fun _ _ _ => rfl⟩, fun r hr => .inl (by cases A <;> cases c <;> first | exact hr | (simp [rowOf] at hr))⟩
    · rw [append_none ht hi A A2 n' c c2 hnc]; simp
    · simp only [Nat.add_zero, List.append_nil]
      exact ⟨A, n', c, rfl, hn, hcase⟩
  · obtain ⟨b2, o2, rfl, hc2⟩ := hcells (by omega)
    have hnews : ∀ j u, news[j]? = some u → w.cell? ((⟨b2, o2, none⟩ : Addr).add j) = some u := by
      intro j u hu
      rw [Addr.add_lit]
      exact hc2 j u hu
    have fresh : ∀ (A : Option Addr) (hn0 : xs = []), ∃ v' w', (Builtin.append_ #[t, t] ty #[.slice A 0 0, .slice (some ⟨b2, o2, none⟩) m' c2]).run P w = .ok v' w' ∧ w'.ownsRow w.heap.size e k v' m' news ∧ w.grownBy w' none := by
      intro A hn0
      subst hn0
      have hn0' : n' = 0 := by
        have : n' * k = 0 := by simpa using hn
        rcases Nat.mul_eq_zero.1 this with h | h
        · exact h
        · omega
      subst hn0'
      cases A with
      | none =>
        obtain ⟨v', w', h1', h2', h3', _⟩ := run_append_own (P := P) w w.heap.size t ty e i z k bytes ht hi hz hsz hby hzs hk (.slice none 0 0) 0 [] (World.ownsRow_nil _ _ _ _) ⟨b2, o2, none⟩ m' c2 news hm.symm hnews h1 h63 hb (Nat.le_refl _)
        simp only [Nat.zero_add, List.nil_append] at h2'
        exact ⟨v', w', h1', h2', h3'⟩
      | some ad =>
        obtain ⟨v', w', h1', h2', h3'⟩ := run_append_arg_grows (P := P) w t ty e i z k bytes ht hi hz hsz hby hzs hk ad 0 0 [] (by simp) (by simp) ⟨b2, o2, none⟩ m' c2 news hm.symm hnews (by omega) h63 hb
        simp only [Nat.zero_add, List.nil_append] at h2'
        exact ⟨v', w', h1', h2', h3'⟩
    have fin : ∀ v' w', w'.ownsRow w.heap.size e k v' m' news → w.grownBy w' none → n' = 0 → xs = [] → ∃ A2 c2', v' = .slice A2 m' c2' ∧ OwnK w' B e k (.slice A2 m' c2') news ∧ ∀ r, rowOf (.slice A2 m' c2') = some r → w.heap.size ≤ r := by
      intro v' w' k2 k3 _ _
      obtain ⟨g', cap', rfl, _, _⟩ := k2.form (by omega)
      exact ⟨_, _, rfl, (ownsRow_ownK hk k2).mono hB, rowOf_geK (ownsRow_ownK hk k2)⟩
    rcases hcase with ⟨h0, hc0⟩ | ⟨g, cur, rfl, hbg, hg, hnc, hcm, hcs, htk⟩
    · subst h0 hc0
      have hx : xs = [] := List.eq_nil_of_length_eq_zero (by rw [← hn]; simp)
      obtain ⟨v', w', q1, q2, q3⟩ := fresh A hx
      obtain ⟨A3, c3, rfl, ho, hr3⟩ := fin v' w' q2 q3 rfl hx
      subst hx
      refine ⟨A3, c3, w', ?_, ?_, ⟨q3.os, q3.tape, q3.output, q3.size, fun k hk _ => q3.block k hk (by simp)⟩, fun r hr => .inr (hr3 r (by simpa using hr))⟩
      · rw [q1]; simp
      · simp only [Nat.zero_add, List.nil_append]; exact ho
    · have hown' : w.ownsRow B e k (.slice (some ⟨g, 0, none⟩) n' c) n' xs := ⟨hn.symm, .inr ⟨g, c, cur, rfl, hbg, hg, hnc, hcm, hcs, htk⟩⟩
      by_cases hc0 : c = 0
      · subst hc0
        obtain rfl : n' = 0 := by omega
        have hx : xs = [] := List.eq_nil_of_length_eq_zero (by rw [← hn]; simp)
        obtain ⟨v', w', q1, q2, q3⟩ := fresh (some ⟨g, 0, none⟩) hx
        obtain ⟨A3, c3, rfl, ho, hr3⟩ := fin v' w' q2 q3 rfl hx
        subst hx
        refine ⟨A3, c3, w', ?_, ?_, ⟨q3.os, q3.tape, q3.output, q3.size, fun k hk _ => q3.block k hk (by simp)⟩, fun r hr => .inr (hr3 r (by simpa using hr))⟩
        · rw [q1]; simp
        · simp only [Nat.zero_add, List.nil_append]; exact ho
      · obtain ⟨v', w', k1, k2, k3, _, k5⟩ := run_append_own_at (P := P) w B t ty e i z k bytes ht hi hz hsz hby hzs hk _ n' xs hown' ⟨b2, o2, none⟩ m' c2 news hm.symm hnews h1 h63 hb hB
        obtain ⟨g', cap', rfl, _, _⟩ := k2.form (by omega)
        obtain ⟨c', rfl⟩ : ∃ c', c = c' + 1 := ⟨c - 1, by omega⟩
        refine ⟨some ⟨g', 0, none⟩, cap', w', k1, ownsRow_ownK hk k2, k3, fun r hr => ?_⟩
        cases cap' with
        | zero => simp [rowOf] at hr
        | succ q =>
          have hr' : g' = r := by simpa [rowOf] using hr
          subst hr'
          rcases k5 with h | h
          · exact .inl (h.symm.trans rfl)
          · exact .inr (Nat.le_of_eq (Option.some.inj h).symm)
section
variable {P : Program} {ops : Array Oper} {rest : List Oper} {o : Oper} {a : Act} {Q : Exit → Act → World → Prop} {w w0 : World}
/-- out = append(out, src...), elements of k cells, with what is told of the row of the result. -/
theorem wpList_appKR {t e : TypeId} {k bytes B : Nat} (hk : 0 < k) (he : ElemK P t e k bytes) {v src : Value} {n m : Nat} {xs news : List Value} (hown : OwnK w B e k v xs) (hnx : n * k = xs.length) (hr : RdK w k src news) (hmx : m * k = news.length) (h1 : ∀ u ∈ news, u.oneCell' = true)
    (hbel : Below B w0 w) (hb : (n + m) * bytes ≤ 140737488355328) (h63 : n + m ≤ maxLen) (hB : B ≤ w.heap.size)
    {s x : Operand} (hgd : o.guard = none) (ho : o.op = .call { callee := .builtin .append, args := #[s, x], argTypes := #[t, t] }) (hs : a.eval s = v) (hx : a.eval x = src)
    (h : ∀ A n' c w', Hid (n' = n + m) → OwnK w' B e k (.slice A n' c) (xs ++ news) → Below B w0 w' → w.grownBy w' (rowOf v) → (∀ r, rowOf (.slice A n' c) = some r → rowOf v = some r ∨ w.heap.size ≤ r) → wpList P ops Q rest (a.put o.dst (.slice A n' c)) w') : wpList P ops Q (o :: rest) a w :=
  wpList_plain hgd fun _ hK => by
    obtain ⟨A, c, w', hrun, h2, h3, h4⟩ := run_appKR (P := P) (ty := o.type) hk he hown hnx hr hmx h1 hb h63 hB
    unfold Oper.wp execOp
    simp only [ho, resolve, invoke, builtin, Sem.run_bind, Sem.run_pure, Result.andThen_ok, List.map_toArray, List.map_cons, List.map_nil, hs, hx, hrun]
    exact hK _ _ (h A _ c w' (show _ = _ from rfl) h2 (hbel.grown h3 hB (rowOf_geK hown)) h3 h4)
end
theorem RdK.lit (w : World) (k : Nat) (cs : Array Value) (e : TypeId) (n : Nat) (hn : n * k = cs.size) (hm : n ≤ maxLen) : RdK (w.alloc (.cells cs e)) k (.slice (some ⟨w.heap.size, 0, none⟩) n n) cs.toList := by
  refine ⟨_, n, n, rfl, by simpa using hn, Nat.le_refl _, hm, fun _ => ⟨_, 0, rfl, fun j u hu => ?_⟩⟩
  rw [Nat.zero_add, cell_of_row _ _ j cs e (0, 0) (heap_alloc_new w _)]
  simpa using hu
theorem OwnK.lit (w : World) (k : Nat) (cs : Array Value) (e : TypeId) (n : Nat) (hn : n * k = cs.size) (hm : n ≤ maxLen) : OwnK (w.alloc (.cells cs e)) w.heap.size e k (.slice (some ⟨w.heap.size, 0, none⟩) n n) cs.toList :=
  ⟨_, n, n, rfl, by simpa using hn, .inr ⟨_, cs, rfl, Nat.le_refl _, heap_alloc_new w _, Nat.le_refl _, hm, hn.symm, by rw [hn, ← Array.length_toList]; exact List.take_length⟩⟩
end Go.Proofs.YthbpdhanljpigaaGreatDoor
namespace Go.Proofs.YthbpdhanljpigaaGreatDoor
open Go.RowKit
set_option linter.unusedVariables false
theorem flat_len {α : Type} (f : α → List Value) (k : Nat) (hf : ∀ x, (f x).length = k) : ∀ l : List α, (l.flatMap f).length = l.length * k
  | [] => by simp
  | x :: l => by rw [List.flatMap_cons, List.length_append, hf, flat_len f k hf l, List.length_cons, Nat.succ_mul]; omega
theorem flat_get {α : Type} (f : α → List Value) (k : Nat) (hf : ∀ x, (f x).length = k) : ∀ (l : List α) (i : Nat) (hi : i < l.length) (j : Nat), j < k → (l.flatMap f)[i * k + j]? = (f l[i])[j]?
  | x :: l, 0, _, j, hj => by
    rw [List.flatMap_cons, List.getElem?_append_left (by rw [hf]; omega)]
    simp
  | x :: l, i + 1, hi, j, hj => by
    rw [List.flatMap_cons, List.getElem?_append_right (by rw [hf, Nat.succ_mul]; omega), hf, show (i + 1) * k + j - k = i * k + j by rw [Nat.succ_mul]; omega]
    rw [flat_get f k hf l i (by simpa using hi) j hj]
    rfl
/-- A slice of structs, opened. -/
theorem RdK.flat {w : World} {α : Type} {f : α → List Value} {k : Nat} (h0 : 0 < k) (hf : ∀ x, (f x).length = k) {v : Value} {l : List α} (h : RdK w k v (l.flatMap f)) :
    ∃ A n c, v = .slice A n c ∧ n = l.length ∧ n ≤ c ∧ c ≤ maxLen ∧ (0 < n → ∃ b o, A = some ⟨b, o, none⟩ ∧ b < w.heap.size ∧ ∀ (i : Nat) (hi : i < l.length) (j : Nat) (u : Value), (f l[i])[j]? = some u → w.cell? ⟨b, o + i * k + j, none⟩ = some u) := by
  obtain ⟨A, n, c, rfl, hn, hnc, hcm, hc⟩ := h
  have hl : n = l.length := by
    rw [flat_len f k hf] at hn
    exact Nat.eq_of_mul_eq_mul_right h0 hn
  refine ⟨A, n, c, rfl, hl, hnc, hcm, fun hp => ?_⟩
  obtain ⟨b, o, rfl, hcell⟩ := hc hp
  have all : ∀ (i : Nat) (hi : i < l.length) (j : Nat) (u : Value), (f l[i])[j]? = some u → w.cell? ⟨b, o + i * k + j, none⟩ = some u := fun i hi j u hu => by
    have hj : j < k := by rw [← hf l[i]]; exact (List.getElem?_eq_some_iff.1 hu).1
    rw [Nat.add_assoc]
    exact hcell _ u (by rw [flat_get f k hf l i hi j hj]; exact hu)
  refine ⟨b, o, rfl, ?_, all⟩
  have h1 : 0 < l.length := by omega
  have h2 : 0 < (f l[0]).length := by rw [hf]; exact h0
  exact World.block_lt_of_cell? w _ (all 0 h1 0 (f l[0])[0] (List.getElem?_eq_getElem h2))
end Go.Proofs.YthbpdhanljpigaaGreatDoor
