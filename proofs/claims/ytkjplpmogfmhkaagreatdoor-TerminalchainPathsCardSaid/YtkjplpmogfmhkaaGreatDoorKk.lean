/- Words for slices whose elements take k cells each (structs), and the law of the walk on append over them. No program is named here. -/
import Derived.Test.YtkjplpmogfmhkaaGreatDoorKit
namespace Go.Proofs.YtkjplpmogfmhkaaGreatDoor
open Go.RowKit
set_option linter.unusedVariables false

/-- The slice value v reads as the cells xs, k an element. -/
def RdK (w : World) (k : Nat) (v : Value) (xs : List Value) : Prop :=
  ∃ A n c, v = .slice A n c ∧ n * k = xs.length ∧ n ≤ c ∧ c ≤ maxLen ∧
    (0 < n → ∃ b o, A = some ⟨b, o, none⟩ ∧ ∀ j u, xs[j]? = some u → w.cell? ⟨b, o + j, none⟩ = some u)
def OwnK (w : World) (B : Nat) (e : TypeId) (k : Nat) (v : Value) (xs : List Value) : Prop :=
  ∃ A n c, v = .slice A n c ∧ n * k = xs.length ∧
    ((n = 0 ∧ c = 0) ∨ ∃ g cur, A = some ⟨g, 0, none⟩ ∧ B ≤ g ∧ w.heap[g]? = some (.cells cur e (0, 0)) ∧ n ≤ c ∧ c ≤ maxLen ∧ cur.size = c * k ∧ cur.toList.take (n * k) = xs)
theorem RdK.nil_ (w : World) (k : Nat) (A : Option Addr) : RdK w k (.slice A 0 0) [] := ⟨A, 0, 0, rfl, by simp, Nat.le_refl _, by unfold maxLen; omega, fun h => absurd h (by omega)⟩
theorem OwnK.empty (w : World) (B : Nat) (e : TypeId) (k : Nat) (A : Option Addr) : OwnK w B e k (.slice A 0 0) [] := ⟨A, 0, 0, rfl, by simp, .inl ⟨rfl, rfl⟩⟩
theorem OwnK.rd {w : World} {B : Nat} {e : TypeId} {k : Nat} {v : Value} {xs : List Value} (h : OwnK w B e k v xs) : RdK w k v xs := by
  obtain ⟨A, n, c, rfl, hn, h | ⟨g, cur, rfl, hB, hg, hnc, hcm, hcs, ht⟩⟩ := h
  · obtain ⟨rfl, rfl⟩ := h
    exact ⟨A, 0, 0, rfl, hn, Nat.le_refl _, by unfold maxLen; omega, fun h => absurd h (by omega)⟩
  · refine ⟨_, n, c, rfl, hn, hnc, hcm, fun _ => ⟨g, 0, rfl, fun j u hu => ?_⟩⟩
    rw [Nat.zero_add, cell_of_row w g j cur e (0, 0) hg]
    rw [← ht, List.getElem?_take] at hu
    split at hu
    · simpa using hu
    · cases hu
theorem RdK.keep {w w' : World} {k : Nat} {v : Value} {xs : List Value} (h : RdK w k v xs) (hk : ∀ p : Addr, p.block < w.heap.size → w'.cell? p = w.cell? p) : RdK w' k v xs := by
  obtain ⟨A, n, c, rfl, hn, hnc, hcm, hc0⟩ := h
  refine ⟨A, n, c, rfl, hn, hnc, hcm, fun h0 => ?_⟩
  obtain ⟨b, o, rfl, hc⟩ := hc0 h0
  exact ⟨b, o, rfl, fun j u hu => (hk _ (World.block_lt_of_cell? w _ (hc j u hu))).trans (hc j u hu)⟩
theorem RdK.ext {w w' : World} {k : Nat} {v : Value} {xs : List Value} (h : RdK w k v xs) (hb : Ext w w') : RdK w' k v xs := h.keep fun _ hp => hb.cell hp
theorem OwnK.mono {w : World} {B B' : Nat} {e : TypeId} {k : Nat} {v : Value} {xs : List Value} (h : OwnK w B e k v xs) (hB : B' ≤ B) : OwnK w B' e k v xs := by
  obtain ⟨A, n, c, rfl, hn, h | ⟨g, cur, rfl, h1, hr⟩⟩ := h
  · exact ⟨A, n, c, rfl, hn, .inl h⟩
  · exact ⟨_, n, c, rfl, hn, .inr ⟨g, cur, rfl, Nat.le_trans hB h1, hr⟩⟩
theorem OwnK.ext {w w' : World} {B : Nat} {e : TypeId} {k : Nat} {v : Value} {xs : List Value} (h : OwnK w B e k v xs) (hb : Ext w w') : OwnK w' B e k v xs := by
  obtain ⟨A, n, c, rfl, hn, h | ⟨g, cur, rfl, h1, hg, hr⟩⟩ := h
  · exact ⟨A, n, c, rfl, hn, .inl h⟩
  · exact ⟨_, n, c, rfl, hn, .inr ⟨g, cur, rfl, h1, (hb.block g (block_lt hg)).trans hg, hr⟩⟩
theorem OwnK.grown {w w' : World} {B : Nat} {e : TypeId} {k : Nat} {v : Value} {xs : List Value} {row : Option Nat} (h : OwnK w B e k v xs) (hg : w.grownBy w' row) (hne : rowOf v = none ∨ rowOf v ≠ row) : OwnK w' B e k v xs := by
  obtain ⟨A, n, c, rfl, hn, h | ⟨g, cur, rfl, h1, hgg, hnc, hr⟩⟩ := h
  · exact ⟨A, n, c, rfl, hn, .inl h⟩
  · by_cases hc0 : c = 0
    · subst hc0
      exact ⟨_, n, 0, rfl, hn, .inl ⟨by omega, rfl⟩⟩
    · refine ⟨_, n, c, rfl, hn, .inr ⟨g, cur, rfl, h1, (hg.block g (block_lt hgg) ?_).trans hgg, hnc, hr⟩⟩
      obtain ⟨c', rfl⟩ : ∃ c', c = c' + 1 := ⟨c - 1, by omega⟩
      rcases hne with h | h
      · simp [rowOf] at h
      · simpa [rowOf] using h
structure ElemK (P : Program) (t e : TypeId) (k bytes : Nat) : Prop where
  ex : ∃ i z, P.underlying t = some (.slice e) ∧ P.info? e = some i ∧ i.zero = some z ∧ i.size = k ∧ i.bytes = bytes ∧ z.cells.size = k
theorem ownsRow_ownK {w : World} {base : Nat} {e : TypeId} {k : Nat} {v : Value} {n : Nat} {xs : List Value} (hk : 0 < k) (h : w.ownsRow base e k v n xs) : OwnK w base e k v xs := by
  have hl := h.1
  rcases h.2 with ⟨rfl, rfl⟩ | ⟨g, cap, cur, rfl, hb, hg, hnc, hcm, hcs, ht⟩
  · have : xs = [] := List.eq_nil_of_length_eq_zero (by simpa using hl)
    subst this
    exact OwnK.empty _ _ _ _ _
  · exact ⟨_, n, cap, rfl, hl.symm, .inr ⟨g, cur, rfl, hb, hg, hnc, hcm, hcs, ht⟩⟩
theorem rowOf_geK {w : World} {B : Nat} {e : TypeId} {k : Nat} {v : Value} {xs : List Value} (h : OwnK w B e k v xs) : ∀ r, rowOf v = some r → B ≤ r := by
  obtain ⟨A, n, c, rfl, hn, ⟨rfl, rfl⟩ | ⟨g, cur, rfl, hb, _⟩⟩ := h
  · intro k hk; cases A <;> simp [rowOf] at hk
  · intro k hk
    cases c with
    | zero => simp [rowOf] at hk
    | succ c => simp [rowOf] at hk; omega
theorem run_appKR {P : Program} {w : World} {t ty e : TypeId} {k bytes B : Nat} (hk : 0 < k) (he : ElemK P t e k bytes) {v src : Value} {n m : Nat} {xs news : List Value} (hown : OwnK w B e k v xs) (hnx : n * k = xs.length) (hr : RdK w k src news) (hmx : m * k = news.length) (h1 : ∀ u ∈ news, u.oneCell' = true)
    (hb : (n + m) * bytes ≤ 140737488355328) (h63 : n + m ≤ maxLen) (hB : B ≤ w.heap.size) :
    ∃ A c w', (Builtin.append_ #[t, t] ty #[v, src]).run P w = .ok (.slice A (n + m) c) w' ∧ OwnK w' B e k (.slice A (n + m) c) (xs ++ news) ∧ w.grownBy w' (rowOf v) ∧ (∀ r, rowOf (.slice A (n + m) c) = some r → rowOf v = some r ∨ w.heap.size ≤ r) := by
  obtain ⟨i, z, ht, hi, hz, hsz, hby, hzs⟩ := he.ex
  obtain ⟨A, n', c, rfl, hn, hcase⟩ := hown
  obtain ⟨A2, m', c2, rfl, hm, hmc, hcm2, hcells⟩ := hr
  obtain rfl : n' = n := Nat.eq_of_mul_eq_mul_right hk (hn.trans hnx.symm)
  obtain rfl : m' = m := Nat.eq_of_mul_eq_mul_right hk (hm.trans hmx.symm)
  clear hnx hmx
  by_cases hm0 : m' = 0
  · subst hm0
    have hnil : news = [] := List.eq_nil_of_length_eq_zero (by rw [← hm]; simp)
    subst hnil
    have hnc : n' ≤ c := by
      rcases hcase with h | ⟨g, cur, _, _, _, h, _⟩
      · omega
      · exact h
    refine ⟨A, c, w, ?_, ?_, ⟨rfl, rfl, rfl, Nat.le_refl _, fun _ _ _ => rfl⟩, fun r hr => .inl (by cases A <;> cases c <;> first | exact hr | (simp [rowOf] at hr))⟩
    · rw [append_none ht hi A A2 n' c c2 hnc]; simp
    · simp only [Nat.add_zero, List.append_nil]
      exact ⟨A, n', c, rfl, hn, hcase⟩
  · obtain ⟨b2, o2, rfl, hc2⟩ := hcells (by omega)
    have hnews : ∀ j u, news[j]? = some u → w.cell? ((⟨b2, o2, none⟩ : Addr).add j) = some u := by
      intro j u hu
      rw [Addr.add_lit]
      exact hc2 j u hu
    have fresh : ∀ (A : Option Addr) (hn0 : xs = []), ∃ v' w', (Builtin.append_ #[t, t] ty #[.slice A 0 0, .slice (some ⟨b2, o2, none⟩) m' c2]).run P w = .ok v' w' ∧ w'.ownsRow w.heap.size e k v' m' news ∧ w.grownBy w' none := by
      intro A hn0
      subst hn0
      have hn0' : n' = 0 := by
        have : n' * k = 0 := by simpa using hn
        rcases Nat.mul_eq_zero.1 this with h | h
        · exact h
        · omega
      subst hn0'
      cases A with
      | none =>
        obtain ⟨v', w', h1', h2', h3', _⟩ := run_append_own (P := P) w w.heap.size t ty e i z k bytes ht hi hz hsz hby hzs hk (.slice none 0 0) 0 [] (World.ownsRow_nil _ _ _ _) ⟨b2, o2, none⟩ m' c2 news hm.symm hnews h1 h63 hb (Nat.le_refl _)
        simp only [Nat.zero_add, List.nil_append] at h2'
        exact ⟨v', w', h1', h2', h3'⟩
      | some ad =>
        obtain ⟨v', w', h1', h2', h3'⟩ := run_append_arg_grows (P := P) w t ty e i z k bytes ht hi hz hsz hby hzs hk ad 0 0 [] (by simp) (by simp) ⟨b2, o2, none⟩ m' c2 news hm.symm hnews (by omega) h63 hb
        simp only [Nat.zero_add, List.nil_append] at h2'
        exact ⟨v', w', h1', h2', h3'⟩
    have fin : ∀ v' w', w'.ownsRow w.heap.size e k v' m' news → w.grownBy w' none → n' = 0 → xs = [] → ∃ A2 c2', v' = .slice A2 m' c2' ∧ OwnK w' B e k (.slice A2 m' c2') news ∧ ∀ r, rowOf (.slice A2 m' c2') = some r → w.heap.size ≤ r := by
      intro v' w' k2 k3 _ _
      obtain ⟨g', cap', rfl, _, _⟩ := k2.form (by omega)
      exact ⟨_, _, rfl, (ownsRow_ownK hk k2).mono hB, rowOf_geK (ownsRow_ownK hk k2)⟩
    rcases hcase with ⟨h0, hc0⟩ | ⟨g, cur, rfl, hbg, hg, hnc, hcm, hcs, htk⟩
    · subst h0 hc0
      have hx : xs = [] := List.eq_nil_of_length_eq_zero (by rw [← hn]; simp)
      obtain ⟨v', w', q1, q2, q3⟩ := fresh A hx
      obtain ⟨A3, c3, rfl, ho, hr3⟩ := fin v' w' q2 q3 rfl hx
      subst hx
      refine ⟨A3, c3, w', ?_, ?_, ⟨q3.os, q3.tape, q3.output, q3.size, fun k hk _ => q3.block k hk (by simp)⟩, fun r hr => .inr (hr3 r (by simpa using hr))⟩
      · rw [q1]; simp
      · simp only [Nat.zero_add, List.nil_append]; exact ho
    · have hown' : w.ownsRow B e k (.slice (some ⟨g, 0, none⟩) n' c) n' xs := ⟨hn.symm, .inr ⟨g, c, cur, rfl, hbg, hg, hnc, hcm, hcs, htk⟩⟩
      by_cases hc0 : c = 0
      · subst hc0
        obtain rfl : n' = 0 := by omega
        have hx : xs = [] := List.eq_nil_of_length_eq_zero (by rw [← hn]; simp)
        obtain ⟨v', w', q1, q2, q3⟩ := fresh (some ⟨g, 0, none⟩) hx
        obtain ⟨A3, c3, rfl, ho, hr3⟩ := fin v' w' q2 q3 rfl hx
        subst hx
        refine ⟨A3, c3, w', ?_, ?_, ⟨q3.os, q3.tape, q3.output, q3.size, fun k hk _ => q3.block k hk (by simp)⟩, fun r hr => .inr (hr3 r (by simpa using hr))⟩
        · rw [q1]; simp
        · simp only [Nat.zero_add, List.nil_append]; exact ho
      · obtain ⟨v', w', k1, k2, k3, _, k5⟩ := run_append_own_at (P := P) w B t ty e i z k bytes ht hi hz hsz hby hzs hk _ n' xs hown' ⟨b2, o2, none⟩ m' c2 news hm.symm hnews h1 h63 hb hB
        obtain ⟨g', cap', rfl, _, _⟩ := k2.form (by omega)
        obtain ⟨c', rfl⟩ : ∃ c', c = c' + 1 := ⟨c - 1, by omega⟩
        refine ⟨some ⟨g', 0, none⟩, cap', w', k1, ownsRow_ownK hk k2, k3, fun r hr => ?_⟩
        cases cap' with
        | zero => simp [rowOf] at hr
        | succ q =>
          have hr' : g' = r := by simpa [rowOf] using hr
          subst hr'
          rcases k5 with h | h
          · exact .inl (h.symm.trans rfl)
          · exact .inr (Nat.le_of_eq (Option.some.inj h).symm)
theorem run_appK {P : Program} {w : World} {t ty e : TypeId} {k bytes B : Nat} (hk : 0 < k) (he : ElemK P t e k bytes) {v src : Value} {n m : Nat} {xs news : List Value} (hown : OwnK w B e k v xs) (hnx : n * k = xs.length) (hr : RdK w k src news) (hmx : m * k = news.length) (h1 : ∀ u ∈ news, u.oneCell' = true)
    (hb : (n + m) * bytes ≤ 140737488355328) (h63 : n + m ≤ maxLen) (hB : B ≤ w.heap.size) :
    ∃ A c w', (Builtin.append_ #[t, t] ty #[v, src]).run P w = .ok (.slice A (n + m) c) w' ∧ OwnK w' B e k (.slice A (n + m) c) (xs ++ news) ∧ w.grownBy w' (rowOf v) := by
  obtain ⟨A, c, w', h1, h2, h3, _⟩ := run_appKR (ty := ty) hk he hown hnx hr hmx h1 hb h63 hB
  exact ⟨A, c, w', h1, h2, h3⟩
section
variable {P : Program} {ops : Array Oper} {rest : List Oper} {o : Oper} {a : Act} {Q : Exit → Act → World → Prop} {w w0 : World}
/-- out = append(out, src...), elements of k cells. -/
theorem wpList_appK {t e : TypeId} {k bytes B : Nat} (hk : 0 < k) (he : ElemK P t e k bytes) {v src : Value} {n m : Nat} {xs news : List Value} (hown : OwnK w B e k v xs) (hnx : n * k = xs.length) (hr : RdK w k src news) (hmx : m * k = news.length) (h1 : ∀ u ∈ news, u.oneCell' = true)
    (hbel : Below B w0 w) (hb : (n + m) * bytes ≤ 140737488355328) (h63 : n + m ≤ maxLen) (hB : B ≤ w.heap.size)
    {s x : Operand} (hgd : o.guard = none) (ho : o.op = .call { callee := .builtin .append, args := #[s, x], argTypes := #[t, t] }) (hs : a.eval s = v) (hx : a.eval x = src)
    (h : ∀ A n' c w', Hid (n' = n + m) → OwnK w' B e k (.slice A n' c) (xs ++ news) → Below B w0 w' → w.grownBy w' (rowOf v) → wpList P ops Q rest (a.put o.dst (.slice A n' c)) w') : wpList P ops Q (o :: rest) a w :=
  wpList_plain hgd fun _ hK => by
    obtain ⟨A, c, w', hrun, h2, h3⟩ := run_appK (P := P) (ty := o.type) hk he hown hnx hr hmx h1 hb h63 hB
    unfold Oper.wp execOp
    simp only [ho, resolve, invoke, builtin, Sem.run_bind, Sem.run_pure, Result.andThen_ok, List.map_toArray, List.map_cons, List.map_nil, hs, hx, hrun]
    exact hK _ _ (h A _ c w' (show _ = _ from rfl) h2 (hbel.grown h3 hB (rowOf_geK hown)) h3)
/-- out = append(out, src...), elements of k cells, with what is told of the row of the result. -/
theorem wpList_appKR {t e : TypeId} {k bytes B : Nat} (hk : 0 < k) (he : ElemK P t e k bytes) {v src : Value} {n m : Nat} {xs news : List Value} (hown : OwnK w B e k v xs) (hnx : n * k = xs.length) (hr : RdK w k src news) (hmx : m * k = news.length) (h1 : ∀ u ∈ news, u.oneCell' = true)
    (hbel : Below B w0 w) (hb : (n + m) * bytes ≤ 140737488355328) (h63 : n + m ≤ maxLen) (hB : B ≤ w.heap.size)
    {s x : Operand} (hgd : o.guard = none) (ho : o.op = .call { callee := .builtin .append, args := #[s, x], argTypes := #[t, t] }) (hs : a.eval s = v) (hx : a.eval x = src)
    (h : ∀ A n' c w', Hid (n' = n + m) → OwnK w' B e k (.slice A n' c) (xs ++ news) → Below B w0 w' → w.grownBy w' (rowOf v) → (∀ r, rowOf (.slice A n' c) = some r → rowOf v = some r ∨ w.heap.size ≤ r) → wpList P ops Q rest (a.put o.dst (.slice A n' c)) w') : wpList P ops Q (o :: rest) a w :=
  wpList_plain hgd fun _ hK => by
    obtain ⟨A, c, w', hrun, h2, h3, h4⟩ := run_appKR (P := P) (ty := o.type) hk he hown hnx hr hmx h1 hb h63 hB
    unfold Oper.wp execOp
    simp only [ho, resolve, invoke, builtin, Sem.run_bind, Sem.run_pure, Result.andThen_ok, List.map_toArray, List.map_cons, List.map_nil, hs, hx, hrun]
    exact hK _ _ (h A _ c w' (show _ = _ from rfl) h2 (hbel.grown h3 hB (rowOf_geK hown)) h3 h4)
end
theorem RdK.lit (w : World) (k : Nat) (cs : Array Value) (e : TypeId) (n : Nat) (hn : n * k = cs.size) (hm : n ≤ maxLen) : RdK (w.alloc (.cells cs e)) k (.slice (some ⟨w.heap.size, 0, none⟩) n n) cs.toList := by
  refine ⟨_, n, n, rfl, by simpa using hn, Nat.le_refl _, hm, fun _ => ⟨_, 0, rfl, fun j u hu => ?_⟩⟩
  rw [Nat.zero_add, cell_of_row _ _ j cs e (0, 0) (heap_alloc_new w _)]
  simpa using hu
theorem OwnK.lit (w : World) (k : Nat) (cs : Array Value) (e : TypeId) (n : Nat) (hn : n * k = cs.size) (hm : n ≤ maxLen) : OwnK (w.alloc (.cells cs e)) w.heap.size e k (.slice (some ⟨w.heap.size, 0, none⟩) n n) cs.toList :=
  ⟨_, n, n, rfl, by simpa using hn, .inr ⟨_, cs, rfl, Nat.le_refl _, heap_alloc_new w _, Nat.le_refl _, hm, hn.symm, by rw [hn, ← Array.length_toList]; exact List.take_length⟩⟩
end Go.Proofs.YtkjplpmogfmhkaaGreatDoor
