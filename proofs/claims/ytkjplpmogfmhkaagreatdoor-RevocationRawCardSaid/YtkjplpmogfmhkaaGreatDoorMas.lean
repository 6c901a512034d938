/- Parts Za Zb Jk Jl Zd of the proof. -/
import Derived.Test.YtkjplpmogfmhkaaGreatDoorMar
import Derived.Test.YtkjplpmogfmhkaaGreatDoorMaa
import Derived.Test.YtkjplpmogfmhkaaGreatDoorMaq
import Derived.Test.YtkjplpmogfmhkaaGreatDoorMak
namespace Go.Proofs.YtkjplpmogfmhkaaGreatDoor
open Go.RowKit
set_option linter.unusedVariables false
set_option maxRecDepth 100000
def NC.nums (c : NC) : List Int := [c.kind, c.num, c.iss, c.own, c.key, c.fr, c.un, c.to, c.e, c.s]
theorem NC.tup_inj {a b : NC} (h : a.st = b.st ∧ a.nums = b.nums) : a = b := by
  cases a; cases b
  simp only [NC.nums, List.cons.injEq, and_true] at h
  obtain ⟨rfl, rfl, rfl, rfl, rfl, rfl, rfl, rfl, rfl, rfl, rfl⟩ := h
  rfl
instance : DecidableEq NC := fun a b => decidable_of_iff (a.st = b.st ∧ a.nums = b.nums) ⟨NC.tup_inj, fun h => by rw [h]; exact ⟨rfl, rfl⟩⟩
/-- Whether b follows a on a day. -/
def folP (day : Int) (a b : NC) : Prop := a.st = b.st ∧ b.iss = a.own ∧ (a.kind = 1 ∨ a.kind = 2) ∧ b.kind ≠ 1 ∧ onN a day = 0 ∧ onN b day = 0 ∧ vfN a.key b = true
instance (day : Int) (a b : NC) : Decidable (folP day a b) := inferInstanceAs (Decidable (_ ∧ _))
def folB (day : Int) (a b : NC) : Bool := decide (folP day a b)
/-- A root that is trusted. -/
def rootP (st : List UInt8) (day : Int) (c : NC) : Prop := c.st = st ∧ onN c day = 0 ∧ rtN c = true
instance (st : List UInt8) (day : Int) (c : NC) : Decidable (rootP st day c) := inferInstanceAs (Decidable (_ ∧ _))
def firstStep (st : List UInt8) (day : Int) (l : List NC) (c : NC) : List NC := if rootP st day c ∧ c ∉ l then l ++ [c] else l
def firstT (roots : List NC) (st : List UInt8) (day : Int) : List NC := roots.foldl (firstStep st day) []
/-- One more link. -/
def linkP (day : Int) (out next : List NC) (c : NC) : Prop := c.kind = 2 ∧ c ∉ next ∧ (out.any fun a => folB day a c) = true
instance (day : Int) (out next : List NC) (c : NC) : Decidable (linkP day out next c) := inferInstanceAs (Decidable (_ ∧ _))
def linkStep (day : Int) (out next : List NC) (c : NC) : List NC := if linkP day out next c then next ++ [c] else next
def roundT (pool : List NC) (day : Int) (out : List NC) : List NC := pool.foldl (linkStep day out) out
/-- How many of the pool are not there yet. -/
def restT (pool out : List NC) : Nat := (pool.filter fun c => decide (c ∉ out)).length
def trT (pool : List NC) (day : Int) : Nat → List NC → List NC
  | 0, out => out
  | n + 1, out => if (roundT pool day out).length = out.length then out else trT pool day n (roundT pool day out)
/-- What Trusted returns. -/
def trustT (roots pool : List NC) (st : List UInt8) (day : Int) : List NC := trT pool day (pool.length + 1) (firstT roots st day)
/-! ### A step keeps what was there, and adds of the pool -/
theorem linkStep_ext (day : Int) (out next : List NC) (c : NC) : ∃ t, linkStep day out next c = next ++ t ∧ (t = [] ∨ (t = [c] ∧ linkP day out next c)) := by
  unfold linkStep
  split
  · rename_i h
    exact ⟨[c], rfl, .inr ⟨rfl, h⟩⟩
  · exact ⟨[], (List.append_nil _).symm, .inl rfl⟩
theorem foldl_ext (day : Int) (out : List NC) : ∀ (l next : List NC), ∃ t, l.foldl (linkStep day out) next = next ++ t ∧ ∀ c ∈ t, c ∈ l ∧ c.kind = 2 ∧ c ∉ next ∧ (out.any fun a => folB day a c) = true
  | [], next => ⟨[], (List.append_nil _).symm, fun c h => by cases h⟩
  | x :: l, next => by
    obtain ⟨t1, e1, h1⟩ := linkStep_ext day out next x
    obtain ⟨t2, e2, h2⟩ := foldl_ext day out l (linkStep day out next x)
    refine ⟨t1 ++ t2, by rw [List.foldl_cons, e2, e1, List.append_assoc], fun c hc => ?_⟩
    rcases List.mem_append.1 hc with hc | hc
    · rcases h1 with rfl | ⟨rfl, h1⟩
      · cases hc
      · obtain rfl : c = x := List.mem_singleton.1 hc
        exact ⟨List.mem_cons_self, h1.1, h1.2.1, h1.2.2⟩
    · obtain ⟨q1, q2, q3, q4⟩ := h2 c hc
      exact ⟨List.mem_cons_of_mem _ q1, q2, fun q => q3 (by rw [e1]; exact List.mem_append_left _ q), q4⟩
theorem roundT_ext (pool : List NC) (day : Int) (out : List NC) : ∃ t, roundT pool day out = out ++ t ∧ ∀ c ∈ t, c ∈ pool ∧ c.kind = 2 ∧ c ∉ out ∧ (out.any fun a => folB day a c) = true := foldl_ext day out pool out
theorem restT_le (pool out : List NC) : restT pool out ≤ pool.length := List.length_filter_le _ _
theorem filter_lt {α : Type} (p q : α → Bool) : ∀ (l : List α), (∀ x ∈ l, q x = true → p x = true) → (∃ x ∈ l, p x = true ∧ q x = false) → (l.filter q).length < (l.filter p).length
  | [], _, ⟨x, h, _⟩ => by cases h
  | y :: l, h, ⟨x, hx, hp, hq⟩ => by
    have le : (l.filter q).length ≤ (l.filter p).length := by
      have : ∀ m : List α, (∀ x ∈ m, q x = true → p x = true) → (m.filter q).length ≤ (m.filter p).length := by
        intro m
        induction m with
        | nil => intro _; exact Nat.le_refl _
        | cons z m IH =>
          intro hm
          have h1 := IH fun x hx => hm x (List.mem_cons_of_mem _ hx)
          have h2 := hm z List.mem_cons_self
          cases hqz : q z with
          | true => rw [List.filter_cons_of_pos hqz, List.filter_cons_of_pos (h2 hqz)]; exact Nat.succ_le_succ h1
          | false =>
            rw [List.filter_cons_of_neg (by rw [hqz]; simp)]
            cases hpz : p z with
            | true => rw [List.filter_cons_of_pos hpz]; exact Nat.le_succ_of_le h1
            | false => rw [List.filter_cons_of_neg (by rw [hpz]; simp)]; exact h1
      exact this l fun x hx => h x (List.mem_cons_of_mem _ hx)
    rcases List.mem_cons.1 hx with rfl | hx
    · rw [List.filter_cons_of_pos hp, List.filter_cons_of_neg (by rw [hq]; simp)]
      exact Nat.lt_succ_of_le le
    · have IH := filter_lt p q l (fun x hx => h x (List.mem_cons_of_mem _ hx)) ⟨x, hx, hp, hq⟩
      have h2 := h y List.mem_cons_self
      cases hqy : q y with
      | true => rw [List.filter_cons_of_pos hqy, List.filter_cons_of_pos (h2 hqy)]; exact Nat.succ_lt_succ IH
      | false =>
        rw [List.filter_cons_of_neg (by rw [hqy]; simp)]
        cases hpy : p y with
        | true => rw [List.filter_cons_of_pos hpy]; exact Nat.lt_succ_of_lt IH
        | false => rw [List.filter_cons_of_neg (by rw [hpy]; simp)]; exact IH
theorem restT_lt {pool out : List NC} {day : Int} (h : (roundT pool day out).length ≠ out.length) : restT pool (roundT pool day out) < restT pool out := by
  obtain ⟨t, e, ht⟩ := roundT_ext pool day out
  rw [e] at h ⊢
  have hne : t ≠ [] := fun q => h (by rw [q]; simp)
  obtain ⟨c, hc⟩ := List.exists_mem_of_ne_nil t hne
  obtain ⟨q1, _, q3, _⟩ := ht c hc
  refine filter_lt _ _ pool (fun x _ hx => ?_) ⟨c, q1, decide_eq_true q3, decide_eq_false (fun q => q (List.mem_append_right _ hc))⟩
  have hx' : x ∉ out ++ t := of_decide_eq_true hx
  exact decide_eq_true fun q => hx' (List.mem_append_left _ q)
/-- More rounds than the pool has certificates come to the same. -/
theorem trT_more (pool : List NC) (day : Int) : ∀ (n m : Nat) (out : List NC), restT pool out < n → restT pool out < m → trT pool day n out = trT pool day m out
  | 0, _, _, h, _ => absurd h (Nat.not_lt_zero _)
  | _, 0, _, _, h => absurd h (Nat.not_lt_zero _)
  | n + 1, m + 1, out, hn, hm => by
    unfold trT
    by_cases h : (roundT pool day out).length = out.length
    · rw [if_pos h, if_pos h]
    · rw [if_neg h, if_neg h]
      have := restT_lt h
      exact trT_more pool day n m _ (by omega) (by omega)
/-- What is reached from a list. -/
def allT (pool : List NC) (day : Int) (out : List NC) : List NC := trT pool day (pool.length + 1) out
theorem allT_stop {pool out : List NC} {day : Int} (h : (roundT pool day out).length = out.length) : allT pool day out = out := by
  unfold allT trT
  rw [if_pos h]
theorem allT_step {pool out : List NC} {day : Int} (h : (roundT pool day out).length ≠ out.length) : allT pool day out = allT pool day (roundT pool day out) := by
  have hl := restT_lt h
  have h1 := restT_le pool out
  have h2 := restT_le pool (roundT pool day out)
  have e : allT pool day out = trT pool day pool.length (roundT pool day out) := by
    unfold allT
    rw [trT, if_neg h]
  rw [e]
  exact trT_more pool day _ _ _ (by omega) (by omega)
end Go.Proofs.YtkjplpmogfmhkaaGreatDoor
namespace Go.Proofs.YtkjplpmogfmhkaaGreatDoor
open Go.RowKit
set_option linter.unusedVariables false
set_option maxRecDepth 100000
theorem rt_kind {c : NC} (h : rtN c = true) : c.kind = 1 ∧ vfN c.key c = true := by
  unfold rtN at h
  split at h
  · rename_i q
    exact ⟨q, h⟩
  · cases h
theorem firstT_foldl (st : List UInt8) (day : Int) : ∀ (l acc : List NC), ∀ c ∈ l.foldl (firstStep st day) acc, c ∈ acc ∨ (c ∈ l ∧ rootP st day c)
  | [], acc, c, hc => .inl hc
  | x :: l, acc, c, hc => by
    rcases firstT_foldl st day l _ c hc with h | h
    · unfold firstStep at h
      split at h
      · rename_i q
        rcases List.mem_append.1 h with h | h
        · exact .inl h
        · obtain rfl := List.mem_singleton.1 h
          exact .inr ⟨List.mem_cons_self, q.1⟩
      · exact .inl h
    · exact .inr ⟨List.mem_cons_of_mem _ h.1, h.2⟩
theorem firstT_mem {roots : List NC} {st : List UInt8} {day : Int} {c : NC} (h : c ∈ firstT roots st day) : c ∈ roots ∧ rootP st day c :=
  (firstT_foldl st day roots [] c h).resolve_left (by simp)
theorem firstStep_keep {st : List UInt8} {day : Int} {acc : List NC} {x c : NC} (h : c ∈ acc) : c ∈ firstStep st day acc x := by
  unfold firstStep
  split
  · exact List.mem_append_left _ h
  · exact h
theorem firstT_keep (st : List UInt8) (day : Int) : ∀ (l acc : List NC) (c : NC), c ∈ acc → c ∈ l.foldl (firstStep st day) acc
  | [], _, _, h => h
  | x :: l, acc, c, h => firstT_keep st day l _ c (firstStep_keep h)
theorem firstT_all (st : List UInt8) (day : Int) : ∀ (l acc : List NC) (c : NC), c ∈ l → rootP st day c → c ∈ l.foldl (firstStep st day) acc
  | x :: l, acc, c, h, hp => by
    rcases List.mem_cons.1 h with rfl | h
    · refine firstT_keep st day l _ c ?_
      unfold firstStep
      by_cases hm : c ∈ acc
      · rw [if_neg (fun q => q.2 hm)]; exact hm
      · rw [if_pos ⟨hp, hm⟩]; exact List.mem_append_right _ List.mem_cons_self
    · exact firstT_all st day l _ c h hp
theorem firstT_iff {roots : List NC} {st : List UInt8} {day : Int} {c : NC} : c ∈ firstT roots st day ↔ c ∈ roots ∧ rootP st day c :=
  ⟨firstT_mem, fun h => firstT_all st day roots [] c h.1 h.2⟩
/-! ### What is in the list -/
theorem trT_ext (pool : List NC) (day : Int) : ∀ (n : Nat) (out : List NC), ∃ t, trT pool day n out = out ++ t ∧ ∀ c ∈ t, c ∈ pool ∧ c.kind = 2
  | 0, out => ⟨[], (List.append_nil _).symm, fun c h => by cases h⟩
  | n + 1, out => by
    unfold trT
    split
    · exact ⟨[], (List.append_nil _).symm, fun c h => by cases h⟩
    · obtain ⟨t1, e1, h1⟩ := roundT_ext pool day out
      obtain ⟨t2, e2, h2⟩ := trT_ext pool day n (roundT pool day out)
      refine ⟨t1 ++ t2, by rw [e2, e1, List.append_assoc], fun c hc => ?_⟩
      rcases List.mem_append.1 hc with hc | hc
      · exact ⟨(h1 c hc).1, (h1 c hc).2.1⟩
      · exact h2 c hc
theorem trust_ext (roots pool : List NC) (st : List UInt8) (day : Int) : ∃ t, trustT roots pool st day = firstT roots st day ++ t ∧ ∀ c ∈ t, c ∈ pool ∧ c.kind = 2 := trT_ext pool day _ _
/-! ### What a path proves -/
/-- Each follows the one before it. -/
def chainB (day : Int) : List NC → Bool
  | a :: b :: l => folB day a b && chainB day (b :: l)
  | _ => true
end Go.Proofs.YtkjplpmogfmhkaaGreatDoor
namespace Go.Proofs.YtkjplpmogfmhkaaGreatDoor
open Go.RowKit
set_option linter.unusedVariables false
/-- Slices of different types own different blocks. -/
theorem OwnK.row_ne {w : World} {B B2 e1 e2 k1 k2 : Nat} {v1 v2 : Value} {x1 x2 : List Value} (h1 : OwnK w B e1 k1 v1 x1) (h2 : OwnK w B2 e2 k2 v2 x2) (hne : e1 ≠ e2) : rowOf v2 = none ∨ rowOf v2 ≠ rowOf v1 := by
  obtain ⟨A1, n1, c1, rfl, _, h1⟩ := h1
  obtain ⟨A2, n2, c2, rfl, _, h2⟩ := h2
  rcases h2 with ⟨_, rfl⟩ | ⟨g2, cur2, rfl, _, hg2, _⟩
  · left; cases A2 <;> rfl
  · cases c2 with
    | zero => left; rfl
    | succ c2 =>
      right
      rcases h1 with ⟨_, rfl⟩ | ⟨g1, cur1, rfl, _, hg1, _⟩
      · cases A1 <;> simp [rowOf]
      · cases c1 with
        | zero => simp [rowOf]
        | succ c1 =>
          simp only [rowOf, ne_eq, Option.some.injEq]
          intro e
          subst e
          rw [hg1] at hg2
          injection hg2 with hg2
          injection hg2 with _ hg2
          exact hne hg2
/-- A slice whose block is of another type than a block is apart from it. -/
theorem OwnK.row_blk {w : World} {B e k g T : Nat} {v : Value} {x : List Value} {cs : Array Value} {fr : Nat × Nat} (h : OwnK w B e k v x) (hg : w.heap[g]? = some (.cells cs T fr)) (hne : e ≠ T) : rowOf v ≠ some g := by
  obtain ⟨A, n, c, rfl, _, h⟩ := h
  rcases h with ⟨_, rfl⟩ | ⟨g1, cur1, rfl, _, hg1, _⟩
  · cases A <;> simp [rowOf]
  · cases c with
    | zero => simp [rowOf]
    | succ c =>
      simp only [rowOf, ne_eq, Option.some.injEq]
      intro e
      subst e
      rw [hg1] at hg
      injection hg with hg
      injection hg with _ hg
      exact hne hg
theorem rowOf_bd {w : World} {B e k : Nat} {v : Value} {x : List Value} (h : OwnK w B e k v x) : ∀ r, rowOf v = some r → r < w.heap.size := by
  obtain ⟨A, n, c, rfl, _, h⟩ := h
  intro r hr
  rcases h with ⟨_, rfl⟩ | ⟨g1, cur1, rfl, _, hg1, _⟩
  · cases A <;> simp [rowOf] at hr
  · cases c with
    | zero => simp [rowOf] at hr
    | succ c =>
      simp only [rowOf, Option.some.injEq] at hr
      subst hr
      exact block_lt hg1
theorem run_appKS {P : Program} {w : World} {t ty e : TypeId} {k bytes B : Nat} (hk : 0 < k) (he : ElemK P t e k bytes) {v src : Value} {n m : Nat} {xs news : List Value} (hown : OwnK w B e k v xs) (hnx : n * k = xs.length) (hr : RdK w k src news) (hmx : m * k = news.length) (hm : 0 < m) (h1 : ∀ u ∈ news, u.oneCell' = true)
    (hb : (n + m) * bytes ≤ 140737488355328) (h63 : n + m ≤ maxLen) (hB : B ≤ w.heap.size) :
    ∃ A c w', (Builtin.append_ #[t, t] ty #[v, src]).run P w = .ok (.slice A (n + m) c) w' ∧ OwnK w' B e k (.slice A (n + m) c) (xs ++ news) ∧ w.grownBy w' (rowOf v) ∧ OwnK w' B e k v xs ∧
      ∀ A1 c1, OwnK w B e k (.slice A1 (n + m) c1) (xs ++ news) → OwnK w' B e k (.slice A1 (n + m) c1) (xs ++ news) := by
  obtain ⟨A', c', w', r1, o1, g1, f1⟩ := run_appKR (P := P) (ty := ty) hk he hown hnx hr hmx h1 hb h63 hB
  obtain ⟨i, z, ht, hi, hz, hsz, hby, hzs⟩ := he.ex
  obtain ⟨A2, m', c2, rfl, hm', hmc, hcm2, hcells⟩ := hr
  obtain rfl : m' = m := Nat.eq_of_mul_eq_mul_right hk (hm'.trans hmx.symm)
  obtain ⟨b2, o2, rfl, hc2⟩ := hcells hm
  have hnews : ∀ j u, news[j]? = some u → w.cell? ((⟨b2, o2, none⟩ : Addr).add j) = some u := by
    intro j u hu
    rw [Addr.add_lit]
    exact hc2 j u hu
  refine ⟨A', c', w', r1, o1, g1, ?_⟩
  have hown0 := hown
  obtain ⟨A, n', c, rfl, hn, hcase⟩ := hown
  obtain rfl : n' = n := Nat.eq_of_mul_eq_mul_right hk (hn.trans hnx.symm)
  -- where the block stays as it was
  have ext : Ext w w' → OwnK w' B e k (.slice A n' c) xs ∧ ∀ A1 c1, OwnK w B e k (.slice A1 (n' + m') c1) (xs ++ news) → OwnK w' B e k (.slice A1 (n' + m') c1) (xs ++ news) := fun h => ⟨hown0.ext h, fun A1 c1 h2 => h2.ext h⟩
  rcases hcase with ⟨h0, hc0⟩ | ⟨g, cur, rfl, hbg, hg, hnc, hcm, hcs, htk⟩
  · subst hc0
    refine ext ((Below.refl w.heap.size w).grown g1 (Nat.le_refl _) fun r hr => ?_)
    cases A <;> simp [rowOf] at hr
  · by_cases hc0 : c = 0
    · subst hc0
      refine ext ((Below.refl w.heap.size w).grown g1 (Nat.le_refl _) fun r hr => ?_)
      simp [rowOf] at hr
    · by_cases hroom : n' + m' ≤ c
      · have hfit : n' * i.size + news.length ≤ cur.size := by rw [hsz, hcs, ← hmx, ← Nat.add_mul]; exact Nat.mul_le_mul_right _ hroom
        have r2 := run_append_room (P := P) w t ty e i ht hi g n' c cur hg ⟨b2, o2, none⟩ m' c2 news (by rw [hsz]; exact hmx.symm) hnews h1 hroom hfit
        rw [r2] at r1
        injection r1 with q1 q2
        have hw : w'.heap[g]? = some (.cells (cur.toList.take (n' * i.size) ++ news ++ cur.toList.drop (n' * i.size + news.length)).toArray e (0, 0)) := by
          rw [← q2]
          exact setRow_heap w g cur _ e _ hg
        rw [hsz] at hw hfit
        have hsize : (cur.toList.take (n' * k) ++ news ++ cur.toList.drop (n' * k + news.length)).toArray.size = cur.size := by
          simp only [List.size_toArray, List.length_append, List.length_take, List.length_drop, Array.length_toList]
          omega
        have htk2 : cur.toList.take (n' * k) = xs := htk
        have hl : (xs ++ news).length = (n' + m') * k := by rw [List.length_append, ← hnx, ← hmx, Nat.add_mul]
        refine ⟨⟨_, n', c, rfl, hn, .inr ⟨g, _, rfl, hbg, hw, hnc, hcm, by rw [hsize]; exact hcs, ?_⟩⟩, fun A1 c1 h2 => ?_⟩
        · rw [htk2, List.append_assoc, hn]
          exact List.take_left
        · obtain ⟨A9, n9, c9, e9, hn9, h2⟩ := h2
          injection e9 with e1 e2 e3
          subst e1 e2 e3
          rcases h2 with h2 | ⟨g9, cur9, rfl, hb9, hg9, hnc9, hcm9, hcs9, ht9⟩
          · exact ⟨_, _, _, rfl, hn9, .inl h2⟩
          · by_cases hgg : g9 = g
            · subst hgg
              rw [hg] at hg9
              injection hg9 with hg9
              injection hg9 with hg9
              subst hg9
              refine ⟨_, _, _, rfl, hn9, .inr ⟨g9, _, rfl, hbg, hw, hnc9, hcm9, by rw [hsize]; exact hcs9, ?_⟩⟩
              rw [htk2, ← hl]
              exact List.take_left
            · refine ⟨_, _, _, rfl, hn9, .inr ⟨g9, cur9, rfl, hb9, (g1.block g9 (block_lt hg9) fun q => ?_).trans hg9, hnc9, hcm9, hcs9, ht9⟩⟩
              obtain ⟨c', rfl⟩ : ∃ c', c = c' + 1 := ⟨c - 1, by omega⟩
              have q : some g = some g9 := by first | exact q | exact q.symm
              injection q with q
              exact hgg q.symm
      · have holds : ∀ j u, xs[j]? = some u → w.cell? ((⟨g, 0, none⟩ : Addr).add j) = some u := by
          intro j u hu
          rw [Addr.add_lit]
          show w.cell? ⟨g, 0 + j, none⟩ = _
          rw [Nat.zero_add, cell_of_row w g j cur e (0, 0) hg]
          rw [← htk, List.getElem?_take] at hu
          split at hu
          · simpa using hu
          · cases hu
        have hbb : (n' + m') * i.bytes ≤ 140737488355328 := by rw [hby]; exact hb
        have r2 := run_append_grow (P := P) w t ty e i z ht hi hz ⟨g, 0, none⟩ n' c xs (by rw [hsz]; exact hn.symm) holds ⟨b2, o2, none⟩ m' c2 news (by rw [hsz]; exact hmx.symm) hnews (by omega) (by unfold maxLen at h63; omega) (growslice_fits (by omega) hbb)
        rw [r2] at r1
        injection r1 with q1 q2
        refine ext ?_
        rw [← q2]
        exact (Below.refl _ _).drew.alloc (Nat.le_refl _) _
namespace Gr
open Go.Proofs.YtkjplpmogfmhkaaGreatDoor.Gd (GRun)
section
variable {r : Rl} {P : Program} {ops : Array Oper} {Q : Exit → Act → World → Prop} {w0 : World} {R : Act → World → Prop}
/-- append, whatever holes it reads. -/
theorem wpX_appL {o : Oper} {rest : List Oper} {a : Act} {hs : List (Nat × VPred)} {d : Nat} (hg : GRun ops o a hs) (g : VPred) (hst : r.stable g) {t : TypeId} {s x : Operand} (sv xv : (Nat → Value) → Value)
    (hd : o.dst = some d) (hz : Nat.blt d a.tmps.size = true) (ho : o.op = .call { callee := .builtin .append, args := #[s, x], argTypes := #[t, t] }) (hin : (opTmps o).all (fun t => Nat.blt t a.tmps.size) = true) (hqs : okOp a s = true) (hqx : okOp a x = true)
    (hs' : ∀ f, evF a hs f s = sv f) (hx' : ∀ f, evF a hs f x = xv f)
    (h : ∀ (m : r.Lt w0) (f : Nat → Value), (∀ t p, hs.lookup t = some p → (opTmps o).contains t = true → p (f t) m.1) → ∃ v w'', (Builtin.append_ #[t, t] o.type #[sv f, xv f]).run P m.1 = .ok v w'' ∧ r.rel m.1 w'' ∧ g v w'')
    (hr : wpX r P ops Q w0 R rest (a.put (some d) undef) ((d, g) :: hs)) : wpX r P ops Q w0 R (o :: rest) a hs :=
  wpX_useL hg g hst hd hz (by unfold notSelect; rw [ho]) hin (fun m f hf K hK => by
    obtain ⟨v, w'', h1, h2, h3⟩ := h m f hf
    have e1 : (fillH a hs f).eval s = sv f := (ev_fill hqs).trans (hs' f)
    have e2 : (fillH a hs f).eval x = xv f := (ev_fill hqx).trans (hx' f)
    unfold Oper.wp execOp
    simp only [ho, resolve, invoke, builtin, Sem.run_bind, Sem.run_pure, Result.andThen_ok, List.map_toArray, List.map_cons, List.map_nil, e1, e2, h1]
    refine hK _ _ (by rw [hd]; show ((fillH a hs f).put (some d) v).defers = _; simp [Act.put, fillH_defers]) ⟨h2, by rw [hd, eval_put_same (fill_put_size f d hz)]; exact h3⟩) hr
/-- A nil check of a pointer that is none. -/
theorem wpX_nil {o : Oper} {rest : List Oper} {a : Act} {hs : List (Nat × VPred)} {d : Nat} (hg : GRun ops o a hs) (ad : Addr) {x : Operand} (hd : o.dst = some d) (hz : Nat.blt d a.tmps.size = true) (ho : o.op = .nilCheck x) (hx : a.eval x = .pointer (some ad)) (hn : noHole o hs = true)
    (hr : wpX r P ops Q w0 R rest (a.put (some d) (.pointer (some ad))) hs) : wpX r P ops Q w0 R (o :: rest) a hs :=
  wpX_call hg (.pointer (some ad)) hd hz (by unfold notSelect; rw [ho]) hn (fun m K hK => by
    unfold Oper.wp execOp
    simp only [ho, hx, Sem.run_pure, Oper.upon]
    exact hK _ _ (by rw [hd]; rfl) ⟨r.refl _, by rw [hd, eval_put_same (blt_lt hz)]⟩) hr
end
end Gr
end Go.Proofs.YtkjplpmogfmhkaaGreatDoor
namespace Go.Proofs.YtkjplpmogfmhkaaGreatDoor
open Go.RowKit
set_option linter.unusedVariables false
theorem wp_sameOp {P : Program} {o o2 : Oper} (h1 : o2.op = o.op) (h2 : o2.dst = o.dst) (h3 : o2.type = o.type) {a : Act} {w : World} {K : Act → World → Prop} {Q : Exit → Act → World → Prop} (h : o2.wp P a w K Q) : o.wp P a w K Q := by
  obtain ⟨d, op, ty, ps, af, gd⟩ := o
  obtain ⟨d2, op2, ty2, ps2, af2, gd2⟩ := o2
  simp only at h1 h2 h3
  subst h1 h2 h3
  exact h
theorem asks_sameOp {P : Program} {o o2 : Oper} (h1 : o2.op = o.op) (h2 : o2.dst = o.dst) (h3 : o2.type = o.type) {a : Act} {w : World} (h : o2.asks P a w) : o.asks P a w := by
  obtain ⟨d, op, ty, ps, af, gd⟩ := o
  obtain ⟨d2, op2, ty2, ps2, af2, gd2⟩ := o2
  simp only at h1 h2 h3
  subst h1 h2 h3
  exact h
/-- The rest of a region, told in places of its own. -/
def chkRe (ops ops2 : Array Oper) (l1 : Array Bool) (s : List Nat) : Bool :=
  decide (l1.size = ops.size) && decide (s.length = ops2.size) &&
  (List.range s.length).all (fun k => (List.range s.length).all fun m => k == m || s.getD k 0 != s.getD m 0) &&
  (List.range s.length).all (fun k => decide (s.getD k 0 < ops.size) && !l1.getD (s.getD k 0) true) &&
  (List.range ops.size).all (fun i => l1.getD i true || (List.range s.length).any fun k => s.getD k 0 == i) &&
  (List.range s.length).all (fun k => match ops[s.getD k 0]?, ops2[k]? with
    | some o, some o2 => o.guard.isNone && o2.guard.isNone &&
      o.after.all (fun e => !Region.binds .any e || l1.getD e.on false || o2.after.any fun e2 => Region.binds .any e2 && decide (e2.on < s.length) && s.getD e2.on 0 == e.on) &&
      o2.after.all (fun e2 => !Region.binds .any e2 || (decide (e2.on < s.length) && o.after.any fun e => Region.binds .any e && s.getD e2.on 0 == e.on))
    | _, _ => false)
structure ReIx (ops ops2 : Array Oper) (l1 : Array Bool) (s : List Nat) : Prop where
  size1 : l1.size = ops.size
  size2 : s.length = ops2.size
  inj : ∀ k m, k < s.length → m < s.length → s.getD k 0 = s.getD m 0 → k = m
  lt : ∀ k, k < s.length → s.getD k 0 < ops.size ∧ l1.getD (s.getD k 0) true = false
  onto : ∀ i, i < ops.size → l1.getD i true = false → ∃ k, k < s.length ∧ s.getD k 0 = i
  edge : ∀ k, k < s.length → ∃ o o2, ops[s.getD k 0]? = some o ∧ ops2[k]? = some o2 ∧ o.guard = none ∧ o2.guard = none ∧
    (∀ e ∈ o.after, Region.binds .any e = true → l1.getD e.on false = true ∨ ∃ e2 ∈ o2.after, Region.binds .any e2 = true ∧ e2.on < s.length ∧ s.getD e2.on 0 = e.on) ∧
    (∀ e2 ∈ o2.after, Region.binds .any e2 = true → e2.on < s.length ∧ ∃ e ∈ o.after, Region.binds .any e = true ∧ s.getD e2.on 0 = e.on)
theorem reIx_of {ops ops2 : Array Oper} {l1 : Array Bool} {s : List Nat} (h : chkRe ops ops2 l1 s = true) : ReIx ops ops2 l1 s := by
  unfold chkRe at h
  simp only [Bool.and_eq_true, decide_eq_true_eq] at h
  obtain ⟨⟨⟨⟨⟨h1, h2⟩, h3⟩, h4⟩, h5⟩, h6⟩ := h
  refine ⟨h1, h2, fun k m hk hm e => ?_, fun k hk => ?_, fun i hi hl => ?_, fun k hk => ?_⟩
  · have q := List.all_eq_true.1 (List.all_eq_true.1 h3 k (List.mem_range.2 hk)) m (List.mem_range.2 hm)
    simp only [Bool.or_eq_true, beq_iff_eq, bne_iff_ne] at q
    exact q.resolve_right (fun q => q e)
  · have q := List.all_eq_true.1 h4 k (List.mem_range.2 hk)
    simpa using q
  · have q := List.all_eq_true.1 h5 i (List.mem_range.2 hi)
    rw [hl, Bool.false_or] at q
    obtain ⟨k, hk, e⟩ := List.any_eq_true.1 q
    exact ⟨k, List.mem_range.1 hk, by simpa using e⟩
  · have q := List.all_eq_true.1 h6 k (List.mem_range.2 hk)
    split at q
    · rename_i o o2 ho ho2
      simp only [Bool.and_eq_true, Option.isNone_iff_eq_none] at q
      obtain ⟨⟨⟨g1, g2⟩, f⟩, b⟩ := q
      refine ⟨o, o2, ho, ho2, g1, g2, fun e he hb => ?_, fun e2 he hb => ?_⟩
      · have q := Array.all_eq_true_iff_forall_mem.1 f e he
        simp only [hb, Bool.not_true, Bool.false_or, Bool.or_eq_true] at q
        rcases q with q | q
        · exact .inl q
        · obtain ⟨e2, he2, q⟩ := Array.any_eq_true'.1 q
          simp only [Bool.and_eq_true, decide_eq_true_eq, beq_iff_eq] at q
          exact .inr ⟨e2, he2, q.1.1, q.1.2, q.2⟩
      · have q := Array.all_eq_true_iff_forall_mem.1 b e2 he
        simp only [hb, Bool.not_true, Bool.false_or, Bool.and_eq_true, decide_eq_true_eq] at q
        obtain ⟨e, he', q2⟩ := Array.any_eq_true'.1 q.2
        simp only [Bool.and_eq_true, beq_iff_eq] at q2
        exact ⟨q.1, e, he', q2.1, q2.2⟩
    · cases q
def keyO (o : Oper) : Op × Option Nat × TypeId := (o.op, o.dst, o.type)
theorem reidx {P : Program} {ops ops2 : Array Oper} {Q : Exit → Act → World → Prop} {l1 : Array Bool} {s : List Nat} (R : ReIx ops ops2 l1 s) (hsame : ∀ k o o2, k < s.length → ops[s.getD k 0]? = some o → ops2[k]? = some o2 → o2.op = o.op ∧ o2.dst = o.dst ∧ o2.type = o.type) :
    ∀ (fuel : Nat) (listed listed2 : Array Bool) (a : Act) (w : World), listed.size = ops.size → listed2.size = ops2.size → (∀ i, i < ops.size → l1.getD i true = true → listed.getD i true = true) → (∀ k, k < s.length → listed.getD (s.getD k 0) true = listed2.getD k true) →
      wpAny P .any ops2 Q fuel listed2 a w → wpAny P .any ops Q fuel listed a w := by
  have gd : ∀ (l : Array Bool) (i : Nat), i < l.size → l.getD i true = l.getD i false := fun l i h => by simp [h]
  have rdy : ∀ (listed listed2 : Array Bool), listed.size = ops.size → listed2.size = ops2.size → (∀ i, i < ops.size → l1.getD i true = true → listed.getD i true = true) → (∀ k, k < s.length → listed.getD (s.getD k 0) true = listed2.getD k true) →
      (∀ i, i ∈ Region.ready .any ops listed → ∃ k, k < s.length ∧ s.getD k 0 = i ∧ k ∈ Region.ready .any ops2 listed2) ∧ (∀ k, k ∈ Region.ready .any ops2 listed2 → s.getD k 0 ∈ Region.ready .any ops listed) := by
    intro listed listed2 z1 z2 hold heq
    refine ⟨fun i hi => ?_, fun k hk => ?_⟩
    · obtain ⟨hl, o, ho, hall⟩ := mem_ready.1 hi
      have hio := (Array.getElem?_eq_some_iff.1 ho).1
      have hl1 : l1.getD i true = false := by
        cases hc : l1.getD i true with
        | false => rfl
        | true => rw [hold i hio hc] at hl; cases hl
      obtain ⟨k, hk, rfl⟩ := R.onto i hio hl1
      obtain ⟨o', o2, ho', ho2, _, _, _, bw⟩ := R.edge k hk
      rw [ho] at ho'
      injection ho' with ho'
      subst ho'
      refine ⟨k, hk, rfl, mem_ready.2 ⟨by rw [← heq k hk]; exact hl, o2, ho2, fun e2 he hb => ?_⟩⟩
      obtain ⟨hlt, e, he', hb', hon⟩ := bw e2 he hb
      have := hall e he' hb'
      rw [← hon] at this
      have h3 := heq e2.on hlt
      rw [gd listed _ (by rw [z1]; exact (R.lt _ hlt).1), this] at h3
      rw [← gd listed2 _ (by rw [z2, ← R.size2]; exact hlt)]
      exact h3.symm
    · obtain ⟨hl, o2, ho2, hall⟩ := mem_ready.1 hk
      have hks : k < s.length := by rw [R.size2]; exact (Array.getElem?_eq_some_iff.1 ho2).1
      obtain ⟨o, o2', ho, ho2', _, _, fw, _⟩ := R.edge k hks
      rw [ho2] at ho2'
      injection ho2' with ho2'
      subst ho2'
      refine mem_ready.2 ⟨by rw [heq k hks]; exact hl, o, ho, fun e he hb => ?_⟩
      rcases fw e he hb with q | ⟨e2, he2, hb2, hlt, hon⟩
      · have hlt : e.on < ops.size := by
          rcases Nat.lt_or_ge e.on l1.size with h | h
          · rw [R.size1] at h; exact h
          · simp [Nat.not_lt.2 h] at q
        rw [← gd listed _ (by rw [z1]; exact hlt)]
        exact hold _ hlt (by rw [gd l1 _ (by rw [R.size1]; exact hlt)]; exact q)
      · have := hall e2 he2 hb2
        rw [← hon, ← gd listed _ (by rw [z1]; exact (R.lt _ hlt).1), heq _ hlt, gd listed2 _ (by rw [z2, ← R.size2]; exact hlt)]
        exact this
  intro fuel
  induction fuel with
  | zero =>
    intro listed listed2 a w z1 z2 hold heq h
    obtain ⟨r1, r2⟩ := rdy listed listed2 z1 z2 hold heq
    refine ⟨List.eq_nil_iff_forall_not_mem.2 fun i hi => ?_, h.2⟩
    obtain ⟨k, _, _, hk⟩ := r1 i hi
    have := h.1
    rw [this] at hk
    cases hk
  | succ fuel ih =>
    intro listed listed2 a w z1 z2 hold heq h
    obtain ⟨r1, r2⟩ := rdy listed listed2 z1 z2 hold heq
    refine ⟨fun h0 => h.1 (List.eq_nil_iff_forall_not_mem.2 fun k hk => ?_), fun i hi => ?_⟩
    · have := r2 k hk
      rw [h0] at this
      cases this
    · obtain ⟨k, hk, rfl, hk2⟩ := r1 i hi
      have h2 := h.2 k hk2
      obtain ⟨o, o2, ho, ho2, g1, g2, _, _⟩ := R.edge k hk
      obtain ⟨e1, e2, e3⟩ := hsame k o o2 hk ho ho2
      unfold wpOp at h2 ⊢
      simp only [ho2, ho] at h2 ⊢
      have w1 : Region.wanted o (yielded ops a.tmps) = true := by simp [Region.wanted, g1]
      have w2 : Region.wanted o2 (yielded ops2 a.tmps) = true := by simp [Region.wanted, g2]
      rw [if_pos w2] at h2
      rw [if_pos w1]
      refine h2.imp (fun h2 => wp_sameOp e1 e2 e3 (Oper.wp_mono (fun a' w' h3 => ?_) h2)) (fun h2 => ⟨asks_sameOp e1 e2 e3 h2.1, h2.2⟩)
      refine ih _ _ a' w' (by simpa using z1) (by simpa using z2) (fun i hi hl => ?_) (fun m hm => ?_) h3
      · by_cases q : i = s.getD k 0
        · subst q
          simp [z1]
        · rw [getD_set_ne true (Ne.symm q)]
          exact hold i hi hl
      · by_cases q : m = k
        · subst q
          have b1 := (R.lt m hm).1
          have b2 : m < ops2.size := by rw [← R.size2]; exact hm
          simp [z1, z2, b2]
        · have q2 : s.getD k 0 ≠ s.getD m 0 := fun e => q (R.inj k m hk hm e).symm
          rw [getD_set_ne true q2, getD_set_ne true (Ne.symm q)]
          exact heq m hm
theorem wpAny_takeD {P : Program} {ops : Array Oper} {Q : Exit → Act → World → Prop} {i : Nat} (d : Nat) {oi : Oper} {v : Value} {fuel : Nat} {listed : Array Bool} {a : Act} {w : World} (hi : ops[i]? = some oi) (hd : oi.dst = some d)
    (hs : Region.noSelect ops = true) (hf : Region.free .any ops listed i = true) (hr : (Region.ready .any ops listed).contains i = true)
    (hQ : ∀ c a w, Q (.panic c) (a.put oi.dst v) w → Q (.panic c) a w) (hy : Yields P ops oi v a)
    (h : wpAny P .any ops Q fuel (listed.setIfInBounds i true) (a.put (some d) v) w) : wpAny P .any ops Q (fuel + 1) listed a w :=
  wpAny_take hi hs hf hr hQ hy (by rw [hd]; exact h)
theorem same_of {ops ops2 : Array Oper} {s : List Nat} (h : (List.range s.length).map (fun k => (ops[s.getD k 0]?).map keyO) = (List.range s.length).map (fun k => (ops2[k]?).map keyO)) :
    ∀ k o o2, k < s.length → ops[s.getD k 0]? = some o → ops2[k]? = some o2 → o2.op = o.op ∧ o2.dst = o.dst ∧ o2.type = o.type := by
  intro k o o2 hk ho ho2
  have h2 := congrArg (fun l => l[k]?) h
  simp only [List.getElem?_map, List.getElem?_range hk, Option.map_some, ho, ho2, Option.some.injEq] at h2
  unfold keyO at h2
  simp only [Prod.mk.injEq] at h2
  exact ⟨h2.1.symm, h2.2.1.symm, h2.2.2.symm⟩
namespace Gr
instance ltNeR (r : Rl) (w : World) : Nonempty (r.Lt w) := ⟨⟨w, r.refl w⟩⟩
section
variable {r : Rl} {P : Program} {Q : Exit → Act → World → Prop}
/-- The law, where the order has been drawn. -/
theorem wpAny_X {a : Act} {w : World} {l : List Oper} (n : Nat) (hB : (chkHead l.toArray n && chkTail l.toArray n) = true)
    (h : wpX r P l.toArray Q w (fun a' w' => wpList P l.toArray Q (l.drop n) a' w') (l.take n) a []) : wpAny P .any l.toArray Q l.toArray.size (Array.replicate l.toArray.size false) a w := by
  simp only [Bool.and_eq_true] at hB
  have hk := headOk_of hB.1
  have hle : n ≤ l.length := by simpa using hk.le
  have htl : (l.take n).length = n := by simp; omega
  obtain ⟨gs, _, hob, hfin⟩ := wpX_out (a0 := a) hk (l.take n) 0 a [] [] (by rw [htl]; omega) (fun j hj => by
    rw [htl] at hj
    simp [hj]) ⟨rfl, rfl, rfl, fun t g h => (by cases h), fun t v w' _ h2 => h2 (fun j hj => by omega)⟩ h
  have := psi_main (P := P) (Q := Q) (n := n) (a0 := a) (w0 := w) (good := fun j => gs.getD j (fun _ _ => True)) hk hB.2 (fun i o hi ho => hob i o (Nat.zero_le _) hi ho) hfin
    (((List.range n).filter fun i => !(Array.replicate l.toArray.size false).getD i false).length) (Array.replicate l.toArray.size false) a w rfl
    ⟨by simp, fun j oj _ hl => (by rw [getD_replicate_false] at hl; cases hl), fun t _ ht => getD_in (by simpa using ht) (getD_replicate_false _ _)⟩
    ⟨r.refl _, rfl, rfl, fun j _ hl => (by rw [getD_replicate_false] at hl; cases hl), fun t _ => rfl⟩
  have hcnt : ((List.range n).filter fun i => !(Array.replicate l.toArray.size false).getD i false).length = n := by
    have : ((List.range n).filter fun i => !(Array.replicate l.toArray.size false).getD i false) = List.range n := List.filter_eq_self.2 fun i _ => by rw [getD_replicate_false]; rfl
    rw [this, List.length_range]
  rw [hcnt] at this
  rw [show n + (l.toArray.size - n) = l.toArray.size by simp; omega] at this
  exact this
end
end Gr
end Go.Proofs.YtkjplpmogfmhkaaGreatDoor
namespace Go.Proofs.YtkjplpmogfmhkaaGreatDoor
open Go.RowKit
set_option linter.unusedVariables false
set_option maxRecDepth 100000
def utoZ : List UInt8 := [85, 84, 79]
def deuN : List UInt8 := [68]
def xomN : List UInt8 := [88, 79, 77]
def zzzN : List UInt8 := [90, 90, 90]
/-- The name of a state. -/
def stateN (n : Int) : List UInt8 := if modI n 4 = 0 then utoZ else if modI n 4 = 1 then deuN else if modI n 4 = 2 then xomN else zzzN
theorem state_utoZ : stateP utoZ := by decide
theorem state_deu : stateP deuN := by decide
theorem stateN_ok (n : Int) : stateP (stateN n) := by
  unfold stateN
  split
  · exact state_utoZ
  · split
    · exact state_deu
    · split
      · exact (by decide : stateP xomN)
      · exact (by decide : stateP zzzN)
/-- A certificate that is signed with a secret. -/
def natC (k : Int) (st : List UInt8) (kind num iss own key fr un td : Int) : NC := isCN k ⟨st, kind, num, iss, own, key, fr, un, td, 0, 0⟩
/-- A certificate with these entries that is right under the key p. -/
structure IsNat (c : NC) (st : List UInt8) (kind num iss own key fr un td p : Int) : Prop where
  ck : ckN c = 0
  st : c.st = st
  kind : c.kind = kind
  num : c.num = num
  iss : c.iss = iss
  own : c.own = own
  key : c.key = key
  fr : c.fr = fr
  un : c.un = un
  tdd : c.to = td
  vf : vfN p c = true
theorem isNat {k : Int} {st : List UInt8} {kind num iss own key fr un td : Int} (hk : inB 1 1073741789 k = true) (h1 : stateP st) (h2 : 1 ≤ kind ∧ kind ≤ 4) (h3 : numsP num iss own kind) (h4 : isElem key = true) (h5 : termP fr un td) :
    IsNat (natC k st kind num iss own key fr un td) st kind num iss own key fr un td (pw 4 k) := by
  have hc : ckN ⟨st, kind, num, iss, own, key, fr, un, td, 0, 0⟩ = 0 := ckN_yes h1 (by show ¬ (kind < 1 ∨ 4 < kind); omega) h3 h4 h5
  have hv := vfN_issue hk hc
  have hw := (validN_issue hk hc).1
  unfold natC
  rw [isCN_in hk hc] at hv hw ⊢
  exact ⟨hw, rfl, rfl, rfl, rfl, rfl, rfl, rfl, rfl, rfl, hv⟩
theorem isNat_key {k : Int} {st : List UInt8} {kind num iss own key fr un td : Int} {c : NC} (h : IsNat c st kind num iss own key fr un td k) : smN c := sm_ofN h.ck
theorem IsNat.on {c : NC} {st : List UInt8} {kind num iss own key fr un td p day : Int} (h : IsNat c st kind num iss own key fr un td p) (h1 : fr ≤ day) (h2 : day ≤ td) : onN c day = 0 := by
  unfold onN
  rw [if_pos h.ck, if_neg (by rw [h.fr]; omega), if_neg (by rw [h.tdd]; omega)]
/-- A national authority. -/
structure AU where
  st : List UInt8
  next : Int
  roots : List NC
  links : List NC
  secs : List Int
  sg : NC
  ls : NC
  ssec : Int
  lsec : Int
def keyK (a : AU) (seed : Int) : Int := nearI (seed * 97 + (a.secs.length : Int) * 13)
def keyS (a : AU) (seed : Int) : Int := nearI (seed * 89 + (a.secs.length : Int) * 7 + 1)
def keyL (a : AU) (seed : Int) : Int := nearI (seed * 83 + (a.secs.length : Int) * 5 + 2)
/-- The number of the next signer. -/
def keyN (a : AU) : Int := if a.secs.length = 0 then a.next + 1 else a.next + 1 + 1
def rootC (a : AU) (seed day : Int) : NC := natC (keyK a seed) a.st 1 a.next ((a.secs.length : Int) + 1) ((a.secs.length : Int) + 1) (pw 4 (keyK a seed)) day (day + 1825) (day + 5475)
def linkC (a : AU) (seed day : Int) : NC := natC (a.secs.getD (a.secs.length - 1) 0) a.st 2 (a.next + 1) (a.secs.length : Int) ((a.secs.length : Int) + 1) (pw 4 (keyK a seed)) day (day + 1825) (day + 5475)
def signC (a : AU) (seed day : Int) : NC := natC (keyK a seed) a.st 3 (keyN a) ((a.secs.length : Int) + 1) (1000 + keyN a) (pw 4 (keyS a seed)) day (day + 90) (day + 3740)
def listC (a : AU) (seed day : Int) : NC := natC (keyK a seed) a.st 4 (keyN a + 1) ((a.secs.length : Int) + 1) (1000 + (keyN a + 1)) (pw 4 (keyL a seed)) day (day + 365) (day + 730)
/-- The authority with a further key. -/
def keyA (a : AU) (seed day : Int) : AU :=
  ⟨a.st, keyN a + 1 + 1, a.roots ++ [rootC a seed day], (if a.secs.length = 0 then a.links else a.links ++ [linkC a seed day]), a.secs ++ [keyK a seed], signC a seed day, listC a seed day, keyS a seed, keyL a seed⟩
def zeroA (st : List UInt8) : AU := ⟨st, 1, [], [], [], zeroN, zeroN, 0, 0⟩
theorem nearI_in (x : Int) : inB 1 1073741789 (nearI x) = true := near_in x
theorem elem_near (x : Int) : isElem (pw 4 (nearI x)) = true := by
  obtain ⟨h0, h1⟩ := inB_true (nearI_in x)
  exact pub_elem h0 h1
/-- What holds of an authority's certificates; ds: the days of its keys. -/
structure AuI (a : AU) (ds : List Int) : Prop where
  st : stateP a.st
  len : a.secs.length = ds.length
  le : ds.length ≤ 8
  next : 1 ≤ a.next ∧ a.next ≤ 1 + 4 * (ds.length : Int)
  days : ∀ d ∈ ds, 40000 ≤ d ∧ d ≤ 42000
  rlen : a.roots.length = ds.length
  llen : a.links.length = ds.length - 1
  sec : ∀ k ∈ a.secs, inB 1 1073741789 k = true
  rt : ∀ (i : Nat) (c : NC), a.roots[i]? = some c → ∃ k d num : Int, a.secs[i]? = some k ∧ ds[i]? = some d ∧ 1 ≤ num ∧ num ≤ 100 ∧ IsNat c a.st 1 num ((i : Int) + 1) ((i : Int) + 1) (pw 4 k) d (d + 1825) (d + 5475) (pw 4 k)
  lk : ∀ (i : Nat) (c : NC), a.links[i]? = some c → ∃ k k' d num : Int, a.secs[i]? = some k ∧ a.secs[i + 1]? = some k' ∧ ds[i + 1]? = some d ∧ 1 ≤ num ∧ num ≤ 100 ∧ IsNat c a.st 2 num ((i : Int) + 1) ((i : Int) + 1 + 1) (pw 4 k') d (d + 1825) (d + 5475) (pw 4 k)
  sg : ds ≠ [] → ∃ k d num : Int, a.secs[ds.length - 1]? = some k ∧ ds[ds.length - 1]? = some d ∧ 1 ≤ num ∧ num ≤ 100 ∧ inB 1 1073741789 a.ssec = true ∧ IsNat a.sg a.st 3 num (ds.length : Int) (1000 + num) (pw 4 a.ssec) d (d + 90) (d + 3740) (pw 4 k)
  ls : ds ≠ [] → ∃ k d num : Int, a.secs[ds.length - 1]? = some k ∧ ds[ds.length - 1]? = some d ∧ 1 ≤ num ∧ num ≤ 100 ∧ inB 1 1073741789 a.lsec = true ∧ IsNat a.ls a.st 4 num (ds.length : Int) (1000 + num) (pw 4 a.lsec) d (d + 365) (d + 730) (pw 4 k)
  ne : ds ≠ [] → a.sg.num ≠ a.ls.num
theorem auI_zero {st : List UInt8} (h : stateP st) : AuI (zeroA st) [] :=
  ⟨h, rfl, Nat.zero_le _, ⟨by show (1 : Int) ≤ 1; omega, by show (1 : Int) ≤ 1 + 4 * 0; omega⟩, fun d hd => (by cases hd), rfl, rfl, fun k hk => (by cases hk), fun i c hc => (by cases hc), fun i c hc => (by cases hc), fun q => absurd rfl q, fun q => absurd rfl q, fun q => absurd rfl q⟩
theorem snoc_get {α : Type} {l : List α} {x y : α} {i : Nat} (h : (l ++ [x])[i]? = some y) : l[i]? = some y ∨ (i = l.length ∧ y = x) := by
  by_cases hi : i < l.length
  · rw [List.getElem?_append_left hi] at h
    exact .inl h
  · rw [List.getElem?_append_right (by omega)] at h
    have h0 : i - l.length = 0 := by
      have := (List.getElem?_eq_some_iff.1 h).1
      simpa using this
    rw [h0] at h
    exact .inr ⟨by omega, (Option.some.inj h).symm⟩
theorem snoc_old {α : Type} {l : List α} {x y : α} {i : Nat} (h : l[i]? = some y) : (l ++ [x])[i]? = some y := by
  rw [List.getElem?_append_left (List.getElem?_eq_some_iff.1 h).1]
  exact h
theorem snoc_new {α : Type} (l : List α) (x : α) {n : Nat} (h : n = l.length) : (l ++ [x])[n]? = some x := by
  subst h
  simp
theorem keyN_eq (a : AU) : keyN a = a.next + 1 ∨ keyN a = a.next + 1 + 1 := by
  unfold keyN
  split
  · exact .inl rfl
  · exact .inr rfl
/-- One more key. -/
theorem auI_key {a : AU} {ds : List Int} (h : AuI a ds) (seed : Int) {day : Int} (h0 : 40000 ≤ day) (h1 : day ≤ 42000) (h8 : ds.length < 8) : AuI (keyA a seed day) (ds ++ [day]) := by
  have hn := h.next
  have hk := keyN_eq a
  have hl := h.len
  have hle : (a.secs.length : Int) ≤ 7 := by rw [hl]; omega
  have kin : inB 1 1073741789 (keyK a seed) = true := nearI_in _
  have hroot : IsNat (rootC a seed day) a.st 1 a.next ((ds.length : Int) + 1) ((ds.length : Int) + 1) (pw 4 (keyK a seed)) day (day + 1825) (day + 5475) (pw 4 (keyK a seed)) := by
    have := isNat (k := keyK a seed) (st := a.st) (kind := 1) (num := a.next) (iss := (a.secs.length : Int) + 1) (own := (a.secs.length : Int) + 1) (key := pw 4 (keyK a seed)) (fr := day) (un := day + 1825) (td := day + 5475) kin h.st ⟨by omega, by omega⟩
      ⟨⟨by omega, by omega⟩, ⟨by omega, by omega⟩, ⟨by omega, by omega⟩, ⟨fun _ => rfl, fun _ => rfl⟩⟩ (elem_near _) ⟨by omega, by omega, by omega, by omega⟩
    rw [show (ds.length : Int) = (a.secs.length : Int) by rw [hl]]
    exact this
  have hsign : IsNat (signC a seed day) a.st 3 (keyN a) ((ds.length : Int) + 1) (1000 + keyN a) (pw 4 (keyS a seed)) day (day + 90) (day + 3740) (pw 4 (keyK a seed)) := by
    have := isNat (k := keyK a seed) (st := a.st) (kind := 3) (num := keyN a) (iss := (a.secs.length : Int) + 1) (own := 1000 + keyN a) (key := pw 4 (keyS a seed)) (fr := day) (un := day + 90) (td := day + 3740) kin h.st ⟨by omega, by omega⟩
      ⟨⟨by omega, by omega⟩, ⟨by omega, by omega⟩, ⟨by omega, by omega⟩, ⟨fun _ => by omega, fun _ => by omega⟩⟩ (elem_near _) ⟨by omega, by omega, by omega, by omega⟩
    rw [show (ds.length : Int) = (a.secs.length : Int) by rw [hl]]
    exact this
  have hlist : IsNat (listC a seed day) a.st 4 (keyN a + 1) ((ds.length : Int) + 1) (1000 + (keyN a + 1)) (pw 4 (keyL a seed)) day (day + 365) (day + 730) (pw 4 (keyK a seed)) := by
    have := isNat (k := keyK a seed) (st := a.st) (kind := 4) (num := keyN a + 1) (iss := (a.secs.length : Int) + 1) (own := 1000 + (keyN a + 1)) (key := pw 4 (keyL a seed)) (fr := day) (un := day + 365) (td := day + 730) kin h.st ⟨by omega, by omega⟩
      ⟨⟨by omega, by omega⟩, ⟨by omega, by omega⟩, ⟨by omega, by omega⟩, ⟨fun _ => by omega, fun _ => by omega⟩⟩ (elem_near _) ⟨by omega, by omega, by omega, by omega⟩
    rw [show (ds.length : Int) = (a.secs.length : Int) by rw [hl]]
    exact this
  have el : (ds ++ [day]).length = ds.length + 1 := by simp
  have ec : (((ds ++ [day]).length : Nat) : Int) = (ds.length : Int) + 1 := by rw [el]; omega
  refine ⟨h.st, ?_, by rw [el]; omega, ?_, ?_, ?_, ?_, ?_, ?_, ?_, ?_, ?_, ?_⟩
  · show (a.secs ++ [_]).length = _
    rw [List.length_append, el, hl]
    rfl
  · show 1 ≤ keyN a + 1 + 1 ∧ keyN a + 1 + 1 ≤ _
    rw [ec]
    omega
  · intro d hd
    rcases List.mem_append.1 hd with hd | hd
    · exact h.days d hd
    · rw [List.mem_singleton.1 hd]; exact ⟨h0, h1⟩
  · show (a.roots ++ [_]).length = _
    rw [List.length_append, el, h.rlen]
    rfl
  · show (if a.secs.length = 0 then a.links else a.links ++ [linkC a seed day]).length = _
    rw [el]
    have := h.llen
    split
    · rename_i q
      rw [this]; omega
    · rename_i q
      rw [List.length_append, this]
      show ds.length - 1 + 1 = _
      omega
  · intro k hk
    rcases List.mem_append.1 hk with hk | hk
    · exact h.sec k hk
    · rw [List.mem_singleton.1 hk]; exact kin
  · intro i c hc
    rcases snoc_get hc with hc | ⟨hi, rfl⟩
    · obtain ⟨k, d, num, q1, q2, q3, q4, q5⟩ := h.rt i c hc
      exact ⟨k, d, num, snoc_old q1, snoc_old q2, q3, q4, q5⟩
    · rw [h.rlen] at hi
      subst hi
      exact ⟨_, _, _, snoc_new _ _ hl.symm, snoc_new _ _ rfl, hn.1, by omega, hroot⟩
  · intro i c hc
    by_cases h00 : a.secs.length = 0
    · have hc' : (if a.secs.length = 0 then a.links else a.links ++ [linkC a seed day])[i]? = some c := hc
      rw [if_pos h00] at hc'
      have := (List.getElem?_eq_some_iff.1 hc').1
      rw [h.llen] at this
      omega
    · have hc' : (if a.secs.length = 0 then a.links else a.links ++ [linkC a seed day])[i]? = some c := hc
      rw [if_neg h00] at hc'
      rcases snoc_get hc' with hc | ⟨hi, rfl⟩
      · obtain ⟨k, k', d, num, q1, q1', q2, q3, q4, q5⟩ := h.lk i c hc
        exact ⟨k, k', d, num, snoc_old q1, snoc_old q1', snoc_old q2, q3, q4, q5⟩
      · rw [h.llen] at hi
        have hsl : ds.length - 1 < a.secs.length := by omega
        obtain ⟨ko, hko⟩ : ∃ ko, a.secs[ds.length - 1]? = some ko := ⟨_, List.getElem?_eq_getElem hsl⟩
        have e1 : a.secs.getD (a.secs.length - 1) 0 = ko := by rw [hl, List.getD_eq_getElem?_getD, hko]; rfl
        have kin0 := h.sec ko (List.mem_of_getElem? hko)
        have hlink := isNat (k := ko) (st := a.st) (kind := 2) (num := a.next + 1) (iss := (a.secs.length : Int)) (own := (a.secs.length : Int) + 1) (key := pw 4 (keyK a seed)) (fr := day) (un := day + 1825) (td := day + 5475) kin0 h.st ⟨by omega, by omega⟩
          ⟨⟨by omega, by omega⟩, ⟨by omega, by omega⟩, ⟨by omega, by omega⟩, ⟨fun _ => by omega, fun _ => by omega⟩⟩ (elem_near _) ⟨by omega, by omega, by omega, by omega⟩
        subst hi
        refine ⟨ko, keyK a seed, day, a.next + 1, snoc_old hko, snoc_new _ _ (by omega), snoc_new _ _ (by omega), by omega, by omega, ?_⟩
        have ei : (((ds.length - 1 : Nat) : Int) + 1) = (a.secs.length : Int) := by omega
        rw [ei]
        unfold linkC
        rw [e1]
        exact hlink
  · intro _
    refine ⟨keyK a seed, day, keyN a, ?_, ?_, by omega, by omega, nearI_in _, ?_⟩
    · rw [el]; exact snoc_new _ _ (by omega)
    · rw [el]; exact snoc_new _ _ (by omega)
    · rw [ec]; exact hsign
  · intro _
    refine ⟨keyK a seed, day, keyN a + 1, ?_, ?_, by omega, by omega, nearI_in _, ?_⟩
    · rw [el]; exact snoc_new _ _ (by omega)
    · rw [el]; exact snoc_new _ _ (by omega)
    · rw [ec]; exact hlist
  · intro _
    show (signC a seed day).num ≠ (listC a seed day).num
    rw [hsign.num, hlist.num]
    omega
theorem root_nat {c : NC} {st : List UInt8} {num iss own key fr un td day : Int} (h : IsNat c st 1 num iss own key fr un td key) (d1 : fr ≤ day) (d2 : day ≤ td) : rootP st day c :=
  ⟨h.st, h.on d1 d2, by unfold rtN; rw [if_pos h.kind, h.key]; exact h.vf⟩
end Go.Proofs.YtkjplpmogfmhkaaGreatDoor
