/- Parts Wm Jk Jl of the proof. -/
import Derived.Test.YtmmoenkmicimcaaGreatDoorDRac
import Derived.Lib.SlBytesConst
import Derived.Test.YtmmoenkmicimcaaGreatDoorDRaa
namespace Go.Proofs.YtmmoenkmicimcaaGreatDoor.Gm
open Go Go.RowKit Go.Proofs.YtmmoenkmicimcaaGreatDoor
open Go.Proofs.YtmmoenkmicimcaaGreatDoor.Gd (opTmpsG gwp gwp_mono GRun GSkip gwp_run gwp_skip guardTmps plainOpG plain_enterG)
set_option linter.unusedVariables false
section
variable {P : Program} {ops : Array Oper} {Q : Exit → Act → World → Prop}

end
section
variable {P : Program} {ops : Array Oper} {Q : Exit → Act → World → Prop} {w0 : World} {R : Act → World → Prop}
/-- Operations that never enter a function; pick too. -/
def plainOpG (o : Oper) : Bool := plainOp o || (match o.op with | .pick .. => true | _ => false)
theorem plain_enterG {P : Program} {ρ : Operand → Value} {o : Oper} (hp : plainOpG o = true) {w w' : World} {f : FuncId} {args : Array Value} : (execOp ρ o).run P w ≠ .ok (.enter f args) w' := by
  unfold plainOpG at hp
  rw [Bool.or_eq_true] at hp
  rcases hp with hp | hp
  · exact plain_enter hp
  · obtain ⟨dst, op, type, pos, after, guard⟩ := o
    cases op <;> simp only [] at hp <;> first
      | (cases hp; done)
      | skip
    rename_i c x y
    intro h
    unfold execOp at h
    simp only [Sem.run_bind] at h
    cases hs : (asBool (ρ c)).run P w with
    | ok b w1 => rw [hs] at h; simp at h
    | halt b w1 => rw [hs] at h; simp at h
end
end Go.Proofs.YtmmoenkmicimcaaGreatDoor.Gm
namespace Go.Proofs.YtmmoenkmicimcaaGreatDoor
open Go.RowKit
set_option linter.unusedVariables false
/-- Slices of different types own different blocks. -/
theorem OwnK.row_ne {w : World} {B B2 e1 e2 k1 k2 : Nat} {v1 v2 : Value} {x1 x2 : List Value} (h1 : OwnK w B e1 k1 v1 x1) (h2 : OwnK w B2 e2 k2 v2 x2) (hne : e1 ≠ e2) : rowOf v2 = none ∨ rowOf v2 ≠ rowOf v1 := by
  obtain ⟨A1, n1, c1, rfl, _, h1⟩ := h1
  obtain ⟨A2, n2, c2, rfl, _, h2⟩ := h2
  rcases h2 with ⟨_, rfl⟩ | ⟨g2, cur2, rfl, _, hg2, _⟩
  · left; cases A2 <;> rfl
  · cases c2 with
    | zero => left; rfl
    | succ c2 =>
      right
      rcases h1 with ⟨_, rfl⟩ | ⟨g1, cur1, rfl, _, hg1, _⟩
      · cases A1 <;> simp [rowOf]
      · cases c1 with
        | zero => simp [rowOf]
        | succ c1 =>
          simp only [rowOf, ne_eq, Option.some.injEq]
          intro e
          subst e
          rw [hg1] at hg2
          injection hg2 with hg2
          injection hg2 with _ hg2
          exact hne hg2
/-- A slice whose block is of another type than a block is apart from it. -/
theorem OwnK.row_blk {w : World} {B e k g T : Nat} {v : Value} {x : List Value} {cs : Array Value} {fr : Nat × Nat} (h : OwnK w B e k v x) (hg : w.heap[g]? = some (.cells cs T fr)) (hne : e ≠ T) : rowOf v ≠ some g := by
  obtain ⟨A, n, c, rfl, _, h⟩ := h
  rcases h with ⟨_, rfl⟩ | ⟨g1, cur1, rfl, _, hg1, _⟩
  · cases A <;> simp [rowOf]
  · cases c with
    | zero => simp [rowOf]
    | succ c =>
      simp only [rowOf, ne_eq, Option.some.injEq]
      intro e
      subst e
      rw [hg1] at hg
      injection hg with hg
      injection hg with _ hg
      exact hne hg
theorem rowOf_bd {w : World} {B e k : Nat} {v : Value} {x : List Value} (h : OwnK w B e k v x) : ∀ r, rowOf v = some r → r < w.heap.size := by
  obtain ⟨A, n, c, rfl, _, h⟩ := h
  intro r hr
  rcases h with ⟨_, rfl⟩ | ⟨g1, cur1, rfl, _, hg1, _⟩
  · cases A <;> simp [rowOf] at hr
  · cases c with
    | zero => simp [rowOf] at hr
    | succ c =>
      simp only [rowOf, Option.some.injEq] at hr
      subst hr
      exact block_lt hg1
theorem run_appKS {P : Program} {w : World} {t ty e : TypeId} {k bytes B : Nat} (hk : 0 < k) (he : ElemK P t e k bytes) {v src : Value} {n m : Nat} {xs news : List Value} (hown : OwnK w B e k v xs) (hnx : n * k = xs.length) (hr : RdK w k src news) (hmx : m * k = news.length) (hm : 0 < m) (h1 : ∀ u ∈ news, u.oneCell' = true)
    (hb : (n + m) * bytes ≤ 140737488355328) (h63 : n + m ≤ maxLen) (hB : B ≤ w.heap.size) :
    ∃ A c w', (Builtin.append_ #[t, t] ty #[v, src]).run P w = .ok (.slice A (n + m) c) w' ∧ OwnK w' B e k (.slice A (n + m) c) (xs ++ news) ∧ w.grownBy w' (rowOf v) ∧ OwnK w' B e k v xs ∧
      ∀ A1 c1, OwnK w B e k (.slice A1 (n + m) c1) (xs ++ news) → OwnK w' B e k (.slice A1 (n + m) c1) (xs ++ news) := by
  obtain ⟨A', c', w', r1, o1, g1, f1⟩ := run_appKR (P := P) (ty := ty) hk he hown hnx hr hmx h1 hb h63 hB
  obtain ⟨i, z, ht, hi, hz, hsz, hby, hzs⟩ := he.ex
  obtain ⟨A2, m', c2, rfl, hm', hmc, hcm2, hcells⟩ := hr
  obtain rfl : m' = m := Nat.eq_of_mul_eq_mul_right hk (hm'.trans hmx.symm)
  obtain ⟨b2, o2, rfl, hc2⟩ := hcells hm
  have hnews : ∀ j u, news[j]? = some u → w.cell? ((⟨b2, o2, none⟩ : Addr).add j) = some u := by
    intro j u hu
    rw [Addr.add_lit]
    exact hc2 j u hu
  refine ⟨A', c', w', r1, o1, g1, ?_⟩
  have hown0 := hown
  obtain ⟨A, n', c, rfl, hn, hcase⟩ := hown
  obtain rfl : n' = n := Nat.eq_of_mul_eq_mul_right hk (hn.trans hnx.symm)
  -- where the block stays as it was
  have ext : Ext w w' → OwnK w' B e k (.slice A n' c) xs ∧ ∀ A1 c1, OwnK w B e k (.slice A1 (n' + m') c1) (xs ++ news) → OwnK w' B e k (.slice A1 (n' + m') c1) (xs ++ news) := fun h => ⟨hown0.ext h, fun A1 c1 h2 => h2.ext h⟩
  rcases hcase with ⟨h0, hc0⟩ | ⟨g, cur, rfl, hbg, hg, hnc, hcm, hcs, htk⟩
  · subst hc0
    refine ext ((Below.refl w.heap.size w).grown g1 (Nat.le_refl _) fun r hr => ?_)
    cases A <;> simp [rowOf] at hr
  · by_cases hc0 : c = 0
    · subst hc0
      refine ext ((Below.refl w.heap.size w).grown g1 (Nat.le_refl _) fun r hr => ?_)
      simp [rowOf] at hr
    · by_cases hroom : n' + m' ≤ c
      · have hfit : n' * i.size + news.length ≤ cur.size := by rw [hsz, hcs, ← hmx, ← Nat.add_mul]; exact Nat.mul_le_mul_right _ hroom
        have r2 := run_append_room (P := P) w t ty e i ht hi g n' c cur hg ⟨b2, o2, none⟩ m' c2 news (by rw [hsz]; exact hmx.symm) hnews h1 hroom hfit
        rw [r2] at r1
        injection r1 with q1 q2
        have hw : w'.heap[g]? = some (.cells (cur.toList.take (n' * i.size) ++ news ++ cur.toList.drop (n' * i.size + news.length)).toArray e (0, 0)) := by
          rw [← q2]
          exact setRow_heap w g cur _ e _ hg
        rw [hsz] at hw hfit
        have hsize : (cur.toList.take (n' * k) ++ news ++ cur.toList.drop (n' * k + news.length)).toArray.size = cur.size := by
          simp only [List.size_toArray, List.length_append, List.length_take, List.length_drop, Array.length_toList]
          omega
        have htk2 : cur.toList.take (n' * k) = xs := htk
        have hl : (xs ++ news).length = (n' + m') * k := by rw [List.length_append, ← hnx, ← hmx, Nat.add_mul]
        refine ⟨⟨_, n', c, rfl, hn, .inr ⟨g, _, rfl, hbg, hw, hnc, hcm, by rw [hsize]; exact hcs, ?_⟩⟩, fun A1 c1 h2 => ?_⟩
        · rw [htk2, List.append_assoc, hn]
          exact List.take_left
        · obtain ⟨A9, n9, c9, e9, hn9, h2⟩ := h2
          injection e9 with e1 e2 e3
          subst e1 e2 e3
          rcases h2 with h2 | ⟨g9, cur9, rfl, hb9, hg9, hnc9, hcm9, hcs9, ht9⟩
          · exact ⟨_, _, _, rfl, hn9, .inl h2⟩
          · by_cases hgg : g9 = g
            · subst hgg
              rw [hg] at hg9
              injection hg9 with hg9
              injection hg9 with hg9
              subst hg9
              refine ⟨_, _, _, rfl, hn9, .inr ⟨g9, _, rfl, hbg, hw, hnc9, hcm9, by rw [hsize]; exact hcs9, ?_⟩⟩
              rw [htk2, ← hl]
              exact List.take_left
            · refine ⟨_, _, _, rfl, hn9, .inr ⟨g9, cur9, rfl, hb9, (g1.block g9 (block_lt hg9) fun q => ?_).trans hg9, hnc9, hcm9, hcs9, ht9⟩⟩
              obtain ⟨c', rfl⟩ : ∃ c', c = c' + 1 := ⟨c - 1, by omega⟩
              have q : some g = some g9 := by first | exact q | exact q.symm
              injection q with q
              exact hgg q.symm
      · have holds : ∀ j u, xs[j]? = some u → w.cell? ((⟨g, 0, none⟩ : Addr).add j) = some u := by
          intro j u hu
          rw [Addr.add_lit]
          show w.cell? ⟨g, 0 + j, none⟩ = _
          rw [Nat.zero_add, cell_of_row w g j cur e (0, 0) hg]
          rw [← htk, List.getElem?_take] at hu
          split at hu
          · simpa using hu
          · cases hu
        have hbb : (n' + m') * i.bytes ≤ 140737488355328 := by rw [hby]; exact hb
        have r2 := run_append_grow (P := P) w t ty e i z ht hi hz ⟨g, 0, none⟩ n' c xs (by rw [hsz]; exact hn.symm) holds ⟨b2, o2, none⟩ m' c2 news (by rw [hsz]; exact hmx.symm) hnews (by omega) (by unfold maxLen at h63; omega) (growslice_fits (by omega) hbb)
        rw [r2] at r1
        injection r1 with q1 q2
        refine ext ?_
        rw [← q2]
        exact (Below.refl _ _).drew.alloc (Nat.le_refl _) _
end Go.Proofs.YtmmoenkmicimcaaGreatDoor
namespace Go.Proofs.YtmmoenkmicimcaaGreatDoor
open Go.RowKit
set_option linter.unusedVariables false
theorem wp_sameOp {P : Program} {o o2 : Oper} (h1 : o2.op = o.op) (h2 : o2.dst = o.dst) (h3 : o2.type = o.type) {a : Act} {w : World} {K : Act → World → Prop} {Q : Exit → Act → World → Prop} (h : o2.wp P a w K Q) : o.wp P a w K Q := by
  obtain ⟨d, op, ty, ps, af, gd⟩ := o
  obtain ⟨d2, op2, ty2, ps2, af2, gd2⟩ := o2
  simp only at h1 h2 h3
  subst h1 h2 h3
  exact h
theorem asks_sameOp {P : Program} {o o2 : Oper} (h1 : o2.op = o.op) (h2 : o2.dst = o.dst) (h3 : o2.type = o.type) {a : Act} {w : World} (h : o2.asks P a w) : o.asks P a w := by
  obtain ⟨d, op, ty, ps, af, gd⟩ := o
  obtain ⟨d2, op2, ty2, ps2, af2, gd2⟩ := o2
  simp only at h1 h2 h3
  subst h1 h2 h3
  exact h
/-- The rest of a region, told in places of its own. -/
def chkRe (ops ops2 : Array Oper) (l1 : Array Bool) (s : List Nat) : Bool :=
  decide (l1.size = ops.size) && decide (s.length = ops2.size) &&
  (List.range s.length).all (fun k => (List.range s.length).all fun m => k == m || s.getD k 0 != s.getD m 0) &&
  (List.range s.length).all (fun k => decide (s.getD k 0 < ops.size) && !l1.getD (s.getD k 0) true) &&
  (List.range ops.size).all (fun i => l1.getD i true || (List.range s.length).any fun k => s.getD k 0 == i) &&
  (List.range s.length).all (fun k => match ops[s.getD k 0]?, ops2[k]? with
    | some o, some o2 => o.guard.isNone && o2.guard.isNone &&
      o.after.all (fun e => !Region.binds .any e || l1.getD e.on false || o2.after.any fun e2 => Region.binds .any e2 && decide (e2.on < s.length) && s.getD e2.on 0 == e.on) &&
      o2.after.all (fun e2 => !Region.binds .any e2 || (decide (e2.on < s.length) && o.after.any fun e => Region.binds .any e && s.getD e2.on 0 == e.on))
    | _, _ => false)
structure ReIx (ops ops2 : Array Oper) (l1 : Array Bool) (s : List Nat) : Prop where
  size1 : l1.size = ops.size
  size2 : s.length = ops2.size
  inj : ∀ k m, k < s.length → m < s.length → s.getD k 0 = s.getD m 0 → k = m
  lt : ∀ k, k < s.length → s.getD k 0 < ops.size ∧ l1.getD (s.getD k 0) true = false
  onto : ∀ i, i < ops.size → l1.getD i true = false → ∃ k, k < s.length ∧ s.getD k 0 = i
  edge : ∀ k, k < s.length → ∃ o o2, ops[s.getD k 0]? = some o ∧ ops2[k]? = some o2 ∧ o.guard = none ∧ o2.guard = none ∧
    (∀ e ∈ o.after, Region.binds .any e = true → l1.getD e.on false = true ∨ ∃ e2 ∈ o2.after, Region.binds .any e2 = true ∧ e2.on < s.length ∧ s.getD e2.on 0 = e.on) ∧
    (∀ e2 ∈ o2.after, Region.binds .any e2 = true → e2.on < s.length ∧ ∃ e ∈ o.after, Region.binds .any e = true ∧ s.getD e2.on 0 = e.on)
theorem reIx_of {ops ops2 : Array Oper} {l1 : Array Bool} {s : List Nat} (h : chkRe ops ops2 l1 s = true) : ReIx ops ops2 l1 s := by
  unfold chkRe at h
  simp only [Bool.and_eq_true, decide_eq_true_eq] at h
  obtain ⟨⟨⟨⟨⟨h1, h2⟩, h3⟩, h4⟩, h5⟩, h6⟩ := h
  refine ⟨h1, h2, fun k m hk hm e => ?_, fun k hk => ?_, fun i hi hl => ?_, fun k hk => ?_⟩
  · have q := List.all_eq_true.1 (List.all_eq_true.1 h3 k (List.mem_range.2 hk)) m (List.mem_range.2 hm)
    simp only [Bool.or_eq_true, beq_iff_eq, bne_iff_ne] at q
    exact q.resolve_right (fun q => q e)
  · have q := List.all_eq_true.1 h4 k (List.mem_range.2 hk)
    simpa using q
  · have q := List.all_eq_true.1 h5 i (List.mem_range.2 hi)
    rw [hl, Bool.false_or] at q
    obtain ⟨k, hk, e⟩ := List.any_eq_true.1 q
    exact ⟨k, List.mem_range.1 hk, by simpa using e⟩
  · have q := List.all_eq_true.1 h6 k (List.mem_range.2 hk)
    split at q
    · rename_i o o2 ho ho2
      simp only [Bool.and_eq_true, Option.isNone_iff_eq_none] at q
      obtain ⟨⟨⟨g1, g2⟩, f⟩, b⟩ := q
      refine ⟨o, o2, ho, ho2, g1, g2, fun e he hb => ?_, fun e2 he hb => ?_⟩
      · have q := Array.all_eq_true_iff_forall_mem.1 f e he
        simp only [hb, Bool.not_true, Bool.false_or, Bool.or_eq_true] at q
        rcases q with q | q
        · exact .inl q
        · obtain ⟨e2, he2, q⟩ := Array.any_eq_true'.1 q
          simp only [Bool.and_eq_true, decide_eq_true_eq, beq_iff_eq] at q
          exact .inr ⟨e2, he2, q.1.1, q.1.2, q.2⟩
      · have q := Array.all_eq_true_iff_forall_mem.1 b e2 he
        simp only [hb, Bool.not_true, Bool.false_or, Bool.and_eq_true, decide_eq_true_eq] at q
        obtain ⟨e, he', q2⟩ := Array.any_eq_true'.1 q.2
        simp only [Bool.and_eq_true, beq_iff_eq] at q2
        exact ⟨q.1, e, he', q2.1, q2.2⟩
    · cases q
def keyO (o : Oper) : Op × Option Nat × TypeId := (o.op, o.dst, o.type)
theorem reidx {P : Program} {ops ops2 : Array Oper} {Q : Exit → Act → World → Prop} {l1 : Array Bool} {s : List Nat} (R : ReIx ops ops2 l1 s) (hsame : ∀ k o o2, k < s.length → ops[s.getD k 0]? = some o → ops2[k]? = some o2 → o2.op = o.op ∧ o2.dst = o.dst ∧ o2.type = o.type) :
    ∀ (fuel : Nat) (listed listed2 : Array Bool) (a : Act) (w : World), listed.size = ops.size → listed2.size = ops2.size → (∀ i, i < ops.size → l1.getD i true = true → listed.getD i true = true) → (∀ k, k < s.length → listed.getD (s.getD k 0) true = listed2.getD k true) →
      wpAny P .any ops2 Q fuel listed2 a w → wpAny P .any ops Q fuel listed a w := by
  have gd : ∀ (l : Array Bool) (i : Nat), i < l.size → l.getD i true = l.getD i false := fun l i h => by simp [h]
  have rdy : ∀ (listed listed2 : Array Bool), listed.size = ops.size → listed2.size = ops2.size → (∀ i, i < ops.size → l1.getD i true = true → listed.getD i true = true) → (∀ k, k < s.length → listed.getD (s.getD k 0) true = listed2.getD k true) →
      (∀ i, i ∈ Region.ready .any ops listed → ∃ k, k < s.length ∧ s.getD k 0 = i ∧ k ∈ Region.ready .any ops2 listed2) ∧ (∀ k, k ∈ Region.ready .any ops2 listed2 → s.getD k 0 ∈ Region.ready .any ops listed) := by
    intro listed listed2 z1 z2 hold heq
    refine ⟨fun i hi => ?_, fun k hk => ?_⟩
    · obtain ⟨hl, o, ho, hall⟩ := mem_ready.1 hi
      have hio := (Array.getElem?_eq_some_iff.1 ho).1
      have hl1 : l1.getD i true = false := by
        cases hc : l1.getD i true with
        | false => rfl
        | true => rw [hold i hio hc] at hl; cases hl
      obtain ⟨k, hk, rfl⟩ := R.onto i hio hl1
      obtain ⟨o', o2, ho', ho2, _, _, _, bw⟩ := R.edge k hk
      rw [ho] at ho'
      injection ho' with ho'
      subst ho'
      refine ⟨k, hk, rfl, mem_ready.2 ⟨by rw [← heq k hk]; exact hl, o2, ho2, fun e2 he hb => ?_⟩⟩
      obtain ⟨hlt, e, he', hb', hon⟩ := bw e2 he hb
      have := hall e he' hb'
      rw [← hon] at this
      have h3 := heq e2.on hlt
      rw [gd listed _ (by rw [z1]; exact (R.lt _ hlt).1), this] at h3
      rw [← gd listed2 _ (by rw [z2, ← R.size2]; exact hlt)]
      exact h3.symm
    · obtain ⟨hl, o2, ho2, hall⟩ := mem_ready.1 hk
      have hks : k < s.length := by rw [R.size2]; exact (Array.getElem?_eq_some_iff.1 ho2).1
      obtain ⟨o, o2', ho, ho2', _, _, fw, _⟩ := R.edge k hks
      rw [ho2] at ho2'
      injection ho2' with ho2'
      subst ho2'
      refine mem_ready.2 ⟨by rw [heq k hks]; exact hl, o, ho, fun e he hb => ?_⟩
      rcases fw e he hb with q | ⟨e2, he2, hb2, hlt, hon⟩
      · have hlt : e.on < ops.size := by
          rcases Nat.lt_or_ge e.on l1.size with h | h
          · rw [R.size1] at h; exact h
          · simp [Nat.not_lt.2 h] at q
        rw [← gd listed _ (by rw [z1]; exact hlt)]
        exact hold _ hlt (by rw [gd l1 _ (by rw [R.size1]; exact hlt)]; exact q)
      · have := hall e2 he2 hb2
        rw [← hon, ← gd listed _ (by rw [z1]; exact (R.lt _ hlt).1), heq _ hlt, gd listed2 _ (by rw [z2, ← R.size2]; exact hlt)]
        exact this
  intro fuel
  induction fuel with
  | zero =>
    intro listed listed2 a w z1 z2 hold heq h
    obtain ⟨r1, r2⟩ := rdy listed listed2 z1 z2 hold heq
    refine ⟨List.eq_nil_iff_forall_not_mem.2 fun i hi => ?_, h.2⟩
    obtain ⟨k, _, _, hk⟩ := r1 i hi
    have := h.1
    rw [this] at hk
    cases hk
  | succ fuel ih =>
    intro listed listed2 a w z1 z2 hold heq h
    obtain ⟨r1, r2⟩ := rdy listed listed2 z1 z2 hold heq
    refine ⟨fun h0 => h.1 (List.eq_nil_iff_forall_not_mem.2 fun k hk => ?_), fun i hi => ?_⟩
    · have := r2 k hk
      rw [h0] at this
      cases this
    · obtain ⟨k, hk, rfl, hk2⟩ := r1 i hi
      have h2 := h.2 k hk2
      obtain ⟨o, o2, ho, ho2, g1, g2, _, _⟩ := R.edge k hk
      obtain ⟨e1, e2, e3⟩ := hsame k o o2 hk ho ho2
      unfold wpOp at h2 ⊢
      simp only [ho2, ho] at h2 ⊢
      have w1 : Region.wanted o (yielded ops a.tmps) = true := by simp [Region.wanted, g1]
      have w2 : Region.wanted o2 (yielded ops2 a.tmps) = true := by simp [Region.wanted, g2]
      rw [if_pos w2] at h2
      rw [if_pos w1]
      refine h2.imp (fun h2 => wp_sameOp e1 e2 e3 (Oper.wp_mono (fun a' w' h3 => ?_) h2)) (fun h2 => ⟨asks_sameOp e1 e2 e3 h2.1, h2.2⟩)
      refine ih _ _ a' w' (by simpa using z1) (by simpa using z2) (fun i hi hl => ?_) (fun m hm => ?_) h3
      · by_cases q : i = s.getD k 0
        · subst q
          simp [z1]
        · rw [getD_set_ne true (Ne.symm q)]
          exact hold i hi hl
      · by_cases q : m = k
        · subst q
          have b1 := (R.lt m hm).1
          have b2 : m < ops2.size := by rw [← R.size2]; exact hm
          simp [z1, z2, b2]
        · have q2 : s.getD k 0 ≠ s.getD m 0 := fun e => q (R.inj k m hk hm e).symm
          rw [getD_set_ne true q2, getD_set_ne true (Ne.symm q)]
          exact heq m hm
theorem wpAny_takeD {P : Program} {ops : Array Oper} {Q : Exit → Act → World → Prop} {i : Nat} (d : Nat) {oi : Oper} {v : Value} {fuel : Nat} {listed : Array Bool} {a : Act} {w : World} (hi : ops[i]? = some oi) (hd : oi.dst = some d)
    (hs : Region.noSelect ops = true) (hf : Region.free .any ops listed i = true) (hr : (Region.ready .any ops listed).contains i = true)
    (hQ : ∀ c a w, Q (.panic c) (a.put oi.dst v) w → Q (.panic c) a w) (hy : Yields P ops oi v a)
    (h : wpAny P .any ops Q fuel (listed.setIfInBounds i true) (a.put (some d) v) w) : wpAny P .any ops Q (fuel + 1) listed a w :=
  wpAny_take hi hs hf hr hQ hy (by rw [hd]; exact h)
theorem same_of {ops ops2 : Array Oper} {s : List Nat} (h : (List.range s.length).map (fun k => (ops[s.getD k 0]?).map keyO) = (List.range s.length).map (fun k => (ops2[k]?).map keyO)) :
    ∀ k o o2, k < s.length → ops[s.getD k 0]? = some o → ops2[k]? = some o2 → o2.op = o.op ∧ o2.dst = o.dst ∧ o2.type = o.type := by
  intro k o o2 hk ho ho2
  have h2 := congrArg (fun l => l[k]?) h
  simp only [List.getElem?_map, List.getElem?_range hk, Option.map_some, ho, ho2, Option.some.injEq] at h2
  unfold keyO at h2
  simp only [Prod.mk.injEq] at h2
  exact ⟨h2.1.symm, h2.2.1.symm, h2.2.2.symm⟩
end Go.Proofs.YtmmoenkmicimcaaGreatDoor
