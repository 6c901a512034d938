/- Parts Ua Ub Uc Ud Ui Uf of the proof. -/
import Derived.Test.YtkjplpmogfmhkaaGreatDoorMav
import Derived.Test.YtkjplpmogfmhkaaGreatDoorMat
import Derived.Deep.MidRow
import Derived.Test.YtkjplpmogfmhkaaGreatDoorMaw
import Derived.Test.YtkjplpmogfmhkaaGreatDoorMas
namespace Go.Proofs.YtkjplpmogfmhkaaGreatDoor
open Go.RowKit
set_option linter.unusedVariables false
set_option maxRecDepth 100000
theorem setCells_setLU (g : Nat) : ∀ (vs : List Value) (i : Nat) (w : World), w.setCells g i vs = setL w g i vs
  | [], i, w => rfl
  | v :: vs, i, w => setCells_setLU g vs (i + 1) _
theorem Gb.setCellsU (g : Nat) : ∀ (vs : List Value) (i : Nat) (w : World), Gb g w (w.setCells g i vs)
  | [], i, w => Gb.refl _ _
  | v :: vs, i, w => (Gb.set g i w v).tr (Gb.setCellsU g vs (i + 1) _)
theorem Rd.k1 {w : World} {v : Value} {xs : List Value} (h : Rd w v xs) : RdK w 1 v xs := by
  obtain ⟨A, n, c, rfl, hn, hr⟩ := h
  exact ⟨A, n, c, rfl, by omega, hr⟩
theorem RdK.r1 {w : World} {v : Value} {xs : List Value} (h : RdK w 1 v xs) : Rd w v xs := by
  obtain ⟨A, n, c, rfl, hn, hr⟩ := h
  exact ⟨A, n, c, rfl, by omega, hr⟩
theorem Own.k1 {w : World} {B : Nat} {e : TypeId} {v : Value} {xs : List Value} (h : Own w B e v xs) : OwnK w B e 1 v xs := by
  obtain ⟨A, n, c, rfl, hn, h | ⟨g, cur, rfl, hB, hg, hnc, hcm, hcs, ht⟩⟩ := h
  · exact ⟨A, n, c, rfl, by omega, .inl h⟩
  · exact ⟨_, n, c, rfl, by omega, .inr ⟨g, cur, rfl, hB, hg, hnc, hcm, by omega, by rw [Nat.mul_one]; exact ht⟩⟩
/-- A kind of structs with one slice each: type, cells, how its cells are laid; type and cells of the slice's elements, what it holds. -/
structure LK (α : Type) where
  T : TypeId
  k : Nat
  row : α → Value → List Value
  E : TypeId
  ek : Nat
  inn : α → List Value
  len : ∀ a u, (row a u).length = k
  pos : 0 < k
  ne : E ≠ T
  one : ∀ a u, u.oneCell' = true → ∀ x ∈ row a u, x.oneCell' = true
section
variable {α : Type} {K : LK α} {w w' : World} {B : Nat} {v : Value} {l : List α} {ps : List (α × Value)}
def LK.cells (K : LK α) (ps : List (α × Value)) : List Value := ps.flatMap fun p => K.row p.1 p.2
theorem LK.cells_len (K : LK α) (ps : List (α × Value)) : (K.cells ps).length = ps.length * K.k := flat_len (fun p : α × Value => K.row p.1 p.2) K.k (fun p => K.len p.1 p.2) ps
theorem LK.cells_snoc (K : LK α) (ps : List (α × Value)) (a : α) (u : Value) : K.cells ps ++ K.row a u = K.cells (ps ++ [(a, u)]) := by simp [LK.cells]
theorem LK.cells_app (K : LK α) (ps qs : List (α × Value)) : K.cells (ps ++ qs) = K.cells ps ++ K.cells qs := by simp [LK.cells]
theorem LK.cells_sing (K : LK α) (a : α) (u : Value) : K.cells [(a, u)] = K.row a u := by simp [LK.cells]
/-- The slice reads as these structs; each one's slice may be read. -/
def RdX (K : LK α) (w : World) (v : Value) (l : List α) : Prop := ∃ ps : List (α × Value), ps.map Prod.fst = l ∧ RdK w K.k v (K.cells ps) ∧ ∀ p ∈ ps, RdK w K.ek p.2 (K.inn p.1)
/-- New structs, and their slices new. -/
def OwnP (K : LK α) (w : World) (B : Nat) (v : Value) (ps : List (α × Value)) : Prop := OwnK w B K.T K.k v (K.cells ps) ∧ ∀ p ∈ ps, OwnK w B K.E K.ek p.2 (K.inn p.1)
def OwnX (K : LK α) (w : World) (B : Nat) (v : Value) (l : List α) : Prop := ∃ ps : List (α × Value), ps.map Prod.fst = l ∧ OwnP K w B v ps
theorem RdX.ext (h : RdX K w v l) (e : Ext w w') : RdX K w' v l := by
  obtain ⟨ps, h1, h2, h3⟩ := h
  exact ⟨ps, h1, h2.ext e, fun p hp => (h3 p hp).ext e⟩
theorem OwnP.rd (h : OwnP K w B v ps) : RdX K w v (ps.map Prod.fst) := ⟨ps, rfl, h.1.rd, fun p hp => (h.2 p hp).rd⟩
theorem OwnX.rd (h : OwnX K w B v l) : RdX K w v l := by
  obtain ⟨ps, h1, h2⟩ := h
  subst h1
  exact h2.rd
theorem OwnP.ext (h : OwnP K w B v ps) (e : Ext w w') : OwnP K w' B v ps := ⟨h.1.ext e, fun p hp => (h.2 p hp).ext e⟩
theorem OwnP.mono {B' : Nat} (h : OwnP K w B v ps) (hB : B' ≤ B) : OwnP K w B' v ps := ⟨h.1.mono hB, fun p hp => (h.2 p hp).mono hB⟩
theorem OwnX.ext (h : OwnX K w B v l) (e : Ext w w') : OwnX K w' B v l := by
  obtain ⟨ps, h1, h2⟩ := h
  exact ⟨ps, h1, h2.ext e⟩
theorem OwnX.mono {B' : Nat} (h : OwnX K w B v l) (hB : B' ≤ B) : OwnX K w B' v l := by
  obtain ⟨ps, h1, h2⟩ := h
  exact ⟨ps, h1, h2.mono hB⟩
theorem OwnP.empty (K : LK α) (w : World) (B : Nat) (A : Option Addr) : OwnP K w B (.slice A 0 0) [] := ⟨OwnK.empty _ _ _ _ _, fun p hp => (by cases hp)⟩
theorem RdX.nil_ (K : LK α) (w : World) (A : Option Addr) : RdX K w (.slice A 0 0) [] := ⟨[], rfl, RdK.nil_ _ _ _, fun p hp => (by cases hp)⟩
/-- A block of another type changes. -/
theorem OwnP.gb {g T : Nat} {cs : Array Value} {fr : Nat × Nat} (h : OwnP K w B v ps) (hg : w.heap[g]? = some (.cells cs T fr)) (h1 : K.T ≠ T) (h2 : K.E ≠ T) (e : w.grownBy w' (some g)) : OwnP K w' B v ps :=
  ⟨h.1.grown e (.inr (h.1.row_blk hg h1)), fun p hp => (h.2 p hp).grown e (.inr ((h.2 p hp).row_blk hg h2))⟩
theorem OwnX.gb {g T : Nat} {cs : Array Value} {fr : Nat × Nat} (h : OwnX K w B v l) (hg : w.heap[g]? = some (.cells cs T fr)) (h1 : K.T ≠ T) (h2 : K.E ≠ T) (e : w.grownBy w' (some g)) : OwnX K w' B v l := by
  obtain ⟨ps, q1, q2⟩ := h
  exact ⟨ps, q1, q2.gb hg h1 h2 e⟩
/-- A block below B changes. -/
theorem OwnP.gbB {g : Nat} (h : OwnP K w B v ps) (hg : g < B) (e : w.grownBy w' (some g)) : OwnP K w' B v ps :=
  ⟨h.1.grown e (.inr fun q => by have := rowOf_geK h.1 _ q; omega), fun p hp => (h.2 p hp).grown e (.inr fun q => by have := rowOf_geK (h.2 p hp) _ q; omega)⟩
theorem OwnX.gbB {g : Nat} (h : OwnX K w B v l) (hg : g < B) (e : w.grownBy w' (some g)) : OwnX K w' B v l := by
  obtain ⟨ps, q1, q2⟩ := h
  exact ⟨ps, q1, q2.gbB hg e⟩
/-- Another slice, of another type, is appended to. -/
theorem OwnP.grow {B2 e2 k2 : Nat} {v2 : Value} {x2 : List Value} (h : OwnP K w B v ps) (o : OwnK w B2 e2 k2 v2 x2) (h1 : e2 ≠ K.T) (h2 : e2 ≠ K.E) (e : w.grownBy w' (rowOf v2)) : OwnP K w' B v ps :=
  ⟨h.1.grown e (o.row_ne h.1 h1), fun p hp => (h.2 p hp).grown e (o.row_ne (h.2 p hp) h2)⟩
theorem OwnX.grow {B2 e2 k2 : Nat} {v2 : Value} {x2 : List Value} (h : OwnX K w B v l) (o : OwnK w B2 e2 k2 v2 x2) (h1 : e2 ≠ K.T) (h2 : e2 ≠ K.E) (e : w.grownBy w' (rowOf v2)) : OwnX K w' B v l := by
  obtain ⟨ps, q1, q2⟩ := h
  exact ⟨ps, q1, q2.grow o h1 h2 e⟩
/-- One more. -/
theorem OwnP.app {v' u : Value} {a : α} (h : OwnP K w B v ps) (hi : OwnK w B K.E K.ek u (K.inn a)) (o : OwnK w' B K.T K.k v' (K.cells ps ++ K.row a u)) (g : w.grownBy w' (rowOf v)) : OwnP K w' B v' (ps ++ [(a, u)]) := by
  refine ⟨by rw [← K.cells_snoc]; exact o, fun p hp => ?_⟩
  rcases List.mem_append.1 hp with hp | hp
  · exact (h.2 p hp).grown g (h.1.row_ne (h.2 p hp) K.ne.symm)
  · rw [List.mem_singleton.1 hp]
    exact hi.grown g (h.1.row_ne hi K.ne.symm)
/-- One of them stored anew. -/
theorem OwnP.setAt {A : Option Addr} {n c i : Nat} {a : α} {u : Value} (h : OwnP K w B (.slice A n c) ps) (hu : OwnK w B K.E K.ek u (K.inn a)) (hi : i < ps.length) :
    ∃ g, A = some ⟨g, 0, none⟩ ∧ B ≤ g ∧ w.there g (i * K.k) K.k ∧ g < w.heap.size ∧ (∃ cs, w.heap[g]? = some (.cells cs K.T (0, 0))) ∧ OwnP K (w.setCells g (i * K.k) (K.row a u)) B (.slice A n c) (ps.set i (a, u)) := by
  have ho := h.1
  obtain ⟨A', n', c', e, hn, hc⟩ := ho
  injection e with e1 e2 e3
  subst e1 e2 e3
  rw [K.cells_len] at hn
  obtain rfl : n = ps.length := Nat.eq_of_mul_eq_mul_right K.pos hn
  rcases hc with ⟨h0, _⟩ | ⟨g, cur, rfl, hB, hg, hnc, hcm, hcs, ht⟩
  · omega
  have hiK : i * K.k + K.k ≤ c * K.k := by rw [← Nat.succ_mul]; exact Nat.mul_le_mul_right _ (by omega)
  have hgb := Gb.setCellsU g (K.row a u) (i * K.k) w
  refine ⟨g, rfl, hB, fun j hj => ⟨?_, by simp [World.frozen?, hg]⟩, block_lt hg, ⟨_, hg⟩, ?_, fun p hp => ?_⟩
  · rw [cell_of_row w g _ cur _ _ hg]
    simp
    omega
  · have e : ps = ps.take i ++ [ps[i]] ++ ps.drop (i + 1) := by
      rw [List.append_assoc, List.singleton_append, ← List.drop_eq_getElem_cons hi, List.take_append_drop]
    have e2 : ps.set i (a, u) = ps.take i ++ [(a, u)] ++ ps.drop (i + 1) := by
      rw [List.set_eq_take_append_cons_drop, if_pos hi, List.append_assoc]
      rfl
    have hcc : cur.toList = K.cells ps ++ cur.toList.drop (ps.length * K.k) := by rw [← ht, List.take_append_drop]
    generalize hR : cur.toList.drop (ps.length * K.k) = R at hcc
    have hl : (K.cells (ps.take i)).length = i * K.k := by rw [K.cells_len, List.length_take, Nat.min_eq_left (Nat.le_of_lt hi)]
    have h' : w.heap[g]? = some (.cells (K.cells (ps.take i) ++ K.row ps[i].1 ps[i].2 ++ (K.cells (ps.drop (i + 1)) ++ R)).toArray K.T (0, 0)) := by
      rw [hg]
      congr 2
      rw [← Array.toArray_toList (xs := cur), hcc]
      congr 1
      conv => lhs; rw [e, K.cells_app, K.cells_app, K.cells_sing]
      simp only [List.append_assoc]
    have h2 := setL_mid (K.row a u) (K.cells (ps.take i)) (K.cells (ps.drop (i + 1)) ++ R) w g (K.row ps[i].1 ps[i].2) K.T (0, 0) h' (by rw [K.len, K.len])
    rw [hl, ← setCells_setLU] at h2
    have h3 : (K.cells (ps.take i) ++ K.row a u ++ (K.cells (ps.drop (i + 1)) ++ R)) = K.cells (ps.set i (a, u)) ++ R := by
      rw [e2, K.cells_app, K.cells_app, K.cells_sing]
      simp only [List.append_assoc]
    rw [h3] at h2
    have hls : (K.cells (ps.set i (a, u))).length = ps.length * K.k := by rw [K.cells_len, List.length_set]
    have hRl : R.length = c * K.k - ps.length * K.k := by rw [← hR, List.length_drop, Array.length_toList, hcs]
    have hlc : ps.length * K.k ≤ c * K.k := Nat.mul_le_mul_right _ hnc
    refine ⟨_, ps.length, c, rfl, hls.symm, .inr ⟨g, _, rfl, hB, h2, hnc, hcm, ?_, ?_⟩⟩
    · show (K.cells (ps.set i (a, u)) ++ R).length = c * K.k
      rw [List.length_append, hls, hRl]
      omega
    · show (K.cells (ps.set i (a, u)) ++ R).take _ = _
      rw [← hls]
      exact List.take_left
  · rcases List.mem_or_eq_of_mem_set hp with hp | rfl
    · exact (h.2 p hp).grown hgb (.inr ((h.2 p hp).row_blk hg K.ne))
    · exact hu.grown hgb (.inr (hu.row_blk hg K.ne))
/-- The cells of element i. -/
theorem RdX.at_ (h : RdX K w v l) : ∃ A n c, v = .slice A n c ∧ n = l.length ∧ n ≤ c ∧ c ≤ maxLen ∧ ∀ (i : Nat) (a : α), l[i]? = some a → ∃ b o, A = some ⟨b, o, none⟩ ∧ b < w.heap.size ∧ ∃ u, (∀ (j : Nat) (x : Value), (K.row a u)[j]? = some x → w.cell? ⟨b, o + (i * K.k + j), none⟩ = some x) ∧ RdK w K.ek u (K.inn a) := by
  obtain ⟨ps, rfl, ⟨A, n, c, rfl, hn, hnc, hcm, hc⟩, hi⟩ := h
  rw [K.cells_len] at hn
  obtain rfl : n = ps.length := Nat.eq_of_mul_eq_mul_right K.pos hn
  refine ⟨A, _, c, rfl, by rw [List.length_map], hnc, hcm, fun i a ha => ?_⟩
  rw [List.getElem?_map] at ha
  obtain ⟨p, hp, rfl⟩ := Option.map_eq_some_iff.1 ha
  have hil := (List.getElem?_eq_some_iff.1 hp).1
  obtain ⟨b, o, rfl, hcell⟩ := hc (by omega)
  have key : ∀ (j : Nat) (x : Value), (K.row p.1 p.2)[j]? = some x → w.cell? ⟨b, o + (i * K.k + j), none⟩ = some x := fun j x hx => by
    refine hcell _ _ ?_
    have hj : j < K.k := by rw [← K.len p.1 p.2]; exact (List.getElem?_eq_some_iff.1 hx).1
    have := flat_get (fun p : α × Value => K.row p.1 p.2) K.k (fun p => K.len p.1 p.2) ps i hil j hj
    rw [List.getElem?_eq_getElem hil] at hp
    rw [Option.some.inj hp] at this
    exact this.trans hx
  have hb : b < w.heap.size := by
    have h0 : 0 < (K.row p.1 p.2).length := by rw [K.len]; exact K.pos
    exact World.block_lt_of_cell? w _ (key 0 _ (List.getElem?_eq_getElem h0))
  exact ⟨b, o, rfl, hb, p.2, key, hi p (List.mem_of_getElem? hp)⟩
end
/-- Revocation lists. -/
def rvCells (r : RV) (v : Value) : List Value := [.string (bstr r.st), .int .i64 r.num, .int .i64 r.day, .int .i64 r.nxt, v, .int .i64 r.iss, .int .i64 r.e, .int .i64 r.s]
/-- A master list; a defect; a deviation list. -/
structure MA where
  st : List UInt8
  num : Int
  day : Int
  roots : List NC
  sg : NC
  e : Int
  s : Int
structure DF where
  kind : Int
  param : Int
  signer : Int
  fi : List UInt8
  la : List UInt8
structure DV where
  st : List UInt8
  num : Int
  day : Int
  defs : List DF
  sg : NC
  e : Int
  s : Int
def dfCells (d : DF) : List Value := [.int .i64 d.kind, .int .i64 d.param, .int .i64 d.signer, .string (bstr d.fi), .string (bstr d.la)]
def dfsCells (l : List DF) : List Value := l.flatMap dfCells
theorem dfCells_len (d : DF) : (dfCells d).length = 5 := rfl
theorem dfsCells_len (l : List DF) : (dfsCells l).length = l.length * 5 := flat_len _ 5 dfCells_len l
theorem dfsCells_one (l : List DF) : ∀ u ∈ dfsCells l, u.oneCell' = true := by
  intro u hu
  obtain ⟨c, _, hu⟩ := List.mem_flatMap.1 hu
  simp only [dfCells, List.mem_cons, List.not_mem_nil, or_false] at hu
  rcases hu with rfl | rfl | rfl | rfl | rfl <;> rfl
def maCells (m : MA) (v : Value) : List Value := [.string (bstr m.st), .int .i64 m.num, .int .i64 m.day, v, .string (bstr m.sg.st), .int .i64 m.sg.kind, .int .i64 m.sg.num, .int .i64 m.sg.iss, .int .i64 m.sg.own, .int .i64 m.sg.key, .int .i64 m.sg.fr, .int .i64 m.sg.un, .int .i64 m.sg.to, .int .i64 m.sg.e, .int .i64 m.sg.s, .int .i64 m.e, .int .i64 m.s]
def dvCells (m : DV) (v : Value) : List Value := [.string (bstr m.st), .int .i64 m.num, .int .i64 m.day, v, .string (bstr m.sg.st), .int .i64 m.sg.kind, .int .i64 m.sg.num, .int .i64 m.sg.iss, .int .i64 m.sg.own, .int .i64 m.sg.key, .int .i64 m.sg.fr, .int .i64 m.sg.un, .int .i64 m.sg.to, .int .i64 m.sg.e, .int .i64 m.sg.s, .int .i64 m.e, .int .i64 m.s]
def kR : LK RV := ⟨103, 8, rvCells, 3, 1, fun r => intsV r.ser, fun _ _ => rfl, by decide, by decide, fun a u h x hx => by
  simp only [rvCells, List.mem_cons, List.not_mem_nil, or_false] at hx
  rcases hx with rfl | rfl | rfl | rfl | rfl | rfl | rfl | rfl <;> first | exact h | rfl⟩
def kM : LK MA := ⟨80, 17, maCells, 56, 11, fun m => ncsCells m.roots, fun _ _ => rfl, by decide, by decide, fun a u h x hx => by
  simp only [maCells, List.mem_cons, List.not_mem_nil, or_false] at hx
  rcases hx with rfl | rfl | rfl | rfl | rfl | rfl | rfl | rfl | rfl | rfl | rfl | rfl | rfl | rfl | rfl | rfl | rfl <;> first | exact h | rfl⟩
def kD : LK DV := ⟨121, 17, dvCells, 177, 5, fun m => dfsCells m.defs, fun _ _ => rfl, by decide, by decide, fun a u h x hx => by
  simp only [dvCells, List.mem_cons, List.not_mem_nil, or_false] at hx
  rcases hx with rfl | rfl | rfl | rfl | rfl | rfl | rfl | rfl | rfl | rfl | rfl | rfl | rfl | rfl | rfl | rfl | rfl <;> first | exact h | rfl⟩
theorem RdX.rdV {w : World} {v : Value} {l : List RV} (h : RdX kR w v l) : RdV w v l := by
  obtain ⟨A, n, c, rfl, hn, hnc, hcm, hc⟩ := h.at_
  refine ⟨A, n, c, rfl, hn, hnc, hcm, fun i r hr => ?_⟩
  obtain ⟨b, o, rfl, hb, u, hcell, hrd⟩ := hc i r hr
  have hrd' : RdK w 1 u (intsV r.ser) := hrd
  obtain ⟨A', n', c', rfl, _⟩ := id hrd'
  have key : ∀ (j : Nat) (x : Value), (rvCells r (.slice A' n' c'))[j]? = some x → w.cell? ⟨b, o + i * 8 + j, none⟩ = some x := fun j x hx => by rw [Nat.add_assoc]; exact hcell j x hx
  exact ⟨b, o, rfl, hb, A', n', c', key 0 _ rfl, key 1 _ rfl, key 2 _ rfl, key 3 _ rfl, key 4 _ rfl, key 5 _ rfl, key 6 _ rfl, key 7 _ rfl, hrd'.r1⟩
/-- A store: what it holds. -/
structure ST where
  roots : List NC
  pool : List NC
  ms : List MA
  rs : List RV
  ds : List DV
/-- The slices of a store read so. -/
structure StR (w : World) (s0 s1 s2 s3 s4 : SlT) (S : ST) : Prop where
  r0 : RdN w (slV s0) S.roots
  r1 : RdN w (slV s1) S.pool
  r2 : RdX kM w (slV s2) S.ms
  r3 : RdX kR w (slV s3) S.rs
  r4 : RdX kD w (slV s4) S.ds
theorem StR.ext {w w' : World} {s0 s1 s2 s3 s4 : SlT} {S : ST} (h : StR w s0 s1 s2 s3 s4 S) (e : Ext w w') : StR w' s0 s1 s2 s3 s4 S := ⟨RdK.ext h.r0 e, RdK.ext h.r1 e, h.r2.ext e, h.r3.ext e, h.r4.ext e⟩
/-- A store all of whose memory is new. -/
structure StO (w : World) (B : Nat) (s0 s1 s2 s3 s4 : SlT) (S : ST) : Prop where
  o0 : OwnK w B 56 11 (slV s0) (ncsCells S.roots)
  o1 : OwnK w B 56 11 (slV s1) (ncsCells S.pool)
  o2 : OwnX kM w B (slV s2) S.ms
  o3 : OwnX kR w B (slV s3) S.rs
  o4 : OwnX kD w B (slV s4) S.ds
theorem StO.ext {w w' : World} {B : Nat} {s0 s1 s2 s3 s4 : SlT} {S : ST} (h : StO w B s0 s1 s2 s3 s4 S) (e : Ext w w') : StO w' B s0 s1 s2 s3 s4 S := ⟨h.o0.ext e, h.o1.ext e, h.o2.ext e, h.o3.ext e, h.o4.ext e⟩
theorem StO.mono {w : World} {B B' : Nat} {s0 s1 s2 s3 s4 : SlT} {S : ST} (h : StO w B s0 s1 s2 s3 s4 S) (hB : B' ≤ B) : StO w B' s0 s1 s2 s3 s4 S := ⟨h.o0.mono hB, h.o1.mono hB, h.o2.mono hB, h.o3.mono hB, h.o4.mono hB⟩
theorem StO.rd {w : World} {B : Nat} {s0 s1 s2 s3 s4 : SlT} {S : ST} (h : StO w B s0 s1 s2 s3 s4 S) : StR w s0 s1 s2 s3 s4 S := ⟨h.o0.rd, h.o1.rd, h.o2.rd, h.o3.rd, h.o4.rd⟩
/-- A block below B changes. -/
theorem StO.gbB {w w' : World} {B g : Nat} {s0 s1 s2 s3 s4 : SlT} {S : ST} (h : StO w B s0 s1 s2 s3 s4 S) (hg : g < B) (e : w.grownBy w' (some g)) : StO w' B s0 s1 s2 s3 s4 S :=
  ⟨h.o0.grown e (.inr fun q => by have := rowOf_geK h.o0 _ q; omega), h.o1.grown e (.inr fun q => by have := rowOf_geK h.o1 _ q; omega), h.o2.gbB hg e, h.o3.gbB hg e, h.o4.gbB hg e⟩
def stRow (s0 s1 s2 s3 s4 : SlT) : Array Value := #[.slice s0.1 s0.2.1 s0.2.2, .slice s1.1 s1.2.1 s1.2.2, .slice s2.1 s2.2.1 s2.2.2, .slice s3.1 s3.2.1 s3.2.2, .slice s4.1 s4.2.1 s4.2.2]
theorem stRow_one (s0 s1 s2 s3 s4 : SlT) : (stRow s0 s1 s2 s3 s4).all (·.oneCell') = true := by simp [stRow, Value.oneCell']
theorem info_st : (Tryz.prog.info? 75).map (·.size) = some 5 := by kernel_rfl
theorem info_ma : (Tryz.prog.info? 80).map (·.size) = some 17 := by kernel_rfl
theorem info_dv : (Tryz.prog.info? 121).map (·.size) = some 17 := by kernel_rfl
end Go.Proofs.YtkjplpmogfmhkaaGreatDoor
namespace Go.Proofs.YtkjplpmogfmhkaaGreatDoor
open Go.RowKit
set_option linter.unusedVariables false
set_option maxRecDepth 100000
/-- Certificates added that are not there yet. -/
def addStep (out : List NC) (c : NC) : List NC := if c ∈ out then out else out ++ [c]
def addT (out l : List NC) : List NC := l.foldl addStep out
/-- The roots that were exchanged, and those of the master lists. -/
def rootsT (S : ST) : List NC := S.ms.foldl (fun out m => addT out m.roots) (addT [] S.roots)
theorem addT_snoc (out : List NC) {l : List NC} {y : NC} {k : Nat} (h : l[k]? = some y) : addT out (l.take (k + 1)) = addStep (addT out (l.take k)) y := by
  unfold addT
  rw [take_snocN h, List.foldl_append]
  rfl
theorem addT_mem {out l : List NC} {c : NC} (h : c ∈ addT out l) : c ∈ out ∨ c ∈ l := by
  unfold addT at h
  induction l generalizing out with
  | nil => exact .inl h
  | cons x l ih =>
    rcases ih h with h | h
    · unfold addStep at h
      split at h
      · exact .inl h
      · rcases List.mem_append.1 h with h | h
        · exact .inl h
        · rw [List.mem_singleton.1 h]; exact .inr List.mem_cons_self
    · exact .inr (List.mem_cons_of_mem _ h)
theorem addT_len (out l : List NC) : (addT out l).length ≤ out.length + l.length := by
  unfold addT
  induction l generalizing out with
  | nil => exact Nat.le_refl _
  | cons x l ih =>
    have h := ih (addStep out x)
    have h2 : (addStep out x).length ≤ out.length + 1 := by
      unfold addStep
      split
      · omega
      · rw [List.length_append]; exact Nat.le_refl _
    rw [List.foldl_cons, List.length_cons]
    omega
theorem addT_sm {out l : List NC} (h : smL out) (k : smL l) : smL (addT out l) := fun c hc => (addT_mem hc).elim (h c) (k c)
/-- What is small enough. -/
structure StB (S : ST) : Prop where
  r : smL S.roots
  p : smL S.pool
  m : ∀ x ∈ S.ms, smL x.roots ∧ x.roots.length ≤ 10000
  s : ∀ x ∈ S.rs, x.ser.length ≤ 10000
  d : ∀ x ∈ S.ds, x.defs.length ≤ 10000
  lr : S.roots.length ≤ 10000
  lp : S.pool.length ≤ 10000
  lm : S.ms.length ≤ 20
  ls : S.rs.length ≤ 10000
  ld : S.ds.length ≤ 10000
theorem foldAdd_sm : ∀ (ms : List MA) (out : List NC), smL out → (∀ x ∈ ms, smL x.roots) → smL (ms.foldl (fun out m => addT out m.roots) out)
  | [], out, h, _ => h
  | m :: ms, out, h, k => foldAdd_sm ms _ (addT_sm h (k m List.mem_cons_self)) fun x hx => k x (List.mem_cons_of_mem _ hx)
theorem foldAdd_len : ∀ (ms : List MA) (out : List NC), (∀ x ∈ ms, x.roots.length ≤ 10000) → (ms.foldl (fun out m => addT out m.roots) out).length ≤ out.length + ms.length * 10000
  | [], out, _ => by simp
  | m :: ms, out, k => by
    have h := foldAdd_len ms (addT out m.roots) fun x hx => k x (List.mem_cons_of_mem _ hx)
    have h2 := addT_len out m.roots
    have h3 := k m List.mem_cons_self
    rw [List.foldl_cons, List.length_cons]
    omega
theorem StB.roots {S : ST} (h : StB S) : smL (rootsT S) := foldAdd_sm _ _ (addT_sm (fun c hc => (by cases hc)) h.r) fun x hx => (h.m x hx).1
theorem StB.rlen {S : ST} (h : StB S) : (rootsT S).length ≤ 210000 := by
  have h1 := foldAdd_len S.ms (addT [] S.roots) fun x hx => (h.m x hx).2
  have h2 := addT_len [] S.roots
  have h3 := h.lr
  have h4 := h.lm
  unfold rootsT
  have h5 : S.ms.length * 10000 ≤ 20 * 10000 := Nat.mul_le_mul_right _ h4
  rw [List.length_nil] at h2
  omega
/-- Whether one of the keys has signed. -/
def sgdV (l : List NC) (r : RV) : Int := if (l.any fun c => decide (c.own = r.iss) && verB c.key (byR r) r.e r.s) = true then 0 else if (l.any fun c => decide (c.own = r.iss)) = true then 11 else 66
def signedV (S : ST) (r : RV) (day : Int) : Int := if ckR r = 0 then sgdV (trustT (rootsT S) S.pool r.st day) r else ckR r
/-- What Accept returns. -/
def accR (S : ST) (r : RV) (day : Int) : ST × Int :=
  if ckR r ≠ 0 then (S, ckR r) else if day < r.day then (S, 64) else if signedV S r day ≠ 0 then (S, signedV S r day) else
  match S.rs.findIdx? (fun t => decide (t.st = r.st)) with
  | some i => if r.num ≤ (S.rs.getD i zeroR).num then (S, 67) else (⟨S.roots, S.pool, S.ms, S.rs.set i r, S.ds⟩, 0)
  | none => if 16 ≤ S.rs.length then (S, 72) else (⟨S.roots, S.pool, S.ms, S.rs ++ [r], S.ds⟩, 0)
/-- What Revoked reports. -/
def revB (l : List RV) (st : List UInt8) (num : Int) : Bool := match ofR l st with
  | none => false
  | some r => decide (num ∈ r.ser)
theorem revB_getD (l : List RV) (st : List UInt8) (num : Int) : revB l st num = decide (num ∈ ((ofR l st).getD zeroR).ser) := by
  unfold revB
  cases ofR l st with
  | none => exact (decide_eq_false (fun q => by cases q)).symm
  | some r => rfl
theorem updR_ck (r : RV) (e s : Int) : ckR (updR r e s) = ckR r := rfl
theorem updR_body (r : RV) (e s : Int) : bodyRB (updR r e s) = bodyRB r := rfl
theorem isCR_in {k : Int} {r : RV} (hk : inB 1 1073741789 k = true) (hc : ckR r = 0) : isCR k r = updR r (sigE k (bodyRB r)) (sigS k (bodyRB r)) := by
  unfold isCR sE sS
  have hs : sK k = 0 := if_pos hk
  rw [if_pos ⟨hc, hs⟩, if_pos hk, if_pos hk]
theorem isKR_in {k : Int} {r : RV} (hk : inB 1 1073741789 k = true) (hc : ckR r = 0) : isKR k r = 0 := by
  have hs : sK k = 0 := if_pos hk
  unfold isKR; rw [if_pos hc, hs]
theorem verR_issue {k : Int} {r : RV} (hk : inB 1 1073741789 k = true) (hc : ckR r = 0) : verB (pw 4 k) (byR (isCR k r)) (isCR k r).e (isCR k r).s = true := by
  obtain ⟨h0, h1⟩ := inB_true hk
  rw [isCR_in hk hc]
  unfold byR
  rw [updR_ck, if_pos hc, updR_body]
  exact sig_verifies h0 h1 _
theorem sgd_one {l : List NC} {r : RV} {c : NC} (h : c ∈ l) (h1 : c.own = r.iss) (h2 : verB c.key (byR r) r.e r.s = true) : sgdV l r = 0 :=
  if_pos (List.any_eq_true.2 ⟨c, h, by rw [decide_eq_true h1, h2]; rfl⟩)
theorem sgd_no {l : List NC} {r : RV} (h : ∀ (j : Nat) (c : NC), l[j]? = some c → c.own = r.iss → verB c.key (byR r) r.e r.s = false) : sgdV l r = if (l.any fun c => decide (c.own = r.iss)) = true then 11 else 66 := by
  unfold sgdV
  rw [if_neg]
  intro q
  obtain ⟨c, hc, hq⟩ := List.any_eq_true.1 q
  obtain ⟨j, hj⟩ := List.getElem?_of_mem hc
  rw [Bool.and_eq_true] at hq
  rw [h j c hj (of_decide_eq_true hq.1)] at hq
  exact absurd hq.2 (by decide)
theorem own_snoc {l : List NC} {i : Int} {y : NC} {k : Nat} (h : l[k]? = some y) : ((l.take (k + 1)).any fun c => decide (c.own = i)) = (((l.take k).any fun c => decide (c.own = i)) || decide (y.own = i)) := by
  rw [take_snocN h, List.any_append]
  simp
/-- The list of the sanity check. -/
def awR (k num : Int) : RV := isCR k ⟨utoZ, 1, 40010, 40100, [num], 1, 0, 0⟩
theorem awR_ck {num : Int} (h0 : 1 ≤ num) (h1 : num ≤ 100) : ckR ⟨utoZ, 1, 40010, 40100, [num], 1, 0, 0⟩ = 0 := by
  unfold ckR
  rw [if_neg (fun q => q state_utoZ), if_neg (fun q => q ⟨⟨by show (1 : Int) ≤ 1; omega, by show (1 : Int) ≤ 1073741824; omega⟩, ⟨by show (1 : Int) ≤ 1; omega, by show (1 : Int) ≤ 1073741824; omega⟩⟩),
    if_neg (fun q => q ⟨by show (0 : Int) ≤ 40010; omega, by show (40010 : Int) ≤ 40100; omega, by show (40100 : Int) ≤ 73048; omega⟩), if_neg (by show ¬ 64 < 1; omega), if_neg, if_pos (show ascB [num] = true from rfl)]
  have hs : serP num := ⟨h0, by omega⟩
  show ¬ ((!decide (serP num)) || false) = true
  rw [decide_eq_true hs]
  decide
theorem awake32_plain {a : AU} (h : AuI a [40000]) (hst : a.st = utoZ) : ∃ (c : NC) (k : Int), a.roots = [c] ∧ a.secs = [k] ∧ smN c ∧ a.sg.st = utoZ ∧ a.ls.st = utoZ ∧ 1 ≤ a.sg.num ∧ a.sg.num ≤ 100 ∧ smN a.sg ∧ smN a.ls ∧ a.sg.num ≠ a.ls.num ∧ isKR k ⟨utoZ, 1, 40010, 40100, [a.sg.num], 1, 0, 0⟩ = 0 ∧
    accR ⟨[c], [], [], [], []⟩ (awR k a.sg.num) 40010 = (⟨[c], [], [], [awR k a.sg.num], []⟩, 0) ∧ (accR ⟨[c], [], [], [awR k a.sg.num], []⟩ (awR k a.sg.num) 40010).2 = 67 ∧
    revB [awR k a.sg.num] utoZ a.sg.num = true ∧ revB [awR k a.sg.num] utoZ a.ls.num = false ∧ frR [awR k a.sg.num] utoZ 40100 = true ∧ frR [awR k a.sg.num] utoZ 40101 = false := by
  have rl := h.rlen
  have sl := h.len
  obtain ⟨c, er⟩ : ∃ c, a.roots = [c] := by
    match hr : a.roots, rl with
    | [x], _ => exact ⟨x, rfl⟩
  obtain ⟨k, es⟩ : ∃ k, a.secs = [k] := by
    match hr : a.secs, sl with
    | [x], _ => exact ⟨x, rfl⟩
  obtain ⟨k1, d1, n1, q1, q2, _, _, R⟩ := h.rt 0 c (by rw [er]; rfl)
  obtain ⟨k2, d2, n2, v1, v2, hn2, hn2', _, S⟩ := h.sg (by simp)
  obtain ⟨k3, d3, n3, u1, u2, _, _, _, L⟩ := h.ls (by simp)
  have hne := h.ne (by simp)
  rw [es] at q1
  obtain rfl : k = k1 := Option.some.inj q1
  obtain rfl : (40000 : Int) = d1 := Option.some.inj q2
  have hk : inB 1 1073741789 k = true := h.sec k (by rw [es]; exact List.mem_singleton.2 rfl)
  have hN := S.num
  have hc := awR_ck (num := a.sg.num) (by rw [hN]; exact hn2) (by rw [hN]; exact hn2')
  have hr : awR k a.sg.num = updR ⟨utoZ, 1, 40010, 40100, [a.sg.num], 1, 0, 0⟩ (sigE k (bodyRB ⟨utoZ, 1, 40010, 40100, [a.sg.num], 1, 0, 0⟩)) (sigS k (bodyRB ⟨utoZ, 1, 40010, 40100, [a.sg.num], 1, 0, 0⟩)) := isCR_in hk hc
  have hv : verB (pw 4 k) (byR (awR k a.sg.num)) (awR k a.sg.num).e (awR k a.sg.num).s = true := verR_issue hk hc
  have hck : ckR (awR k a.sg.num) = 0 := by rw [hr, updR_ck]; exact hc
  have f1 : (awR k a.sg.num).st = utoZ := by rw [hr]; rfl
  have f2 : (awR k a.sg.num).num = 1 := by rw [hr]; rfl
  have f3 : (awR k a.sg.num).day = 40010 := by rw [hr]; rfl
  have f4 : (awR k a.sg.num).nxt = 40100 := by rw [hr]; rfl
  have f5 : (awR k a.sg.num).ser = [a.sg.num] := by rw [hr]; rfl
  have f6 : (awR k a.sg.num).iss = 1 := by rw [hr]; rfl
  refine ⟨c, k, er, es, ?_⟩
  generalize awR k a.sg.num = r at *
  have hroot : rootP a.st 40010 c := root_nat R (by decide) (by decide)
  have htr : c ∈ trustT [c] [] utoZ 40010 := by
    obtain ⟨t, ht, _⟩ := trust_ext [c] [] utoZ 40010
    rw [ht]
    exact List.mem_append_left _ (firstT_iff.2 ⟨List.mem_singleton.2 rfl, by rw [← hst]; exact hroot⟩)
  have ho : c.own = r.iss := by rw [R.own, f6]; rfl
  have hy : verB c.key (byR r) r.e r.s = true := by rw [R.key]; exact hv
  have hsg : ∀ rs : List RV, signedV ⟨[c], [], [], rs, []⟩ r 40010 = 0 := fun rs => by
    unfold signedV
    rw [if_pos hck, f1]
    exact sgd_one htr ho hy
  have hof : ofR [r] utoZ = some r := by
    unfold ofR
    rw [List.find?_cons, decide_eq_true f1]
  refine ⟨isNat_key R, by rw [S.st, hst], by rw [L.st, hst], by rw [hN]; exact hn2, by rw [hN]; exact hn2', isNat_key S, isNat_key L, hne, isKR_in hk hc, ?_, ?_, ?_, ?_, ?_, ?_⟩
  · unfold accR
    rw [if_neg (fun q => q hck), if_neg (by rw [f3]; omega), if_neg (fun q => q (hsg []))]
    rfl
  · unfold accR
    rw [if_neg (fun q => q hck), if_neg (by rw [f3]; omega), if_neg (fun q => q (hsg [r]))]
    have h0 : [r].findIdx? (fun t : RV => decide (t.st = r.st)) = some 0 := by
      rw [List.findIdx?_cons, decide_eq_true rfl]
      rfl
    simp only [h0]
    exact congrArg Prod.snd (if_pos (Int.le_refl _))
  · unfold revB
    rw [hof]
    show decide (a.sg.num ∈ r.ser) = true
    rw [f5]
    exact decide_eq_true (List.mem_singleton.2 rfl)
  · unfold revB
    rw [hof]
    show decide (a.ls.num ∈ r.ser) = false
    rw [f5]
    exact decide_eq_false fun q => hne (List.mem_singleton.1 q).symm
  · unfold frR
    rw [hof]
    show decide (40100 ≤ r.nxt) = true
    rw [f4]
    exact decide_eq_true (by omega)
  · unfold frR
    rw [hof]
    show decide (40101 ≤ r.nxt) = false
    rw [f4]
    exact decide_eq_false (by omega)
end Go.Proofs.YtkjplpmogfmhkaaGreatDoor
namespace Go.Proofs.YtkjplpmogfmhkaaGreatDoor
open Go.RowKit
set_option linter.unusedVariables false
set_option maxRecDepth 100000
theorem elemDf : ElemK Tryz.prog 96 177 5 56 := by
  have h : (Tryz.prog.info? 177).map (fun i => (i.zero, i.size, i.bytes)) = some (some (.agg #[.int .i64 0, .int .i64 0, .int .i64 0, .string ⟨#[]⟩, .string ⟨#[]⟩]), 5, 56) := by kernel_rfl
  obtain ⟨i, h1, h2, h3, h4⟩ := info_parts h
  exact ⟨i, _, Tryz.underlying96, h1, h2, h3, h4, rfl⟩
theorem cells_nil {w : World} {A : Option Addr} {n c k : Nat} {xs : List Value} (hk : 0 < k) (h : RdK w k (.slice A n c) xs) (hA : A = none) : xs = [] := by
  obtain ⟨A', n', c', e, hn, _, _, hc⟩ := h
  injection e with e1 e2 e3
  subst e1 e2 e3
  by_cases h0 : 0 < n
  · obtain ⟨b, o, e, _⟩ := hc h0
    rw [hA] at e
    cases e
  · obtain rfl : n = 0 := by omega
    rw [Nat.zero_mul] at hn
    exact List.eq_nil_of_length_eq_zero hn.symm
theorem eql_nil_ncsCells (w : World) (A : Option Addr) (n c : Nat) : (binOp .eql 51 (.slice A n c) (.slice none 0 0)).run Tryz.prog w = .ok (.bool A.isNone) w := Lib.run_eql_slice_nil w _ 56 A n c 0 0 Tryz.underlying51
set_option maxHeartbeats 1000000 in
theorem cloneN_any {a : Value} {l : List NC} (w : World) (ha : RdK w 11 a (ncsCells l)) (hl : l.length ≤ 1000000) : Calls Tryz.prog 201 #[a] w fun e w' => ∃ A n c, e = .returned (.slice A n c) ∧ OwnK w' w.heap.size 56 11 (.slice A n c) (ncsCells l) ∧ Ext w w' := by
  have ha0 := ha
  obtain ⟨A, n, c, rfl, hn, hnc, hcm, hA⟩ := ha
  rw [ncsCells_len] at hn
  obtain rfl : n = l.length := by omega
  unfold maxLen at hcm
  have HON := Lib.hid (ncsCells_one l)
  cases A with
  | none =>
    have h0 := Lib.hid (cells_nil (by decide) ha0 rfl)
    clear hA ha0 hn
    have hq := fun w => eql_nil_ncsCells w none l.length c
    go_enter Tryz.func201, Tryz.ntmps201
    go_wp2
    go_ret
    exact ⟨_, _, _, rfl, by rw [h0.out]; exact OwnK.empty _ _ _ _ _, Below.refl _ _⟩
  | some ad =>
    clear hA hn
    have hq := fun w => eql_nil_ncsCells w (some ad) l.length c
    have e6 : Ext w (w.alloc (.cells #[] 56)) := (Below.refl _ _).alloc (Nat.le_refl _) _
    have H6 := Lib.hid (RdK.ext ha0 e6)
    have E6 := Lib.hid e6
    clear ha0 e6
    go_enter Tryz.func201, Tryz.ntmps201
    go_wp2_with (refine wpList_appK (k := 11) (by decide) elemNc (n := 0) (m := l.length) (B := w.heap.size) (OwnK.empty _ _ _ _ _) rfl H6.out (by rw [ncsCells_len]) HON.out E6.out (by omega) (by unfold maxLen; omega) E6.out.size rfl rfl rfl rfl ?_; intro A2 n2 c2 w2 hn2 o2 b2 g2)
    simp only [List.nil_append] at o2
    go_ret
    exact ⟨_, _, _, rfl, o2, b2⟩
theorem eql_nil_dfsCells (w : World) (A : Option Addr) (n c : Nat) : (binOp .eql 96 (.slice A n c) (.slice none 0 0)).run Tryz.prog w = .ok (.bool A.isNone) w := Lib.run_eql_slice_nil w _ 177 A n c 0 0 Tryz.underlying96
set_option maxHeartbeats 1000000 in
theorem cloneD_any {a : Value} {l : List DF} (w : World) (ha : RdK w 5 a (dfsCells l)) (hl : l.length ≤ 1000000) : Calls Tryz.prog 234 #[a] w fun e w' => ∃ A n c, e = .returned (.slice A n c) ∧ OwnK w' w.heap.size 177 5 (.slice A n c) (dfsCells l) ∧ Ext w w' := by
  have ha0 := ha
  obtain ⟨A, n, c, rfl, hn, hnc, hcm, hA⟩ := ha
  rw [dfsCells_len] at hn
  obtain rfl : n = l.length := by omega
  unfold maxLen at hcm
  have HON := Lib.hid (dfsCells_one l)
  cases A with
  | none =>
    have h0 := Lib.hid (cells_nil (by decide) ha0 rfl)
    clear hA ha0 hn
    have hq := fun w => eql_nil_dfsCells w none l.length c
    go_enter Tryz.func234, Tryz.ntmps234
    go_wp2
    go_ret
    exact ⟨_, _, _, rfl, by rw [h0.out]; exact OwnK.empty _ _ _ _ _, Below.refl _ _⟩
  | some ad =>
    clear hA hn
    have hq := fun w => eql_nil_dfsCells w (some ad) l.length c
    have e6 : Ext w (w.alloc (.cells #[] 177)) := (Below.refl _ _).alloc (Nat.le_refl _) _
    have H6 := Lib.hid (RdK.ext ha0 e6)
    have E6 := Lib.hid e6
    clear ha0 e6
    go_enter Tryz.func234, Tryz.ntmps234
    go_wp2_with (refine wpList_appK (k := 5) (by decide) elemDf (n := 0) (m := l.length) (B := w.heap.size) (OwnK.empty _ _ _ _ _) rfl H6.out (by rw [dfsCells_len]) HON.out E6.out (by omega) (by unfold maxLen; omega) E6.out.size rfl rfl rfl rfl ?_; intro A2 n2 c2 w2 hn2 o2 b2 g2)
    simp only [List.nil_append] at o2
    go_ret
    exact ⟨_, _, _, rfl, o2, b2⟩
def zeroM : MA := ⟨[], 0, 0, [], zeroN, 0, 0⟩
theorem kM_all (r : MA) (v : Value) (h : v.oneCell' = true) : (maCells r v).toArray.all (·.oneCell') = true := by
  rw [List.all_toArray, List.all_eq_true]
  exact kM.one r v h
set_option maxHeartbeats 4000000 in
theorem cmaster_any (r : MA) (v : Value) (w : World) (hv : RdK w 11 v (ncsCells r.roots)) (hl : r.roots.length ≤ 1000000) : Calls Tryz.prog 135 #[.agg (maCells r v).toArray] w fun e w' => ∃ A n c, e = .returned (.agg (maCells r (.slice A n c)).toArray) ∧ OwnK w' w.heap.size 56 11 (.slice A n c) (ncsCells r.roots) ∧ Ext w w' := by
  obtain ⟨wz, hwz⟩ : ∃ wz, wz = (w.alloc (.cells #[.string (bstr r.st), .int .i64 r.num, .int .i64 r.day, v, .string (bstr r.sg.st), .int .i64 r.sg.kind, .int .i64 r.sg.num, .int .i64 r.sg.iss, .int .i64 r.sg.own, .int .i64 r.sg.key, .int .i64 r.sg.fr, .int .i64 r.sg.un, .int .i64 r.sg.to, .int .i64 r.sg.e, .int .i64 r.sg.s, .int .i64 r.e, .int .i64 r.s] 80)).alloc (.cells #[.string ⟨#[]⟩, .int .i64 0, .int .i64 0, .slice none 0 0, .string ⟨#[]⟩, .int .i64 0, .int .i64 0, .int .i64 0, .int .i64 0, .int .i64 0, .int .i64 0, .int .i64 0, .int .i64 0, .int .i64 0, .int .i64 0, .int .i64 0, .int .i64 0] 80) := ⟨_, rfl⟩
  have e1 : Ext w (w.alloc (.cells #[.string (bstr r.st), .int .i64 r.num, .int .i64 r.day, v, .string (bstr r.sg.st), .int .i64 r.sg.kind, .int .i64 r.sg.num, .int .i64 r.sg.iss, .int .i64 r.sg.own, .int .i64 r.sg.key, .int .i64 r.sg.fr, .int .i64 r.sg.un, .int .i64 r.sg.to, .int .i64 r.sg.e, .int .i64 r.sg.s, .int .i64 r.e, .int .i64 r.s] 80)) := (Below.refl _ _).alloc (Nat.le_refl _) _
  have ez : Ext w wz := by rw [hwz]; exact e1.alloc (by simp) _
  have b0 : wz.heap[w.heap.size]? = some (.cells (maCells r v).toArray 80 (0, 0)) := by
    rw [hwz]
    exact (((Below.refl _ _).alloc (Nat.le_refl _) _ : Ext (w.alloc (.cells #[.string (bstr r.st), .int .i64 r.num, .int .i64 r.day, v, .string (bstr r.sg.st), .int .i64 r.sg.kind, .int .i64 r.sg.num, .int .i64 r.sg.iss, .int .i64 r.sg.own, .int .i64 r.sg.key, .int .i64 r.sg.fr, .int .i64 r.sg.un, .int .i64 r.sg.to, .int .i64 r.sg.e, .int .i64 r.sg.s, .int .i64 r.e, .int .i64 r.s] 80)) _).block _ (by simp)).trans (heap_alloc_new' w _)
  have b1 : wz.heap[w.heap.size + 1]? = some (.cells (maCells zeroM (.slice none 0 0)).toArray 80 (0, 0)) := by
    have := heap_alloc_new' (w.alloc (.cells #[.string (bstr r.st), .int .i64 r.num, .int .i64 r.day, v, .string (bstr r.sg.st), .int .i64 r.sg.kind, .int .i64 r.sg.num, .int .i64 r.sg.iss, .int .i64 r.sg.own, .int .i64 r.sg.key, .int .i64 r.sg.fr, .int .i64 r.sg.un, .int .i64 r.sg.to, .int .i64 r.sg.e, .int .i64 r.sg.s, .int .i64 r.e, .int .i64 r.s] 80)) (.cells #[.string ⟨#[]⟩, .int .i64 0, .int .i64 0, .slice none 0 0, .string ⟨#[]⟩, .int .i64 0, .int .i64 0, .int .i64 0, .int .i64 0, .int .i64 0, .int .i64 0, .int .i64 0, .int .i64 0, .int .i64 0, .int .i64 0, .int .i64 0, .int .i64 0] 80)
    rw [show (w.alloc (.cells #[.string (bstr r.st), .int .i64 r.num, .int .i64 r.day, v, .string (bstr r.sg.st), .int .i64 r.sg.kind, .int .i64 r.sg.num, .int .i64 r.sg.iss, .int .i64 r.sg.own, .int .i64 r.sg.key, .int .i64 r.sg.fr, .int .i64 r.sg.un, .int .i64 r.sg.to, .int .i64 r.sg.e, .int .i64 r.sg.s, .int .i64 r.e, .int .i64 r.s] 80)).heap.size = w.heap.size + 1 by simp] at this
    rw [hwz]
    exact this
  have HR := Lib.hid (RdK.ext hv ez)
  have HL := Lib.hid hl
  have EZ := Lib.hid ez
  have c3 : wz.cell? ⟨w.heap.size, 3, none⟩ = some v := by rw [cell_of_row wz w.heap.size 3 _ _ _ b0]; rfl
  have cl := block_lt b0
  have B0 := Lib.hid b0
  have B1 := Lib.hid b1
  clear b0 b1 e1 ez hv hl
  obtain ⟨A, n, c, rfl, -⟩ := id HR.out
  unfold maCells
  go_enter Tryz.func135, Tryz.ntmps135
  go_wp2_with fail
  rw [← hwz]
  clear hwz
  refine (cloneN_any _ HR.out HL.out).mono ?_
  rintro e w1 ⟨A1, n1, c1, rfl, o1, x1⟩
  have k0 := (x1.block _ cl).trans B0.out
  have k1 := (x1.block _ (block_lt B1.out)).trans B1.out
  have f3 : w1.frozen? ⟨w.heap.size, 3, none⟩ = false := by simp [World.frozen?, k0]
  have cl1 := block_lt k0
  have c31 : w1.cell? ⟨w.heap.size, 3, none⟩ = some (.slice A n c) := by rw [cell_of_row _ _ 3 _ _ _ k0]; rfl
  have hz := block_lt B1.out
  have t0 : (w1.setCell ⟨w.heap.size, 3, none⟩ (.slice A1 n1 c1)).heap[w.heap.size]? = some (.cells (maCells r (.slice A1 n1 c1)).toArray 80 (0, 0)) := by
    have h9 := row_set k0 3 (.slice A1 n1 c1)
    exact h9
  have t1 : (w1.setCell ⟨w.heap.size, 3, none⟩ (.slice A1 n1 c1)).heap[w.heap.size + 1]? = some (.cells (maCells zeroM (.slice none 0 0)).toArray 80 (0, 0)) := (setCell_block (by omega)).trans k1
  have HT0 := Lib.hid t0
  have HT1 := Lib.hid t1
  have H1 := Lib.hid (kM_all r (.slice A1 n1 c1) rfl)
  have X1 := Lib.hid (EZ.out.tr x1)
  have O1 := Lib.hid o1
  clear t0 t1 k0 k1 c3 x1 o1 B0 B1
  go_wp2_with (first | (refine wpList_load_row rfl 80 _ rfl w.heap.size rfl 80 (maCells r (.slice A1 n1 c1)).toArray (0, 0) _ HT0.out Tryz.underlying80 rfl info_ma ?_) | (refine wpRow_store rfl 80 _ _ rfl rfl (w.heap.size + 1) (maCells r (.slice A1 n1 c1)).toArray rfl rfl 80 (maCells zeroM (.slice none 0 0)).toArray HT1.out info_ma rfl H1.out ?_))
  refine bodyPost_ret (v := .agg (maCells r (.slice A1 n1 c1)).toArray) ?_ rfl ⟨A1, n1, c1, rfl, ?_, ?_⟩
  · exact results_cell_row rfl _ _ (w.heap.size + 1) 80 (maCells r (.slice A1 n1 c1)).toArray (0, 0) _ rfl (row_at HT1.out) Tryz.underlying80 rfl info_ma
  · have hh : w.heap.size < wz.heap.size := by omega
    exact ((O1.out.grown (Gb.set w.heap.size 3 w1 _) (.inr fun q => by have := rowOf_geK O1.out _ q; omega)).grown (Gb.setRow (w.heap.size + 1) _ _) (.inr fun q => by have := rowOf_geK O1.out _ q; omega)).mono (by omega)
  · exact ext_setRow (ext_set X1.out (Nat.le_refl _)) (by omega) _
def zeroD : DV := ⟨[], 0, 0, [], zeroN, 0, 0⟩
theorem kD_all (r : DV) (v : Value) (h : v.oneCell' = true) : (dvCells r v).toArray.all (·.oneCell') = true := by
  rw [List.all_toArray, List.all_eq_true]
  exact kD.one r v h
set_option maxHeartbeats 4000000 in
theorem cdev_any (r : DV) (v : Value) (w : World) (hv : RdK w 5 v (dfsCells r.defs)) (hl : r.defs.length ≤ 1000000) : Calls Tryz.prog 171 #[.agg (dvCells r v).toArray] w fun e w' => ∃ A n c, e = .returned (.agg (dvCells r (.slice A n c)).toArray) ∧ OwnK w' w.heap.size 177 5 (.slice A n c) (dfsCells r.defs) ∧ Ext w w' := by
  obtain ⟨wz, hwz⟩ : ∃ wz, wz = (w.alloc (.cells #[.string (bstr r.st), .int .i64 r.num, .int .i64 r.day, v, .string (bstr r.sg.st), .int .i64 r.sg.kind, .int .i64 r.sg.num, .int .i64 r.sg.iss, .int .i64 r.sg.own, .int .i64 r.sg.key, .int .i64 r.sg.fr, .int .i64 r.sg.un, .int .i64 r.sg.to, .int .i64 r.sg.e, .int .i64 r.sg.s, .int .i64 r.e, .int .i64 r.s] 121)).alloc (.cells #[.string ⟨#[]⟩, .int .i64 0, .int .i64 0, .slice none 0 0, .string ⟨#[]⟩, .int .i64 0, .int .i64 0, .int .i64 0, .int .i64 0, .int .i64 0, .int .i64 0, .int .i64 0, .int .i64 0, .int .i64 0, .int .i64 0, .int .i64 0, .int .i64 0] 121) := ⟨_, rfl⟩
  have e1 : Ext w (w.alloc (.cells #[.string (bstr r.st), .int .i64 r.num, .int .i64 r.day, v, .string (bstr r.sg.st), .int .i64 r.sg.kind, .int .i64 r.sg.num, .int .i64 r.sg.iss, .int .i64 r.sg.own, .int .i64 r.sg.key, .int .i64 r.sg.fr, .int .i64 r.sg.un, .int .i64 r.sg.to, .int .i64 r.sg.e, .int .i64 r.sg.s, .int .i64 r.e, .int .i64 r.s] 121)) := (Below.refl _ _).alloc (Nat.le_refl _) _
  have ez : Ext w wz := by rw [hwz]; exact e1.alloc (by simp) _
  have b0 : wz.heap[w.heap.size]? = some (.cells (dvCells r v).toArray 121 (0, 0)) := by
    rw [hwz]
    exact (((Below.refl _ _).alloc (Nat.le_refl _) _ : Ext (w.alloc (.cells #[.string (bstr r.st), .int .i64 r.num, .int .i64 r.day, v, .string (bstr r.sg.st), .int .i64 r.sg.kind, .int .i64 r.sg.num, .int .i64 r.sg.iss, .int .i64 r.sg.own, .int .i64 r.sg.key, .int .i64 r.sg.fr, .int .i64 r.sg.un, .int .i64 r.sg.to, .int .i64 r.sg.e, .int .i64 r.sg.s, .int .i64 r.e, .int .i64 r.s] 121)) _).block _ (by simp)).trans (heap_alloc_new' w _)
  have b1 : wz.heap[w.heap.size + 1]? = some (.cells (dvCells zeroD (.slice none 0 0)).toArray 121 (0, 0)) := by
    have := heap_alloc_new' (w.alloc (.cells #[.string (bstr r.st), .int .i64 r.num, .int .i64 r.day, v, .string (bstr r.sg.st), .int .i64 r.sg.kind, .int .i64 r.sg.num, .int .i64 r.sg.iss, .int .i64 r.sg.own, .int .i64 r.sg.key, .int .i64 r.sg.fr, .int .i64 r.sg.un, .int .i64 r.sg.to, .int .i64 r.sg.e, .int .i64 r.sg.s, .int .i64 r.e, .int .i64 r.s] 121)) (.cells #[.string ⟨#[]⟩, .int .i64 0, .int .i64 0, .slice none 0 0, .string ⟨#[]⟩, .int .i64 0, .int .i64 0, .int .i64 0, .int .i64 0, .int .i64 0, .int .i64 0, .int .i64 0, .int .i64 0, .int .i64 0, .int .i64 0, .int .i64 0, .int .i64 0] 121)
    rw [show (w.alloc (.cells #[.string (bstr r.st), .int .i64 r.num, .int .i64 r.day, v, .string (bstr r.sg.st), .int .i64 r.sg.kind, .int .i64 r.sg.num, .int .i64 r.sg.iss, .int .i64 r.sg.own, .int .i64 r.sg.key, .int .i64 r.sg.fr, .int .i64 r.sg.un, .int .i64 r.sg.to, .int .i64 r.sg.e, .int .i64 r.sg.s, .int .i64 r.e, .int .i64 r.s] 121)).heap.size = w.heap.size + 1 by simp] at this
    rw [hwz]
    exact this
  have HR := Lib.hid (RdK.ext hv ez)
  have HL := Lib.hid hl
  have EZ := Lib.hid ez
  have c3 : wz.cell? ⟨w.heap.size, 3, none⟩ = some v := by rw [cell_of_row wz w.heap.size 3 _ _ _ b0]; rfl
  have cl := block_lt b0
  have B0 := Lib.hid b0
  have B1 := Lib.hid b1
  clear b0 b1 e1 ez hv hl
  obtain ⟨A, n, c, rfl, -⟩ := id HR.out
  unfold dvCells
  go_enter Tryz.func171, Tryz.ntmps171
  go_wp2_with fail
  rw [← hwz]
  clear hwz
  refine (cloneD_any _ HR.out HL.out).mono ?_
  rintro e w1 ⟨A1, n1, c1, rfl, o1, x1⟩
  have k0 := (x1.block _ cl).trans B0.out
  have k1 := (x1.block _ (block_lt B1.out)).trans B1.out
  have f3 : w1.frozen? ⟨w.heap.size, 3, none⟩ = false := by simp [World.frozen?, k0]
  have cl1 := block_lt k0
  have c31 : w1.cell? ⟨w.heap.size, 3, none⟩ = some (.slice A n c) := by rw [cell_of_row _ _ 3 _ _ _ k0]; rfl
  have hz := block_lt B1.out
  have t0 : (w1.setCell ⟨w.heap.size, 3, none⟩ (.slice A1 n1 c1)).heap[w.heap.size]? = some (.cells (dvCells r (.slice A1 n1 c1)).toArray 121 (0, 0)) := by
    have h9 := row_set k0 3 (.slice A1 n1 c1)
    exact h9
  have t1 : (w1.setCell ⟨w.heap.size, 3, none⟩ (.slice A1 n1 c1)).heap[w.heap.size + 1]? = some (.cells (dvCells zeroD (.slice none 0 0)).toArray 121 (0, 0)) := (setCell_block (by omega)).trans k1
  have HT0 := Lib.hid t0
  have HT1 := Lib.hid t1
  have H1 := Lib.hid (kD_all r (.slice A1 n1 c1) rfl)
  have X1 := Lib.hid (EZ.out.tr x1)
  have O1 := Lib.hid o1
  clear t0 t1 k0 k1 c3 x1 o1 B0 B1
  go_wp2_with (first | (refine wpList_load_row rfl 121 _ rfl w.heap.size rfl 121 (dvCells r (.slice A1 n1 c1)).toArray (0, 0) _ HT0.out Tryz.underlying121 rfl info_dv ?_) | (refine wpRow_store rfl 121 _ _ rfl rfl (w.heap.size + 1) (dvCells r (.slice A1 n1 c1)).toArray rfl rfl 121 (dvCells zeroD (.slice none 0 0)).toArray HT1.out info_dv rfl H1.out ?_))
  refine bodyPost_ret (v := .agg (dvCells r (.slice A1 n1 c1)).toArray) ?_ rfl ⟨A1, n1, c1, rfl, ?_, ?_⟩
  · exact results_cell_row rfl _ _ (w.heap.size + 1) 121 (dvCells r (.slice A1 n1 c1)).toArray (0, 0) _ rfl (row_at HT1.out) Tryz.underlying121 rfl info_dv
  · have hh : w.heap.size < wz.heap.size := by omega
    exact ((O1.out.grown (Gb.set w.heap.size 3 w1 _) (.inr fun q => by have := rowOf_geK O1.out _ q; omega)).grown (Gb.setRow (w.heap.size + 1) _ _) (.inr fun q => by have := rowOf_geK O1.out _ q; omega)).mono (by omega)
  · exact ext_setRow (ext_set X1.out (Nat.le_refl _)) (by omega) _
end Go.Proofs.YtkjplpmogfmhkaaGreatDoor
namespace Go.Proofs.YtkjplpmogfmhkaaGreatDoor
open Go.RowKit
set_option linter.unusedVariables false
set_option maxRecDepth 100000
theorem elemXR : ElemK Tryz.prog 72 103 8 88 := by
  have h : (Tryz.prog.info? 103).map (fun i => (i.zero, i.size, i.bytes)) = some (some (.agg #[.string ⟨#[]⟩, .int .i64 0, .int .i64 0, .int .i64 0, .slice none 0 0, .int .i64 0, .int .i64 0, .int .i64 0]), 8, 88) := by kernel_rfl
  obtain ⟨i, h1, h2, h3, h4⟩ := info_parts h
  exact ⟨i, _, Tryz.underlying72, h1, h2, h3, h4, rfl⟩
theorem oneR_any (t : RV) (u : Value) (W : World) (hu : RdK W 1 u (intsV t.ser)) (hl : t.ser.length ≤ 1000000) : Calls Tryz.prog 160 #[.agg (rvCells t u).toArray] W fun e W' => ∃ A1 n1 c1, e = .returned (.agg (rvCells t (.slice A1 n1 c1)).toArray) ∧ OwnK W' W.heap.size 3 1 (.slice A1 n1 c1) (intsV t.ser) ∧ Ext W W' :=
  (crev_any t u W (RdK.r1 hu) hl).mono fun e W' ⟨A1, n1, c1, h1, h2, h3⟩ => ⟨A1, n1, c1, h1, h2.k1, h3⟩
theorem litR (w : World) (t : RV) (u : Value) : RdK (w.alloc (.cells (rvCells t u).toArray 103)) 8 (.slice (some ⟨w.heap.size, 0, none⟩) 1 1) (rvCells t u) := by
  have := RdK.lit w 8 (rvCells t u).toArray 103 1 rfl (by unfold maxLen; omega)
  simpa using this
set_option maxHeartbeats 4000000 in
theorem eachR_any {v : Value} {l : List RV} (w : World) (hv : RdX kR w v l) (hl : l.length ≤ 100000) (hs : ∀ a ∈ l, a.ser.length ≤ 1000000) :
    Calls Tryz.prog 203 #[v, .func (.func 160) #[] #[]] w fun e w' => ∃ A c, e = .returned (.slice A l.length c) ∧ OwnX kR w' w.heap.size (.slice A l.length c) l ∧ Ext w w' := by
  obtain ⟨A, n, c, rfl, hn, hnc, hcm, hel⟩ := hv.at_
  subst hn
  unfold maxLen at hcm
  have HEL := Lib.hid hel
  have HSL := Lib.hid hs
  have HON := Lib.hid oneR_any
  clear hel hs hv
  go_enter Tryz.func203, Tryz.ntmps203
  go_wp2_with fail
  go_loopw [5, 10] (fun out i wr => ∃ (k : Nat) (Ao : Option Addr) (co : Nat) (ps : List (RV × Value)), k ≤ l.length ∧ i = .int .i64 (k : Int) ∧ out = .slice Ao k co ∧ Hid (ps.map Prod.fst = l.take k) ∧ Hid (OwnP kR wr w.heap.size (.slice Ao k co) ps) ∧ Hid (Ext w wr)) (fun _ i _ => l.length - (intOf i).toNat)
  case atStart => exact ⟨0, none, 0, [], Nat.zero_le _, rfl, rfl, Lib.hid rfl, Lib.hid (OwnP.empty _ _ _ _), Lib.hid (Below.refl _ _)⟩
  case round =>
    obtain ⟨k, Ao, co, ps, hk, rfl, rfl, HP, HO, X⟩ := hrel
    by_cases hlt : k < l.length
    case neg =>
      obtain rfl : k = l.length := by omega
      have HR : Hid (OwnX kR wr w.heap.size (.slice Ao l.length co) l) := Lib.hid ⟨ps, by rw [HP.out, List.take_length], HO.out⟩
      clear HP HO
      go_wp2_with fail
      go_ret
      exact ⟨_, _, rfl, HR.out, X.out⟩
    case pos =>
    obtain ⟨t, ht⟩ : ∃ t, l[k]? = some t := ⟨_, List.getElem?_eq_getElem hlt⟩
    obtain ⟨b, o, rfl, hbl, u, hcell, hu⟩ := HEL.out k t ht
    have HT := Lib.hid ht
    obtain ⟨Au, nu, cu, rfl, -⟩ := id hu
    have HU0 := Lib.hid (RdK.ext hu X.out)
    have HLT := Lib.hid (HSL.out t (List.mem_of_getElem? ht))
    clear ht hu
    have wi1 : IntKind.i64.wrap ((k : Int)) = (k : Int) := IntWalk.i64_in _ (by omega)
    have zi1 : (0 : Int) ≤ (k : Int) := by omega
    have li1 : (k : Int) < (l.length : Int) := by omega
    have ti1 : ((k : Int)).toNat = k := by omega
    have wk : IntKind.i64.wrap ((k : Int) + 1) = (k : Int) + 1 := IntWalk.i64_in _ (by omega)
    have l0 : wr.cell? ⟨b, o + k * 8, none⟩ = some (.string (bstr t.st)) := by
      have := (X.out.cell (p := ⟨b, o + (k * 8 + 0), none⟩) hbl).trans (hcell 0 _ rfl)
      exact this
    have l1 : wr.cell? ⟨b, o + k * 8 + 1, none⟩ = some (.int .i64 t.num) := by
      have := (X.out.cell (p := ⟨b, o + (k * 8 + 1), none⟩) hbl).trans (hcell 1 _ rfl)
      rwa [← Nat.add_assoc] at this
    have l2 : wr.cell? ⟨b, o + k * 8 + 2, none⟩ = some (.int .i64 t.day) := by
      have := (X.out.cell (p := ⟨b, o + (k * 8 + 2), none⟩) hbl).trans (hcell 2 _ rfl)
      rwa [← Nat.add_assoc] at this
    have l3 : wr.cell? ⟨b, o + k * 8 + 3, none⟩ = some (.int .i64 t.nxt) := by
      have := (X.out.cell (p := ⟨b, o + (k * 8 + 3), none⟩) hbl).trans (hcell 3 _ rfl)
      rwa [← Nat.add_assoc] at this
    have l4 : wr.cell? ⟨b, o + k * 8 + 4, none⟩ = some (.slice Au nu cu) := by
      have := (X.out.cell (p := ⟨b, o + (k * 8 + 4), none⟩) hbl).trans (hcell 4 _ rfl)
      rwa [← Nat.add_assoc] at this
    have l5 : wr.cell? ⟨b, o + k * 8 + 5, none⟩ = some (.int .i64 t.iss) := by
      have := (X.out.cell (p := ⟨b, o + (k * 8 + 5), none⟩) hbl).trans (hcell 5 _ rfl)
      rwa [← Nat.add_assoc] at this
    have l6 : wr.cell? ⟨b, o + k * 8 + 6, none⟩ = some (.int .i64 t.e) := by
      have := (X.out.cell (p := ⟨b, o + (k * 8 + 6), none⟩) hbl).trans (hcell 6 _ rfl)
      rwa [← Nat.add_assoc] at this
    have l7 : wr.cell? ⟨b, o + k * 8 + 7, none⟩ = some (.int .i64 t.s) := by
      have := (X.out.cell (p := ⟨b, o + (k * 8 + 7), none⟩) hbl).trans (hcell 7 _ rfl)
      rwa [← Nat.add_assoc] at this
    clear hcell
    obtain ⟨wn, hwn⟩ : ∃ wn, wn = wr.alloc (.cells #[.string (bstr t.st), .int .i64 t.num, .int .i64 t.day, .int .i64 t.nxt, .slice Au nu cu, .int .i64 t.iss, .int .i64 t.e, .int .i64 t.s] 103) := ⟨_, rfl⟩
    have en : Ext wr wn := by rw [hwn]; exact (Below.refl _ _).alloc (Nat.le_refl _) _
    have bn : wn.heap[wr.heap.size]? = some (.cells (rvCells t (.slice Au nu cu)).toArray 103 (0, 0)) := by rw [hwn]; exact heap_alloc_new' wr _
    have HBN := Lib.hid bn
    have HU := Lib.hid (RdK.ext HU0.out en)
    have HON2 := Lib.hid (HO.out.ext en)
    have XN := Lib.hid (X.out.tr en)
    go_upto_region 5 with fail
    rw [← hwn]
    clear hwn l0 l1 l2 l3 l4 l5 l6 l7 HU0 HO X en bn
    unfold rvCells at HBN
    go_wp2_with (refine wpList_load_row rfl 103 _ rfl wr.heap.size rfl 103 #[.string (bstr t.st), .int .i64 t.num, .int .i64 t.day, .int .i64 t.nxt, .slice Au nu cu, .int .i64 t.iss, .int .i64 t.e, .int .i64 t.s] (0, 0) _ HBN.out Tryz.underlying103 rfl info_rv ?_)
    refine (HON.out t (.slice Au nu cu) wn HU.out HLT.out).mono ?_
    rintro e w2 ⟨A1, n1, c1, rfl, o1, b2⟩
    unfold rvCells
    have HO2 := Lib.hid (HON2.out.ext b2)
    have X2 := Lib.hid (XN.out.tr b2)
    have HI2 := Lib.hid (o1.mono XN.out.size)
    clear b2 o1 HU HON2 XN HBN
    have eA : Ext w2 (w2.alloc (.cells (rvCells t (.slice A1 n1 c1)).toArray 103)) := (Below.refl _ _).alloc (Nat.le_refl _) _
    have HO3 := Lib.hid (HO2.out.ext eA)
    have HI3 := Lib.hid (HI2.out.ext eA)
    have X3 := Lib.hid (X2.out.tr eA)
    have HRK := Lib.hid (litR w2 t (.slice A1 n1 c1))
    have HPL := Lib.hid (show k * 8 = (kR.cells ps).length by
      have h1 := congrArg List.length HP.out
      rw [List.length_map, List.length_take, Nat.min_eq_left (Nat.le_of_lt hlt)] at h1
      rw [kR.cells_len, h1]; rfl)
    have HONE := Lib.hid (kR.one t (.slice A1 n1 c1) rfl)
    unfold rvCells at HRK HO3 HI3 X3
    clear eA
    go_wp2_with (refine wpList_appK (k := 8) (by decide) elemXR (n := k) (m := 1) (B := w.heap.size) HO3.out.1 HPL.out HRK.out (by rfl) HONE.out X3.out (by omega) (by unfold maxLen; omega) X3.out.size rfl rfl rfl rfl ?_; intro A8 n8 c8 w8 hn8 o8 x8 g8)
    obtain rfl : n8 = k + 1 := hn8.out
    have HO8 := Lib.hid (show OwnP kR w8 w.heap.size (.slice A8 (k + 1) c8) (ps ++ [(t, .slice A1 n1 c1)]) from HO3.out.app HI3.out o8 g8)
    have HP8 := Lib.hid (show (ps ++ [(t, Value.slice A1 n1 c1)]).map Prod.fst = l.take (k + 1) by rw [List.map_append, HP.out, List.take_succ_eq_append_getElem hlt]; have := HT.out; rw [List.getElem?_eq_getElem hlt] at this; rw [Option.some.inj this]; rfl)
    have X8 := Lib.hid x8
    clear x8 o8 g8
    go_roundw
    case rel => exact ⟨k + 1, A8, c8, _, by omega, by go_num, rfl, HP8, HO8, X8⟩
    case measure => simp [intOf]; omega
theorem elemXM : ElemK Tryz.prog 71 80 17 168 := by
  have h : (Tryz.prog.info? 80).map (fun i => (i.zero, i.size, i.bytes)) = some (some (.agg #[.string ⟨#[]⟩, .int .i64 0, .int .i64 0, .slice none 0 0, .string ⟨#[]⟩, .int .i64 0, .int .i64 0, .int .i64 0, .int .i64 0, .int .i64 0, .int .i64 0, .int .i64 0, .int .i64 0, .int .i64 0, .int .i64 0, .int .i64 0, .int .i64 0]), 17, 168) := by kernel_rfl
  obtain ⟨i, h1, h2, h3, h4⟩ := info_parts h
  exact ⟨i, _, Tryz.underlying71, h1, h2, h3, h4, rfl⟩
theorem oneM_any (t : MA) (u : Value) (W : World) (hu : RdK W 11 u (ncsCells t.roots)) (hl : t.roots.length ≤ 1000000) : Calls Tryz.prog 135 #[.agg (maCells t u).toArray] W fun e W' => ∃ A1 n1 c1, e = .returned (.agg (maCells t (.slice A1 n1 c1)).toArray) ∧ OwnK W' W.heap.size 56 11 (.slice A1 n1 c1) (ncsCells t.roots) ∧ Ext W W' :=
  cmaster_any t u W hu hl
theorem litM (w : World) (t : MA) (u : Value) : RdK (w.alloc (.cells (maCells t u).toArray 80)) 17 (.slice (some ⟨w.heap.size, 0, none⟩) 1 1) (maCells t u) := by
  have := RdK.lit w 17 (maCells t u).toArray 80 1 rfl (by unfold maxLen; omega)
  simpa using this
set_option maxHeartbeats 4000000 in
theorem eachM_any {v : Value} {l : List MA} (w : World) (hv : RdX kM w v l) (hl : l.length ≤ 100000) (hs : ∀ a ∈ l, a.roots.length ≤ 1000000) :
    Calls Tryz.prog 202 #[v, .func (.func 135) #[] #[]] w fun e w' => ∃ A c, e = .returned (.slice A l.length c) ∧ OwnX kM w' w.heap.size (.slice A l.length c) l ∧ Ext w w' := by
  obtain ⟨A, n, c, rfl, hn, hnc, hcm, hel⟩ := hv.at_
  subst hn
  unfold maxLen at hcm
  have HEL := Lib.hid hel
  have HSL := Lib.hid hs
  have HON := Lib.hid oneM_any
  clear hel hs hv
  go_enter Tryz.func202, Tryz.ntmps202
  go_wp2_with fail
  go_loopw [5, 10] (fun out i wr => ∃ (k : Nat) (Ao : Option Addr) (co : Nat) (ps : List (MA × Value)), k ≤ l.length ∧ i = .int .i64 (k : Int) ∧ out = .slice Ao k co ∧ Hid (ps.map Prod.fst = l.take k) ∧ Hid (OwnP kM wr w.heap.size (.slice Ao k co) ps) ∧ Hid (Ext w wr)) (fun _ i _ => l.length - (intOf i).toNat)
  case atStart => exact ⟨0, none, 0, [], Nat.zero_le _, rfl, rfl, Lib.hid rfl, Lib.hid (OwnP.empty _ _ _ _), Lib.hid (Below.refl _ _)⟩
  case round =>
    obtain ⟨k, Ao, co, ps, hk, rfl, rfl, HP, HO, X⟩ := hrel
    by_cases hlt : k < l.length
    case neg =>
      obtain rfl : k = l.length := by omega
      have HR : Hid (OwnX kM wr w.heap.size (.slice Ao l.length co) l) := Lib.hid ⟨ps, by rw [HP.out, List.take_length], HO.out⟩
      clear HP HO
      go_wp2_with fail
      go_ret
      exact ⟨_, _, rfl, HR.out, X.out⟩
    case pos =>
    obtain ⟨t, ht⟩ : ∃ t, l[k]? = some t := ⟨_, List.getElem?_eq_getElem hlt⟩
    obtain ⟨b, o, rfl, hbl, u, hcell, hu⟩ := HEL.out k t ht
    have HT := Lib.hid ht
    obtain ⟨Au, nu, cu, rfl, -⟩ := id hu
    have HU0 := Lib.hid (RdK.ext hu X.out)
    have HLT := Lib.hid (HSL.out t (List.mem_of_getElem? ht))
    clear ht hu
    have wi2 : IntKind.i64.wrap ((k : Int)) = (k : Int) := IntWalk.i64_in _ (by omega)
    have zi2 : (0 : Int) ≤ (k : Int) := by omega
    have li2 : (k : Int) < (l.length : Int) := by omega
    have ti2 : ((k : Int)).toNat = k := by omega
    have wk : IntKind.i64.wrap ((k : Int) + 1) = (k : Int) + 1 := IntWalk.i64_in _ (by omega)
    have l0 : wr.cell? ⟨b, o + k * 17, none⟩ = some (.string (bstr t.st)) := by
      have := (X.out.cell (p := ⟨b, o + (k * 17 + 0), none⟩) hbl).trans (hcell 0 _ rfl)
      exact this
    have l1 : wr.cell? ⟨b, o + k * 17 + 1, none⟩ = some (.int .i64 t.num) := by
      have := (X.out.cell (p := ⟨b, o + (k * 17 + 1), none⟩) hbl).trans (hcell 1 _ rfl)
      rwa [← Nat.add_assoc] at this
    have l2 : wr.cell? ⟨b, o + k * 17 + 2, none⟩ = some (.int .i64 t.day) := by
      have := (X.out.cell (p := ⟨b, o + (k * 17 + 2), none⟩) hbl).trans (hcell 2 _ rfl)
      rwa [← Nat.add_assoc] at this
    have l3 : wr.cell? ⟨b, o + k * 17 + 3, none⟩ = some (.slice Au nu cu) := by
      have := (X.out.cell (p := ⟨b, o + (k * 17 + 3), none⟩) hbl).trans (hcell 3 _ rfl)
      rwa [← Nat.add_assoc] at this
    have l4 : wr.cell? ⟨b, o + k * 17 + 4, none⟩ = some (.string (bstr t.sg.st)) := by
      have := (X.out.cell (p := ⟨b, o + (k * 17 + 4), none⟩) hbl).trans (hcell 4 _ rfl)
      rwa [← Nat.add_assoc] at this
    have l5 : wr.cell? ⟨b, o + k * 17 + 5, none⟩ = some (.int .i64 t.sg.kind) := by
      have := (X.out.cell (p := ⟨b, o + (k * 17 + 5), none⟩) hbl).trans (hcell 5 _ rfl)
      rwa [← Nat.add_assoc] at this
    have l6 : wr.cell? ⟨b, o + k * 17 + 6, none⟩ = some (.int .i64 t.sg.num) := by
      have := (X.out.cell (p := ⟨b, o + (k * 17 + 6), none⟩) hbl).trans (hcell 6 _ rfl)
      rwa [← Nat.add_assoc] at this
    have l7 : wr.cell? ⟨b, o + k * 17 + 7, none⟩ = some (.int .i64 t.sg.iss) := by
      have := (X.out.cell (p := ⟨b, o + (k * 17 + 7), none⟩) hbl).trans (hcell 7 _ rfl)
      rwa [← Nat.add_assoc] at this
    have l8 : wr.cell? ⟨b, o + k * 17 + 8, none⟩ = some (.int .i64 t.sg.own) := by
      have := (X.out.cell (p := ⟨b, o + (k * 17 + 8), none⟩) hbl).trans (hcell 8 _ rfl)
      rwa [← Nat.add_assoc] at this
    have l9 : wr.cell? ⟨b, o + k * 17 + 9, none⟩ = some (.int .i64 t.sg.key) := by
      have := (X.out.cell (p := ⟨b, o + (k * 17 + 9), none⟩) hbl).trans (hcell 9 _ rfl)
      rwa [← Nat.add_assoc] at this
    have l10 : wr.cell? ⟨b, o + k * 17 + 10, none⟩ = some (.int .i64 t.sg.fr) := by
      have := (X.out.cell (p := ⟨b, o + (k * 17 + 10), none⟩) hbl).trans (hcell 10 _ rfl)
      rwa [← Nat.add_assoc] at this
    have l11 : wr.cell? ⟨b, o + k * 17 + 11, none⟩ = some (.int .i64 t.sg.un) := by
      have := (X.out.cell (p := ⟨b, o + (k * 17 + 11), none⟩) hbl).trans (hcell 11 _ rfl)
      rwa [← Nat.add_assoc] at this
    have l12 : wr.cell? ⟨b, o + k * 17 + 12, none⟩ = some (.int .i64 t.sg.to) := by
      have := (X.out.cell (p := ⟨b, o + (k * 17 + 12), none⟩) hbl).trans (hcell 12 _ rfl)
      rwa [← Nat.add_assoc] at this
    have l13 : wr.cell? ⟨b, o + k * 17 + 13, none⟩ = some (.int .i64 t.sg.e) := by
      have := (X.out.cell (p := ⟨b, o + (k * 17 + 13), none⟩) hbl).trans (hcell 13 _ rfl)
      rwa [← Nat.add_assoc] at this
    have l14 : wr.cell? ⟨b, o + k * 17 + 14, none⟩ = some (.int .i64 t.sg.s) := by
      have := (X.out.cell (p := ⟨b, o + (k * 17 + 14), none⟩) hbl).trans (hcell 14 _ rfl)
      rwa [← Nat.add_assoc] at this
    have l15 : wr.cell? ⟨b, o + k * 17 + 15, none⟩ = some (.int .i64 t.e) := by
      have := (X.out.cell (p := ⟨b, o + (k * 17 + 15), none⟩) hbl).trans (hcell 15 _ rfl)
      rwa [← Nat.add_assoc] at this
    have l16 : wr.cell? ⟨b, o + k * 17 + 16, none⟩ = some (.int .i64 t.s) := by
      have := (X.out.cell (p := ⟨b, o + (k * 17 + 16), none⟩) hbl).trans (hcell 16 _ rfl)
      rwa [← Nat.add_assoc] at this
    clear hcell
    obtain ⟨wn, hwn⟩ : ∃ wn, wn = wr.alloc (.cells #[.string (bstr t.st), .int .i64 t.num, .int .i64 t.day, .slice Au nu cu, .string (bstr t.sg.st), .int .i64 t.sg.kind, .int .i64 t.sg.num, .int .i64 t.sg.iss, .int .i64 t.sg.own, .int .i64 t.sg.key, .int .i64 t.sg.fr, .int .i64 t.sg.un, .int .i64 t.sg.to, .int .i64 t.sg.e, .int .i64 t.sg.s, .int .i64 t.e, .int .i64 t.s] 80) := ⟨_, rfl⟩
    have en : Ext wr wn := by rw [hwn]; exact (Below.refl _ _).alloc (Nat.le_refl _) _
    have bn : wn.heap[wr.heap.size]? = some (.cells (maCells t (.slice Au nu cu)).toArray 80 (0, 0)) := by rw [hwn]; exact heap_alloc_new' wr _
    have HBN := Lib.hid bn
    have HU := Lib.hid (RdK.ext HU0.out en)
    have HON2 := Lib.hid (HO.out.ext en)
    have XN := Lib.hid (X.out.tr en)
    go_upto_region 5 with fail
    rw [← hwn]
    clear hwn l0 l1 l2 l3 l4 l5 l6 l7 l8 l9 l10 l11 l12 l13 l14 l15 l16 HU0 HO X en bn
    unfold maCells at HBN
    go_wp2_with (refine wpList_load_row rfl 80 _ rfl wr.heap.size rfl 80 #[.string (bstr t.st), .int .i64 t.num, .int .i64 t.day, .slice Au nu cu, .string (bstr t.sg.st), .int .i64 t.sg.kind, .int .i64 t.sg.num, .int .i64 t.sg.iss, .int .i64 t.sg.own, .int .i64 t.sg.key, .int .i64 t.sg.fr, .int .i64 t.sg.un, .int .i64 t.sg.to, .int .i64 t.sg.e, .int .i64 t.sg.s, .int .i64 t.e, .int .i64 t.s] (0, 0) _ HBN.out Tryz.underlying80 rfl info_ma ?_)
    refine (HON.out t (.slice Au nu cu) wn HU.out HLT.out).mono ?_
    rintro e w2 ⟨A1, n1, c1, rfl, o1, b2⟩
    unfold maCells
    have HO2 := Lib.hid (HON2.out.ext b2)
    have X2 := Lib.hid (XN.out.tr b2)
    have HI2 := Lib.hid (o1.mono XN.out.size)
    clear b2 o1 HU HON2 XN HBN
    have eA : Ext w2 (w2.alloc (.cells (maCells t (.slice A1 n1 c1)).toArray 80)) := (Below.refl _ _).alloc (Nat.le_refl _) _
    have HO3 := Lib.hid (HO2.out.ext eA)
    have HI3 := Lib.hid (HI2.out.ext eA)
    have X3 := Lib.hid (X2.out.tr eA)
    have HRK := Lib.hid (litM w2 t (.slice A1 n1 c1))
    have HPL := Lib.hid (show k * 17 = (kM.cells ps).length by
      have h1 := congrArg List.length HP.out
      rw [List.length_map, List.length_take, Nat.min_eq_left (Nat.le_of_lt hlt)] at h1
      rw [kM.cells_len, h1]; rfl)
    have HONE := Lib.hid (kM.one t (.slice A1 n1 c1) rfl)
    unfold maCells at HRK HO3 HI3 X3
    clear eA
    go_wp2_with (refine wpList_appK (k := 17) (by decide) elemXM (n := k) (m := 1) (B := w.heap.size) HO3.out.1 HPL.out HRK.out (by rfl) HONE.out X3.out (by omega) (by unfold maxLen; omega) X3.out.size rfl rfl rfl rfl ?_; intro A8 n8 c8 w8 hn8 o8 x8 g8)
    obtain rfl : n8 = k + 1 := hn8.out
    have HO8 := Lib.hid (show OwnP kM w8 w.heap.size (.slice A8 (k + 1) c8) (ps ++ [(t, .slice A1 n1 c1)]) from HO3.out.app HI3.out o8 g8)
    have HP8 := Lib.hid (show (ps ++ [(t, Value.slice A1 n1 c1)]).map Prod.fst = l.take (k + 1) by rw [List.map_append, HP.out, List.take_succ_eq_append_getElem hlt]; have := HT.out; rw [List.getElem?_eq_getElem hlt] at this; rw [Option.some.inj this]; rfl)
    have X8 := Lib.hid x8
    clear x8 o8 g8
    go_roundw
    case rel => exact ⟨k + 1, A8, c8, _, by omega, by go_num, rfl, HP8, HO8, X8⟩
    case measure => simp [intOf]; omega
theorem elemXD : ElemK Tryz.prog 73 121 17 168 := by
  have h : (Tryz.prog.info? 121).map (fun i => (i.zero, i.size, i.bytes)) = some (some (.agg #[.string ⟨#[]⟩, .int .i64 0, .int .i64 0, .slice none 0 0, .string ⟨#[]⟩, .int .i64 0, .int .i64 0, .int .i64 0, .int .i64 0, .int .i64 0, .int .i64 0, .int .i64 0, .int .i64 0, .int .i64 0, .int .i64 0, .int .i64 0, .int .i64 0]), 17, 168) := by kernel_rfl
  obtain ⟨i, h1, h2, h3, h4⟩ := info_parts h
  exact ⟨i, _, Tryz.underlying73, h1, h2, h3, h4, rfl⟩
theorem oneD_any (t : DV) (u : Value) (W : World) (hu : RdK W 5 u (dfsCells t.defs)) (hl : t.defs.length ≤ 1000000) : Calls Tryz.prog 171 #[.agg (dvCells t u).toArray] W fun e W' => ∃ A1 n1 c1, e = .returned (.agg (dvCells t (.slice A1 n1 c1)).toArray) ∧ OwnK W' W.heap.size 177 5 (.slice A1 n1 c1) (dfsCells t.defs) ∧ Ext W W' :=
  cdev_any t u W hu hl
theorem litD (w : World) (t : DV) (u : Value) : RdK (w.alloc (.cells (dvCells t u).toArray 121)) 17 (.slice (some ⟨w.heap.size, 0, none⟩) 1 1) (dvCells t u) := by
  have := RdK.lit w 17 (dvCells t u).toArray 121 1 rfl (by unfold maxLen; omega)
  simpa using this
set_option maxHeartbeats 4000000 in
theorem eachD_any {v : Value} {l : List DV} (w : World) (hv : RdX kD w v l) (hl : l.length ≤ 100000) (hs : ∀ a ∈ l, a.defs.length ≤ 1000000) :
    Calls Tryz.prog 204 #[v, .func (.func 171) #[] #[]] w fun e w' => ∃ A c, e = .returned (.slice A l.length c) ∧ OwnX kD w' w.heap.size (.slice A l.length c) l ∧ Ext w w' := by
  obtain ⟨A, n, c, rfl, hn, hnc, hcm, hel⟩ := hv.at_
  subst hn
  unfold maxLen at hcm
  have HEL := Lib.hid hel
  have HSL := Lib.hid hs
  have HON := Lib.hid oneD_any
  clear hel hs hv
  go_enter Tryz.func204, Tryz.ntmps204
  go_wp2_with fail
  go_loopw [5, 10] (fun out i wr => ∃ (k : Nat) (Ao : Option Addr) (co : Nat) (ps : List (DV × Value)), k ≤ l.length ∧ i = .int .i64 (k : Int) ∧ out = .slice Ao k co ∧ Hid (ps.map Prod.fst = l.take k) ∧ Hid (OwnP kD wr w.heap.size (.slice Ao k co) ps) ∧ Hid (Ext w wr)) (fun _ i _ => l.length - (intOf i).toNat)
  case atStart => exact ⟨0, none, 0, [], Nat.zero_le _, rfl, rfl, Lib.hid rfl, Lib.hid (OwnP.empty _ _ _ _), Lib.hid (Below.refl _ _)⟩
  case round =>
    obtain ⟨k, Ao, co, ps, hk, rfl, rfl, HP, HO, X⟩ := hrel
    by_cases hlt : k < l.length
    case neg =>
      obtain rfl : k = l.length := by omega
      have HR : Hid (OwnX kD wr w.heap.size (.slice Ao l.length co) l) := Lib.hid ⟨ps, by rw [HP.out, List.take_length], HO.out⟩
      clear HP HO
      go_wp2_with fail
      go_ret
      exact ⟨_, _, rfl, HR.out, X.out⟩
    case pos =>
    obtain ⟨t, ht⟩ : ∃ t, l[k]? = some t := ⟨_, List.getElem?_eq_getElem hlt⟩
    obtain ⟨b, o, rfl, hbl, u, hcell, hu⟩ := HEL.out k t ht
    have HT := Lib.hid ht
    obtain ⟨Au, nu, cu, rfl, -⟩ := id hu
    have HU0 := Lib.hid (RdK.ext hu X.out)
    have HLT := Lib.hid (HSL.out t (List.mem_of_getElem? ht))
    clear ht hu
    have wi3 : IntKind.i64.wrap ((k : Int)) = (k : Int) := IntWalk.i64_in _ (by omega)
    have zi3 : (0 : Int) ≤ (k : Int) := by omega
    have li3 : (k : Int) < (l.length : Int) := by omega
    have ti3 : ((k : Int)).toNat = k := by omega
    have wk : IntKind.i64.wrap ((k : Int) + 1) = (k : Int) + 1 := IntWalk.i64_in _ (by omega)
    have l0 : wr.cell? ⟨b, o + k * 17, none⟩ = some (.string (bstr t.st)) := by
      have := (X.out.cell (p := ⟨b, o + (k * 17 + 0), none⟩) hbl).trans (hcell 0 _ rfl)
      exact this
    have l1 : wr.cell? ⟨b, o + k * 17 + 1, none⟩ = some (.int .i64 t.num) := by
      have := (X.out.cell (p := ⟨b, o + (k * 17 + 1), none⟩) hbl).trans (hcell 1 _ rfl)
      rwa [← Nat.add_assoc] at this
    have l2 : wr.cell? ⟨b, o + k * 17 + 2, none⟩ = some (.int .i64 t.day) := by
      have := (X.out.cell (p := ⟨b, o + (k * 17 + 2), none⟩) hbl).trans (hcell 2 _ rfl)
      rwa [← Nat.add_assoc] at this
    have l3 : wr.cell? ⟨b, o + k * 17 + 3, none⟩ = some (.slice Au nu cu) := by
      have := (X.out.cell (p := ⟨b, o + (k * 17 + 3), none⟩) hbl).trans (hcell 3 _ rfl)
      rwa [← Nat.add_assoc] at this
    have l4 : wr.cell? ⟨b, o + k * 17 + 4, none⟩ = some (.string (bstr t.sg.st)) := by
      have := (X.out.cell (p := ⟨b, o + (k * 17 + 4), none⟩) hbl).trans (hcell 4 _ rfl)
      rwa [← Nat.add_assoc] at this
    have l5 : wr.cell? ⟨b, o + k * 17 + 5, none⟩ = some (.int .i64 t.sg.kind) := by
      have := (X.out.cell (p := ⟨b, o + (k * 17 + 5), none⟩) hbl).trans (hcell 5 _ rfl)
      rwa [← Nat.add_assoc] at this
    have l6 : wr.cell? ⟨b, o + k * 17 + 6, none⟩ = some (.int .i64 t.sg.num) := by
      have := (X.out.cell (p := ⟨b, o + (k * 17 + 6), none⟩) hbl).trans (hcell 6 _ rfl)
      rwa [← Nat.add_assoc] at this
    have l7 : wr.cell? ⟨b, o + k * 17 + 7, none⟩ = some (.int .i64 t.sg.iss) := by
      have := (X.out.cell (p := ⟨b, o + (k * 17 + 7), none⟩) hbl).trans (hcell 7 _ rfl)
      rwa [← Nat.add_assoc] at this
    have l8 : wr.cell? ⟨b, o + k * 17 + 8, none⟩ = some (.int .i64 t.sg.own) := by
      have := (X.out.cell (p := ⟨b, o + (k * 17 + 8), none⟩) hbl).trans (hcell 8 _ rfl)
      rwa [← Nat.add_assoc] at this
    have l9 : wr.cell? ⟨b, o + k * 17 + 9, none⟩ = some (.int .i64 t.sg.key) := by
      have := (X.out.cell (p := ⟨b, o + (k * 17 + 9), none⟩) hbl).trans (hcell 9 _ rfl)
      rwa [← Nat.add_assoc] at this
    have l10 : wr.cell? ⟨b, o + k * 17 + 10, none⟩ = some (.int .i64 t.sg.fr) := by
      have := (X.out.cell (p := ⟨b, o + (k * 17 + 10), none⟩) hbl).trans (hcell 10 _ rfl)
      rwa [← Nat.add_assoc] at this
    have l11 : wr.cell? ⟨b, o + k * 17 + 11, none⟩ = some (.int .i64 t.sg.un) := by
      have := (X.out.cell (p := ⟨b, o + (k * 17 + 11), none⟩) hbl).trans (hcell 11 _ rfl)
      rwa [← Nat.add_assoc] at this
    have l12 : wr.cell? ⟨b, o + k * 17 + 12, none⟩ = some (.int .i64 t.sg.to) := by
      have := (X.out.cell (p := ⟨b, o + (k * 17 + 12), none⟩) hbl).trans (hcell 12 _ rfl)
      rwa [← Nat.add_assoc] at this
    have l13 : wr.cell? ⟨b, o + k * 17 + 13, none⟩ = some (.int .i64 t.sg.e) := by
      have := (X.out.cell (p := ⟨b, o + (k * 17 + 13), none⟩) hbl).trans (hcell 13 _ rfl)
      rwa [← Nat.add_assoc] at this
    have l14 : wr.cell? ⟨b, o + k * 17 + 14, none⟩ = some (.int .i64 t.sg.s) := by
      have := (X.out.cell (p := ⟨b, o + (k * 17 + 14), none⟩) hbl).trans (hcell 14 _ rfl)
      rwa [← Nat.add_assoc] at this
    have l15 : wr.cell? ⟨b, o + k * 17 + 15, none⟩ = some (.int .i64 t.e) := by
      have := (X.out.cell (p := ⟨b, o + (k * 17 + 15), none⟩) hbl).trans (hcell 15 _ rfl)
      rwa [← Nat.add_assoc] at this
    have l16 : wr.cell? ⟨b, o + k * 17 + 16, none⟩ = some (.int .i64 t.s) := by
      have := (X.out.cell (p := ⟨b, o + (k * 17 + 16), none⟩) hbl).trans (hcell 16 _ rfl)
      rwa [← Nat.add_assoc] at this
    clear hcell
    obtain ⟨wn, hwn⟩ : ∃ wn, wn = wr.alloc (.cells #[.string (bstr t.st), .int .i64 t.num, .int .i64 t.day, .slice Au nu cu, .string (bstr t.sg.st), .int .i64 t.sg.kind, .int .i64 t.sg.num, .int .i64 t.sg.iss, .int .i64 t.sg.own, .int .i64 t.sg.key, .int .i64 t.sg.fr, .int .i64 t.sg.un, .int .i64 t.sg.to, .int .i64 t.sg.e, .int .i64 t.sg.s, .int .i64 t.e, .int .i64 t.s] 121) := ⟨_, rfl⟩
    have en : Ext wr wn := by rw [hwn]; exact (Below.refl _ _).alloc (Nat.le_refl _) _
    have bn : wn.heap[wr.heap.size]? = some (.cells (dvCells t (.slice Au nu cu)).toArray 121 (0, 0)) := by rw [hwn]; exact heap_alloc_new' wr _
    have HBN := Lib.hid bn
    have HU := Lib.hid (RdK.ext HU0.out en)
    have HON2 := Lib.hid (HO.out.ext en)
    have XN := Lib.hid (X.out.tr en)
    go_upto_region 5 with fail
    rw [← hwn]
    clear hwn l0 l1 l2 l3 l4 l5 l6 l7 l8 l9 l10 l11 l12 l13 l14 l15 l16 HU0 HO X en bn
    unfold dvCells at HBN
    go_wp2_with (refine wpList_load_row rfl 121 _ rfl wr.heap.size rfl 121 #[.string (bstr t.st), .int .i64 t.num, .int .i64 t.day, .slice Au nu cu, .string (bstr t.sg.st), .int .i64 t.sg.kind, .int .i64 t.sg.num, .int .i64 t.sg.iss, .int .i64 t.sg.own, .int .i64 t.sg.key, .int .i64 t.sg.fr, .int .i64 t.sg.un, .int .i64 t.sg.to, .int .i64 t.sg.e, .int .i64 t.sg.s, .int .i64 t.e, .int .i64 t.s] (0, 0) _ HBN.out Tryz.underlying121 rfl info_dv ?_)
    refine (HON.out t (.slice Au nu cu) wn HU.out HLT.out).mono ?_
    rintro e w2 ⟨A1, n1, c1, rfl, o1, b2⟩
    unfold dvCells
    have HO2 := Lib.hid (HON2.out.ext b2)
    have X2 := Lib.hid (XN.out.tr b2)
    have HI2 := Lib.hid (o1.mono XN.out.size)
    clear b2 o1 HU HON2 XN HBN
    have eA : Ext w2 (w2.alloc (.cells (dvCells t (.slice A1 n1 c1)).toArray 121)) := (Below.refl _ _).alloc (Nat.le_refl _) _
    have HO3 := Lib.hid (HO2.out.ext eA)
    have HI3 := Lib.hid (HI2.out.ext eA)
    have X3 := Lib.hid (X2.out.tr eA)
    have HRK := Lib.hid (litD w2 t (.slice A1 n1 c1))
    have HPL := Lib.hid (show k * 17 = (kD.cells ps).length by
      have h1 := congrArg List.length HP.out
      rw [List.length_map, List.length_take, Nat.min_eq_left (Nat.le_of_lt hlt)] at h1
      rw [kD.cells_len, h1]; rfl)
    have HONE := Lib.hid (kD.one t (.slice A1 n1 c1) rfl)
    unfold dvCells at HRK HO3 HI3 X3
    clear eA
    go_wp2_with (refine wpList_appK (k := 17) (by decide) elemXD (n := k) (m := 1) (B := w.heap.size) HO3.out.1 HPL.out HRK.out (by rfl) HONE.out X3.out (by omega) (by unfold maxLen; omega) X3.out.size rfl rfl rfl rfl ?_; intro A8 n8 c8 w8 hn8 o8 x8 g8)
    obtain rfl : n8 = k + 1 := hn8.out
    have HO8 := Lib.hid (show OwnP kD w8 w.heap.size (.slice A8 (k + 1) c8) (ps ++ [(t, .slice A1 n1 c1)]) from HO3.out.app HI3.out o8 g8)
    have HP8 := Lib.hid (show (ps ++ [(t, Value.slice A1 n1 c1)]).map Prod.fst = l.take (k + 1) by rw [List.map_append, HP.out, List.take_succ_eq_append_getElem hlt]; have := HT.out; rw [List.getElem?_eq_getElem hlt] at this; rw [Option.some.inj this]; rfl)
    have X8 := Lib.hid x8
    clear x8 o8 g8
    go_roundw
    case rel => exact ⟨k + 1, A8, c8, _, by omega, by go_num, rfl, HP8, HO8, X8⟩
    case measure => simp [intOf]; omega
end Go.Proofs.YtkjplpmogfmhkaaGreatDoor
namespace Go.Proofs.YtkjplpmogfmhkaaGreatDoor
open Go.RowKit
set_option linter.unusedVariables false
set_option maxRecDepth 100000
/-- New slices in slots; a new store. -/
def GOwS (B : Nat) (l : List NC) : VPred := fun v w => ∃ s : SlT, v = slV s ∧ OwnK w B 56 11 (slV s) (ncsCells l)
theorem stable_GOwS (B : Nat) (l : List NC) : StableP (GOwS B l) := fun v w w' e ⟨s, h1, h2⟩ => ⟨s, h1, h2.ext e⟩
def GOwX {α : Type} (K : LK α) (B : Nat) (l : List α) : VPred := fun v w => ∃ s : SlT, v = slV s ∧ OwnX K w B (slV s) l
theorem stable_GOwX {α : Type} (K : LK α) (B : Nat) (l : List α) : StableP (GOwX K B l) := fun v w w' e ⟨s, h1, h2⟩ => ⟨s, h1, h2.ext e⟩
def GStO (B : Nat) (S : ST) : VPred := fun v w => ∃ s0 s1 s2 s3 s4 : SlT, v = storeV s0 s1 s2 s3 s4 ∧ StO w B s0 s1 s2 s3 s4 S
theorem stable_GStO (B : Nat) (S : ST) : StableP (GStO B S) := fun v w w' e ⟨s0, s1, s2, s3, s4, h1, h2⟩ => ⟨s0, s1, s2, s3, s4, h1, h2.ext e⟩
theorem run_buildSt (W : World) (s0 s1 s2 s3 s4 : SlT) : (Instr.build 75 [(0, slV s0), (1, slV s1), (2, slV s2), (3, slV s3), (4, slV s4)].toArray).run Tryz.prog W = .ok (storeV s0 s1 s2 s3 s4) W := by
  unfold slV storeV
  go_simp
theorem clone_gs {B : Nat} {a : Value} {l : List NC} (W : World) (ha : RdN W a l) (hl : l.length ≤ 1000000) (hB : B ≤ W.heap.size) : Calls Tryz.prog 201 #[a] W fun e w' => ∃ v, e = .returned v ∧ Ext W w' ∧ GOwS B l v w' :=
  (cloneN_any W ha hl).mono fun e w' ⟨A, n, c, h1, h2, h3⟩ => ⟨_, h1, h3, (A, n, c), rfl, h2.mono hB⟩
/-- What copies.Store returns. -/
def CStR (w : World) (S : ST) (e : Ending) (w' : World) : Prop := ∃ t0 t1 t2 t3 t4 : SlT, e = .returned (storeV t0 t1 t2 t3 t4) ∧ StO w' w.heap.size t0 t1 t2 t3 t4 S ∧ Ext w w'
set_option maxHeartbeats 8000000 in
theorem cstore_any (s0 s1 s2 s3 s4 : SlT) (S : ST) (w : World) (hS : StR w s0 s1 s2 s3 s4 S) (hB : StB S) : Calls Tryz.prog 132 #[storeV s0 s1 s2 s3 s4] w (CStR w S) := by
  obtain ⟨wz, hwz⟩ : ∃ wz, wz = (w.alloc (.cells #[.slice s0.1 s0.2.1 s0.2.2, .slice s1.1 s1.2.1 s1.2.2, .slice s2.1 s2.2.1 s2.2.2, .slice s3.1 s3.2.1 s3.2.2, .slice s4.1 s4.2.1 s4.2.2] 75)).alloc (.cells #[.slice none 0 0, .slice none 0 0, .slice none 0 0, .slice none 0 0, .slice none 0 0] 75) := ⟨_, rfl⟩
  have e1 : Ext w (w.alloc (.cells #[.slice s0.1 s0.2.1 s0.2.2, .slice s1.1 s1.2.1 s1.2.2, .slice s2.1 s2.2.1 s2.2.2, .slice s3.1 s3.2.1 s3.2.2, .slice s4.1 s4.2.1 s4.2.2] 75)) := (Below.refl _ _).alloc (Nat.le_refl _) _
  have ez : Ext w wz := by rw [hwz]; exact e1.alloc (by simp) _
  have hz : wz.heap[w.heap.size]? = some (.cells #[.slice s0.1 s0.2.1 s0.2.2, .slice s1.1 s1.2.1 s1.2.2, .slice s2.1 s2.2.1 s2.2.2, .slice s3.1 s3.2.1 s3.2.2, .slice s4.1 s4.2.1 s4.2.2] 75 (0, 0)) := by
    rw [hwz]
    exact (((Below.refl _ _).alloc (Nat.le_refl _) _ : Ext (w.alloc (.cells #[.slice s0.1 s0.2.1 s0.2.2, .slice s1.1 s1.2.1 s1.2.2, .slice s2.1 s2.2.1 s2.2.2, .slice s3.1 s3.2.1 s3.2.2, .slice s4.1 s4.2.1 s4.2.2] 75)) _).block _ (by simp)).trans (heap_alloc_new' w _)
  have hy : wz.heap[w.heap.size + 1]? = some (.cells #[.slice none 0 0, .slice none 0 0, .slice none 0 0, .slice none 0 0, .slice none 0 0] 75 (0, 0)) := by
    have := heap_alloc_new' (w.alloc (.cells #[.slice s0.1 s0.2.1 s0.2.2, .slice s1.1 s1.2.1 s1.2.2, .slice s2.1 s2.2.1 s2.2.2, .slice s3.1 s3.2.1 s3.2.2, .slice s4.1 s4.2.1 s4.2.2] 75)) (.cells #[.slice none 0 0, .slice none 0 0, .slice none 0 0, .slice none 0 0, .slice none 0 0] 75)
    rw [show (w.alloc (.cells #[.slice s0.1 s0.2.1 s0.2.2, .slice s1.1 s1.2.1 s1.2.2, .slice s2.1 s2.2.1 s2.2.2, .slice s3.1 s3.2.1 s3.2.2, .slice s4.1 s4.2.1 s4.2.2] 75)).heap.size = w.heap.size + 1 by simp] at this
    rw [hwz]
    exact this
  have hsz : wz.heap.size = w.heap.size + 1 + 1 := by rw [hwz]; simp
  have H0 := Lib.hid (fun W (e : Ext w W) (hW : wz.heap.size ≤ W.heap.size) => clone_gs (a := slV s0) W (RdK.ext hS.r0 e) (by have := hB.lr; omega) hW)
  have H1 := Lib.hid (fun W (e : Ext w W) (hW : wz.heap.size ≤ W.heap.size) => clone_gs (a := slV s1) W (RdK.ext hS.r1 e) (by have := hB.lp; omega) hW)
  have H2 := Lib.hid (fun W (e : Ext w W) (hW : wz.heap.size ≤ W.heap.size) => (eachM_any (v := slV s2) W (hS.r2.ext e) (by have := hB.lm; omega) (fun a ha => by have := (hB.m a ha).2; omega)).mono fun e' w' ⟨A, c, h1, h2, h3⟩ => (⟨_, h1, h3, (A, _, c), rfl, h2.mono hW⟩ : ∃ v, e' = Ending.returned v ∧ Ext W w' ∧ GOwX kM wz.heap.size S.ms v w'))
  have H3 := Lib.hid (fun W (e : Ext w W) (hW : wz.heap.size ≤ W.heap.size) => (eachR_any (v := slV s3) W (hS.r3.ext e) (by have := hB.ls; omega) (fun a ha => by have := hB.s a ha; omega)).mono fun e' w' ⟨A, c, h1, h2, h3⟩ => (⟨_, h1, h3, (A, _, c), rfl, h2.mono hW⟩ : ∃ v, e' = Ending.returned v ∧ Ext W w' ∧ GOwX kR wz.heap.size S.rs v w'))
  have H4 := Lib.hid (fun W (e : Ext w W) (hW : wz.heap.size ≤ W.heap.size) => (eachD_any (v := slV s4) W (hS.r4.ext e) (by have := hB.ld; omega) (fun a ha => by have := hB.d a ha; omega)).mono fun e' w' ⟨A, c, h1, h2, h3⟩ => (⟨_, h1, h3, (A, _, c), rfl, h2.mono hW⟩ : ∃ v, e' = Ending.returned v ∧ Ext W w' ∧ GOwX kD wz.heap.size S.ds v w'))
  have HZ := Lib.hid hz
  have HY := Lib.hid hy
  have EZ := Lib.hid ez
  clear e1 ez hz hy hS hB
  unfold storeV
  go_enter Tryz.func132, Tryz.ntmps132
  go_upto_region 1 with fail
  rw [← hwz]
  clear hwz
  refine Gd.wp_region_X 16 (by kernel_rfl) (by kernel_rfl) ?_
  simp only [List.take_succ_cons, List.take_zero, List.drop_succ_cons, List.drop_zero]
  intro wq hw1
  have LL : ∀ m : Lt wq, Ext wz m.1 := fun m => hw1.tr m.2
  have LW : ∀ m : Lt wq, Ext w m.1 := fun m => EZ.out.tr (LL m)
  have k0 : ∀ m : Lt wq, m.1.cell? ⟨w.heap.size, 0, none⟩ = some (.slice s0.1 s0.2.1 s0.2.2) := fun m => by rw [cell_of_row m.1 _ 0 _ _ _ (((LL m).block _ (block_lt HZ.out)).trans HZ.out)]; rfl
  have k1 : ∀ m : Lt wq, m.1.cell? ⟨w.heap.size, 1, none⟩ = some (.slice s1.1 s1.2.1 s1.2.2) := fun m => by rw [cell_of_row m.1 _ 1 _ _ _ (((LL m).block _ (block_lt HZ.out)).trans HZ.out)]; rfl
  have k2 : ∀ m : Lt wq, m.1.cell? ⟨w.heap.size, 2, none⟩ = some (.slice s2.1 s2.2.1 s2.2.2) := fun m => by rw [cell_of_row m.1 _ 2 _ _ _ (((LL m).block _ (block_lt HZ.out)).trans HZ.out)]; rfl
  have k3 : ∀ m : Lt wq, m.1.cell? ⟨w.heap.size, 3, none⟩ = some (.slice s3.1 s3.2.1 s3.2.2) := fun m => by rw [cell_of_row m.1 _ 3 _ _ _ (((LL m).block _ (block_lt HZ.out)).trans HZ.out)]; rfl
  have k4 : ∀ m : Lt wq, m.1.cell? ⟨w.heap.size, 4, none⟩ = some (.slice s4.1 s4.2.1 s4.2.2) := fun m => by rw [cell_of_row m.1 _ 4 _ _ _ (((LL m).block _ (block_lt HZ.out)).trans HZ.out)]; rfl
  have kl : ∀ m : Lt wq, w.heap.size < m.1.heap.size := fun m => Nat.lt_of_lt_of_le (block_lt HZ.out) (LL m).size
  repeat (refine Gd.wpX_pure (by first | exact trivial | exact ⟨_, rfl, rfl, rfl⟩) rfl rfl rfl rfl rfl (fun K hK => ?_); go_big_quiet_op; refine hK _ ?_; clear hK K)
  refine Gd.wpX_callF (by first | exact trivial | exact ⟨_, rfl, rfl, rfl⟩) (GOwS wz.heap.size S.roots) (stable_GOwS _ _) (fun _ => [.slice s0.1 s0.2.1 s0.2.2]) rfl rfl rfl rfl rfl (by kernel_rfl) rfl (fun _ => rfl) (fun m f hf => H0.out m.1 (LW m) (LL m).size) ?_
  simp only [Act.put, List.setIfInBounds_toArray, List.set_cons_zero, List.set_cons_succ]
  repeat (refine Gd.wpX_pure (by first | exact trivial | exact ⟨_, rfl, rfl, rfl⟩) rfl rfl rfl rfl rfl (fun K hK => ?_); go_big_quiet_op; refine hK _ ?_; clear hK K)
  refine Gd.wpX_callF (by first | exact trivial | exact ⟨_, rfl, rfl, rfl⟩) (GOwS wz.heap.size S.pool) (stable_GOwS _ _) (fun _ => [.slice s1.1 s1.2.1 s1.2.2]) rfl rfl rfl rfl rfl (by kernel_rfl) rfl (fun _ => rfl) (fun m f hf => H1.out m.1 (LW m) (LL m).size) ?_
  simp only [Act.put, List.setIfInBounds_toArray, List.set_cons_zero, List.set_cons_succ]
  repeat (refine Gd.wpX_pure (by first | exact trivial | exact ⟨_, rfl, rfl, rfl⟩) rfl rfl rfl rfl rfl (fun K hK => ?_); go_big_quiet_op; refine hK _ ?_; clear hK K)
  refine Gd.wpX_callF (by first | exact trivial | exact ⟨_, rfl, rfl, rfl⟩) (GOwX kM wz.heap.size S.ms) (stable_GOwX _ _ _) (fun _ => [.slice s2.1 s2.2.1 s2.2.2, .func (.func 135) #[] #[]]) rfl rfl rfl rfl rfl (by kernel_rfl) rfl (fun _ => rfl) (fun m f hf => H2.out m.1 (LW m) (LL m).size) ?_
  simp only [Act.put, List.setIfInBounds_toArray, List.set_cons_zero, List.set_cons_succ]
  repeat (refine Gd.wpX_pure (by first | exact trivial | exact ⟨_, rfl, rfl, rfl⟩) rfl rfl rfl rfl rfl (fun K hK => ?_); go_big_quiet_op; refine hK _ ?_; clear hK K)
  refine Gd.wpX_callF (by first | exact trivial | exact ⟨_, rfl, rfl, rfl⟩) (GOwX kR wz.heap.size S.rs) (stable_GOwX _ _ _) (fun _ => [.slice s3.1 s3.2.1 s3.2.2, .func (.func 160) #[] #[]]) rfl rfl rfl rfl rfl (by kernel_rfl) rfl (fun _ => rfl) (fun m f hf => H3.out m.1 (LW m) (LL m).size) ?_
  simp only [Act.put, List.setIfInBounds_toArray, List.set_cons_zero, List.set_cons_succ]
  repeat (refine Gd.wpX_pure (by first | exact trivial | exact ⟨_, rfl, rfl, rfl⟩) rfl rfl rfl rfl rfl (fun K hK => ?_); go_big_quiet_op; refine hK _ ?_; clear hK K)
  refine Gd.wpX_callF (by first | exact trivial | exact ⟨_, rfl, rfl, rfl⟩) (GOwX kD wz.heap.size S.ds) (stable_GOwX _ _ _) (fun _ => [.slice s4.1 s4.2.1 s4.2.2, .func (.func 171) #[] #[]]) rfl rfl rfl rfl rfl (by kernel_rfl) rfl (fun _ => rfl) (fun m f hf => H4.out m.1 (LW m) (LL m).size) ?_
  simp only [Act.put, List.setIfInBounds_toArray, List.set_cons_zero, List.set_cons_succ]
  refine Gd.wpX_buildL (by first | exact trivial | exact ⟨_, rfl, rfl, rfl⟩) (GStO wz.heap.size S) (stable_GStO _ _) (fun f => [(0, f 5), (1, f 8), (2, f 11), (3, f 14), (4, f 17)]) rfl rfl rfl rfl rfl (fun _ => rfl) (fun m f hf => ?_) ?_
  · obtain ⟨t0, h0, o0⟩ := hf 5 _ rfl rfl
    obtain ⟨t1, h1, o1⟩ := hf 8 _ rfl rfl
    obtain ⟨t2, h2, o2⟩ := hf 11 _ rfl rfl
    obtain ⟨t3, h3, o3⟩ := hf 14 _ rfl rfl
    obtain ⟨t4, h4, o4⟩ := hf 17 _ rfl rfl
    rw [h0, h1, h2, h3, h4]
    exact ⟨_, _, run_buildSt m.1 t0 t1 t2 t3 t4, Below.refl _ _, t0, t1, t2, t3, t4, rfl, o0, o1, o2, o3, o4⟩
  simp only [Act.put, List.setIfInBounds_toArray, List.set_cons_zero, List.set_cons_succ]
  refine Gd.wpX_endL (fun m f hf => ?_)
  obtain ⟨t0, t1, t2, t3, t4, e18, SO⟩ := hf 18 _ rfl
  simp only [fillH]
  simp only [Act.put, List.setIfInBounds_toArray, List.set_cons_zero, List.set_cons_succ]
  rw [e18]
  have LM := Lib.hid (LL m)
  have HSO := Lib.hid SO
  clear hf e18 hw1 LL LW k0 k1 k2 k3 k4 kl SO H0 H1 H2 H3 H4
  generalize m.1 = w2 at *
  generalize f 5 = f5 at *
  generalize f 8 = f8 at *
  generalize f 11 = f11 at *
  generalize f 14 = f14 at *
  generalize f 17 = f17 at *
  clear m f
  have HY2 := Lib.hid ((LM.out.block _ (block_lt HY.out)).trans HY.out)
  have H1 := Lib.hid (stRow_one t0 t1 t2 t3 t4)
  show wpList _ _ _ _ _ _
  unfold storeV
  go_wp2_with (refine wpRow_store rfl 75 _ _ rfl rfl (w.heap.size + 1) (stRow t0 t1 t2 t3 t4) rfl rfl 75 #[.slice none 0 0, .slice none 0 0, .slice none 0 0, .slice none 0 0, .slice none 0 0] HY2.out info_st rfl H1.out ?_)
  refine bodyPost_ret (v := storeV t0 t1 t2 t3 t4) ?_ rfl ⟨t0, t1, t2, t3, t4, rfl, ?_, ?_⟩
  · exact results_cell_row rfl _ _ (w.heap.size + 1) 75 (stRow t0 t1 t2 t3 t4) (0, 0) _ rfl (row_at HY2.out) Tryz.underlying75 rfl info_st
  · exact (HSO.out.gbB (g := w.heap.size + 1) (by omega) (Gb.setRow _ _ _)).mono (by omega)
  · exact ext_setRow (EZ.out.tr LM.out) (by omega) _
end Go.Proofs.YtkjplpmogfmhkaaGreatDoor
namespace Go.Proofs.YtkjplpmogfmhkaaGreatDoor
open Go.RowKit
set_option linter.unusedVariables false
set_option maxRecDepth 100000
theorem tn_tl : 56 ≠ 51 := by decide
/-- The list that the closure adds to, in block g. -/
def AdI (w : World) (B g : Nat) (L : List NC) : Prop := ∃ (A : Option Addr) (c : Nat), w.heap[g]? = some (.cells #[.slice A L.length c] 51 (0, 0)) ∧ OwnK w B 56 11 (.slice A L.length c) (ncsCells L)
theorem AdI.ext {w w' : World} {B g : Nat} {L : List NC} (h : AdI w B g L) (e : Ext w w') : AdI w' B g L := by
  obtain ⟨A, c, h1, h2⟩ := h
  exact ⟨A, c, (e.block g (block_lt h1)).trans h1, h2.ext e⟩
theorem addStep_yes {L : List NC} {y : NC} (h : y ∈ L) : addStep L y = L := if_pos h
theorem addStep_no {L : List NC} {y : NC} (h : y ∉ L) : addStep L y = L ++ [y] := if_neg h
theorem ad_after {w w8 : World} {g B : Nat} {v : Value} {xs : List Value} {cs : Array Value} {fr : Nat × Nat} (hb : w.heap[g]? = some (.cells cs 51 fr)) (o : OwnK w B 56 11 v xs) (g8 : w.grownBy w8 (rowOf v)) : w8.heap[g]? = some (.cells cs 51 fr) :=
  (g8.block g (block_lt hb) (fun q => o.row_blk hb tn_tl q.symm)).trans hb
theorem ad_cell {w : World} {g : Nat} {u : Value} {T : Nat} (hb : w.heap[g]? = some (.cells #[u] T (0, 0))) : w.cell? ⟨g, 0, none⟩ = some u ∧ g < w.heap.size ∧ w.frozen? ⟨g, 0, none⟩ = false :=
  ⟨by rw [cell_of_row w g 0 _ _ _ hb]; rfl, block_lt hb, by simp [World.frozen?, hb]⟩
set_option maxHeartbeats 4000000 in
theorem addR_any {v : Value} {l L : List NC} {g : Nat} (w w1 : World) (hv : RdN w v l) (hg : w.heap.size ≤ g) (I : AdI w1 w.heap.size g L) (X : Ext w w1) (hl : L.length + l.length ≤ 1000000) :
    Calls Tryz.prog 147 #[v, .pointer (some ⟨g, 0, none⟩)] w1 fun e w' => e = .returned (.tuple #[]) ∧ AdI w' w.heap.size g (addT L l) ∧ Ext w w' := by
  obtain ⟨A, n, cp, rfl, hn, hnc, hcm, hel⟩ := hv.at_
  subst hn
  have HEL := Lib.hid hel
  unfold maxLen at hcm
  have HI := Lib.hid (show AdI w1 w.heap.size g (addT L (l.take 0)) from I)
  have HX := Lib.hid X
  have HLN := Lib.hid hl
  clear hel hv I X hl
  go_enter Tryz.func147, Tryz.ntmps147
  go_wp2_with fail
  go_loopw [7] (fun i wr => ∃ k : Nat, k ≤ l.length ∧ i = .int .i64 (k : Int) ∧ Hid (AdI wr w.heap.size g (addT L (l.take k))) ∧ Hid (Ext w wr)) (fun i _ => l.length - (intOf i).toNat)
  case atStart => exact ⟨0, Nat.zero_le _, rfl, HI, HX⟩
  case round =>
    obtain ⟨k, hk, rfl, I, X⟩ := hrel
    by_cases hlt : k < l.length
    case neg =>
      obtain rfl : k = l.length := by omega
      have HR : Hid (AdI wr w.heap.size g (addT L l)) := Lib.hid (by have := I.out; rwa [List.take_length] at this)
      clear I
      go_wp2_with fail
      refine bodyPost_end (v := .tuple #[]) ?_ rfl ⟨rfl, HR.out, X.out⟩
      simp [results, Tryz.results147, go_sem]
    case pos =>
    obtain ⟨y, hy⟩ : ∃ y, l[k]? = some y := ⟨_, List.getElem?_eq_getElem hlt⟩
    obtain ⟨b, o, rfl, hbl, hc⟩ := HEL.out (by omega)
    have hcy := hc k y hy
    have HSN := Lib.hid (addT_snoc L hy)
    have HLE := Lib.hid (show (addT L (l.take k)).length ≤ 999999 by have h1 := addT_len L (l.take k); rw [List.length_take] at h1; have := HLN.out; omega)
    clear hy hc
    have wi1 : IntKind.i64.wrap ((k : Int)) = (k : Int) := IntWalk.i64_in _ (by omega)
    have zi1 : (0 : Int) ≤ (k : Int) := by omega
    have li1 : (k : Int) < (l.length : Int) := by omega
    have ti1 : ((k : Int)).toNat = k := by omega
    have wk : IntKind.i64.wrap ((k : Int) + 1) = (k : Int) + 1 := IntWalk.i64_in _ (by omega)
    obtain ⟨N, hN⟩ : ∃ N, addT L (l.take k) = N := ⟨_, rfl⟩
    rw [hN] at HSN HLE I
    clear hN
    obtain ⟨Ao, co, hb, ho⟩ := I.out
    have HB := Lib.hid hb
    have HO := Lib.hid ho
    clear hb ho I
    have q0 := (X.out.cell (p := ⟨b, o + k * 11, none⟩) hbl).trans hcy.1
    have q1 := (X.out.cell (p := ⟨b, o + k * 11 + 1, none⟩) hbl).trans hcy.2.1
    have q2 := (X.out.cell (p := ⟨b, o + k * 11 + 2, none⟩) hbl).trans hcy.2.2.1
    have q3 := (X.out.cell (p := ⟨b, o + k * 11 + 3, none⟩) hbl).trans hcy.2.2.2.1
    have q4 := (X.out.cell (p := ⟨b, o + k * 11 + 4, none⟩) hbl).trans hcy.2.2.2.2.1
    have q5 := (X.out.cell (p := ⟨b, o + k * 11 + 5, none⟩) hbl).trans hcy.2.2.2.2.2.1
    have q6 := (X.out.cell (p := ⟨b, o + k * 11 + 6, none⟩) hbl).trans hcy.2.2.2.2.2.2.1
    have q7 := (X.out.cell (p := ⟨b, o + k * 11 + 7, none⟩) hbl).trans hcy.2.2.2.2.2.2.2.1
    have q8 := (X.out.cell (p := ⟨b, o + k * 11 + 8, none⟩) hbl).trans hcy.2.2.2.2.2.2.2.2.1
    have q9 := (X.out.cell (p := ⟨b, o + k * 11 + 9, none⟩) hbl).trans hcy.2.2.2.2.2.2.2.2.2.1
    have q10 := (X.out.cell (p := ⟨b, o + k * 11 + 10, none⟩) hbl).trans hcy.2.2.2.2.2.2.2.2.2.2
    clear hcy
    obtain ⟨wn, hwn, en, TN⟩ := nc_alloc wr y
    go_upto_region 3 with fail
    rw [← hwn]
    clear hwn q0 q1 q2 q3 q4 q5 q6 q7 q8 q9 q10
    have HBN := Lib.hid ((en.block g (block_lt HB.out)).trans HB.out)
    have HON := Lib.hid (HO.out.ext en)
    have XN := Lib.hid (X.out.tr en)
    clear HB HO X en
    have cg : wn.cell? ⟨g, 0, none⟩ = some (.slice Ao N.length co) := by rw [cell_of_row wn g 0 _ _ _ HBN.out]; rfl
    have gl := block_lt HBN.out
    obtain ⟨p0, p1, p2, p3, p4, p5, p6, p7, p8, p9, p10⟩ := (TN).cells
    have pf0 := (TN).frozen 0
    have pf1 := (TN).frozen 1
    have pf2 := (TN).frozen 2
    have pf3 := (TN).frozen 3
    have pf4 := (TN).frozen 4
    have pf5 := (TN).frozen 5
    have pf6 := (TN).frozen 6
    have pf7 := (TN).frozen 7
    have pf8 := (TN).frozen 8
    have pf9 := (TN).frozen 9
    have pf10 := (TN).frozen 10
    have pl := (TN).lt
    go_wp2_with fail
    refine (containsN_any y wn HON.out.rd).mono ?_
    rintro e w2 ⟨rfl, b2⟩
    have TN2 := TN.ext b2
    clear cg gl
    clear p0 pf0 p1 pf1 p2 pf2 p3 pf3 p4 pf4 p5 pf5 p6 pf6 p7 pf7 p8 pf8 p9 pf9 p10 pf10 pl
    have HB2 := Lib.hid ((b2.block g (block_lt HBN.out)).trans HBN.out)
    have HO2 := Lib.hid (HON.out.ext b2)
    have X2 := Lib.hid (XN.out.tr b2)
    clear TN HBN HON XN b2
    have cg : w2.cell? ⟨g, 0, none⟩ = some (.slice Ao N.length co) := by rw [cell_of_row w2 g 0 _ _ _ HB2.out]; rfl
    have gl := block_lt HB2.out
    have gf : w2.frozen? ⟨g, 0, none⟩ = false := by simp [World.frozen?, HB2.out]
    by_cases hm : y ∈ N
    · have HF := Lib.hid (show addT L (l.take (k + 1)) = N by rw [HSN.out]; exact addStep_yes hm)
      rw [decide_eq_true hm]
      clear hm
      go_wp2_with fail
      go_roundw
      case rel => exact ⟨k + 1, by omega, by go_num, by rw [HF.out]; exact Lib.hid ⟨Ao, co, HB2.out, HO2.out⟩, X2⟩
      case measure => simp [intOf]; omega
    · have HF := Lib.hid (show addT L (l.take (k + 1)) = N ++ [y] by rw [HSN.out]; exact addStep_no hm)
      rw [decide_eq_false hm]
      clear hm
      obtain ⟨p0, p1, p2, p3, p4, p5, p6, p7, p8, p9, p10⟩ := (TN2).cells
      have pf0 := (TN2).frozen 0
      have pf1 := (TN2).frozen 1
      have pf2 := (TN2).frozen 2
      have pf3 := (TN2).frozen 3
      have pf4 := (TN2).frozen 4
      have pf5 := (TN2).frozen 5
      have pf6 := (TN2).frozen 6
      have pf7 := (TN2).frozen 7
      have pf8 := (TN2).frozen 8
      have pf9 := (TN2).frozen 9
      have pf10 := (TN2).frozen 10
      have pl := (TN2).lt
      have eA : Ext w2 (w2.alloc (.cells (ncCells y).toArray 56)) := (Below.refl _ _).alloc (Nat.le_refl _) _
      have HRK := Lib.hid (ls_one w2 y)
      have HO3 := Lib.hid (HO2.out.ext eA)
      have HB3 := Lib.hid ((eA.block g gl).trans HB2.out)
      have X3 := Lib.hid (X2.out.tr eA)
      unfold ncCells at HRK HO3 HB3 X3
      clear eA
      go_wp2_with (refine wpList_appK (k := 11) (by decide) elemNc (n := N.length) (m := 1) (B := w.heap.size) HO3.out (by rw [ncsCells_len]) HRK.out (by rfl) (ncCells_one y) X3.out (by have := HLE.out; omega) (by have := HLE.out; unfold maxLen; omega) X3.out.size rfl rfl rfl rfl ?_; intro A8 n8 c8 w8 hn8 o8 x8 g8; have HB8 := Lib.hid (ad_after HB3.out HO3.out g8); obtain ⟨gc8, gl8, gf8⟩ := ad_cell HB8.out)
      have hn8 : n8 = (N ++ [y]).length := by rw [List.length_append]; exact hn8.out
      subst hn8
      have HI8 : Hid (AdI (w8.setCell ⟨g, 0, none⟩ (.slice A8 (N ++ [y]).length c8)) w.heap.size g (N ++ [y])) := Lib.hid ⟨A8, c8, by have := row_set HB8.out 0 (.slice A8 (N ++ [y]).length c8); exact this, by rw [← ncsCells_snoc]; exact o8.grown (Gb.set g 0 w8 _) (.inr (o8.row_blk HB8.out tn_tl))⟩
      have X8 := Lib.hid (ext_set x8 hg (i := 0) (v := .slice A8 (N ++ [y]).length c8))
      clear x8 o8 gl8 gf8 gc8 HB8
      go_roundw
      case rel => exact ⟨k + 1, by omega, by go_num, by rw [HF.out]; exact HI8, X8⟩
      case measure => simp [intOf]; omega
end Go.Proofs.YtkjplpmogfmhkaaGreatDoor
