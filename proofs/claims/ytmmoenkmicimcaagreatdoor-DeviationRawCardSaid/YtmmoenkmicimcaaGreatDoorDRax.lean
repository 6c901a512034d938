/- Parts Ua Ub Um Ea Eb Ec Ma Up Ab of the proof. -/
import Derived.Test.YtmmoenkmicimcaaGreatDoorDRaw
import Derived.Test.YtmmoenkmicimcaaGreatDoorDRav
import Derived.Deep.MidRow
import Derived.Test.YtmmoenkmicimcaaGreatDoorDRao
import Derived.BigQuiet
namespace Go.Proofs.YtmmoenkmicimcaaGreatDoor
open Go.RowKit
set_option linter.unusedVariables false
set_option maxRecDepth 100000
theorem setCells_setLU (g : Nat) : ∀ (vs : List Value) (i : Nat) (w : World), w.setCells g i vs = setL w g i vs
  | [], i, w => rfl
  | v :: vs, i, w => setCells_setLU g vs (i + 1) _
theorem Gb.setCellsU (g : Nat) : ∀ (vs : List Value) (i : Nat) (w : World), Gb g w (w.setCells g i vs)
  | [], i, w => Gb.refl _ _
  | v :: vs, i, w => (Gb.set g i w v).tr (Gb.setCellsU g vs (i + 1) _)
theorem Rd.k1 {w : World} {v : Value} {xs : List Value} (h : Rd w v xs) : RdK w 1 v xs := by
  obtain ⟨A, n, c, rfl, hn, hr⟩ := h
  exact ⟨A, n, c, rfl, by omega, hr⟩
theorem RdK.r1 {w : World} {v : Value} {xs : List Value} (h : RdK w 1 v xs) : Rd w v xs := by
  obtain ⟨A, n, c, rfl, hn, hr⟩ := h
  exact ⟨A, n, c, rfl, by omega, hr⟩
theorem Own.k1 {w : World} {B : Nat} {e : TypeId} {v : Value} {xs : List Value} (h : Own w B e v xs) : OwnK w B e 1 v xs := by
  obtain ⟨A, n, c, rfl, hn, h | ⟨g, cur, rfl, hB, hg, hnc, hcm, hcs, ht⟩⟩ := h
  · exact ⟨A, n, c, rfl, by omega, .inl h⟩
  · exact ⟨_, n, c, rfl, by omega, .inr ⟨g, cur, rfl, hB, hg, hnc, hcm, by omega, by rw [Nat.mul_one]; exact ht⟩⟩
/-- A kind of structs with one slice each: type, cells, how its cells are laid; type and cells of the slice's elements, what it holds. -/
structure LK (α : Type) where
  T : TypeId
  k : Nat
  row : α → Value → List Value
  E : TypeId
  ek : Nat
  inn : α → List Value
  len : ∀ a u, (row a u).length = k
  pos : 0 < k
  ne : E ≠ T
  one : ∀ a u, u.oneCell' = true → ∀ x ∈ row a u, x.oneCell' = true
section
variable {α : Type} {K : LK α} {w w' : World} {B : Nat} {v : Value} {l : List α} {ps : List (α × Value)}
def LK.cells (K : LK α) (ps : List (α × Value)) : List Value := ps.flatMap fun p => K.row p.1 p.2
theorem LK.cells_len (K : LK α) (ps : List (α × Value)) : (K.cells ps).length = ps.length * K.k := flat_len (fun p : α × Value => K.row p.1 p.2) K.k (fun p => K.len p.1 p.2) ps
theorem LK.cells_snoc (K : LK α) (ps : List (α × Value)) (a : α) (u : Value) : K.cells ps ++ K.row a u = K.cells (ps ++ [(a, u)]) := by simp [LK.cells]
theorem LK.cells_app (K : LK α) (ps qs : List (α × Value)) : K.cells (ps ++ qs) = K.cells ps ++ K.cells qs := by simp [LK.cells]
theorem LK.cells_sing (K : LK α) (a : α) (u : Value) : K.cells [(a, u)] = K.row a u := by simp [LK.cells]
/-- The slice reads as these structs; each one's slice may be read. -/
def RdX (K : LK α) (w : World) (v : Value) (l : List α) : Prop := ∃ ps : List (α × Value), ps.map Prod.fst = l ∧ RdK w K.k v (K.cells ps) ∧ ∀ p ∈ ps, RdK w K.ek p.2 (K.inn p.1)
/-- New structs, and their slices new. -/
def OwnP (K : LK α) (w : World) (B : Nat) (v : Value) (ps : List (α × Value)) : Prop := OwnK w B K.T K.k v (K.cells ps) ∧ ∀ p ∈ ps, OwnK w B K.E K.ek p.2 (K.inn p.1)
def OwnX (K : LK α) (w : World) (B : Nat) (v : Value) (l : List α) : Prop := ∃ ps : List (α × Value), ps.map Prod.fst = l ∧ OwnP K w B v ps
theorem RdX.ext (h : RdX K w v l) (e : Ext w w') : RdX K w' v l := by
  obtain ⟨ps, h1, h2, h3⟩ := h
  exact ⟨ps, h1, h2.ext e, fun p hp => (h3 p hp).ext e⟩
theorem OwnP.rd (h : OwnP K w B v ps) : RdX K w v (ps.map Prod.fst) := ⟨ps, rfl, h.1.rd, fun p hp => (h.2 p hp).rd⟩
theorem OwnX.rd (h : OwnX K w B v l) : RdX K w v l := by
  obtain ⟨ps, h1, h2⟩ := h
  subst h1
  exact h2.rd
theorem OwnP.ext (h : OwnP K w B v ps) (e : Ext w w') : OwnP K w' B v ps := ⟨h.1.ext e, fun p hp => (h.2 p hp).ext e⟩
theorem OwnP.mono {B' : Nat} (h : OwnP K w B v ps) (hB : B' ≤ B) : OwnP K w B' v ps := ⟨h.1.mono hB, fun p hp => (h.2 p hp).mono hB⟩
theorem OwnX.ext (h : OwnX K w B v l) (e : Ext w w') : OwnX K w' B v l := by
  obtain ⟨ps, h1, h2⟩ := h
  exact ⟨ps, h1, h2.ext e⟩
theorem OwnX.mono {B' : Nat} (h : OwnX K w B v l) (hB : B' ≤ B) : OwnX K w B' v l := by
  obtain ⟨ps, h1, h2⟩ := h
  exact ⟨ps, h1, h2.mono hB⟩
theorem OwnP.empty (K : LK α) (w : World) (B : Nat) (A : Option Addr) : OwnP K w B (.slice A 0 0) [] := ⟨OwnK.empty _ _ _ _ _, fun p hp => (by cases hp)⟩
theorem RdX.nil_ (K : LK α) (w : World) (A : Option Addr) : RdX K w (.slice A 0 0) [] := ⟨[], rfl, RdK.nil_ _ _ _, fun p hp => (by cases hp)⟩
/-- A block of another type changes. -/
theorem OwnP.gb {g T : Nat} {cs : Array Value} {fr : Nat × Nat} (h : OwnP K w B v ps) (hg : w.heap[g]? = some (.cells cs T fr)) (h1 : K.T ≠ T) (h2 : K.E ≠ T) (e : w.grownBy w' (some g)) : OwnP K w' B v ps :=
  ⟨h.1.grown e (.inr (h.1.row_blk hg h1)), fun p hp => (h.2 p hp).grown e (.inr ((h.2 p hp).row_blk hg h2))⟩
theorem OwnX.gb {g T : Nat} {cs : Array Value} {fr : Nat × Nat} (h : OwnX K w B v l) (hg : w.heap[g]? = some (.cells cs T fr)) (h1 : K.T ≠ T) (h2 : K.E ≠ T) (e : w.grownBy w' (some g)) : OwnX K w' B v l := by
  obtain ⟨ps, q1, q2⟩ := h
  exact ⟨ps, q1, q2.gb hg h1 h2 e⟩
/-- A block below B changes. -/
theorem OwnP.gbB {g : Nat} (h : OwnP K w B v ps) (hg : g < B) (e : w.grownBy w' (some g)) : OwnP K w' B v ps :=
  ⟨h.1.grown e (.inr fun q => by have := rowOf_geK h.1 _ q; omega), fun p hp => (h.2 p hp).grown e (.inr fun q => by have := rowOf_geK (h.2 p hp) _ q; omega)⟩
theorem OwnX.gbB {g : Nat} (h : OwnX K w B v l) (hg : g < B) (e : w.grownBy w' (some g)) : OwnX K w' B v l := by
  obtain ⟨ps, q1, q2⟩ := h
  exact ⟨ps, q1, q2.gbB hg e⟩
/-- Another slice, of another type, is appended to. -/
theorem OwnP.grow {B2 e2 k2 : Nat} {v2 : Value} {x2 : List Value} (h : OwnP K w B v ps) (o : OwnK w B2 e2 k2 v2 x2) (h1 : e2 ≠ K.T) (h2 : e2 ≠ K.E) (e : w.grownBy w' (rowOf v2)) : OwnP K w' B v ps :=
  ⟨h.1.grown e (o.row_ne h.1 h1), fun p hp => (h.2 p hp).grown e (o.row_ne (h.2 p hp) h2)⟩
theorem OwnX.grow {B2 e2 k2 : Nat} {v2 : Value} {x2 : List Value} (h : OwnX K w B v l) (o : OwnK w B2 e2 k2 v2 x2) (h1 : e2 ≠ K.T) (h2 : e2 ≠ K.E) (e : w.grownBy w' (rowOf v2)) : OwnX K w' B v l := by
  obtain ⟨ps, q1, q2⟩ := h
  exact ⟨ps, q1, q2.grow o h1 h2 e⟩
/-- One more. -/
theorem OwnP.app {v' u : Value} {a : α} (h : OwnP K w B v ps) (hi : OwnK w B K.E K.ek u (K.inn a)) (o : OwnK w' B K.T K.k v' (K.cells ps ++ K.row a u)) (g : w.grownBy w' (rowOf v)) : OwnP K w' B v' (ps ++ [(a, u)]) := by
  refine ⟨by rw [← K.cells_snoc]; exact o, fun p hp => ?_⟩
  rcases List.mem_append.1 hp with hp | hp
  · exact (h.2 p hp).grown g (h.1.row_ne (h.2 p hp) K.ne.symm)
  · rw [List.mem_singleton.1 hp]
    exact hi.grown g (h.1.row_ne hi K.ne.symm)
/-- One of them stored anew. -/
theorem OwnP.setAt {A : Option Addr} {n c i : Nat} {a : α} {u : Value} (h : OwnP K w B (.slice A n c) ps) (hu : OwnK w B K.E K.ek u (K.inn a)) (hi : i < ps.length) :
    ∃ g, A = some ⟨g, 0, none⟩ ∧ B ≤ g ∧ w.there g (i * K.k) K.k ∧ g < w.heap.size ∧ (∃ cs, w.heap[g]? = some (.cells cs K.T (0, 0))) ∧ OwnP K (w.setCells g (i * K.k) (K.row a u)) B (.slice A n c) (ps.set i (a, u)) := by
  have ho := h.1
  obtain ⟨A', n', c', e, hn, hc⟩ := ho
  injection e with e1 e2 e3
  subst e1 e2 e3
  rw [K.cells_len] at hn
  obtain rfl : n = ps.length := Nat.eq_of_mul_eq_mul_right K.pos hn
  rcases hc with ⟨h0, _⟩ | ⟨g, cur, rfl, hB, hg, hnc, hcm, hcs, ht⟩
  · omega
  have hiK : i * K.k + K.k ≤ c * K.k := by rw [← Nat.succ_mul]; exact Nat.mul_le_mul_right _ (by omega)
  have hgb := Gb.setCellsU g (K.row a u) (i * K.k) w
  refine ⟨g, rfl, hB, fun j hj => ⟨?_, by simp [World.frozen?, hg]⟩, block_lt hg, ⟨_, hg⟩, ?_, fun p hp => ?_⟩
  · rw [cell_of_row w g _ cur _ _ hg]
    simp
    omega
  · have e : ps = ps.take i ++ [ps[i]] ++ ps.drop (i + 1) := by
      rw [List.append_assoc, List.singleton_append, ← List.drop_eq_getElem_cons hi, List.take_append_drop]
    have e2 : ps.set i (a, u) = ps.take i ++ [(a, u)] ++ ps.drop (i + 1) := by
      rw [List.set_eq_take_append_cons_drop, if_pos hi, List.append_assoc]
      rfl
    have hcc : cur.toList = K.cells ps ++ cur.toList.drop (ps.length * K.k) := by rw [← ht, List.take_append_drop]
    generalize hR : cur.toList.drop (ps.length * K.k) = R at hcc
    have hl : (K.cells (ps.take i)).length = i * K.k := by rw [K.cells_len, List.length_take, Nat.min_eq_left (Nat.le_of_lt hi)]
    have h' : w.heap[g]? = some (.cells (K.cells (ps.take i) ++ K.row ps[i].1 ps[i].2 ++ (K.cells (ps.drop (i + 1)) ++ R)).toArray K.T (0, 0)) := by
      rw [hg]
      congr 2
      rw [← Array.toArray_toList (xs := cur), hcc]
      congr 1
      conv => lhs; rw [e, K.cells_app, K.cells_app, K.cells_sing]
      simp only [List.append_assoc]
    have h2 := setL_mid (K.row a u) (K.cells (ps.take i)) (K.cells (ps.drop (i + 1)) ++ R) w g (K.row ps[i].1 ps[i].2) K.T (0, 0) h' (by rw [K.len, K.len])
    rw [hl, ← setCells_setLU] at h2
    have h3 : (K.cells (ps.take i) ++ K.row a u ++ (K.cells (ps.drop (i + 1)) ++ R)) = K.cells (ps.set i (a, u)) ++ R := by
      rw [e2, K.cells_app, K.cells_app, K.cells_sing]
      simp only [List.append_assoc]
    rw [h3] at h2
    have hls : (K.cells (ps.set i (a, u))).length = ps.length * K.k := by rw [K.cells_len, List.length_set]
    have hRl : R.length = c * K.k - ps.length * K.k := by rw [← hR, List.length_drop, Array.length_toList, hcs]
    have hlc : ps.length * K.k ≤ c * K.k := Nat.mul_le_mul_right _ hnc
    refine ⟨_, ps.length, c, rfl, hls.symm, .inr ⟨g, _, rfl, hB, h2, hnc, hcm, ?_, ?_⟩⟩
    · show (K.cells (ps.set i (a, u)) ++ R).length = c * K.k
      rw [List.length_append, hls, hRl]
      omega
    · show (K.cells (ps.set i (a, u)) ++ R).take _ = _
      rw [← hls]
      exact List.take_left
  · rcases List.mem_or_eq_of_mem_set hp with hp | rfl
    · exact (h.2 p hp).grown hgb (.inr ((h.2 p hp).row_blk hg K.ne))
    · exact hu.grown hgb (.inr (hu.row_blk hg K.ne))
/-- The cells of element i. -/
theorem RdX.at_ (h : RdX K w v l) : ∃ A n c, v = .slice A n c ∧ n = l.length ∧ n ≤ c ∧ c ≤ maxLen ∧ ∀ (i : Nat) (a : α), l[i]? = some a → ∃ b o, A = some ⟨b, o, none⟩ ∧ b < w.heap.size ∧ ∃ u, (∀ (j : Nat) (x : Value), (K.row a u)[j]? = some x → w.cell? ⟨b, o + (i * K.k + j), none⟩ = some x) ∧ RdK w K.ek u (K.inn a) := by
  obtain ⟨ps, rfl, ⟨A, n, c, rfl, hn, hnc, hcm, hc⟩, hi⟩ := h
  rw [K.cells_len] at hn
  obtain rfl : n = ps.length := Nat.eq_of_mul_eq_mul_right K.pos hn
  refine ⟨A, _, c, rfl, by rw [List.length_map], hnc, hcm, fun i a ha => ?_⟩
  rw [List.getElem?_map] at ha
  obtain ⟨p, hp, rfl⟩ := Option.map_eq_some_iff.1 ha
  have hil := (List.getElem?_eq_some_iff.1 hp).1
  obtain ⟨b, o, rfl, hcell⟩ := hc (by omega)
  have key : ∀ (j : Nat) (x : Value), (K.row p.1 p.2)[j]? = some x → w.cell? ⟨b, o + (i * K.k + j), none⟩ = some x := fun j x hx => by
    refine hcell _ _ ?_
    have hj : j < K.k := by rw [← K.len p.1 p.2]; exact (List.getElem?_eq_some_iff.1 hx).1
    have := flat_get (fun p : α × Value => K.row p.1 p.2) K.k (fun p => K.len p.1 p.2) ps i hil j hj
    rw [List.getElem?_eq_getElem hil] at hp
    rw [Option.some.inj hp] at this
    exact this.trans hx
  have hb : b < w.heap.size := by
    have h0 : 0 < (K.row p.1 p.2).length := by rw [K.len]; exact K.pos
    exact World.block_lt_of_cell? w _ (key 0 _ (List.getElem?_eq_getElem h0))
  exact ⟨b, o, rfl, hb, p.2, key, hi p (List.mem_of_getElem? hp)⟩
end
/-- Revocation lists. -/
def rvCells (r : RV) (v : Value) : List Value := [.string (bstr r.st), .int .i64 r.num, .int .i64 r.day, .int .i64 r.nxt, v, .int .i64 r.iss, .int .i64 r.e, .int .i64 r.s]
/-- A master list; a defect; a deviation list. -/
structure MA where
  st : List UInt8
  num : Int
  day : Int
  roots : List NC
  sg : NC
  e : Int
  s : Int
structure DF where
  kind : Int
  param : Int
  signer : Int
  fi : List UInt8
  la : List UInt8
structure DV where
  st : List UInt8
  num : Int
  day : Int
  defs : List DF
  sg : NC
  e : Int
  s : Int
def dfCells (d : DF) : List Value := [.int .i64 d.kind, .int .i64 d.param, .int .i64 d.signer, .string (bstr d.fi), .string (bstr d.la)]
def dfsCells (l : List DF) : List Value := l.flatMap dfCells
theorem dfCells_len (d : DF) : (dfCells d).length = 5 := rfl
theorem dfsCells_len (l : List DF) : (dfsCells l).length = l.length * 5 := flat_len _ 5 dfCells_len l
theorem dfsCells_one (l : List DF) : ∀ u ∈ dfsCells l, u.oneCell' = true := by
  intro u hu
  obtain ⟨c, _, hu⟩ := List.mem_flatMap.1 hu
  simp only [dfCells, List.mem_cons, List.not_mem_nil, or_false] at hu
  rcases hu with rfl | rfl | rfl | rfl | rfl <;> rfl
def maCells (m : MA) (v : Value) : List Value := [.string (bstr m.st), .int .i64 m.num, .int .i64 m.day, v, .string (bstr m.sg.st), .int .i64 m.sg.kind, .int .i64 m.sg.num, .int .i64 m.sg.iss, .int .i64 m.sg.own, .int .i64 m.sg.key, .int .i64 m.sg.fr, .int .i64 m.sg.un, .int .i64 m.sg.to, .int .i64 m.sg.e, .int .i64 m.sg.s, .int .i64 m.e, .int .i64 m.s]
def dvCells (m : DV) (v : Value) : List Value := [.string (bstr m.st), .int .i64 m.num, .int .i64 m.day, v, .string (bstr m.sg.st), .int .i64 m.sg.kind, .int .i64 m.sg.num, .int .i64 m.sg.iss, .int .i64 m.sg.own, .int .i64 m.sg.key, .int .i64 m.sg.fr, .int .i64 m.sg.un, .int .i64 m.sg.to, .int .i64 m.sg.e, .int .i64 m.sg.s, .int .i64 m.e, .int .i64 m.s]
def kR : LK RV := ⟨88, 8, rvCells, 3, 1, fun r => intsV r.ser, fun _ _ => rfl, by decide, by decide, fun a u h x hx => by
  simp only [rvCells, List.mem_cons, List.not_mem_nil, or_false] at hx
  rcases hx with rfl | rfl | rfl | rfl | rfl | rfl | rfl | rfl <;> first | exact h | rfl⟩
def kM : LK MA := ⟨86, 17, maCells, 39, 11, fun m => ncsCells m.roots, fun _ _ => rfl, by decide, by decide, fun a u h x hx => by
  simp only [maCells, List.mem_cons, List.not_mem_nil, or_false] at hx
  rcases hx with rfl | rfl | rfl | rfl | rfl | rfl | rfl | rfl | rfl | rfl | rfl | rfl | rfl | rfl | rfl | rfl | rfl <;> first | exact h | rfl⟩
def kD : LK DV := ⟨41, 17, dvCells, 65, 5, fun m => dfsCells m.defs, fun _ _ => rfl, by decide, by decide, fun a u h x hx => by
  simp only [dvCells, List.mem_cons, List.not_mem_nil, or_false] at hx
  rcases hx with rfl | rfl | rfl | rfl | rfl | rfl | rfl | rfl | rfl | rfl | rfl | rfl | rfl | rfl | rfl | rfl | rfl <;> first | exact h | rfl⟩
/-- A store: what it holds. -/
structure ST where
  roots : List NC
  pool : List NC
  ms : List MA
  rs : List RV
  ds : List DV
/-- The slices of a store read so. -/
structure StR (w : World) (s0 s1 s2 s3 s4 : SlT) (S : ST) : Prop where
  r0 : RdN w (slV s0) S.roots
  r1 : RdN w (slV s1) S.pool
  r2 : RdX kM w (slV s2) S.ms
  r3 : RdX kR w (slV s3) S.rs
  r4 : RdX kD w (slV s4) S.ds
theorem StR.ext {w w' : World} {s0 s1 s2 s3 s4 : SlT} {S : ST} (h : StR w s0 s1 s2 s3 s4 S) (e : Ext w w') : StR w' s0 s1 s2 s3 s4 S := ⟨RdK.ext h.r0 e, RdK.ext h.r1 e, h.r2.ext e, h.r3.ext e, h.r4.ext e⟩
/-- A store all of whose memory is new. -/
structure StO (w : World) (B : Nat) (s0 s1 s2 s3 s4 : SlT) (S : ST) : Prop where
  o0 : OwnK w B 39 11 (slV s0) (ncsCells S.roots)
  o1 : OwnK w B 39 11 (slV s1) (ncsCells S.pool)
  o2 : OwnX kM w B (slV s2) S.ms
  o3 : OwnX kR w B (slV s3) S.rs
  o4 : OwnX kD w B (slV s4) S.ds
theorem StO.ext {w w' : World} {B : Nat} {s0 s1 s2 s3 s4 : SlT} {S : ST} (h : StO w B s0 s1 s2 s3 s4 S) (e : Ext w w') : StO w' B s0 s1 s2 s3 s4 S := ⟨h.o0.ext e, h.o1.ext e, h.o2.ext e, h.o3.ext e, h.o4.ext e⟩
theorem StO.mono {w : World} {B B' : Nat} {s0 s1 s2 s3 s4 : SlT} {S : ST} (h : StO w B s0 s1 s2 s3 s4 S) (hB : B' ≤ B) : StO w B' s0 s1 s2 s3 s4 S := ⟨h.o0.mono hB, h.o1.mono hB, h.o2.mono hB, h.o3.mono hB, h.o4.mono hB⟩
theorem StO.rd {w : World} {B : Nat} {s0 s1 s2 s3 s4 : SlT} {S : ST} (h : StO w B s0 s1 s2 s3 s4 S) : StR w s0 s1 s2 s3 s4 S := ⟨h.o0.rd, h.o1.rd, h.o2.rd, h.o3.rd, h.o4.rd⟩
/-- A block below B changes. -/
theorem StO.gbB {w w' : World} {B g : Nat} {s0 s1 s2 s3 s4 : SlT} {S : ST} (h : StO w B s0 s1 s2 s3 s4 S) (hg : g < B) (e : w.grownBy w' (some g)) : StO w' B s0 s1 s2 s3 s4 S :=
  ⟨h.o0.grown e (.inr fun q => by have := rowOf_geK h.o0 _ q; omega), h.o1.grown e (.inr fun q => by have := rowOf_geK h.o1 _ q; omega), h.o2.gbB hg e, h.o3.gbB hg e, h.o4.gbB hg e⟩
def stRow (s0 s1 s2 s3 s4 : SlT) : Array Value := #[.slice s0.1 s0.2.1 s0.2.2, .slice s1.1 s1.2.1 s1.2.2, .slice s2.1 s2.2.1 s2.2.2, .slice s3.1 s3.2.1 s3.2.2, .slice s4.1 s4.2.1 s4.2.2]
theorem stRow_one (s0 s1 s2 s3 s4 : SlT) : (stRow s0 s1 s2 s3 s4).all (·.oneCell') = true := by simp [stRow, Value.oneCell']
theorem info_st : (Tryz.prog.info? 31).map (·.size) = some 5 := by kernel_rfl
theorem info_ma : (Tryz.prog.info? 86).map (·.size) = some 17 := by kernel_rfl
theorem info_dv : (Tryz.prog.info? 41).map (·.size) = some 17 := by kernel_rfl
end Go.Proofs.YtmmoenkmicimcaaGreatDoor
namespace Go.Proofs.YtmmoenkmicimcaaGreatDoor
open Go.RowKit
set_option linter.unusedVariables false
set_option maxRecDepth 100000
/-- Certificates added that are not there yet. -/
def addStep (out : List NC) (c : NC) : List NC := if c ∈ out then out else out ++ [c]
def addT (out l : List NC) : List NC := l.foldl addStep out
/-- The roots that were exchanged, and those of the master lists. -/
def rootsT (S : ST) : List NC := S.ms.foldl (fun out m => addT out m.roots) (addT [] S.roots)
theorem addT_snoc (out : List NC) {l : List NC} {y : NC} {k : Nat} (h : l[k]? = some y) : addT out (l.take (k + 1)) = addStep (addT out (l.take k)) y := by
  unfold addT
  rw [take_snocN h, List.foldl_append]
  rfl
theorem addT_mem {out l : List NC} {c : NC} (h : c ∈ addT out l) : c ∈ out ∨ c ∈ l := by
  unfold addT at h
  induction l generalizing out with
  | nil => exact .inl h
  | cons x l ih =>
    rcases ih h with h | h
    · unfold addStep at h
      split at h
      · exact .inl h
      · rcases List.mem_append.1 h with h | h
        · exact .inl h
        · rw [List.mem_singleton.1 h]; exact .inr List.mem_cons_self
    · exact .inr (List.mem_cons_of_mem _ h)
theorem addT_len (out l : List NC) : (addT out l).length ≤ out.length + l.length := by
  unfold addT
  induction l generalizing out with
  | nil => exact Nat.le_refl _
  | cons x l ih =>
    have h := ih (addStep out x)
    have h2 : (addStep out x).length ≤ out.length + 1 := by
      unfold addStep
      split
      · omega
      · rw [List.length_append]; exact Nat.le_refl _
    rw [List.foldl_cons, List.length_cons]
    omega
theorem addT_sm {out l : List NC} (h : smL out) (k : smL l) : smL (addT out l) := fun c hc => (addT_mem hc).elim (h c) (k c)
/-- What is small enough. -/
structure StB (S : ST) : Prop where
  r : smL S.roots
  p : smL S.pool
  m : ∀ x ∈ S.ms, smL x.roots ∧ x.roots.length ≤ 10000
  s : ∀ x ∈ S.rs, x.ser.length ≤ 10000
  d : ∀ x ∈ S.ds, x.defs.length ≤ 10000
  lr : S.roots.length ≤ 10000
  lp : S.pool.length ≤ 10000
  lm : S.ms.length ≤ 20
  ls : S.rs.length ≤ 10000
  ld : S.ds.length ≤ 10000
theorem foldAdd_sm : ∀ (ms : List MA) (out : List NC), smL out → (∀ x ∈ ms, smL x.roots) → smL (ms.foldl (fun out m => addT out m.roots) out)
  | [], out, h, _ => h
  | m :: ms, out, h, k => foldAdd_sm ms _ (addT_sm h (k m List.mem_cons_self)) fun x hx => k x (List.mem_cons_of_mem _ hx)
theorem foldAdd_len : ∀ (ms : List MA) (out : List NC), (∀ x ∈ ms, x.roots.length ≤ 10000) → (ms.foldl (fun out m => addT out m.roots) out).length ≤ out.length + ms.length * 10000
  | [], out, _ => by simp
  | m :: ms, out, k => by
    have h := foldAdd_len ms (addT out m.roots) fun x hx => k x (List.mem_cons_of_mem _ hx)
    have h2 := addT_len out m.roots
    have h3 := k m List.mem_cons_self
    rw [List.foldl_cons, List.length_cons]
    omega
theorem StB.roots {S : ST} (h : StB S) : smL (rootsT S) := foldAdd_sm _ _ (addT_sm (fun c hc => (by cases hc)) h.r) fun x hx => (h.m x hx).1
theorem StB.rlen {S : ST} (h : StB S) : (rootsT S).length ≤ 210000 := by
  have h1 := foldAdd_len S.ms (addT [] S.roots) fun x hx => (h.m x hx).2
  have h2 := addT_len [] S.roots
  have h3 := h.lr
  have h4 := h.lm
  unfold rootsT
  have h5 : S.ms.length * 10000 ≤ 20 * 10000 := Nat.mul_le_mul_right _ h4
  rw [List.length_nil] at h2
  omega
end Go.Proofs.YtmmoenkmicimcaaGreatDoor
namespace Go.Proofs.YtmmoenkmicimcaaGreatDoor
open Go.RowKit
set_option linter.unusedVariables false
set_option maxRecDepth 100000
/-- Why a certificate is not one of a signer of lists. -/
def sgE (c : NC) (st : List UInt8) : Int := if ckN c ≠ 0 then ckN c else if c.kind ≠ 4 then 61 else if c.st ≠ st then 68 else 0
end Go.Proofs.YtmmoenkmicimcaaGreatDoor
namespace Go.Proofs.YtmmoenkmicimcaaGreatDoor
open Go.RowKit
set_option linter.unusedVariables false
set_option maxRecDepth 100000
/-- A letter or a digit; a document number; one before another. -/
def docI (x : Int) : Prop := upI x ∨ dgI x
instance (x : Int) : Decidable (docI x) := inferInstanceAs (Decidable (_ ∨ _))
def docP (l : List UInt8) : Prop := (1 ≤ l.length ∧ l.length ≤ 20) ∧ ∀ i, i < l.length → docI (byteI l i)
instance (l : List UInt8) : Decidable (docP l) := inferInstanceAs (Decidable (_ ∧ _))
theorem docP_no_short {l : List UInt8} (h : l.length < 1) : decide (docP l) = false := decide_eq_false fun q => by have := q.1.1; omega
theorem docP_no_long {l : List UInt8} (h : 20 < l.length) : decide (docP l) = false := decide_eq_false fun q => by have := q.1.2; omega
theorem docP_no_at {l : List UInt8} (i : Nat) (hi : i < l.length) (h : ¬ docI (byteI l i)) : decide (docP l) = false := decide_eq_false fun q => h (q.2 i hi)
theorem docP_yes {l : List UInt8} (h1 : 1 ≤ l.length) (h2 : l.length ≤ 20) (h4 : ∀ i, i < l.length → docI (byteI l i)) : decide (docP l) = true := decide_eq_true ⟨⟨h1, h2⟩, h4⟩
def befL (a b : List UInt8) : Bool := if a.length = b.length then Op.bytesLess a b else decide (a.length < b.length)
theorem less_tri : ∀ a b : List UInt8, Op.bytesLess b a = !(Op.bytesLess a b || (a == b))
  | [], [] => rfl
  | [], _ :: _ => rfl
  | _ :: _, [] => rfl
  | x :: a, y :: b => by
    have h := less_tri a b
    simp only [Op.bytesLess]
    have e : ((x :: a) == (y :: b)) = ((x == y) && (a == b)) := rfl
    rw [e, h]
    by_cases h1 : x = y
    · subst h1
      simp
    · have h2 : (x == y) = false := by simpa using h1
      have h3 : (y == x) = false := by simpa using Ne.symm h1
      rw [h2, h3]
      simp only [Bool.false_and, Bool.or_false]
      have h4 : y < x ↔ ¬ x < y := by
        constructor
        · intro h; exact fun q => absurd (UInt8.lt_trans h q) (UInt8.lt_irrefl _)
        · intro h
          have := UInt8.not_lt.1 h
          exact UInt8.lt_of_le_of_ne this (Ne.symm h1)
      by_cases h5 : x < y
      · simp [h5, h4]
      · simp [h5, h4]
/-- The comparison of two document numbers: first by length. -/
def cmpL (a b : List UInt8) : Int := if a.length < b.length then -1 else if b.length < a.length then 1 else if Op.bytesLess a b = true then -1 else if a = b then 0 else 1
theorem cmpL_neg (a b : List UInt8) : decide (cmpL a b < 0) = befL a b := by
  unfold cmpL befL
  by_cases h1 : a.length < b.length
  · rw [if_pos h1, if_neg (show ¬ (a.length = b.length) by omega), decide_eq_true h1]; rfl
  · rw [if_neg h1]
    by_cases h2 : b.length < a.length
    · rw [if_pos h2, if_neg (show ¬ (a.length = b.length) by omega), decide_eq_false h1]; rfl
    · rw [if_neg h2, if_pos (show a.length = b.length by omega)]
      cases h3 : Op.bytesLess a b with
      | true => rfl
      | false =>
        rw [if_neg (show ¬ (false = true) by decide)]
        split <;> rfl
theorem cmpL_pos (a b : List UInt8) : decide (cmpL a b ≤ 0) = !befL b a := by
  unfold cmpL befL
  by_cases h1 : a.length < b.length
  · rw [if_pos h1, if_neg (show ¬ (b.length = a.length) by omega), decide_eq_false (by omega : ¬ b.length < a.length)]; rfl
  · rw [if_neg h1]
    by_cases h2 : b.length < a.length
    · rw [if_pos h2, if_neg (show ¬ (b.length = a.length) by omega), decide_eq_true h2]; rfl
    · rw [if_neg h2, if_pos (show b.length = a.length by omega), less_tri a b]
      cases h3 : Op.bytesLess a b with
      | true => rfl
      | false =>
        rw [if_neg (show ¬ (false = true) by decide)]
        by_cases h4 : a = b
        · rw [if_pos h4]; subst h4; simp
        · rw [if_neg h4]; simp [h4]
/-- Why an entry is not well formed; why a list is not. -/
def dfG (d : DF) : Bool := decide (d.kind = 1) || decide (d.kind = 2)
def dfE (d : DF) : Int :=
  if d.kind < 1 ∨ 5 < d.kind then 61 else if ((dfG d && (decide (d.param < 1) || decide (16 < d.param))) || (!dfG d && decide (d.param ≠ 0)) || !decide (serP d.signer)) = true then 3
  else if (!decide (docP d.fi) || !decide (docP d.la) || befL d.la d.fi) = true then 1 else 0
def dfsE (l : List DF) : Int := match l.find? (fun d => decide (dfE d ≠ 0)) with
  | some d => dfE d
  | none => 0
def ckD (d : DV) : Int := if ¬ stateP d.st then 60 else if ¬ serP d.num then 3 else if ¬ (0 ≤ d.day ∧ d.day ≤ 73048) then 8 else if 32 < d.defs.length then 72 else if dfsE d.defs ≠ 0 then dfsE d.defs else sgE d.sg d.st
/-- The tests of an entry. -/
def parB (d : DF) : Bool := (dfG d && (decide (d.param < 1) || decide (16 < d.param))) || (!dfG d && decide (d.param ≠ 0)) || !decide (serP d.signer)
def txtB (d : DF) : Bool := !decide (docP d.fi) || !decide (docP d.la) || befL d.la d.fi
theorem dfE_role {d : DF} (h : d.kind < 1 ∨ 5 < d.kind) : dfE d = 61 := if_pos h
theorem dfE_par {d : DF} (h : ¬ (d.kind < 1 ∨ 5 < d.kind)) (q : parB d = true) : dfE d = 3 := by unfold dfE; rw [if_neg h]; exact if_pos q
theorem dfE_txt {d : DF} (h : ¬ (d.kind < 1 ∨ 5 < d.kind)) (q : parB d = false) (r : txtB d = true) : dfE d = 1 := by
  unfold dfE; rw [if_neg h]; show (if parB d = true then (3 : Int) else if txtB d = true then 1 else 0) = 1; rw [if_neg (show ¬ (parB d = true) by rw [q]; decide)]; exact if_pos r
theorem dfE_fine {d : DF} (h : ¬ (d.kind < 1 ∨ 5 < d.kind)) (q : parB d = false) (r : txtB d = false) : dfE d = 0 := by
  unfold dfE; rw [if_neg h]; show (if parB d = true then (3 : Int) else if txtB d = true then 1 else 0) = 0; rw [if_neg (show ¬ (parB d = true) by rw [q]; decide)]; exact if_neg (show ¬ (txtB d = true) by rw [r]; decide)
theorem dfs_bad {l : List DF} {d : DF} {k : Nat} (hk : l[k]? = some d) (hc : dfE d ≠ 0) (hn : ∀ (j : Nat) (x : DF), j < k → l[j]? = some x → dfE x = 0) : dfsE l = dfE d := by
  have : l.find? (fun d => decide (dfE d ≠ 0)) = some d := by
    induction l generalizing k with
    | nil => simp at hk
    | cons y l ih =>
      cases k with
      | zero =>
        have : y = d := by simpa using hk
        subst this
        rw [List.find?_cons_of_pos (by simpa using hc)]
      | succ k =>
        have h0 := hn 0 y (Nat.zero_lt_succ _) rfl
        rw [List.find?_cons_of_neg (by simpa using h0)]
        exact ih (by simpa using hk) (fun j x hj hx => hn (j + 1) x (Nat.succ_lt_succ hj) (by simpa using hx))
  unfold dfsE
  rw [this]
theorem dfs_fine {l : List DF} (hn : ∀ (j : Nat) (x : DF), j < l.length → l[j]? = some x → dfE x = 0) : dfsE l = 0 := by
  have : l.find? (fun d => decide (dfE d ≠ 0)) = none := by
    rw [List.find?_eq_none]
    intro x hx
    obtain ⟨j, hj⟩ := List.getElem?_of_mem hx
    have := hn j x (List.getElem?_eq_some_iff.1 hj).1 hj
    simp [this]
  unfold dfsE
  rw [this]
theorem dfsE_ok {l : List DF} (h : dfsE l = 0) : ∀ d ∈ l, dfE d = 0 := by
  unfold dfsE at h
  split at h
  · rename_i d hd
    have := List.find?_some hd
    exact absurd h (of_decide_eq_true this)
  · rename_i hn
    intro d hd
    have := List.find?_eq_none.1 hn d hd
    simpa using this
theorem dfE_ok {d : DF} (h : dfE d = 0) : docP d.fi ∧ docP d.la := by
  unfold dfE at h
  split at h
  · cases h
  split at h
  · cases h
  split at h
  · cases h
  rename_i q
  by_cases h1 : docP d.fi
  · by_cases h2 : docP d.la
    · exact ⟨h1, h2⟩
    · exact absurd (by simp [h2]) q
  · exact absurd (by simp [h1]) q
theorem dfE_sgn {d : DF} (h : dfE d = 0) : serP d.signer := by
  unfold dfE at h
  split at h
  · cases h
  split at h
  · cases h
  rename_i q
  by_cases h1 : serP d.signer
  · exact h1
  · exact absurd (by simp [h1]) q
theorem ckD_ok {d : DV} (h : ckD d = 0) : stateP d.st ∧ serP d.num ∧ (0 ≤ d.day ∧ d.day ≤ 73048) ∧ d.defs.length ≤ 32 ∧ dfsE d.defs = 0 ∧ sgE d.sg d.st = 0 := by
  unfold ckD at h
  split at h
  · cases h
  rename_i h1
  split at h
  · cases h
  rename_i h2
  split at h
  · cases h
  rename_i h3
  split at h
  · cases h
  rename_i h4
  split at h
  · rename_i h5; exact absurd h h5
  rename_i h5
  exact ⟨Decidable.not_not.1 h1, Decidable.not_not.1 h2, Decidable.not_not.1 h3, by omega, Decidable.not_not.1 h5, h⟩
/-- The object that is signed. -/
def dfN (d : DF) : Nd := .mk 48 [] [leafN 129 [u8 d.kind, u8 d.param], leafN 131 (be4 d.signer), leafN 132 d.fi, leafN 133 d.la]
def bodyDN (d : DV) : Nd := .mk 49 [] (leafN 19 d.st :: leafN 130 (be4 d.num) :: leafN 134 (be3 d.day) :: d.defs.map dfN)
def bodyDB (d : DV) : List UInt8 := encNs 4 [bodyDN d]
def byD (d : DV) : List UInt8 := if ckD d = 0 then bodyDB d else []
theorem ok_dfN (d : DF) : ∀ n, okNs (n + 2) [dfN d] := fun n => by
  refine okNs_cons (okCons (by decide) (by decide) (by decide) (by decide) ?_) (okNs_nil _)
  refine okNs_cons (okLeaf (by decide) (by decide) (by decide) (by decide)) ?_
  refine okNs_cons (okLeaf (by decide) (by decide) (by decide) (by decide)) ?_
  refine okNs_cons (okLeaf (by decide) (by decide) (by decide) (by decide)) ?_
  exact okNs_cons (okLeaf (by decide) (by decide) (by decide) (by decide)) (okNs_nil _)
theorem ok_bodyDN (d : DV) : okNs 4 [bodyDN d] := by
  refine okNs_cons (okCons (by decide) (by decide) (by decide) (by decide) ?_) (okNs_nil _)
  refine okNs_cons (okLeaf (by decide) (by decide) (by decide) (by decide)) ?_
  refine okNs_cons (okLeaf (by decide) (by decide) (by decide) (by decide)) ?_
  refine okNs_cons (okLeaf (by decide) (by decide) (by decide) (by decide)) ?_
  intro t ht
  obtain ⟨c, _, rfl⟩ := List.mem_map.1 ht
  exact ok_dfN c 1 _ (List.mem_singleton.2 rfl)
theorem cnt_dfs : ∀ l : List DF, cntNs 3 (l.map dfN) = l.length * 5
  | [] => rfl
  | c :: l => by
    have h := cnt_dfs l
    have h1 : cntNs 3 [dfN c] = 5 := rfl
    have e : cntNs 3 ((c :: l).map dfN) = cntNs 3 [dfN c] + cntNs 3 (l.map dfN) := by
      show ((dfN c :: l.map dfN).map _).sum = ([dfN c].map _).sum + ((l.map dfN).map _).sum
      simp
    rw [e, h1, h, List.length_cons]
    omega
theorem cnt_bodyDN {d : DV} (h : d.defs.length ≤ 32) : cntNs 4 [bodyDN d] ≤ 256 := by
  have e : cntNs 4 [bodyDN d] = 1 + (3 + cntNs 3 (d.defs.map dfN)) := by
    show ([bodyDN d].map _).sum = 1 + (3 + ((d.defs.map dfN).map _).sum)
    simp [bodyDN, leafN, Nd.kids, cntNs]
    omega
  rw [e, cnt_dfs]
  omega
theorem val_dfs : ∀ l : List DF, (∀ c ∈ l, c.fi.length ≤ 20 ∧ c.la.length ≤ 20) → valNs 3 (l.map dfN) ≤ l.length * 46
  | [], _ => Nat.le_refl _
  | c :: l, k => by
    have h := val_dfs l fun x hx => k x (List.mem_cons_of_mem _ hx)
    obtain ⟨h0, h2⟩ := k c List.mem_cons_self
    have h1 : valNs 3 [dfN c] = c.fi.length + c.la.length + 6 := by
      simp only [valNs, dfN, leafN, Nd.val, Nd.kids, List.map_cons, List.map_nil, List.sum_cons, List.sum_nil, List.length_nil, List.length_cons, be4]
      omega
    have e : valNs 3 ((c :: l).map dfN) = valNs 3 [dfN c] + valNs 3 (l.map dfN) := by
      show ((dfN c :: l.map dfN).map _).sum = ([dfN c].map _).sum + ((l.map dfN).map _).sum
      simp
    rw [e, h1, List.length_cons]
    omega
theorem bodyDB_4096 {d : DV} (h : ckD d = 0) : (encNs 4 [bodyDN d]).length ≤ 4096 := by
  obtain ⟨h1, _, _, h4, h5, _⟩ := ckD_ok h
  have h1 := h1.1.2
  have k := encNs_len 4 [bodyDN d]
  have c1 := cnt_bodyDN (d := d) h4
  have c2 : cntNs 4 [bodyDN d] = 1 + (3 + cntNs 3 (d.defs.map dfN)) := by
    show ([bodyDN d].map _).sum = 1 + (3 + ((d.defs.map dfN).map _).sum)
    simp [bodyDN, leafN, Nd.kids, cntNs]
    omega
  rw [cnt_dfs] at c2
  have v1 := val_dfs d.defs fun c hc => ⟨(dfE_ok (dfsE_ok h5 c hc)).1.1.2, (dfE_ok (dfsE_ok h5 c hc)).2.1.2⟩
  have e : valNs 4 [bodyDN d] = d.st.length + 7 + valNs 3 (d.defs.map dfN) := by
    show ([bodyDN d].map _).sum = d.st.length + 7 + ((d.defs.map dfN).map _).sum
    simp [bodyDN, leafN, Nd.kids, Nd.val, valNs, be4, be3]
    omega
  omega
/-- Which defects a document has. -/
def appQ (d : DF) (signer : Int) (number : List UInt8) : Bool := decide (d.signer = signer) && (!befL number d.fi && !befL d.la number)
def ofD (l : List DV) (st : List UInt8) : Option DV := l.find? fun d => decide (d.st = st)
def appD (l : List DV) (st : List UInt8) (signer : Int) (number : List UInt8) : List DF := match ofD l st with
  | none => []
  | some d => if docP number then d.defs.filter fun x => appQ x signer number else []
end Go.Proofs.YtmmoenkmicimcaaGreatDoor
namespace Go.Proofs.YtmmoenkmicimcaaGreatDoor
open Go.RowKit
set_option linter.unusedVariables false
set_option maxRecDepth 100000
set_option maxHeartbeats 1000000 in
theorem docB_any (s : ByteArray) (w : World) (hs : s.size ≤ maxLen) : Calls Tryz.prog 44 #[.string s] w fun e w' => e = .returned (.bool (decide (docP s.data.toList))) ∧ w = w' := by
  unfold maxLen at hs
  have hsz : s.data.toList.length = s.size := by simp
  by_cases h1 : s.size < 1
  · have HN := Lib.hid (docP_no_short (l := s.data.toList) (by omega))
    clear hsz
    go_enter Tryz.func44, Tryz.ntmps44
    go_wp2
    go_ret
    exact ⟨by rw [HN.out]; rfl, rfl⟩
  by_cases h20 : 20 < s.size
  · have HN := Lib.hid (docP_no_long (l := s.data.toList) (by omega))
    clear hsz
    go_enter Tryz.func44, Tryz.ntmps44
    go_wp2
    go_ret
    exact ⟨by rw [HN.out]; rfl, rfl⟩
  have HZ := Lib.hid hsz
  clear hsz
  go_enter Tryz.func44, Tryz.ntmps44
  go_wp2
  go_loop [3, 14] (fun _ i => ∃ k : Nat, k ≤ s.size ∧ i = .int .i64 (k : Int) ∧ ∀ j, j < k → docI (byteI s.data.toList j)) (fun _ i => s.size - (intOf i).toNat)
  case atStart => exact ⟨0, Nat.zero_le _, rfl, fun j hj => absurd hj (by omega)⟩
  case round =>
    obtain ⟨k, hk, rfl, hall⟩ := hrel
    have HA := Lib.hid hall
    clear hall
    by_cases hlt : k < s.size
    · have HQ := Lib.hid (byteS hlt)
      have uk : (s[k].toNat : Int) < 256 := by have := UInt8.toNat_lt s[k]; omega
      have NX := Lib.hid (fun (h : docI (s[k].toNat : Int)) => (fun j hj => by
        by_cases hjk : j < k
        · exact HA.out j hjk
        · obtain rfl : j = k := by omega
          rw [HQ.out]; exact h : ∀ j, j < k + 1 → docI (byteI s.data.toList j)))
      have BD := Lib.hid (fun (h : ¬ docI (s[k].toNat : Int)) => docP_no_at (l := s.data.toList) k (by rw [HZ.out]; exact hlt) (by rw [HQ.out]; exact h))
      by_cases c1 : (s[k].toNat : Int) < 65
      · by_cases c3 : (s[k].toNat : Int) < 48
        · have HN := Lib.hid (BD.out (by unfold docI upI dgI; omega))
          go_wp2
          go_ret
          exact ⟨by rw [HN.out]; rfl, rfl⟩
        · by_cases c4 : 57 < (s[k].toNat : Int)
          · have HN := Lib.hid (BD.out (by unfold docI upI dgI; omega))
            go_wp2
            go_ret
            exact ⟨by rw [HN.out]; rfl, rfl⟩
          · have HN := Lib.hid (NX.out (by unfold docI upI dgI; omega))
            go_wp2
            go_round
            case rel => exact ⟨k + 1, by omega, by go_num, HN.out⟩
            case measure => simp [intOf]; omega
      · by_cases c2 : 90 < (s[k].toNat : Int)
        · have c3 : ¬ (s[k].toNat : Int) < 48 := by omega
          have c4 : 57 < (s[k].toNat : Int) := by omega
          have HN := Lib.hid (BD.out (by unfold docI upI dgI; omega))
          go_wp2
          go_ret
          exact ⟨by rw [HN.out]; rfl, rfl⟩
        · have HN := Lib.hid (NX.out (by unfold docI upI dgI; omega))
          go_wp2
          go_round
          case rel => exact ⟨k + 1, by omega, by go_num, HN.out⟩
          case measure => simp [intOf]; omega
    · obtain rfl : k = s.size := by omega
      have HN := Lib.hid (docP_yes (l := s.data.toList) (by rw [HZ.out]; omega) (by rw [HZ.out]; omega) (fun i hi => HA.out i (by rw [← HZ.out]; exact hi)))
      go_wp2
      go_ret
      exact ⟨by rw [HN.out]; rfl, rfl⟩
set_option maxHeartbeats 1000000 in
theorem refdocB_any (s : ByteArray) (w : World) (hs : s.size ≤ maxLen) : Calls Tryz.prog 46 #[.string s] w fun e w' => e = .returned (.bool (decide (docP s.data.toList))) ∧ w = w' := by
  unfold maxLen at hs
  have hsz : s.data.toList.length = s.size := by simp
  have HZ := Lib.hid hsz
  clear hsz
  go_enter Tryz.func46, Tryz.ntmps46
  go_wp2
  go_loop [3] (fun i => ∃ k : Nat, k ≤ s.size ∧ i = .int .i64 (k : Int) ∧ ∀ j, j < k → docI (byteI s.data.toList j)) (fun i => s.size - (intOf i).toNat)
  case atStart => exact ⟨0, Nat.zero_le _, rfl, fun j hj => absurd hj (by omega)⟩
  case round =>
    obtain ⟨k, hk, rfl, hall⟩ := hrel
    have HA := Lib.hid hall
    clear hall
    by_cases hlt : k < s.size
    · have HQ := Lib.hid (byteS hlt)
      have uk : (s[k].toNat : Int) < 256 := by have := UInt8.toNat_lt s[k]; omega
      have NX := Lib.hid (fun (h : docI (s[k].toNat : Int)) => (fun j hj => by
        by_cases hjk : j < k
        · exact HA.out j hjk
        · obtain rfl : j = k := by omega
          rw [HQ.out]; exact h : ∀ j, j < k + 1 → docI (byteI s.data.toList j)))
      have BD := Lib.hid (fun (h : ¬ docI (s[k].toNat : Int)) => docP_no_at (l := s.data.toList) k (by rw [HZ.out]; exact hlt) (by rw [HQ.out]; exact h))
      by_cases c1 : (s[k].toNat : Int) < 65
      · by_cases c3 : (s[k].toNat : Int) < 48
        · have HN := Lib.hid (BD.out (by unfold docI upI dgI; omega))
          go_wp2
          go_ret
          exact ⟨by rw [HN.out]; rfl, rfl⟩
        · by_cases c4 : 57 < (s[k].toNat : Int)
          · have HN := Lib.hid (BD.out (by unfold docI upI dgI; omega))
            go_wp2
            go_ret
            exact ⟨by rw [HN.out]; rfl, rfl⟩
          · have HN := Lib.hid (NX.out (by unfold docI upI dgI; omega))
            go_wp2
            go_round
            case rel => exact ⟨k + 1, by omega, by go_num, HN.out⟩
            case measure => simp [intOf]; omega
      · by_cases c2 : 90 < (s[k].toNat : Int)
        · have c3 : ¬ (s[k].toNat : Int) < 48 := by omega
          have c4 : 57 < (s[k].toNat : Int) := by omega
          have HN := Lib.hid (BD.out (by unfold docI upI dgI; omega))
          go_wp2
          go_ret
          exact ⟨by rw [HN.out]; rfl, rfl⟩
        · have HN := Lib.hid (NX.out (by unfold docI upI dgI; omega))
          go_wp2
          go_round
          case rel => exact ⟨k + 1, by omega, by go_num, HN.out⟩
          case measure => simp [intOf]; omega
    · obtain rfl : k = s.size := by omega
      by_cases h1 : 1 ≤ s.size
      · by_cases h2 : s.size ≤ 20
        · have HN := Lib.hid ((docP_yes (l := s.data.toList) (by rw [HZ.out]; omega) (by rw [HZ.out]; omega) (fun i hi => HA.out i (by rw [← HZ.out]; exact hi))).trans (decide_eq_true (show (s.size : Int) ≤ 20 by omega)).symm)
          go_wp2
          go_ret
          exact ⟨by rw [HN.out]; rfl, rfl⟩
        · have HN := Lib.hid ((docP_no_long (l := s.data.toList) (by rw [HZ.out]; omega)).trans (decide_eq_false (show ¬ (s.size : Int) ≤ 20 by omega)).symm)
          go_wp2
          go_ret
          exact ⟨by rw [HN.out]; rfl, rfl⟩
      · have HN := Lib.hid (docP_no_short (l := s.data.toList) (by rw [HZ.out]; omega))
        go_wp2
        go_ret
        exact ⟨by rw [HN.out]; rfl, rfl⟩
theorem doc_any (l : List UInt8) (w : World) (hl : l.length ≤ maxLen) : Calls Tryz.prog 44 #[.string (bstr l)] w fun e w' => e = .returned (.bool (decide (docP l))) ∧ w = w' :=
  docB_any (bstr l) w (by show l.toArray.size ≤ _; simpa using hl)
theorem refdoc_any (l : List UInt8) (w : World) (hl : l.length ≤ maxLen) : Calls Tryz.prog 46 #[.string (bstr l)] w fun e w' => e = .returned (.bool (decide (docP l))) ∧ w = w' :=
  refdocB_any (bstr l) w (by show l.toArray.size ≤ _; simpa using hl)
/-- The comparison of two numbers, of two texts. -/
def cmpI (x y : Int) : Int := if x < y then -1 else if y < x then 1 else 0
def cmpT (a b : List UInt8) : Int := if Op.bytesLess a b = true then -1 else if a = b then 0 else 1
theorem cmpI_lt {x y : Int} (h : x < y) : cmpI x y = -1 := if_pos h
theorem cmpI_gt {x y : Int} (h : y < x) : cmpI x y = 1 := by unfold cmpI; rw [if_neg (show ¬ x < y by omega), if_pos h]
theorem cmpI_eq {x y : Int} (h : x = y) : cmpI x y = 0 := by unfold cmpI; rw [if_neg (show ¬ x < y by omega), if_neg (show ¬ y < x by omega)]
theorem cmpL_or (a b : List UInt8) : cmpL a b = if cmpI a.length b.length = 0 then cmpT a b else cmpI a.length b.length := by
  unfold cmpL
  by_cases h1 : a.length < b.length
  · rw [if_pos h1, cmpI_lt (show (a.length : Int) < (b.length : Int) by omega)]; rfl
  · rw [if_neg h1]
    by_cases h2 : b.length < a.length
    · rw [if_pos h2, cmpI_gt (show (b.length : Int) < (a.length : Int) by omega)]; rfl
    · rw [if_neg h2, cmpI_eq (show (a.length : Int) = (b.length : Int) by omega), if_pos rfl]
      rfl
theorem nanI_any (x : Int) (w : World) : Calls Tryz.prog 129 #[.int .i64 x] w fun e w' => e = .returned (.bool false) ∧ w = w' := by
  have h : (x != x) = false := by simp
  go_enter Tryz.func129, Tryz.ntmps129
  go_wp2
  go_ret
  exact ⟨by first | rfl | (rw [h]), rfl⟩
theorem nanS_any (x : ByteArray) (w : World) : Calls Tryz.prog 130 #[.string x] w fun e w' => e = .returned (.bool false) ∧ w = w' := by
  have h : (x.toList != x.toList) = false := by simp
  go_enter Tryz.func130, Tryz.ntmps130
  go_wp2
  go_ret
  exact ⟨by first | rfl | (rw [h]) | simp, rfl⟩
theorem cmpI_any (x y : Int) (w : World) : Calls Tryz.prog 90 #[.int .i64 x, .int .i64 y] w fun e w' => e = .returned (.int .i64 (cmpI x y)) ∧ w = w' := by
  have HN := Lib.hid nanI_any
  obtain ⟨K, hK⟩ : ∃ K, cmpI x y = K := ⟨_, rfl⟩
  rw [hK]
  have HK := Lib.hid hK
  clear hK
  go_enter Tryz.func90, Tryz.ntmps90
  go_wp2_with fail
  refine (HN.out _ _).mono ?_
  rintro e w1 ⟨rfl, rfl⟩
  go_wp2_with fail
  refine (HN.out _ _).mono ?_
  rintro e w1 ⟨rfl, rfl⟩
  by_cases h1 : x < y
  · have HR := Lib.hid (show K = -1 by rw [← HK.out]; exact if_pos h1)
    go_wp2_with fail
    go_ret
    exact ⟨by rw [HR.out]; rfl, rfl⟩
  · by_cases h2 : y < x
    · have HR := Lib.hid (show K = 1 by rw [← HK.out]; unfold cmpI; rw [if_neg h1, if_pos h2])
      go_wp2_with fail
      go_ret
      exact ⟨by rw [HR.out]; rfl, rfl⟩
    · have HR := Lib.hid (show K = 0 by rw [← HK.out]; unfold cmpI; rw [if_neg h1, if_neg h2])
      go_wp2_with fail
      go_ret
      exact ⟨by rw [HR.out]; rfl, rfl⟩
theorem bstr_list (l : List UInt8) : (bstr l).toList = l := by
  unfold bstr
  simp
theorem run_gtrS {P : Program} (t : TypeId) (a b : ByteArray) (W : World) : (binOp .gtr t (.string a) (.string b)).run P W = .ok (.bool (!(Op.bytesLess a.toList b.toList || a.toList == b.toList))) W := by
  unfold binOp
  simp [Op.stringOp]
theorem cmpT_any (a b : List UInt8) (w : World) : Calls Tryz.prog 91 #[.string (bstr a), .string (bstr b)] w fun e w' => e = .returned (.int .i64 (cmpT a b)) ∧ w = w' := by
  have HN := Lib.hid nanS_any
  obtain ⟨K, hK⟩ : ∃ K, cmpT a b = K := ⟨_, rfl⟩
  rw [hK]
  have HK := Lib.hid hK
  clear hK
  have HA := Lib.hid (bstr_list a)
  have HB := Lib.hid (bstr_list b)
  go_enter Tryz.func91, Tryz.ntmps91
  go_wp2_with fail
  refine (HN.out _ _).mono ?_
  rintro e w1 ⟨rfl, rfl⟩
  go_wp2_with fail
  refine (HN.out _ _).mono ?_
  rintro e w1 ⟨rfl, rfl⟩
  cases h1 : Op.bytesLess a b with
  | true =>
    have HR := Lib.hid (show K = -1 by rw [← HK.out]; exact if_pos h1)
    have q1 : Op.bytesLess (bstr a).toList (bstr b).toList = true := by rw [HA.out, HB.out]; exact h1
    clear h1
    go_wp2_with fail
    go_ret
    exact ⟨by rw [HR.out]; rfl, rfl⟩
  | false =>
    have q1 : Op.bytesLess (bstr a).toList (bstr b).toList = false := by rw [HA.out, HB.out]; exact h1
    by_cases h2 : a = b
    · have HR := Lib.hid (show K = 0 by rw [← HK.out]; unfold cmpT; rw [if_neg (by rw [h1]; decide), if_pos h2])
      have q2 : ((bstr a).toList == (bstr b).toList) = true := by rw [HA.out, HB.out]; simpa using h2
      have q3 : ∀ W : World, (binOp .gtr 9 (.string (bstr a)) (.string (bstr b))).run Tryz.prog W = .ok (.bool false) W := fun W => by rw [run_gtrS, q1, q2]; rfl
      clear h1 h2
      go_wp2_with fail
      go_ret
      exact ⟨by rw [HR.out]; rfl, rfl⟩
    · have HR := Lib.hid (show K = 1 by rw [← HK.out]; unfold cmpT; rw [if_neg (by rw [h1]; decide), if_neg h2])
      have q2 : ((bstr a).toList == (bstr b).toList) = false := by rw [HA.out, HB.out]; simpa using h2
      have q3 : ∀ W : World, (binOp .gtr 9 (.string (bstr a)) (.string (bstr b))).run Tryz.prog W = .ok (.bool true) W := fun W => by rw [run_gtrS, q1, q2]; rfl
      clear h1 h2
      go_wp2_with fail
      go_ret
      exact ⟨by rw [HR.out]; rfl, rfl⟩
theorem refbef_any (a b : List UInt8) (w : World) (ha : a.length ≤ maxLen) (hb : b.length ≤ maxLen) : Calls Tryz.prog 47 #[.string (bstr a), .string (bstr b)] w fun e w' => e = .returned (.bool (befL a b)) ∧ w = w' := by
  obtain ⟨K, hK⟩ : ∃ K, befL a b = K := ⟨_, rfl⟩
  rw [hK]
  have HK := Lib.hid hK
  clear hK
  have HA := Lib.hid (bstr_list a)
  have HB := Lib.hid (bstr_list b)
  have sa : (bstr a).size = a.length := by unfold bstr; simp [ByteArray.size]
  have sb : (bstr b).size = b.length := by unfold bstr; simp [ByteArray.size]
  unfold maxLen at ha hb
  by_cases h1 : a.length = b.length
  · have HR := Lib.hid (show K = Op.bytesLess (bstr a).toList (bstr b).toList by rw [← HK.out, HA.out, HB.out]; exact if_pos h1)
    have hq : (((bstr a).size : Int) != ((bstr b).size : Int)) = false := by simp [sa, sb, h1]
    clear h1 sa sb
    go_enter Tryz.func47, Tryz.ntmps47
    go_wp2_with fail
    go_ret
    exact ⟨by rw [HR.out]; rfl, rfl⟩
  · have HR := Lib.hid (show K = decide ((bstr a).size < (bstr b).size) by rw [← HK.out]; unfold befL; rw [if_neg h1, sa, sb])
    have hq : (((bstr a).size : Int) != ((bstr b).size : Int)) = true := by
      have : ((a.length : Int)) ≠ (b.length : Int) := by omega
      simpa [sa, sb] using this
    clear h1 sa sb
    go_enter Tryz.func47, Tryz.ntmps47
    go_wp2_with fail
    go_ret
    exact ⟨by rw [HR.out]; rfl, rfl⟩
end Go.Proofs.YtmmoenkmicimcaaGreatDoor
namespace Go.Proofs.YtmmoenkmicimcaaGreatDoor
open Go.RowKit
set_option linter.unusedVariables false
set_option maxRecDepth 100000
/-- The first number that is not zero. -/
def orL (l : List Int) : Int := match l.find? (fun x => decide (x ≠ 0)) with
  | some x => x
  | none => 0
theorem orL_at {l : List Int} {x : Int} {k : Nat} (hk : l[k]? = some x) (hx : x ≠ 0) (hn : ∀ (j : Nat) (y : Int), j < k → l[j]? = some y → y = 0) : orL l = x := by
  have : l.find? (fun x => decide (x ≠ 0)) = some x := by
    induction l generalizing k with
    | nil => simp at hk
    | cons y l ih =>
      cases k with
      | zero =>
        have : y = x := by simpa using hk
        subst this
        rw [List.find?_cons_of_pos (by simpa using hx)]
      | succ k =>
        have h0 := hn 0 y (Nat.zero_lt_succ _) rfl
        rw [List.find?_cons_of_neg (by simpa using h0)]
        exact ih (by simpa using hk) (fun j x hj hx => hn (j + 1) x (Nat.succ_lt_succ hj) (by simpa using hx))
  unfold orL
  rw [this]
theorem orL_no {l : List Int} (hn : ∀ (j : Nat) (y : Int), j < l.length → l[j]? = some y → y = 0) : orL l = 0 := by
  have : l.find? (fun x => decide (x ≠ 0)) = none := by
    rw [List.find?_eq_none]
    intro x hx
    obtain ⟨j, hj⟩ := List.getElem?_of_mem hx
    have := hn j x (List.getElem?_eq_some_iff.1 hj).1 hj
    simp [this]
  unfold orL
  rw [this]
theorem orL_two (x y : Int) : orL [x, y] = if x = 0 then y else x := by
  by_cases h : x = 0
  · rw [if_pos h]
    by_cases h2 : y = 0
    · subst h h2; rfl
    · exact orL_at (k := 1) rfl h2 fun j z hj hz => by
        obtain rfl : j = 0 := by omega
        have : x = z := by simpa using hz
        omega
  · rw [if_neg h]
    exact orL_at (k := 0) rfl h fun j z hj => by omega
set_option maxHeartbeats 1000000 in
theorem or_any {v : Value} {l : List Int} (w : World) (hv : RdI w .i64 v l) : Calls Tryz.prog 89 #[v] w (RetQ w (.int .i64 (orL l))) := by
  obtain ⟨A, n, c, rfl, hn, hnc, hcm, hel⟩ := hv.ints
  subst hn
  unfold maxLen at hcm
  have HE := Lib.hid hel
  clear hv hel
  obtain ⟨r, hr⟩ : ∃ r, orL l = r := ⟨_, rfl⟩
  rw [hr]
  have HR := Lib.hid hr
  clear hr
  go_enter Tryz.func89, Tryz.ntmps89
  go_wp2
  go_loopw [5, 8] (fun _ i wr => ∃ j : Nat, j ≤ l.length ∧ i = .int .i64 (j : Int) ∧ Ext w wr ∧ Hid (∀ (i : Nat) (u : Int), i < j → l[i]? = some u → u = 0)) (fun _ i _ => l.length - (intOf i).toNat)
  case atStart => exact ⟨0, Nat.zero_le _, rfl, Below.refl _ _, Lib.hid (fun i u h => by omega)⟩
  case round =>
    obtain ⟨j, hj, rfl, bb, NO⟩ := hrel
    by_cases hlt : j < l.length
    · obtain ⟨t, ht⟩ : ∃ t, l[j]? = some t := ⟨_, List.getElem?_eq_getElem hlt⟩
      obtain ⟨b, o, rfl, hbl, hc⟩ := HE.out (by omega)
      have l0 := (bb.cell (p := ⟨b, o + j, none⟩) hbl).trans (hc j hlt)
      rw [show l.getD j 0 = t by rw [List.getD_eq_getElem?_getD, ht]; rfl] at l0
      have HT := Lib.hid ht
      clear hc ht
      have wi1 : IntKind.i64.wrap ((j : Int)) = (j : Int) := IntWalk.i64_in _ (by omega)
      have zi1 : (0 : Int) ≤ (j : Int) := by omega
      have li1 : (j : Int) < (l.length : Int) := by omega
      have ti1 : ((j : Int)).toNat = j := by omega
      by_cases hq : t = 0
      · have HN := Lib.hid (fun (i : Nat) (u : Int) (hi : i < j + 1) (hu : l[i]? = some u) => (by
          by_cases h : i = j
          · subst h
            rw [HT.out] at hu
            rw [← Option.some.inj hu]; exact hq
          · exact NO.out i u (by omega) hu : u = 0))
        have hb : (t != 0) = false := by simpa using hq
        clear hq
        go_wp2_with fail
        go_roundw
        case rel => exact ⟨j + 1, by omega, by go_num, bb, HN⟩
        case measure => simp [intOf]; omega
      · have HN := Lib.hid (show r = t by rw [← HR.out]; exact orL_at HT.out hq NO.out)
        have hb : (t != 0) = true := by simpa using hq
        clear hq
        go_wp2_with fail
        go_ret
        exact ⟨by rw [HN.out]; rfl, bb⟩
    · obtain rfl : j = l.length := by omega
      have HN := Lib.hid (show r = 0 by rw [← HR.out]; exact orL_no NO.out)
      go_wp2_with fail
      go_ret
      exact ⟨by rw [HN.out]; rfl, bb⟩
theorem compare_any (a b : List UInt8) (w : World) (ha : a.length ≤ maxLen) (hb : b.length ≤ maxLen) : Calls Tryz.prog 45 #[.string (bstr a), .string (bstr b)] w (RetQ w (.int .i64 (cmpL a b))) := by
  have sa : (bstr a).size = a.length := by unfold bstr; simp [ByteArray.size]
  have sb : (bstr b).size = b.length := by unfold bstr; simp [ByteArray.size]
  unfold maxLen at ha hb
  have HI := Lib.hid (fun W => cmpI_any ((bstr a).size : Int) ((bstr b).size : Int) W)
  have HT := Lib.hid (fun W => cmpT_any a b W)
  have HO := Lib.hid (fun W (e : Ext (w.alloc (.cells #[.int .i64 (cmpI ((bstr a).size : Int) ((bstr b).size : Int)), .int .i64 (cmpT a b)] 3)) W) => or_any (v := .slice (some ⟨w.heap.size, 0, none⟩) 2 2) (l := [cmpI ((bstr a).size : Int) ((bstr b).size : Int), cmpT a b]) W ((Rd.lit w #[.int .i64 (cmpI ((bstr a).size : Int) ((bstr b).size : Int)), .int .i64 (cmpT a b)] 3 2 rfl (by unfold maxLen; omega) : RdI _ .i64 _ [cmpI ((bstr a).size : Int) ((bstr b).size : Int), cmpT a b]).ext e))
  have HK := Lib.hid (show orL [cmpI ((bstr a).size : Int) ((bstr b).size : Int), cmpT a b] = cmpL a b by rw [orL_two, cmpL_or, sa, sb])
  have e1 : Ext w (w.alloc (.cells #[.int .i64 (cmpI ((bstr a).size : Int) ((bstr b).size : Int)), .int .i64 (cmpT a b)] 3)) := (Below.refl _ _).alloc (Nat.le_refl _) _
  obtain ⟨x, hx⟩ : ∃ x, cmpI ((bstr a).size : Int) ((bstr b).size : Int) = x := ⟨_, rfl⟩
  obtain ⟨y, hy⟩ : ∃ y, cmpT a b = y := ⟨_, rfl⟩
  obtain ⟨K, hK⟩ : ∃ K, cmpL a b = K := ⟨_, rfl⟩
  rw [hK] at HK ⊢
  rw [hx, hy] at HO HK e1
  rw [hx] at HI
  rw [hy] at HT
  rw [sa, sb] at HI
  have E1 := Lib.hid e1
  clear hx hy hK e1
  go_enter Tryz.func45, Tryz.ntmps45
  go_wp2_with fail
  refine (HI.out _).mono ?_
  rintro e w1 ⟨rfl, rfl⟩
  go_wp2_with fail
  refine (HT.out _).mono ?_
  rintro e w1 ⟨rfl, rfl⟩
  go_wp2_with fail
  refine (HO.out _ (Below.refl _ _)).mono ?_
  rintro e w2 ⟨rfl, b2⟩
  rw [HK.out]
  go_wp2_with fail
  go_ret
  exact ⟨rfl, E1.out.tr b2⟩
/-- An entry by value, and its block. -/
def dfV (d : DF) : Value := .agg (dfCells d).toArray
def DfAt (w : World) (g : Nat) (d : DF) : Prop := w.heap[g]? = some (.cells (dfCells d).toArray 65 (0, 0))
section
variable {w w' : World} {g : Nat} {d : DF}
theorem DfAt.lt (h : DfAt w g d) : g < w.heap.size := block_lt h
theorem DfAt.ext (h : DfAt w g d) (e : Ext w w') : DfAt w' g d := (e.block g h.lt).trans h
theorem DfAt.c0 (h : DfAt w g d) : w.cell? ⟨g, 0, none⟩ = some (.int .i64 d.kind) := by rw [cell_of_row w g 0 _ _ _ h]; rfl
theorem DfAt.c1 (h : DfAt w g d) : w.cell? ⟨g, 1, none⟩ = some (.int .i64 d.param) := by rw [cell_of_row w g 1 _ _ _ h]; rfl
theorem DfAt.c2 (h : DfAt w g d) : w.cell? ⟨g, 2, none⟩ = some (.int .i64 d.signer) := by rw [cell_of_row w g 2 _ _ _ h]; rfl
theorem DfAt.c3 (h : DfAt w g d) : w.cell? ⟨g, 3, none⟩ = some (.string (bstr d.fi)) := by rw [cell_of_row w g 3 _ _ _ h]; rfl
theorem DfAt.c4 (h : DfAt w g d) : w.cell? ⟨g, 4, none⟩ = some (.string (bstr d.la)) := by rw [cell_of_row w g 4 _ _ _ h]; rfl
theorem DfAt.frozen (h : DfAt w g d) (i : Nat) : w.frozen? ⟨g, i, none⟩ = false := by
  unfold DfAt at h
  simp [World.frozen?, h]
theorem df_alloc (w : World) (d : DF) : ∃ wz, wz = w.alloc (.cells #[.int .i64 d.kind, .int .i64 d.param, .int .i64 d.signer, .string (bstr d.fi), .string (bstr d.la)] 65) ∧ Ext w wz ∧ DfAt wz w.heap.size d :=
  ⟨_, rfl, (Below.refl _ _).alloc (Nat.le_refl _) _, heap_alloc_new' w _⟩
end
/-- A slice that reads as entries; the cells of entry i. -/
abbrev RdD (w : World) (v : Value) (l : List DF) : Prop := RdK w 5 v (dfsCells l)
theorem RdD.at_ {w : World} {v : Value} {l : List DF} (h : RdD w v l) : ∃ A n c, v = .slice A n c ∧ n = l.length ∧ n ≤ c ∧ c ≤ maxLen ∧ (0 < n → ∃ b o, A = some ⟨b, o, none⟩ ∧ b < w.heap.size ∧ ∀ (i : Nat) (d : DF), l[i]? = some d →
    w.cell? ⟨b, o + i * 5, none⟩ = some (.int .i64 d.kind) ∧ w.cell? ⟨b, o + i * 5 + 1, none⟩ = some (.int .i64 d.param) ∧ w.cell? ⟨b, o + i * 5 + 2, none⟩ = some (.int .i64 d.signer) ∧ w.cell? ⟨b, o + i * 5 + 3, none⟩ = some (.string (bstr d.fi)) ∧ w.cell? ⟨b, o + i * 5 + 4, none⟩ = some (.string (bstr d.la))) := by
  obtain ⟨A, n, c, rfl, hn, hnc, hcm, hc⟩ := RdK.flat (f := dfCells) (k := 5) (by omega) dfCells_len h
  refine ⟨A, n, c, rfl, hn, hnc, hcm, fun h0 => ?_⟩
  obtain ⟨b, o, rfl, hb, hcell⟩ := hc h0
  refine ⟨b, o, rfl, hb, fun i p hp => ?_⟩
  obtain ⟨hi, rfl⟩ := List.getElem?_eq_some_iff.1 hp
  exact ⟨hcell i hi 0 _ rfl, hcell i hi 1 _ rfl, hcell i hi 2 _ rfl, hcell i hi 3 _ rfl, hcell i hi 4 _ rfl⟩
set_option maxHeartbeats 4000000 in
theorem defect_any (d : DF) (w : World) (hf : d.fi.length ≤ maxLen) (hl : d.la.length ≤ maxLen) : Calls Tryz.prog 58 #[dfV d] w (RetQ w (.int .i64 (dfE d))) := by
  obtain ⟨wz, hwz, ez, TZ⟩ := df_alloc w d
  have HS := Lib.hid (fun W => nationalcert_serial d.signer W)
  have HD1 := Lib.hid (fun W => doc_any d.fi W hf)
  have HD2 := Lib.hid (fun W => doc_any d.la W hl)
  have HC := Lib.hid (fun W => compare_any d.la d.fi W hl hf)
  obtain ⟨K, hK⟩ : ∃ K, dfE d = K := ⟨_, rfl⟩
  rw [hK]
  have HK := Lib.hid hK
  clear hK hf hl
  have X := Lib.hid ez
  have c0 := TZ.c0
  have c1 := TZ.c1
  have c2 := TZ.c2
  have c3 := TZ.c3
  have c4 := TZ.c4
  have cl := TZ.lt
  have HTZ := Lib.hid TZ
  clear TZ ez
  unfold dfV dfCells
  go_enter Tryz.func58, Tryz.ntmps58
  go_upto_region 1 with fail
  rw [← hwz]
  clear hwz
  by_cases k0 : d.kind < 1
  case pos =>
    have HR := Lib.hid (show K = 61 by rw [← HK.out]; exact dfE_role (.inl k0))
    have k1 : (d.kind == 1) = false := by simp; omega
    have k2 : (d.kind == 2) = false := by simp; omega
    go_wp2_with fail
    go_ret
    exact ⟨by first | (rw [HR.out]; rfl) | rw [HR.out], X.out⟩
  by_cases k5 : 5 < d.kind
  case pos =>
    have HR := Lib.hid (show K = 61 by rw [← HK.out]; exact dfE_role (.inr k5))
    have k1 : (d.kind == 1) = false := by simp; omega
    have k2 : (d.kind == 2) = false := by simp; omega
    go_wp2_with fail
    go_ret
    exact ⟨by first | (rw [HR.out]; rfl) | rw [HR.out], X.out⟩
  have HQ := Lib.hid (show ¬ (d.kind < 1 ∨ 5 < d.kind) by omega)
  by_cases g1 : d.kind = 1
  case pos =>
    have k1 : (d.kind == 1) = true := by simpa using g1
    by_cases p1 : d.param < 1
    case pos =>
      have HR := Lib.hid (show K = 3 by rw [← HK.out]; refine dfE_par HQ.out ?_; unfold parB dfG; simp [g1, p1])
      go_wp2_with fail
      go_ret
      exact ⟨by first | (rw [HR.out]; rfl) | rw [HR.out], X.out⟩
    by_cases p2 : 16 < d.param
    case pos =>
      have HR := Lib.hid (show K = 3 by rw [← HK.out]; refine dfE_par HQ.out ?_; unfold parB dfG; simp [g1, p2])
      go_wp2_with fail
      go_ret
      exact ⟨by first | (rw [HR.out]; rfl) | rw [HR.out], X.out⟩
    have HPN := Lib.hid (show ((dfG d && (decide (d.param < 1) || decide (16 < d.param))) || (!dfG d && decide (d.param ≠ 0))) = false by unfold dfG; simp [g1, p1, p2])
    go_wp2_with fail
    refine (HS.out _).mono ?_
    rintro e0 w1 ⟨rfl, rfl⟩
    cases hs : decide (serP d.signer) with
    | false =>
      have HR := Lib.hid (show K = 3 by rw [← HK.out]; refine dfE_par HQ.out ?_; unfold parB; rw [hs]; simp)
      clear hs
      go_wp2_with fail
      go_ret
      exact ⟨by first | (rw [HR.out]; rfl) | rw [HR.out], X.out⟩
    | true =>
      have HP := Lib.hid (show parB d = false by have := HPN.out; unfold parB; rw [hs, this]; rfl)
      clear hs
      go_wp2_with fail
      refine (HD1.out _).mono ?_
      rintro e0 w1 ⟨rfl, rfl⟩
      cases h1 : decide (docP d.fi) with
      | false =>
        have HR := Lib.hid (show K = 1 by rw [← HK.out]; refine dfE_txt HQ.out HP.out ?_; unfold txtB; rw [h1]; simp)
        clear h1
        go_wp2_with fail
        go_ret
        exact ⟨by first | (rw [HR.out]; rfl) | rw [HR.out], X.out⟩
      | true =>
        have H1 := Lib.hid h1
        clear h1
        go_wp2_with fail
        refine (HD2.out _).mono ?_
        rintro e0 w1 ⟨rfl, rfl⟩
        cases h2 : decide (docP d.la) with
        | false =>
          have HR := Lib.hid (show K = 1 by rw [← HK.out]; refine dfE_txt HQ.out HP.out ?_; unfold txtB; rw [h2]; simp)
          clear h2
          go_wp2_with fail
          go_ret
          exact ⟨by first | (rw [HR.out]; rfl) | rw [HR.out], X.out⟩
        | true =>
          have H2 := Lib.hid h2
          clear h2
          go_wp2_with fail
          refine (HC.out _).mono ?_
          rintro e0 w1 ⟨rfl, b1⟩
          have X1 := Lib.hid (X.out.tr b1)
          clear b1 c0 c1 c2 c3 c4 cl
          have HCN := Lib.hid (cmpL_neg d.la d.fi)
          by_cases h3 : cmpL d.la d.fi < 0
          case pos =>
            have HR := Lib.hid (show K = 1 by rw [← HK.out]; refine dfE_txt HQ.out HP.out ?_; unfold txtB; rw [← HCN.out, decide_eq_true h3]; simp)
            go_wp2_with fail
            go_ret
            exact ⟨by first | (rw [HR.out]; rfl) | rw [HR.out], X1.out⟩
          have HR := Lib.hid (show K = 0 by rw [← HK.out]; refine dfE_fine HQ.out HP.out ?_; unfold txtB; rw [← HCN.out, H1.out, H2.out, decide_eq_false h3]; rfl)
          go_wp2_with fail
          go_ret
          exact ⟨by first | (rw [HR.out]; rfl) | rw [HR.out], X1.out⟩
  have k1 : (d.kind == 1) = false := by simpa using g1
  by_cases g2 : d.kind = 2
  case pos =>
    have k2 : (d.kind == 2) = true := by simpa using g2
    by_cases p1 : d.param < 1
    case pos =>
      have HR := Lib.hid (show K = 3 by rw [← HK.out]; refine dfE_par HQ.out ?_; unfold parB dfG; simp [g2, p1])
      go_wp2_with fail
      go_ret
      exact ⟨by first | (rw [HR.out]; rfl) | rw [HR.out], X.out⟩
    by_cases p2 : 16 < d.param
    case pos =>
      have HR := Lib.hid (show K = 3 by rw [← HK.out]; refine dfE_par HQ.out ?_; unfold parB dfG; simp [g2, p2])
      go_wp2_with fail
      go_ret
      exact ⟨by first | (rw [HR.out]; rfl) | rw [HR.out], X.out⟩
    have HPN := Lib.hid (show ((dfG d && (decide (d.param < 1) || decide (16 < d.param))) || (!dfG d && decide (d.param ≠ 0))) = false by unfold dfG; simp [g2, p1, p2])
    go_wp2_with fail
    refine (HS.out _).mono ?_
    rintro e0 w1 ⟨rfl, rfl⟩
    cases hs : decide (serP d.signer) with
    | false =>
      have HR := Lib.hid (show K = 3 by rw [← HK.out]; refine dfE_par HQ.out ?_; unfold parB; rw [hs]; simp)
      clear hs
      go_wp2_with fail
      go_ret
      exact ⟨by first | (rw [HR.out]; rfl) | rw [HR.out], X.out⟩
    | true =>
      have HP := Lib.hid (show parB d = false by have := HPN.out; unfold parB; rw [hs, this]; rfl)
      clear hs
      go_wp2_with fail
      refine (HD1.out _).mono ?_
      rintro e0 w1 ⟨rfl, rfl⟩
      cases h1 : decide (docP d.fi) with
      | false =>
        have HR := Lib.hid (show K = 1 by rw [← HK.out]; refine dfE_txt HQ.out HP.out ?_; unfold txtB; rw [h1]; simp)
        clear h1
        go_wp2_with fail
        go_ret
        exact ⟨by first | (rw [HR.out]; rfl) | rw [HR.out], X.out⟩
      | true =>
        have H1 := Lib.hid h1
        clear h1
        go_wp2_with fail
        refine (HD2.out _).mono ?_
        rintro e0 w1 ⟨rfl, rfl⟩
        cases h2 : decide (docP d.la) with
        | false =>
          have HR := Lib.hid (show K = 1 by rw [← HK.out]; refine dfE_txt HQ.out HP.out ?_; unfold txtB; rw [h2]; simp)
          clear h2
          go_wp2_with fail
          go_ret
          exact ⟨by first | (rw [HR.out]; rfl) | rw [HR.out], X.out⟩
        | true =>
          have H2 := Lib.hid h2
          clear h2
          go_wp2_with fail
          refine (HC.out _).mono ?_
          rintro e0 w1 ⟨rfl, b1⟩
          have X1 := Lib.hid (X.out.tr b1)
          clear b1 c0 c1 c2 c3 c4 cl
          have HCN := Lib.hid (cmpL_neg d.la d.fi)
          by_cases h3 : cmpL d.la d.fi < 0
          case pos =>
            have HR := Lib.hid (show K = 1 by rw [← HK.out]; refine dfE_txt HQ.out HP.out ?_; unfold txtB; rw [← HCN.out, decide_eq_true h3]; simp)
            go_wp2_with fail
            go_ret
            exact ⟨by first | (rw [HR.out]; rfl) | rw [HR.out], X1.out⟩
          have HR := Lib.hid (show K = 0 by rw [← HK.out]; refine dfE_fine HQ.out HP.out ?_; unfold txtB; rw [← HCN.out, H1.out, H2.out, decide_eq_false h3]; rfl)
          go_wp2_with fail
          go_ret
          exact ⟨by first | (rw [HR.out]; rfl) | rw [HR.out], X1.out⟩
  have k2 : (d.kind == 2) = false := by simpa using g2
  by_cases p0 : d.param = 0
  case neg =>
    have HR := Lib.hid (show K = 3 by rw [← HK.out]; refine dfE_par HQ.out ?_; unfold parB dfG; simp [g1, g2, p0])
    have hb : (d.param != 0) = true := by simpa using p0
    go_wp2_with fail
    go_ret
    exact ⟨by first | (rw [HR.out]; rfl) | rw [HR.out], X.out⟩
  have HPN := Lib.hid (show ((dfG d && (decide (d.param < 1) || decide (16 < d.param))) || (!dfG d && decide (d.param ≠ 0))) = false by unfold dfG; simp [g1, g2, p0])
  have hb : (d.param != 0) = false := by simpa using p0
  go_wp2_with fail
  refine (HS.out _).mono ?_
  rintro e0 w1 ⟨rfl, rfl⟩
  cases hs : decide (serP d.signer) with
  | false =>
    have HR := Lib.hid (show K = 3 by rw [← HK.out]; refine dfE_par HQ.out ?_; unfold parB; rw [hs]; simp)
    clear hs
    go_wp2_with fail
    go_ret
    exact ⟨by first | (rw [HR.out]; rfl) | rw [HR.out], X.out⟩
  | true =>
    have HP := Lib.hid (show parB d = false by have := HPN.out; unfold parB; rw [hs, this]; rfl)
    clear hs
    go_wp2_with fail
    refine (HD1.out _).mono ?_
    rintro e0 w1 ⟨rfl, rfl⟩
    cases h1 : decide (docP d.fi) with
    | false =>
      have HR := Lib.hid (show K = 1 by rw [← HK.out]; refine dfE_txt HQ.out HP.out ?_; unfold txtB; rw [h1]; simp)
      clear h1
      go_wp2_with fail
      go_ret
      exact ⟨by first | (rw [HR.out]; rfl) | rw [HR.out], X.out⟩
    | true =>
      have H1 := Lib.hid h1
      clear h1
      go_wp2_with fail
      refine (HD2.out _).mono ?_
      rintro e0 w1 ⟨rfl, rfl⟩
      cases h2 : decide (docP d.la) with
      | false =>
        have HR := Lib.hid (show K = 1 by rw [← HK.out]; refine dfE_txt HQ.out HP.out ?_; unfold txtB; rw [h2]; simp)
        clear h2
        go_wp2_with fail
        go_ret
        exact ⟨by first | (rw [HR.out]; rfl) | rw [HR.out], X.out⟩
      | true =>
        have H2 := Lib.hid h2
        clear h2
        go_wp2_with fail
        refine (HC.out _).mono ?_
        rintro e0 w1 ⟨rfl, b1⟩
        have X1 := Lib.hid (X.out.tr b1)
        clear b1 c0 c1 c2 c3 c4 cl
        have HCN := Lib.hid (cmpL_neg d.la d.fi)
        by_cases h3 : cmpL d.la d.fi < 0
        case pos =>
          have HR := Lib.hid (show K = 1 by rw [← HK.out]; refine dfE_txt HQ.out HP.out ?_; unfold txtB; rw [← HCN.out, decide_eq_true h3]; simp)
          go_wp2_with fail
          go_ret
          exact ⟨by first | (rw [HR.out]; rfl) | rw [HR.out], X1.out⟩
        have HR := Lib.hid (show K = 0 by rw [← HK.out]; refine dfE_fine HQ.out HP.out ?_; unfold txtB; rw [← HCN.out, H1.out, H2.out, decide_eq_false h3]; rfl)
        go_wp2_with fail
        go_ret
        exact ⟨by first | (rw [HR.out]; rfl) | rw [HR.out], X1.out⟩
set_option maxHeartbeats 4000000 in
theorem refdefect_any (d : DF) (w : World) (hf : d.fi.length ≤ maxLen) (hl : d.la.length ≤ maxLen) : Calls Tryz.prog 63 #[dfV d] w (RetQ w (.int .i64 (dfE d))) := by
  obtain ⟨wz, hwz, ez, TZ⟩ := df_alloc w d
  have HS := Lib.hid (fun W => traveldocref29_serial d.signer W)
  have HD1 := Lib.hid (fun W => refdoc_any d.fi W hf)
  have HD2 := Lib.hid (fun W => refdoc_any d.la W hl)
  have HC := Lib.hid (fun W => refbef_any d.la d.fi W hl hf)
  obtain ⟨K, hK⟩ : ∃ K, dfE d = K := ⟨_, rfl⟩
  rw [hK]
  have HK := Lib.hid hK
  clear hK hf hl
  have X := Lib.hid ez
  have c0 := TZ.c0
  have c1 := TZ.c1
  have c2 := TZ.c2
  have c3 := TZ.c3
  have c4 := TZ.c4
  have cl := TZ.lt
  have HTZ := Lib.hid TZ
  clear TZ ez
  unfold dfV dfCells
  go_enter Tryz.func63, Tryz.ntmps63
  go_upto_region 1 with fail
  rw [← hwz]
  clear hwz
  by_cases k0 : d.kind < 1
  case pos =>
    have HR := Lib.hid (show K = 61 by rw [← HK.out]; exact dfE_role (.inl k0))
    have k1 : (d.kind == 1) = false := by simp; omega
    have k2 : (d.kind == 2) = false := by simp; omega
    go_wp2_with fail
    go_ret
    exact ⟨by first | (rw [HR.out]; rfl) | rw [HR.out], X.out⟩
  by_cases k5 : 5 < d.kind
  case pos =>
    have HR := Lib.hid (show K = 61 by rw [← HK.out]; exact dfE_role (.inr k5))
    have k1 : (d.kind == 1) = false := by simp; omega
    have k2 : (d.kind == 2) = false := by simp; omega
    go_wp2_with fail
    go_ret
    exact ⟨by first | (rw [HR.out]; rfl) | rw [HR.out], X.out⟩
  have HQ := Lib.hid (show ¬ (d.kind < 1 ∨ 5 < d.kind) by omega)
  by_cases g1 : d.kind = 1
  case pos =>
    have k1 : (d.kind == 1) = true := by simpa using g1
    by_cases p1 : d.param < 1
    case pos =>
      have HR := Lib.hid (show K = 3 by rw [← HK.out]; refine dfE_par HQ.out ?_; unfold parB dfG; simp [g1, p1])
      go_wp2_with fail
      go_ret
      exact ⟨by first | (rw [HR.out]; rfl) | rw [HR.out], X.out⟩
    by_cases p2 : 16 < d.param
    case pos =>
      have HR := Lib.hid (show K = 3 by rw [← HK.out]; refine dfE_par HQ.out ?_; unfold parB dfG; simp [g1, p2])
      go_wp2_with fail
      go_ret
      exact ⟨by first | (rw [HR.out]; rfl) | rw [HR.out], X.out⟩
    have HPN := Lib.hid (show ((dfG d && (decide (d.param < 1) || decide (16 < d.param))) || (!dfG d && decide (d.param ≠ 0))) = false by unfold dfG; simp [g1, p1, p2])
    go_wp2_with fail
    refine (HS.out _).mono ?_
    rintro e0 w1 ⟨rfl, rfl⟩
    cases hs : decide (serP d.signer) with
    | false =>
      have HR := Lib.hid (show K = 3 by rw [← HK.out]; refine dfE_par HQ.out ?_; unfold parB; rw [hs]; simp)
      clear hs
      go_wp2_with fail
      go_ret
      exact ⟨by first | (rw [HR.out]; rfl) | rw [HR.out], X.out⟩
    | true =>
      have HP := Lib.hid (show parB d = false by have := HPN.out; unfold parB; rw [hs, this]; rfl)
      clear hs
      go_wp2_with fail
      refine (HD1.out _).mono ?_
      rintro e0 w1 ⟨rfl, rfl⟩
      cases h1 : decide (docP d.fi) with
      | false =>
        have HR := Lib.hid (show K = 1 by rw [← HK.out]; refine dfE_txt HQ.out HP.out ?_; unfold txtB; rw [h1]; simp)
        clear h1
        go_wp2_with fail
        go_ret
        exact ⟨by first | (rw [HR.out]; rfl) | rw [HR.out], X.out⟩
      | true =>
        have H1 := Lib.hid h1
        clear h1
        go_wp2_with fail
        refine (HD2.out _).mono ?_
        rintro e0 w1 ⟨rfl, rfl⟩
        cases h2 : decide (docP d.la) with
        | false =>
          have HR := Lib.hid (show K = 1 by rw [← HK.out]; refine dfE_txt HQ.out HP.out ?_; unfold txtB; rw [h2]; simp)
          clear h2
          go_wp2_with fail
          go_ret
          exact ⟨by first | (rw [HR.out]; rfl) | rw [HR.out], X.out⟩
        | true =>
          have H2 := Lib.hid h2
          clear h2
          go_wp2_with fail
          refine (HC.out _).mono ?_
          rintro e0 w1 ⟨rfl, rfl⟩
          cases h3 : befL d.la d.fi with
          | true =>
            have HR := Lib.hid (show K = 1 by rw [← HK.out]; refine dfE_txt HQ.out HP.out ?_; unfold txtB; rw [h3]; simp)
            clear h3
            go_wp2_with fail
            go_ret
            exact ⟨by first | (rw [HR.out]; rfl) | rw [HR.out], X.out⟩
          | false =>
            have HR := Lib.hid (show K = 0 by rw [← HK.out]; refine dfE_fine HQ.out HP.out ?_; unfold txtB; rw [H1.out, H2.out, h3]; rfl)
            clear h3
            go_wp2_with fail
            go_ret
            exact ⟨by first | (rw [HR.out]; rfl) | rw [HR.out], X.out⟩
  have k1 : (d.kind == 1) = false := by simpa using g1
  by_cases g2 : d.kind = 2
  case pos =>
    have k2 : (d.kind == 2) = true := by simpa using g2
    by_cases p1 : d.param < 1
    case pos =>
      have HR := Lib.hid (show K = 3 by rw [← HK.out]; refine dfE_par HQ.out ?_; unfold parB dfG; simp [g2, p1])
      go_wp2_with fail
      go_ret
      exact ⟨by first | (rw [HR.out]; rfl) | rw [HR.out], X.out⟩
    by_cases p2 : 16 < d.param
    case pos =>
      have HR := Lib.hid (show K = 3 by rw [← HK.out]; refine dfE_par HQ.out ?_; unfold parB dfG; simp [g2, p2])
      go_wp2_with fail
      go_ret
      exact ⟨by first | (rw [HR.out]; rfl) | rw [HR.out], X.out⟩
    have HPN := Lib.hid (show ((dfG d && (decide (d.param < 1) || decide (16 < d.param))) || (!dfG d && decide (d.param ≠ 0))) = false by unfold dfG; simp [g2, p1, p2])
    go_wp2_with fail
    refine (HS.out _).mono ?_
    rintro e0 w1 ⟨rfl, rfl⟩
    cases hs : decide (serP d.signer) with
    | false =>
      have HR := Lib.hid (show K = 3 by rw [← HK.out]; refine dfE_par HQ.out ?_; unfold parB; rw [hs]; simp)
      clear hs
      go_wp2_with fail
      go_ret
      exact ⟨by first | (rw [HR.out]; rfl) | rw [HR.out], X.out⟩
    | true =>
      have HP := Lib.hid (show parB d = false by have := HPN.out; unfold parB; rw [hs, this]; rfl)
      clear hs
      go_wp2_with fail
      refine (HD1.out _).mono ?_
      rintro e0 w1 ⟨rfl, rfl⟩
      cases h1 : decide (docP d.fi) with
      | false =>
        have HR := Lib.hid (show K = 1 by rw [← HK.out]; refine dfE_txt HQ.out HP.out ?_; unfold txtB; rw [h1]; simp)
        clear h1
        go_wp2_with fail
        go_ret
        exact ⟨by first | (rw [HR.out]; rfl) | rw [HR.out], X.out⟩
      | true =>
        have H1 := Lib.hid h1
        clear h1
        go_wp2_with fail
        refine (HD2.out _).mono ?_
        rintro e0 w1 ⟨rfl, rfl⟩
        cases h2 : decide (docP d.la) with
        | false =>
          have HR := Lib.hid (show K = 1 by rw [← HK.out]; refine dfE_txt HQ.out HP.out ?_; unfold txtB; rw [h2]; simp)
          clear h2
          go_wp2_with fail
          go_ret
          exact ⟨by first | (rw [HR.out]; rfl) | rw [HR.out], X.out⟩
        | true =>
          have H2 := Lib.hid h2
          clear h2
          go_wp2_with fail
          refine (HC.out _).mono ?_
          rintro e0 w1 ⟨rfl, rfl⟩
          cases h3 : befL d.la d.fi with
          | true =>
            have HR := Lib.hid (show K = 1 by rw [← HK.out]; refine dfE_txt HQ.out HP.out ?_; unfold txtB; rw [h3]; simp)
            clear h3
            go_wp2_with fail
            go_ret
            exact ⟨by first | (rw [HR.out]; rfl) | rw [HR.out], X.out⟩
          | false =>
            have HR := Lib.hid (show K = 0 by rw [← HK.out]; refine dfE_fine HQ.out HP.out ?_; unfold txtB; rw [H1.out, H2.out, h3]; rfl)
            clear h3
            go_wp2_with fail
            go_ret
            exact ⟨by first | (rw [HR.out]; rfl) | rw [HR.out], X.out⟩
  have k2 : (d.kind == 2) = false := by simpa using g2
  by_cases p0 : d.param = 0
  case neg =>
    have HR := Lib.hid (show K = 3 by rw [← HK.out]; refine dfE_par HQ.out ?_; unfold parB dfG; simp [g1, g2, p0])
    have hb : (d.param != 0) = true := by simpa using p0
    go_wp2_with fail
    go_ret
    exact ⟨by first | (rw [HR.out]; rfl) | rw [HR.out], X.out⟩
  have HPN := Lib.hid (show ((dfG d && (decide (d.param < 1) || decide (16 < d.param))) || (!dfG d && decide (d.param ≠ 0))) = false by unfold dfG; simp [g1, g2, p0])
  have hb : (d.param != 0) = false := by simpa using p0
  go_wp2_with fail
  refine (HS.out _).mono ?_
  rintro e0 w1 ⟨rfl, rfl⟩
  cases hs : decide (serP d.signer) with
  | false =>
    have HR := Lib.hid (show K = 3 by rw [← HK.out]; refine dfE_par HQ.out ?_; unfold parB; rw [hs]; simp)
    clear hs
    go_wp2_with fail
    go_ret
    exact ⟨by first | (rw [HR.out]; rfl) | rw [HR.out], X.out⟩
  | true =>
    have HP := Lib.hid (show parB d = false by have := HPN.out; unfold parB; rw [hs, this]; rfl)
    clear hs
    go_wp2_with fail
    refine (HD1.out _).mono ?_
    rintro e0 w1 ⟨rfl, rfl⟩
    cases h1 : decide (docP d.fi) with
    | false =>
      have HR := Lib.hid (show K = 1 by rw [← HK.out]; refine dfE_txt HQ.out HP.out ?_; unfold txtB; rw [h1]; simp)
      clear h1
      go_wp2_with fail
      go_ret
      exact ⟨by first | (rw [HR.out]; rfl) | rw [HR.out], X.out⟩
    | true =>
      have H1 := Lib.hid h1
      clear h1
      go_wp2_with fail
      refine (HD2.out _).mono ?_
      rintro e0 w1 ⟨rfl, rfl⟩
      cases h2 : decide (docP d.la) with
      | false =>
        have HR := Lib.hid (show K = 1 by rw [← HK.out]; refine dfE_txt HQ.out HP.out ?_; unfold txtB; rw [h2]; simp)
        clear h2
        go_wp2_with fail
        go_ret
        exact ⟨by first | (rw [HR.out]; rfl) | rw [HR.out], X.out⟩
      | true =>
        have H2 := Lib.hid h2
        clear h2
        go_wp2_with fail
        refine (HC.out _).mono ?_
        rintro e0 w1 ⟨rfl, rfl⟩
        cases h3 : befL d.la d.fi with
        | true =>
          have HR := Lib.hid (show K = 1 by rw [← HK.out]; refine dfE_txt HQ.out HP.out ?_; unfold txtB; rw [h3]; simp)
          clear h3
          go_wp2_with fail
          go_ret
          exact ⟨by first | (rw [HR.out]; rfl) | rw [HR.out], X.out⟩
        | false =>
          have HR := Lib.hid (show K = 0 by rw [← HK.out]; refine dfE_fine HQ.out HP.out ?_; unfold txtB; rw [H1.out, H2.out, h3]; rfl)
          clear h3
          go_wp2_with fail
          go_ret
          exact ⟨by first | (rw [HR.out]; rfl) | rw [HR.out], X.out⟩
end Go.Proofs.YtmmoenkmicimcaaGreatDoor
namespace Go.Proofs.YtmmoenkmicimcaaGreatDoor
open Go.RowKit
set_option linter.unusedVariables false
set_option maxRecDepth 100000
section
variable {w w' : World} {g : Nat} {m : MA} {v : Value}
end
set_option maxHeartbeats 2000000 in
theorem msigner_any (c : NC) (st : List UInt8) (w : World) (hs : smN c) : Calls Tryz.prog 59 #[ncV c, .string (bstr st)] w (RetQ w (.int .i64 (sgE c st))) := by
  obtain ⟨wz, hwz, ez, TZ⟩ := nc_alloc w c
  have HC := Lib.hid (fun W => nationalcert_check c W hs)
  have HQ := Lib.hid (bstr_eqJ c.st st)
  obtain ⟨K, hK⟩ : ∃ K, sgE c st = K := ⟨_, rfl⟩
  rw [hK]
  have HK := Lib.hid hK
  clear hK hs
  unfold ncV
  go_enter Tryz.func59, Tryz.ntmps59
  go_wp2_with fail
  rw [← hwz]
  clear hwz
  refine (HC.out _).mono ?_
  rintro e w1 ⟨rfl, b1⟩
  have T1 := TZ.ext b1
  have X1 := Lib.hid (ez.tr b1)
  clear TZ ez b1
  by_cases h1 : ckN c = 0
  case neg =>
    have HR := Lib.hid (show K = ckN c by rw [← HK.out]; exact if_pos h1)
    have hb : (ckN c != 0) = true := by simpa using h1
    clear h1
    go_wp2_with fail
    go_ret
    exact ⟨by first | (rw [HR.out]; rfl) | rw [HR.out], X1.out⟩
  rw [h1]
  obtain ⟨t0, t1, t2, t3, t4, t5, t6, t7, t8, t9, t10⟩ := T1.cells
  have hl := T1.lt
  have H1 := Lib.hid h1
  clear h1
  by_cases h2 : c.kind = 4
  case neg =>
    have HR := Lib.hid (show K = 61 by rw [← HK.out]; unfold sgE; rw [if_neg (not_not_intro H1.out), if_pos h2])
    have hb : (c.kind != 4) = true := by simpa using h2
    clear h2
    go_wp2_with fail
    go_ret
    exact ⟨by first | (rw [HR.out]; rfl) | rw [HR.out], X1.out⟩
  have hb : (c.kind != 4) = false := by simpa using h2
  have H2 := Lib.hid h2
  clear h2
  by_cases h3 : c.st = st
  case neg =>
    have HR := Lib.hid (show K = 68 by rw [← HK.out]; unfold sgE; rw [if_neg (not_not_intro H1.out), if_neg (not_not_intro H2.out), if_pos h3])
    have hq : ((bstr c.st).toList == (bstr st).toList) = false := by rw [HQ.out]; exact decide_eq_false h3
    have hq2 : ((bstr c.st).toList != (bstr st).toList) = true := by unfold bne; rw [hq]; rfl
    clear h3
    go_wp2_with fail
    go_ret
    exact ⟨by first | (rw [HR.out]; rfl) | rw [HR.out], X1.out⟩
  have HR := Lib.hid (show K = 0 by rw [← HK.out]; unfold sgE; rw [if_neg (not_not_intro H1.out), if_neg (not_not_intro H2.out), if_neg (not_not_intro h3)])
  have hq : ((bstr c.st).toList == (bstr st).toList) = true := by rw [HQ.out]; exact decide_eq_true h3
  have hq2 : ((bstr c.st).toList != (bstr st).toList) = false := by unfold bne; rw [hq]; rfl
  clear h3
  go_wp2_with fail
  go_ret
  exact ⟨by first | (rw [HR.out]; rfl) | rw [HR.out], X1.out⟩
set_option maxHeartbeats 2000000 in
theorem reflister_any (c : NC) (st : List UInt8) (w : World) (hs : smN c) : Calls Tryz.prog 64 #[ncV c, .string (bstr st)] w (RetQ w (.int .i64 (sgE c st))) := by
  obtain ⟨wz, hwz, ez, TZ⟩ := nc_alloc w c
  have HC := Lib.hid (fun W => traveldocref29_check c W hs)
  have HQ := Lib.hid (bstr_eqJ c.st st)
  obtain ⟨K, hK⟩ : ∃ K, sgE c st = K := ⟨_, rfl⟩
  rw [hK]
  have HK := Lib.hid hK
  clear hK hs
  unfold ncV
  go_enter Tryz.func64, Tryz.ntmps64
  go_wp2_with fail
  rw [← hwz]
  clear hwz
  refine (HC.out _).mono ?_
  rintro e w1 ⟨rfl, b1⟩
  have T1 := TZ.ext b1
  have X1 := Lib.hid (ez.tr b1)
  clear TZ ez b1
  by_cases h1 : ckN c = 0
  case neg =>
    have HR := Lib.hid (show K = ckN c by rw [← HK.out]; exact if_pos h1)
    have hb : (ckN c != 0) = true := by simpa using h1
    clear h1
    go_wp2_with fail
    go_ret
    exact ⟨by first | (rw [HR.out]; rfl) | rw [HR.out], X1.out⟩
  rw [h1]
  obtain ⟨t0, t1, t2, t3, t4, t5, t6, t7, t8, t9, t10⟩ := T1.cells
  have hl := T1.lt
  have H1 := Lib.hid h1
  clear h1
  by_cases h2 : c.kind = 4
  case neg =>
    have HR := Lib.hid (show K = 61 by rw [← HK.out]; unfold sgE; rw [if_neg (not_not_intro H1.out), if_pos h2])
    have hb : (c.kind != 4) = true := by simpa using h2
    clear h2
    go_wp2_with fail
    go_ret
    exact ⟨by first | (rw [HR.out]; rfl) | rw [HR.out], X1.out⟩
  have hb : (c.kind != 4) = false := by simpa using h2
  have H2 := Lib.hid h2
  clear h2
  by_cases h3 : c.st = st
  case neg =>
    have HR := Lib.hid (show K = 68 by rw [← HK.out]; unfold sgE; rw [if_neg (not_not_intro H1.out), if_neg (not_not_intro H2.out), if_pos h3])
    have hq : ((bstr c.st).toList == (bstr st).toList) = false := by rw [HQ.out]; exact decide_eq_false h3
    have hq2 : ((bstr c.st).toList != (bstr st).toList) = true := by unfold bne; rw [hq]; rfl
    clear h3
    go_wp2_with fail
    go_ret
    exact ⟨by first | (rw [HR.out]; rfl) | rw [HR.out], X1.out⟩
  have HR := Lib.hid (show K = 0 by rw [← HK.out]; unfold sgE; rw [if_neg (not_not_intro H1.out), if_neg (not_not_intro H2.out), if_neg (not_not_intro h3)])
  have hq : ((bstr c.st).toList == (bstr st).toList) = true := by rw [HQ.out]; exact decide_eq_true h3
  have hq2 : ((bstr c.st).toList != (bstr st).toList) = false := by unfold bne; rw [hq]; rfl
  clear h3
  go_wp2_with fail
  go_ret
  exact ⟨by first | (rw [HR.out]; rfl) | rw [HR.out], X1.out⟩
theorem refday31_any (x : Int) (w : World) : Calls Tryz.prog 62 #[.int .i64 x] w (RetQ w (.bool (decide (0 ≤ x ∧ x ≤ 73048)))) := by
  go_enter Tryz.func62, Tryz.ntmps62
  obtain ⟨D, hD⟩ : ∃ D, decide (0 ≤ x ∧ x ≤ 73048) = D := ⟨_, rfl⟩
  rw [hD]
  have HDD := Lib.hid hD
  clear hD
  by_cases h0 : 0 ≤ x
  · have HD := Lib.hid (show D = decide (x ≤ 73048) by rw [← HDD.out]; simp [h0])
    go_wp2_with fail
    go_ret
    exact ⟨by rw [HD.out]; rfl, Below.refl _ _⟩
  · have HD := Lib.hid (show D = false by rw [← HDD.out]; exact decide_eq_false fun q => h0 q.1)
    have h2 : x < 0 := by omega
    clear h0
    go_wp2_with fail
    go_ret
    exact ⟨by rw [HD.out]; rfl, Below.refl _ _⟩
end Go.Proofs.YtmmoenkmicimcaaGreatDoor
namespace Go.Proofs.YtmmoenkmicimcaaGreatDoor
open Go.RowKit
set_option linter.unusedVariables false
set_option maxRecDepth 100000
theorem run_strU {w : World} {A : Option Addr} {n c : Nat} {l : List UInt8} (h : Rd w (.slice A n c) (bvs l)) : (convert 48 9 (.slice A n c)).run Tryz.prog w = .ok (.string (bstr l)) w := by
  obtain ⟨A', n', c', e, hn, hnc, hcm, hc⟩ := h
  injection e with e1 e2 e3
  subst e1 e2 e3
  rw [bvs_length] at hn
  by_cases h0 : n = 0
  · subst h0
    obtain rfl : l = [] := List.eq_nil_of_length_eq_zero hn.symm
    rw [run_convert_bytes_string w 48 9 5 _ 0 c Tryz.underlying48 Tryz.underlying5 Tryz.underlying9]
    cases A <;> simp [Conv.bytesToString, loadCells]
    all_goals rfl
  · obtain ⟨b, o, rfl, hcell⟩ := hc (by omega)
    subst hn
    refine run_convert_bytes_back w 48 9 5 ⟨b, o, none⟩ c l Tryz.underlying48 Tryz.underlying5 Tryz.underlying9 fun j hj => ?_
    rw [Addr.add_lit]
    exact hcell j _ (by simp [bvs, hj, bv])
end Go.Proofs.YtmmoenkmicimcaaGreatDoor
namespace Go.Proofs.YtmmoenkmicimcaaGreatDoor
open Go.RowKit
set_option linter.unusedVariables false
set_option maxRecDepth 100000
theorem LK.cells_one {α : Type} {K : LK α} {ps : List (α × Value)} (h : ∀ p ∈ ps, p.2.oneCell' = true) : ∀ u ∈ K.cells ps, u.oneCell' = true := by
  intro u hu
  obtain ⟨p, hp, hq⟩ := List.mem_flatMap.1 hu
  exact K.one p.1 p.2 (h p hp) u hq
theorem RdK.oneU {w : World} {k : Nat} {v : Value} {xs : List Value} (h : RdK w k v xs) : v.oneCell' = true := by
  obtain ⟨A, n, c, rfl, _⟩ := h
  rfl
section
variable {P : Program} {ops : Array Oper} {Q : Exit → Act → World → Prop} {w0 : World} {R : Act → World → Prop}
open Go.Proofs.YtmmoenkmicimcaaGreatDoor.Gd (GRun)
/-- A struct loaded whole out of the middle of a block. -/
theorem Gd.wpX_midK {o : Oper} {rest : List Oper} {a : Act} {hs : List (Nat × VPred)} {d : Nat} (hg : GRun ops o a hs) (g i : Nat) (cs : List Value) {ty : TypeId} {x : Operand} {ds : TypeDesc} (hd : o.dst = some d) (hz : Nat.blt d a.tmps.size = true) (ho : o.op = .load ty x) (hx : a.eval x = .pointer (some ⟨g, i, none⟩)) (hn : noHole o hs = true)
    (hrow : ∀ m : Lt w0, m.1.rangeAt g i cs) (hu : P.underlying ty = some ds) (hdd : ds.isRow = true) (hi : (P.info? ty).map (·.size) = some cs.length) (hr : Gt.wpX Gd.exR P ops Q w0 R [] rest (a.put (some d) (.agg cs.toArray)) hs) : Gt.wpX Gd.exR P ops Q w0 R [] (o :: rest) a hs :=
  Gd.wpX_call hg (.agg cs.toArray) hd hz (by unfold notSelect; rw [ho]) hn (fun m K hK => by
    unfold Oper.wp execOp
    simp only [ho, hx, Sem.run_bind, run_loadAt_mid m.1 g i ty cs ds (hrow m) hu hdd hi, Result.andThen_ok, Sem.run_pure]
    exact hK _ _ (by rw [hd]; rfl) ⟨Below.refl _ _, by rw [hd, eval_put_same (blt_lt hz)]⟩) hr
end
end Go.Proofs.YtmmoenkmicimcaaGreatDoor
