/- Parts Ua Ub Um Ma Mo Uc Up of the proof. -/
import Derived.Test.YtkjplpmogfmhkaaGreatDoorWaw
import Derived.Test.YtkjplpmogfmhkaaGreatDoorWat
import Derived.Deep.MidRow
import Derived.Test.YtkjplpmogfmhkaaGreatDoorWas
import Derived.Test.YtkjplpmogfmhkaaGreatDoorWau
import Derived.BigQuiet
namespace Go.Proofs.YtkjplpmogfmhkaaGreatDoor
open Go.RowKit
set_option linter.unusedVariables false
set_option maxRecDepth 100000
theorem setCells_setLU (g : Nat) : ∀ (vs : List Value) (i : Nat) (w : World), w.setCells g i vs = setL w g i vs
 | [], i, w => rfl
 | v :: vs, i, w => setCells_setLU g vs (i + 1) _
theorem Gb.setCellsU (g : Nat) : ∀ (vs : List Value) (i : Nat) (w : World), Gb g w (w.setCells g i vs)
 | [], i, w => Gb.refl _ _
 | v :: vs, i, w => (Gb.set g i w v).tr (Gb.setCellsU g vs (i + 1) _)
theorem Rd.k1 {w : World} {v : Value} {xs : List Value} (h : Rd w v xs) : RdK w 1 v xs := by
 obtain ⟨A, n, c, rfl, hn, hr⟩ := h
 exact ⟨A, n, c, rfl, by omega, hr⟩
theorem RdK.r1 {w : World} {v : Value} {xs : List Value} (h : RdK w 1 v xs) : Rd w v xs := by
 obtain ⟨A, n, c, rfl, hn, hr⟩ := h
 exact ⟨A, n, c, rfl, by omega, hr⟩
theorem Own.k1 {w : World} {B : Nat} {e : TypeId} {v : Value} {xs : List Value} (h : Own w B e v xs) : OwnK w B e 1 v xs := by
 obtain ⟨A, n, c, rfl, hn, h | ⟨g, cur, rfl, hB, hg, hnc, hcm, hcs, ht⟩⟩ := h
 · exact ⟨A, n, c, rfl, by omega, .inl h⟩
 · exact ⟨_, n, c, rfl, by omega, .inr ⟨g, cur, rfl, hB, hg, hnc, hcm, by omega, by rw [Nat.mul_one]; exact ht⟩⟩
structure LK (α : Type) where
 T : TypeId
 k : Nat
 row : α → Value → List Value
 E : TypeId
 ek : Nat
 inn : α → List Value
 len : ∀ a u, (row a u).length = k
 pos : 0 < k
 ne : E ≠ T
 one : ∀ a u, u.oneCell' = true → ∀ x ∈ row a u, x.oneCell' = true
section
variable {α : Type} {K : LK α} {w w' : World} {B : Nat} {v : Value} {l : List α} {ps : List (α × Value)}
def LK.cells (K : LK α) (ps : List (α × Value)) : List Value := ps.flatMap fun p => K.row p.1 p.2
theorem LK.cells_len (K : LK α) (ps : List (α × Value)) : (K.cells ps).length = ps.length * K.k := flat_len (fun p : α × Value => K.row p.1 p.2) K.k (fun p => K.len p.1 p.2) ps
theorem LK.cells_snoc (K : LK α) (ps : List (α × Value)) (a : α) (u : Value) : K.cells ps ++ K.row a u = K.cells (ps ++ [(a, u)]) := by simp [LK.cells]
theorem LK.cells_app (K : LK α) (ps qs : List (α × Value)) : K.cells (ps ++ qs) = K.cells ps ++ K.cells qs := by simp [LK.cells]
theorem LK.cells_sing (K : LK α) (a : α) (u : Value) : K.cells [(a, u)] = K.row a u := by simp [LK.cells]
def RdX (K : LK α) (w : World) (v : Value) (l : List α) : Prop := ∃ ps : List (α × Value), ps.map Prod.fst = l ∧ RdK w K.k v (K.cells ps) ∧ ∀ p ∈ ps, RdK w K.ek p.2 (K.inn p.1)
def OwnP (K : LK α) (w : World) (B : Nat) (v : Value) (ps : List (α × Value)) : Prop := OwnK w B K.T K.k v (K.cells ps) ∧ ∀ p ∈ ps, OwnK w B K.E K.ek p.2 (K.inn p.1)
def OwnX (K : LK α) (w : World) (B : Nat) (v : Value) (l : List α) : Prop := ∃ ps : List (α × Value), ps.map Prod.fst = l ∧ OwnP K w B v ps
theorem RdX.ext (h : RdX K w v l) (e : Ext w w') : RdX K w' v l := by
 obtain ⟨ps, h1, h2, h3⟩ := h
 exact ⟨ps, h1, h2.ext e, fun p hp => (h3 p hp).ext e⟩
theorem OwnP.rd (h : OwnP K w B v ps) : RdX K w v (ps.map Prod.fst) := ⟨ps, rfl, h.1.rd, fun p hp => (h.2 p hp).rd⟩
theorem OwnX.rd (h : OwnX K w B v l) : RdX K w v l := by
 obtain ⟨ps, h1, h2⟩ := h
 subst h1
 exact h2.rd
theorem OwnP.ext (h : OwnP K w B v ps) (e : Ext w w') : OwnP K w' B v ps := ⟨h.1.ext e, fun p hp => (h.2 p hp).ext e⟩
theorem OwnP.mono {B' : Nat} (h : OwnP K w B v ps) (hB : B' ≤ B) : OwnP K w B' v ps := ⟨h.1.mono hB, fun p hp => (h.2 p hp).mono hB⟩
theorem OwnX.ext (h : OwnX K w B v l) (e : Ext w w') : OwnX K w' B v l := by
 obtain ⟨ps, h1, h2⟩ := h
 exact ⟨ps, h1, h2.ext e⟩
theorem OwnX.mono {B' : Nat} (h : OwnX K w B v l) (hB : B' ≤ B) : OwnX K w B' v l := by
 obtain ⟨ps, h1, h2⟩ := h
 exact ⟨ps, h1, h2.mono hB⟩
theorem OwnP.empty (K : LK α) (w : World) (B : Nat) (A : Option Addr) : OwnP K w B (.slice A 0 0) [] := ⟨OwnK.empty _ _ _ _ _, fun p hp => (by cases hp)⟩
theorem RdX.nil_ (K : LK α) (w : World) (A : Option Addr) : RdX K w (.slice A 0 0) [] := ⟨[], rfl, RdK.nil_ _ _ _, fun p hp => (by cases hp)⟩
theorem OwnP.gb {g T : Nat} {cs : Array Value} {fr : Nat × Nat} (h : OwnP K w B v ps) (hg : w.heap[g]? = some (.cells cs T fr)) (h1 : K.T ≠ T) (h2 : K.E ≠ T) (e : w.grownBy w' (some g)) : OwnP K w' B v ps :=
 ⟨h.1.grown e (.inr (h.1.row_blk hg h1)), fun p hp => (h.2 p hp).grown e (.inr ((h.2 p hp).row_blk hg h2))⟩
theorem OwnX.gb {g T : Nat} {cs : Array Value} {fr : Nat × Nat} (h : OwnX K w B v l) (hg : w.heap[g]? = some (.cells cs T fr)) (h1 : K.T ≠ T) (h2 : K.E ≠ T) (e : w.grownBy w' (some g)) : OwnX K w' B v l := by
 obtain ⟨ps, q1, q2⟩ := h
 exact ⟨ps, q1, q2.gb hg h1 h2 e⟩
theorem OwnP.gbB {g : Nat} (h : OwnP K w B v ps) (hg : g < B) (e : w.grownBy w' (some g)) : OwnP K w' B v ps :=
 ⟨h.1.grown e (.inr fun q => by have := rowOf_geK h.1 _ q; omega), fun p hp => (h.2 p hp).grown e (.inr fun q => by have := rowOf_geK (h.2 p hp) _ q; omega)⟩
theorem OwnX.gbB {g : Nat} (h : OwnX K w B v l) (hg : g < B) (e : w.grownBy w' (some g)) : OwnX K w' B v l := by
 obtain ⟨ps, q1, q2⟩ := h
 exact ⟨ps, q1, q2.gbB hg e⟩
theorem OwnP.grow {B2 e2 k2 : Nat} {v2 : Value} {x2 : List Value} (h : OwnP K w B v ps) (o : OwnK w B2 e2 k2 v2 x2) (h1 : e2 ≠ K.T) (h2 : e2 ≠ K.E) (e : w.grownBy w' (rowOf v2)) : OwnP K w' B v ps :=
 ⟨h.1.grown e (o.row_ne h.1 h1), fun p hp => (h.2 p hp).grown e (o.row_ne (h.2 p hp) h2)⟩
theorem OwnX.grow {B2 e2 k2 : Nat} {v2 : Value} {x2 : List Value} (h : OwnX K w B v l) (o : OwnK w B2 e2 k2 v2 x2) (h1 : e2 ≠ K.T) (h2 : e2 ≠ K.E) (e : w.grownBy w' (rowOf v2)) : OwnX K w' B v l := by
 obtain ⟨ps, q1, q2⟩ := h
 exact ⟨ps, q1, q2.grow o h1 h2 e⟩
theorem OwnP.app {v' u : Value} {a : α} (h : OwnP K w B v ps) (hi : OwnK w B K.E K.ek u (K.inn a)) (o : OwnK w' B K.T K.k v' (K.cells ps ++ K.row a u)) (g : w.grownBy w' (rowOf v)) : OwnP K w' B v' (ps ++ [(a, u)]) := by
 refine ⟨by rw [← K.cells_snoc]; exact o, fun p hp => ?_⟩
 rcases List.mem_append.1 hp with hp | hp
 · exact (h.2 p hp).grown g (h.1.row_ne (h.2 p hp) K.ne.symm)
 · rw [List.mem_singleton.1 hp]
   exact hi.grown g (h.1.row_ne hi K.ne.symm)
theorem OwnP.setAt {A : Option Addr} {n c i : Nat} {a : α} {u : Value} (h : OwnP K w B (.slice A n c) ps) (hu : OwnK w B K.E K.ek u (K.inn a)) (hi : i < ps.length) :
 ∃ g, A = some ⟨g, 0, none⟩ ∧ B ≤ g ∧ w.there g (i * K.k) K.k ∧ g < w.heap.size ∧ (∃ cs, w.heap[g]? = some (.cells cs K.T (0, 0))) ∧ OwnP K (w.setCells g (i * K.k) (K.row a u)) B (.slice A n c) (ps.set i (a, u)) := by
 have ho := h.1
 obtain ⟨A', n', c', e, hn, hc⟩ := ho
 injection e with e1 e2 e3
 subst e1 e2 e3
 rw [K.cells_len] at hn
 obtain rfl : n = ps.length := Nat.eq_of_mul_eq_mul_right K.pos hn
 rcases hc with ⟨h0, _⟩ | ⟨g, cur, rfl, hB, hg, hnc, hcm, hcs, ht⟩
 · omega
 have hiK : i * K.k + K.k ≤ c * K.k := by rw [← Nat.succ_mul]; exact Nat.mul_le_mul_right _ (by omega)
 have hgb := Gb.setCellsU g (K.row a u) (i * K.k) w
 refine ⟨g, rfl, hB, fun j hj => ⟨?_, by simp [World.frozen?, hg]⟩, block_lt hg, ⟨_, hg⟩, ?_, fun p hp => ?_⟩
 · rw [cell_of_row w g _ cur _ _ hg]
   simp
   omega
 · have e : ps = ps.take i ++ [ps[i]] ++ ps.drop (i + 1) := by
    rw [List.append_assoc, List.singleton_append, ← List.drop_eq_getElem_cons hi, List.take_append_drop]
   have e2 : ps.set i (a, u) = ps.take i ++ [(a, u)] ++ ps.drop (i + 1) := by
    rw [List.set_eq_take_append_cons_drop, if_pos hi, List.append_assoc]
    rfl
   have hcc : cur.toList = K.cells ps ++ cur.toList.drop (ps.length * K.k) := by rw [← ht, List.take_append_drop]
   generalize hR : cur.toList.drop (ps.length * K.k) = R at hcc
   have hl : (K.cells (ps.take i)).length = i * K.k := by rw [K.cells_len, List.length_take, Nat.min_eq_left (Nat.le_of_lt hi)]
   have h' : w.heap[g]? = some (.cells (K.cells (ps.take i) ++ K.row ps[i].1 ps[i].2 ++ (K.cells (ps.drop (i + 1)) ++ R)).toArray K.T (0, 0)) := by
    rw [hg]
    congr 2
    rw [← Array.toArray_toList (xs := cur), hcc]
    congr 1
    conv => lhs; rw [e, K.cells_app, K.cells_app, K.cells_sing]
    simp only [List.append_assoc]
   have h2 := setL_mid (K.row a u) (K.cells (ps.take i)) (K.cells (ps.drop (i + 1)) ++ R) w g (K.row ps[i].1 ps[i].2) K.T (0, 0) h' (by rw [K.len, K.len])
   rw [hl, ← setCells_setLU] at h2
   have h3 : (K.cells (ps.take i) ++ K.row a u ++ (K.cells (ps.drop (i + 1)) ++ R)) = K.cells (ps.set i (a, u)) ++ R := by
    rw [e2, K.cells_app, K.cells_app, K.cells_sing]
    simp only [List.append_assoc]
   rw [h3] at h2
   have hls : (K.cells (ps.set i (a, u))).length = ps.length * K.k := by rw [K.cells_len, List.length_set]
   have hRl : R.length = c * K.k - ps.length * K.k := by rw [← hR, List.length_drop, Array.length_toList, hcs]
   have hlc : ps.length * K.k ≤ c * K.k := Nat.mul_le_mul_right _ hnc
   refine ⟨_, ps.length, c, rfl, hls.symm, .inr ⟨g, _, rfl, hB, h2, hnc, hcm, ?_, ?_⟩⟩
   · show (K.cells (ps.set i (a, u)) ++ R).length = c * K.k
     rw [List.length_append, hls, hRl]
     omega
   · show (K.cells (ps.set i (a, u)) ++ R).take _ = _
     rw [← hls]
     exact List.take_left
 · rcases List.mem_or_eq_of_mem_set hp with hp | rfl
   · exact (h.2 p hp).grown hgb (.inr ((h.2 p hp).row_blk hg K.ne))
   · exact hu.grown hgb (.inr (hu.row_blk hg K.ne))
theorem RdX.at_ (h : RdX K w v l) : ∃ A n c, v = .slice A n c ∧ n = l.length ∧ n ≤ c ∧ c ≤ maxLen ∧ ∀ (i : Nat) (a : α), l[i]? = some a → ∃ b o, A = some ⟨b, o, none⟩ ∧ b < w.heap.size ∧ ∃ u, (∀ (j : Nat) (x : Value), (K.row a u)[j]? = some x → w.cell? ⟨b, o + (i * K.k + j), none⟩ = some x) ∧ RdK w K.ek u (K.inn a) := by
 obtain ⟨ps, rfl, ⟨A, n, c, rfl, hn, hnc, hcm, hc⟩, hi⟩ := h
 rw [K.cells_len] at hn
 obtain rfl : n = ps.length := Nat.eq_of_mul_eq_mul_right K.pos hn
 refine ⟨A, _, c, rfl, by rw [List.length_map], hnc, hcm, fun i a ha => ?_⟩
 rw [List.getElem?_map] at ha
 obtain ⟨p, hp, rfl⟩ := Option.map_eq_some_iff.1 ha
 have hil := (List.getElem?_eq_some_iff.1 hp).1
 obtain ⟨b, o, rfl, hcell⟩ := hc (by omega)
 have key : ∀ (j : Nat) (x : Value), (K.row p.1 p.2)[j]? = some x → w.cell? ⟨b, o + (i * K.k + j), none⟩ = some x := fun j x hx => by
  refine hcell _ _ ?_
  have hj : j < K.k := by rw [← K.len p.1 p.2]; exact (List.getElem?_eq_some_iff.1 hx).1
  have := flat_get (fun p : α × Value => K.row p.1 p.2) K.k (fun p => K.len p.1 p.2) ps i hil j hj
  rw [List.getElem?_eq_getElem hil] at hp
  rw [Option.some.inj hp] at this
  exact this.trans hx
 have hb : b < w.heap.size := by
  have h0 : 0 < (K.row p.1 p.2).length := by rw [K.len]; exact K.pos
  exact World.block_lt_of_cell? w _ (key 0 _ (List.getElem?_eq_getElem h0))
 exact ⟨b, o, rfl, hb, p.2, key, hi p (List.mem_of_getElem? hp)⟩
end
def rvCells (r : RV) (v : Value) : List Value := [.string (bstr r.st), .int .i64 r.num, .int .i64 r.day, .int .i64 r.nxt, v, .int .i64 r.iss, .int .i64 r.e, .int .i64 r.s]
structure MA where
 st : List UInt8
 num : Int
 day : Int
 roots : List NC
 sg : NC
 e : Int
 s : Int
structure DF where
 kind : Int
 param : Int
 signer : Int
 fi : List UInt8
 la : List UInt8
structure DV where
 st : List UInt8
 num : Int
 day : Int
 defs : List DF
 sg : NC
 e : Int
 s : Int
def dfCells (d : DF) : List Value := [.int .i64 d.kind, .int .i64 d.param, .int .i64 d.signer, .string (bstr d.fi), .string (bstr d.la)]
def dfsCells (l : List DF) : List Value := l.flatMap dfCells
theorem dfCells_len (d : DF) : (dfCells d).length = 5 := rfl
theorem dfsCells_len (l : List DF) : (dfsCells l).length = l.length * 5 := flat_len _ 5 dfCells_len l
theorem dfsCells_one (l : List DF) : ∀ u ∈ dfsCells l, u.oneCell' = true := by
 intro u hu
 obtain ⟨c, _, hu⟩ := List.mem_flatMap.1 hu
 simp only [dfCells, List.mem_cons, List.not_mem_nil, or_false] at hu
 rcases hu with rfl | rfl | rfl | rfl | rfl <;> rfl
def maCells (m : MA) (v : Value) : List Value := [.string (bstr m.st), .int .i64 m.num, .int .i64 m.day, v, .string (bstr m.sg.st), .int .i64 m.sg.kind, .int .i64 m.sg.num, .int .i64 m.sg.iss, .int .i64 m.sg.own, .int .i64 m.sg.key, .int .i64 m.sg.fr, .int .i64 m.sg.un, .int .i64 m.sg.to, .int .i64 m.sg.e, .int .i64 m.sg.s, .int .i64 m.e, .int .i64 m.s]
def dvCells (m : DV) (v : Value) : List Value := [.string (bstr m.st), .int .i64 m.num, .int .i64 m.day, v, .string (bstr m.sg.st), .int .i64 m.sg.kind, .int .i64 m.sg.num, .int .i64 m.sg.iss, .int .i64 m.sg.own, .int .i64 m.sg.key, .int .i64 m.sg.fr, .int .i64 m.sg.un, .int .i64 m.sg.to, .int .i64 m.sg.e, .int .i64 m.sg.s, .int .i64 m.e, .int .i64 m.s]
def kR : LK RV := ⟨103, 8, rvCells, 3, 1, fun r => intsV r.ser, fun _ _ => rfl, by decide, by decide, fun a u h x hx => by
 simp only [rvCells, List.mem_cons, List.not_mem_nil, or_false] at hx
 rcases hx with rfl | rfl | rfl | rfl | rfl | rfl | rfl | rfl <;> first | exact h | rfl⟩
def kM : LK MA := ⟨80, 17, maCells, 56, 11, fun m => ncsCells m.roots, fun _ _ => rfl, by decide, by decide, fun a u h x hx => by
 simp only [maCells, List.mem_cons, List.not_mem_nil, or_false] at hx
 rcases hx with rfl | rfl | rfl | rfl | rfl | rfl | rfl | rfl | rfl | rfl | rfl | rfl | rfl | rfl | rfl | rfl | rfl <;> first | exact h | rfl⟩
def kD : LK DV := ⟨121, 17, dvCells, 177, 5, fun m => dfsCells m.defs, fun _ _ => rfl, by decide, by decide, fun a u h x hx => by
 simp only [dvCells, List.mem_cons, List.not_mem_nil, or_false] at hx
 rcases hx with rfl | rfl | rfl | rfl | rfl | rfl | rfl | rfl | rfl | rfl | rfl | rfl | rfl | rfl | rfl | rfl | rfl <;> first | exact h | rfl⟩
structure ST where
 roots : List NC
 pool : List NC
 ms : List MA
 rs : List RV
 ds : List DV
structure StR (w : World) (s0 s1 s2 s3 s4 : SlT) (S : ST) : Prop where
 r0 : RdN w (slV s0) S.roots
 r1 : RdN w (slV s1) S.pool
 r2 : RdX kM w (slV s2) S.ms
 r3 : RdX kR w (slV s3) S.rs
 r4 : RdX kD w (slV s4) S.ds
theorem StR.ext {w w' : World} {s0 s1 s2 s3 s4 : SlT} {S : ST} (h : StR w s0 s1 s2 s3 s4 S) (e : Ext w w') : StR w' s0 s1 s2 s3 s4 S := ⟨RdK.ext h.r0 e, RdK.ext h.r1 e, h.r2.ext e, h.r3.ext e, h.r4.ext e⟩
structure StO (w : World) (B : Nat) (s0 s1 s2 s3 s4 : SlT) (S : ST) : Prop where
 o0 : OwnK w B 56 11 (slV s0) (ncsCells S.roots)
 o1 : OwnK w B 56 11 (slV s1) (ncsCells S.pool)
 o2 : OwnX kM w B (slV s2) S.ms
 o3 : OwnX kR w B (slV s3) S.rs
 o4 : OwnX kD w B (slV s4) S.ds
theorem StO.ext {w w' : World} {B : Nat} {s0 s1 s2 s3 s4 : SlT} {S : ST} (h : StO w B s0 s1 s2 s3 s4 S) (e : Ext w w') : StO w' B s0 s1 s2 s3 s4 S := ⟨h.o0.ext e, h.o1.ext e, h.o2.ext e, h.o3.ext e, h.o4.ext e⟩
theorem StO.mono {w : World} {B B' : Nat} {s0 s1 s2 s3 s4 : SlT} {S : ST} (h : StO w B s0 s1 s2 s3 s4 S) (hB : B' ≤ B) : StO w B' s0 s1 s2 s3 s4 S := ⟨h.o0.mono hB, h.o1.mono hB, h.o2.mono hB, h.o3.mono hB, h.o4.mono hB⟩
theorem StO.rd {w : World} {B : Nat} {s0 s1 s2 s3 s4 : SlT} {S : ST} (h : StO w B s0 s1 s2 s3 s4 S) : StR w s0 s1 s2 s3 s4 S := ⟨h.o0.rd, h.o1.rd, h.o2.rd, h.o3.rd, h.o4.rd⟩
theorem StO.gbB {w w' : World} {B g : Nat} {s0 s1 s2 s3 s4 : SlT} {S : ST} (h : StO w B s0 s1 s2 s3 s4 S) (hg : g < B) (e : w.grownBy w' (some g)) : StO w' B s0 s1 s2 s3 s4 S :=
 ⟨h.o0.grown e (.inr fun q => by have := rowOf_geK h.o0 _ q; omega), h.o1.grown e (.inr fun q => by have := rowOf_geK h.o1 _ q; omega), h.o2.gbB hg e, h.o3.gbB hg e, h.o4.gbB hg e⟩
def stRow (s0 s1 s2 s3 s4 : SlT) : Array Value := #[.slice s0.1 s0.2.1 s0.2.2, .slice s1.1 s1.2.1 s1.2.2, .slice s2.1 s2.2.1 s2.2.2, .slice s3.1 s3.2.1 s3.2.2, .slice s4.1 s4.2.1 s4.2.2]
theorem stRow_one (s0 s1 s2 s3 s4 : SlT) : (stRow s0 s1 s2 s3 s4).all (·.oneCell') = true := by simp [stRow, Value.oneCell']
theorem info_st : (Tryz.prog.info? 75).map (·.size) = some 5 := by kernel_rfl
theorem info_ma : (Tryz.prog.info? 80).map (·.size) = some 17 := by kernel_rfl
theorem info_dv : (Tryz.prog.info? 121).map (·.size) = some 17 := by kernel_rfl
def addStep (out : List NC) (c : NC) : List NC := if c ∈ out then out else out ++ [c]
def addT (out l : List NC) : List NC := l.foldl addStep out
def rootsT (S : ST) : List NC := S.ms.foldl (fun out m => addT out m.roots) (addT [] S.roots)
theorem addT_snoc (out : List NC) {l : List NC} {y : NC} {k : Nat} (h : l[k]? = some y) : addT out (l.take (k + 1)) = addStep (addT out (l.take k)) y := by
 unfold addT
 rw [take_snocN h, List.foldl_append]
 rfl
theorem addT_mem {out l : List NC} {c : NC} (h : c ∈ addT out l) : c ∈ out ∨ c ∈ l := by
 unfold addT at h
 induction l generalizing out with
 | nil => exact .inl h
 | cons x l ih =>
   rcases ih h with h | h
   · unfold addStep at h
     split at h
     · exact .inl h
     · rcases List.mem_append.1 h with h | h
       · exact .inl h
       · rw [List.mem_singleton.1 h]; exact .inr List.mem_cons_self
   · exact .inr (List.mem_cons_of_mem _ h)
theorem addT_len (out l : List NC) : (addT out l).length ≤ out.length + l.length := by
 unfold addT
 induction l generalizing out with
 | nil => exact Nat.le_refl _
 | cons x l ih =>
   have h := ih (addStep out x)
   have h2 : (addStep out x).length ≤ out.length + 1 := by
    unfold addStep
    split
    · omega
    · rw [List.length_append]; exact Nat.le_refl _
   rw [List.foldl_cons, List.length_cons]
   omega
theorem addT_sm {out l : List NC} (h : smL out) (k : smL l) : smL (addT out l) := fun c hc => (addT_mem hc).elim (h c) (k c)
structure StB (S : ST) : Prop where
 r : smL S.roots
 p : smL S.pool
 m : ∀ x ∈ S.ms, smL x.roots ∧ x.roots.length ≤ 10000
 s : ∀ x ∈ S.rs, x.ser.length ≤ 10000
 d : ∀ x ∈ S.ds, x.defs.length ≤ 10000
 lr : S.roots.length ≤ 10000
 lp : S.pool.length ≤ 10000
 lm : S.ms.length ≤ 20
 ls : S.rs.length ≤ 10000
 ld : S.ds.length ≤ 10000
theorem foldAdd_sm : ∀ (ms : List MA) (out : List NC), smL out → (∀ x ∈ ms, smL x.roots) → smL (ms.foldl (fun out m => addT out m.roots) out)
 | [], out, h, _ => h
 | m :: ms, out, h, k => foldAdd_sm ms _ (addT_sm h (k m List.mem_cons_self)) fun x hx => k x (List.mem_cons_of_mem _ hx)
theorem foldAdd_len : ∀ (ms : List MA) (out : List NC), (∀ x ∈ ms, x.roots.length ≤ 10000) → (ms.foldl (fun out m => addT out m.roots) out).length ≤ out.length + ms.length * 10000
 | [], out, _ => by simp
 | m :: ms, out, k => by
   have h := foldAdd_len ms (addT out m.roots) fun x hx => k x (List.mem_cons_of_mem _ hx)
   have h2 := addT_len out m.roots
   have h3 := k m List.mem_cons_self
   rw [List.foldl_cons, List.length_cons]
   omega
theorem StB.roots {S : ST} (h : StB S) : smL (rootsT S) := foldAdd_sm _ _ (addT_sm (fun c hc => (by cases hc)) h.r) fun x hx => (h.m x hx).1
theorem StB.rlen {S : ST} (h : StB S) : (rootsT S).length ≤ 210000 := by
 have h1 := foldAdd_len S.ms (addT [] S.roots) fun x hx => (h.m x hx).2
 have h2 := addT_len [] S.roots
 have h3 := h.lr
 have h4 := h.lm
 unfold rootsT
 have h5 : S.ms.length * 10000 ≤ 20 * 10000 := Nat.mul_le_mul_right _ h4
 rw [List.length_nil] at h2
 omega
def rtsE (l : List NC) : Int := if l.length < 1 ∨ 16 < l.length then 72 else match l.find? (fun c => decide (ckN c ≠ 0)) with
 | some c => ckN c
 | none => if (l.all rtN) = true then 0 else 61
def sgE (c : NC) (st : List UInt8) : Int := if ckN c ≠ 0 then ckN c else if c.kind ≠ 4 then 61 else if c.st ≠ st then 68 else 0
def ckM (m : MA) : Int := if ¬ stateP m.st then 60 else if ¬ serP m.num then 3 else if ¬ (0 ≤ m.day ∧ m.day ≤ 73048) then 8 else if rtsE m.roots ≠ 0 then rtsE m.roots else sgE m.sg m.st
theorem rtsE_ok {l : List NC} (h : rtsE l = 0) : (1 ≤ l.length ∧ l.length ≤ 16) ∧ ∀ c ∈ l, ckN c = 0 ∧ rtN c = true := by
 unfold rtsE at h
 split at h
 · cases h
 rename_i h1
 split at h
 · rename_i c hc
   have := List.find?_some hc
   exact absurd h (of_decide_eq_true this)
 rename_i h2
 split at h
 · rename_i h3
   refine ⟨by omega, fun c hc => ⟨?_, List.all_eq_true.1 h3 c hc⟩⟩
   have := List.find?_eq_none.1 h2 c hc
   simpa using this
 · cases h
theorem ckM_ok {m : MA} (h : ckM m = 0) : stateP m.st ∧ serP m.num ∧ (0 ≤ m.day ∧ m.day ≤ 73048) ∧ rtsE m.roots = 0 ∧ sgE m.sg m.st = 0 := by
 unfold ckM at h
 split at h
 · cases h
 rename_i h1
 split at h
 · cases h
 rename_i h2
 split at h
 · cases h
 rename_i h3
 split at h
 · rename_i h4; exact absurd h h4
 rename_i h4
 exact ⟨Decidable.not_not.1 h1, Decidable.not_not.1 h2, Decidable.not_not.1 h3, Decidable.not_not.1 h4, h⟩
def bodyMN (m : MA) : Nd := .mk 49 [] (leafN 19 m.st :: leafN 130 (be4 m.num) :: leafN 134 (be3 m.day) :: m.roots.map certN)
def bodyMB (m : MA) : List UInt8 := encNs 4 [bodyMN m]
def byM (m : MA) : List UInt8 := if ckM m = 0 then bodyMB m else []
theorem ok_bodyMN (m : MA) : okNs 4 [bodyMN m] := by
 refine okNs_cons (okCons (by decide) (by decide) (by decide) (by decide) ?_) (okNs_nil _)
 refine okNs_cons (okLeaf (by decide) (by decide) (by decide) (by decide)) ?_
 refine okNs_cons (okLeaf (by decide) (by decide) (by decide) (by decide)) ?_
 refine okNs_cons (okLeaf (by decide) (by decide) (by decide) (by decide)) ?_
 intro t ht
 obtain ⟨c, _, rfl⟩ := List.mem_map.1 ht
 exact ok_certN c _ (List.mem_singleton.2 rfl)
theorem cnt_certs : ∀ l : List NC, cntNs 3 (l.map certN) = l.length * 10
 | [] => rfl
 | c :: l => by
   have h := cnt_certs l
   have h1 : cntNs 3 [certN c] = 10 := rfl
   have e : cntNs 3 ((c :: l).map certN) = cntNs 3 [certN c] + cntNs 3 (l.map certN) := by
    show ((certN c :: l.map certN).map _).sum = ([certN c].map _).sum + ((l.map certN).map _).sum
    simp
   rw [e, h1, h, List.length_cons]
   omega
theorem cnt_bodyMN {m : MA} (h : m.roots.length ≤ 16) : cntNs 4 [bodyMN m] ≤ 256 := by
 have e : cntNs 4 [bodyMN m] = 1 + (3 + cntNs 3 (m.roots.map certN)) := by
  show ([bodyMN m].map _).sum = 1 + (3 + ((m.roots.map certN).map _).sum)
  simp [bodyMN, leafN, Nd.kids, cntNs]
  omega
 rw [e, cnt_certs]
 omega
theorem val_certs : ∀ l : List NC, (∀ c ∈ l, c.st.length ≤ 3) → valNs 3 (l.map certN) ≤ l.length * 37
 | [], _ => Nat.le_refl _
 | c :: l, k => by
   have h := val_certs l fun x hx => k x (List.mem_cons_of_mem _ hx)
   have h0 := k c List.mem_cons_self
   have h1 : valNs 3 [certN c] = c.st.length + 34 := by
    simp only [valNs, certN, bodyN, leafN, daysB, Nd.val, Nd.kids, List.map_cons, List.map_nil, List.sum_cons, List.sum_nil, List.length_append, List.length_nil, List.length_cons, be4, be3]
    omega
   have e : valNs 3 ((c :: l).map certN) = valNs 3 [certN c] + valNs 3 (l.map certN) := by
    show ((certN c :: l.map certN).map _).sum = ([certN c].map _).sum + ((l.map certN).map _).sum
    simp
   rw [e, h1, List.length_cons]
   omega
theorem bodyMB_4096 {m : MA} (h : ckM m = 0) : (encNs 4 [bodyMN m]).length ≤ 4096 := by
 obtain ⟨h1, _, _, h4, _⟩ := ckM_ok h
 obtain ⟨⟨_, h5⟩, h6⟩ := rtsE_ok h4
 have h1 := h1.1.2
 have k := encNs_len 4 [bodyMN m]
 have c1 := cnt_bodyMN (m := m) h5
 have v1 := val_certs m.roots fun c hc => (ckN_ok (h6 c hc).1).1.1.2
 have e : valNs 4 [bodyMN m] = m.st.length + 7 + valNs 3 (m.roots.map certN) := by
  show ([bodyMN m].map _).sum = m.st.length + 7 + ((m.roots.map certN).map _).sum
  simp [bodyMN, leafN, Nd.kids, Nd.val, valNs, be4, be3]
  omega
 omega
def maV (m : MA) (v : Value) : Value := .agg (maCells m v).toArray
def MaAt (w : World) (g : Nat) (m : MA) (v : Value) : Prop := w.heap[g]? = some (.cells (maCells m v).toArray 80 (0, 0))
section
variable {w w' : World} {g : Nat} {m : MA} {v : Value}
theorem MaAt.lt (h : MaAt w g m v) : g < w.heap.size := block_lt h
theorem MaAt.ext (h : MaAt w g m v) (e : Ext w w') : MaAt w' g m v := (e.block g h.lt).trans h
theorem MaAt.row (h : MaAt w g m v) : w.heap[g]? = some (.cells (maCells m v).toArray 80 (0, 0)) := h
theorem MaAt.c0 (h : MaAt w g m v) : w.cell? ⟨g, 0, none⟩ = some (.string (bstr m.st)) := by rw [cell_of_row w g 0 _ _ _ h]; rfl
theorem MaAt.c1 (h : MaAt w g m v) : w.cell? ⟨g, 1, none⟩ = some (.int .i64 m.num) := by rw [cell_of_row w g 1 _ _ _ h]; rfl
theorem MaAt.c2 (h : MaAt w g m v) : w.cell? ⟨g, 2, none⟩ = some (.int .i64 m.day) := by rw [cell_of_row w g 2 _ _ _ h]; rfl
theorem MaAt.c3 (h : MaAt w g m v) : w.cell? ⟨g, 3, none⟩ = some (v) := by rw [cell_of_row w g 3 _ _ _ h]; rfl
theorem MaAt.c4 (h : MaAt w g m v) : w.cell? ⟨g, 4, none⟩ = some (.string (bstr m.sg.st)) := by rw [cell_of_row w g 4 _ _ _ h]; rfl
theorem MaAt.c5 (h : MaAt w g m v) : w.cell? ⟨g, 5, none⟩ = some (.int .i64 m.sg.kind) := by rw [cell_of_row w g 5 _ _ _ h]; rfl
theorem MaAt.c6 (h : MaAt w g m v) : w.cell? ⟨g, 6, none⟩ = some (.int .i64 m.sg.num) := by rw [cell_of_row w g 6 _ _ _ h]; rfl
theorem MaAt.c7 (h : MaAt w g m v) : w.cell? ⟨g, 7, none⟩ = some (.int .i64 m.sg.iss) := by rw [cell_of_row w g 7 _ _ _ h]; rfl
theorem MaAt.c8 (h : MaAt w g m v) : w.cell? ⟨g, 8, none⟩ = some (.int .i64 m.sg.own) := by rw [cell_of_row w g 8 _ _ _ h]; rfl
theorem MaAt.c9 (h : MaAt w g m v) : w.cell? ⟨g, 9, none⟩ = some (.int .i64 m.sg.key) := by rw [cell_of_row w g 9 _ _ _ h]; rfl
theorem MaAt.c10 (h : MaAt w g m v) : w.cell? ⟨g, 10, none⟩ = some (.int .i64 m.sg.fr) := by rw [cell_of_row w g 10 _ _ _ h]; rfl
theorem MaAt.c11 (h : MaAt w g m v) : w.cell? ⟨g, 11, none⟩ = some (.int .i64 m.sg.un) := by rw [cell_of_row w g 11 _ _ _ h]; rfl
theorem MaAt.c12 (h : MaAt w g m v) : w.cell? ⟨g, 12, none⟩ = some (.int .i64 m.sg.to) := by rw [cell_of_row w g 12 _ _ _ h]; rfl
theorem MaAt.c13 (h : MaAt w g m v) : w.cell? ⟨g, 13, none⟩ = some (.int .i64 m.sg.e) := by rw [cell_of_row w g 13 _ _ _ h]; rfl
theorem MaAt.c14 (h : MaAt w g m v) : w.cell? ⟨g, 14, none⟩ = some (.int .i64 m.sg.s) := by rw [cell_of_row w g 14 _ _ _ h]; rfl
theorem MaAt.c15 (h : MaAt w g m v) : w.cell? ⟨g, 15, none⟩ = some (.int .i64 m.e) := by rw [cell_of_row w g 15 _ _ _ h]; rfl
theorem MaAt.c16 (h : MaAt w g m v) : w.cell? ⟨g, 16, none⟩ = some (.int .i64 m.s) := by rw [cell_of_row w g 16 _ _ _ h]; rfl
theorem ma_alloc (w : World) (m : MA) (v : Value) : ∃ wz, wz = w.alloc (.cells #[.string (bstr m.st), .int .i64 m.num, .int .i64 m.day, v, .string (bstr m.sg.st), .int .i64 m.sg.kind, .int .i64 m.sg.num, .int .i64 m.sg.iss, .int .i64 m.sg.own, .int .i64 m.sg.key, .int .i64 m.sg.fr, .int .i64 m.sg.un, .int .i64 m.sg.to, .int .i64 m.sg.e, .int .i64 m.sg.s, .int .i64 m.e, .int .i64 m.s] 80) ∧ Ext w wz ∧ MaAt wz w.heap.size m v :=
 ⟨_, rfl, (Below.refl _ _).alloc (Nat.le_refl _) _, heap_alloc_new' w _⟩
end
theorem rts_len {l : List NC} (h : l.length < 1 ∨ 16 < l.length) : rtsE l = 72 := if_pos h
theorem find_bad {l : List NC} {c : NC} {k : Nat} (hk : l[k]? = some c) (hc : ckN c ≠ 0) (hn : ∀ (j : Nat) (x : NC), j < k → l[j]? = some x → ckN x = 0) : l.find? (fun c => decide (ckN c ≠ 0)) = some c := by
 induction l generalizing k with
 | nil => simp at hk
 | cons y l ih =>
   cases k with
   | zero =>
     have : y = c := by simpa using hk
     subst this
     rw [List.find?_cons_of_pos (by simpa using hc)]
   | succ k =>
     have h0 := hn 0 y (Nat.zero_lt_succ _) rfl
     rw [List.find?_cons_of_neg (by simpa using h0)]
     exact ih (by simpa using hk) (fun j x hj hx => hn (j + 1) x (Nat.succ_lt_succ hj) (by simpa using hx))
theorem rts_bad {l : List NC} {c : NC} {k : Nat} (h : ¬ (l.length < 1 ∨ 16 < l.length)) (hk : l[k]? = some c) (hc : ckN c ≠ 0) (hn : ∀ (j : Nat) (x : NC), j < k → l[j]? = some x → ckN x = 0) : rtsE l = ckN c := by
 unfold rtsE
 rw [if_neg h, find_bad hk hc hn]
theorem find_none {l : List NC} (hn : ∀ (j : Nat) (x : NC), j < l.length → l[j]? = some x → ckN x = 0) : l.find? (fun c => decide (ckN c ≠ 0)) = none := by
 rw [List.find?_eq_none]
 intro x hx
 obtain ⟨j, hj⟩ := List.getElem?_of_mem hx
 have := hn j x (List.getElem?_eq_some_iff.1 hj).1 hj
 simp [this]
theorem rts_role {l : List NC} {c : NC} {k : Nat} (h : ¬ (l.length < 1 ∨ 16 < l.length)) (hn : ∀ (j : Nat) (x : NC), j < l.length → l[j]? = some x → ckN x = 0) (hk : l[k]? = some c) (hc : rtN c = false) : rtsE l = 61 := by
 unfold rtsE
 rw [if_neg h, find_none hn]
 refine if_neg fun q => ?_
 rw [List.all_eq_true.1 q c (List.mem_of_getElem? hk)] at hc
 cases hc
theorem rts_fine {l : List NC} (h : ¬ (l.length < 1 ∨ 16 < l.length)) (hn : ∀ (j : Nat) (x : NC), j < l.length → l[j]? = some x → ckN x = 0) (hr : ∀ (j : Nat) (x : NC), j < l.length → l[j]? = some x → rtN x = true) : rtsE l = 0 := by
 unfold rtsE
 rw [if_neg h, find_none hn]
 refine if_pos (List.all_eq_true.2 fun x hx => ?_)
 obtain ⟨j, hj⟩ := List.getElem?_of_mem hx
 exact hr j x (List.getElem?_eq_some_iff.1 hj).1 hj
theorem upto_step {l : List NC} {c : NC} {k : Nat} {P : NC → Prop} (hk : l[k]? = some c) (hc : P c) (hn : ∀ (j : Nat) (x : NC), j < k → l[j]? = some x → P x) : ∀ (j : Nat) (x : NC), j < k + 1 → l[j]? = some x → P x := fun j x hj hx => by
 by_cases h : j = k
 · subst h
   rw [hk] at hx
   rw [← Option.some.inj hx]; exact hc
 · exact hn j x (by omega) hx
set_option maxHeartbeats 2000000 in
theorem msigner_any (c : NC) (st : List UInt8) (w : World) (hs : smN c) : Calls Tryz.prog 139 #[ncV c, .string (bstr st)] w (RetQ w (.int .i64 (sgE c st))) := by
 obtain ⟨wz, hwz, ez, TZ⟩ := nc_alloc w c
 have HC := Lib.hid (fun W => nationalcert_check c W hs)
 have HQ := Lib.hid (bstr_eqJ c.st st)
 obtain ⟨K, hK⟩ : ∃ K, sgE c st = K := ⟨_, rfl⟩
 rw [hK]
 have HK := Lib.hid hK
 clear hK hs
 unfold ncV
 go_enter Tryz.func139, Tryz.ntmps139
 go_wp2_with fail
 rw [← hwz]
 clear hwz
 refine (HC.out _).mono ?_
 rintro e w1 ⟨rfl, b1⟩
 have T1 := TZ.ext b1
 have X1 := Lib.hid (ez.tr b1)
 clear TZ ez b1
 by_cases h1 : ckN c = 0
 case neg =>
  have HR := Lib.hid (show K = ckN c by rw [← HK.out]; exact if_pos h1)
  have hb : (ckN c != 0) = true := by simpa using h1
  clear h1
  go_wp2_with fail
  go_ret
  exact ⟨by first | (rw [HR.out]; rfl) | rw [HR.out], X1.out⟩
 rw [h1]
 obtain ⟨t0, t1, t2, t3, t4, t5, t6, t7, t8, t9, t10⟩ := T1.cells
 have hl := T1.lt
 have H1 := Lib.hid h1
 clear h1
 by_cases h2 : c.kind = 4
 case neg =>
  have HR := Lib.hid (show K = 61 by rw [← HK.out]; unfold sgE; rw [if_neg (not_not_intro H1.out), if_pos h2])
  have hb : (c.kind != 4) = true := by simpa using h2
  clear h2
  go_wp2_with fail
  go_ret
  exact ⟨by first | (rw [HR.out]; rfl) | rw [HR.out], X1.out⟩
 have hb : (c.kind != 4) = false := by simpa using h2
 have H2 := Lib.hid h2
 clear h2
 by_cases h3 : c.st = st
 case neg =>
  have HR := Lib.hid (show K = 68 by rw [← HK.out]; unfold sgE; rw [if_neg (not_not_intro H1.out), if_neg (not_not_intro H2.out), if_pos h3])
  have hq : ((bstr c.st).toList == (bstr st).toList) = false := by rw [HQ.out]; exact decide_eq_false h3
  have hq2 : ((bstr c.st).toList != (bstr st).toList) = true := by unfold bne; rw [hq]; rfl
  clear h3
  go_wp2_with fail
  go_ret
  exact ⟨by first | (rw [HR.out]; rfl) | rw [HR.out], X1.out⟩
 have HR := Lib.hid (show K = 0 by rw [← HK.out]; unfold sgE; rw [if_neg (not_not_intro H1.out), if_neg (not_not_intro H2.out), if_neg (not_not_intro h3)])
 have hq : ((bstr c.st).toList == (bstr st).toList) = true := by rw [HQ.out]; exact decide_eq_true h3
 have hq2 : ((bstr c.st).toList != (bstr st).toList) = false := by unfold bne; rw [hq]; rfl
 clear h3
 go_wp2_with fail
 go_ret
 exact ⟨by first | (rw [HR.out]; rfl) | rw [HR.out], X1.out⟩
set_option maxHeartbeats 2000000 in
theorem reflister_any (c : NC) (st : List UInt8) (w : World) (hs : smN c) : Calls Tryz.prog 143 #[ncV c, .string (bstr st)] w (RetQ w (.int .i64 (sgE c st))) := by
 obtain ⟨wz, hwz, ez, TZ⟩ := nc_alloc w c
 have HC := Lib.hid (fun W => traveldocref29_check c W hs)
 have HQ := Lib.hid (bstr_eqJ c.st st)
 obtain ⟨K, hK⟩ : ∃ K, sgE c st = K := ⟨_, rfl⟩
 rw [hK]
 have HK := Lib.hid hK
 clear hK hs
 unfold ncV
 go_enter Tryz.func143, Tryz.ntmps143
 go_wp2_with fail
 rw [← hwz]
 clear hwz
 refine (HC.out _).mono ?_
 rintro e w1 ⟨rfl, b1⟩
 have T1 := TZ.ext b1
 have X1 := Lib.hid (ez.tr b1)
 clear TZ ez b1
 by_cases h1 : ckN c = 0
 case neg =>
  have HR := Lib.hid (show K = ckN c by rw [← HK.out]; exact if_pos h1)
  have hb : (ckN c != 0) = true := by simpa using h1
  clear h1
  go_wp2_with fail
  go_ret
  exact ⟨by first | (rw [HR.out]; rfl) | rw [HR.out], X1.out⟩
 rw [h1]
 obtain ⟨t0, t1, t2, t3, t4, t5, t6, t7, t8, t9, t10⟩ := T1.cells
 have hl := T1.lt
 have H1 := Lib.hid h1
 clear h1
 by_cases h2 : c.kind = 4
 case neg =>
  have HR := Lib.hid (show K = 61 by rw [← HK.out]; unfold sgE; rw [if_neg (not_not_intro H1.out), if_pos h2])
  have hb : (c.kind != 4) = true := by simpa using h2
  clear h2
  go_wp2_with fail
  go_ret
  exact ⟨by first | (rw [HR.out]; rfl) | rw [HR.out], X1.out⟩
 have hb : (c.kind != 4) = false := by simpa using h2
 have H2 := Lib.hid h2
 clear h2
 by_cases h3 : c.st = st
 case neg =>
  have HR := Lib.hid (show K = 68 by rw [← HK.out]; unfold sgE; rw [if_neg (not_not_intro H1.out), if_neg (not_not_intro H2.out), if_pos h3])
  have hq : ((bstr c.st).toList == (bstr st).toList) = false := by rw [HQ.out]; exact decide_eq_false h3
  have hq2 : ((bstr c.st).toList != (bstr st).toList) = true := by unfold bne; rw [hq]; rfl
  clear h3
  go_wp2_with fail
  go_ret
  exact ⟨by first | (rw [HR.out]; rfl) | rw [HR.out], X1.out⟩
 have HR := Lib.hid (show K = 0 by rw [← HK.out]; unfold sgE; rw [if_neg (not_not_intro H1.out), if_neg (not_not_intro H2.out), if_neg (not_not_intro h3)])
 have hq : ((bstr c.st).toList == (bstr st).toList) = true := by rw [HQ.out]; exact decide_eq_true h3
 have hq2 : ((bstr c.st).toList != (bstr st).toList) = false := by unfold bne; rw [hq]; rfl
 clear h3
 go_wp2_with fail
 go_ret
 exact ⟨by first | (rw [HR.out]; rfl) | rw [HR.out], X1.out⟩
theorem refday31_any (x : Int) (w : World) : Calls Tryz.prog 142 #[.int .i64 x] w (RetQ w (.bool (decide (0 ≤ x ∧ x ≤ 73048)))) := by
 go_enter Tryz.func142, Tryz.ntmps142
 obtain ⟨D, hD⟩ : ∃ D, decide (0 ≤ x ∧ x ≤ 73048) = D := ⟨_, rfl⟩
 rw [hD]
 have HDD := Lib.hid hD
 clear hD
 by_cases h0 : 0 ≤ x
 · have HD := Lib.hid (show D = decide (x ≤ 73048) by rw [← HDD.out]; simp [h0])
   go_wp2_with fail
   go_ret
   exact ⟨by rw [HD.out]; rfl, Below.refl _ _⟩
 · have HD := Lib.hid (show D = false by rw [← HDD.out]; exact decide_eq_false fun q => h0 q.1)
   have h2 : x < 0 := by omega
   clear h0
   go_wp2_with fail
   go_ret
   exact ⟨by rw [HD.out]; rfl, Below.refl _ _⟩
set_option maxHeartbeats 4000000 in
theorem mroots_any {v : Value} {l : List NC} (w : World) (hv : RdN w v l) (hs : smL l) (E : KTab w 1) : Calls Tryz.prog 138 #[v] w (RetQ w (.int .i64 (rtsE l))) := by
 obtain ⟨A, n, cp, rfl, hn, hnc, hcm, hel⟩ := hv.at_
 subst hn
 have HEL := Lib.hid hel
 unfold maxLen at hcm
 have HCK := Lib.hid (fun (c : NC) W (h : c ∈ l) => nationalcert_check c W (hs c h))
 have HRT := Lib.hid (fun (c : NC) W (h : c ∈ l) (e : Ext w W) => nationalcert_root c W (hs c h) (E.below e))
 obtain ⟨K, hK⟩ : ∃ K, rtsE l = K := ⟨_, rfl⟩
 rw [hK]
 have HK := Lib.hid hK
 clear hK hs hel hv E
 go_enter Tryz.func138, Tryz.ntmps138
 by_cases h1 : l.length < 1
 case pos =>
  have HR := Lib.hid (show K = 72 by rw [← HK.out]; exact rts_len (.inl h1))
  have hb : ((l.length : Int) < 1) := by omega
  clear h1
  go_wp2_with fail
  go_ret
  exact ⟨by rw [HR.out]; rfl, Below.refl _ _⟩
 have hb1 : ¬ ((l.length : Int) < 1) := by omega
 by_cases h2 : 16 < l.length
 case pos =>
  have HR := Lib.hid (show K = 72 by rw [← HK.out]; exact rts_len (.inr h2))
  have hb : ((16 : Int) < (l.length : Int)) := by omega
  clear h2
  go_wp2_with fail
  go_ret
  exact ⟨by rw [HR.out]; rfl, Below.refl _ _⟩
 have hb2 : ¬ ((16 : Int) < (l.length : Int)) := by omega
 have HL := Lib.hid (show ¬ (l.length < 1 ∨ 16 < l.length) by omega)
 clear h1 h2
 go_wp2_with fail
 clear hb1 hb2
 go_loopw [18] (fun s18 wr => ∃ k : Nat, k ≤ l.length ∧ s18 = .int .i64 (k : Int) ∧ Hid (Ext w wr) ∧ Hid (∀ (j : Nat) (x : NC), j < k → l[j]? = some x → ckN x = 0)) (fun s18 _ => l.length - (intOf s18).toNat)
 case atStart => exact ⟨0, Nat.zero_le _, rfl, Lib.hid (Below.refl _ _), Lib.hid (fun j c h => by omega)⟩
 case round =>
  obtain ⟨k, hk, rfl, X, NO⟩ := hrel
  by_cases hlt : k < l.length
  case pos =>
   obtain ⟨y, hy⟩ : ∃ y, l[k]? = some y := ⟨_, List.getElem?_eq_getElem hlt⟩
   obtain ⟨b, o, rfl, hbl, hc⟩ := HEL.out (by omega)
   have hcy := hc k y hy
   have HY := Lib.hid hy
   clear hy hc
   have wi1 : IntKind.i64.wrap ((k : Int)) = (k : Int) := IntWalk.i64_in _ (by omega)
   have zi1 : (0 : Int) ≤ (k : Int) := by omega
   have li1 : (k : Int) < (l.length : Int) := by omega
   have ti1 : ((k : Int)).toNat = k := by omega
   have wk : IntKind.i64.wrap ((k : Int) + 1) = (k : Int) + 1 := IntWalk.i64_in _ (by omega)
   have q0 := (X.out.cell (p := ⟨b, o + k * 11, none⟩) hbl).trans hcy.1
   have q1 := (X.out.cell (p := ⟨b, o + k * 11 + 1, none⟩) hbl).trans hcy.2.1
   have q2 := (X.out.cell (p := ⟨b, o + k * 11 + 2, none⟩) hbl).trans hcy.2.2.1
   have q3 := (X.out.cell (p := ⟨b, o + k * 11 + 3, none⟩) hbl).trans hcy.2.2.2.1
   have q4 := (X.out.cell (p := ⟨b, o + k * 11 + 4, none⟩) hbl).trans hcy.2.2.2.2.1
   have q5 := (X.out.cell (p := ⟨b, o + k * 11 + 5, none⟩) hbl).trans hcy.2.2.2.2.2.1
   have q6 := (X.out.cell (p := ⟨b, o + k * 11 + 6, none⟩) hbl).trans hcy.2.2.2.2.2.2.1
   have q7 := (X.out.cell (p := ⟨b, o + k * 11 + 7, none⟩) hbl).trans hcy.2.2.2.2.2.2.2.1
   have q8 := (X.out.cell (p := ⟨b, o + k * 11 + 8, none⟩) hbl).trans hcy.2.2.2.2.2.2.2.2.1
   have q9 := (X.out.cell (p := ⟨b, o + k * 11 + 9, none⟩) hbl).trans hcy.2.2.2.2.2.2.2.2.2.1
   have q10 := (X.out.cell (p := ⟨b, o + k * 11 + 10, none⟩) hbl).trans hcy.2.2.2.2.2.2.2.2.2.2
   clear hcy
   obtain ⟨wn, hwn, en, TN⟩ := nc_alloc wr y
   go_upto_region 6 with fail
   rw [← hwn]
   clear hwn q0 q1 q2 q3 q4 q5 q6 q7 q8 q9 q10
   have XN := Lib.hid (X.out.tr en)
   obtain ⟨t0, t1, t2, t3, t4, t5, t6, t7, t8, t9, t10⟩ := TN.cells
   have hl := TN.lt
   clear X en TN
   go_wp2_with fail
   refine (HCK.out y _ (List.mem_of_getElem? HY.out)).mono ?_
   rintro e w1 ⟨rfl, b1⟩
   have X1 := Lib.hid (XN.out.tr b1)
   clear XN b1
   by_cases h3 : ckN y = 0
   case neg =>
    have HR := Lib.hid (show K = ckN y by rw [← HK.out]; exact rts_bad HL.out HY.out h3 NO.out)
    have hb : (ckN y != 0) = true := by simpa using h3
    clear h3
    go_wp2_with fail
    go_ret
    exact ⟨by first | (rw [HR.out]; rfl) | rw [HR.out], X1.out⟩
   have NO2 := Lib.hid (upto_step (P := fun c => ckN c = 0) HY.out h3 NO.out)
   rw [h3]
   clear h3 NO
   go_wp2_with fail
   go_roundw
   case rel => exact ⟨k + 1, by omega, by go_num, X1, NO2⟩
   case measure => simp [intOf]; omega
  case neg =>
  obtain rfl : k = l.length := by omega
  clear hlt hk
  go_wp2_with fail
  have X2 := X
  clear X
  go_loopw [30] (fun s30 wr => ∃ k : Nat, k ≤ l.length ∧ s30 = .int .i64 (k : Int) ∧ Hid (Ext w wr) ∧ Hid (∀ (j : Nat) (x : NC), j < k → l[j]? = some x → rtN x = true)) (fun s30 _ => l.length - (intOf s30).toNat)
  case atStart => exact ⟨0, Nat.zero_le _, rfl, X2, Lib.hid (fun j c h => by omega)⟩
  case round =>
   obtain ⟨k, hk, rfl, X, RT⟩ := hrel
   by_cases hlt : k < l.length
   case neg =>
    obtain rfl : k = l.length := by omega
    have HR := Lib.hid (show K = 0 by rw [← HK.out]; exact rts_fine HL.out NO.out RT.out)
    go_wp2_with fail
    go_ret
    exact ⟨by first | (rw [HR.out]; rfl) | rw [HR.out], X.out⟩
   case pos =>
   obtain ⟨y, hy⟩ : ∃ y, l[k]? = some y := ⟨_, List.getElem?_eq_getElem hlt⟩
   obtain ⟨b, o, rfl, hbl, hc⟩ := HEL.out (by omega)
   have hcy := hc k y hy
   have HY := Lib.hid hy
   clear hy hc
   have wi2 : IntKind.i64.wrap ((k : Int)) = (k : Int) := IntWalk.i64_in _ (by omega)
   have zi2 : (0 : Int) ≤ (k : Int) := by omega
   have li2 : (k : Int) < (l.length : Int) := by omega
   have ti2 : ((k : Int)).toNat = k := by omega
   have wk : IntKind.i64.wrap ((k : Int) + 1) = (k : Int) + 1 := IntWalk.i64_in _ (by omega)
   have q0 := (X.out.cell (p := ⟨b, o + k * 11, none⟩) hbl).trans hcy.1
   have q1 := (X.out.cell (p := ⟨b, o + k * 11 + 1, none⟩) hbl).trans hcy.2.1
   have q2 := (X.out.cell (p := ⟨b, o + k * 11 + 2, none⟩) hbl).trans hcy.2.2.1
   have q3 := (X.out.cell (p := ⟨b, o + k * 11 + 3, none⟩) hbl).trans hcy.2.2.2.1
   have q4 := (X.out.cell (p := ⟨b, o + k * 11 + 4, none⟩) hbl).trans hcy.2.2.2.2.1
   have q5 := (X.out.cell (p := ⟨b, o + k * 11 + 5, none⟩) hbl).trans hcy.2.2.2.2.2.1
   have q6 := (X.out.cell (p := ⟨b, o + k * 11 + 6, none⟩) hbl).trans hcy.2.2.2.2.2.2.1
   have q7 := (X.out.cell (p := ⟨b, o + k * 11 + 7, none⟩) hbl).trans hcy.2.2.2.2.2.2.2.1
   have q8 := (X.out.cell (p := ⟨b, o + k * 11 + 8, none⟩) hbl).trans hcy.2.2.2.2.2.2.2.2.1
   have q9 := (X.out.cell (p := ⟨b, o + k * 11 + 9, none⟩) hbl).trans hcy.2.2.2.2.2.2.2.2.2.1
   have q10 := (X.out.cell (p := ⟨b, o + k * 11 + 10, none⟩) hbl).trans hcy.2.2.2.2.2.2.2.2.2.2
   clear hcy
   obtain ⟨wn, hwn, en, TN⟩ := nc_alloc wr y
   go_upto_region 13 with fail
   rw [← hwn]
   clear hwn q0 q1 q2 q3 q4 q5 q6 q7 q8 q9 q10
   have XN := Lib.hid (X.out.tr en)
   obtain ⟨t0, t1, t2, t3, t4, t5, t6, t7, t8, t9, t10⟩ := TN.cells
   have hl := TN.lt
   clear X en TN
   go_wp2_with fail
   refine (HRT.out y _ (List.mem_of_getElem? HY.out) XN.out).mono ?_
   rintro e w1 ⟨rfl, b1⟩
   have X1 := Lib.hid (XN.out.tr b1)
   clear XN b1
   cases h3 : rtN y with
   | false =>
     have HR := Lib.hid (show K = 61 by rw [← HK.out]; exact rts_role HL.out NO.out HY.out h3)
     clear h3
     go_wp2_with fail
     go_ret
     exact ⟨by first | (rw [HR.out]; rfl) | rw [HR.out], X1.out⟩
   | true =>
     have RT2 := Lib.hid (upto_step (P := fun c => rtN c = true) HY.out h3 RT.out)
     clear h3 RT
     go_wp2_with fail
     go_roundw
     case rel => exact ⟨k + 1, by omega, by go_num, X1, RT2⟩
     case measure => simp [intOf]; omega
set_option maxHeartbeats 4000000 in
theorem mcheck_any (m : MA) (v : Value) (w : World) (hv : RdN w v m.roots) (hs : smL m.roots) (hg : smN m.sg) (ht : m.st.length ≤ maxLen) (E : KTab w 1) : Calls Tryz.prog 52 #[maV m v] w (RetQ w (.int .i64 (ckM m))) := by
 obtain ⟨wz, hwz, ez, TZ⟩ := ma_alloc w m v
 have HST := Lib.hid (fun W => nationalcert_stM m.st W ht)
 have HSR := Lib.hid (fun W => nationalcert_serial m.num W)
 have HRT := Lib.hid (fun W (e : Ext w W) => mroots_any W (RdK.ext hv e) hs (E.below e))
 have HSG := Lib.hid (fun W => msigner_any m.sg m.st W hg)
 obtain ⟨A, n, cp, rfl, -⟩ := hv.at_
 obtain ⟨K, hK⟩ : ∃ K, ckM m = K := ⟨_, rfl⟩
 rw [hK]
 have HK := Lib.hid hK
 clear hK hv hs hg ht E
 have X := Lib.hid ez
 have c0 := TZ.c0
 have c1 := TZ.c1
 have c2 := TZ.c2
 have c3 := TZ.c3
 have c4 := TZ.c4
 have c5 := TZ.c5
 have c6 := TZ.c6
 have c7 := TZ.c7
 have c8 := TZ.c8
 have c9 := TZ.c9
 have c10 := TZ.c10
 have c11 := TZ.c11
 have c12 := TZ.c12
 have c13 := TZ.c13
 have c14 := TZ.c14
 have cl := TZ.lt
 have HTZ := Lib.hid TZ
 clear TZ ez
 unfold maV maCells
 go_enter Tryz.func52, Tryz.ntmps52
 go_wp2_with fail
 rw [← hwz]
 clear hwz
 refine (HST.out _).mono ?_
 rintro e0 w1 ⟨rfl, rfl⟩
 by_cases h1 : stateP m.st
 case neg =>
  have HR := Lib.hid (show K = 60 by rw [← HK.out]; exact if_pos h1)
  rw [decide_eq_false h1]
  clear h1
  go_wp2_with fail
  go_ret
  exact ⟨by first | (rw [HR.out]; rfl) | rw [HR.out], X.out⟩
 rw [decide_eq_true h1]
 have H1 := Lib.hid h1
 clear h1
 go_wp2_with fail
 refine (HSR.out _).mono ?_
 rintro e0 w1 ⟨rfl, rfl⟩
 by_cases h2 : serP m.num
 case neg =>
  have HR := Lib.hid (show K = 3 by rw [← HK.out]; unfold ckM; rw [if_neg (not_not_intro H1.out), if_pos h2])
  rw [decide_eq_false h2]
  clear h2
  go_wp2_with fail
  go_ret
  exact ⟨by first | (rw [HR.out]; rfl) | rw [HR.out], X.out⟩
 rw [decide_eq_true h2]
 have H2 := Lib.hid h2
 clear h2
 by_cases h3 : 0 ≤ m.day
 case neg =>
  have h3 : ¬ (0 ≤ m.day ∧ m.day ≤ 73048) := fun q => h3 q.1
  have HR := Lib.hid (show K = 8 by rw [← HK.out]; unfold ckM; rw [if_neg (not_not_intro H1.out), if_neg (not_not_intro H2.out), if_pos h3])
  have hb : m.day < 0 := by omega
  clear h3
  go_wp2_with fail
  go_ret
  exact ⟨by first | (rw [HR.out]; rfl) | rw [HR.out], X.out⟩
 have hb3 : ¬ m.day < 0 := by omega
 by_cases h4 : m.day ≤ 73048
 case neg =>
  have HR := Lib.hid (show K = 8 by rw [← HK.out]; unfold ckM; rw [if_neg (not_not_intro H1.out), if_neg (not_not_intro H2.out), if_pos (fun q => h4 q.2)])
  have hb : 73048 < m.day := by omega
  clear h4
  go_wp2_with fail
  go_ret
  exact ⟨by first | (rw [HR.out]; rfl) | rw [HR.out], X.out⟩
 have hb4 : ¬ 73048 < m.day := by omega
 have H3 := Lib.hid (And.intro h3 h4)
 clear h3 h4
 go_wp2_with fail
 clear hb3 hb4
 refine (HRT.out _ X.out).mono ?_
 rintro e0 w1 ⟨rfl, b1⟩
 have X1 := Lib.hid (X.out.tr b1)
 have T1 := HTZ.out.ext b1
 clear c0 c1 c2 c3 c4 c5 c6 c7 c8 c9 c10 c11 c12 c13 c14 cl b1
 by_cases h5 : rtsE m.roots = 0
 case neg =>
  have HR := Lib.hid (show K = rtsE m.roots by rw [← HK.out]; unfold ckM; rw [if_neg (not_not_intro H1.out), if_neg (not_not_intro H2.out), if_neg (not_not_intro H3.out), if_pos h5])
  have hb : (rtsE m.roots != 0) = true := by simpa using h5
  clear h5
  go_wp2_with fail
  go_ret
  exact ⟨by first | (rw [HR.out]; rfl) | rw [HR.out], X1.out⟩
 have HR := Lib.hid (show K = sgE m.sg m.st by rw [← HK.out]; unfold ckM; rw [if_neg (not_not_intro H1.out), if_neg (not_not_intro H2.out), if_neg (not_not_intro H3.out), if_neg (not_not_intro h5)])
 rw [h5]
 clear h5
 have c0 := T1.c0
 have c4 := T1.c4
 have c5 := T1.c5
 have c6 := T1.c6
 have c7 := T1.c7
 have c8 := T1.c8
 have c9 := T1.c9
 have c10 := T1.c10
 have c11 := T1.c11
 have c12 := T1.c12
 have c13 := T1.c13
 have c14 := T1.c14
 have cl := T1.lt
 go_wp2_with fail
 refine (HSG.out _).mono ?_
 rintro e0 w2 ⟨rfl, b2⟩
 have X2 := Lib.hid (X1.out.tr b2)
 clear b2 c0 c4 c5 c6 c7 c8 c9 c10 c11 c12 c13 c14 cl
 go_wp2_with fail
 go_ret
 exact ⟨by first | (rw [HR.out]; rfl) | rw [HR.out], X2.out⟩
set_option maxHeartbeats 8000000 in
theorem refmcheck_any (m : MA) (v : Value) (w : World) (hv : RdN w v m.roots) (hs : smL m.roots) (hg : smN m.sg) (ht : m.st.length ≤ maxLen) (E : KTab w 0) : Calls Tryz.prog 53 #[maV m v] w (RetQ w (.int .i64 (ckM m))) := by
 obtain ⟨wz, hwz, ez, TZ⟩ := ma_alloc w m v
 have HST := Lib.hid (fun W => traveldocref29_stM m.st W ht)
 have HSR := Lib.hid (fun W => traveldocref29_serial m.num W)
 have HDY := Lib.hid (fun W => refday31_any m.day W)
 have HCK := Lib.hid (fun (c : NC) W (h : c ∈ m.roots) => traveldocref29_check c W (hs c h))
 have HRT := Lib.hid (fun (c : NC) W (h : c ∈ m.roots) (e : Ext w W) => traveldocref29_root c W (hs c h) (E.below e))
 have HSG := Lib.hid (fun W => reflister_any m.sg m.st W hg)
 obtain ⟨A, n, cp, rfl, hn, hnc, hcm, hel⟩ := hv.at_
 subst hn
 have HEL := Lib.hid hel
 unfold maxLen at hcm
 obtain ⟨K, hK⟩ : ∃ K, ckM m = K := ⟨_, rfl⟩
 rw [hK]
 have HK := Lib.hid hK
 clear hK hv hs hg ht E hel
 have X := Lib.hid ez
 have c0 := TZ.c0
 have c1 := TZ.c1
 have c2 := TZ.c2
 have c3 := TZ.c3
 have cl := TZ.lt
 have HTZ := Lib.hid TZ
 clear TZ ez
 unfold maV maCells
 go_enter Tryz.func53, Tryz.ntmps53
 go_wp2_with fail
 rw [← hwz]
 clear hwz
 refine (HST.out _).mono ?_
 rintro e0 w1 ⟨rfl, rfl⟩
 by_cases h1 : stateP m.st
 case neg =>
  have HR := Lib.hid (show K = 60 by rw [← HK.out]; exact if_pos h1)
  rw [decide_eq_false h1]
  clear h1
  go_wp2_with fail
  go_ret
  exact ⟨by first | (rw [HR.out]; rfl) | rw [HR.out], X.out⟩
 rw [decide_eq_true h1]
 have H1 := Lib.hid h1
 clear h1
 go_wp2_with fail
 refine (HSR.out _).mono ?_
 rintro e0 w1 ⟨rfl, rfl⟩
 by_cases h2 : serP m.num
 case neg =>
  have HR := Lib.hid (show K = 3 by rw [← HK.out]; unfold ckM; rw [if_neg (not_not_intro H1.out), if_pos h2])
  rw [decide_eq_false h2]
  clear h2
  go_wp2_with fail
  go_ret
  exact ⟨by first | (rw [HR.out]; rfl) | rw [HR.out], X.out⟩
 rw [decide_eq_true h2]
 have H2 := Lib.hid h2
 clear h2
 go_wp2_with fail
 refine (HDY.out _).mono ?_
 rintro e0 w1 ⟨rfl, b1⟩
 have X1 := Lib.hid (X.out.tr b1)
 have T1 := HTZ.out.ext b1
 clear c0 c1 c2 c3 cl b1
 have c3 := T1.c3
 have cl := T1.lt
 have HT1 := Lib.hid T1
 clear T1 HTZ X
 by_cases h3 : 0 ≤ m.day ∧ m.day ≤ 73048
 case neg =>
  have HR := Lib.hid (show K = 8 by rw [← HK.out]; unfold ckM; rw [if_neg (not_not_intro H1.out), if_neg (not_not_intro H2.out), if_pos h3])
  rw [decide_eq_false h3]
  clear h3
  go_wp2_with fail
  go_ret
  exact ⟨by first | (rw [HR.out]; rfl) | rw [HR.out], X1.out⟩
 rw [decide_eq_true h3]
 have H3 := Lib.hid h3
 clear h3
 by_cases h1 : m.roots.length < 1
 case pos =>
  have HR := Lib.hid (show K = 72 by rw [← HK.out]; unfold ckM; rw [if_neg (not_not_intro H1.out), if_neg (not_not_intro H2.out), if_neg (not_not_intro H3.out), if_pos (by rw [rts_len (.inl h1)]; decide), rts_len (.inl h1)])
  have hb : ((m.roots.length : Int) < 1) := by omega
  clear h1
  go_wp2_with fail
  go_ret
  exact ⟨by first | (rw [HR.out]; rfl) | rw [HR.out], X1.out⟩
 have hb1 : ¬ ((m.roots.length : Int) < 1) := by omega
 by_cases h2 : 16 < m.roots.length
 case pos =>
  have HR := Lib.hid (show K = 72 by rw [← HK.out]; unfold ckM; rw [if_neg (not_not_intro H1.out), if_neg (not_not_intro H2.out), if_neg (not_not_intro H3.out), if_pos (by rw [rts_len (.inr h2)]; decide), rts_len (.inr h2)])
  have hb : ((16 : Int) < (m.roots.length : Int)) := by omega
  clear h2
  go_wp2_with fail
  go_ret
  exact ⟨by first | (rw [HR.out]; rfl) | rw [HR.out], X1.out⟩
 have hb2 : ¬ ((16 : Int) < (m.roots.length : Int)) := by omega
 have HL := Lib.hid (show ¬ (m.roots.length < 1 ∨ 16 < m.roots.length) by omega)
 clear h1 h2
 go_wp2_with fail
 clear hb1 hb2 c3 cl
 go_loopw [3] (fun s3 wr => ∃ k : Nat, k ≤ m.roots.length ∧ s3 = .int .i64 (k : Int) ∧ Hid (Ext w wr) ∧ Hid (MaAt wr w.heap.size m (.slice A m.roots.length cp)) ∧ Hid (∀ (j : Nat) (x : NC), j < k → m.roots[j]? = some x → ckN x = 0)) (fun s3 _ => m.roots.length - (intOf s3).toNat)
 case atStart => exact ⟨0, Nat.zero_le _, rfl, X1, HT1, Lib.hid (fun j c h => by omega)⟩
 case round =>
  obtain ⟨k, hk, rfl, X, TR, NO⟩ := hrel
  have c3 := TR.out.c3
  have cl := TR.out.lt
  by_cases hlt : k < m.roots.length
  case pos =>
   obtain ⟨y, hy⟩ : ∃ y, m.roots[k]? = some y := ⟨_, List.getElem?_eq_getElem hlt⟩
   obtain ⟨b, o, rfl, hbl, hc⟩ := HEL.out (by omega)
   have hcy := hc k y hy
   have HY := Lib.hid hy
   clear hy hc
   have wi3 : IntKind.i64.wrap ((k : Int)) = (k : Int) := IntWalk.i64_in _ (by omega)
   have zi3 : (0 : Int) ≤ (k : Int) := by omega
   have li3 : (k : Int) < (m.roots.length : Int) := by omega
   have ti3 : ((k : Int)).toNat = k := by omega
   have wk : IntKind.i64.wrap ((k : Int) + 1) = (k : Int) + 1 := IntWalk.i64_in _ (by omega)
   have q0 := (X.out.cell (p := ⟨b, o + k * 11, none⟩) hbl).trans hcy.1
   have q1 := (X.out.cell (p := ⟨b, o + k * 11 + 1, none⟩) hbl).trans hcy.2.1
   have q2 := (X.out.cell (p := ⟨b, o + k * 11 + 2, none⟩) hbl).trans hcy.2.2.1
   have q3 := (X.out.cell (p := ⟨b, o + k * 11 + 3, none⟩) hbl).trans hcy.2.2.2.1
   have q4 := (X.out.cell (p := ⟨b, o + k * 11 + 4, none⟩) hbl).trans hcy.2.2.2.2.1
   have q5 := (X.out.cell (p := ⟨b, o + k * 11 + 5, none⟩) hbl).trans hcy.2.2.2.2.2.1
   have q6 := (X.out.cell (p := ⟨b, o + k * 11 + 6, none⟩) hbl).trans hcy.2.2.2.2.2.2.1
   have q7 := (X.out.cell (p := ⟨b, o + k * 11 + 7, none⟩) hbl).trans hcy.2.2.2.2.2.2.2.1
   have q8 := (X.out.cell (p := ⟨b, o + k * 11 + 8, none⟩) hbl).trans hcy.2.2.2.2.2.2.2.2.1
   have q9 := (X.out.cell (p := ⟨b, o + k * 11 + 9, none⟩) hbl).trans hcy.2.2.2.2.2.2.2.2.2.1
   have q10 := (X.out.cell (p := ⟨b, o + k * 11 + 10, none⟩) hbl).trans hcy.2.2.2.2.2.2.2.2.2.2
   clear hcy
   go_wp2_with fail
   clear q0 q1 q2 q3 q4 q5 q6 q7 q8 q9 q10
   refine (HCK.out y _ (List.mem_of_getElem? HY.out)).mono ?_
   rintro e w1 ⟨rfl, b1⟩
   have X1 := Lib.hid (X.out.tr b1)
   have TR1 := Lib.hid (TR.out.ext b1)
   clear X TR b1 c3 cl
   by_cases h3 : ckN y = 0
   case neg =>
    have HR := Lib.hid (show K = ckN y by rw [← HK.out]; unfold ckM; rw [if_neg (not_not_intro H1.out), if_neg (not_not_intro H2.out), if_neg (not_not_intro H3.out), if_pos (by rw [rts_bad HL.out HY.out h3 NO.out]; exact h3), rts_bad HL.out HY.out h3 NO.out])
    have hb : (ckN y != 0) = true := by simpa using h3
    clear h3
    go_wp2_with fail
    go_ret
    exact ⟨by first | (rw [HR.out]; rfl) | rw [HR.out], X1.out⟩
   have NO2 := Lib.hid (upto_step (P := fun c => ckN c = 0) HY.out h3 NO.out)
   rw [h3]
   clear h3 NO
   go_wp2_with fail
   go_roundw
   case rel => exact ⟨k + 1, by omega, by go_num, X1, TR1, NO2⟩
   case measure => simp [intOf]; omega
  case neg =>
  obtain rfl : k = m.roots.length := by omega
  clear hlt hk
  go_wp2_with fail
  have X2 := X
  have TR2 := TR
  clear X TR c3 cl
  go_loopw [5] (fun s5 wr => ∃ k : Nat, k ≤ m.roots.length ∧ s5 = .int .i64 (k : Int) ∧ Hid (Ext w wr) ∧ Hid (MaAt wr w.heap.size m (.slice A m.roots.length cp)) ∧ Hid (∀ (j : Nat) (x : NC), j < k → m.roots[j]? = some x → rtN x = true)) (fun s5 _ => m.roots.length - (intOf s5).toNat)
  case atStart => exact ⟨0, Nat.zero_le _, rfl, X2, TR2, Lib.hid (fun j c h => by omega)⟩
  case round =>
   obtain ⟨k, hk, rfl, X, TR, RT⟩ := hrel
   have c3 := TR.out.c3
   have cl := TR.out.lt
   by_cases hlt : k < m.roots.length
   case neg =>
    obtain rfl : k = m.roots.length := by omega
    have H5 := Lib.hid (rts_fine HL.out NO.out RT.out)
    have HR := Lib.hid (show K = sgE m.sg m.st by rw [← HK.out]; unfold ckM; rw [if_neg (not_not_intro H1.out), if_neg (not_not_intro H2.out), if_neg (not_not_intro H3.out), if_neg (not_not_intro H5.out)])
    have c0 := TR.out.c0
    have c4 := TR.out.c4
    have c5 := TR.out.c5
    have c6 := TR.out.c6
    have c7 := TR.out.c7
    have c8 := TR.out.c8
    have c9 := TR.out.c9
    have c10 := TR.out.c10
    have c11 := TR.out.c11
    have c12 := TR.out.c12
    have c13 := TR.out.c13
    have c14 := TR.out.c14
    go_wp2_with fail
    refine (HSG.out _).mono ?_
    rintro e0 w2 ⟨rfl, b2⟩
    have X2 := Lib.hid (X.out.tr b2)
    clear b2 c0 c3 c4 c5 c6 c7 c8 c9 c10 c11 c12 c13 c14 cl
    go_wp2_with fail
    go_ret
    exact ⟨by first | (rw [HR.out]; rfl) | rw [HR.out], X2.out⟩
   case pos =>
   obtain ⟨y, hy⟩ : ∃ y, m.roots[k]? = some y := ⟨_, List.getElem?_eq_getElem hlt⟩
   obtain ⟨b, o, rfl, hbl, hc⟩ := HEL.out (by omega)
   have hcy := hc k y hy
   have HY := Lib.hid hy
   clear hy hc
   have wi4 : IntKind.i64.wrap ((k : Int)) = (k : Int) := IntWalk.i64_in _ (by omega)
   have zi4 : (0 : Int) ≤ (k : Int) := by omega
   have li4 : (k : Int) < (m.roots.length : Int) := by omega
   have ti4 : ((k : Int)).toNat = k := by omega
   have wk : IntKind.i64.wrap ((k : Int) + 1) = (k : Int) + 1 := IntWalk.i64_in _ (by omega)
   have q0 := (X.out.cell (p := ⟨b, o + k * 11, none⟩) hbl).trans hcy.1
   have q1 := (X.out.cell (p := ⟨b, o + k * 11 + 1, none⟩) hbl).trans hcy.2.1
   have q2 := (X.out.cell (p := ⟨b, o + k * 11 + 2, none⟩) hbl).trans hcy.2.2.1
   have q3 := (X.out.cell (p := ⟨b, o + k * 11 + 3, none⟩) hbl).trans hcy.2.2.2.1
   have q4 := (X.out.cell (p := ⟨b, o + k * 11 + 4, none⟩) hbl).trans hcy.2.2.2.2.1
   have q5 := (X.out.cell (p := ⟨b, o + k * 11 + 5, none⟩) hbl).trans hcy.2.2.2.2.2.1
   have q6 := (X.out.cell (p := ⟨b, o + k * 11 + 6, none⟩) hbl).trans hcy.2.2.2.2.2.2.1
   have q7 := (X.out.cell (p := ⟨b, o + k * 11 + 7, none⟩) hbl).trans hcy.2.2.2.2.2.2.2.1
   have q8 := (X.out.cell (p := ⟨b, o + k * 11 + 8, none⟩) hbl).trans hcy.2.2.2.2.2.2.2.2.1
   have q9 := (X.out.cell (p := ⟨b, o + k * 11 + 9, none⟩) hbl).trans hcy.2.2.2.2.2.2.2.2.2.1
   have q10 := (X.out.cell (p := ⟨b, o + k * 11 + 10, none⟩) hbl).trans hcy.2.2.2.2.2.2.2.2.2.2
   clear hcy
   go_wp2_with fail
   clear q0 q1 q2 q3 q4 q5 q6 q7 q8 q9 q10
   refine (HRT.out y _ (List.mem_of_getElem? HY.out) X.out).mono ?_
   rintro e w1 ⟨rfl, b1⟩
   have X1 := Lib.hid (X.out.tr b1)
   have TR1 := Lib.hid (TR.out.ext b1)
   clear X TR b1 c3 cl
   cases h3 : rtN y with
   | false =>
     have HR := Lib.hid (show K = 61 by rw [← HK.out]; unfold ckM; rw [if_neg (not_not_intro H1.out), if_neg (not_not_intro H2.out), if_neg (not_not_intro H3.out), if_pos (by rw [rts_role HL.out NO.out HY.out h3]; decide), rts_role HL.out NO.out HY.out h3])
     clear h3
     go_wp2_with fail
     go_ret
     exact ⟨by first | (rw [HR.out]; rfl) | rw [HR.out], X1.out⟩
   | true =>
     have RT2 := Lib.hid (upto_step (P := fun c => rtN c = true) HY.out h3 RT.out)
     clear h3 RT
     go_wp2_with fail
     go_roundw
     case rel => exact ⟨k + 1, by omega, by go_num, X1, TR1, RT2⟩
     case measure => simp [intOf]; omega
theorem node_tree2 {W : World} {rb g1 d : Nat} {t : Nd} {T S : Int} {l : List UInt8} {A1 A2 A : Option Addr} {n1 c1 n2 c2 n c : Nat} (hg1 : g1 = W.heap.size) (hrb : rb < W.heap.size)
 (h : NdG (rb + 1) d t (.agg #[.int .i64 t.tag, .slice A1 n1 c1, .slice A2 n2 c2]) W) (hs : RdS (fun b => rb + 1 ≤ b) W (.slice A n c) (bvs l)) (v0 v1 v2 : Value) :
 NdG (rb + 1) (d + 1) (.mk T [] [t, leafN S l]) (.agg #[.int .i64 T, .slice none 0 0, .slice (some ⟨g1, 0, none⟩) 2 2])
  (Go.Proofs.YtkjplpmogfmhkaaGreatDoor.set3 (W.alloc (.cells #[.int .i64 t.tag, .slice A1 n1 c1, .slice A2 n2 c2, .int .i64 S, .slice A n c, .slice none 0 0] 180)) rb v0 v1 v2) := by
 subst hg1
 obtain ⟨B1, m1, k1, B2, m2, k2, e, r, k⟩ := h
 injection e with e
 injection e with e
 simp only [List.cons.injEq, Value.slice.injEq, and_true, true_and] at e
 obtain ⟨⟨rfl, rfl, rfl⟩, rfl, rfl, rfl⟩ := e
 have cells := ((NdCells.nil (fun b => rb + 1 ≤ b) d W).snoc r k).snoc (t := leafN S l) hs (NdsS.nil _ _)
 have e0 : Ext W (W.alloc (.cells #[.int .i64 t.tag, .slice A1 n1 c1, .slice A2 n2 c2, .int .i64 S, .slice A n c, .slice none 0 0] 180)) := (Below.refl _ _).alloc (Nat.le_refl _) _
 have ho := OwnK.lit W 3 #[.int .i64 t.tag, .slice A1 n1 c1, .slice A2 n2 c2, .int .i64 S, .slice A n c, .slice none 0 0] 180 2 rfl (by unfold maxLen; omega)
 have h2 : NdsS (fun b => rb + 1 ≤ b) (d + 1) (W.alloc (.cells #[.int .i64 t.tag, .slice A1 n1 c1, .slice A2 n2 c2, .int .i64 S, .slice A n c, .slice none 0 0] 180)) (.slice (some ⟨W.heap.size, 0, none⟩) 2 2) [t, leafN S l] :=
  NdsS.mk ho (cells.map fun b hb hlt => ⟨hb, e0.block b hlt⟩) (fun b hb => hb) (fun b (hb : W.heap.size ≤ b) => by omega)
 exact ⟨_, _, _, _, _, _, rfl, RdS.nil _, h2.map fun b hb _ => ⟨hb, set3_block (by omega)⟩⟩
def RetGE (w : World) (l : List UInt8) (e : Ending) (w' : World) : Prop := ∃ A n c, e = .returned (.tuple #[.slice A n c, .int .i64 0]) ∧ GS w.heap.size l (.slice A n c) w' ∧ Ext w w'
theorem enc_new (e s : Int) (w : World) (he : inB 0 1073741789 e = true) (hs : inB 0 1073741789 s = true) : Calls Tryz.prog 206 #[.agg #[.int .i64 e, .int .i64 s]] w (RetGE w (be4 e ++ be4 s)) :=
 (enc_yes e s w he hs).mono fun e w' ⟨A, n, c, h1, h2, h3, h4⟩ => ⟨A, n, c, h1, RdS.of h3 fun b hb => hb, h4⟩
set_option maxHeartbeats 1000000 in
theorem refenc_new (e s : Int) (w : World) (he : inB 0 1073741789 e = true) (hs : inB 0 1073741789 s = true) :
 Calls Tryz.prog 210 #[.agg #[.int .i64 e, .int .i64 s]] w (RetGE w (be4 e ++ be4 s)) := by
 have x0 : Ext w (w.alloc (.cells #[.int .i64 e, .int .i64 s] 33)) := (Below.refl _ _).alloc (Nat.le_refl _) _
 have Ec : ∀ W, Ext (w.alloc (.cells #[.int .i64 e, .int .i64 s] 33)) W → W.cell? ⟨w.heap.size, 0, none⟩ = some (.int .i64 e) ∧ W.cell? ⟨w.heap.size, 1, none⟩ = some (.int .i64 s) := fun W h =>
  ⟨(h.cell (p := ⟨w.heap.size, 0, none⟩) (by simp)).trans (by go_simp), (h.cell (p := ⟨w.heap.size, 1, none⟩) (by simp)).trans (by go_simp)⟩
 have EC := Lib.hid Ec
 clear Ec
 go_enter Tryz.func210, Tryz.ntmps210
 go_wp2_with fail
 refine (small_any _ _).mono ?_
 rw [he]
 rintro e' w' ⟨rfl, rfl⟩
 go_wp2_with fail
 refine (small_any _ _).mono ?_
 rw [hs]
 rintro e' w' ⟨rfl, rfl⟩
 go_wp2_with fail
 refine Gd.wp_region_X 7 (by kernel_rfl) (by kernel_rfl) ?_
 simp only [List.take_succ_cons, List.take_zero, List.drop_succ_cons, List.drop_zero]
 intro w1 hw1
 have L : ∀ m : Lt w1, Ext (w.alloc (.cells #[.int .i64 e, .int .i64 s] 33)) m.1 := fun m => hw1.tr m.2
 have q0 : ∀ m : Lt w1, m.1.cell? ⟨w.heap.size, 0, none⟩ = some (.int .i64 e) := fun m => (EC.out _ (L m)).1
 have q1 : ∀ m : Lt w1, m.1.cell? ⟨w.heap.size, 1, none⟩ = some (.int .i64 s) := fun m => (EC.out _ (L m)).2
 repeat (refine Gd.wpX_pure (by first | exact trivial | exact ⟨_, rfl, rfl, rfl⟩) rfl rfl rfl rfl rfl (fun K hK => ?_); go_big_quiet_op; refine hK _ ?_; clear hK K)
 refine Gd.wpX_callHole (by first | exact trivial | exact ⟨_, rfl, rfl, rfl⟩) (GB (be4 e)) (stable_GB _) rfl rfl rfl rfl (by kernel_rfl) rfl rfl (fun m => (four_any _ _).mono fun _ _ h => h.gb) ?_
 simp only [Act.put, List.setIfInBounds_toArray, List.set_cons_zero, List.set_cons_succ]
 repeat (refine Gd.wpX_pure (by first | exact trivial | exact ⟨_, rfl, rfl, rfl⟩) rfl rfl rfl rfl rfl (fun K hK => ?_); go_big_quiet_op; refine hK _ ?_; clear hK K)
 refine Gd.wpX_callHole (by first | exact trivial | exact ⟨_, rfl, rfl, rfl⟩) (GB (be4 s)) (stable_GB _) rfl rfl rfl rfl (by kernel_rfl) rfl rfl (fun m => (four_any _ _).mono fun _ _ h => h.gb) ?_
 simp only [Act.put, List.setIfInBounds_toArray, List.set_cons_zero, List.set_cons_succ]
 refine Gd.wpX_callL (by first | exact trivial | exact ⟨_, rfl, rfl, rfl⟩) (GS w.heap.size (be4 e ++ be4 s)) (stable_GS _ _) (fun f => [f 16, f 19]) rfl rfl rfl rfl (fun f => rfl) (by kernel_rfl) (fun f => rfl) (fun m f hf => by
  obtain ⟨A1, n1, c1, h1, hn1, r1⟩ := hf 16 _ rfl rfl
  obtain ⟨A2, n2, c2, h2, hn2, r2⟩ := hf 19 _ rfl rfl
  rw [h1, h2]
  exact (join_any _ r1 r2 (by simp [be4])).mono fun _ _ h => h.gs (Nat.le_trans x0.size (L m).size)) ?_
 simp only [Act.put, List.setIfInBounds_toArray, List.set_cons_zero, List.set_cons_succ]
 refine Gd.wpX_end3 (by decide) (by decide) (by decide) (fun m u1 u2 u3 hu1 hu2 hu3 => ?_)
 simp only [Act.put, List.setIfInBounds_toArray, List.set_cons_zero, List.set_cons_succ]
 obtain ⟨A5, n5, c5, rfl⟩ := GS.slice hu3
 have r5 := Lib.hid hu3
 clear hu3
 have Lm := L m
 obtain ⟨wy, hwy⟩ := m
 clear L q0 q1
 go_wp2_with fail
 go_ret2
 exact ⟨_, _, _, rfl, r5.out, x0.tr Lm⟩
set_option maxHeartbeats 2000000 in
theorem nTree_new (c : NC) (w : World) (hs : smN c) (hc0 : ckN c = 0) (he0 : inB 0 1073741789 c.e = true) (hs0 : inB 0 1073741789 c.s = true) : Calls Tryz.prog 149 #[ncV c] w (NodeR w 2 (certN c) fun v => .tuple #[v, .int .i64 0]) := by
 obtain ⟨wz, hwz⟩ : ∃ wz, wz = ((w.alloc (.cells #[.string (bstr c.st), .int .i64 c.kind, .int .i64 c.num, .int .i64 c.iss, .int .i64 c.own, .int .i64 c.key, .int .i64 c.fr, .int .i64 c.un, .int .i64 c.to, .int .i64 c.e, .int .i64 c.s] 56))).alloc (.cells #[.int .i64 0, .slice none 0 0, .slice none 0 0] 180) := ⟨_, rfl⟩
 have e1 : Ext w (w.alloc (.cells #[.string (bstr c.st), .int .i64 c.kind, .int .i64 c.num, .int .i64 c.iss, .int .i64 c.own, .int .i64 c.key, .int .i64 c.fr, .int .i64 c.un, .int .i64 c.to, .int .i64 c.e, .int .i64 c.s] 56)) := (Below.refl _ _).alloc (Nat.le_refl _) _
 have x0 : Ext w wz := by rw [hwz]; exact e1.alloc (by simp) _
 have hT : NcAt wz w.heap.size c := by rw [hwz]; exact (NcAt.new w c).ext ((Below.refl _ _).alloc (Nat.le_refl _) _)
 have hb : C3 wz (w.heap.size + 1) (.int .i64 0) (.slice none 0 0) (.slice none 0 0) := by
  have := C3.new (w.alloc (.cells #[.string (bstr c.st), .int .i64 c.kind, .int .i64 c.num, .int .i64 c.iss, .int .i64 c.own, .int .i64 c.key, .int .i64 c.fr, .int .i64 c.un, .int .i64 c.to, .int .i64 c.e, .int .i64 c.s] 56)) (.int .i64 0) (.slice none 0 0) (.slice none 0 0)
  rw [show (w.alloc (.cells #[.string (bstr c.st), .int .i64 c.kind, .int .i64 c.num, .int .i64 c.iss, .int .i64 c.own, .int .i64 c.key, .int .i64 c.fr, .int .i64 c.un, .int .i64 c.to, .int .i64 c.e, .int .i64 c.s] 56)).heap.size = w.heap.size + 1 by simp] at this
  rw [hwz]; exact this
 have hsz : w.heap.size + 1 < wz.heap.size := hb.lt
 unfold ncV
 go_enter Tryz.func149, Tryz.ntmps149
 go_wp2_with fail
 rw [← hwz]
 clear hwz e1
 obtain ⟨t0, t1, t2, t3, t4, t5, t6, t7, t8, t9, t10⟩ := hT.cells
 have hl := hT.lt
 go_wp2_with fail
 refine (nationalcert_check c _ hs).mono ?_
 rintro e w1 ⟨rfl, b1⟩
 have x1 := x0.tr b1
 have hT1 := hT.ext b1
 have hb1 := hb.ex b1
 clear t0 t1 t2 t3 t4 t5 t6 t7 t8 t9 t10 hl hT hb
 have h1s : w.heap.size + 1 + 1 ≤ w1.heap.size := hb1.lt
 have HK := Lib.hid hc0
 rw [hc0]
 clear hc0
 obtain ⟨t0, t1, t2, t3, t4, t5, t6, t7, t8, t9, t10⟩ := hT1.cells
 have hl := hT1.lt
 go_wp2_with fail
 refine (enc_new c.e c.s _ he0 hs0).mono ?_
 rintro e w2 ⟨A, n, cs, rfl, r, b2⟩
 have x2 := x1.tr b2
 have hT2 := hT1.ext b2
 have hb2 := hb1.ex b2
 clear t0 t1 t2 t3 t4 t5 t6 t7 t8 t9 t10 hl hT1 hb1 he0 hs0
 obtain ⟨t0, t1, t2, t3, t4, t5, t6, t7, t8, t9, t10⟩ := hT2.cells
 have hl := hT2.lt
 have hrb := hb2.lt
 go_wp2_with fail
 refine (ntree_ok c _ HK.out).mono ?_
 rintro e w3 ⟨b3, v, hv, rfl⟩
 obtain ⟨A1, n1, c1, A2, n2, c2, rfl⟩ := node_open hv
 rw [show (bodyN c).tag = 48 from rfl]
 have x3 := x2.tr b3
 have hb3 := hb2.ex b3
 have e1 : Ext w3 (w3.alloc (.cells #[.int .i64 48, .slice A1 n1 c1, .slice A2 n2 c2] 180)) := (Below.refl _ _).alloc (Nat.le_refl _) _
 have HV := Lib.hid (stable_NdG _ _ _ _ _ _ e1 (hv.mono (B' := w.heap.size + 1 + 1) (by have := x2.size; omega)))
 have HS := Lib.hid (((stable_GS _ _ _ _ _ (b3.tr e1) r).map (fun b hb _ => ⟨Nat.le_trans h1s hb, rfl⟩)))
 have hrb3 := hb3.lt
 have HN := Lib.hid (node_tree2 (T := 48) (S := 3) (g1 := w3.heap.size + 1) (t := bodyN c) (d := 1) (by simp) (by simp; omega) HV.out HS.out (.int .i64 48) (.slice none 0 0) (.slice (some ⟨w3.heap.size + 1, 0, none⟩) 2 2))
 have W4 : Ext w3 ((w3.alloc (.cells #[.int .i64 48, .slice A1 n1 c1, .slice A2 n2 c2] 180)).alloc (.cells #[.int .i64 48, .slice A1 n1 c1, .slice A2 n2 c2, .int .i64 3, .slice A n cs, .slice none 0 0] 180)) := e1.alloc (by simp) _
 have x4 := x3.tr W4
 have hb4 := hb3.ex W4
 obtain ⟨y0, y1, y2, yf0, yf1, yf2⟩ := hb4.cells
 obtain ⟨w0', w1', w2', _, _, _⟩ := (hb4.set3 (.int .i64 48) (.slice none 0 0) (.slice (some ⟨w3.heap.size + 1, 0, none⟩) 2 2)).cells
 have hlb := hb4.lt
 clear t0 t1 t2 t3 t4 t5 t6 t7 t8 t9 t10 hl hT2 hv r hb2 hb3
 go_wp2_with fail
 refine bodyPost_ret (v := .tuple #[.agg #[.int .i64 48, .slice none 0 0, .slice (some ⟨w3.heap.size + 1, 0, none⟩) 2 2], .int .i64 0]) ?_ rfl ⟨ext_set3 x4 (by omega) _ _ _, _, NdG.mono (by omega) HN.out, rfl⟩
 simp [results, Tryz.results149, go_sem, w0', w1', w2']
set_option maxHeartbeats 2000000 in
theorem nobject_new (c : NC) (w : World) (hs : smN c) (hc0 : ckN c = 0) (he0 : inB 0 1073741789 c.e = true) (hs0 : inB 0 1073741789 c.s = true) : Calls Tryz.prog 154 #[ncV c] w (NodeR w 2 (certN c) fun v => .tuple #[v, .int .i64 0]) := by
 obtain ⟨wz, hwz⟩ : ∃ wz, wz = ((w.alloc (.cells #[.string (bstr c.st), .int .i64 c.kind, .int .i64 c.num, .int .i64 c.iss, .int .i64 c.own, .int .i64 c.key, .int .i64 c.fr, .int .i64 c.un, .int .i64 c.to, .int .i64 c.e, .int .i64 c.s] 56))).alloc (.cells #[.int .i64 0, .slice none 0 0, .slice none 0 0] 180) := ⟨_, rfl⟩
 have e1 : Ext w (w.alloc (.cells #[.string (bstr c.st), .int .i64 c.kind, .int .i64 c.num, .int .i64 c.iss, .int .i64 c.own, .int .i64 c.key, .int .i64 c.fr, .int .i64 c.un, .int .i64 c.to, .int .i64 c.e, .int .i64 c.s] 56)) := (Below.refl _ _).alloc (Nat.le_refl _) _
 have x0 : Ext w wz := by rw [hwz]; exact e1.alloc (by simp) _
 have hT : NcAt wz w.heap.size c := by rw [hwz]; exact (NcAt.new w c).ext ((Below.refl _ _).alloc (Nat.le_refl _) _)
 have hb : C3 wz (w.heap.size + 1) (.int .i64 0) (.slice none 0 0) (.slice none 0 0) := by
  have := C3.new (w.alloc (.cells #[.string (bstr c.st), .int .i64 c.kind, .int .i64 c.num, .int .i64 c.iss, .int .i64 c.own, .int .i64 c.key, .int .i64 c.fr, .int .i64 c.un, .int .i64 c.to, .int .i64 c.e, .int .i64 c.s] 56)) (.int .i64 0) (.slice none 0 0) (.slice none 0 0)
  rw [show (w.alloc (.cells #[.string (bstr c.st), .int .i64 c.kind, .int .i64 c.num, .int .i64 c.iss, .int .i64 c.own, .int .i64 c.key, .int .i64 c.fr, .int .i64 c.un, .int .i64 c.to, .int .i64 c.e, .int .i64 c.s] 56)).heap.size = w.heap.size + 1 by simp] at this
  rw [hwz]; exact this
 have hsz : w.heap.size + 1 < wz.heap.size := hb.lt
 unfold ncV
 go_enter Tryz.func154, Tryz.ntmps154
 go_wp2_with fail
 rw [← hwz]
 clear hwz e1
 obtain ⟨t0, t1, t2, t3, t4, t5, t6, t7, t8, t9, t10⟩ := hT.cells
 have hl := hT.lt
 go_wp2_with fail
 refine (traveldocref29_check c _ hs).mono ?_
 rintro e w1 ⟨rfl, b1⟩
 have x1 := x0.tr b1
 have hT1 := hT.ext b1
 have hb1 := hb.ex b1
 clear t0 t1 t2 t3 t4 t5 t6 t7 t8 t9 t10 hl hT hb
 have h1s : w.heap.size + 1 + 1 ≤ w1.heap.size := hb1.lt
 have HK := Lib.hid hc0
 rw [hc0]
 clear hc0
 obtain ⟨t0, t1, t2, t3, t4, t5, t6, t7, t8, t9, t10⟩ := hT1.cells
 have hl := hT1.lt
 go_wp2_with fail
 refine (refenc_new c.e c.s _ he0 hs0).mono ?_
 rintro e w2 ⟨A, n, cs, rfl, r, b2⟩
 have x2 := x1.tr b2
 have hT2 := hT1.ext b2
 have hb2 := hb1.ex b2
 clear t0 t1 t2 t3 t4 t5 t6 t7 t8 t9 t10 hl hT1 hb1 he0 hs0
 obtain ⟨t0, t1, t2, t3, t4, t5, t6, t7, t8, t9, t10⟩ := hT2.cells
 have hl := hT2.lt
 have hrb := hb2.lt
 go_wp2_with fail
 refine (nrefbody_ok c _ HK.out).mono ?_
 rintro e w3 ⟨b3, v, hv, rfl⟩
 obtain ⟨A1, n1, c1, A2, n2, c2, rfl⟩ := node_open hv
 rw [show (bodyN c).tag = 48 from rfl]
 have x3 := x2.tr b3
 have hb3 := hb2.ex b3
 simp only [id]
 go_wp2_with fail
 refine (leaf_any 3 A n cs _).mono ?_
 rintro e w4 ⟨rfl, b4⟩
 have x4' := x3.tr b4
 have hb4' := hb3.ex b4
 have HV := Lib.hid (stable_NdG _ _ _ _ _ _ b4 (hv.mono (B' := w.heap.size + 1 + 1) (by have := x2.size; omega)))
 have HS := Lib.hid (((stable_GS _ _ _ _ _ (b3.tr b4) r).map (fun b hb _ => ⟨Nat.le_trans h1s hb, rfl⟩)))
 have hrb3 := hb4'.lt
 have HN := Lib.hid (node_tree2 (T := 48) (S := 3) (g1 := w4.heap.size) (t := bodyN c) (d := 1) rfl hrb3 HV.out HS.out (.int .i64 48) (.slice none 0 0) (.slice (some ⟨w4.heap.size, 0, none⟩) 2 2))
 have W4 : Ext w4 (w4.alloc (.cells #[.int .i64 48, .slice A1 n1 c1, .slice A2 n2 c2, .int .i64 3, .slice A n cs, .slice none 0 0] 180)) := (Below.refl _ _).alloc (Nat.le_refl _) _
 have x4 := x4'.tr W4
 have hb4 := hb4'.ex W4
 obtain ⟨wa, hwa⟩ : ∃ wa, wa = w4.alloc (.cells #[.int .i64 48, .slice A1 n1 c1, .slice A2 n2 c2, .int .i64 3, .slice A n cs, .slice none 0 0] 180) := ⟨_, rfl⟩
 have HN2 := Lib.hid (show NdG (w.heap.size + 1 + 1) (1 + 1) (.mk 48 [] [bodyN c, leafN 3 (be4 c.e ++ be4 c.s)]) (.agg #[.int .i64 48, .slice none 0 0, .slice (some ⟨w4.heap.size, 0, none⟩) 2 2]) (Go.Proofs.YtkjplpmogfmhkaaGreatDoor.set3 wa (w.heap.size + 1) (.int .i64 48) (.slice none 0 0) (.slice (some ⟨w4.heap.size, 0, none⟩) 2 2)) from by rw [hwa]; exact HN.out)
 rw [← hwa] at x4 hb4
 have hwb := hwa.symm
 clear hb4' x4' hwa W4 HN hrb3
 obtain ⟨y0, y1, y2, yf0, yf1, yf2⟩ := hb4.cells
 obtain ⟨w0', w1', w2', _, _, _⟩ := (hb4.set3 (.int .i64 48) (.slice none 0 0) (.slice (some ⟨w4.heap.size, 0, none⟩) 2 2)).cells
 have hlb := hb4.lt
 clear t0 t1 t2 t3 t4 t5 t6 t7 t8 t9 t10 hl hT2 hv r hb2 hb3
 go_wp2_with fail
 refine bodyPost_ret (v := .tuple #[.agg #[.int .i64 48, .slice none 0 0, .slice (some ⟨w4.heap.size, 0, none⟩) 2 2], .int .i64 0]) ?_ rfl ⟨ext_set3 x4 (by omega) _ _ _, _, NdG.mono (by omega) HN2.out, rfl⟩
 simp [results, Tryz.results154, go_sem, w0', w1', w2']
theorem elemDf : ElemK Tryz.prog 96 177 5 56 := by
 have h : (Tryz.prog.info? 177).map (fun i => (i.zero, i.size, i.bytes)) = some (some (.agg #[.int .i64 0, .int .i64 0, .int .i64 0, .string ⟨#[]⟩, .string ⟨#[]⟩]), 5, 56) := by kernel_rfl
 obtain ⟨i, h1, h2, h3, h4⟩ := info_parts h
 exact ⟨i, _, Tryz.underlying96, h1, h2, h3, h4, rfl⟩
theorem cells_nil {w : World} {A : Option Addr} {n c k : Nat} {xs : List Value} (hk : 0 < k) (h : RdK w k (.slice A n c) xs) (hA : A = none) : xs = [] := by
 obtain ⟨A', n', c', e, hn, _, _, hc⟩ := h
 injection e with e1 e2 e3
 subst e1 e2 e3
 by_cases h0 : 0 < n
 · obtain ⟨b, o, e, _⟩ := hc h0
   rw [hA] at e
   cases e
 · obtain rfl : n = 0 := by omega
   rw [Nat.zero_mul] at hn
   exact List.eq_nil_of_length_eq_zero hn.symm
theorem eql_nil_ncsCells (w : World) (A : Option Addr) (n c : Nat) : (binOp .eql 51 (.slice A n c) (.slice none 0 0)).run Tryz.prog w = .ok (.bool A.isNone) w := Lib.run_eql_slice_nil w _ 56 A n c 0 0 Tryz.underlying51
set_option maxHeartbeats 1000000 in
theorem cloneN_any {a : Value} {l : List NC} (w : World) (ha : RdK w 11 a (ncsCells l)) (hl : l.length ≤ 1000000) : Calls Tryz.prog 201 #[a] w fun e w' => ∃ A n c, e = .returned (.slice A n c) ∧ OwnK w' w.heap.size 56 11 (.slice A n c) (ncsCells l) ∧ Ext w w' := by
 have ha0 := ha
 obtain ⟨A, n, c, rfl, hn, hnc, hcm, hA⟩ := ha
 rw [ncsCells_len] at hn
 obtain rfl : n = l.length := by omega
 unfold maxLen at hcm
 have HON := Lib.hid (ncsCells_one l)
 cases A with
 | none =>
   have h0 := Lib.hid (cells_nil (by decide) ha0 rfl)
   clear hA ha0 hn
   have hq := fun w => eql_nil_ncsCells w none l.length c
   go_enter Tryz.func201, Tryz.ntmps201
   go_wp2
   go_ret
   exact ⟨_, _, _, rfl, by rw [h0.out]; exact OwnK.empty _ _ _ _ _, Below.refl _ _⟩
 | some ad =>
   clear hA hn
   have hq := fun w => eql_nil_ncsCells w (some ad) l.length c
   have e6 : Ext w (w.alloc (.cells #[] 56)) := (Below.refl _ _).alloc (Nat.le_refl _) _
   have H6 := Lib.hid (RdK.ext ha0 e6)
   have E6 := Lib.hid e6
   clear ha0 e6
   go_enter Tryz.func201, Tryz.ntmps201
   go_wp2_with (refine wpList_appK (k := 11) (by decide) elemNc (n := 0) (m := l.length) (B := w.heap.size) (OwnK.empty _ _ _ _ _) rfl H6.out (by rw [ncsCells_len]) HON.out E6.out (by omega) (by unfold maxLen; omega) E6.out.size rfl rfl rfl rfl ?_; intro A2 n2 c2 w2 hn2 o2 b2 g2)
   simp only [List.nil_append] at o2
   go_ret
   exact ⟨_, _, _, rfl, o2, b2⟩
theorem eql_nil_dfsCells (w : World) (A : Option Addr) (n c : Nat) : (binOp .eql 96 (.slice A n c) (.slice none 0 0)).run Tryz.prog w = .ok (.bool A.isNone) w := Lib.run_eql_slice_nil w _ 177 A n c 0 0 Tryz.underlying96
set_option maxHeartbeats 1000000 in
theorem cloneD_any {a : Value} {l : List DF} (w : World) (ha : RdK w 5 a (dfsCells l)) (hl : l.length ≤ 1000000) : Calls Tryz.prog 234 #[a] w fun e w' => ∃ A n c, e = .returned (.slice A n c) ∧ OwnK w' w.heap.size 177 5 (.slice A n c) (dfsCells l) ∧ Ext w w' := by
 have ha0 := ha
 obtain ⟨A, n, c, rfl, hn, hnc, hcm, hA⟩ := ha
 rw [dfsCells_len] at hn
 obtain rfl : n = l.length := by omega
 unfold maxLen at hcm
 have HON := Lib.hid (dfsCells_one l)
 cases A with
 | none =>
   have h0 := Lib.hid (cells_nil (by decide) ha0 rfl)
   clear hA ha0 hn
   have hq := fun w => eql_nil_dfsCells w none l.length c
   go_enter Tryz.func234, Tryz.ntmps234
   go_wp2
   go_ret
   exact ⟨_, _, _, rfl, by rw [h0.out]; exact OwnK.empty _ _ _ _ _, Below.refl _ _⟩
 | some ad =>
   clear hA hn
   have hq := fun w => eql_nil_dfsCells w (some ad) l.length c
   have e6 : Ext w (w.alloc (.cells #[] 177)) := (Below.refl _ _).alloc (Nat.le_refl _) _
   have H6 := Lib.hid (RdK.ext ha0 e6)
   have E6 := Lib.hid e6
   clear ha0 e6
   go_enter Tryz.func234, Tryz.ntmps234
   go_wp2_with (refine wpList_appK (k := 5) (by decide) elemDf (n := 0) (m := l.length) (B := w.heap.size) (OwnK.empty _ _ _ _ _) rfl H6.out (by rw [dfsCells_len]) HON.out E6.out (by omega) (by unfold maxLen; omega) E6.out.size rfl rfl rfl rfl ?_; intro A2 n2 c2 w2 hn2 o2 b2 g2)
   simp only [List.nil_append] at o2
   go_ret
   exact ⟨_, _, _, rfl, o2, b2⟩
def zeroM : MA := ⟨[], 0, 0, [], zeroN, 0, 0⟩
theorem kM_all (r : MA) (v : Value) (h : v.oneCell' = true) : (maCells r v).toArray.all (·.oneCell') = true := by
 rw [List.all_toArray, List.all_eq_true]
 exact kM.one r v h
set_option maxHeartbeats 4000000 in
theorem cmaster_any (r : MA) (v : Value) (w : World) (hv : RdK w 11 v (ncsCells r.roots)) (hl : r.roots.length ≤ 1000000) : Calls Tryz.prog 135 #[.agg (maCells r v).toArray] w fun e w' => ∃ A n c, e = .returned (.agg (maCells r (.slice A n c)).toArray) ∧ OwnK w' w.heap.size 56 11 (.slice A n c) (ncsCells r.roots) ∧ Ext w w' := by
 obtain ⟨wz, hwz⟩ : ∃ wz, wz = (w.alloc (.cells #[.string (bstr r.st), .int .i64 r.num, .int .i64 r.day, v, .string (bstr r.sg.st), .int .i64 r.sg.kind, .int .i64 r.sg.num, .int .i64 r.sg.iss, .int .i64 r.sg.own, .int .i64 r.sg.key, .int .i64 r.sg.fr, .int .i64 r.sg.un, .int .i64 r.sg.to, .int .i64 r.sg.e, .int .i64 r.sg.s, .int .i64 r.e, .int .i64 r.s] 80)).alloc (.cells #[.string ⟨#[]⟩, .int .i64 0, .int .i64 0, .slice none 0 0, .string ⟨#[]⟩, .int .i64 0, .int .i64 0, .int .i64 0, .int .i64 0, .int .i64 0, .int .i64 0, .int .i64 0, .int .i64 0, .int .i64 0, .int .i64 0, .int .i64 0, .int .i64 0] 80) := ⟨_, rfl⟩
 have e1 : Ext w (w.alloc (.cells #[.string (bstr r.st), .int .i64 r.num, .int .i64 r.day, v, .string (bstr r.sg.st), .int .i64 r.sg.kind, .int .i64 r.sg.num, .int .i64 r.sg.iss, .int .i64 r.sg.own, .int .i64 r.sg.key, .int .i64 r.sg.fr, .int .i64 r.sg.un, .int .i64 r.sg.to, .int .i64 r.sg.e, .int .i64 r.sg.s, .int .i64 r.e, .int .i64 r.s] 80)) := (Below.refl _ _).alloc (Nat.le_refl _) _
 have ez : Ext w wz := by rw [hwz]; exact e1.alloc (by simp) _
 have b0 : wz.heap[w.heap.size]? = some (.cells (maCells r v).toArray 80 (0, 0)) := by
  rw [hwz]
  exact (((Below.refl _ _).alloc (Nat.le_refl _) _ : Ext (w.alloc (.cells #[.string (bstr r.st), .int .i64 r.num, .int .i64 r.day, v, .string (bstr r.sg.st), .int .i64 r.sg.kind, .int .i64 r.sg.num, .int .i64 r.sg.iss, .int .i64 r.sg.own, .int .i64 r.sg.key, .int .i64 r.sg.fr, .int .i64 r.sg.un, .int .i64 r.sg.to, .int .i64 r.sg.e, .int .i64 r.sg.s, .int .i64 r.e, .int .i64 r.s] 80)) _).block _ (by simp)).trans (heap_alloc_new' w _)
 have b1 : wz.heap[w.heap.size + 1]? = some (.cells (maCells zeroM (.slice none 0 0)).toArray 80 (0, 0)) := by
  have := heap_alloc_new' (w.alloc (.cells #[.string (bstr r.st), .int .i64 r.num, .int .i64 r.day, v, .string (bstr r.sg.st), .int .i64 r.sg.kind, .int .i64 r.sg.num, .int .i64 r.sg.iss, .int .i64 r.sg.own, .int .i64 r.sg.key, .int .i64 r.sg.fr, .int .i64 r.sg.un, .int .i64 r.sg.to, .int .i64 r.sg.e, .int .i64 r.sg.s, .int .i64 r.e, .int .i64 r.s] 80)) (.cells #[.string ⟨#[]⟩, .int .i64 0, .int .i64 0, .slice none 0 0, .string ⟨#[]⟩, .int .i64 0, .int .i64 0, .int .i64 0, .int .i64 0, .int .i64 0, .int .i64 0, .int .i64 0, .int .i64 0, .int .i64 0, .int .i64 0, .int .i64 0, .int .i64 0] 80)
  rw [show (w.alloc (.cells #[.string (bstr r.st), .int .i64 r.num, .int .i64 r.day, v, .string (bstr r.sg.st), .int .i64 r.sg.kind, .int .i64 r.sg.num, .int .i64 r.sg.iss, .int .i64 r.sg.own, .int .i64 r.sg.key, .int .i64 r.sg.fr, .int .i64 r.sg.un, .int .i64 r.sg.to, .int .i64 r.sg.e, .int .i64 r.sg.s, .int .i64 r.e, .int .i64 r.s] 80)).heap.size = w.heap.size + 1 by simp] at this
  rw [hwz]
  exact this
 have HR := Lib.hid (RdK.ext hv ez)
 have HL := Lib.hid hl
 have EZ := Lib.hid ez
 have c3 : wz.cell? ⟨w.heap.size, 3, none⟩ = some v := by rw [cell_of_row wz w.heap.size 3 _ _ _ b0]; rfl
 have cl := block_lt b0
 have B0 := Lib.hid b0
 have B1 := Lib.hid b1
 clear b0 b1 e1 ez hv hl
 obtain ⟨A, n, c, rfl, -⟩ := id HR.out
 unfold maCells
 go_enter Tryz.func135, Tryz.ntmps135
 go_wp2_with fail
 rw [← hwz]
 clear hwz
 refine (cloneN_any _ HR.out HL.out).mono ?_
 rintro e w1 ⟨A1, n1, c1, rfl, o1, x1⟩
 have k0 := (x1.block _ cl).trans B0.out
 have k1 := (x1.block _ (block_lt B1.out)).trans B1.out
 have f3 : w1.frozen? ⟨w.heap.size, 3, none⟩ = false := by simp [World.frozen?, k0]
 have cl1 := block_lt k0
 have c31 : w1.cell? ⟨w.heap.size, 3, none⟩ = some (.slice A n c) := by rw [cell_of_row _ _ 3 _ _ _ k0]; rfl
 have hz := block_lt B1.out
 have t0 : (w1.setCell ⟨w.heap.size, 3, none⟩ (.slice A1 n1 c1)).heap[w.heap.size]? = some (.cells (maCells r (.slice A1 n1 c1)).toArray 80 (0, 0)) := by
  have h9 := row_set k0 3 (.slice A1 n1 c1)
  exact h9
 have t1 : (w1.setCell ⟨w.heap.size, 3, none⟩ (.slice A1 n1 c1)).heap[w.heap.size + 1]? = some (.cells (maCells zeroM (.slice none 0 0)).toArray 80 (0, 0)) := (setCell_block (by omega)).trans k1
 have HT0 := Lib.hid t0
 have HT1 := Lib.hid t1
 have H1 := Lib.hid (kM_all r (.slice A1 n1 c1) rfl)
 have X1 := Lib.hid (EZ.out.tr x1)
 have O1 := Lib.hid o1
 clear t0 t1 k0 k1 c3 x1 o1 B0 B1
 go_wp2_with (first | (refine wpList_load_row rfl 80 _ rfl w.heap.size rfl 80 (maCells r (.slice A1 n1 c1)).toArray (0, 0) _ HT0.out Tryz.underlying80 rfl info_ma ?_) | (refine wpRow_store rfl 80 _ _ rfl rfl (w.heap.size + 1) (maCells r (.slice A1 n1 c1)).toArray rfl rfl 80 (maCells zeroM (.slice none 0 0)).toArray HT1.out info_ma rfl H1.out ?_))
 refine bodyPost_ret (v := .agg (maCells r (.slice A1 n1 c1)).toArray) ?_ rfl ⟨A1, n1, c1, rfl, ?_, ?_⟩
 · exact results_cell_row rfl _ _ (w.heap.size + 1) 80 (maCells r (.slice A1 n1 c1)).toArray (0, 0) _ rfl (row_at HT1.out) Tryz.underlying80 rfl info_ma
 · have hh : w.heap.size < wz.heap.size := by omega
   exact ((O1.out.grown (Gb.set w.heap.size 3 w1 _) (.inr fun q => by have := rowOf_geK O1.out _ q; omega)).grown (Gb.setRow (w.heap.size + 1) _ _) (.inr fun q => by have := rowOf_geK O1.out _ q; omega)).mono (by omega)
 · exact ext_setRow (ext_set X1.out (Nat.le_refl _)) (by omega) _
def zeroD : DV := ⟨[], 0, 0, [], zeroN, 0, 0⟩
theorem kD_all (r : DV) (v : Value) (h : v.oneCell' = true) : (dvCells r v).toArray.all (·.oneCell') = true := by
 rw [List.all_toArray, List.all_eq_true]
 exact kD.one r v h
set_option maxHeartbeats 4000000 in
theorem cdev_any (r : DV) (v : Value) (w : World) (hv : RdK w 5 v (dfsCells r.defs)) (hl : r.defs.length ≤ 1000000) : Calls Tryz.prog 171 #[.agg (dvCells r v).toArray] w fun e w' => ∃ A n c, e = .returned (.agg (dvCells r (.slice A n c)).toArray) ∧ OwnK w' w.heap.size 177 5 (.slice A n c) (dfsCells r.defs) ∧ Ext w w' := by
 obtain ⟨wz, hwz⟩ : ∃ wz, wz = (w.alloc (.cells #[.string (bstr r.st), .int .i64 r.num, .int .i64 r.day, v, .string (bstr r.sg.st), .int .i64 r.sg.kind, .int .i64 r.sg.num, .int .i64 r.sg.iss, .int .i64 r.sg.own, .int .i64 r.sg.key, .int .i64 r.sg.fr, .int .i64 r.sg.un, .int .i64 r.sg.to, .int .i64 r.sg.e, .int .i64 r.sg.s, .int .i64 r.e, .int .i64 r.s] 121)).alloc (.cells #[.string ⟨#[]⟩, .int .i64 0, .int .i64 0, .slice none 0 0, .string ⟨#[]⟩, .int .i64 0, .int .i64 0, .int .i64 0, .int .i64 0, .int .i64 0, .int .i64 0, .int .i64 0, .int .i64 0, .int .i64 0, .int .i64 0, .int .i64 0, .int .i64 0] 121) := ⟨_, rfl⟩
 have e1 : Ext w (w.alloc (.cells #[.string (bstr r.st), .int .i64 r.num, .int .i64 r.day, v, .string (bstr r.sg.st), .int .i64 r.sg.kind, .int .i64 r.sg.num, .int .i64 r.sg.iss, .int .i64 r.sg.own, .int .i64 r.sg.key, .int .i64 r.sg.fr, .int .i64 r.sg.un, .int .i64 r.sg.to, .int .i64 r.sg.e, .int .i64 r.sg.s, .int .i64 r.e, .int .i64 r.s] 121)) := (Below.refl _ _).alloc (Nat.le_refl _) _
 have ez : Ext w wz := by rw [hwz]; exact e1.alloc (by simp) _
 have b0 : wz.heap[w.heap.size]? = some (.cells (dvCells r v).toArray 121 (0, 0)) := by
  rw [hwz]
  exact (((Below.refl _ _).alloc (Nat.le_refl _) _ : Ext (w.alloc (.cells #[.string (bstr r.st), .int .i64 r.num, .int .i64 r.day, v, .string (bstr r.sg.st), .int .i64 r.sg.kind, .int .i64 r.sg.num, .int .i64 r.sg.iss, .int .i64 r.sg.own, .int .i64 r.sg.key, .int .i64 r.sg.fr, .int .i64 r.sg.un, .int .i64 r.sg.to, .int .i64 r.sg.e, .int .i64 r.sg.s, .int .i64 r.e, .int .i64 r.s] 121)) _).block _ (by simp)).trans (heap_alloc_new' w _)
 have b1 : wz.heap[w.heap.size + 1]? = some (.cells (dvCells zeroD (.slice none 0 0)).toArray 121 (0, 0)) := by
  have := heap_alloc_new' (w.alloc (.cells #[.string (bstr r.st), .int .i64 r.num, .int .i64 r.day, v, .string (bstr r.sg.st), .int .i64 r.sg.kind, .int .i64 r.sg.num, .int .i64 r.sg.iss, .int .i64 r.sg.own, .int .i64 r.sg.key, .int .i64 r.sg.fr, .int .i64 r.sg.un, .int .i64 r.sg.to, .int .i64 r.sg.e, .int .i64 r.sg.s, .int .i64 r.e, .int .i64 r.s] 121)) (.cells #[.string ⟨#[]⟩, .int .i64 0, .int .i64 0, .slice none 0 0, .string ⟨#[]⟩, .int .i64 0, .int .i64 0, .int .i64 0, .int .i64 0, .int .i64 0, .int .i64 0, .int .i64 0, .int .i64 0, .int .i64 0, .int .i64 0, .int .i64 0, .int .i64 0] 121)
  rw [show (w.alloc (.cells #[.string (bstr r.st), .int .i64 r.num, .int .i64 r.day, v, .string (bstr r.sg.st), .int .i64 r.sg.kind, .int .i64 r.sg.num, .int .i64 r.sg.iss, .int .i64 r.sg.own, .int .i64 r.sg.key, .int .i64 r.sg.fr, .int .i64 r.sg.un, .int .i64 r.sg.to, .int .i64 r.sg.e, .int .i64 r.sg.s, .int .i64 r.e, .int .i64 r.s] 121)).heap.size = w.heap.size + 1 by simp] at this
  rw [hwz]
  exact this
 have HR := Lib.hid (RdK.ext hv ez)
 have HL := Lib.hid hl
 have EZ := Lib.hid ez
 have c3 : wz.cell? ⟨w.heap.size, 3, none⟩ = some v := by rw [cell_of_row wz w.heap.size 3 _ _ _ b0]; rfl
 have cl := block_lt b0
 have B0 := Lib.hid b0
 have B1 := Lib.hid b1
 clear b0 b1 e1 ez hv hl
 obtain ⟨A, n, c, rfl, -⟩ := id HR.out
 unfold dvCells
 go_enter Tryz.func171, Tryz.ntmps171
 go_wp2_with fail
 rw [← hwz]
 clear hwz
 refine (cloneD_any _ HR.out HL.out).mono ?_
 rintro e w1 ⟨A1, n1, c1, rfl, o1, x1⟩
 have k0 := (x1.block _ cl).trans B0.out
 have k1 := (x1.block _ (block_lt B1.out)).trans B1.out
 have f3 : w1.frozen? ⟨w.heap.size, 3, none⟩ = false := by simp [World.frozen?, k0]
 have cl1 := block_lt k0
 have c31 : w1.cell? ⟨w.heap.size, 3, none⟩ = some (.slice A n c) := by rw [cell_of_row _ _ 3 _ _ _ k0]; rfl
 have hz := block_lt B1.out
 have t0 : (w1.setCell ⟨w.heap.size, 3, none⟩ (.slice A1 n1 c1)).heap[w.heap.size]? = some (.cells (dvCells r (.slice A1 n1 c1)).toArray 121 (0, 0)) := by
  have h9 := row_set k0 3 (.slice A1 n1 c1)
  exact h9
 have t1 : (w1.setCell ⟨w.heap.size, 3, none⟩ (.slice A1 n1 c1)).heap[w.heap.size + 1]? = some (.cells (dvCells zeroD (.slice none 0 0)).toArray 121 (0, 0)) := (setCell_block (by omega)).trans k1
 have HT0 := Lib.hid t0
 have HT1 := Lib.hid t1
 have H1 := Lib.hid (kD_all r (.slice A1 n1 c1) rfl)
 have X1 := Lib.hid (EZ.out.tr x1)
 have O1 := Lib.hid o1
 clear t0 t1 k0 k1 c3 x1 o1 B0 B1
 go_wp2_with (first | (refine wpList_load_row rfl 121 _ rfl w.heap.size rfl 121 (dvCells r (.slice A1 n1 c1)).toArray (0, 0) _ HT0.out Tryz.underlying121 rfl info_dv ?_) | (refine wpRow_store rfl 121 _ _ rfl rfl (w.heap.size + 1) (dvCells r (.slice A1 n1 c1)).toArray rfl rfl 121 (dvCells zeroD (.slice none 0 0)).toArray HT1.out info_dv rfl H1.out ?_))
 refine bodyPost_ret (v := .agg (dvCells r (.slice A1 n1 c1)).toArray) ?_ rfl ⟨A1, n1, c1, rfl, ?_, ?_⟩
 · exact results_cell_row rfl _ _ (w.heap.size + 1) 121 (dvCells r (.slice A1 n1 c1)).toArray (0, 0) _ rfl (row_at HT1.out) Tryz.underlying121 rfl info_dv
 · have hh : w.heap.size < wz.heap.size := by omega
   exact ((O1.out.grown (Gb.set w.heap.size 3 w1 _) (.inr fun q => by have := rowOf_geK O1.out _ q; omega)).grown (Gb.setRow (w.heap.size + 1) _ _) (.inr fun q => by have := rowOf_geK O1.out _ q; omega)).mono (by omega)
 · exact ext_setRow (ext_set X1.out (Nat.le_refl _)) (by omega) _
theorem run_strU {w : World} {A : Option Addr} {n c : Nat} {l : List UInt8} (h : Rd w (.slice A n c) (bvs l)) : (convert 89 9 (.slice A n c)).run Tryz.prog w = .ok (.string (bstr l)) w := by
 obtain ⟨A', n', c', e, hn, hnc, hcm, hc⟩ := h
 injection e with e1 e2 e3
 subst e1 e2 e3
 rw [bvs_length] at hn
 by_cases h0 : n = 0
 · subst h0
   obtain rfl : l = [] := List.eq_nil_of_length_eq_zero hn.symm
   rw [run_convert_bytes_string w 89 9 5 _ 0 c Tryz.underlying89 Tryz.underlying5 Tryz.underlying9]
   cases A <;> simp [Conv.bytesToString, loadCells]
   all_goals rfl
 · obtain ⟨b, o, rfl, hcell⟩ := hc (by omega)
   subst hn
   refine run_convert_bytes_back w 89 9 5 ⟨b, o, none⟩ c l Tryz.underlying89 Tryz.underlying5 Tryz.underlying9 fun j hj => ?_
   rw [Addr.add_lit]
   exact hcell j _ (by simp [bvs, hj, bv])
end Go.Proofs.YtkjplpmogfmhkaaGreatDoor
