/- Parts Kx Tn Qa No Tq Te Tw Tx of the proof. -/
import Derived.Test.YthbpdhanljpigaaGreatDoorVag
import Derived.Test.YthbpdhanljpigaaGreatDoorVab
import Derived.Lib.SlBytesConst
import Derived.Test.YthbpdhanljpigaaGreatDoorVaa
namespace Go.Proofs.YthbpdhanljpigaaGreatDoor
open Go.RowKit
set_option linter.unusedVariables false
theorem heap_alloc_new' (w : World) (o : Obj) : (w.alloc o).heap[w.heap.size]? = some o := by show (w.heap.push o)[w.heap.size]? = _; simp
theorem Rd.take {w : World} {A : Option Addr} {n c : Nat} {l : List UInt8} (h : Rd w (.slice A n c) (bvs l)) (k : Nat) (hk : k ≤ n) : Rd w (.slice A k c) (bvs (l.take k)) := by
  obtain ⟨A', n', c', e, hn, hnc, hcm, hc⟩ := h
  injection e with e1 e2 e3
  subst e1 e2 e3
  rw [bvs_length] at hn
  refine ⟨_, k, _, rfl, by rw [bvs_length, List.length_take]; omega, by omega, hcm, fun h0 => ?_⟩
  obtain ⟨b, o, rfl, hcell⟩ := hc (by omega)
  refine ⟨b, o, rfl, fun j u hu => hcell j u ?_⟩
  simp only [bvs, List.getElem?_map, List.getElem?_take] at hu ⊢
  split at hu
  · exact hu
  · cases hu
theorem Rd.caps {w : World} {A : Option Addr} {n c : Nat} {xs : List Value} (h : Rd w (.slice A n c) xs) : n ≤ c ∧ c ≤ maxLen := by
  obtain ⟨A', n', c', e, hn, hnc, hcm, hc⟩ := h
  injection e with e1 e2 e3
  subst e1 e2 e3
  exact ⟨hnc, hcm⟩

theorem Own.oneC (w : World) (x : UInt8) (z : Int) (h : (x.toNat : Int) = z) : Own (w.alloc (.cells #[.int .u8 z] 5)) w.heap.size 5 (.slice (some ⟨w.heap.size, 0, none⟩) 1 1) (bvs [x]) := by subst h; exact Own.lit w _ _ 1 rfl (by unfold maxLen; omega)
/-- New bytes, as a call in a region leaves them. -/
def GB (l : List UInt8) : VPred := fun v w => ∃ A n c, v = .slice A n c ∧ Hid (n = l.length) ∧ Rd w (.slice A n c) (bvs l)
theorem stable_GB (l : List UInt8) : StableP (GB l) := fun v w w' hb ⟨A, n, c, h1, h2, h3⟩ => ⟨A, n, c, h1, h2, h3.ext hb⟩
theorem RetB.gb {w w' : World} {l : List UInt8} {e : Ending} (h : RetB w l e w') : ∃ v, e = .returned v ∧ Ext w w' ∧ GB l v w' := by
  obtain ⟨A, n, c, h1, h2, h3, h4⟩ := h
  exact ⟨_, h1, h4, A, n, c, rfl, h2, h3.rd⟩

/-- A call that returns bytes and a number. -/
def RetRE (w : World) (l : List UInt8) (k : Int) (e : Ending) (w' : World) : Prop :=
  ∃ A n c, e = .returned (.tuple #[.slice A n c, .int .i64 k]) ∧ Hid (n = l.length) ∧ Rd w' (.slice A n c) (bvs l) ∧ Ext w w'
/-- A call that returns new bytes and a number. -/
def RetBE (w : World) (l : List UInt8) (k : Int) (e : Ending) (w' : World) : Prop :=
  ∃ A n c, e = .returned (.tuple #[.slice A n c, .int .i64 k]) ∧ Hid (n = l.length) ∧ Own w' w.heap.size 5 (.slice A n c) (bvs l) ∧ Ext w w'
theorem Rd.dropB {w : World} {b o n c : Nat} {l : List UInt8} (h : Rd w (.slice (some ⟨b, o, none⟩) n c) (bvs l)) (k : Nat) (hk : k ≤ n) : Rd w (.slice (some ⟨b, o + k, none⟩) (n - k) (c - k)) (bvs (l.drop k)) := by
  obtain ⟨A', n', c', e, hn, hnc, hcm, hc⟩ := h
  injection e with e1 e2 e3
  subst e1 e2 e3
  rw [bvs_length] at hn
  refine ⟨_, _, _, rfl, by rw [bvs_length, List.length_drop]; omega, by omega, by omega, fun h0 => ⟨_, _, rfl, fun j u hu => ?_⟩⟩
  obtain ⟨b', o', e, hcell⟩ := hc (by omega)
  injection e with e
  injection e with e1 e2
  subst e1 e2
  rw [bvs, List.map_drop, List.getElem?_drop] at hu
  rw [Nat.add_assoc]
  exact hcell (k + j) u hu
end Go.Proofs.YthbpdhanljpigaaGreatDoor
namespace Go.Proofs.YthbpdhanljpigaaGreatDoor
open Go.RowKit
set_option linter.unusedVariables false
set_option maxRecDepth 100000
/-- An object: its tag, its value, the objects in it. -/
inductive Nd where
  | mk (tag : Int) (val : List UInt8) (kids : List Nd)
def Nd.tag : Nd → Int
  | .mk t _ _ => t
def Nd.val : Nd → List UInt8
  | .mk _ v _ => v
def Nd.kids : Nd → List Nd
  | .mk _ _ k => k
/-- The slice v reads as the objects ts, nested at most so deep. -/
def NdsRd : Nat → World → Value → List Nd → Prop
  | 0, w, v, ts => ts = [] ∧ ∃ A c, v = .slice A 0 c ∧ c ≤ maxLen
  | d + 1, w, v, ts => ∃ A n c, v = .slice A n c ∧ n = ts.length ∧ n ≤ c ∧ c ≤ maxLen ∧
      (0 < n → ∃ b o, A = some ⟨b, o, none⟩ ∧ ∀ i t, ts[i]? = some t → ∃ A1 n1 c1 A2 n2 c2,
        w.cell? ⟨b, o + i * 3, none⟩ = some (.int .i64 t.tag) ∧ w.cell? ⟨b, o + i * 3 + 1, none⟩ = some (.slice A1 n1 c1) ∧ w.cell? ⟨b, o + i * 3 + 2, none⟩ = some (.slice A2 n2 c2) ∧
        Rd w (.slice A1 n1 c1) (bvs t.val) ∧ NdsRd d w (.slice A2 n2 c2) t.kids)
theorem NdsRd.keep {w w' : World} (hk : ∀ p : Addr, p.block < w.heap.size → w'.cell? p = w.cell? p) : ∀ {d : Nat} {v : Value} {ts : List Nd}, NdsRd d w v ts → NdsRd d w' v ts
  | 0, _, _, h => h
  | d + 1, v, ts, ⟨A, n, c, h1, h2, h3, h4, h5⟩ => by
    refine ⟨A, n, c, h1, h2, h3, h4, fun h0 => ?_⟩
    obtain ⟨b, o, hA, h6⟩ := h5 h0
    refine ⟨b, o, hA, fun i t ht => ?_⟩
    obtain ⟨A1, n1, c1, A2, n2, c2, e0, e1, e2, r1, r2⟩ := h6 i t ht
    exact ⟨A1, n1, c1, A2, n2, c2, (hk _ (World.block_lt_of_cell? w _ e0)).trans e0, (hk _ (World.block_lt_of_cell? w _ e1)).trans e1, (hk _ (World.block_lt_of_cell? w _ e2)).trans e2, r1.keep hk, NdsRd.keep hk r2⟩
theorem NdsRd.ext {w w' : World} {d : Nat} {v : Value} {ts : List Nd} (h : NdsRd d w v ts) (b : Ext w w') : NdsRd d w' v ts := NdsRd.keep (fun _ hp => b.cell hp) h
theorem NdsRd.below {w0 w : World} {d : Nat} {v : Value} {ts : List Nd} (h : NdsRd d w0 v ts) (b : Below w0.heap.size w0 w) : NdsRd d w v ts := NdsRd.keep (fun _ hp => b.cell hp) h
/-- What a slice of objects is, to a walk. -/
theorem NdsRd.open_ {w : World} {d : Nat} {v : Value} {ts : List Nd} (h : NdsRd d w v ts) : ∃ A n c, v = .slice A n c ∧ n = ts.length ∧ n ≤ c ∧ c ≤ maxLen ∧
    ∀ i t, ts[i]? = some t → ∃ d', d = d' + 1 ∧ ∃ b o, A = some ⟨b, o, none⟩ ∧ b < w.heap.size ∧ ∃ A1 n1 c1 A2 n2 c2,
        w.cell? ⟨b, o + i * 3, none⟩ = some (.int .i64 t.tag) ∧ w.cell? ⟨b, o + i * 3 + 1, none⟩ = some (.slice A1 n1 c1) ∧ w.cell? ⟨b, o + i * 3 + 2, none⟩ = some (.slice A2 n2 c2) ∧
        Rd w (.slice A1 n1 c1) (bvs t.val) ∧ NdsRd d' w (.slice A2 n2 c2) t.kids := by
  cases d with
  | zero =>
    obtain ⟨rfl, A, c, rfl, hc⟩ := h
    exact ⟨A, 0, c, rfl, rfl, Nat.zero_le _, hc, fun i t ht => by simp at ht⟩
  | succ d =>
    obtain ⟨A, n, c, rfl, h2, h3, h4, h5⟩ := h
    refine ⟨A, n, c, rfl, h2, h3, h4, fun i t ht => ⟨d, rfl, ?_⟩⟩
    have hi := (List.getElem?_eq_some_iff.1 ht).1
    obtain ⟨b, o, hA, h6⟩ := h5 (by omega)
    have h7 := h6 i t ht
    refine ⟨b, o, hA, ?_, h7⟩
    obtain ⟨A1, n1, c1, A2, n2, c2, e0, _⟩ := h7
    exact World.block_lt_of_cell? w _ e0
/-- A tag's bytes. -/
def tagB (x : Int) : List UInt8 := if 255 < x then [u8 (x / 256), u8 x] else [u8 x]
/-- A length's bytes. -/
def lenB (n : Nat) : List UInt8 := if n < 128 then [u8 (n : Int)] else if n < 256 then [129, u8 (n : Int)] else [130, u8 ((n : Int) / 256), u8 (n : Int)]
/-- The bytes of objects. -/
def encNs : Nat → List Nd → List UInt8
  | 0, _ => []
  | d + 1, ts => ts.flatMap fun t => tagB t.tag ++ lenB (if consT t.tag then encNs d t.kids else t.val).length ++ (if consT t.tag then encNs d t.kids else t.val)
/-- How many objects there are. -/
def cntNs : Nat → List Nd → Nat
  | 0, _ => 0
  | d + 1, ts => (ts.map fun t => 1 + cntNs d t.kids).sum
/-- Objects that may be written, with short lengths. -/
def okNs : Nat → List Nd → Prop
  | 0, ts => ts = []
  | d + 1, ts => ∀ t ∈ ts, (0 ≤ t.tag ∧ t.tag < 65536) ∧ validT t.tag = true ∧ (consT t.tag = true → t.val = []) ∧ (consT t.tag = false → t.kids = []) ∧ okNs d t.kids
/-- How many bytes there are in the values. -/
def valNs : Nat → List Nd → Nat
  | 0, _ => 0
  | d + 1, ts => (ts.map fun t => t.val.length + valNs d t.kids).sum
def contN (d : Nat) (t : Nd) : List UInt8 := if consT t.tag then encNs d t.kids else t.val
def encN (d : Nat) (t : Nd) : List UInt8 := tagB t.tag ++ lenB (contN d t).length ++ contN d t
theorem encNs_succ (d : Nat) (ts : List Nd) : encNs (d + 1) ts = ts.flatMap (encN d) := rfl
theorem encNs_take {d : Nat} {ts : List Nd} {k : Nat} {t : Nd} (h : ts[k]? = some t) : encNs (d + 1) (ts.take (k + 1)) = encNs (d + 1) (ts.take k) ++ encN d t := by
  have hlt := (List.getElem?_eq_some_iff.1 h).1
  have e : ts.take (k + 1) = ts.take k ++ [t] := by
    rw [List.take_succ_eq_append_getElem hlt]
    rw [List.getElem?_eq_getElem hlt] at h
    rw [Option.some.inj h]
  rw [e, encNs_succ, encNs_succ, List.flatMap_append]
  simp
theorem cntNs_take {d : Nat} {ts : List Nd} {k : Nat} {t : Nd} (h : ts[k]? = some t) : cntNs (d + 1) (ts.take (k + 1)) = cntNs (d + 1) (ts.take k) + (1 + cntNs d t.kids) := by
  have hlt := (List.getElem?_eq_some_iff.1 h).1
  have e : ts.take (k + 1) = ts.take k ++ [t] := by
    rw [List.take_succ_eq_append_getElem hlt]
    rw [List.getElem?_eq_getElem hlt] at h
    rw [Option.some.inj h]
  rw [e]
  simp [cntNs, List.sum_append]
theorem lenB_le (n : Nat) : (lenB n).length ≤ 3 := by
  unfold lenB
  split
  · simp
  · split <;> simp
theorem tagB_le (x : Int) : (tagB x).length ≤ 2 := by unfold tagB; split <;> simp
theorem encNs_len : ∀ (d : Nat) (ts : List Nd), (encNs d ts).length ≤ 5 * cntNs d ts + valNs d ts
  | 0, ts => by simp [encNs]
  | d + 1, [] => by simp [encNs]
  | d + 1, t :: ts => by
    have h1 := encNs_len d t.kids
    have h2 := encNs_len (d + 1) ts
    have e1 : encNs (d + 1) (t :: ts) = encN d t ++ encNs (d + 1) ts := by rw [encNs_succ, encNs_succ, List.flatMap_cons]
    have e2 : cntNs (d + 1) (t :: ts) = (1 + cntNs d t.kids) + cntNs (d + 1) ts := by simp [cntNs]
    have e3 : valNs (d + 1) (t :: ts) = (t.val.length + valNs d t.kids) + valNs (d + 1) ts := by simp [valNs]
    have h3 := tagB_le t.tag
    have h4 := lenB_le (contN d t).length
    have h5 : (contN d t).length ≤ 5 * cntNs d t.kids + valNs d t.kids + t.val.length := by
      unfold contN
      split
      · omega
      · omega
    rw [e1, e2, e3, List.length_append]
    unfold encN
    simp only [List.length_append]
    omega
theorem Own.row {w : World} {B : Nat} {e : TypeId} {A : Option Addr} {n c : Nat} {xs : List Value} (h : Own w B e (.slice A n c) xs) (h0 : 0 < n) :
    ∃ g cur, A = some ⟨g, 0, none⟩ ∧ B ≤ g ∧ w.heap[g]? = some (.cells cur e (0, 0)) ∧ n ≤ c ∧ c ≤ maxLen ∧ cur.size = c ∧ cur.toList.take n = xs := by
  obtain ⟨A', n', c', e1, hn, h | h⟩ := h
  · injection e1 with e1 e2 e3
    omega
  · injection e1 with e1 e2 e3
    subst e1 e2 e3
    exact h
theorem Own.setB {w : World} {B g n c j : Nat} {l : List UInt8} {z : Int} (h : Own w B 5 (.slice (some ⟨g, 0, none⟩) n c) (bvs l)) (hj : j < n) (z0 : 0 ≤ z) (z1 : z < 256) :
    Own (w.setCell ⟨g, j, none⟩ (.int .u8 z)) B 5 (.slice (some ⟨g, 0, none⟩) n c) (bvs (l.set j (u8 z))) := by
  have hn : n = l.length := by
    obtain ⟨A, n', c', e, hn, _⟩ := h
    injection e with _ e _
    rw [bvs_length] at hn
    exact e.trans hn
  obtain ⟨g', cur, e, hB, hg, hnc, hcm, hcs, ht⟩ := h.row (by omega)
  injection e with e
  injection e with e
  subst e
  refine ⟨_, n, c, rfl, by rw [bvs_length, List.length_set]; exact hn, .inr ⟨g, cur.setIfInBounds j (.int .u8 z), rfl, hB, ?_, hnc, hcm, by simpa using hcs, ?_⟩⟩
  · simp only [World.setCell, Array.getElem?_modify, if_true, hg, Option.map_some]
    rfl
  · have e1 : (cur.setIfInBounds j (.int .u8 z)).toList.take n = (cur.toList.take n).set j (.int .u8 z) := by
      rw [Array.toList_setIfInBounds, List.take_set]
    rw [e1, ht]
    have e2 : bv (u8 z) = .int .u8 z := by rw [bv_u8, Int.emod_eq_of_lt z0 z1]
    simp [bvs, e2]
theorem Own.at {w : World} {B g n c : Nat} {l : List UInt8} (h : Own w B 5 (.slice (some ⟨g, 0, none⟩) n c) (bvs l)) (hn : n = l.length) {j : Nat} (hj : j < n) : w.cell? ⟨g, j, none⟩ = some (.int .u8 (byteI l j)) ∧ w.frozen? ⟨g, j, none⟩ = false := by
  obtain ⟨g', cur, e, hB, hg, hnc, hcm, hcs, ht⟩ := h.row (by omega)
  injection e with e
  injection e with e
  subst e
  refine ⟨?_, by simp [World.frozen?, hg]⟩
  rw [cell_of_row w g j cur _ _ hg]
  have : (cur.toList.take n)[j]? = (bvs l)[j]? := by rw [ht]
  rw [List.getElem?_take, if_pos hj] at this
  have h2 : (bvs l)[j]? = some (.int .u8 (byteI l j)) := by rw [byteI_get (by omega)]; simp [bvs, bv, show j < l.length by omega]
  rw [h2] at this
  simpa using this
/-- A row of two or three bytes is turned round. -/
def Turned (w : World) (B : Nat) (v : Value) (l : List UInt8) (e : Ending) (w' : World) : Prop := e = .returned (.tuple #[]) ∧ Own w' B 5 v (bvs l) ∧ Below B w w'
set_option maxHeartbeats 2000000 in
theorem reverse_2 {w : World} {B : Nat} {A : Option Addr} {c : Nat} {x y : UInt8} (h : Own w B 5 (.slice A 2 c) (bvs [x, y])) : Calls Tryz.prog 177 #[.slice A 2 c] w (Turned w B (.slice A 2 c) [y, x]) := by
  obtain ⟨g, cur, rfl, hB, hg, hnc, hcm, _⟩ := h.row (by omega)
  have hgl := block_lt hg
  obtain ⟨c0, f0⟩ := h.at rfl (j := 0) (by omega)
  obtain ⟨c1, f1⟩ := h.at rfl (j := 1) (by omega)
  have b0 := byteI_lo [x, y] 0
  have b0' := byteI_hi [x, y] 0
  have b1 := byteI_lo [x, y] 1
  have b1' := byteI_hi [x, y] 1
  have E1 : ([x, y].set 0 (u8 (byteI [x, y] 1))).set 1 (u8 (byteI [x, y] 0)) = [y, x] := by
    have e0 : u8 (byteI [x, y] 0) = x := UInt8.toNat_inj.1 (by have := u8_val (byteI [x, y] 0); rw [Int.emod_eq_of_lt b0 b0'] at this; exact Int.ofNat.inj this)
    have e1 : u8 (byteI [x, y] 1) = y := UInt8.toNat_inj.1 (by have := u8_val (byteI [x, y] 1); rw [Int.emod_eq_of_lt b1 b1'] at this; exact Int.ofNat.inj this)
    rw [e0, e1]; rfl
  have hD : ∀ w : World, Ext w w.drew := fun w => ⟨rfl, rfl, rfl, Nat.le_refl _, fun _ _ => rfl⟩
  have H := Lib.hid (((h.setB (j := 0) (by omega) b1 b1').setB (j := 1) (by omega) b0 b0').ext (hD _))
  have HL := Lib.hid ((((Below.refl B w).setCell (p := ⟨g, 0, none⟩) hB (.int .u8 (byteI [x, y] 1))).setCell (p := ⟨g, 1, none⟩) hB (.int .u8 (byteI [x, y] 0))).trans ((hD _).mono (by simp; omega)))
  rw [E1] at H
  clear h hg E1 hD
  generalize byteI [x, y] 0 = p at *
  generalize byteI [x, y] 1 = q at *
  unfold maxLen at hcm
  go_enter Tryz.func177, Tryz.ntmps177
  go_wp2
  go_loopw [2, 3] (fun i j wr => (i = .int .i64 0 ∧ j = .int .i64 1 ∧ wr = w) ∨ (i = .int .i64 1 ∧ j = .int .i64 0 ∧ Own wr B 5 (.slice (some ⟨g, 0, none⟩) 2 c) (bvs [y, x]) ∧ Below B w wr)) (fun i _ _ => 2 - (intOf i).toNat)
  case atStart => exact .inl ⟨rfl, rfl, rfl⟩
  case round =>
    rcases hrel with ⟨rfl, rfl, rfl⟩ | ⟨rfl, rfl, ho, hb⟩
    · go_wp2_with fail
      go_region
      go_wp2
      go_roundw
      case rel => exact .inr ⟨rfl, rfl, H.out, HL.out⟩
      case measure => simp [intOf]
    · go_wp2
      go_end0
      exact ⟨rfl, ho, hb⟩
set_option maxHeartbeats 2000000 in
theorem reverse_3 {w : World} {B : Nat} {A : Option Addr} {c : Nat} {x z y : UInt8} (h : Own w B 5 (.slice A 3 c) (bvs [x, z, y])) : Calls Tryz.prog 177 #[.slice A 3 c] w (Turned w B (.slice A 3 c) [y, z, x]) := by
  obtain ⟨g, cur, rfl, hB, hg, hnc, hcm, _⟩ := h.row (by omega)
  have hgl := block_lt hg
  obtain ⟨c0, f0⟩ := h.at rfl (j := 0) (by omega)
  obtain ⟨c1, f1⟩ := h.at rfl (j := 2) (by omega)
  have b0 := byteI_lo [x, z, y] 0
  have b0' := byteI_hi [x, z, y] 0
  have b1 := byteI_lo [x, z, y] 2
  have b1' := byteI_hi [x, z, y] 2
  have E1 : ([x, z, y].set 0 (u8 (byteI [x, z, y] 2))).set 2 (u8 (byteI [x, z, y] 0)) = [y, z, x] := by
    have e0 : u8 (byteI [x, z, y] 0) = x := UInt8.toNat_inj.1 (by have := u8_val (byteI [x, z, y] 0); rw [Int.emod_eq_of_lt b0 b0'] at this; exact Int.ofNat.inj this)
    have e1 : u8 (byteI [x, z, y] 2) = y := UInt8.toNat_inj.1 (by have := u8_val (byteI [x, z, y] 2); rw [Int.emod_eq_of_lt b1 b1'] at this; exact Int.ofNat.inj this)
    rw [e0, e1]; rfl
  have hD : ∀ w : World, Ext w w.drew := fun w => ⟨rfl, rfl, rfl, Nat.le_refl _, fun _ _ => rfl⟩
  have H := Lib.hid (((h.setB (j := 0) (by omega) b1 b1').setB (j := 2) (by omega) b0 b0').ext (hD _))
  have HL := Lib.hid ((((Below.refl B w).setCell (p := ⟨g, 0, none⟩) hB (.int .u8 (byteI [x, z, y] 2))).setCell (p := ⟨g, 2, none⟩) hB (.int .u8 (byteI [x, z, y] 0))).trans ((hD _).mono (by simp; omega)))
  rw [E1] at H
  clear h hg E1 hD
  generalize byteI [x, z, y] 0 = p at *
  generalize byteI [x, z, y] 2 = q at *
  unfold maxLen at hcm
  go_enter Tryz.func177, Tryz.ntmps177
  go_wp2
  go_loopw [2, 3] (fun i j wr => (i = .int .i64 0 ∧ j = .int .i64 2 ∧ wr = w) ∨ (i = .int .i64 1 ∧ j = .int .i64 1 ∧ Own wr B 5 (.slice (some ⟨g, 0, none⟩) 3 c) (bvs [y, z, x]) ∧ Below B w wr)) (fun i _ _ => 2 - (intOf i).toNat)
  case atStart => exact .inl ⟨rfl, rfl, rfl⟩
  case round =>
    rcases hrel with ⟨rfl, rfl, rfl⟩ | ⟨rfl, rfl, ho, hb⟩
    · go_wp2_with fail
      go_region
      go_wp2
      go_roundw
      case rel => exact .inr ⟨rfl, rfl, H.out, HL.out⟩
      case measure => simp [intOf]
    · go_wp2
      go_end0
      exact ⟨rfl, ho, hb⟩
/-- Where the loop of length stands. -/
def LenR (w : World) (n : Nat) (i b : Value) (wr : World) : Prop := ∃ A m c, b = .slice A m c ∧ Ext w wr ∧
  ((i = .int .i64 (n : Int) ∧ Own wr w.heap.size 5 (.slice A m c) (bvs [])) ∨
   (i = .int .i64 ((n : Int) / 256) ∧ Hid (m = 1) ∧ Own wr w.heap.size 5 (.slice A m c) (bvs [u8 (n : Int)])) ∨
   (i = .int .i64 0 ∧ Hid (m = 2) ∧ 256 ≤ n ∧ Own wr w.heap.size 5 (.slice A m c) (bvs [u8 (n : Int), u8 ((n : Int) / 256)])))
set_option maxHeartbeats 2000000 in
theorem length_any (n : Nat) (w : World) (h : n < 65536) : Calls Tryz.prog 154 #[.int .i64 (n : Int)] w (RetB w (lenB n)) := by
  by_cases h0 : n < 128
  · rw [lenB, if_pos h0]
    have q : (n : Int) < 128 := by omega
    go_enter Tryz.func154, Tryz.ntmps154
    go_wp2
    go_ret
    exact ⟨_, _, _, rfl, (show _ = _ from rfl), Own.oneC w (u8 (n : Int)) (n : Int) (by rw [u8_val]; omega), (Below.refl _ _).alloc (Nat.le_refl _) _⟩
  · have h1 := Lib.hid (fun h2 : n < 256 => (show lenB n = [129, u8 (n : Int)] by rw [lenB, if_neg h0, if_pos h2]))
    have h3 := Lib.hid (fun h2 : ¬ n < 256 => (show lenB n = [130, u8 ((n : Int) / 256), u8 (n : Int)] by rw [lenB, if_neg h0, if_neg h2]))
    have q : (128 : Int) ≤ (n : Int) := by omega
    have k129 : bits .or .u8 128 1 = 129 := by decide
    have k130 : bits .or .u8 128 2 = 130 := by decide
    go_enter Tryz.func154, Tryz.ntmps154
    go_wp2
    go_loopw [0, 3] (fun i b wr => LenR w n i b wr) (fun i _ _ => (intOf i).toNat)
    case atStart => exact ⟨none, 0, 0, rfl, Below.refl _ _, .inl ⟨rfl, nilB _ _⟩⟩
    case round =>
      obtain ⟨A, m, c, rfl, bb, hrel⟩ := hrel
      rcases hrel with ⟨rfl, o⟩ | ⟨rfl, hm, o⟩ | ⟨rfl, hm, h256, o⟩
      · have a1 : Ext wr (wr.alloc (.cells #[.int .u8 ((n : Int) % 256)] 5)) := (Below.refl _ _).alloc (Nat.le_refl _) _
        have sz := bb.size
        go_wp2_with (refine appB (o.ext a1) (Rd.oneZ wr (n : Int)) (bb.tr a1) (by simp) (bb.tr a1).size rfl rfl rfl rfl ?_; intro A8 n8 c8 w8 hn8 o8 (b8 : Ext _ _) g8)
        go_roundw
        case rel => exact ⟨A8, n8, c8, rfl, b8, .inr (.inl ⟨rfl, (show _ = _ from hn8.out), by simpa using o8⟩)⟩
        case measure => simp [intOf]; omega
      · obtain rfl : m = 1 := hm.out
        clear hm
        by_cases h2 : n < 256
        · have z0 : (n : Int) / 256 = 0 := by omega
          rw [z0]
          clear z0
          have HL := Lib.hid (h1.out h2)
          have a1 : Ext wr (wr.alloc (.cells #[.int .u8 129] 5)) := (Below.refl _ _).alloc (Nat.le_refl _) _
          have sz := bb.size
          go_wp2_with (refine appB (o.ext a1) (Own.oneC wr 129 129 rfl).rd (bb.tr a1) (by simp) (bb.tr a1).size rfl rfl rfl rfl ?_; intro A8 n8 c8 w8 hn8 o8 (b8 : Ext _ _) g8; obtain rfl : n8 = 2 := hn8.out)
          refine (reverse_2 o8).mono ?_
          rintro e w9 ⟨rfl, o9, b9⟩
          go_wp2
          go_ret
          exact ⟨_, _, _, rfl, (show _ = _ by rw [HL.out]; rfl), by rw [HL.out]; exact o9, b8.trans b9⟩
        · have z0 : 0 < (n : Int) / 256 := by omega
          have z1 : (n : Int) / 256 < 256 := by omega
          have z2 : (n : Int) / 256 / 256 = 0 := by omega
          have z3 := Int.emod_eq_of_lt (Int.le_of_lt z0) z1
          have a1 : Ext wr (wr.alloc (.cells #[.int .u8 ((n : Int) / 256)] 5)) := (Below.refl _ _).alloc (Nat.le_refl _) _
          have sz := bb.size
          have h256 : 256 ≤ n := by omega
          go_wp2_with (refine appB (o.ext a1) (Own.oneC wr (u8 ((n : Int) / 256)) ((n : Int) / 256) (by rw [u8_val]; omega)).rd (bb.tr a1) (by simp) (bb.tr a1).size rfl rfl rfl rfl ?_; intro A8 n8 c8 w8 hn8 o8 (b8 : Ext _ _) g8)
          go_roundw
          case rel => exact ⟨A8, n8, c8, rfl, b8, .inr (.inr ⟨by first | rfl | (rw [z2]), (show _ = _ from hn8.out), h256, by simpa using o8⟩)⟩
          case measure => simp [intOf]; omega
      · obtain rfl : m = 2 := hm.out
        clear hm
        have HL := Lib.hid (h3.out (by omega))
        have a1 : Ext wr (wr.alloc (.cells #[.int .u8 130] 5)) := (Below.refl _ _).alloc (Nat.le_refl _) _
        have sz := bb.size
        go_wp2_with (refine appB (o.ext a1) (Own.oneC wr 130 130 rfl).rd (bb.tr a1) (by simp) (bb.tr a1).size rfl rfl rfl rfl ?_; intro A8 n8 c8 w8 hn8 o8 (b8 : Ext _ _) g8; obtain rfl : n8 = 3 := hn8.out)
        refine (reverse_3 o8).mono ?_
        rintro e w9 ⟨rfl, o9, b9⟩
        go_wp2
        go_ret
        exact ⟨_, _, _, rfl, (show _ = _ by rw [HL.out]; rfl), by rw [HL.out]; exact o9, b8.trans b9⟩
set_option maxHeartbeats 1000000 in
theorem reflength_any (n : Nat) (w : World) (h : n < 65536) : Calls Tryz.prog 157 #[.int .i64 (n : Int)] w (RetB w (lenB n)) := by
  by_cases h0 : n < 128
  · have HL := Lib.hid (show lenB n = [u8 (n : Int)] from if_pos h0)
    have q : (n : Int) ≤ 127 := by omega
    have q2 : (n : Int) % 256 = (n : Int) := by omega
    go_enter Tryz.func157, Tryz.ntmps157
    go_wp2
    go_ret
    exact ⟨_, _, _, rfl, (show _ = _ by rw [HL.out]; rfl), by rw [HL.out]; exact Own.oneC w (u8 (n : Int)) (n : Int) (by rw [u8_val]; omega), (Below.refl _ _).alloc (Nat.le_refl _) _⟩
  · by_cases h2 : n < 256
    · have HL := Lib.hid (show lenB n = [129, u8 (n : Int)] by rw [lenB, if_neg h0, if_pos h2])
      have q : ¬ (n : Int) ≤ 127 := by omega
      have q2 : (n : Int) ≤ 255 := by omega
      have q3 : (n : Int) % 256 = (n : Int) := by omega
      have hb : bvs [129, u8 (n : Int)] = (#[.int .u8 129, .int .u8 (n : Int)] : Array Value).toList := by
        show [bv 129, bv (u8 (n : Int))] = _
        rw [bv_u8, q3]
        rfl
      have HO := Lib.hid (Own.lit w #[.int .u8 129, .int .u8 (n : Int)] 5 2 rfl (by unfold maxLen; omega))
      rw [← hb] at HO
      clear hb
      go_enter Tryz.func157, Tryz.ntmps157
      go_wp2
      go_ret
      exact ⟨_, _, _, rfl, (show _ = _ by rw [HL.out]; rfl), by rw [HL.out]; exact HO.out, (Below.refl _ _).alloc (Nat.le_refl _) _⟩
    · have HL := Lib.hid (show lenB n = [130, u8 ((n : Int) / 256), u8 (n : Int)] by rw [lenB, if_neg h0, if_neg h2])
      have q : ¬ (n : Int) ≤ 127 := by omega
      have q2 : ¬ (n : Int) ≤ 255 := by omega
      have q3 : (n : Int) / 256 % 256 = (n : Int) / 256 := by omega
      have hb : bvs [130, u8 ((n : Int) / 256), u8 (n : Int)] = (#[.int .u8 130, .int .u8 ((n : Int) / 256), .int .u8 ((n : Int) % 256)] : Array Value).toList := by
        show [bv 130, bv (u8 ((n : Int) / 256)), bv (u8 (n : Int))] = _
        rw [bv_u8, bv_u8, q3]
        rfl
      have HO := Lib.hid (Own.lit w #[.int .u8 130, .int .u8 ((n : Int) / 256), .int .u8 ((n : Int) % 256)] 5 3 rfl (by unfold maxLen; omega))
      rw [← hb] at HO
      clear hb
      go_enter Tryz.func157, Tryz.ntmps157
      go_wp2
      go_ret
      exact ⟨_, _, _, rfl, (show _ = _ by rw [HL.out]; rfl), by rw [HL.out]; exact HO.out, (Below.refl _ _).alloc (Nat.le_refl _) _⟩
end Go.Proofs.YthbpdhanljpigaaGreatDoor
namespace Go.Proofs.YthbpdhanljpigaaGreatDoor
set_option linter.unusedVariables false
set_option maxRecDepth 100000
/-- The tag at the head of bytes, and how many bytes it has. -/
def tagX (l : List UInt8) : Except Int (Int × Nat) :=
  if l.length < 1 then .error 6 else
  if longT (byteI l 0) then (if l.length < 2 then .error 6 else if validT (byteI l 0 * 256 + byteI l 1) then .ok (byteI l 0 * 256 + byteI l 1, 2) else .error 4)
  else if validT (byteI l 0) then .ok (byteI l 0, 1) else .error 4
/-- The number behind the head of a long length. -/
def numX (l : List UInt8) : Int := num ((l.drop 1).take (byteI l 0 - 128).toNat)
/-- The length at the head of bytes (-1: it is open), and how many bytes it has. q: strict; c: it may be open. -/
def lenX (q c : Bool) (l : List UInt8) : Except Int (Int × Nat) :=
  if l.length < 1 then .error 6 else
  if byteI l 0 < 128 then .ok (byteI l 0, 1) else
  if 132 < byteI l 0 then .error 5 else
  if byteI l 0 = 128 then (if c = true ∧ q = false then .ok (-1, 1) else .error 5) else
  if l.length < 1 + (byteI l 0 - 128).toNat then .error 6 else
  if q = true ∧ (numX l < 128 ∨ numX l / 256 ^ ((byteI l 0 - 128).toNat - 1) = 0) then .error 5 else
  .ok (numX l, 1 + (byteI l 0 - 128).toNat)
/-- The head of an object: its tag, how many bytes the head has, how many its content has (-1: open). -/
def headX (q : Bool) (dep : Int) (cnt : Nat) (l : List UInt8) : Except Int (Int × Nat × Int) :=
  match tagX l with
  | .error e => .error e
  | .ok (t, k) => match lenX q (consT t) (l.drop k) with
    | .error e => .error e
    | .ok (n, j) => if 8 < dep then .error 7 else if 256 < cnt + 1 then .error 2 else if (l.length : Int) - (k + j : Nat) < n then .error 6 else .ok (t, k + j, n)
abbrev RecX := Bool → Int → Nat → List UInt8 → Except Int (List Nd × Nat × Nat)
/-- One object: it, the count behind it, how many bytes were read. -/
def objX1 (q : Bool) (rec : RecX) (dep : Int) (cnt : Nat) (l : List UInt8) : Except Int (Nd × Nat × Nat) :=
  match headX q dep cnt l with
  | .error e => .error e
  | .ok (t, o, n) =>
    if n < 0 then (match rec true (dep + 1) (cnt + 1) (l.drop o) with
      | .error e => .error e
      | .ok (ks, c, u) => .ok (Nd.mk t [] ks, c, o + u))
    else if consT t then (match rec false (dep + 1) (cnt + 1) ((l.drop o).take n.toNat) with
      | .error e => .error e
      | .ok (ks, c, _) => .ok (Nd.mk t [] ks, c, o + n.toNat))
    else .ok (Nd.mk t ((l.drop o).take n.toNat) [], cnt + 1, o + n.toNat)
def objsG (q : Bool) : Nat → RecX
  | 0, _, _, _, _ => .error 0
  | f + 1, op, dep, cnt, l =>
    if op = true ∧ (l.length < 1 ∨ (byteI l 0 = 0 ∧ l.length < 2)) then .error 6 else
    if op = true ∧ byteI l 0 = 0 ∧ byteI l 1 = 0 then .ok ([], cnt, 2) else
    if op = false ∧ l.length < 1 then .ok ([], cnt, 0) else
    match objX1 q (objsG q f) dep cnt l with
    | .error e => .error e
    | .ok (x, c, u) => match objsG q f op dep c (l.drop u) with
      | .error e => .error e
      | .ok (xs, c', u') => .ok (x :: xs, c', u + u')
/-- All objects of bytes (op: up to two bytes 0), the count behind them, how many bytes were read. -/
def objsX (q : Bool) : RecX := fun op dep cnt l => objsG q (l.length + 1) op dep cnt l

theorem tagX_bd {l : List UInt8} {t : Int} {k : Nat} (h : tagX l = .ok (t, k)) : 1 ≤ k ∧ k ≤ 2 ∧ k ≤ l.length ∧ 0 ≤ t ∧ t < 65536 ∧ validT t = true := by
  have b0 := byteI_lo l 0
  have b0' := byteI_hi l 0
  have b1 := byteI_lo l 1
  have b1' := byteI_hi l 1
  unfold tagX at h
  split at h
  · cases h
  · split at h
    · split at h
      · cases h
      · split at h
        · rename_i hv
          simp only [Except.ok.injEq, Prod.mk.injEq] at h
          obtain ⟨rfl, rfl⟩ := h
          exact ⟨by omega, by omega, by omega, by omega, by omega, hv⟩
        · cases h
    · split at h
      · rename_i hv
        simp only [Except.ok.injEq, Prod.mk.injEq] at h
        obtain ⟨rfl, rfl⟩ := h
        exact ⟨by omega, by omega, by omega, by omega, by omega, hv⟩
      · cases h
theorem tagX_err {l : List UInt8} {e : Int} (h : tagX l = .error e) : e = 6 ∨ e = 4 := by
  unfold tagX at h
  (repeat' split at h) <;> cases h <;> simp
theorem numX_bd {l : List UInt8} (h : byteI l 0 ≤ 132) : 0 ≤ numX l ∧ numX l < 4294967296 := by
  unfold numX
  have hk : (List.take (byteI l 0 - 128).toNat (List.drop 1 l)).length ≤ 4 := by rw [List.length_take]; omega
  obtain ⟨q0, q1⟩ := num_bd _ (List.take (byteI l 0 - 128).toNat (List.drop 1 l)) rfl
  have q2 : ∀ j, j ≤ 4 → (256 : Int) ^ j ≤ 4294967296 := by decide
  have q3 := q2 _ hk
  omega
theorem lenX_bd {q c : Bool} {l : List UInt8} {n : Int} {k : Nat} (h : lenX q c l = .ok (n, k)) : 1 ≤ k ∧ k ≤ 5 ∧ k ≤ l.length ∧ -1 ≤ n ∧ n < 4294967296 ∧ (n < 0 → c = true ∧ q = false ∧ k = 1) := by
  have b0 := byteI_lo l 0
  have b0' := byteI_hi l 0
  unfold lenX at h
  split at h
  · cases h
  · split at h
    · simp only [Except.ok.injEq, Prod.mk.injEq] at h
      obtain ⟨rfl, rfl⟩ := h
      exact ⟨by omega, by omega, by omega, by omega, by omega, fun q => by omega⟩
    · split at h
      · cases h
      · split at h
        · split at h
          · rename_i hc
            simp only [Except.ok.injEq, Prod.mk.injEq] at h
            obtain ⟨rfl, rfl⟩ := h
            exact ⟨by omega, by omega, by omega, by omega, by omega, fun _ => ⟨hc.1, hc.2, rfl⟩⟩
          · cases h
        · split at h
          · cases h
          · split at h
            · cases h
            · simp only [Except.ok.injEq, Prod.mk.injEq] at h
              obtain ⟨rfl, rfl⟩ := h
              obtain ⟨q0, q1⟩ := numX_bd (l := l) (by omega)
              exact ⟨by omega, by omega, by omega, by omega, by omega, fun q => by omega⟩
theorem lenX_err {q c : Bool} {l : List UInt8} {e : Int} (h : lenX q c l = .error e) : e = 6 ∨ e = 5 := by
  unfold lenX at h
  (repeat' split at h) <;> cases h <;> simp
theorem headX_bd {q : Bool} {dep : Int} {cnt : Nat} {l : List UInt8} {t n : Int} {o : Nat} (h : headX q dep cnt l = .ok (t, o, n)) : 2 ≤ o ∧ o ≤ l.length ∧ (o : Int) + n ≤ l.length ∧ -1 ≤ n ∧ 0 ≤ t ∧ t < 65536 ∧ validT t = true ∧ dep ≤ 8 ∧ cnt < 256 ∧ (n < 0 → consT t = true ∧ q = false) := by
  unfold headX at h
  split at h
  · cases h
  · rename_i t' k ht
    obtain ⟨h1, h2, h3, h4, h5, h6⟩ := tagX_bd ht
    split at h
    · cases h
    · rename_i n' j hl
      obtain ⟨g1, g2, g3, g4, g5, g6⟩ := lenX_bd hl
      rw [List.length_drop] at g3
      split at h
      · cases h
      · split at h
        · cases h
        · split at h
          · cases h
          · simp only [Except.ok.injEq, Prod.mk.injEq] at h
            obtain ⟨rfl, rfl, rfl⟩ := h
            exact ⟨by omega, by omega, by omega, g4, h4, h5, h6, by omega, by omega, fun q => ⟨(g6 q).1, (g6 q).2.1⟩⟩
theorem objX1_used {q : Bool} {rec : RecX} {dep : Int} {cnt : Nat} {l : List UInt8} {x : Nd} {c u : Nat} (hr : ∀ dep' cnt' m ks c u, m.length + 2 ≤ l.length → rec true dep' cnt' m = .ok (ks, c, u) → u ≤ m.length) (h : objX1 q rec dep cnt l = .ok (x, c, u)) : 2 ≤ u ∧ u ≤ l.length := by
  unfold objX1 at h
  split at h
  · cases h
  · rename_i t o n ht
    obtain ⟨h1, h2, h3, h4, _⟩ := headX_bd ht
    split at h
    · split at h
      · cases h
      · rename_i ks c' u' hk
        have := hr _ _ _ _ _ _ (by rw [List.length_drop]; omega) hk
        rw [List.length_drop] at this
        simp only [Except.ok.injEq, Prod.mk.injEq] at h
        omega
    · split at h
      · split at h
        · cases h
        · simp only [Except.ok.injEq, Prod.mk.injEq] at h
          omega
      · simp only [Except.ok.injEq, Prod.mk.injEq] at h
        omega
theorem objsG_used {q : Bool} : ∀ (f : Nat) (op : Bool) (l : List UInt8) (dep : Int) (cnt : Nat) (ks : List Nd) (c u : Nat), objsG q f op dep cnt l = .ok (ks, c, u) → u ≤ l.length
  | 0, _, _, _, _, _, _, _, h => by cases h
  | f + 1, op, l, dep, cnt, ks, c, u, h => by
    simp only [objsG] at h
    split at h
    · cases h
    · rename_i h1
      split at h
      · rename_i h2
        simp only [Except.ok.injEq, Prod.mk.injEq] at h
        have : ¬ (l.length < 1 ∨ (byteI l 0 = 0 ∧ l.length < 2)) := fun q => h1 ⟨h2.1, q⟩
        have h3 : ¬ l.length < 2 := fun q => this (.inr ⟨h2.2.1, q⟩)
        omega
      · split at h
        · simp only [Except.ok.injEq, Prod.mk.injEq] at h
          omega
        · split at h
          · cases h
          · rename_i x c1 u1 hx
            have hu := objX1_used (fun dep' cnt' m ks c u _ hm => objsG_used f true m dep' cnt' ks c u hm) hx
            split at h
            · cases h
            · rename_i xs c2 u2 hy
              have := objsG_used f op _ _ _ _ _ _ hy
              rw [List.length_drop] at this
              simp only [Except.ok.injEq, Prod.mk.injEq] at h
              omega
theorem objX1_congr {q : Bool} {r s : RecX} {dep : Int} {cnt : Nat} {l : List UInt8} (h : ∀ op dep' cnt' m, m.length + 2 ≤ l.length → r op dep' cnt' m = s op dep' cnt' m) : objX1 q r dep cnt l = objX1 q s dep cnt l := by
  unfold objX1
  split
  · rfl
  · rename_i t o n ht
    obtain ⟨h1, h2, h3, _⟩ := headX_bd ht
    rw [h true (dep + 1) (cnt + 1) (l.drop o) (by rw [List.length_drop]; omega), h false (dep + 1) (cnt + 1) ((l.drop o).take n.toNat) (by rw [List.length_take, List.length_drop]; omega)]
theorem objsG_fuel {q : Bool} : ∀ (f g : Nat) (op : Bool) (l : List UInt8) (dep : Int) (cnt : Nat), l.length < f → l.length < g → objsG q f op dep cnt l = objsG q g op dep cnt l
  | 0, _, _, _, _, _, hf, _ => by omega
  | _ + 1, 0, _, _, _, _, _, hg => by omega
  | f + 1, g + 1, op, l, dep, cnt, hf, hg => by
    simp only [objsG]
    split
    · rfl
    · split
      · rfl
      · split
        · rfl
        · have e : objX1 q (objsG q f) dep cnt l = objX1 q (objsG q g) dep cnt l := objX1_congr fun op' dep' cnt' m hm => objsG_fuel f g op' m dep' cnt' (by omega) (by omega)
          rw [e]
          cases hx : objX1 q (objsG q g) dep cnt l with
          | error e => rfl
          | ok r =>
            obtain ⟨x, c, u⟩ := r
            obtain ⟨u0, u1⟩ := objX1_used (fun dep' cnt' m ks c u _ hm => objsG_used g true m dep' cnt' ks c u hm) hx
            simp only []
            rw [objsG_fuel f g op (l.drop u) dep c (by rw [List.length_drop]; omega) (by rw [List.length_drop]; omega)]
theorem objsX_used {q op : Bool} {l : List UInt8} {dep : Int} {cnt : Nat} {ks : List Nd} {c u : Nat} (h : objsX q op dep cnt l = .ok (ks, c, u)) : u ≤ l.length := objsG_used _ _ _ _ _ _ _ _ h
theorem objsX_eq (q op : Bool) (dep : Int) (cnt : Nat) (l : List UInt8) : objsX q op dep cnt l =
    if op = true ∧ (l.length < 1 ∨ (byteI l 0 = 0 ∧ l.length < 2)) then .error 6 else
    if op = true ∧ byteI l 0 = 0 ∧ byteI l 1 = 0 then .ok ([], cnt, 2) else
    if op = false ∧ l.length < 1 then .ok ([], cnt, 0) else
    match objX1 q (objsX q) dep cnt l with
    | .error e => .error e
    | .ok (x, c, u) => match objsX q op dep c (l.drop u) with
      | .error e => .error e
      | .ok (xs, c', u') => .ok (x :: xs, c', u + u') := by
  show objsG q (l.length + 1) op dep cnt l = _
  simp only [objsG]
  have e : objX1 q (objsG q l.length) dep cnt l = objX1 q (objsX q) dep cnt l := objX1_congr fun op' dep' cnt' m hm => objsG_fuel _ _ op' m dep' cnt' (by omega) (by omega)
  rw [e]
  split
  · rfl
  · split
    · rfl
    · split
      · rfl
      · cases hx : objX1 q (objsX q) dep cnt l with
        | error e => rfl
        | ok r =>
          obtain ⟨x, c, u⟩ := r
          obtain ⟨u0, u1⟩ := objX1_used (fun dep' cnt' m ks c u _ hm => objsX_used hm) hx
          simp only []
          rw [show objsG q l.length op dep c (l.drop u) = objsX q op dep c (l.drop u) from objsG_fuel _ _ _ _ _ _ (by rw [List.length_drop]; omega) (by rw [List.length_drop]; omega)]
/-- What Parse answers. -/
def parX (q : Bool) (l : List UInt8) : Except Int (List Nd) :=
  if 4096 < l.length then .error 2 else match objsX q false 1 0 l with
    | .error e => .error e
    | .ok (ks, _, _) => .ok ks
end Go.Proofs.YthbpdhanljpigaaGreatDoor
namespace Go.Proofs.YthbpdhanljpigaaGreatDoor
open Go.RowKit
set_option linter.unusedVariables false
theorem number_any {b : Value} {l : List UInt8} (w : World) (hb : Rd w b (bvs l)) (h7 : l.length ≤ 7) :
    Calls Tryz.prog 126 #[b] w fun e w' => e = .returned (.tuple #[.int .i64 (num l), .int .i64 0]) ∧ w = w' := by
  obtain ⟨A, n, c, rfl, hn, hnc, hcm, hA⟩ := hb.bytes
  subst hn
  unfold maxLen at hcm
  clear hb
  go_enter Tryz.func126, Tryz.ntmps126
  go_wp2
  go_loop [4, 6, 12] (fun v _ i => ∃ k : Nat, k ≤ l.length ∧ i = .int .i64 (k : Int) ∧ v = .int .i64 (num (l.take k))) (fun _ _ i => l.length - (intOf i).toNat)
  case atStart => exact ⟨0, Nat.zero_le _, rfl, rfl⟩
  case round =>
    obtain ⟨k, hk, rfl, rfl⟩ := hrel
    by_cases hlt : k < l.length
    · obtain ⟨bb, oo, rfl, hbb, hc⟩ := hA (by omega)
      have hcell := hc k hlt
      have q1 := byteI_lo l k
      have q2 := byteI_hi l k
      have q3 := (num_lt l k (by omega) h7).1
      have q4 := (num_lt l k (by omega) h7).2
      have HO := Lib.hid (or_low q3 q4 q1 q2)
      have HS := Lib.hid (num_step hlt)
      clear hc hA
      go_wp2
      go_round
      case rel => exact ⟨k + 1, by omega, by go_num, by rw [HS.out, ← HO.out]⟩
      case measure => simp [intOf]; omega
    · obtain rfl : k = l.length := by omega
      rw [List.take_length]
      clear hA
      go_wp2
      go_ret2
      exact ⟨rfl, rfl⟩
theorem refnumber_any {b : Value} {l : List UInt8} (w : World) (hb : Rd w b (bvs l)) (h7 : l.length ≤ 7) :
    Calls Tryz.prog 127 #[b] w fun e w' => e = .returned (.tuple #[.int .i64 (num l), .int .i64 0]) ∧ w = w' := by
  obtain ⟨A, n, c, rfl, hn, hnc, hcm, hA⟩ := hb.bytes
  subst hn
  unfold maxLen at hcm
  clear hb
  go_enter Tryz.func127, Tryz.ntmps127
  go_wp2
  go_loop [4, 5] (fun v i => ∃ k : Nat, k ≤ l.length ∧ i = .int .i64 (k : Int) ∧ v = .int .i64 (num (l.take k))) (fun _ i => l.length - (intOf i).toNat)
  case atStart => exact ⟨0, Nat.zero_le _, rfl, rfl⟩
  case round =>
    obtain ⟨k, hk, rfl, rfl⟩ := hrel
    by_cases hlt : k < l.length
    · obtain ⟨bb, oo, rfl, hbb, hc⟩ := hA (by omega)
      have hcell := hc k hlt
      have q1 := byteI_lo l k
      have q2 := byteI_hi l k
      have q3 := (num_lt l k (by omega) h7).1
      have q4 := (num_lt l k (by omega) h7).2
      have HS := Lib.hid (num_step hlt)
      clear hc hA
      go_wp2
      go_round
      case rel => exact ⟨k + 1, by omega, by go_num, by rw [HS.out]⟩
      case measure => simp [intOf]; omega
    · obtain rfl : k = l.length := by omega
      rw [List.take_length]
      clear hA
      go_wp2
      go_ret2
      exact ⟨rfl, rfl⟩
theorem hmk4 : ∀ w : World, (Instr.makeSlice 26 (.int .i64 4) (.int .i64 4)).run Tryz.prog w = .ok (.slice (some ⟨w.heap.size, 0, none⟩) 4 4) (w.alloc (.cells #[.int .u8 0, .int .u8 0, .int .u8 0, .int .u8 0] 5)) := fun _ => by kernel_rfl
/-- What the new bytes hold when k rounds are over. -/
def octs (x : Int) : Nat → Array Value
  | 0 => #[.int .u8 0, .int .u8 0, .int .u8 0, .int .u8 0]
  | 1 => #[.int .u8 0, .int .u8 0, .int .u8 0, .int .u8 (x % 256)]
  | 2 => #[.int .u8 0, .int .u8 0, .int .u8 (x / 256 % 256), .int .u8 (x % 256)]
  | 3 => #[.int .u8 0, .int .u8 (x / 65536 % 256), .int .u8 (x / 256 % 256), .int .u8 (x % 256)]
  | _ => #[.int .u8 (x / 16777216), .int .u8 (x / 65536 % 256), .int .u8 (x / 256 % 256), .int .u8 (x % 256)]
set_option maxRecDepth 100000 in
set_option maxHeartbeats 400000 in
theorem oct4_any (x : Int) (w : World) (h0 : 0 ≤ x) (h1 : x < 4294967296) :
    Calls Tryz.prog 118 #[.int .i64 x, .int .i64 4] w (RetBE w (be4 x) 0) := by
  have hz : (x / 4294967296 != 0) = false := by simp; omega
  have hd : decide (x < 0) = false := by simp; omega
  have hmk := hmk4
  go_enter Tryz.func118, Tryz.ntmps118
  go_wp2
  clear hmk
  go_loopw [7, 26] (fun _ i wr => ∃ k : Nat, k ≤ 4 ∧ i = .int .i64 (k : Int) ∧ wr = w.alloc (.cells (octs x k) 5)) (fun _ i _ => 4 - (intOf i).toNat)
  case atStart => exact ⟨0, by omega, rfl, rfl⟩
  case round =>
    obtain ⟨k, hk, rfl, rfl⟩ := hrel
    match k with
    | 0 =>
      unfold octs
      go_wp2
      exact ⟨⟨1, by omega, rfl, rfl⟩, by simp [intOf]⟩
    | 1 =>
      unfold octs
      go_wp2
      exact ⟨⟨2, by omega, rfl, rfl⟩, by simp [intOf]⟩
    | 2 =>
      unfold octs
      go_wp2
      exact ⟨⟨3, by omega, rfl, rfl⟩, by simp [intOf]⟩
    | 3 =>
      unfold octs
      go_wp2
      exact ⟨⟨4, by omega, rfl, rfl⟩, by simp [intOf]⟩
    | 4 =>
      unfold octs
      go_wp2
      go_ret2
      refine ⟨_, _, _, rfl, (show _ = _ from rfl), ?_, (Below.refl _ _).alloc (Nat.le_refl _) _⟩
      rw [bvs_be4, show x / 16777216 % 256 = x / 16777216 by omega]
      exact Own.lit w _ _ 4 rfl (by unfold maxLen; omega)
end Go.Proofs.YthbpdhanljpigaaGreatDoor
namespace Go.Proofs.YthbpdhanljpigaaGreatDoor
open Go.RowKit
set_option linter.unusedVariables false
set_option maxRecDepth 100000
/-- The slice reads as xs, and its block is one of S. -/
def RdS (S : Nat → Prop) (w : World) (v : Value) (xs : List Value) : Prop :=
  ∃ A n c, v = .slice A n c ∧ n = xs.length ∧ n ≤ c ∧ c ≤ maxLen ∧
    (0 < n → ∃ b o, A = some ⟨b, o, none⟩ ∧ S b ∧ ∀ j u, xs[j]? = some u → w.cell? ⟨b, o + j, none⟩ = some u)
theorem RdS.rd {S : Nat → Prop} {w : World} {v : Value} {xs : List Value} (h : RdS S w v xs) : Rd w v xs := by
  obtain ⟨A, n, c, h1, h2, h3, h4, h5⟩ := h
  exact ⟨A, n, c, h1, h2, h3, h4, fun h0 => by obtain ⟨b, o, q1, _, q2⟩ := h5 h0; exact ⟨b, o, q1, q2⟩⟩
theorem RdS.map {S S' : Nat → Prop} {w w' : World} (hm : ∀ b, S b → b < w.heap.size → S' b ∧ w'.heap[b]? = w.heap[b]?) {v : Value} {xs : List Value} (h : RdS S w v xs) : RdS S' w' v xs := by
  obtain ⟨A, n, c, h1, h2, h3, h4, h5⟩ := h
  refine ⟨A, n, c, h1, h2, h3, h4, fun h0 => ?_⟩
  obtain ⟨b, o, q1, q2, q3⟩ := h5 h0
  have hl : b < w.heap.size := by
    obtain ⟨u, hu⟩ : ∃ u, xs[0]? = some u := ⟨_, List.getElem?_eq_getElem (by omega)⟩
    exact World.block_lt_of_cell? w _ (q3 0 u hu)
  obtain ⟨r1, r2⟩ := hm b q2 hl
  exact ⟨b, o, q1, r1, fun j u hu => (World.cell?_of_block r2).trans (q3 j u hu)⟩
theorem RdS.of {S : Nat → Prop} {w : World} {B : Nat} {e : TypeId} {v : Value} {xs : List Value} (h : Own w B e v xs) (hS : ∀ b, B ≤ b → S b) : RdS S w v xs := by
  obtain ⟨A, n, c, rfl, hn, h | ⟨g, cur, rfl, hB, hg, hnc, hcm, hcs, ht⟩⟩ := h
  · obtain ⟨rfl, rfl⟩ := h
    exact ⟨A, 0, 0, rfl, hn, Nat.le_refl _, by unfold maxLen; omega, fun h => absurd h (by omega)⟩
  · refine ⟨_, n, c, rfl, hn, hnc, hcm, fun _ => ⟨g, 0, rfl, hS g hB, fun j u hu => ?_⟩⟩
    rw [Nat.zero_add, cell_of_row w g j cur e (0, 0) hg]
    rw [← ht, List.getElem?_take] at hu
    split at hu
    · simpa using hu
    · cases hu
theorem RdS.nil {S : Nat → Prop} (w : World) : RdS S w (.slice none 0 0) [] := ⟨none, 0, 0, rfl, rfl, Nat.le_refl _, by unfold maxLen; omega, fun h => absurd h (by omega)⟩
/-- The slice reads as objects, all whose blocks are of S. -/
def NdsS (S : Nat → Prop) : Nat → World → Value → List Nd → Prop
  | 0, w, v, ts => ts = [] ∧ ∃ A c, v = .slice A 0 c ∧ c ≤ maxLen
  | d + 1, w, v, ts => ∃ A n c, v = .slice A n c ∧ n = ts.length ∧ n ≤ c ∧ c ≤ maxLen ∧
      (0 < n → ∃ b o, A = some ⟨b, o, none⟩ ∧ S b ∧ ∀ i t, ts[i]? = some t → ∃ A1 n1 c1 A2 n2 c2,
        w.cell? ⟨b, o + i * 3, none⟩ = some (.int .i64 t.tag) ∧ w.cell? ⟨b, o + i * 3 + 1, none⟩ = some (.slice A1 n1 c1) ∧ w.cell? ⟨b, o + i * 3 + 2, none⟩ = some (.slice A2 n2 c2) ∧
        RdS S w (.slice A1 n1 c1) (bvs t.val) ∧ NdsS S d w (.slice A2 n2 c2) t.kids)
theorem NdsS.rd {S : Nat → Prop} {w : World} : ∀ {d : Nat} {v : Value} {ts : List Nd}, NdsS S d w v ts → NdsRd d w v ts
  | 0, _, _, h => h
  | d + 1, v, ts, ⟨A, n, c, h1, h2, h3, h4, h5⟩ => by
    refine ⟨A, n, c, h1, h2, h3, h4, fun h0 => ?_⟩
    obtain ⟨b, o, hA, _, h6⟩ := h5 h0
    refine ⟨b, o, hA, fun i t ht => ?_⟩
    obtain ⟨A1, n1, c1, A2, n2, c2, e0, e1, e2, r1, r2⟩ := h6 i t ht
    exact ⟨A1, n1, c1, A2, n2, c2, e0, e1, e2, r1.rd, NdsS.rd r2⟩
theorem NdsS.map {S S' : Nat → Prop} {w w' : World} (hm : ∀ b, S b → b < w.heap.size → S' b ∧ w'.heap[b]? = w.heap[b]?) : ∀ {d : Nat} {v : Value} {ts : List Nd}, NdsS S d w v ts → NdsS S' d w' v ts
  | 0, _, _, h => h
  | d + 1, v, ts, ⟨A, n, c, h1, h2, h3, h4, h5⟩ => by
    refine ⟨A, n, c, h1, h2, h3, h4, fun h0 => ?_⟩
    obtain ⟨b, o, hA, hS, h6⟩ := h5 h0
    have hl : b < w.heap.size := by
      obtain ⟨t, ht⟩ : ∃ t, ts[0]? = some t := ⟨_, List.getElem?_eq_getElem (by omega)⟩
      obtain ⟨A1, n1, c1, A2, n2, c2, e0, _⟩ := h6 0 t ht
      exact World.block_lt_of_cell? w _ e0
    obtain ⟨q1, q2⟩ := hm b hS hl
    refine ⟨b, o, hA, q1, fun i t ht => ?_⟩
    obtain ⟨A1, n1, c1, A2, n2, c2, e0, e1, e2, r1, r2⟩ := h6 i t ht
    exact ⟨A1, n1, c1, A2, n2, c2, (World.cell?_of_block q2).trans e0, (World.cell?_of_block q2).trans e1, (World.cell?_of_block q2).trans e2, r1.map hm, NdsS.map hm r2⟩
theorem NdsS.nil {S : Nat → Prop} (w : World) (d : Nat) : NdsS S d w (.slice none 0 0) [] := by
  cases d with
  | zero => exact ⟨rfl, _, _, rfl, by unfold maxLen; omega⟩
  | succ d => exact ⟨_, _, _, rfl, rfl, Nat.le_refl _, by unfold maxLen; omega, fun h => absurd h (by omega)⟩
/-- Cells that hold objects, three each. -/
def NdCells (S : Nat → Prop) (d : Nat) (w : World) (xs : List Value) (ts : List Nd) : Prop :=
  xs.length = ts.length * 3 ∧ ∀ i t, ts[i]? = some t → ∃ A1 n1 c1 A2 n2 c2, xs[i * 3]? = some (.int .i64 t.tag) ∧ xs[i * 3 + 1]? = some (.slice A1 n1 c1) ∧ xs[i * 3 + 2]? = some (.slice A2 n2 c2) ∧
    RdS S w (.slice A1 n1 c1) (bvs t.val) ∧ NdsS S d w (.slice A2 n2 c2) t.kids
theorem NdCells.nil (S : Nat → Prop) (d : Nat) (w : World) : NdCells S d w [] [] := ⟨rfl, fun i t h => by simp at h⟩
theorem NdCells.map {S S' : Nat → Prop} {w w' : World} (hm : ∀ b, S b → b < w.heap.size → S' b ∧ w'.heap[b]? = w.heap[b]?) {d : Nat} {xs : List Value} {ts : List Nd} (h : NdCells S d w xs ts) : NdCells S' d w' xs ts :=
  ⟨h.1, fun i t ht => by
    obtain ⟨A1, n1, c1, A2, n2, c2, e0, e1, e2, r1, r2⟩ := h.2 i t ht
    exact ⟨A1, n1, c1, A2, n2, c2, e0, e1, e2, r1.map hm, r2.map hm⟩⟩
theorem NdCells.snoc {S : Nat → Prop} {w : World} {d : Nat} {xs : List Value} {ts : List Nd} (h : NdCells S d w xs ts) {t : Nd} {A1 A2 : Option Addr} {n1 c1 n2 c2 : Nat} (r1 : RdS S w (.slice A1 n1 c1) (bvs t.val)) (r2 : NdsS S d w (.slice A2 n2 c2) t.kids) :
    NdCells S d w (xs ++ [.int .i64 t.tag, .slice A1 n1 c1, .slice A2 n2 c2]) (ts ++ [t]) := by
  refine ⟨by rw [List.length_append, List.length_append, h.1]; simp; omega, fun i u hu => ?_⟩
  by_cases hi : i < ts.length
  · rw [List.getElem?_append_left hi] at hu
    obtain ⟨B1, m1, d1, B2, m2, d2, e0, e1, e2, q1, q2⟩ := h.2 i u hu
    have hl := h.1
    exact ⟨B1, m1, d1, B2, m2, d2, by rw [List.getElem?_append_left (by omega)]; exact e0, by rw [List.getElem?_append_left (by omega)]; exact e1, by rw [List.getElem?_append_left (by omega)]; exact e2, q1, q2⟩
  · have hlt := (List.getElem?_eq_some_iff.1 hu).1
    rw [List.length_append] at hlt
    simp only [List.length_singleton] at hlt
    obtain rfl : i = ts.length := by omega
    rw [List.getElem?_append_right (Nat.le_refl _), Nat.sub_self] at hu
    obtain rfl : t = u := by simpa using hu
    have hl := h.1
    exact ⟨A1, n1, c1, A2, n2, c2, by rw [List.getElem?_append_right (by omega), hl, Nat.sub_self]; rfl, by rw [List.getElem?_append_right (by omega), hl, show ts.length * 3 + 1 - ts.length * 3 = 1 by omega]; rfl, by rw [List.getElem?_append_right (by omega), hl, show ts.length * 3 + 2 - ts.length * 3 = 2 by omega]; rfl, r1, r2⟩
/-- A row of such cells is a slice of objects. -/
theorem NdsS.mk {S S' : Nat → Prop} {w : World} {B : Nat} {e : TypeId} {v : Value} {d : Nat} {xs : List Value} {ts : List Nd} (ho : OwnK w B e 3 v xs) (hc : NdCells S d w xs ts) (hS : ∀ b, S b → S' b) (hB : ∀ b, B ≤ b → S' b) : NdsS S' (d + 1) w v ts := by
  obtain ⟨hl, hc⟩ := hc
  have hmm : ∀ b, S b → b < w.heap.size → S' b ∧ w.heap[b]? = w.heap[b]? := fun b h _ => ⟨hS b h, rfl⟩
  obtain ⟨A, n, c, rfl, hn, ⟨rfl, rfl⟩ | ⟨g, cur, rfl, hg0, hg, hnc, hcm, hcs, ht⟩⟩ := ho
  · obtain rfl : ts = [] := List.eq_nil_of_length_eq_zero (by omega)
    exact ⟨A, 0, 0, rfl, rfl, Nat.le_refl _, by unfold maxLen; omega, fun h => absurd h (by omega)⟩
  · refine ⟨_, n, c, rfl, by omega, hnc, hcm, fun _ => ⟨g, 0, rfl, hB g hg0, fun i t hti => ?_⟩⟩
    obtain ⟨A1, n1, c1, A2, n2, c2, e0, e1, e2, r1, r2⟩ := hc i t hti
    have cell : ∀ j u, xs[j]? = some u → w.cell? ⟨g, j, none⟩ = some u := fun j u hu => by
      rw [cell_of_row w g j cur e (0, 0) hg]
      rw [← ht, List.getElem?_take] at hu
      split at hu
      · simpa using hu
      · cases hu
    simp only [Nat.zero_add]
    exact ⟨A1, n1, c1, A2, n2, c2, cell _ _ e0, cell _ _ e1, cell _ _ e2, r1.map hmm, r2.map hmm⟩
theorem elemNd : ElemK Tryz.prog 66 83 3 56 := by
  have h : (Tryz.prog.info? 83).map (fun i => (i.zero, i.size, i.bytes)) = some (some (.agg #[.int .i64 0, .slice none 0 0, .slice none 0 0]), 3, 56) := by kernel_rfl
  obtain ⟨i, h1, h2, h3, h4⟩ := info_parts h
  exact ⟨i, _, Tryz.underlying66, h1, h2, h3, h4, rfl⟩
section
variable {ops : Array Oper} {rest : List Oper} {o : Oper} {a : Act} {Q : Exit → Act → World → Prop} {w w0 : World}
/-- out = append(out, x) for an object x. S0: where objects may lie (from B on at least). -/
theorem appNd {S0 : Nat → Prop} {B d : Nat} {A0 : Option Addr} {n0 c0 : Nat} {src : Value} {xs : List Value} {ts : List Nd} {t : Nd} {A1 A2 : Option Addr} {n1 c1 n2 c2 : Nat} (hown : OwnK w B 83 3 (.slice A0 n0 c0) xs)
    (hc : NdCells (fun b => S0 b ∧ rowOf (.slice A0 n0 c0) ≠ some b) d w xs ts) (hr : RdK w 3 src [.int .i64 t.tag, .slice A1 n1 c1, .slice A2 n2 c2])
    (r1 : RdS (fun b => S0 b ∧ rowOf (.slice A0 n0 c0) ≠ some b) w (.slice A1 n1 c1) (bvs t.val)) (r2 : NdsS (fun b => S0 b ∧ rowOf (.slice A0 n0 c0) ≠ some b) d w (.slice A2 n2 c2) t.kids)
    (hb : ts.length < 1000000) (hB : B ≤ w.heap.size)
    {s x : Operand} (hgd : o.guard = none) (ho : o.op = .call { callee := .builtin .append, args := #[s, x], argTypes := #[66, 66] }) (hs : a.eval s = .slice A0 n0 c0) (hx : a.eval x = src)
    (h : ∀ A n c w', Hid (n = ts.length + 1) → OwnK w' B 83 3 (.slice A n c) (xs ++ [.int .i64 t.tag, .slice A1 n1 c1, .slice A2 n2 c2]) →
      NdCells (fun b => S0 b ∧ rowOf (.slice A n c) ≠ some b) d w' (xs ++ [.int .i64 t.tag, .slice A1 n1 c1, .slice A2 n2 c2]) (ts ++ [t]) → w.grownBy w' (rowOf (.slice A0 n0 c0)) → (∀ r, rowOf (.slice A0 n0 c0) = some r → B ≤ r) → wpList Tryz.prog ops Q rest (a.put o.dst (.slice A n c)) w') : wpList Tryz.prog ops Q (o :: rest) a w := by
  have hl := hc.1
  have hge := rowOf_geK hown
  refine wpList_appKR (k := 3) (by decide) elemNd (n := ts.length) (m := 1) hown (by omega) hr (by rfl) (by intro u hu; simp at hu; rcases hu with rfl | rfl | rfl <;> rfl) (Below.refl B w) (by omega) (by unfold maxLen; omega) hB hgd ho hs hx ?_
  intro A n c w' hn h1 _ h3 h4
  refine h A n c w' hn h1 ?_ h3 hge
  have hm : ∀ b, (S0 b ∧ rowOf (.slice A0 n0 c0) ≠ some b) → b < w.heap.size → (S0 b ∧ rowOf (.slice A n c) ≠ some b) ∧ w'.heap[b]? = w.heap[b]? := fun b hb hlt =>
    ⟨⟨hb.1, fun he => by
      rcases h4 b he with q | q
      · exact hb.2 q
      · omega⟩, h3.block b hlt (fun he => hb.2 he.symm)⟩
  exact NdCells.snoc (hc.map hm) (r1.map hm) (r2.map hm)
end
end Go.Proofs.YthbpdhanljpigaaGreatDoor
namespace Go.Proofs.YthbpdhanljpigaaGreatDoor
open Go.RowKit
set_option linter.unusedVariables false
set_option maxRecDepth 100000
theorem cntNs_le (d : Nat) (ts : List Nd) (k : Nat) : cntNs d (ts.take k) ≤ cntNs d ts := by
  cases d with
  | zero => exact Nat.le_refl _
  | succ d =>
    show ((ts.take k).map _).sum ≤ (ts.map _).sum
    conv => rhs; rw [← List.take_append_drop k ts]
    rw [List.map_append, List.sum_append]
    omega
/-- The count's block. -/
def CntAt (W : World) (gp : Nat) (k : Int) : Prop := W.heap[gp]? = some (.cells #[.int .i64 k] 3 (0, 0))
theorem CntAt.cell {W : World} {gp : Nat} {k : Int} (h : CntAt W gp k) : W.cell? ⟨gp, 0, none⟩ = some (.int .i64 k) := by rw [cell_of_row W gp 0 _ _ _ h]; rfl
theorem CntAt.frozen {W : World} {gp : Nat} {k : Int} (h : CntAt W gp k) : W.frozen? ⟨gp, 0, none⟩ = false := by unfold CntAt at h; simp [World.frozen?, h]
theorem CntAt.set {W : World} {gp : Nat} {k : Int} (h : CntAt W gp k) (k' : Int) : CntAt (W.setCell ⟨gp, 0, none⟩ (.int .i64 k')) gp k' := by
  unfold CntAt at h ⊢
  simp only [World.setCell, Array.getElem?_modify, if_true, h, Option.map_some]
  rfl
theorem CntAt.ext {W W' : World} {gp : Nat} {k : Int} (h : CntAt W gp k) (b : Ext W W') : CntAt W' gp k := (b.block gp (block_lt h)).trans h
set_option maxHeartbeats 4000000 in
theorem check_ok : ∀ (d : Nat) (ts : List Nd) (w0 W : World) (v : Value) (k dep : Int), okNs d ts → NdsRd d w0 v ts → Below w0.heap.size w0 W → CntAt W w0.heap.size k → 0 ≤ k → k + (cntNs d ts : Int) ≤ 1000000 → 0 ≤ dep → dep + (d : Int) ≤ 9 →
    Calls Tryz.prog 113 #[v, .int .i64 dep, .pointer (some ⟨w0.heap.size, 0, none⟩)] W fun e W' => e = .returned (.int .i64 0) ∧ Below w0.heap.size w0 W' ∧ CntAt W' w0.heap.size (k + (cntNs d ts : Int)) := by
  intro d
  induction d with
  | zero =>
    intro ts w0 W v k dep hok hr hb hc k0 k1 d0 d1
    obtain ⟨rfl, A, c, rfl, hcm⟩ := hr
    go_enter Tryz.func113, Tryz.ntmps113
    go_wp2
    go_loopw [13] (fun i wr => i = .int .i64 0 ∧ wr = W) (fun i _ => 0)
    case atStart => exact ⟨rfl, rfl⟩
    case round =>
      obtain ⟨rfl, rfl⟩ := hrel
      go_wp2
      go_ret
      exact ⟨rfl, hb, by simpa [cntNs] using hc⟩
  | succ d IH =>
    intro ts w0 W v k dep hok hr hb hc k0 k1 d0 d1
    have IH' := Lib.hid IH
    obtain ⟨A, n, c, rfl, hn, hnc, hcm, hel⟩ := hr.open_
    subst hn
    unfold maxLen at hcm
    clear hr IH
    have HE := Lib.hid hel
    have HO := Lib.hid hok
    have HK := Lib.hid k1
    clear hel hok k1
    go_enter Tryz.func113, Tryz.ntmps113
    go_wp2
    go_loopw [8, 9, 10, 13, 25, 30, 46] (fun _ _ _ i _ _ _ wr => ∃ j : Nat, j ≤ ts.length ∧ i = .int .i64 (j : Int) ∧ Below w0.heap.size w0 wr ∧ CntAt wr w0.heap.size (k + (cntNs (d + 1) (ts.take j) : Int))) (fun _ _ _ i _ _ _ _ => ts.length - (intOf i).toNat)
    case atStart => exact ⟨0, Nat.zero_le _, rfl, hb, by simpa [cntNs] using hc⟩
    case round =>
      obtain ⟨j, hj, rfl, bb, hcc⟩ := hrel
      by_cases hlt : j < ts.length
      · obtain ⟨t, ht⟩ : ∃ t, ts[j]? = some t := ⟨_, List.getElem?_eq_getElem hlt⟩
        obtain ⟨d', hd', b, o, rfl, hbl, A1, n1, c1, A2, n2, c2, e0, e1, e2, r1, r2⟩ := HE.out j t ht
        obtain rfl : d = d' := by omega
        obtain ⟨⟨t0, t1⟩, hv, hcv, hck, hko⟩ := HO.out t (List.mem_of_getElem? ht)
        have l0 := (bb.cell (p := ⟨b, o + j * 3, none⟩) hbl).trans e0
        have l1 := (bb.cell (p := ⟨b, o + j * 3 + 1, none⟩) hbl).trans e1
        have l2 := (bb.cell (p := ⟨b, o + j * 3 + 2, none⟩) hbl).trans e2
        have cc := hcc.cell
        have cf := hcc.frozen
        have hgp : w0.heap.size < wr.heap.size := block_lt hcc
        have hct := cntNs_take (d := d) ht
        have HKK := Lib.hid (show (cntNs (d + 1) (ts.take (j + 1)) : Int) = (cntNs (d + 1) (ts.take j) : Int) + (1 + (cntNs d t.kids : Int)) by rw [hct]; push_cast; rfl)
        have hle := cntNs_le (d + 1) ts (j + 1)
        have hK0 : (0 : Int) ≤ (cntNs d t.kids : Int) := Int.natCast_nonneg _
        have hsum : k + (cntNs (d + 1) (ts.take j) : Int) + 1 + (cntNs d t.kids : Int) ≤ 1000000 := by have := HK.out; omega
        have hm0 : (0 : Int) ≤ (cntNs (d + 1) (ts.take j) : Int) := Int.natCast_nonneg _
        clear hct hle
        generalize (cntNs (d + 1) (ts.take j) : Int) = m at *
        have hs0 : 0 ≤ k + m := by omega
        have hs1 : k + m + 1 ≤ 1000000 := by omega
        have HS := Lib.hid hsum
        clear hsum
        have wi1 : IntKind.i64.wrap ((j : Int)) = (j : Int) := IntWalk.i64_in _ (by omega)
        have zi1 : (0 : Int) ≤ (j : Int) := by omega
        have li1 : (j : Int) < (ts.length : Int) := by omega
        have ti1 : ((j : Int)).toNat = j := by omega
        go_wp2_with fail
        obtain ⟨wx, hwx⟩ : ∃ wx, wx = (wr.setCell ⟨w0.heap.size, 0, none⟩ (.int .i64 (k + m + 1))).alloc (.cells #[.int .i64 t.tag, .slice A1 n1 c1, .slice A2 n2 c2] 83) := ⟨_, rfl⟩
        rw [← hwx]
        have bx : Below w0.heap.size w0 wx := by rw [hwx]; exact (bb.setCell (p := ⟨w0.heap.size, 0, none⟩) (Nat.le_refl _) _).alloc (by simp; omega) _
        have cx : CntAt wx w0.heap.size (k + m + 1) := by rw [hwx]; exact (hcc.set (k + m + 1)).ext ((Below.refl _ _).alloc (Nat.le_refl _) _)
        have x0 : wx.cell? ⟨wr.heap.size, 0, none⟩ = some (.int .i64 t.tag) := by rw [hwx]; go_simp
        have x1 : wx.cell? ⟨wr.heap.size, 1, none⟩ = some (.slice A1 n1 c1) := by rw [hwx]; go_simp
        have x2 : wx.cell? ⟨wr.heap.size, 2, none⟩ = some (.slice A2 n2 c2) := by rw [hwx]; go_simp
        clear hwx l0 l1 l2 cc cf
        have hz1 : consT t.tag = true → n1 = 0 := fun h => by
          obtain ⟨A', n', c', e, hn, _⟩ := r1
          injection e with _ e _
          rw [hcv h] at hn
          exact e.trans hn
        have hz2 : consT t.tag = false → n2 = 0 := fun h => by
          obtain ⟨A', n', c', e, hn, _⟩ := r2.open_
          injection e with _ e _
          rw [hck h] at hn
          exact e.trans hn
        refine (cons_any _ _ t0 t1).mono ?_
        rintro e w' ⟨rfl, rfl⟩
        obtain ⟨q, hq⟩ : ∃ q, consT t.tag = q := ⟨_, rfl⟩
        rw [hq] at hz1 hz2 ⊢
        have hv' := Lib.hid hv
        clear hv hcv hck hq
        have HV := fun w => valid_any t.tag w t0 t1
        rw [hv'.out] at HV
        have HVV := Lib.hid HV
        clear HV
        cases q
        · obtain rfl : n2 = 0 := hz2 rfl
          clear hz1 hz2
          go_wp2_with fail
          refine (HVV.out _).mono ?_
          rintro e w' ⟨rfl, rfl⟩
          have hd9 : dep ≤ 8 := by omega
          go_wp2_with fail
          refine (IH'.out t.kids w0 wx _ (k + m + 1) (dep + 1) hko r2 bx cx (by omega) HS.out (by omega) (by omega)).mono ?_
          rintro e wy ⟨rfl, by_, cy⟩
          go_wp2_with fail
          go_roundw
          case rel => exact ⟨j + 1, by omega, by go_num, by_, by rw [HKK.out, show k + (m + (1 + (cntNs d t.kids : Int))) = k + m + 1 + (cntNs d t.kids : Int) by omega]; exact cy⟩
          case measure => simp [intOf]; omega
        · obtain rfl : n1 = 0 := hz1 rfl
          clear hz1 hz2
          go_wp2_with fail
          refine (HVV.out _).mono ?_
          rintro e w' ⟨rfl, rfl⟩
          have hd9 : dep ≤ 8 := by omega
          go_wp2_with fail
          refine (IH'.out t.kids w0 wx _ (k + m + 1) (dep + 1) hko r2 bx cx (by omega) HS.out (by omega) (by omega)).mono ?_
          rintro e wy ⟨rfl, by_, cy⟩
          go_wp2_with fail
          go_roundw
          case rel => exact ⟨j + 1, by omega, by go_num, by_, by rw [HKK.out, show k + (m + (1 + (cntNs d t.kids : Int))) = k + m + 1 + (cntNs d t.kids : Int) by omega]; exact cy⟩
          case measure => simp [intOf]; omega
      · obtain rfl : j = ts.length := by omega
        rw [List.take_length] at hcc
        go_wp2
        go_ret
        exact ⟨rfl, bb, hcc⟩
end Go.Proofs.YthbpdhanljpigaaGreatDoor
namespace Go.Proofs.YthbpdhanljpigaaGreatDoor
open Go.RowKit
set_option linter.unusedVariables false
set_option maxRecDepth 100000
/-- The blocks below B, and those from lo on below hi, are as they were. -/
def Keep (B lo hi : Nat) (W W' : World) : Prop := ∀ b, (b < B ∨ (lo ≤ b ∧ b < hi)) → W'.heap[b]? = W.heap[b]?
theorem Keep.refl (B lo hi : Nat) (W : World) : Keep B lo hi W W := fun _ _ => rfl
theorem Keep.ext {B lo hi : Nat} {W W' W'' : World} (h : Keep B lo hi W W') (e : Ext W' W'') (hB : B ≤ W'.heap.size) (hh : hi ≤ W'.heap.size) : Keep B lo hi W W'' := fun b hb => (e.block b (by omega)).trans (h b hb)
theorem Keep.grown {B lo hi : Nat} {W W' W'' : World} {row : Option Nat} (h : Keep B lo hi W W') (g : W'.grownBy W'' row) (hB : B ≤ W'.heap.size) (hh : hi ≤ W'.heap.size) (hr : ∀ k, row = some k → B ≤ k ∧ (k < lo ∨ hi ≤ k)) : Keep B lo hi W W'' := fun b hb =>
  (g.block b (by omega) (fun he => by obtain ⟨h1, h2⟩ := hr b he.symm; omega)).trans (h b hb)
theorem Keep.cell {B lo hi : Nat} {W W' : World} (h : Keep B lo hi W W') {b o : Nat} {v : Value} (hb : b < B ∨ (lo ≤ b ∧ b < hi)) (hc : W.cell? ⟨b, o, none⟩ = some v) : W'.cell? ⟨b, o, none⟩ = some v := by
  rw [← hc]
  exact World.cell?_of_block (h b hb)
theorem Keep.rdB {w W W' : World} {lo hi : Nat} {v : Value} {xs : List Value} (h : Keep w.heap.size lo hi W W') (r : Rd w v xs) (e : Ext w W) : Rd W' v xs :=
  r.keep fun p hp => (World.cell?_of_block (h _ (.inl hp))).trans (e.cell hp)
theorem Keep.rdO {B lo lo' : Nat} {W W' : World} {e : TypeId} {v : Value} {xs : List Value} (h : Keep B lo W.heap.size W W') (r : Own W lo' e v xs) (hlo : lo ≤ lo') : Rd W' v xs := by
  obtain ⟨A, n, c, rfl, hn, q | ⟨g, cur, rfl, h1, hg, hr⟩⟩ := r
  · exact (show Own W' lo' e (.slice A n c) xs from ⟨A, n, c, rfl, hn, .inl q⟩).rd
  · exact (show Own W' lo' e _ xs from ⟨_, n, c, rfl, hn, .inr ⟨g, cur, rfl, h1, (h g (.inr ⟨Nat.le_trans hlo h1, block_lt hg⟩)).trans hg, hr⟩⟩).rd
theorem rowOf_lt {w : World} {B : Nat} {e : TypeId} {v : Value} {xs : List Value} (h : Own w B e v xs) : ∀ k, rowOf v = some k → k < w.heap.size := by
  obtain ⟨A, n, c, rfl, hn, ⟨rfl, rfl⟩ | ⟨g, cur, rfl, hb, hg, _⟩⟩ := h
  · intro k hk; cases A <;> simp [rowOf] at hk
  · intro k hk
    cases c with
    | zero => simp [rowOf] at hk
    | succ c =>
      have := block_lt hg
      simp [rowOf] at hk
      omega
section
variable {ops : Array Oper} {rest : List Oper} {o : Oper} {a : Act} {Q : Exit → Act → World → Prop} {w w0 W : World}
/-- append, and what is kept apart from out's row. -/
theorem appK {lo hi : Nat} {A0 : Option Addr} {n0 c0 : Nat} {src : Value} {xs ys : List UInt8} (hown : Own w w0.heap.size 5 (.slice A0 n0 c0) (bvs xs)) (hr : Rd w src (bvs ys)) (hbel : Ext w0 w) (hK : Keep w0.heap.size lo hi W w)
    (hR : ∀ k, rowOf (.slice A0 n0 c0) = some k → k < lo ∨ hi ≤ k) (hhi : hi ≤ w.heap.size) (hb : xs.length + ys.length ≤ 140737488355328)
    {s x : Operand} (hgd : o.guard = none) (ho : o.op = .call { callee := .builtin .append, args := #[s, x], argTypes := #[26, 26] }) (hs : a.eval s = .slice A0 n0 c0) (hx : a.eval x = src)
    (h : ∀ A n c w', Hid (n = xs.length + ys.length) → Own w' w0.heap.size 5 (.slice A n c) (bvs (xs ++ ys)) → Ext w0 w' → Keep w0.heap.size lo hi W w' → (∀ k, rowOf (.slice A n c) = some k → k < lo ∨ hi ≤ k) → hi ≤ w'.heap.size → wpList Tryz.prog ops Q rest (a.put o.dst (.slice A n c)) w') : wpList Tryz.prog ops Q (o :: rest) a w :=
  appR hown hr hbel hb hbel.size hgd ho hs hx (by
    intro A n c w' h1 h2 h3 h4 h5
    refine h A n c w' h1 h2 h3 (hK.grown h4 hbel.size hhi fun k hk => ⟨rowOf_ge hown k hk, hR k hk⟩) (fun k hk => ?_) (Nat.le_trans hhi h4.size)
    rcases h5 k hk with q | q
    · exact hR k q
    · exact .inr (by omega))
end
theorem encNs_len_take (d : Nat) (ts : List Nd) (k : Nat) : (encNs d (ts.take k)).length ≤ (encNs d ts).length := by
  cases d with
  | zero => exact Nat.le_refl _
  | succ d =>
    rw [encNs_succ, encNs_succ]
    conv => rhs; rw [← List.take_append_drop k ts]
    rw [List.flatMap_append, List.length_append]
    omega
set_option maxHeartbeats 4000000 in
theorem write_ok : ∀ (d : Nat) (ts : List Nd) (w : World) (v : Value), okNs d ts → NdsRd d w v ts → (encNs d ts).length ≤ 65000 → Calls Tryz.prog 114 #[v] w (RetB w (encNs d ts)) := by
  intro d
  induction d with
  | zero =>
    intro ts w v hok hr hlen
    obtain ⟨rfl, A, c, rfl, hcm⟩ := hr
    go_enter Tryz.func114, Tryz.ntmps114
    go_wp2
    go_loopw [3, 9] (fun out i wr => out = .slice none 0 0 ∧ i = .int .i64 0 ∧ wr = w) (fun _ i _ => 0)
    case atStart => exact ⟨rfl, rfl, rfl⟩
    case round =>
      obtain ⟨rfl, rfl, rfl⟩ := hrel
      go_wp2
      go_ret
      exact ⟨_, _, _, rfl, (show _ = _ from rfl), nilB _ _, Below.refl _ _⟩
  | succ d IH =>
    intro ts w v hok hr hlen
    have IH' := Lib.hid IH
    obtain ⟨A, n, c, rfl, hn, hnc, hcm, hel⟩ := hr.open_
    subst hn
    unfold maxLen at hcm
    clear hr IH
    have HE := Lib.hid hel
    have HO := Lib.hid hok
    have HK := Lib.hid hlen
    clear hel hok hlen
    go_enter Tryz.func114, Tryz.ntmps114
    go_wp2
    go_loopw [3, 5, 6, 9] (fun out _ _ i wr => ∃ (j : Nat) (A' : Option Addr) (n' c' : Nat), j ≤ ts.length ∧ i = .int .i64 (j : Int) ∧ out = .slice A' n' c' ∧ Hid (n' = (encNs (d + 1) (ts.take j)).length) ∧ Own wr w.heap.size 5 (.slice A' n' c') (bvs (encNs (d + 1) (ts.take j))) ∧ Ext w wr) (fun _ _ _ i _ => ts.length - (intOf i).toNat)
    case atStart => exact ⟨0, none, 0, 0, Nat.zero_le _, rfl, rfl, rfl, nilB _ _, Below.refl _ _⟩
    case round =>
      obtain ⟨j, A', n', c', hj, rfl, rfl, hn', o, bb⟩ := hrel
      by_cases hlt : j < ts.length
      · obtain ⟨t, ht⟩ : ∃ t, ts[j]? = some t := ⟨_, List.getElem?_eq_getElem hlt⟩
        obtain ⟨d', hd', b, of, rfl, hbl, A1, n1, c1, A2, n2, c2, e0, e1, e2, r1, r2⟩ := HE.out j t ht
        obtain rfl : d = d' := by omega
        obtain ⟨⟨t0, t1⟩, hv, hcv, hck, hko⟩ := HO.out t (List.mem_of_getElem? ht)
        have l0 := (bb.cell (p := ⟨b, of + j * 3, none⟩) hbl).trans e0
        have l1 := (bb.cell (p := ⟨b, of + j * 3 + 1, none⟩) hbl).trans e1
        have l2 := (bb.cell (p := ⟨b, of + j * 3 + 2, none⟩) hbl).trans e2
        have ET := Lib.hid (encNs_take (d := d) ht)
        have EL := encNs_len_take (d + 1) ts (j + 1)
        rw [ET.out, List.length_append] at EL
        have EL2 := Lib.hid (Nat.le_trans EL HK.out)
        clear EL
        have hsh' : (contN d t).length ≤ 65000 := by
          have := EL2.out
          have h5 : (contN d t).length ≤ (encN d t).length := by unfold encN; simp only [List.length_append]; omega
          omega
        have hgp := bb.size
        have EN : (encNs (d + 1) (ts.take j)).length ≤ 65000 := Nat.le_trans (Nat.le_add_right _ _) EL2.out
        have wi1 : IntKind.i64.wrap ((j : Int)) = (j : Int) := IntWalk.i64_in _ (by omega)
        have zi1 : (0 : Int) ≤ (j : Int) := by omega
        have li1 : (j : Int) < (ts.length : Int) := by omega
        have ti1 : ((j : Int)).toNat = j := by omega
        go_wp2_with fail
        obtain ⟨wx, hwx⟩ : ∃ wx, wx = wr.alloc (.cells #[.int .i64 t.tag, .slice A1 n1 c1, .slice A2 n2 c2] 83) := ⟨_, rfl⟩
        rw [← hwx]
        have bx : Ext wr wx := by rw [hwx]; exact (Below.refl _ _).alloc (Nat.le_refl _) _
        have hxs : wr.heap.size < wx.heap.size := by rw [hwx]; simp
        have x0 : wx.cell? ⟨wr.heap.size, 0, none⟩ = some (.int .i64 t.tag) := by rw [hwx]; go_simp
        have x1 : wx.cell? ⟨wr.heap.size, 1, none⟩ = some (.slice A1 n1 c1) := by rw [hwx]; go_simp
        have x2 : wx.cell? ⟨wr.heap.size, 2, none⟩ = some (.slice A2 n2 c2) := by rw [hwx]; go_simp
        clear hwx l0 l1 l2
        refine (cons_any _ _ t0 t1).mono ?_
        rintro e w' ⟨rfl, rfl⟩
        obtain ⟨q, hq⟩ : ∃ q, consT t.tag = q := ⟨_, rfl⟩
        rw [hq]
        cases q
        · have hct : contN d t = t.val := by unfold contN; rw [hq]; rfl
          have hn1 : n1 = (contN d t).length := by
            obtain ⟨A'', n'', c'', e, hn, _⟩ := r1
            injection e with _ e _
            rw [hct, e, hn, bvs_length]
          have RC : ∀ W', Keep w.heap.size wr.heap.size wx.heap.size wx W' → Rd W' (.slice A1 n1 c1) (bvs (contN d t)) := fun W' h => by rw [hct]; exact h.rdB r1 (bb.tr bx)
          have b6 : Ext wr wx := bx
          clear hct hcv hck hq e0 e1 e2
          obtain ⟨wy, hwy⟩ : ∃ wy, wy = wx := ⟨_, rfl⟩
          subst hwy
          have hxy := hxs
          have HL := fun W => length_any n1 W (by omega)
          rw [show lenB n1 = lenB (contN d t).length by rw [hn1]] at HL
          have HLL := Lib.hid HL
          have HN1 := Lib.hid hn1
          clear HL hn1
          have sz := b6.size
          by_cases hl : 255 < t.tag
          · have h81 : t.tag / 256 % 256 = t.tag / 256 := by omega
            have ht8 : tagB t.tag = [u8 (t.tag / 256)] ++ [u8 t.tag] := by rw [tagB, if_pos hl]; rfl
            have a1 : Ext wy (wy.alloc (.cells #[.int .u8 (t.tag / 256)] 5)) := (Below.refl _ _).alloc (Nat.le_refl _) _
            go_wp2_with (first
              | (refine appK (lo := wr.heap.size) (hi := wy.heap.size) (W := wy) ((o.ext b6).ext a1) (Own.oneC wy (u8 (t.tag / 256)) (t.tag / 256) (by rw [u8_val]; omega)).rd ((bb.tr b6).tr a1) ((Keep.refl _ _ _ _).ext a1 (by omega) (Nat.le_refl _)) (fun k hk => .inl (rowOf_lt o k hk)) a1.size (by simp only [List.length_cons, List.length_nil]; omega) rfl rfl rfl rfl ?_; intro A7 n7 c7 w7 hn7 o7 (b7 : Ext _ _) K7 R7 s7; have y7 := K7.cell (b := wr.heap.size) (o := 0) (.inr ⟨Nat.le_refl _, hxy⟩) x0; have a7 : Ext w7 (w7.alloc (.cells #[.int .u8 (t.tag % 256)] 5)) := (Below.refl _ _).alloc (Nat.le_refl _) _)
              | (refine appK (lo := wr.heap.size) (hi := wy.heap.size) (W := wy) (o7.ext a7) (Own.oneC w7 (u8 t.tag) (t.tag % 256) (by rw [u8_val])).rd (b7.tr a7) (K7.ext a7 b7.size s7) R7 (Nat.le_trans s7 a7.size) (by simp only [List.length_append, List.length_cons, List.length_nil]; omega) rfl rfl rfl rfl ?_; intro A8 n8 c8 w8 hn8 o8 (b8 : Ext _ _) K8 R8 s8)
              | (go_at_call 154; refine (HLL.out _).mono ?_; rintro e w9 ⟨A9, n9, c9, rfl, hn9, o9, b9⟩; have K9 := K8.ext b9 b8.size s8)
              | (refine appK (lo := wr.heap.size) (hi := wy.heap.size) (W := wy) (o8.ext b9) o9.rd (b8.tr b9) K9 R8 (Nat.le_trans s8 b9.size) (by have := lenB_le (contN d t).length; simp only [List.length_append, List.length_cons, List.length_nil]; omega) rfl rfl rfl rfl ?_; intro Aa na ca wa hna oa (ba : Ext _ _) Ka Ra sa)
              | (refine appK (lo := wr.heap.size) (hi := wy.heap.size) (W := wy) oa (RC _ Ka) ba Ka Ra sa (by have := lenB_le (contN d t).length; simp only [List.length_append, List.length_cons, List.length_nil]; omega) rfl rfl rfl rfl ?_; intro Ab nb cb wb hnb ob (bB : Ext _ _) Kb Rb sb))
            have EE : encNs (d + 1) (ts.take (j + 1)) = encNs (d + 1) (ts.take j) ++ [u8 (t.tag / 256)] ++ [u8 t.tag] ++ lenB (contN d t).length ++ contN d t := by rw [ET.out, encN, ht8]; simp only [List.append_assoc]
            go_roundw
            case rel => exact ⟨j + 1, Ab, nb, cb, by omega, by go_num, rfl, (show _ = _ by rw [EE, hnb.out]; simp only [List.length_append]), by rw [EE]; exact ob, bB⟩
            case measure => simp [intOf]; omega
          · have ht8 : tagB t.tag = [u8 t.tag] := by rw [tagB, if_neg hl]
            have a7 : Ext wy (wy.alloc (.cells #[.int .u8 t.tag] 5)) := (Below.refl _ _).alloc (Nat.le_refl _) _
            go_wp2_with (first
              | (refine appK (lo := wr.heap.size) (hi := wy.heap.size) (W := wy) ((o.ext b6).ext a7) (Own.oneC wy (u8 t.tag) t.tag (by rw [u8_val]; omega)).rd ((bb.tr b6).tr a7) ((Keep.refl _ _ _ _).ext a7 (by omega) (Nat.le_refl _)) (fun k hk => .inl (rowOf_lt o k hk)) a7.size (by simp only [List.length_cons, List.length_nil]; omega) rfl rfl rfl rfl ?_; intro A8 n8 c8 w8 hn8 o8 (b8 : Ext _ _) K8 R8 s8)
              | (go_at_call 154; refine (HLL.out _).mono ?_; rintro e w9 ⟨A9, n9, c9, rfl, hn9, o9, b9⟩; have K9 := K8.ext b9 b8.size s8)
              | (refine appK (lo := wr.heap.size) (hi := wy.heap.size) (W := wy) (o8.ext b9) o9.rd (b8.tr b9) K9 R8 (Nat.le_trans s8 b9.size) (by have := lenB_le (contN d t).length; simp only [List.length_append, List.length_cons, List.length_nil]; omega) rfl rfl rfl rfl ?_; intro Aa na ca wa hna oa (ba : Ext _ _) Ka Ra sa)
              | (refine appK (lo := wr.heap.size) (hi := wy.heap.size) (W := wy) oa (RC _ Ka) ba Ka Ra sa (by have := lenB_le (contN d t).length; simp only [List.length_append, List.length_cons, List.length_nil]; omega) rfl rfl rfl rfl ?_; intro Ab nb cb wb hnb ob (bB : Ext _ _) Kb Rb sb))
            have EE : encNs (d + 1) (ts.take (j + 1)) = encNs (d + 1) (ts.take j) ++ [u8 t.tag] ++ lenB (contN d t).length ++ contN d t := by rw [ET.out, encN, ht8]; simp only [List.append_assoc]
            go_roundw
            case rel => exact ⟨j + 1, Ab, nb, cb, by omega, by go_num, rfl, (show _ = _ by rw [EE, hnb.out]; simp only [List.length_append]), by rw [EE]; exact ob, bB⟩
            case measure => simp [intOf]; omega
        · have hct : contN d t = encNs d t.kids := by unfold contN; rw [hq]; rfl
          have hkl : (encNs d t.kids).length ≤ 65000 := by rw [hct] at hsh'; omega
          go_wp2_with fail
          refine (IH'.out t.kids wx _ hko (r2.ext (bb.tr bx)) hkl).mono ?_
          rintro e wy ⟨A1, n1, c1, rfl, hn1, oc, bxy⟩
          rw [← hct] at hn1 oc
          have x0 := (bxy.cell (p := ⟨wr.heap.size, 0, none⟩) hxs).trans x0
          have hn1 : n1 = (contN d t).length := hn1
          have RC : ∀ W', Keep w.heap.size wr.heap.size wy.heap.size wy W' → Rd W' (.slice A1 n1 c1) (bvs (contN d t)) := fun W' h => h.rdO oc (Nat.le_of_lt hxs)
          have b6 : Ext wr wy := bx.tr bxy
          have hxy := Nat.lt_of_lt_of_le hxs bxy.size
          clear hct hcv hck hq e0 e1 e2 hkl x1 x2
          have HL := fun W => length_any n1 W (by omega)
          rw [show lenB n1 = lenB (contN d t).length by rw [hn1]] at HL
          have HLL := Lib.hid HL
          have HN1 := Lib.hid hn1
          clear HL hn1
          have sz := b6.size
          by_cases hl : 255 < t.tag
          · have h81 : t.tag / 256 % 256 = t.tag / 256 := by omega
            have ht8 : tagB t.tag = [u8 (t.tag / 256)] ++ [u8 t.tag] := by rw [tagB, if_pos hl]; rfl
            have a1 : Ext wy (wy.alloc (.cells #[.int .u8 (t.tag / 256)] 5)) := (Below.refl _ _).alloc (Nat.le_refl _) _
            go_wp2_with (first
              | (refine appK (lo := wr.heap.size) (hi := wy.heap.size) (W := wy) ((o.ext b6).ext a1) (Own.oneC wy (u8 (t.tag / 256)) (t.tag / 256) (by rw [u8_val]; omega)).rd ((bb.tr b6).tr a1) ((Keep.refl _ _ _ _).ext a1 (by omega) (Nat.le_refl _)) (fun k hk => .inl (rowOf_lt o k hk)) a1.size (by simp only [List.length_cons, List.length_nil]; omega) rfl rfl rfl rfl ?_; intro A7 n7 c7 w7 hn7 o7 (b7 : Ext _ _) K7 R7 s7; have y7 := K7.cell (b := wr.heap.size) (o := 0) (.inr ⟨Nat.le_refl _, hxy⟩) x0; have a7 : Ext w7 (w7.alloc (.cells #[.int .u8 (t.tag % 256)] 5)) := (Below.refl _ _).alloc (Nat.le_refl _) _)
              | (refine appK (lo := wr.heap.size) (hi := wy.heap.size) (W := wy) (o7.ext a7) (Own.oneC w7 (u8 t.tag) (t.tag % 256) (by rw [u8_val])).rd (b7.tr a7) (K7.ext a7 b7.size s7) R7 (Nat.le_trans s7 a7.size) (by simp only [List.length_append, List.length_cons, List.length_nil]; omega) rfl rfl rfl rfl ?_; intro A8 n8 c8 w8 hn8 o8 (b8 : Ext _ _) K8 R8 s8)
              | (go_at_call 154; refine (HLL.out _).mono ?_; rintro e w9 ⟨A9, n9, c9, rfl, hn9, o9, b9⟩; have K9 := K8.ext b9 b8.size s8)
              | (refine appK (lo := wr.heap.size) (hi := wy.heap.size) (W := wy) (o8.ext b9) o9.rd (b8.tr b9) K9 R8 (Nat.le_trans s8 b9.size) (by have := lenB_le (contN d t).length; simp only [List.length_append, List.length_cons, List.length_nil]; omega) rfl rfl rfl rfl ?_; intro Aa na ca wa hna oa (ba : Ext _ _) Ka Ra sa)
              | (refine appK (lo := wr.heap.size) (hi := wy.heap.size) (W := wy) oa (RC _ Ka) ba Ka Ra sa (by have := lenB_le (contN d t).length; simp only [List.length_append, List.length_cons, List.length_nil]; omega) rfl rfl rfl rfl ?_; intro Ab nb cb wb hnb ob (bB : Ext _ _) Kb Rb sb))
            have EE : encNs (d + 1) (ts.take (j + 1)) = encNs (d + 1) (ts.take j) ++ [u8 (t.tag / 256)] ++ [u8 t.tag] ++ lenB (contN d t).length ++ contN d t := by rw [ET.out, encN, ht8]; simp only [List.append_assoc]
            go_roundw
            case rel => exact ⟨j + 1, Ab, nb, cb, by omega, by go_num, rfl, (show _ = _ by rw [EE, hnb.out]; simp only [List.length_append]), by rw [EE]; exact ob, bB⟩
            case measure => simp [intOf]; omega
          · have ht8 : tagB t.tag = [u8 t.tag] := by rw [tagB, if_neg hl]
            have a7 : Ext wy (wy.alloc (.cells #[.int .u8 t.tag] 5)) := (Below.refl _ _).alloc (Nat.le_refl _) _
            go_wp2_with (first
              | (refine appK (lo := wr.heap.size) (hi := wy.heap.size) (W := wy) ((o.ext b6).ext a7) (Own.oneC wy (u8 t.tag) t.tag (by rw [u8_val]; omega)).rd ((bb.tr b6).tr a7) ((Keep.refl _ _ _ _).ext a7 (by omega) (Nat.le_refl _)) (fun k hk => .inl (rowOf_lt o k hk)) a7.size (by simp only [List.length_cons, List.length_nil]; omega) rfl rfl rfl rfl ?_; intro A8 n8 c8 w8 hn8 o8 (b8 : Ext _ _) K8 R8 s8)
              | (go_at_call 154; refine (HLL.out _).mono ?_; rintro e w9 ⟨A9, n9, c9, rfl, hn9, o9, b9⟩; have K9 := K8.ext b9 b8.size s8)
              | (refine appK (lo := wr.heap.size) (hi := wy.heap.size) (W := wy) (o8.ext b9) o9.rd (b8.tr b9) K9 R8 (Nat.le_trans s8 b9.size) (by have := lenB_le (contN d t).length; simp only [List.length_append, List.length_cons, List.length_nil]; omega) rfl rfl rfl rfl ?_; intro Aa na ca wa hna oa (ba : Ext _ _) Ka Ra sa)
              | (refine appK (lo := wr.heap.size) (hi := wy.heap.size) (W := wy) oa (RC _ Ka) ba Ka Ra sa (by have := lenB_le (contN d t).length; simp only [List.length_append, List.length_cons, List.length_nil]; omega) rfl rfl rfl rfl ?_; intro Ab nb cb wb hnb ob (bB : Ext _ _) Kb Rb sb))
            have EE : encNs (d + 1) (ts.take (j + 1)) = encNs (d + 1) (ts.take j) ++ [u8 t.tag] ++ lenB (contN d t).length ++ contN d t := by rw [ET.out, encN, ht8]; simp only [List.append_assoc]
            go_roundw
            case rel => exact ⟨j + 1, Ab, nb, cb, by omega, by go_num, rfl, (show _ = _ by rw [EE, hnb.out]; simp only [List.length_append]), by rw [EE]; exact ob, bB⟩
            case measure => simp [intOf]; omega
      · obtain rfl : j = ts.length := by omega
        rw [List.take_length] at o hn'
        go_wp2
        go_ret
        exact ⟨_, _, _, rfl, hn', o, bb⟩
end Go.Proofs.YthbpdhanljpigaaGreatDoor
namespace Go.Proofs.YthbpdhanljpigaaGreatDoor
open Go.RowKit
set_option linter.unusedVariables false
set_option maxRecDepth 100000
set_option maxHeartbeats 1000000 in
theorem encode_ok {d : Nat} {ts : List Nd} {v : Value} (w : World) (hok : okNs d ts) (hr : NdsRd d w v ts) (hd : d ≤ 8) (hc : cntNs d ts ≤ 256) (hl : (encNs d ts).length ≤ 4096) :
    Calls Tryz.prog 57 #[v] w (RetBE w (encNs d ts) 0) := by
  obtain ⟨A, n, c, hv, hn, hnc, hcm, _⟩ := hr.open_
  have hr' := Lib.hid hr
  have hok' := Lib.hid hok
  subst hv hn
  clear hr hok
  go_enter Tryz.func57, Tryz.ntmps57
  go_wp2_with fail
  have c0 : CntAt (w.alloc (.cells #[.int .i64 0] 3)) w.heap.size 0 := by unfold CntAt; exact heap_alloc_new' w _
  refine (check_ok d ts w _ _ 0 1 hok'.out hr'.out ((Below.refl _ _).alloc (Nat.le_refl _) _) c0 (by omega) (by omega) (by omega) (by omega)).mono ?_
  rintro e w1 ⟨rfl, b1, c1⟩
  rw [Int.zero_add] at c1
  have q1 := c1.cell
  have hc' : (cntNs d ts : Int) ≤ 256 := by omega
  go_wp2_with fail
  refine (write_ok d ts w1 _ hok'.out (hr'.out.below b1) (by omega)).mono ?_
  rintro e w2 ⟨A2, n2, c2, rfl, hn2, o2, b2⟩
  have hn2' : (n2 : Int) ≤ 4096 := by rw [hn2.out]; omega
  go_wp2
  go_ret2
  exact ⟨_, _, _, rfl, hn2, o2.mono b1.size, b1.trans (b2.mono b1.size)⟩
set_option maxHeartbeats 4000000 in
theorem refcheck_ok : ∀ (d : Nat) (ts : List Nd) (w : World) (v : Value) (dep : Int), okNs d ts → NdsRd d w v ts → 0 ≤ dep → dep + (d : Int) ≤ 9 →
    Calls Tryz.prog 115 #[v, .int .i64 dep] w (RetQ w (.int .i64 0)) := by
  intro d
  induction d with
  | zero =>
    intro ts w v dep hok hr d0 d1
    obtain ⟨rfl, A, c, rfl, hcm⟩ := hr
    go_enter Tryz.func115, Tryz.ntmps115
    go_wp2
    go_loopw [5] (fun i wr => i = .int .i64 0 ∧ wr = w) (fun i _ => 0)
    case atStart => exact ⟨rfl, rfl⟩
    case round =>
      obtain ⟨rfl, rfl⟩ := hrel
      go_wp2
      go_ret
      exact ⟨rfl, Below.refl _ _⟩
  | succ d IH =>
    intro ts w v dep hok hr d0 d1
    have IH' := Lib.hid IH
    obtain ⟨A, n, c, rfl, hn, hnc, hcm, hel⟩ := hr.open_
    subst hn
    unfold maxLen at hcm
    clear hr IH
    have HE := Lib.hid hel
    have HO := Lib.hid hok
    clear hel hok
    go_enter Tryz.func115, Tryz.ntmps115
    go_wp2
    go_loopw [5, 6, 7, 18, 23, 45] (fun i _ _ _ _ _ wr => ∃ j : Nat, j ≤ ts.length ∧ i = .int .i64 (j : Int) ∧ Ext w wr) (fun i _ _ _ _ _ _ => ts.length - (intOf i).toNat)
    case atStart => exact ⟨0, Nat.zero_le _, rfl, Below.refl _ _⟩
    case round =>
      obtain ⟨j, hj, rfl, bb⟩ := hrel
      by_cases hlt : j < ts.length
      · obtain ⟨t, ht⟩ : ∃ t, ts[j]? = some t := ⟨_, List.getElem?_eq_getElem hlt⟩
        obtain ⟨d', hd', b, o, rfl, hbl, A1, n1, c1, A2, n2, c2, e0, e1, e2, r1, r2⟩ := HE.out j t ht
        obtain rfl : d = d' := by omega
        obtain ⟨⟨t0, t1⟩, hv, hcv, hck, hko⟩ := HO.out t (List.mem_of_getElem? ht)
        have l0 := (bb.cell (p := ⟨b, o + j * 3, none⟩) hbl).trans e0
        have l1 := (bb.cell (p := ⟨b, o + j * 3 + 1, none⟩) hbl).trans e1
        have l2 := (bb.cell (p := ⟨b, o + j * 3 + 2, none⟩) hbl).trans e2
        have wi1 : IntKind.i64.wrap ((j : Int)) = (j : Int) := IntWalk.i64_in _ (by omega)
        have zi1 : (0 : Int) ≤ (j : Int) := by omega
        have li1 : (j : Int) < (ts.length : Int) := by omega
        have ti1 : ((j : Int)).toNat = j := by omega
        go_wp2_with fail
        obtain ⟨wx, hwx⟩ : ∃ wx, wx = wr.alloc (.cells #[.int .i64 t.tag, .slice A1 n1 c1, .slice A2 n2 c2] 83) := ⟨_, rfl⟩
        rw [← hwx]
        have bx : Ext wr wx := by rw [hwx]; exact (Below.refl _ _).alloc (Nat.le_refl _) _
        have x0 : wx.cell? ⟨wr.heap.size, 0, none⟩ = some (.int .i64 t.tag) := by rw [hwx]; go_simp
        have x1 : wx.cell? ⟨wr.heap.size, 1, none⟩ = some (.slice A1 n1 c1) := by rw [hwx]; go_simp
        have x2 : wx.cell? ⟨wr.heap.size, 2, none⟩ = some (.slice A2 n2 c2) := by rw [hwx]; go_simp
        clear hwx l0 l1 l2
        have hz1 : consT t.tag = true → n1 = 0 := fun h => by
          obtain ⟨A', n', c', e, hn, _⟩ := r1
          injection e with _ e _
          rw [hcv h] at hn
          exact e.trans hn
        have hz2 : consT t.tag = false → n2 = 0 := fun h => by
          obtain ⟨A', n', c', e, hn, _⟩ := r2.open_
          injection e with _ e _
          rw [hck h] at hn
          exact e.trans hn
        have HC := fun w => refcons_any t.tag w t0 t1
        obtain ⟨q, hq⟩ : ∃ q, consT t.tag = q := ⟨_, rfl⟩
        rw [hq] at hz1 hz2 HC
        have HV := fun w => refvalid_any t.tag w t0 t1
        rw [hv] at HV
        have HVV := Lib.hid HV
        have HCC := Lib.hid HC
        clear hv hcv hck hq HV HC
        have hd9 : dep ≤ 8 := by omega
        refine (HVV.out _).mono ?_
        rintro e w' ⟨rfl, rfl⟩
        cases q
        · obtain rfl : n2 = 0 := hz2 rfl
          clear hz1 hz2
          go_wp2_with (go_at_call 156; refine (HCC.out _).mono ?_; rintro e w' ⟨rfl, rfl⟩)
          refine (IH'.out t.kids wx _ (dep + 1) hko (r2.ext (bb.tr bx)) (by omega) (by omega)).mono ?_
          rintro e wy ⟨rfl, by_⟩
          go_wp2_with fail
          go_roundw
          case rel => exact ⟨j + 1, by omega, by go_num, (bb.tr bx).tr by_⟩
          case measure => simp [intOf]; omega
        · obtain rfl : n1 = 0 := hz1 rfl
          clear hz1 hz2
          go_wp2_with (go_at_call 156; refine (HCC.out _).mono ?_; rintro e w' ⟨rfl, rfl⟩)
          refine (IH'.out t.kids wx _ (dep + 1) hko (r2.ext (bb.tr bx)) (by omega) (by omega)).mono ?_
          rintro e wy ⟨rfl, by_⟩
          go_wp2_with fail
          go_roundw
          case rel => exact ⟨j + 1, by omega, by go_num, (bb.tr bx).tr by_⟩
          case measure => simp [intOf]; omega
      · obtain rfl : j = ts.length := by omega
        go_wp2
        go_ret
        exact ⟨rfl, bb⟩
set_option maxHeartbeats 2000000 in
theorem refcount_ok : ∀ (d : Nat) (ts : List Nd) (w : World) (v : Value), okNs d ts → NdsRd d w v ts → cntNs d ts ≤ 256 →
    Calls Tryz.prog 116 #[v, .int .i64 256] w fun e w' => e = .returned (.int .i64 (cntNs d ts : Int)) ∧ w = w' := by
  intro d
  induction d with
  | zero =>
    intro ts w v hok hr hc
    obtain ⟨rfl, A, c, rfl, hcm⟩ := hr
    go_enter Tryz.func116, Tryz.ntmps116
    go_wp2
    go_loopw [5, 6] (fun n i wr => n = .int .i64 0 ∧ i = .int .i64 0 ∧ wr = w) (fun _ i _ => 0)
    case atStart => exact ⟨rfl, rfl, rfl⟩
    case round =>
      obtain ⟨rfl, rfl, rfl⟩ := hrel
      go_wp2
      go_ret
      exact ⟨rfl, rfl⟩
  | succ d IH =>
    intro ts w v hok hr hc
    have IH' := Lib.hid IH
    obtain ⟨A, n, c, rfl, hn, hnc, hcm, hel⟩ := hr.open_
    subst hn
    unfold maxLen at hcm
    clear hr IH
    have HE := Lib.hid hel
    have HO := Lib.hid hok
    have HC := Lib.hid hc
    clear hel hok hc
    go_enter Tryz.func116, Tryz.ntmps116
    go_wp2
    go_loopw [5, 6] (fun m i wr => ∃ j : Nat, j ≤ ts.length ∧ i = .int .i64 (j : Int) ∧ m = .int .i64 (cntNs (d + 1) (ts.take j) : Int) ∧ w = wr) (fun _ i _ => ts.length - (intOf i).toNat)
    case atStart => exact ⟨0, Nat.zero_le _, rfl, by simp [cntNs], rfl⟩
    case round =>
      obtain ⟨j, hj, rfl, rfl, rfl⟩ := hrel
      have hle := cntNs_le (d + 1) ts j
      have hle' : (cntNs (d + 1) (ts.take j) : Int) ≤ 256 := by have := HC.out; omega
      have hm0 : (0 : Int) ≤ (cntNs (d + 1) (ts.take j) : Int) := Int.natCast_nonneg _
      by_cases hlt : j < ts.length
      · obtain ⟨t, ht⟩ : ∃ t, ts[j]? = some t := ⟨_, List.getElem?_eq_getElem hlt⟩
        obtain ⟨d', hd', b, o, rfl, hbl, A1, n1, c1, A2, n2, c2, e0, e1, e2, r1, r2⟩ := HE.out j t ht
        obtain rfl : d = d' := by omega
        obtain ⟨⟨t0, t1⟩, hv, hcv, hck, hko⟩ := HO.out t (List.mem_of_getElem? ht)
        have hct := cntNs_take (d := d) ht
        have hle2 := cntNs_le (d + 1) ts (j + 1)
        have hk : cntNs d t.kids ≤ 256 := by have := HC.out; omega
        have hk' : (cntNs d t.kids : Int) ≤ 256 := by omega
        have hk0 : (0 : Int) ≤ (cntNs d t.kids : Int) := Int.natCast_nonneg _
        have HKK := Lib.hid (show (cntNs (d + 1) (ts.take (j + 1)) : Int) = (cntNs (d + 1) (ts.take j) : Int) + (1 + (cntNs d t.kids : Int)) by rw [hct]; push_cast; rfl)
        clear hct hle2 hle hv hcv hck e0 e1
        have wi2 : IntKind.i64.wrap ((j : Int)) = (j : Int) := IntWalk.i64_in _ (by omega)
        have zi2 : (0 : Int) ≤ (j : Int) := by omega
        have li2 : (j : Int) < (ts.length : Int) := by omega
        have ti2 : ((j : Int)).toNat = j := by omega
        go_wp2_with fail
        refine (IH'.out t.kids _ _ hko r2 hk).mono ?_
        rintro e wy ⟨rfl, rfl⟩
        go_wp2_with fail
        go_roundw
        case rel => exact ⟨j + 1, by omega, by go_num, by rw [HKK.out], by first | trivial | rfl⟩
        case measure => simp [intOf]; omega
      · obtain rfl : j = ts.length := by omega
        rw [List.take_length] at hle' hm0 ⊢
        clear hle
        go_wp2
        go_ret
        exact ⟨rfl, rfl⟩
end Go.Proofs.YthbpdhanljpigaaGreatDoor
