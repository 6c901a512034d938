/- Parts Xr Xe Xt of the proof. -/
import Derived.Test.YthbpdhanljpigaaGreatDoorVaw
import Derived.Test.YthbpdhanljpigaaGreatDoorVax
import Derived.Test.YthbpdhanljpigaaGreatDoorVah
import Derived.Test.YthbpdhanljpigaaGreatDoorVao
namespace Go.Proofs.YthbpdhanljpigaaGreatDoor
open Go.RowKit
set_option linter.unusedVariables false
set_option maxRecDepth 100000
/-! plain -/
theorem rdHs_none {x : Nd} (h : rdH x = none) : ∀ {l : List Nd}, x ∈ l → rdHs l = none
  | [], hx => by cases hx
  | y :: r, hx => by
    unfold rdHs
    rcases List.mem_cons.1 hx with rfl | hx
    · rw [h]
    · cases rdH y with
      | none => rfl
      | some a => simp only []; rw [rdHs_none h hx]
theorem rdHs_snoc {x : Nd} {a : Int × List UInt8} (h : rdH x = some a) : ∀ {l : List Nd} {hs : List (Int × List UInt8)}, rdHs l = some hs → rdHs (l ++ [x]) = some (hs ++ [a])
  | [], hs, hl => by
    injection hl with hl
    subst hl
    show rdHs [x] = _
    unfold rdHs
    rw [h]
    rfl
  | y :: r, hs, hl => by
    unfold rdHs at hl
    show rdHs (y :: (r ++ [x])) = _
    unfold rdHs
    split at hl
    · cases hl
    · rename_i b hb
      split at hl
      · cases hl
      · rename_i l' hl'
        injection hl with hl
        subst hl
        rw [rdHs_snoc h hl']
        rfl
theorem rdM_len {ts : List Nd} (h : ts.length ≠ 1) : rdM ts = none := by
  match ts, h with
  | [], _ => rfl
  | [x], h => exact absurd rfl h
  | _ :: _ :: _, _ => rfl
theorem pair_kids {x : Nd} {a b : Int} (h : pairX x a b = true) : ∃ p q, x.kids = [p, q] ∧ x.tag = 48 ∧ p.tag = a ∧ q.tag = b := by
  unfold pairX at h
  split at h
  · rename_i p q e
    simp only [Bool.and_eq_true, beq_iff_eq] at h
    exact ⟨p, q, e, h.1.1, h.1.2, h.2⟩
  · cases h
theorem rdM_pair {x : Nd} (h : pairX x 2 48 = false) : rdM [x] = none := by
  show (match x.kids with | [p, q] => _ | _ => none) = none
  split
  · rename_i p q e
    rw [pairX_yes e] at h
    rw [if_neg]
    rintro ⟨h1, h2, h3, _⟩
    rw [h1, h2, h3] at h
    exact absurd h (by decide)
  · rfl
theorem rdM_one {x p q : Nd} (h : x.kids = [p, q]) (hl : p.val.length ≠ 1) : rdM [x] = none := by
  show (match x.kids with | [p, q] => _ | _ => none) = none
  rw [h]
  exact if_neg fun h => hl h.2.2.2
theorem rdM_go {x p q : Nd} (h : x.kids = [p, q]) (h1 : x.tag = 48) (h2 : p.tag = 2) (h3 : q.tag = 48) (hl : p.val.length = 1) : rdM [x] = match rdHs q.kids with | none => none | some l => some (byteI p.val 0, l) := by
  show (match x.kids with | [p, q] => _ | _ => none) = _
  rw [h]
  exact if_pos ⟨h1, h2, h3, hl⟩
theorem rdH_pair {x : Nd} (h : pairX x 2 4 = false) : rdH x = none := by
  unfold rdH
  split
  · rename_i p q e
    rw [pairX_yes e] at h
    rw [if_neg]
    rintro ⟨h1, h2, h3, _⟩
    rw [h1, h2, h3] at h
    exact absurd h (by decide)
  · rfl
theorem rdH_one {x p q : Nd} (h : x.kids = [p, q]) (hl : p.val.length ≠ 1) : rdH x = none := by
  unfold rdH
  rw [h]
  exact if_neg fun h => hl h.2.2.2
theorem rdH_go {x p q : Nd} (h : x.kids = [p, q]) (h1 : x.tag = 48) (h2 : p.tag = 2) (h3 : q.tag = 4) (hl : p.val.length = 1) : rdH x = some (byteI p.val 0, q.val) := by
  unfold rdH
  rw [h]
  exact if_pos ⟨h1, h2, h3, hl⟩
theorem take_snoc {α : Type} {l : List α} {j : Nat} {x : α} (h : l[j]? = some x) : l.take (j + 1) = l.take j ++ [x] := by
  obtain ⟨hj, rfl⟩ := List.getElem?_eq_some_iff.1 h
  rw [List.take_succ_eq_append_getElem hj]
/-! memory -/
def seZ : SE := ⟨0, [], [], 0, 0⟩
/-- The row of a security object. -/
def seRow (z : Int) (vh vc : Value) (e s : Int) : Array Value := #[.int .i64 z, vh, vc, .int .i64 e, .int .i64 s]
theorem seRow_one {vh vc : Value} (z e s : Int) (h1 : vh.oneCell' = true) (h2 : vc.oneCell' = true) : (seRow z vh vc e s).all (·.oneCell') = true := by
  simp [seRow, Value.oneCell']
  exact ⟨h1, h2⟩
theorem info_se : (Tryz.prog.info? 37).map (·.size) = some 5 := by kernel_rfl
theorem SeAt.set0 {w : World} {g : Nat} {s : SE} {vh vc : Value} (h : SeAt w g s vh vc) (z : Int) : SeAt (w.setCell ⟨g, 0, none⟩ (.int .i64 z)) g { s with v := z } vh vc := by
  unfold SeAt at h ⊢
  simp only [World.setCell, Array.getElem?_modify, if_true, h, Option.map_some]
  rfl
theorem SeAt.set1 {w : World} {g : Nat} {s : SE} {vh vc : Value} (h : SeAt w g s vh vc) (u : Value) : SeAt (w.setCell ⟨g, 1, none⟩ u) g s u vc := by
  unfold SeAt at h ⊢
  simp only [World.setCell, Array.getElem?_modify, if_true, h, Option.map_some]
  rfl
theorem SeAt.set2 {w : World} {g : Nat} {s : SE} {vh vc : Value} (h : SeAt w g s vh vc) (u : Value) : SeAt (w.setCell ⟨g, 2, none⟩ u) g s vh u := by
  unfold SeAt at h ⊢
  simp only [World.setCell, Array.getElem?_modify, if_true, h, Option.map_some]
  rfl
theorem elemHs : ElemK Tryz.prog 30 72 2 32 := by
  have h : (Tryz.prog.info? 72).map (fun i => (i.zero, i.size, i.bytes)) = some (some (.agg #[.int .i64 0, .slice none 0 0]), 2, 32) := by kernel_rfl
  obtain ⟨i, h1, h2, h3, h4⟩ := info_parts h
  exact ⟨i, _, Tryz.underlying30, h1, h2, h3, h4, rfl⟩
/-- What read answers. -/
def RdMQ (w : World) (r : Option (Int × List (Int × List UInt8))) (en : Ending) (w' : World) : Prop := Ext w w' ∧
  ((r = none ∧ en = .returned (.tuple #[.agg (seRow 0 (.slice none 0 0) (.slice none 0 0) 0 0), .bool false])) ∨
   (∃ v hs A n c, r = some (v, hs) ∧ en = .returned (.tuple #[.agg (seRow v (.slice A n c) (.slice none 0 0) 0 0), .bool true]) ∧ HsRd w' (.slice A n c) hs))
theorem hs_flat_len : ∀ (ps : List ((Int × List UInt8) × Value)), (ps.flatMap hsCells).length = ps.length * 2
  | [] => rfl
  | y :: r => by rw [List.flatMap_cons, List.length_append, hs_flat_len r, List.length_cons]; show 2 + _ = _; omega
section
variable {ops : Array Oper} {rest : List Oper} {o : Oper} {a : Act} {Q : Exit → Act → World → Prop} {w : World}
/-- hashes = append(hashes, h). -/
theorem appHs {B : Nat} {A0 : Option Addr} {n0 c0 : Nat} {src : Value} {ps : List ((Int × List UInt8) × Value)} {p : (Int × List UInt8) × Value} (hown : OwnK w B 72 2 (.slice A0 n0 c0) (ps.flatMap hsCells))
    (hn : n0 = ps.length) (hr : RdK w 2 src (hsCells p)) (h1 : p.2.oneCell' = true) (hb : ps.length < 1000000) (hB : B ≤ w.heap.size)
    {s x : Operand} (hgd : o.guard = none) (ho : o.op = .call { callee := .builtin .append, args := #[s, x], argTypes := #[30, 30] }) (hs : a.eval s = .slice A0 n0 c0) (hx : a.eval x = src)
    (h : ∀ A n c w', Hid (n = ps.length + 1) → OwnK w' B 72 2 (.slice A n c) ((ps ++ [p]).flatMap hsCells) → w.grownBy w' (rowOf (.slice A0 n0 c0)) → (∀ r, rowOf (.slice A0 n0 c0) = some r → B ≤ r) → wpList Tryz.prog ops Q rest (a.put o.dst (.slice A n c)) w') : wpList Tryz.prog ops Q (o :: rest) a w := by
  subst hn
  have hge := rowOf_geK hown
  have hl := (hs_flat_len ps).symm
  refine wpList_appKR (k := 2) (by decide) elemHs (n := ps.length) (m := 1) hown hl hr (by rfl) (by intro u hu; simp [hsCells] at hu; rcases hu with rfl | rfl <;> first | rfl | exact h1) (Below.refl B w) (by omega) (by unfold maxLen; omega) hB hgd ho hs hx ?_
  intro A n c w' hn' h2 _ h3 h4
  refine h A n c w' hn' ?_ h3 hge
  rw [List.flatMap_append, List.flatMap_cons, List.flatMap_nil, List.append_nil]
  exact h2
end
end Go.Proofs.YthbpdhanljpigaaGreatDoor
namespace Go.Proofs.YthbpdhanljpigaaGreatDoor
open Go.RowKit
set_option linter.unusedVariables false
set_option maxRecDepth 100000
theorem SeAt.set3 {w : World} {g : Nat} {s : SE} {vh vc : Value} (h : SeAt w g s vh vc) (z : Int) : SeAt (w.setCell ⟨g, 3, none⟩ (.int .i64 z)) g { s with e := z } vh vc := by
  unfold SeAt at h ⊢
  simp only [World.setCell, Array.getElem?_modify, if_true, h, Option.map_some]
  rfl
theorem SeAt.set4 {w : World} {g : Nat} {s : SE} {vh vc : Value} (h : SeAt w g s vh vc) (z : Int) : SeAt (w.setCell ⟨g, 4, none⟩ (.int .i64 z)) g { s with s := z } vh vc := by
  unfold SeAt at h ⊢
  simp only [World.setCell, Array.getElem?_modify, if_true, h, Option.map_some]
  rfl
theorem SeAt.cell_z {w : World} {g j : Nat} {u : Value} (h : SeAt w g seZ (.slice none 0 0) (.slice none 0 0)) (hu : w.cell? ⟨g, j, none⟩ = some u) : u = .int .i64 0 ∨ u = .slice none 0 0 := by
  rw [cell_of_row w g j _ _ _ h] at hu
  match j, hu with
  | 0, hu => exact .inl (Option.some.inj hu).symm
  | 1, hu => exact .inr (Option.some.inj hu).symm
  | 2, hu => exact .inr (Option.some.inj hu).symm
  | 3, hu => exact .inl (Option.some.inj hu).symm
  | 4, hu => exact .inl (Option.some.inj hu).symm
  | j + 5, hu => simp at hu
theorem SeAt.rd {w : World} {g : Nat} {v : Value} {l : List UInt8} (Z : SeAt w g seZ (.slice none 0 0) (.slice none 0 0)) (h : Rd w v (bvs l)) (row : Array Value) : Rd (w.setRow g row) v (bvs l) := by
  obtain ⟨A, n, c, rfl, h1, h2, h3, h4⟩ := h.bytes
  refine ⟨A, n, c, rfl, by rw [bvs_length]; exact h1, h2, h3, fun h0 => ?_⟩
  obtain ⟨b, o, rfl, hb, hc⟩ := h4 h0
  have hne : b ≠ g := fun e => by
    subst e
    rcases Z.cell_z (hc 0 h0) with h | h <;> cases h
  refine ⟨b, o, rfl, fun j u hu => ?_⟩
  obtain ⟨hj, rfl⟩ := bvs_get hu
  rw [cell_setRow_other _ _ _ _ (show (⟨b, o + j, none⟩ : Addr).block ≠ g from hne), hc j (by rw [h1]; exact hj), byteI_get hj]
theorem SeAt.hs {w : World} {g : Nat} {v : Value} {hs : List (Int × List UInt8)} (Z : SeAt w g seZ (.slice none 0 0) (.slice none 0 0)) (h : HsRd w v hs) (h0 : ∀ x ∈ hs, x.1 ≠ 0) (row : Array Value) : HsRd (w.setRow g row) v hs := by
  obtain ⟨A, n, c, rfl, h1, h2, h3, h4⟩ := h
  refine ⟨A, n, c, rfl, h1, h2, h3, fun hp => ?_⟩
  obtain ⟨b, o, rfl, hb, hc⟩ := h4 hp
  have hne : b ≠ g := fun e => by
    subst e
    obtain ⟨x, hx⟩ : ∃ x, hs[0]? = some x := ⟨_, List.getElem?_eq_getElem (by omega)⟩
    obtain ⟨_, _, _, e0, _, _⟩ := hc 0 x hx
    rcases Z.cell_z e0 with h | h
    · injection h with _ h; exact h0 x (List.mem_of_getElem? hx) h
    · cases h
  refine ⟨b, o, rfl, by simpa using hb, fun i x hx => ?_⟩
  obtain ⟨A1, n1, c1, e0, e1, r⟩ := hc i x hx
  exact ⟨A1, n1, c1, (cell_setRow_other _ _ _ _ (show (⟨b, o + i * 2, none⟩ : Addr).block ≠ g from hne)).trans e0, (cell_setRow_other _ _ _ _ (show (⟨b, o + i * 2 + 1, none⟩ : Addr).block ≠ g from hne)).trans e1, Z.rd r row⟩
/-- What Decode answers, in memory. -/
def DecQ (w : World) (r : Except Int SE) (en : Ending) (w' : World) : Prop := Ext w w' ∧
  ((∃ k, r = .error k ∧ k ≠ 0 ∧ en = .returned (.tuple #[.agg (seRow 0 (.slice none 0 0) (.slice none 0 0) 0 0), .int .i64 k])) ∨
   (∃ s vh vc, r = .ok s ∧ en = .returned (.tuple #[seV s vh vc, .int .i64 0]) ∧ SeR w' s vh vc))
theorem dec_open {l : List UInt8} {k : Int} (h : opnX l = .error k) : decX l = .error k := by unfold decX; rw [h]
theorem dec_kind {l : List UInt8} {n : Int} {ks : List Nd} (h : opnX l = .ok (n, ks)) (hn : n ≠ 18) : decX l = .error 4 := by unfold decX; rw [h]; exact if_pos hn
theorem dec_part {l : List UInt8} {ks : List Nd} (h : opnX l = .ok (18, ks)) (hp : ptX ks = none) : decX l = .error 1 := by unfold decX; rw [h]; simp [hp]
theorem pt_len {ks : List Nd} (h : ks.length ≠ 1) : ptX ks = none := by
  match ks, h with
  | [], _ => rfl
  | [x], h => exact absurd rfl h
  | _ :: _ :: _, _ => rfl
theorem pt_kids {x : Nd} (h : x.kids.length ≠ 3) : ptX [x] = none := by
  show (match x.kids with | [p, q, r] => _ | _ => none) = none
  split
  · rename_i p q r e; rw [e] at h; exact absurd rfl h
  · rfl
theorem pt_tag {x : Nd} (h : x.tag ≠ 48) : ptX [x] = none := by
  show (match x.kids with | [p, q, r] => _ | _ => none) = none
  split
  · exact if_neg fun q => h q.1
  · rfl
theorem dec_parse {l m c g : List UInt8} {ks : List Nd} {k : Int} (h : opnX l = .ok (18, ks)) (hp : ptX ks = some (m, c, g)) (hm : parX true m = .error k) : decX l = .error k := by unfold decX; rw [h]; simp [hp, hm]
theorem dec_msg {l m c g : List UInt8} {ks ts : List Nd} (h : opnX l = .ok (18, ks)) (hp : ptX ks = some (m, c, g)) (hm : parX true m = .ok ts) (hr : rdM ts = none) : decX l = .error 1 := by unfold decX; rw [h]; simp [hp, hm, hr]
theorem dec_go {l m c g : List UInt8} {ks ts : List Nd} {v : Int} {hs : List (Int × List UInt8)} (h : opnX l = .ok (18, ks)) (hp : ptX ks = some (m, c, g)) (hm : parX true m = .ok ts) (hr : rdM ts = some (v, hs)) : decX l = if dcK g ≠ 0 then .error (dcK g) else if vdS ⟨v, hs, c, dcE g, dcS g⟩ ≠ 0 then .error (vdS ⟨v, hs, c, dcE g, dcS g⟩) else .ok ⟨v, hs, c, dcE g, dcS g⟩ := by unfold decX; rw [h]; simp [hp, hm, hr]
theorem ext_setE {w w' : World} {g i : Nat} {v : Value} (h : Ext w w') (hg : w.heap.size ≤ g) : Ext w (w'.setCell ⟨g, i, none⟩ v) := h.setCell (p := ⟨g, i, none⟩) hg _
/-! well-formed objects -/
/-- An object has bytes or objects, as its tag says. -/
def okx (x : Nd) : Prop := (consT x.tag = true → x.val = []) ∧ (consT x.tag = false → x.kids = [])
theorem okx_of {d : Nat} {ts : List Nd} (h : okNs d ts) {x : Nd} (hx : x ∈ ts) : okx x ∧ ∃ d', d = d' + 1 ∧ okNs d' x.kids := by
  match d, h with
  | 0, h => rw [show ts = [] from h] at hx; cases hx
  | d + 1, h => obtain ⟨_, _, h1, h2, h3⟩ := h x hx; exact ⟨⟨h1, h2⟩, d, rfl, h3⟩
theorem okx_kid {d : Nat} {ts : List Nd} (h : okNs d ts) {x y : Nd} (hx : x ∈ ts) (hy : y ∈ x.kids) : okx y := by
  obtain ⟨_, d', rfl, h'⟩ := okx_of h hx
  exact (okx_of h' hy).1
theorem consX_go {x : Nd} {k : Int} (ho : okx x) : consX x 48 k = true ↔ x.tag = 48 ∧ (k < 0 ∨ (x.kids.length : Int) = k) := by
  unfold consX
  constructor
  · intro h
    simp only [Bool.and_eq_true, Bool.or_eq_true, beq_iff_eq, decide_eq_true_eq] at h
    exact ⟨h.1, h.2.2⟩
  · rintro ⟨h1, h2⟩
    have h3 := ho.1 (by rw [h1]; decide)
    rw [h3]
    simp only [Bool.and_eq_true, Bool.or_eq_true, beq_iff_eq, decide_eq_true_eq, List.length_nil]
    exact ⟨h1, by simp, h2⟩
theorem primX_go {x : Nd} {t k : Int} (ht : consT t = false) (ho : okx x) : primX x t k = true ↔ x.tag = t ∧ (k < 0 ∨ (x.val.length : Int) = k) := by
  unfold primX
  constructor
  · intro h
    simp only [Bool.and_eq_true, Bool.or_eq_true, beq_iff_eq, decide_eq_true_eq] at h
    exact ⟨h.1, h.2.2⟩
  · rintro ⟨h1, h2⟩
    have h3 := ho.2 (by rw [h1]; exact ht)
    rw [h3]
    simp only [Bool.and_eq_true, Bool.or_eq_true, beq_iff_eq, decide_eq_true_eq, List.length_nil]
    exact ⟨h1, by simp, h2⟩
theorem ncons {x : Nd} {k : Int} (ho : okx x) (h : consX x 48 k = false) : ¬ (x.tag = 48 ∧ (k < 0 ∨ (x.kids.length : Int) = k)) := fun q => by rw [(consX_go ho).2 q] at h; cases h
theorem nprim {x : Nd} {t k : Int} (ht : consT t = false) (ho : okx x) (h : primX x t k = false) : ¬ (x.tag = t ∧ (k < 0 ∨ (x.val.length : Int) = k)) := fun q => by rw [(primX_go ht ho).2 q] at h; cases h
theorem ct2 : consT 2 = false := by decide
theorem ct4 : consT 4 = false := by decide
theorem rdM_cons {x : Nd} (ho : okx x) (h : consX x 48 2 = false) : rdM [x] = none := by
  show (match x.kids with | [p, q] => _ | _ => none) = none
  split
  · rename_i p q e
    exact if_neg fun hh => ncons ho h ⟨hh.1, .inr (by rw [e]; rfl)⟩
  · rfl
theorem rdM_prim {x p q : Nd} (hk : x.kids = [p, q]) (ho : okx p) (h : primX p 2 1 = false) : rdM [x] = none := by
  show (match x.kids with | [p, q] => _ | _ => none) = none
  rw [hk]
  exact if_neg fun hh => nprim ct2 ho h ⟨hh.2.1, .inr (by rw [hh.2.2.2]; rfl)⟩
theorem rdM_cons2 {x p q : Nd} (hk : x.kids = [p, q]) (ho : okx q) (h : consX q 48 (-1) = false) : rdM [x] = none := by
  show (match x.kids with | [p, q] => _ | _ => none) = none
  rw [hk]
  exact if_neg fun hh => ncons ho h ⟨hh.2.2.1, .inl (by decide)⟩
theorem rdH_cons {x : Nd} (ho : okx x) (h : consX x 48 2 = false) : rdH x = none := by
  unfold rdH
  split
  · rename_i p q e
    exact if_neg fun hh => ncons ho h ⟨hh.1, .inr (by rw [e]; rfl)⟩
  · rfl
theorem rdH_prim {x p q : Nd} (hk : x.kids = [p, q]) (ho : okx p) (h : primX p 2 1 = false) : rdH x = none := by
  unfold rdH
  rw [hk]
  exact if_neg fun hh => nprim ct2 ho h ⟨hh.2.1, .inr (by rw [hh.2.2.2]; rfl)⟩
theorem rdH_prim2 {x p q : Nd} (hk : x.kids = [p, q]) (ho : okx q) (h : primX q 4 (-1) = false) : rdH x = none := by
  unfold rdH
  rw [hk]
  exact if_neg fun hh => nprim ct4 ho h ⟨hh.2.2.1, .inl (by decide)⟩
theorem pt_cons {x : Nd} (ho : okx x) (h : consX x 48 3 = false) : ptX [x] = none := by
  show (match x.kids with | [p, q, r] => _ | _ => none) = none
  split
  · rename_i p q r e
    exact if_neg fun hh => ncons ho h ⟨hh.1, .inr (by rw [e]; rfl)⟩
  · rfl
theorem pt_go {x p q r : Nd} (hk : x.kids = [p, q, r]) (ht : x.tag = 48) (hp : okx p) (hq : okx q) (hr : okx r) :
    ptX [x] = if (primX p 4 (-1) && (primX q 4 (-1) && primX r 4 (-1))) = true then some (p.val, q.val, r.val) else none := by
  show (match x.kids with | [p, q, r] => _ | _ => none) = _
  rw [hk]
  have g : ∀ y : Nd, okx y → (primX y 4 (-1) = true ↔ y.tag = 4) := fun y hy => ⟨fun h => ((primX_go ct4 hy).1 h).1, fun h => (primX_go ct4 hy).2 ⟨h, .inl (by decide)⟩⟩
  by_cases hc : (primX p 4 (-1) && (primX q 4 (-1) && primX r 4 (-1))) = true
  · rw [if_pos hc]
    simp only [Bool.and_eq_true] at hc
    exact if_pos ⟨ht, (g p hp).1 hc.1, (g q hq).1 hc.2.1, (g r hr).1 hc.2.2⟩
  · rw [if_neg hc]
    refine if_neg fun hh => hc ?_
    simp only [Bool.and_eq_true]
    exact ⟨(g p hp).2 hh.2.1, (g q hq).2 hh.2.2.1, (g r hr).2 hh.2.2.2⟩
/-- What the reference's message answers. -/
def mgX (l : List UInt8) : Except Int (Int × List (Int × List UInt8)) := match parX true l with
  | .error e => .error e
  | .ok ts => match rdM ts with
    | none => .error 1
    | some r => .ok r
theorem mg_err {l : List UInt8} {k : Int} (h : parX true l = .error k) : mgX l = .error k := by unfold mgX; rw [h]
theorem mg_no {l : List UInt8} {ts : List Nd} (h : parX true l = .ok ts) (hn : rdM ts = none) : mgX l = .error 1 := by unfold mgX; rw [h]; simp only [hn]
theorem mg_yes {l : List UInt8} {ts : List Nd} {r : Int × List (Int × List UInt8)} (h : parX true l = .ok ts) (hn : rdM ts = some r) : mgX l = .ok r := by unfold mgX; rw [h]; simp only [hn]
theorem dec_mg {l m c g : List UInt8} {ks : List Nd} {k : Int} (h : opnX l = .ok (18, ks)) (hp : ptX ks = some (m, c, g)) (hm : mgX m = .error k) : decX l = .error k := by
  unfold mgX at hm
  split at hm
  · rename_i e he
    injection hm with hm
    subst hm
    exact dec_parse h hp he
  · rename_i ts he
    split at hm
    · rename_i hn
      injection hm with hm
      subst hm
      exact dec_msg h hp he hn
    · cases hm
theorem dec_mgo {l m c g : List UInt8} {ks : List Nd} {v : Int} {hs : List (Int × List UInt8)} (h : opnX l = .ok (18, ks)) (hp : ptX ks = some (m, c, g)) (hm : mgX m = .ok (v, hs)) : decX l = if dcK g ≠ 0 then .error (dcK g) else if vdS ⟨v, hs, c, dcE g, dcS g⟩ ≠ 0 then .error (vdS ⟨v, hs, c, dcE g, dcS g⟩) else .ok ⟨v, hs, c, dcE g, dcS g⟩ := by
  unfold mgX at hm
  split at hm
  · cases hm
  · rename_i ts he
    split at hm
    · cases hm
    · rename_i r hn
      injection hm with hm
      subst hm
      exact dec_go h hp he hn
/-- .. in memory. -/
def MsgQ (w : World) (r : Except Int (Int × List (Int × List UInt8))) (en : Ending) (w' : World) : Prop := Ext w w' ∧
  ((∃ k, r = .error k ∧ k ≠ 0 ∧ en = .returned (.tuple #[.agg (seRow 0 (.slice none 0 0) (.slice none 0 0) 0 0), .int .i64 k])) ∨
   (∃ v hs A n c, r = .ok (v, hs) ∧ en = .returned (.tuple #[.agg (seRow v (.slice A n c) (.slice none 0 0) 0 0), .int .i64 0]) ∧ HsRd w' (.slice A n c) hs))
end Go.Proofs.YthbpdhanljpigaaGreatDoor
namespace Go.Proofs.YthbpdhanljpigaaGreatDoor
open Go.RowKit
set_option linter.unusedVariables false
set_option maxRecDepth 100000
def n4B (x : Nd) : Bool := x.tag != 4
def n4I (l : List Nd) : Int := if (l.any n4B) = true then ((l.findIdx n4B : Nat) : Int) else -1
theorem n4I_ge (l : List Nd) : decide (0 ≤ n4I l) = l.any n4B := by
  unfold n4I
  split
  · rename_i q; rw [q]; exact decide_eq_true (by omega)
  · rename_i q; rw [Bool.not_eq_true] at q; rw [q]; exact decide_eq_false (by omega)
theorem n4_any (x : Nd) (A1 A2 : Option Addr) (n1 c1 n2 c2 : Nat) (w : World) : Calls Tryz.prog 67 #[.agg #[.int .i64 x.tag, .slice A1 n1 c1, .slice A2 n2 c2]] w (RetQ w (.bool (n4B x))) := by
  have x1 : Ext w (w.alloc (.cells #[.int .i64 x.tag, .slice A1 n1 c1, .slice A2 n2 c2] 83)) := (Below.refl _ _).alloc (Nat.le_refl _) _
  have X1 := Lib.hid x1
  clear x1
  go_enter Tryz.func67, Tryz.ntmps67
  go_wp2
  go_ret
  exact ⟨rfl, X1.out⟩
set_option maxHeartbeats 2000000 in
theorem n4idx_any {d : Nat} {v : Value} {l : List Nd} (w : World) (hv : NdsRd d w v l) :
    Calls Tryz.prog 122 #[v, .func (.func 67) #[] #[]] w (RetQ w (.int .i64 (n4I l))) := by
  obtain ⟨A, n, c, rfl, hn, hnc, hcm, hel⟩ := hv.open_
  subst hn
  unfold maxLen at hcm
  have HE := Lib.hid hel
  have HF := Lib.hid n4_any
  clear hv hel
  obtain ⟨r, hr⟩ : ∃ r, n4I l = r := ⟨_, rfl⟩
  rw [hr]
  have HR := Lib.hid hr
  clear hr
  go_enter Tryz.func122, Tryz.ntmps122
  go_wp2
  go_loopw [5, 8] (fun _ i wr => ∃ j : Nat, j ≤ l.length ∧ i = .int .i64 (j : Int) ∧ Ext w wr ∧ Hid (∀ i u, i < j → l[i]? = some u → n4B u = false)) (fun _ i _ => l.length - (intOf i).toNat)
  case atStart => exact ⟨0, Nat.zero_le _, rfl, Below.refl _ _, Lib.hid (fun i u h => by omega)⟩
  case round =>
    obtain ⟨j, hj, rfl, bb, hlt0⟩ := hrel
    by_cases hlt : j < l.length
    · obtain ⟨t, ht⟩ : ∃ t, l[j]? = some t := ⟨_, List.getElem?_eq_getElem hlt⟩
      obtain ⟨dj, ed, b, o, rfl, hbl, a1, m1, k1, a2, m2, k2, h0, h1, h2, _, _⟩ := HE.out j t ht
      have l0 := (bb.cell (p := ⟨b, o + j * 3, none⟩) hbl).trans h0
      have l1 := (bb.cell (p := ⟨b, o + j * 3 + 1, none⟩) hbl).trans h1
      have l2 := (bb.cell (p := ⟨b, o + j * 3 + 2, none⟩) hbl).trans h2
      have HT := Lib.hid ht
      clear h0 h1 h2 ht
      have wi1 : IntKind.i64.wrap ((j : Int)) = (j : Int) := IntWalk.i64_in _ (by omega)
      have zi1 : (0 : Int) ≤ (j : Int) := by omega
      have li1 : (j : Int) < (l.length : Int) := by omega
      have ti1 : ((j : Int)).toNat = j := by omega
      go_wp2_with fail
      refine (HF.out t a1 a2 m1 k1 m2 k2 _).mono ?_
      rintro e wy ⟨rfl, by_⟩
      cases hq : n4B t with
      | true =>
        have HN := Lib.hid (show r = (j : Int) by
          rw [← HR.out]
          unfold n4I
          rw [if_pos (List.any_eq_true.2 ⟨t, List.mem_of_getElem? HT.out, hq⟩)]
          congr 1
          rw [List.findIdx_eq hlt]
          refine ⟨?_, fun i hi => ?_⟩
          · have := HT.out; rw [List.getElem?_eq_getElem hlt] at this; rw [Option.some.inj this]; exact hq
          · exact hlt0.out i _ hi (List.getElem?_eq_getElem (by omega)))
        clear hq
        go_wp2_with fail
        go_ret
        exact ⟨by rw [HN.out]; rfl, bb.tr by_⟩
      | false =>
        have HQ := Lib.hid hq
        clear hq
        go_wp2_with fail
        go_roundw
        case rel => exact ⟨j + 1, by omega, by go_num, bb.tr by_, Lib.hid (fun i u hi hu => by
          by_cases h : i = j
          · subst h
            rw [HT.out] at hu
            rw [← Option.some.inj hu]; exact HQ.out
          · exact hlt0.out i u (by omega) hu)⟩
        case measure => simp [intOf]; omega
    · obtain rfl : j = l.length := by omega
      have HN := Lib.hid (show r = -1 by
        rw [← HR.out]
        unfold n4I
        rw [if_neg]
        intro q
        obtain ⟨x, hx, hq⟩ := List.any_eq_true.1 q
        obtain ⟨i, hi⟩ := List.getElem?_of_mem hx
        rw [hlt0.out i x (List.getElem?_eq_some_iff.1 hi).1 hi] at hq
        cases hq)
      go_wp2
      go_ret
      exact ⟨by rw [HN.out]; rfl, bb⟩
theorem n4has_any {d : Nat} {v : Value} {l : List Nd} (w : World) (hv : NdsRd d w v l) :
    Calls Tryz.prog 66 #[v, .func (.func 67) #[] #[]] w (RetQ w (.bool (l.any n4B))) := by
  have HI := Lib.hid (n4idx_any w hv)
  have HB := Lib.hid (n4I_ge l)
  generalize n4I l = z at *
  generalize l.any n4B = q at *
  clear hv
  go_enter Tryz.func66, Tryz.ntmps66
  go_wp2_with fail
  refine HI.out.mono ?_
  rintro e w' ⟨rfl, b⟩
  go_wp2_with fail
  go_ret
  exact ⟨by rw [← HB.out]; rfl, b⟩
end Go.Proofs.YthbpdhanljpigaaGreatDoor
