/- Parts Cl Qr Xk of the proof. -/
import Derived.Test.YthbpdhanljpigaaGreatDoorVat
import Derived.Test.YthbpdhanljpigaaGreatDoorVao
namespace Go.Proofs.YthbpdhanljpigaaGreatDoor
open Go.RowKit
set_option linter.unusedVariables false
set_option maxRecDepth 100000
section
variable {P : Program} {Q : Exit → Act → World → Prop} {w0 : World} {R : Act → World → Prop}
end
theorem run_buildNd (W : World) (t : Int) (A : Option Addr) (n c : Nat) : (Instr.build 83 [(0, .int .i64 t), (1, .slice A n c)].toArray).run Tryz.prog W = .ok (.agg #[.int .i64 t, .slice A n c, .slice none 0 0]) W := run_build W _ _ _ (by kernel_rfl)
theorem C3.ex {W W' : World} {b : Nat} {v0 v1 v2 : Value} (h : C3 W b v0 v1 v2) (k : Ext W W') : C3 W' b v0 v1 v2 := (k.block b (block_lt h)).trans h
end Go.Proofs.YthbpdhanljpigaaGreatDoor
namespace Go.Proofs.YthbpdhanljpigaaGreatDoor
open Go.RowKit
set_option linter.unusedVariables false
set_option maxRecDepth 100000
def consX (x : Nd) (t k : Int) : Bool := x.tag == t && (x.val.length == 0 && (decide (k < 0) || (x.kids.length : Int) == k))
def primX (x : Nd) (t k : Int) : Bool := x.tag == t && (x.kids.length == 0 && (decide (k < 0) || (x.val.length : Int) == k))
theorem pairX_yes {x p q : Nd} {a b : Int} (h : x.kids = [p, q]) : pairX x a b = (x.tag == 48 && p.tag == a && q.tag == b) := by unfold pairX; rw [h]
theorem pairX_no {x : Nd} {a b : Int} (h : x.kids.length ≠ 2) : pairX x a b = false := by
  unfold pairX
  split
  · rename_i p q e; rw [e] at h; exact absurd rfl h
  · rfl
theorem pairX_tag {x : Nd} {a b : Int} (h : x.tag ≠ 48) : pairX x a b = false := by
  unfold pairX
  split
  · simp [h]
  · rfl
theorem nat_beq (n : Nat) : (n == 0) = ((n : Int) == 0) := by
  rw [Bool.eq_iff_iff, beq_iff_eq, beq_iff_eq]
  omega
theorem two_of {α : Type} {l : List α} (h : l.length = 2) : ∃ p q, l = [p, q] := by
  match l, h with
  | [p, q], _ => exact ⟨p, q, rfl⟩
theorem one_of {α : Type} {l : List α} (h : l.length = 1) : ∃ p, l = [p] := by
  match l, h with
  | [p], _ => exact ⟨p, rfl⟩
theorem three_of {α : Type} {l : List α} (h : l.length = 3) : ∃ p q r, l = [p, q, r] := by
  match l, h with
  | [p, q, r], _ => exact ⟨p, q, r, rfl⟩
set_option maxHeartbeats 2000000 in
theorem pair_any {d : Nat} {x : Nd} {A1 A2 : Option Addr} {n1 c1 n2 c2 : Nat} (a b : Int) (w : World) (hk : NdsRd d w (.slice A2 n2 c2) x.kids) :
    Calls Tryz.prog 124 #[.agg #[.int .i64 x.tag, .slice A1 n1 c1, .slice A2 n2 c2], .int .i64 a, .int .i64 b] w (RetQ w (.bool (pairX x a b))) := by
  obtain ⟨A, n, c, e, hn, hnc, hcm, hel⟩ := hk.open_
  injection e with e1 e2 e3
  subst e1 e2 e3
  have x1 : Ext w (w.alloc (.cells #[.int .i64 x.tag, .slice A1 n1 c1, .slice A2 n2 c2] 83)) := (Below.refl _ _).alloc (Nat.le_refl _) _
  have X1 := Lib.hid x1
  have HE := Lib.hid hel
  have HN := Lib.hid hn
  unfold maxLen at hcm
  clear hk hel x1 hn
  by_cases h1 : x.tag = 48
  · have h1b : (x.tag == 48) = true := by simp [h1]
    by_cases h2 : n2 = 2
    · subst h2
      obtain ⟨p, q, hpq⟩ := two_of HN.out.symm
      have HP := Lib.hid (pairX_yes (a := a) (b := b) hpq)
      have HE2 := HE.out
      rw [hpq] at HE2
      obtain ⟨d0, _, bb, o, rfl, hbl, a1, m1, k1, a2, m2, k2, e0, _⟩ := HE2 0 p rfl
      obtain ⟨d1, _, bb', o', e', hbl', a3, m3, k3, a4, m4, k4, e1, _⟩ := HE2 1 q rfl
      injection e' with e'
      injection e' with e2 e3
      subst e2 e3
      have l0 := (X1.out.cell (p := ⟨bb, o + 0 * 3, none⟩) hbl).trans e0
      have l1 := (X1.out.cell (p := ⟨bb, o + 1 * 3, none⟩) hbl).trans e1
      simp only [Nat.zero_mul, Nat.add_zero, Nat.one_mul] at l0 l1
      have H1 := Lib.hid h1b
      clear e0 e1 HE2 hpq h1
      obtain ⟨P, hP⟩ : ∃ P, (p.tag == a) = P := ⟨_, rfl⟩
      obtain ⟨Q, hQ⟩ : ∃ Q, (q.tag == b) = Q := ⟨_, rfl⟩
      have HR := Lib.hid (show pairX x a b = (P && Q) by rw [HP.out, H1.out, hP, hQ]; rfl)
      cases P
      · go_enter Tryz.func124, Tryz.ntmps124
        go_wp2
        go_ret
        exact ⟨by rw [HR.out]; rfl, X1.out⟩
      · cases Q
        all_goals
          go_enter Tryz.func124, Tryz.ntmps124
          go_wp2
          go_ret
          exact ⟨by rw [HR.out]; rfl, X1.out⟩
    · have h2b : ((n2 : Int) == 2) = false := by simp; omega
      have HR := Lib.hid (pairX_no (a := a) (b := b) (fun h => h2 (HN.out.trans h)))
      clear h2 h1
      go_enter Tryz.func124, Tryz.ntmps124
      go_wp2
      go_ret
      exact ⟨by rw [HR.out]; rfl, X1.out⟩
  · have h1b : (x.tag == 48) = false := by simp [h1]
    have HR := Lib.hid (pairX_tag (a := a) (b := b) h1)
    clear h1
    go_enter Tryz.func124, Tryz.ntmps124
    go_wp2
    go_ret
    exact ⟨by rw [HR.out]; rfl, X1.out⟩
/-- What one answers. -/
def oneB (x : Nd) : Bool := x.val.length == 1
def oneI (x : Nd) : Int := if x.val.length = 1 then byteI x.val 0 else 0
theorem one_any {x : Nd} {A1 A2 : Option Addr} {n1 c1 n2 c2 : Nat} (w : World) (hv : Rd w (.slice A1 n1 c1) (bvs x.val)) :
    Calls Tryz.prog 125 #[.agg #[.int .i64 x.tag, .slice A1 n1 c1, .slice A2 n2 c2]] w (RetQ w (.tuple #[.int .i64 (oneI x), .bool (oneB x)])) := by
  obtain ⟨A, n, c, e, hn, hnc, hcm, hel⟩ := hv.bytes
  injection e with e1 e2 e3
  subst e1 e2 e3
  have x1 : Ext w (w.alloc (.cells #[.int .i64 x.tag, .slice A1 n1 c1, .slice A2 n2 c2] 83)) := (Below.refl _ _).alloc (Nat.le_refl _) _
  have X1 := Lib.hid x1
  have HN := Lib.hid hn
  unfold maxLen at hcm
  clear hv hn
  by_cases h1 : n1 = 1
  · subst h1
    obtain ⟨b, o, rfl, hbl, hc⟩ := hel (by omega)
    have l0 := (x1.cell (p := ⟨b, o + 0, none⟩) hbl).trans (hc 0 (by omega))
    rw [Nat.add_zero] at l0
    have p0 := byteI_lo x.val 0
    have p1 := byteI_hi x.val 0
    have HI := Lib.hid (show oneI x = byteI x.val 0 from if_pos HN.out.symm)
    have HB := Lib.hid (show oneB x = true by unfold oneB; rw [← HN.out]; rfl)
    clear hel hc x1
    go_enter Tryz.func125, Tryz.ntmps125
    go_wp2
    go_ret2
    exact ⟨by rw [HI.out, HB.out]; rfl, X1.out⟩
  · have h1b : ((n1 : Int) != 1) = true := by simp; omega
    have HI := Lib.hid (show oneI x = 0 from if_neg (fun h => h1 (HN.out.trans h)))
    have HB := Lib.hid (show oneB x = false by unfold oneB; simp; exact fun h => h1 (HN.out.trans h))
    clear hel x1 h1
    go_enter Tryz.func125, Tryz.ntmps125
    go_wp2
    go_ret2
    exact ⟨by rw [HI.out, HB.out]; rfl, X1.out⟩
set_option maxHeartbeats 2000000 in
theorem cons13_any {x : Nd} {A1 A2 : Option Addr} {n1 c1 n2 c2 : Nat} (a k : Int) (w : World) (h1 : n1 = x.val.length) (h2 : n2 = x.kids.length) (hm1 : n1 ≤ 9223372036854775807) (hm2 : n2 ≤ 9223372036854775807) :
    Calls Tryz.prog 71 #[.agg #[.int .i64 x.tag, .slice A1 n1 c1, .slice A2 n2 c2], .int .i64 a, .int .i64 k] w (RetQ w (.bool (consX x a k))) := by
  have x1 : Ext w (w.alloc (.cells #[.int .i64 x.tag, .slice A1 n1 c1, .slice A2 n2 c2] 83)) := (Below.refl _ _).alloc (Nat.le_refl _) _
  have X1 := Lib.hid x1
  obtain ⟨P, hP⟩ : ∃ P, (x.tag == a) = P := ⟨_, rfl⟩
  obtain ⟨Q1, hQ1⟩ : ∃ Q, ((n1 : Int) == 0) = Q := ⟨_, rfl⟩
  obtain ⟨Q2, hQ2⟩ : ∃ Q, ((n2 : Int) == 0) = Q := ⟨_, rfl⟩
  obtain ⟨R1, hR1⟩ : ∃ R, ((n1 : Int) == k) = R := ⟨_, rfl⟩
  obtain ⟨R2, hR2⟩ : ∃ R, ((n2 : Int) == k) = R := ⟨_, rfl⟩
  obtain ⟨D, hD⟩ : ∃ D, D = decide (k < 0) := ⟨_, rfl⟩
  have HR := Lib.hid (show consX x a k = (P && (Q1 && (D || R2))) by
    unfold consX
    rw [hP, ← hD, ← h1, ← h2]
    congr 2
    · rw [← hQ1]; exact nat_beq n1
    · rw [← hR2])
  clear x1 h1 h2
  cases P
  · clear hQ1 hQ2 hR1 hR2 hD
    go_enter Tryz.func71, Tryz.ntmps71
    go_wp2
    go_ret
    exact ⟨by rw [HR.out]; rfl, X1.out⟩
  · cases Q1
    · clear hR1 hR2 hD
      go_enter Tryz.func71, Tryz.ntmps71
      go_wp2
      go_ret
      exact ⟨by rw [HR.out]; rfl, X1.out⟩
    · by_cases hk : k < 0
      · obtain rfl : D = true := by rw [hD]; exact decide_eq_true hk
        clear hR1 hR2 hD
        go_enter Tryz.func71, Tryz.ntmps71
        go_wp2
        go_ret
        exact ⟨by rw [HR.out]; rfl, X1.out⟩
      · obtain rfl : D = false := by rw [hD]; exact decide_eq_false hk
        clear hD
        go_enter Tryz.func71, Tryz.ntmps71
        go_wp2
        go_ret
        exact ⟨by rw [HR.out]; cases R2 <;> rfl, X1.out⟩
set_option maxHeartbeats 2000000 in
theorem prim13_any {x : Nd} {A1 A2 : Option Addr} {n1 c1 n2 c2 : Nat} (a k : Int) (w : World) (h1 : n1 = x.val.length) (h2 : n2 = x.kids.length) (hm1 : n1 ≤ 9223372036854775807) (hm2 : n2 ≤ 9223372036854775807) :
    Calls Tryz.prog 72 #[.agg #[.int .i64 x.tag, .slice A1 n1 c1, .slice A2 n2 c2], .int .i64 a, .int .i64 k] w (RetQ w (.bool (primX x a k))) := by
  have x1 : Ext w (w.alloc (.cells #[.int .i64 x.tag, .slice A1 n1 c1, .slice A2 n2 c2] 83)) := (Below.refl _ _).alloc (Nat.le_refl _) _
  have X1 := Lib.hid x1
  obtain ⟨P, hP⟩ : ∃ P, (x.tag == a) = P := ⟨_, rfl⟩
  obtain ⟨Q1, hQ1⟩ : ∃ Q, ((n1 : Int) == 0) = Q := ⟨_, rfl⟩
  obtain ⟨Q2, hQ2⟩ : ∃ Q, ((n2 : Int) == 0) = Q := ⟨_, rfl⟩
  obtain ⟨R1, hR1⟩ : ∃ R, ((n1 : Int) == k) = R := ⟨_, rfl⟩
  obtain ⟨R2, hR2⟩ : ∃ R, ((n2 : Int) == k) = R := ⟨_, rfl⟩
  obtain ⟨D, hD⟩ : ∃ D, D = decide (k < 0) := ⟨_, rfl⟩
  have HR := Lib.hid (show primX x a k = (P && (Q2 && (D || R1))) by
    unfold primX
    rw [hP, ← hD, ← h1, ← h2]
    congr 2
    · rw [← hQ2]; exact nat_beq n2
    · rw [← hR1])
  clear x1 h1 h2
  cases P
  · clear hQ1 hQ2 hR1 hR2 hD
    go_enter Tryz.func72, Tryz.ntmps72
    go_wp2
    go_ret
    exact ⟨by rw [HR.out]; rfl, X1.out⟩
  · cases Q2
    · clear hR1 hR2 hD
      go_enter Tryz.func72, Tryz.ntmps72
      go_wp2
      go_ret
      exact ⟨by rw [HR.out]; rfl, X1.out⟩
    · by_cases hk : k < 0
      · obtain rfl : D = true := by rw [hD]; exact decide_eq_true hk
        clear hR1 hR2 hD
        go_enter Tryz.func72, Tryz.ntmps72
        go_wp2
        go_ret
        exact ⟨by rw [HR.out]; rfl, X1.out⟩
      · obtain rfl : D = false := by rw [hD]; exact decide_eq_false hk
        clear hD
        go_enter Tryz.func72, Tryz.ntmps72
        go_wp2
        go_ret
        exact ⟨by rw [HR.out]; cases R1 <;> rfl, X1.out⟩
end Go.Proofs.YthbpdhanljpigaaGreatDoor
namespace Go.Proofs.YthbpdhanljpigaaGreatDoor
set_option linter.unusedVariables false
set_option maxRecDepth 100000
/-- At most 256 kids and 4096 bytes, n levels down. -/
def fewK : Nat → Nd → Prop
  | 0, _ => True
  | n + 1, x => x.kids.length ≤ 256 ∧ x.val.length ≤ 4096 ∧ ∀ y ∈ x.kids, fewK n y
theorem objX1_few {q : Bool} {n : Nat} {dep : Int} {cnt : Nat} {l : List UInt8} {x : Nd} {c u : Nat} (hl : l.length ≤ 4096) (hr : ∀ op dep' cnt' m ks c u, m.length ≤ 4096 → objsX q op dep' cnt' m = .ok (ks, c, u) → cnt' ≤ 256 → ∀ y ∈ ks, fewK n y) (h : objX1 q (objsX q) dep cnt l = .ok (x, c, u)) : fewK (n + 1) x := by
  unfold objX1 at h
  split at h
  · cases h
  · rename_i t o m ht
    obtain ⟨g1, g2, g3, g4, _, _, _, g8, g9, _⟩ := headX_bd ht
    split at h
    · split at h
      · cases h
      · rename_i ks c2 u2 hk
        have hc := objsX_cnt _ _ _ _ _ _ _ _ _ (Nat.le_refl _) hk (by omega)
        have hf := hr _ _ _ _ _ _ _ (by rw [List.length_drop]; omega) hk (by omega)
        simp only [Except.ok.injEq, Prod.mk.injEq] at h
        obtain ⟨rfl, _, _⟩ := h
        exact ⟨by show ks.length ≤ 256; omega, Nat.zero_le _, hf⟩
    · split at h
      · split at h
        · cases h
        · rename_i ks c2 u2 hk
          have hc := objsX_cnt _ _ _ _ _ _ _ _ _ (Nat.le_refl _) hk (by omega)
          have hf := hr _ _ _ _ _ _ _ (by rw [List.length_take, List.length_drop]; omega) hk (by omega)
          simp only [Except.ok.injEq, Prod.mk.injEq] at h
          obtain ⟨rfl, _, _⟩ := h
          exact ⟨by show ks.length ≤ 256; omega, Nat.zero_le _, hf⟩
      · simp only [Except.ok.injEq, Prod.mk.injEq] at h
        obtain ⟨rfl, _, _⟩ := h
        exact ⟨by show (0 : Nat) ≤ 256; omega, by show (List.take _ _).length ≤ 4096; rw [List.length_take, List.length_drop]; omega, fun y hy => by cases hy⟩
theorem objsX_few : ∀ (n k : Nat) (l : List UInt8) (q op : Bool) (dep : Int) (cnt : Nat) (ts : List Nd) (c u : Nat), l.length ≤ k → l.length ≤ 4096 → objsX q op dep cnt l = .ok (ts, c, u) → cnt ≤ 256 → ∀ y ∈ ts, fewK n y
  | 0, _, _, _, _, _, _, _, _, _, _, _, _, _ => fun _ _ => trivial
  | n + 1, k, l, q, op, dep, cnt, ts, c, u, hk, hl, h, hc => by
    rw [objsX_eq] at h
    split at h
    · cases h
    · split at h
      · simp only [Except.ok.injEq, Prod.mk.injEq] at h
        obtain ⟨rfl, _, _⟩ := h
        exact fun y hy => by cases hy
      · split at h
        · simp only [Except.ok.injEq, Prod.mk.injEq] at h
          obtain ⟨rfl, _, _⟩ := h
          exact fun y hy => by cases hy
        · split at h
          · cases h
          · rename_i x c1 u1 hx
            obtain ⟨u0, u2⟩ := objX1_usedX hx
            obtain ⟨k0, k1⟩ := objX1_cntQ hx
            cases k with
            | zero => omega
            | succ k =>
              split at h
              · cases h
              · rename_i xs c2 u3 hy
                have h2 := objsX_few (n + 1) k _ _ _ _ _ _ _ _ (by rw [List.length_drop]; omega) (by rw [List.length_drop]; omega) hy k0
                simp only [Except.ok.injEq, Prod.mk.injEq] at h
                obtain ⟨rfl, _, _⟩ := h
                have h3 := objX1_few (n := n) hl (fun op' dep' cnt' m ks' c' u' hm hy' hc' => objsX_few n m.length m _ _ _ _ _ _ _ (Nat.le_refl _) hm hy' hc') hx
                exact fun y hy => by
                  rcases List.mem_cons.1 hy with rfl | hy
                  · exact h3
                  · exact h2 y hy
theorem parX_fewK {q : Bool} {l : List UInt8} {ts : List Nd} (h : parX q l = .ok ts) (n : Nat) : ∀ x ∈ ts, fewK n x := by
  unfold parX at h
  split at h
  · cases h
  · split at h
    · cases h
    · rename_i ks c u hk
      injection h with h
      subst h
      exact objsX_few n _ l q false 1 0 ks c u (Nat.le_refl _) (by omega) hk (by omega)
theorem parX_few {q : Bool} {l : List UInt8} {ts : List Nd} (h : parX q l = .ok ts) : ∀ x p, x ∈ ts → p ∈ x.kids → p.kids.length < 1000000 := fun x p hx hp => by
  have := ((parX_fewK h 2 x hx).2.2 p hp).1
  omega
end Go.Proofs.YthbpdhanljpigaaGreatDoor
