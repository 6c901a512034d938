/- Parts Po of the proof. -/
import Derived.Test.YthbpdhanljpigaaGreatDoorVaq
import Derived.Test.YthbpdhanljpigaaGreatDoorVao
import Derived.Lib.SmallJoins
import Derived.Deep.Fields
namespace Go.Proofs.YthbpdhanljpigaaGreatDoor
open Go.Joins Go.ChangeShapes Go.WideShapes Go.ChangeAt Go.RowKit Go.Deep
set_option linter.unusedVariables false
set_option maxRecDepth 100000
section
variable {H : Type} {enc : TypeId × Value → H} {P : Program} {W : World} {spare : Nat → Bool} {held : Bool}
/-- A slice whose elements take k cells each. -/
theorem trod_rowsS {α : Type} {cells : α → List Value} {Good : α → Prop} {t e : TypeId} {k fuel : Nat} {cs : List Value} {x : DataW H × List MemPlace} (ht : P.underlying t = some (.slice e)) (hc : P.cellsOf e = k) (h0 : 0 < k) (hlen : ∀ a, (cells a).length = k)
    (hel : ∀ (n : Nat) (cs : List Value) (y : DataW H × List MemPlace), cs.length = k → DataW.trod enc P W 0 spare held n e cs = some y → ∃ a, cs = cells a ∧ Good a)
    (h : DataW.trod enc P W 0 spare held fuel t cs = some x) :
    ∃ (A : Option Addr) (n c : Nat) (l : List α), cs = [.slice A n c] ∧ RdK W k (.slice A n c) (l.flatMap cells) ∧ (∀ a ∈ l, Good a) ∧ n = l.length := by
  rcases Deep.open_slice ht h with ⟨rfl, rfl⟩ | ⟨a, len, cap, m, n, D, Pl, rfl, hb, hl, hm, hmm, rfl, hx⟩
  · exact ⟨none, 0, 0, [], rfl, RdK.nil_ W k none, fun a ha => (by cases ha), rfl⟩
  have hlm : len ≤ m := by rw [hmm]; split <;> omega
  have hi : ∀ i : Fin len, ∃ y : α, W.cells? 0 (a.add (i.1 * k)) k = some (cells y) ∧ Good y := fun i => by
    obtain ⟨cs', h1, h2⟩ := hx i.1 (Nat.lt_of_lt_of_le i.2 hlm)
    rw [hc] at h1
    obtain ⟨_, hl', _⟩ := World.cells?_some h1
    obtain ⟨y, rfl, hg⟩ := hel n cs' _ hl' h2
    exact ⟨y, h1, hg⟩
  have hL : (List.ofFn fun i => Classical.choose (hi i)).length = len := by simp
  have hG : ∀ i (h : i < (List.ofFn fun i => Classical.choose (hi i)).length), W.cells? 0 (a.add (i * k)) k = some (cells (List.ofFn fun i => Classical.choose (hi i))[i]) ∧ Good (List.ofFn fun i => Classical.choose (hi i))[i] := fun i h => by
    rw [List.getElem_ofFn]
    exact Classical.choose_spec (hi ⟨i, by simpa using h⟩)
  generalize (List.ofFn fun i => Classical.choose (hi i)) = l at hL hG
  refine ⟨some a, len, cap, l, rfl, ⟨some a, len, cap, rfl, ?_, hl, hm, fun hp => ?_⟩, fun y hy => ?_, hL.symm⟩
  · rw [flat_len cells k hlen l, hL]
  · obtain ⟨b, off, sp⟩ := a
    have hsp : sp = none := by
      obtain ⟨_, hl', hcell⟩ := World.cells?_some (hG 0 (by omega)).1
      have h1 := hcell 0 h0
      rw [List.getElem?_eq_getElem (by rw [hl']; exact h0)] at h1
      have h2 := World.cell?_spot h1
      cases sp with
      | none => rfl
      | some q => simp [Addr.add] at h2
    subst hsp
    refine ⟨b, off, rfl, fun j u hu => ?_⟩
    have hj : j < l.length * k := by rw [← flat_len cells k hlen l]; exact (List.getElem?_eq_some_iff.1 hu).1
    have hdiv : j / k < l.length := Nat.div_lt_of_lt_mul (by rw [Nat.mul_comm]; exact hj)
    obtain ⟨_, hl', hcell⟩ := World.cells?_some (hG (j / k) hdiv).1
    have h1 := hcell (j % k) (Nat.mod_lt _ h0)
    have ej : j / k * k + j % k = j := by rw [Nat.mul_comm]; exact Nat.div_add_mod j k
    have e1 := flat_get cells k hlen l (j / k) hdiv (j % k) (Nat.mod_lt _ h0)
    rw [ej, hu] at e1
    rw [← e1, Addr.add_lit, Addr.add_lit, Nat.add_assoc, ej] at h1
    exact h1
  · obtain ⟨i, hi', rfl⟩ := List.getElem_of_mem hy
    exact (hG i hi').2
end
section
variable {H : Type} {enc : TypeId × Value → H} {W : World}
theorem trod_sigS {fuel : Nat} {cs : List Value} {x : DataW H × List MemPlace} (hl : cs.length = 2) (h : DataW.trod enc Tryz.prog W 0 (fun _ => true) true fuel 35 cs = some x) : ∃ (e : Int) (s : Int), cs = [.int .i64 e, .int .i64 s] := by
  have c2 : Tryz.prog.cellsOf 3 = 1 := by kernel_rfl
  obtain ⟨xs, n, _, _, _, hlen, hg⟩ := DataW.trod_struct Tryz.underlying35 h
  match cs, hl, xs, hlen with
  | [v0, v1], _, [y0, y1], _ =>
    have g0 : DataW.trod enc Tryz.prog W 0 (fun _ => true) true n 3 (([v0, v1].drop 0).take (Tryz.prog.cellsOf 3)) = some y0 := hg 0 _ rfl
    rw [c2] at g0
    have g1 : DataW.trod enc Tryz.prog W 0 (fun _ => true) true n 3 (([v0, v1].drop 1).take (Tryz.prog.cellsOf 3)) = some y1 := hg 1 _ rfl
    rw [c2] at g1
    simp only [List.drop_succ_cons, List.drop_zero, List.take_succ_cons, List.take_zero] at g0 g1
    obtain ⟨z0, e0, _, _⟩ := DataW.trod_int Tryz.underlying3 g0
    obtain ⟨z1, e1, _, _⟩ := DataW.trod_int Tryz.underlying3 g1
    injection e0 with e0
    subst e0
    injection e1 with e1
    subst e1
    exact ⟨z0, z1, rfl⟩
theorem RdK.r1S {w : World} {v : Value} {xs : List Value} (h : RdK w 1 v xs) : Rd w v xs := by
  obtain ⟨A, n, c, rfl, hn, hr⟩ := h
  exact ⟨A, n, c, rfl, by omega, hr⟩
theorem trod_byte {fuel : Nat} {cs : List Value} {x : DataW H × List MemPlace} (h : DataW.trod enc Tryz.prog W 0 (fun _ => true) true fuel 5 cs = some x) : ∃ a : UInt8, cs = [bv a] ∧ True := by
  obtain ⟨z, e, _, wz⟩ := DataW.trod_int Tryz.underlying5 h
  have hw := wf_u8 wz
  exact ⟨u8 z, by rw [e, bv_u8, Int.emod_eq_of_lt hw.1 hw.2], trivial⟩
theorem flat_bytes (l : List UInt8) : (l.flatMap fun a => [bv a]) = bvs l := by
  unfold bvs
  induction l with
  | nil => rfl
  | cons a l ih => rw [List.flatMap_cons, ih]; rfl
theorem trod_bytes {fuel : Nat} {cs : List Value} {x : DataW H × List MemPlace} (h : DataW.trod enc Tryz.prog W 0 (fun _ => true) true fuel 26 cs = some x) : ∃ (v : Value) (l : List UInt8), cs = [v] ∧ Rd W v (bvs l) := by
  obtain ⟨A, n, c, l, e, r, _, _⟩ := trod_rowsS (cells := fun a : UInt8 => [bv a]) (Good := fun _ => True) (k := 1) Tryz.underlying26 (by kernel_rfl) (by omega) (fun _ => rfl) (fun n cs y hl h => trod_byte h) h
  refine ⟨_, l, e, ?_⟩
  rw [← flat_bytes]
  exact RdK.r1S r
theorem trod_gh {fuel : Nat} {cs : List Value} {x : DataW H × List MemPlace} (hl : cs.length = 2) (h : DataW.trod enc Tryz.prog W 0 (fun _ => true) true fuel 72 cs = some x) : ∃ p : (Int × List UInt8) × Value, cs = hsCells p ∧ Rd W p.2 (bvs p.1.2) := by
  have c_i : Tryz.prog.cellsOf 3 = 1 := by kernel_rfl
  have c_b : Tryz.prog.cellsOf 26 = 1 := by kernel_rfl
  obtain ⟨xs, n, _, _, _, hlen, hg⟩ := DataW.trod_struct Tryz.underlying72 h
  match cs, hl, xs, hlen with
  | [v0, v1], _, [y0, y1], _ =>
    have g0 : DataW.trod enc Tryz.prog W 0 (fun _ => true) true n 3 (([v0, v1].drop 0).take (Tryz.prog.cellsOf 3)) = some y0 := hg 0 _ rfl
    rw [c_i] at g0
    have g1 : DataW.trod enc Tryz.prog W 0 (fun _ => true) true n 26 (([v0, v1].drop 1).take (Tryz.prog.cellsOf 26)) = some y1 := hg 1 _ rfl
    rw [c_b] at g1
    simp only [List.drop_succ_cons, List.drop_zero, List.take_succ_cons, List.take_zero] at g0 g1
    obtain ⟨z0, e0, _, _⟩ := DataW.trod_int Tryz.underlying3 g0
    obtain ⟨z1, l1, e1, r1⟩ := trod_bytes g1
    injection e0 with e0
    subst e0
    injection e1 with e1
    subst e1
    exact ⟨((z0, l1), v1), rfl, r1⟩
theorem trod_se {fuel : Nat} {cs : List Value} {x : DataW H × List MemPlace} (hl : cs.length = 5) (h : DataW.trod enc Tryz.prog W 0 (fun _ => true) true fuel 37 cs = some x) :
    ∃ (s : SE) (vh vc : Value), cs = [.int .i64 s.v, vh, vc, .int .i64 s.e, .int .i64 s.s] ∧ SeR W s vh vc := by
  have c_i : Tryz.prog.cellsOf 3 = 1 := by kernel_rfl
  have c_b : Tryz.prog.cellsOf 26 = 1 := by kernel_rfl
  have c_h : Tryz.prog.cellsOf 30 = 1 := by kernel_rfl
  have c_S : Tryz.prog.cellsOf 35 = 2 := by kernel_rfl
  obtain ⟨xs, n, _, _, _, hlen, hg⟩ := DataW.trod_struct Tryz.underlying37 h
  match cs, hl, xs, hlen with
  | [v0, v1, v2, v3, v4], _, [y0, y1, y2, y3], _ =>
    have g0 : DataW.trod enc Tryz.prog W 0 (fun _ => true) true n 3 (([v0, v1, v2, v3, v4].drop 0).take (Tryz.prog.cellsOf 3)) = some y0 := hg 0 _ rfl
    rw [c_i] at g0
    have g1 : DataW.trod enc Tryz.prog W 0 (fun _ => true) true n 30 (([v0, v1, v2, v3, v4].drop 1).take (Tryz.prog.cellsOf 30)) = some y1 := hg 1 _ rfl
    rw [c_h] at g1
    have g2 : DataW.trod enc Tryz.prog W 0 (fun _ => true) true n 26 (([v0, v1, v2, v3, v4].drop 2).take (Tryz.prog.cellsOf 26)) = some y2 := hg 2 _ rfl
    rw [c_b] at g2
    have g3 : DataW.trod enc Tryz.prog W 0 (fun _ => true) true n 35 (([v0, v1, v2, v3, v4].drop 3).take (Tryz.prog.cellsOf 35)) = some y3 := hg 3 _ rfl
    rw [c_S] at g3
    simp only [List.drop_succ_cons, List.drop_zero, List.take_succ_cons, List.take_zero] at g0 g1 g2 g3
    obtain ⟨z0, e0, _, _⟩ := DataW.trod_int Tryz.underlying3 g0
    obtain ⟨A1, n1, c1, ps, e1, r1, gd1, _⟩ := trod_rowsS (cells := hsCells) (Good := fun p : (Int × List UInt8) × Value => Rd W p.2 (bvs p.1.2)) (k := 2) Tryz.underlying30 (by kernel_rfl) (by omega) (fun _ => rfl) (fun n cs y hl h => trod_gh hl h) g1
    obtain ⟨z2, l2, e2, r2⟩ := trod_bytes g2
    obtain ⟨z3, z4, e3⟩ := trod_sigS rfl g3
    injection e0 with e0
    injection e1 with e1
    injection e2 with e2
    injection e3 with e3 e4
    injection e4 with e4
    subst e0 e1 e2 e3 e4
    exact ⟨⟨z0, ps.map (·.1), l2, z3, z4⟩, .slice A1 n1 c1, v2, rfl, hsRd_of r1 gd1, r2⟩
end
section
variable {H : Type} {enc : TypeId × Value → H} {W : World} {base : Nat} {v : Value} {d : DataW H} {p : List MemPlace}
theorem open_se (hv : Value.okWide Tryz.prog W .any base 37 v) (h : DataW.Trod enc Tryz.prog W 0 (fun _ => true) true 37 v d p) : ∃ (s : SE) (vh vc : Value), v = seV s vh vc ∧ SeR W s vh vc := by
  have hC : Tryz.prog.cellsOf 37 = 5 := by kernel_rfl
  obtain ⟨⟨cs⟩, rfl, hsz⟩ := okWide_struct Tryz.underlying37 hv
  rw [hC] at hsz
  obtain ⟨fuel, hf⟩ := h
  obtain ⟨s, vh, vc, e, hr⟩ := trod_se hsz hf
  have e' : cs = [.int .i64 s.v, vh, vc, .int .i64 s.e, .int .i64 s.s] := e
  subst e'
  exact ⟨s, vh, vc, rfl, hr⟩
end
theorem gG : Tryz.prog.globalNamed "traveldoc/datagroups.tags" = some 1 := by kernel_rfl
theorem gH : Tryz.prog.globalNamed "traveldoc/traveldocref15.tags" = some 0 := by kernel_rfl
theorem tG : (Tryz.prog.globals[1]?).map (·.type) = some 101 := by kernel_rfl
theorem tH : (Tryz.prog.globals[0]?).map (·.type) = some 101 := by kernel_rfl
theorem ci1 : Tryz.prog.cellsOf 3 = 1 := by kernel_rfl
theorem ci18 : Tryz.prog.cellsOf 101 = 18 := by kernel_rfl
theorem gtab_of_tab {W : World} {name : String} {g : Nat} (h : Lib.TabIs Tryz.prog W name .i64 grpT) (hg : Tryz.prog.globalNamed name = some g) : GTab W g := fun t ht => h.cell hg t ht
theorem of_laidE {W : World} (h : laidMetH Tryz.prog Rows.securityobjectExactRow.laid W) : GTab W 0 ∧ KTab W 2 ∧ GTab W 1 := by
  rw [MakeChecks.laidMetH_plain _ _ _ (by kernel_rfl)] at h
  refine ⟨gtab_of_tab (Lib.tabIs_of_head gH tH Tryz.underlying101 Tryz.underlying3 ci1 ci18 h) gH, ?_⟩
  obtain ⟨ps, ⟨g1, t1, cs1, f1, p1, q1, hg1, ht1, hv1, hd1, ⟨g2, t2, cs2, f2, p2, q2, hg2, ht2, hv2, hd2, ⟨g3, t3, cs3, f3, p3, q3, hg3, ht3, hv3, hd3, _, _⟩, _⟩, _⟩, _⟩ := h
  obtain rfl := Option.some.inj (gD.symm.trans hg2)
  obtain rfl := Option.some.inj (tD.symm.trans ht2)
  obtain rfl := Option.some.inj (gG.symm.trans hg3)
  obtain rfl := Option.some.inj (tG.symm.trans ht3)
  refine ⟨ktab_of_tab ?_ gD, gtab_of_tab ?_ gG⟩
  · unfold Lib.TabIs
    rw [hv2, ← Lib.cells_of_tab Tryz.underlying169 Tryz.underlying125 c1 c64 hd2]
  · unfold Lib.TabIs
    rw [hv3, ← Lib.cells_of_tab Tryz.underlying101 Tryz.underlying3 ci1 ci18 hd3]
end Go.Proofs.YthbpdhanljpigaaGreatDoor
