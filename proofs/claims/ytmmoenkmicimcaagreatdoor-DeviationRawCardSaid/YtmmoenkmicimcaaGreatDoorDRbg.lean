/- Parts Op of the proof. -/
import Derived.Test.YtmmoenkmicimcaaGreatDoorDRaq
import Derived.Lib.SmallJoins
import Derived.OpenShut
import Derived.Test.YtmmoenkmicimcaaGreatDoorDRao
import Derived.Test.YtmmoenkmicimcaaGreatDoorDRaa
import Derived.Test.YtmmoenkmicimcaaGreatDoorDRav
import Derived.Deep.Fields
namespace Go.Proofs.YtmmoenkmicimcaaGreatDoor
open Go.Joins Go.ChangeShapes Go.WideShapes Go.ChangeAt Go.RowKit Go.Deep
set_option linter.unusedVariables false
set_option maxRecDepth 100000
section
variable {H : Type} {enc : TypeId × Value → H} {P : Program} {W : World} {spare : Nat → Bool} {held : Bool}
/-- A slice whose elements take k cells each. -/
theorem trod_rows {α : Type} {cells : α → List Value} {Good : α → Prop} {t e : TypeId} {k fuel : Nat} {cs : List Value} {x : DataW H × List MemPlace} (ht : P.underlying t = some (.slice e)) (hc : P.cellsOf e = k) (h0 : 0 < k) (hlen : ∀ a, (cells a).length = k)
    (hel : ∀ (n : Nat) (cs : List Value) (y : DataW H × List MemPlace), cs.length = k → DataW.trod enc P W 0 spare held n e cs = some y → ∃ a, cs = cells a ∧ Good a)
    (h : DataW.trod enc P W 0 spare held fuel t cs = some x) :
    ∃ (A : Option Addr) (n c : Nat) (l : List α), cs = [.slice A n c] ∧ RdK W k (.slice A n c) (l.flatMap cells) ∧ (∀ a ∈ l, Good a) ∧ n = l.length := by
  rcases Deep.open_slice ht h with ⟨rfl, rfl⟩ | ⟨a, len, cap, m, n, D, Pl, rfl, hb, hl, hm, hmm, rfl, hx⟩
  · exact ⟨none, 0, 0, [], rfl, RdK.nil_ W k none, fun a ha => (by cases ha), rfl⟩
  have hlm : len ≤ m := by rw [hmm]; split <;> omega
  have hi : ∀ i : Fin len, ∃ y : α, W.cells? 0 (a.add (i.1 * k)) k = some (cells y) ∧ Good y := fun i => by
    obtain ⟨cs', h1, h2⟩ := hx i.1 (Nat.lt_of_lt_of_le i.2 hlm)
    rw [hc] at h1
    obtain ⟨_, hl', _⟩ := World.cells?_some h1
    obtain ⟨y, rfl, hg⟩ := hel n cs' _ hl' h2
    exact ⟨y, h1, hg⟩
  have hL : (List.ofFn fun i => Classical.choose (hi i)).length = len := by simp
  have hG : ∀ i (h : i < (List.ofFn fun i => Classical.choose (hi i)).length), W.cells? 0 (a.add (i * k)) k = some (cells (List.ofFn fun i => Classical.choose (hi i))[i]) ∧ Good (List.ofFn fun i => Classical.choose (hi i))[i] := fun i h => by
    rw [List.getElem_ofFn]
    exact Classical.choose_spec (hi ⟨i, by simpa using h⟩)
  generalize (List.ofFn fun i => Classical.choose (hi i)) = l at hL hG
  refine ⟨some a, len, cap, l, rfl, ⟨some a, len, cap, rfl, ?_, hl, hm, fun hp => ?_⟩, fun y hy => ?_, hL.symm⟩
  · rw [flat_len cells k hlen l, hL]
  · obtain ⟨b, off, sp⟩ := a
    have hsp : sp = none := by
      obtain ⟨_, hl', hcell⟩ := World.cells?_some (hG 0 (by omega)).1
      have h1 := hcell 0 h0
      rw [List.getElem?_eq_getElem (by rw [hl']; exact h0)] at h1
      have h2 := World.cell?_spot h1
      cases sp with
      | none => rfl
      | some q => simp [Addr.add] at h2
    subst hsp
    refine ⟨b, off, rfl, fun j u hu => ?_⟩
    have hj : j < l.length * k := by rw [← flat_len cells k hlen l]; exact (List.getElem?_eq_some_iff.1 hu).1
    have hdiv : j / k < l.length := Nat.div_lt_of_lt_mul (by rw [Nat.mul_comm]; exact hj)
    obtain ⟨_, hl', hcell⟩ := World.cells?_some (hG (j / k) hdiv).1
    have h1 := hcell (j % k) (Nat.mod_lt _ h0)
    have ej : j / k * k + j % k = j := by rw [Nat.mul_comm]; exact Nat.div_add_mod j k
    have e1 := flat_get cells k hlen l (j / k) hdiv (j % k) (Nat.mod_lt _ h0)
    rw [ej, hu] at e1
    rw [← e1, Addr.add_lit, Addr.add_lit, Nat.add_assoc, ej] at h1
    exact h1
  · obtain ⟨i, hi', rfl⟩ := List.getElem_of_mem hy
    exact (hG i hi').2
end
section
variable {H : Type} {enc : TypeId × Value → H} {W : World}
theorem trod_sig {fuel : Nat} {cs : List Value} {x : DataW H × List MemPlace} (hl : cs.length = 2) (h : DataW.trod enc Tryz.prog W 0 (fun _ => true) true fuel 37 cs = some x) : ∃ (e : Int) (s : Int), cs = [.int .i64 e, .int .i64 s] := by
  have c2 : Tryz.prog.cellsOf 3 = 1 := by kernel_rfl
  obtain ⟨xs, n, _, _, _, hlen, hg⟩ := DataW.trod_struct Tryz.underlying37 h
  match cs, hl, xs, hlen with
  | [v0, v1], _, [y0, y1], _ =>
    have g0 : DataW.trod enc Tryz.prog W 0 (fun _ => true) true n 3 (([v0, v1].drop 0).take (Tryz.prog.cellsOf 3)) = some y0 := hg 0 _ rfl
    rw [c2] at g0
    have g1 : DataW.trod enc Tryz.prog W 0 (fun _ => true) true n 3 (([v0, v1].drop 1).take (Tryz.prog.cellsOf 3)) = some y1 := hg 1 _ rfl
    rw [c2] at g1
    simp only [List.drop_succ_cons, List.drop_zero, List.take_succ_cons, List.take_zero] at g0 g1
    obtain ⟨z0, e0, _, _⟩ := DataW.trod_int Tryz.underlying3 g0
    obtain ⟨z1, e1, _, _⟩ := DataW.trod_int Tryz.underlying3 g1
    injection e0 with e0
    subst e0
    injection e1 with e1
    subst e1
    exact ⟨z0, z1, rfl⟩
end
section
variable {H : Type} {enc : TypeId × Value → H} {W : World} {base : Nat} {v : Value} {d : DataW H} {p : List MemPlace}
theorem open_str (hv : Value.okWide Tryz.prog W .any base 9 v) (h : DataW.Trod enc Tryz.prog W 0 (fun _ => true) true 9 v d p) : ∃ l : List UInt8, v = .string (bstr l) ∧ l.length ≤ maxLen := by
  obtain ⟨s, rfl⟩ := okWide_string Tryz.underlying9 hv
  obtain ⟨fuel, hf⟩ := h
  obtain ⟨z, e, _, hz⟩ := DataW.trod_string Tryz.underlying9 hf
  have e' : [Value.string s] = [Value.string z] := e
  injection e' with e' _
  injection e' with e'
  subst e'
  exact ⟨s.data.toList, rfl, by simpa using hz⟩
end
end Go.Proofs.YtmmoenkmicimcaaGreatDoor
