/- Parts P4 Hd of the proof. -/
import Derived.Test.YthbpdhanljpigaaGreatDoorVam
import Derived.Test.YthbpdhanljpigaaGreatDoorVah
import Derived.Test.YthbpdhanljpigaaGreatDoorVak
import Derived.Test.YthbpdhanljpigaaGreatDoorRows
import Derived.Test.YthbpdhanljpigaaGreatDoorCards
import Derived.Test.YthbpdhanljpigaaGreatDoorTie
import Derived.ProofKit
import Derived.OpenShut
import Derived.LaidMore
import Derived.Lay
import Derived.Lib.LaidTab
import Derived.SizedLaws
import Derived.SevenTiedAt
import Derived.Stop.Joined
namespace Go.Proofs.YthbpdhanljpigaaGreatDoor
open Go.ChangeShapes Go.WideShapes Go.ChangeAt Go.RowKit
set_option linter.unusedVariables false
set_option maxRecDepth 100000
theorem laidOut : laidOutB Tryz.prog = true := by kernel_rfl
theorem own : ownKnob Tryz.prog.godebug = none := by kernel_rfl
theorem gD : Tryz.prog.globalNamed "traveldoc/digest.constants" = some 2 := by kernel_rfl
theorem gR : Tryz.prog.globalNamed "traveldoc/traveldocref04.constants" = some 3 := by kernel_rfl
theorem tD : (Tryz.prog.globals[2]?).map (·.type) = some 169 := by kernel_rfl
theorem c1 : Tryz.prog.cellsOf 125 = 1 := by kernel_rfl
theorem c64 : Tryz.prog.cellsOf 169 = 64 := by kernel_rfl
theorem ktab_of_tab {W : World} {name : String} {g : Nat} (h : Lib.TabIs Tryz.prog W name .u32 kTab) (hg : Tryz.prog.globalNamed name = some g) : KTab W g := fun t ht => h.cell hg t ht

/-- A slice of integers that came in. -/
theorem open_slice {H : Type} {enc : TypeId × Value → H} {W : World} {base : Nat} {t e : TypeId} {k : IntKind} {v : Value} {d : DataW H} {p : List MemPlace} (hu : Tryz.prog.underlying t = some (.slice e)) (he : Tryz.prog.underlying e = some (.int k)) (hc : Tryz.prog.cellsOf e = 1)
    (hv : Value.okWide Tryz.prog W .any base t v) (h : DataW.Trod enc Tryz.prog W 0 (fun _ => true) true t v d p) :
    ∃ zs : List Int, RdI W k v zs ∧ (∀ n ∈ zs, (Lit.int k n).wf = true) ∧ (zs = [] ∨ ∃ e s, d = .slice e s ∧ zs.length ≤ e.length + s.length) := by
  obtain ⟨a, len, cap, rfl⟩ := okWide_slice hu hv
  obtain ⟨fuel, hf⟩ := h
  rcases open_ints hu he hc hf with ⟨hcs, _⟩ | ⟨x, l, c, zs, hcs, _, hl, hm, hz, hx, hcell, hwz⟩
  · simp [Value.cells] at hcs
    obtain ⟨rfl, rfl, rfl⟩ := hcs
    exact ⟨[], Rd.nil_ _, by simp, .inl rfl⟩
  · simp [Value.cells] at hcs
    obtain ⟨rfl, rfl, rfl⟩ := hcs
    simp only [if_true] at hz
    refine ⟨zs.take len, ?_, fun n hn => hwz n (List.mem_of_mem_take hn), .inr ⟨_, _, (Prod.mk.inj hx).1, ?_⟩⟩
    · refine ⟨_, len, cap, rfl, by simp; omega, hl, hm, fun h0 => ?_⟩
      obtain ⟨b, o, sp⟩ := x
      have h1 := hcell 0 (by omega)
      cases sp with
      | some q =>
        exfalso
        simp only [Addr.add, if_true, World.cell?] at h1
        split at h1 <;> simp at h1
      | none =>
        refine ⟨b, o, rfl, fun j u hu => ?_⟩
        rw [List.getElem?_map, List.getElem?_take, Option.map_eq_some_iff] at hu
        obtain ⟨y, hy, rfl⟩ := hu
        split at hy
        · have hj : j < zs.length := (List.getElem?_eq_some_iff.1 hy).1
          have := hcell j hj
          rw [Addr.add_lit] at this
          rw [this]
          simp [List.getD_eq_getElem?_getD, hy]
        · cases hy
    · rw [List.length_take]
      simp only [lits, List.length_map, List.length_take, List.length_drop]
      omega
theorem wf_u8 {z : Int} (h : (Lit.int .u8 z).wf = true) : 0 ≤ z ∧ z < 256 := by
  simp only [Lit.wf, Bool.and_eq_true, decide_eq_true_eq] at h
  obtain ⟨h1, h2⟩ := h
  have e1 : IntKind.u8.min = 0 := rfl
  have e2 : IntKind.u8.max = 255 := rfl
  omega
/-- A slice of bytes that came in reads as bytes. -/
theorem open_bytes {H : Type} {enc : TypeId × Value → H} {W : World} {base : Nat} {v : Value} {d : DataW H} {p : List MemPlace} (hv : Value.okWide Tryz.prog W .any base 26 v) (h : DataW.Trod enc Tryz.prog W 0 (fun _ => true) true 26 v d p) :
    ∃ l : List UInt8, Rd W v (bvs l) ∧ (l = [] ∨ ∃ e s, d = .slice e s ∧ l.length ≤ e.length + s.length) := by
  obtain ⟨zs, h1, h2, h3⟩ := open_slice Tryz.underlying26 Tryz.underlying5 (by kernel_rfl) hv h
  refine ⟨zs.map u8, ?_, ?_⟩
  · have : bvs (zs.map u8) = zs.map (Value.int .u8) := by
      simp only [bvs, List.map_map]
      refine List.map_congr_left fun z hz => ?_
      have := wf_u8 (h2 z hz)
      show bv (u8 z) = _
      rw [bv_u8, Int.emod_eq_of_lt this.1 this.2]
    rw [this]; exact h1
  · rcases h3 with rfl | ⟨e, s, h4, h5⟩
    · exact .inl rfl
    · exact .inr ⟨e, s, h4, by rw [List.length_map]; exact h5⟩

end Go.Proofs.YthbpdhanljpigaaGreatDoor
namespace Go.Proofs.YthbpdhanljpigaaGreatDoor
open Go.ChangeShapes Go.WideShapes Go.ChangeAt Go.RowKit
def sg (l : List Nat) : List Char := l.map Char.ofNat
def headNums : List Nat := [104, 97, 114, 110, 101, 115, 115, 32, 99, 56, 56, 99, 101, 53, 52, 56, 50, 98, 99, 102, 102, 56, 100, 100, 55, 50, 56, 53, 51, 50, 52, 56, 53, 99, 50, 100, 54, 55, 99, 98,
  101, 54, 100, 50, 54, 50, 99, 98, 101, 50, 98, 56, 101, 97, 57, 48, 98, 53, 54, 57, 55, 50, 53, 54, 51, 98, 54, 53, 51, 52, 49, 48, 32, 99, 117, 116, 32, 97, 116, 32,
  116, 114, 97, 118, 101, 108, 100, 111, 99, 47, 116, 114, 97, 118, 101, 108, 100, 111, 99, 108, 97, 119, 49, 54, 46, 83, 101, 99, 117, 114, 105, 116, 121, 111, 98, 106, 101, 99, 116, 83,
  105, 103, 110, 115, 32, 116, 114, 97, 118, 101, 108, 100, 111, 99, 47, 116, 114, 97, 118, 101, 108, 100, 111, 99, 108, 97, 119, 49, 54, 46, 83, 101, 99, 117, 114, 105, 116, 121, 111, 98,
  106, 101, 99, 116, 68, 105, 102, 102, 101, 114, 115, 32, 116, 114, 97, 118, 101, 108, 100, 111, 99, 47, 116, 114, 97, 118, 101, 108, 100, 111, 99, 108, 97, 119, 49, 54, 46, 83, 101, 99,
  117, 114, 105, 116, 121, 111, 98, 106, 101, 99, 116, 69, 120, 97, 99, 116, 32, 116, 114, 97, 118, 101, 108, 100, 111, 99, 47, 116, 114, 97, 118, 101, 108, 100, 111, 99, 108, 97, 119, 49,
  54, 46, 83, 101, 99, 117, 114, 105, 116, 121, 111, 98, 106, 101, 99, 116, 77, 97, 100, 101, 32, 116, 114, 97, 118, 101, 108, 100, 111, 99, 47, 116, 114, 97, 118, 101, 108, 100, 111, 99,
  108, 97, 119, 49, 54, 46, 83, 101, 99, 117, 114, 105, 116, 121, 111, 98, 106, 101, 99, 116, 80, 114, 111, 118, 101, 115]
def headSigns : List Char := sg headNums
def headTail : List (List Char) := [sg [97, 116],
  sg [116, 114, 97, 118, 101, 108, 100, 111, 99, 47, 116, 114, 97, 118, 101, 108, 100, 111, 99, 108, 97, 119, 49, 54, 46, 83, 101, 99, 117, 114, 105, 116, 121, 111, 98, 106, 101, 99, 116, 83, 105, 103, 110, 115],
  sg [116, 114, 97, 118, 101, 108, 100, 111, 99, 47, 116, 114, 97, 118, 101, 108, 100, 111, 99, 108, 97, 119, 49, 54, 46, 83, 101, 99, 117, 114, 105, 116, 121, 111, 98, 106, 101, 99, 116, 68, 105, 102, 102, 101, 114, 115],
  sg [116, 114, 97, 118, 101, 108, 100, 111, 99, 47, 116, 114, 97, 118, 101, 108, 100, 111, 99, 108, 97, 119, 49, 54, 46, 83, 101, 99, 117, 114, 105, 116, 121, 111, 98, 106, 101, 99, 116, 69, 120, 97, 99, 116],
  sg [116, 114, 97, 118, 101, 108, 100, 111, 99, 47, 116, 114, 97, 118, 101, 108, 100, 111, 99, 108, 97, 119, 49, 54, 46, 83, 101, 99, 117, 114, 105, 116, 121, 111, 98, 106, 101, 99, 116, 77, 97, 100, 101],
  sg [116, 114, 97, 118, 101, 108, 100, 111, 99, 47, 116, 114, 97, 118, 101, 108, 100, 111, 99, 108, 97, 119, 49, 54, 46, 83, 101, 99, 117, 114, 105, 116, 121, 111, 98, 106, 101, 99, 116, 80, 114, 111, 118, 101, 115]]
def headWords : List (List Char) := sg [99, 117, 116] :: headTail
def sumSigns : List Char := sg [99, 56, 56, 99, 101, 53, 52, 56, 50, 98, 99, 102, 102, 56, 100, 100, 55, 50, 56, 53, 51, 50, 52, 56, 53, 99, 50, 100, 54, 55, 99, 98, 101, 54, 100, 50, 54, 50, 99, 98, 101, 50, 98, 56, 101, 97, 57, 48, 98, 53, 54, 57, 55, 50, 53, 54, 51, 98, 54, 53, 51, 52, 49, 48]
theorem head_of : Tryz.prog.initOrder = String.ofList headSigns := by kernel_rfl
theorem sum_of : "c88ce5482bcff8dd728532485c2d67cbe6d262cbe2b8ea90b56972563b653410" = String.ofList sumSigns := by kernel_rfl
theorem head_signs : Tryz.prog.initOrder.toList = headSigns := by
  rw [head_of, String.toList_ofList]
set_option maxRecDepth 100000 in
theorem head_words : behindMainWord (wordsSigns headSigns) = headWords := by decide +kernel
theorem head_all : behindMainWord (wordsSigns Tryz.prog.initOrder.toList) = sg [99, 117, 116] :: headTail := by rw [head_signs, head_words]; rfl
set_option maxRecDepth 100000 in
theorem head_main : (match wordsSigns headSigns with
  | h :: s :: _ => if !isSumSigns s then none else if h == "harness".toList then some (true, s) else if h == "ownmain".toList then some (false, s) else none
  | _ => none) = some (true, sumSigns) := by decide +kernel
theorem pf_main : Tryz.prog.mainIs = some (true, ("c88ce5482bcff8dd728532485c2d67cbe6d262cbe2b8ea90b56972563b653410" : String).toList) := by
  rw [sum_of, String.toList_ofList]
  unfold Program.mainIs
  rw [head_signs]
  exact head_main
theorem make_cut {P : Program} {r : List (List Char)} (h : behindMainWord (wordsSigns P.initOrder.toList) = sg [99, 117, 116] :: r) : P.make = some .cut := by
  unfold Program.make
  rw [h]
  rfl
theorem lifts_cut {P : Program} {r : List (List Char)} (h : behindMainWord (wordsSigns P.initOrder.toList) = sg [99, 117, 116] :: r) : P.headLifts = [] := by
  unfold Program.headLifts
  rw [h]
  rfl
theorem final_cut {P : Program} {r : List (List Char)} (h : behindMainWord (wordsSigns P.initOrder.toList) = sg [99, 117, 116] :: r) : P.liftsFinal = false := by
  unfold Program.liftsFinal
  rw [lifts_cut h, h]
  rfl
theorem enter_cut {P : Program} {r : List (List Char)} (h : behindMainWord (wordsSigns P.initOrder.toList) = sg [99, 117, 116] :: r) (h1 : P.laysLater = false) (h2 : P.bearsReflect = false) (h3 : P.doorFits [] = true) : P.mayEnter = true := by
  have e : stripLifts liftWords (sg [99, 117, 116] :: r) = ([], sg [99, 117, 116] :: r) := rfl
  unfold Program.mayEnter
  rw [h]
  simp only [e, h1, h2, h3]
  rfl
theorem pf_make : Tryz.prog.make = some .cut := make_cut head_all
theorem pf_final : Tryz.prog.liftsFinal = false := final_cut head_all
theorem pf_later : Tryz.prog.laysLater = false := by kernel_rfl
theorem pf_reflect : Tryz.prog.bearsReflect = false := by kernel_rfl
theorem pf_door : Tryz.prog.doorFits [] = true := by kernel_rfl
theorem pf_enter : Tryz.prog.mayEnter = true := enter_cut head_all pf_later pf_reflect pf_door
theorem pf_looks : false = Tryz.prog.looks [] := by kernel_rfl
end Go.Proofs.YthbpdhanljpigaaGreatDoor
