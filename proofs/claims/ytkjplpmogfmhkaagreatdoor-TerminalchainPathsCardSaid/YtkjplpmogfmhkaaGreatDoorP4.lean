/- Law 04: the frames of the laws. -/
import Derived.Test.YtkjplpmogfmhkaaGreatDoorWd8
import Derived.Test.YtkjplpmogfmhkaaGreatDoorKx
import Derived.Test.YtkjplpmogfmhkaaGreatDoorEv
import Derived.Test.YtkjplpmogfmhkaaGreatDoorRows
import Derived.Test.YtkjplpmogfmhkaaGreatDoorCards
import Derived.Test.YtkjplpmogfmhkaaGreatDoorTie
import Derived.ProofKit
import Derived.OpenShut
import Derived.LaidMore
import Derived.Lay
import Derived.Lib.LaidTab
import Derived.SizedLaws
import Derived.SevenTiedAt
import Derived.Stop.Joined
namespace Go.Proofs.YtkjplpmogfmhkaaGreatDoor
open Go.ChangeShapes Go.WideShapes Go.ChangeAt Go.RowKit
set_option linter.unusedVariables false
set_option maxRecDepth 100000

theorem laidOut : laidOutB Tryz.prog = true := by kernel_rfl
theorem own : ownKnob Tryz.prog.godebug = none := by kernel_rfl
theorem data1 {H : Type} : (Rows.laid_traveldoc_digest_constants : DataW H) = Lib.tabData .u32 kTab := rfl
theorem data2 {H : Type} : (Rows.laid_traveldoc_traveldocref04_constants : DataW H) = Lib.tabData .u32 kTab := rfl
theorem gD : Tryz.prog.globalNamed "traveldoc/digest.constants" = some 1 := by kernel_rfl
theorem gR : Tryz.prog.globalNamed "traveldoc/traveldocref04.constants" = some 0 := by kernel_rfl
theorem tD : (Tryz.prog.globals[1]?).map (·.type) = some 276 := by kernel_rfl
theorem tR : (Tryz.prog.globals[0]?).map (·.type) = some 276 := by kernel_rfl
theorem c1 : Tryz.prog.cellsOf 265 = 1 := by kernel_rfl
theorem c64 : Tryz.prog.cellsOf 276 = 64 := by kernel_rfl
theorem ktab_of_tab {W : World} {name : String} {g : Nat} (h : Lib.TabIs Tryz.prog W name .u32 kTab) (hg : Tryz.prog.globalNamed name = some g) : KTab W g := fun t ht => h.cell hg t ht

theorem of_laid2 {W : World} (h : laidMetH Tryz.prog Rows.terminalchainImportsRow.laid W) : KTab W 1 ∧ KTab W 0 := by
  rw [MakeChecks.laidMetH_plain _ _ _ (by kernel_rfl)] at h
  refine ⟨?_, ktab_of_tab (Lib.tabIs_of_head gR tR Tryz.underlying276 Tryz.underlying265 c1 c64 h) gR⟩
  obtain ⟨ps, ⟨g1, t1, cs1, f1, p1, q1, hg1, ht1, hv1, hd1, ⟨g2, t2, cs2, f2, p2, q2, hg2, ht2, hv2, hd2, _, _⟩, _⟩, _⟩ := h
  obtain rfl := Option.some.inj (gD.symm.trans hg2)
  obtain rfl := Option.some.inj (tD.symm.trans ht2)
  refine ktab_of_tab ?_ gD
  unfold Lib.TabIs
  rw [hv2, ← Lib.cells_of_tab Tryz.underlying276 Tryz.underlying265 c1 c64 hd2]

/-- A slice of integers that came in. -/
theorem open_slice {H : Type} {enc : TypeId × Value → H} {W : World} {base : Nat} {t e : TypeId} {k : IntKind} {v : Value} {d : DataW H} {p : List MemPlace} (hu : Tryz.prog.underlying t = some (.slice e)) (he : Tryz.prog.underlying e = some (.int k)) (hc : Tryz.prog.cellsOf e = 1)
    (hv : Value.okWide Tryz.prog W .any base t v) (h : DataW.Trod enc Tryz.prog W 0 (fun _ => true) true t v d p) :
    ∃ zs : List Int, RdI W k v zs ∧ (∀ n ∈ zs, (Lit.int k n).wf = true) ∧ (zs = [] ∨ ∃ e s, d = .slice e s ∧ zs.length ≤ e.length + s.length) := by
  obtain ⟨a, len, cap, rfl⟩ := okWide_slice hu hv
  obtain ⟨fuel, hf⟩ := h
  rcases open_ints hu he hc hf with ⟨hcs, _⟩ | ⟨x, l, c, zs, hcs, _, hl, hm, hz, hx, hcell, hwz⟩
  · simp [Value.cells] at hcs
    obtain ⟨rfl, rfl, rfl⟩ := hcs
    exact ⟨[], Rd.nil_ _, by simp, .inl rfl⟩
  · simp [Value.cells] at hcs
    obtain ⟨rfl, rfl, rfl⟩ := hcs
    simp only [if_true] at hz
    refine ⟨zs.take len, ?_, fun n hn => hwz n (List.mem_of_mem_take hn), .inr ⟨_, _, (Prod.mk.inj hx).1, ?_⟩⟩
    · refine ⟨_, len, cap, rfl, by simp; omega, hl, hm, fun h0 => ?_⟩
      obtain ⟨b, o, sp⟩ := x
      have h1 := hcell 0 (by omega)
      cases sp with
      | some q =>
        exfalso
        simp only [Addr.add, if_true, World.cell?] at h1
        split at h1 <;> simp at h1
      | none =>
        refine ⟨b, o, rfl, fun j u hu => ?_⟩
        rw [List.getElem?_map, List.getElem?_take, Option.map_eq_some_iff] at hu
        obtain ⟨y, hy, rfl⟩ := hu
        split at hy
        · have hj : j < zs.length := (List.getElem?_eq_some_iff.1 hy).1
          have := hcell j hj
          rw [Addr.add_lit] at this
          rw [this]
          simp [List.getD_eq_getElem?_getD, hy]
        · cases hy
    · rw [List.length_take]
      simp only [lits, List.length_map, List.length_take, List.length_drop]
      omega
theorem wf_u8 {z : Int} (h : (Lit.int .u8 z).wf = true) : 0 ≤ z ∧ z < 256 := by
  simp only [Lit.wf, Bool.and_eq_true, decide_eq_true_eq] at h
  obtain ⟨h1, h2⟩ := h
  have e1 : IntKind.u8.min = 0 := rfl
  have e2 : IntKind.u8.max = 255 := rfl
  omega
theorem wf_u32 {z : Int} (h : (Lit.int .u32 z).wf = true) : U32 z := by
  simp only [Lit.wf, Bool.and_eq_true, decide_eq_true_eq] at h
  obtain ⟨h1, h2⟩ := h
  have e1 : IntKind.u32.min = 0 := rfl
  have e2 : IntKind.u32.max = 4294967295 := rfl
  exact ⟨by omega, by omega⟩
/-- A slice of bytes that came in reads as bytes. -/
theorem open_bytes {H : Type} {enc : TypeId × Value → H} {W : World} {base : Nat} {v : Value} {d : DataW H} {p : List MemPlace} (hv : Value.okWide Tryz.prog W .any base 89 v) (h : DataW.Trod enc Tryz.prog W 0 (fun _ => true) true 89 v d p) :
    ∃ l : List UInt8, Rd W v (bvs l) ∧ (l = [] ∨ ∃ e s, d = .slice e s ∧ l.length ≤ e.length + s.length) := by
  obtain ⟨zs, h1, h2, h3⟩ := open_slice Tryz.underlying89 Tryz.underlying5 (by kernel_rfl) hv h
  refine ⟨zs.map u8, ?_, ?_⟩
  · have : bvs (zs.map u8) = zs.map (Value.int .u8) := by
      simp only [bvs, List.map_map]
      refine List.map_congr_left fun z hz => ?_
      have := wf_u8 (h2 z hz)
      show bv (u8 z) = _
      rw [bv_u8, Int.emod_eq_of_lt this.1 this.2]
    rw [this]; exact h1
  · rcases h3 with rfl | ⟨e, s, h4, h5⟩
    · exact .inl rfl
    · exact .inr ⟨e, s, h4, by rw [List.length_map]; exact h5⟩

end Go.Proofs.YtkjplpmogfmhkaaGreatDoor
