/- Parts Jx Jq of the proof. -/
import Derived.Test.YtmmoenkmicimcaaGreatDoorDRbi
import Derived.Test.YtmmoenkmicimcaaGreatDoorDRav
import Derived.Test.YtmmoenkmicimcaaGreatDoorDRbb
import Derived.Deep.CutRange
namespace Go.Proofs.YtmmoenkmicimcaaGreatDoor
open Go.RowKit
set_option linter.unusedVariables false
set_option maxRecDepth 100000
def ncRow (c : NC) : Array Value := #[.string (bstr c.st), .int .i64 c.kind, .int .i64 c.num, .int .i64 c.iss, .int .i64 c.own, .int .i64 c.key, .int .i64 c.fr, .int .i64 c.un, .int .i64 c.to, .int .i64 c.e, .int .i64 c.s]
theorem ncRow_one (c : NC) : (ncRow c).all (·.oneCell') = true := by simp [ncRow, Value.oneCell']
theorem info_nc : (Tryz.prog.info? 39).map (·.size) = some 11 := by kernel_rfl
theorem info_au : (Tryz.prog.info? 50).map (·.size) = some 33 := by kernel_rfl
theorem NcAt.row {w : World} {g : Nat} {c : NC} (h : NcAt w g c) : w.heap[g]? = some (.cells (ncRow c) 39 (0, 0)) := h
theorem NcAt.setRow {w : World} {g : Nat} {c : NC} (h : NcAt w g c) (d : NC) : NcAt (w.setRow g (ncRow d)) g d := row_at h
theorem RgS.setRow {S : List Nat} {G : Nat → Prop} {T : TypeId} {g : Nat} {w : World} {cs cs' : Array Value} (hg : w.heap[g]? = some (.cells cs T (0, 0))) (hT : T ∈ S) (hG : G g) (hs : cs'.size = cs.size) : RgS S G w (w.setRow g cs') := by
  have hb := Gb.setRow g w cs'
  refine ⟨hb.os, hb.tape, hb.output, hb.size, fun k hk => ?_⟩
  by_cases hkg : k = g
  · subst hkg
    exact .inr ⟨hG, T, cs, _, (0, 0), hT, hg, row_at hg, hs⟩
  · exact .inl (hb.block k hk (fun q => hkg (by injection q)))
/-- A new certificate's block, whatever it holds. -/
def GNcB (B : Nat) : VPred := fun v w => ∃ g, v = .pointer (some ⟨g, 0, none⟩) ∧ B ≤ g ∧ BlkT w g 39 11
/-- A new certificate's block that holds the certificate. -/
def GNcQ (B : Nat) (c : NC) : VPred := fun v w => ∃ g, v = .pointer (some ⟨g, 0, none⟩) ∧ B ≤ g ∧ NcAt w g c
theorem GNcQ.ext {B : Nat} {c : NC} (v : Value) (w w' : World) (e : Ext w w') (h : GNcQ B c v w) : GNcQ B c v w' := by
  obtain ⟨g, h1, h2, h3⟩ := h
  exact ⟨g, h1, h2, h3.ext e⟩
def ncT : List Nat := [39]
theorem nc_ncT : 39 ∈ ncT := List.mem_singleton.2 rfl
theorem GNcQ.st {B : Nat} {c : NC} {S : List Nat} {G : Nat → Prop} (T : Nat) (hT : T ≠ 39) (v : Value) (w w' : World) (e : (RG S G).st T w w') (h : GNcQ B c v w) : GNcQ B c v w' := by
  obtain ⟨g, h1, h2, h3⟩ := h
  exact ⟨g, h1, h2, e.2.other h3 (fun q => hT (List.mem_singleton.1 q).symm)⟩
theorem stable_GNcB (B : Nat) (S : List Nat) (G : Nat → Prop) : (RG S G).stable (GNcB B) := fun v w w' r ⟨g, h1, h2, h3⟩ => ⟨g, h1, h2, h3.rg r⟩
theorem run_allocN11 (W : World) : (Instr.alloc 39 true (.tuple #[])).run Tryz.prog W = .ok (.pointer (some ⟨W.heap.size, 0, none⟩)) (W.alloc (.cells #[.string ⟨#[]⟩, .int .i64 0, .int .i64 0, .int .i64 0, .int .i64 0, .int .i64 0, .int .i64 0, .int .i64 0, .int .i64 0, .int .i64 0, .int .i64 0] 39)) := by go_simp
/-- A certificate stored into its block. -/
theorem nc_store {w : World} {g : Nat} (h : BlkT w g 39 11) (c : NC) :
    ∃ w', (Instr.storeAt 39 (.pointer (some ⟨g, 0, none⟩)) (ncV c)).run Tryz.prog w = .ok () w' ∧ NcAt w' g c ∧ ∀ G : Nat → Prop, G g → RgS [39] G w w' := by
  obtain ⟨cs, h1, h2⟩ := h
  exact ⟨_, row_store (cells := ncRow c) h1 info_nc h2 (ncRow_one c), row_at h1, fun G hG => RgS.setRow h1 (List.mem_singleton.2 rfl) hG h2.symm⟩
section
open Go.Proofs.YtmmoenkmicimcaaGreatDoor.Gd (GRun)
variable {P : Program}
variable {r : Gt.Rl} {ops : Array Oper} {Q : Exit → Act → World → Prop} {w0 : World} {R : Act → World → Prop} {ss : List (Nat × VPred)}
theorem Gt.wpX_allocN11 {o : Oper} {rest : List Oper} {a : Act} {hs : List (Nat × VPred)} {d : Nat} (B : Nat) (hB : ∀ m : r.Lt w0, B ≤ m.1.heap.size) (hst : r.stable (GNcB B)) (hg : GRun ops o a hs)
    (hd : o.dst = some d) (hz : Nat.blt d a.tmps.size = true) (ho : o.op = .alloc 39) (hin : (opTmps o).all (fun t => Nat.blt t a.tmps.size) = true)
    (hr : Gt.wpX r Tryz.prog ops Q w0 R ss rest (a.put (some d) undef) ((d, GNcB B) :: hs)) : Gt.wpX r Tryz.prog ops Q w0 R ss (o :: rest) a hs :=
  Gt.wpX_newL hg (GNcB B) hst (fun _ => Instr.alloc 39 true (.tuple #[])) hd hz (by unfold notSelect; rw [ho]) hin (fun f => by unfold execOp; simp only [ho])
    (fun m f hf => ⟨_, _, run_allocN11 m.1, r.dxe ((Below.refl _ _).alloc (Nat.le_refl _) _), _, rfl, hB m, _, heap_alloc_new' m.1 _, rfl⟩) hr
/-- At the end, the stores' pointers looked up. -/
theorem Gt.wpX_endG {a : Act} {hs : List (Nat × VPred)} (hok : (ss.all fun q => okOp a (.tmp q.1)) = true)
    (h : ∀ (m : r.Lt w0) (f : Nat → Value), (∀ t p, hs.lookup t = some p → p (f t) m.1) → (∀ q ∈ ss, q.2 (evF a hs f (.tmp q.1)) m.1) → R (fillH a hs f) m.1) : Gt.wpX r P ops Q w0 R ss [] a hs :=
  Gt.wpX_endL fun m f hf hqs => h m f hf fun q hq => by
    have := hqs q hq
    rwa [Gt.ev_fill (List.all_eq_true.1 hok q hq)] at this
end
/-- An authority's row. -/
def abRow (x : AB) : Array Value := ((.string (bstr x.st)) :: x.R :: x.L :: x.S :: (.string (bstr x.sg.st)) :: (.int .i64 x.sg.kind) :: (.int .i64 x.sg.num) :: (.int .i64 x.sg.iss) :: (.int .i64 x.sg.own) :: (.int .i64 x.sg.key) :: (.int .i64 x.sg.fr) :: (.int .i64 x.sg.un) :: (.int .i64 x.sg.to) :: (.int .i64 x.sg.e) :: (.int .i64 x.sg.s) :: (.string (bstr x.ls.st)) :: (.int .i64 x.ls.kind) :: (.int .i64 x.ls.num) :: (.int .i64 x.ls.iss) :: (.int .i64 x.ls.own) :: (.int .i64 x.ls.key) :: (.int .i64 x.ls.fr) :: (.int .i64 x.ls.un) :: (.int .i64 x.ls.to) :: (.int .i64 x.ls.e) :: (.int .i64 x.ls.s) :: (.int .i64 x.ssec) :: (.int .i64 x.lsec) :: (.int .i64 x.next) :: (.int .i64 x.li) :: x.V :: x.D :: x.Z :: ([] : List Value)).toArray
structure AbOne (x : AB) : Prop where
  R : x.R.oneCell' = true
  L : x.L.oneCell' = true
  S : x.S.oneCell' = true
  V : x.V.oneCell' = true
  D : x.D.oneCell' = true
  Z : x.Z.oneCell' = true
theorem abRow_one {x : AB} (h : AbOne x) : (abRow x).all (·.oneCell') = true := by
  unfold abRow
  simp only [List.all_toArray, List.all_cons, List.all_nil, h.R, h.L, h.S, h.V, h.D, h.Z]
  rfl
theorem AuAt.row {w : World} {g : Nat} {x : AB} (h : AuAt w g x) : w.heap[g]? = some (.cells (abRow x) 50 (0, 0)) := h
theorem AuAt.setRow {w : World} {g : Nat} {x : AB} (h : AuAt w g x) (y : AB) : AuAt (w.setRow g (abRow y)) g y := row_at h
theorem OwnK.one {w : World} {B : Nat} {e : TypeId} {k : Nat} {v : Value} {xs : List Value} (h : OwnK w B e k v xs) : v.oneCell' = true := by
  obtain ⟨A, n, c, rfl, _⟩ := h
  rfl
theorem OwnK.setR {wx : World} {B : Nat} {e : TypeId} {k : Nat} {v : Value} {xs : List Value} {g : Nat} {cs : Array Value} (h : OwnK wx B e k v xs) (hne : rowOf v ≠ some g) : OwnK (wx.setRow g cs) B e k v xs := h.grown (Gb.setRow g wx cs) (.inr hne)
theorem KyI.poke {w0 wx : World} {g b i : Nat} {v : Value} {x : AB} {roots links : List NC} {secs : List Int} (h : KyI w0 g wx x roots links secs) (hb : w0.heap.size ≤ b) (h1 : g ≠ b) (h2 : g + 1 ≠ b) (r1 : rowOf x.R ≠ some b) (r2 : rowOf x.L ≠ some b) (r3 : rowOf x.S ≠ some b) : KyI w0 g (wx.setCell ⟨b, i, none⟩ v) x roots links secs :=
  ⟨ext_set h.ext hb, h.hg, h.au.other h1, h.zr.other h2, h.o1.setX r1, h.o2.setX r2, h.o3.setX r3, h.ap⟩
theorem NcAt.put123 {w : World} {g : Nat} {c : NC} (h : NcAt w g c) (a b d : Int) : NcAt (((w.setCell ⟨g, 1, none⟩ (.int .i64 a)).setCell ⟨g, 2, none⟩ (.int .i64 b)).setCell ⟨g, 3, none⟩ (.int .i64 d)) g ⟨c.st, a, b, d, c.own, c.key, c.fr, c.un, c.to, c.e, c.s⟩ := by
  have h9 := row_set (row_set (row_set h 1 (.int .i64 a)) 2 (.int .i64 b)) 3 (.int .i64 d)
  simp only [List.setIfInBounds_toArray, List.set_cons_zero, List.set_cons_succ] at h9
  exact h9
/-- The end: the authority's row goes to the result's block. -/
theorem KyI.finR {w0 wx : World} {g : Nat} {x : AB} {roots links : List NC} {secs : List Int} (h : KyI w0 g wx x roots links secs) : Ext w0 (wx.setRow (g + 1) (abRow x)) ∧ AuAt (wx.setRow (g + 1) (abRow x)) (g + 1) x ∧
    OwnK (wx.setRow (g + 1) (abRow x)) w0.heap.size 39 11 x.R (ncsCells roots) ∧ OwnK (wx.setRow (g + 1) (abRow x)) w0.heap.size 39 11 x.L (ncsCells links) ∧ OwnK (wx.setRow (g + 1) (abRow x)) w0.heap.size 3 1 x.S (intsV secs) :=
  ⟨ext_setRow h.ext (by have := h.hg; omega) _, h.zr.setRow x, h.o1.setR (h.o1.row_blk h.zr tn_ta), h.o2.setR (h.o2.row_blk h.zr tn_ta), h.o3.setR (h.o3.row_blk h.zr ti_ta)⟩
end Go.Proofs.YtmmoenkmicimcaaGreatDoor
namespace Go.Proofs.YtmmoenkmicimcaaGreatDoor
open Go.RowKit
set_option linter.unusedVariables false
set_option maxRecDepth 100000
theorem stateN_sm4 (n : Int) : (stateN n).length ≤ 4096 := by
  unfold stateN
  split
  · decide
  · split
    · decide
    · split
      · decide
      · decide
theorem stateN_sm (n : Int) : (stateN n).length ≤ maxLen := Nat.le_trans (stateN_sm4 n) (by unfold maxLen; omega)
end Go.Proofs.YtmmoenkmicimcaaGreatDoor
