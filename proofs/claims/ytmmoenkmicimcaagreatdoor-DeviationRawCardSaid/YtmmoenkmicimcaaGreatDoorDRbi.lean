/- Parts Jp Jr Ju of the proof. -/
import Derived.Test.YtmmoenkmicimcaaGreatDoorDRao
import Derived.Test.YtmmoenkmicimcaaGreatDoorDRav
import Derived.Deep.CutRange
import Derived.Deep.RegionWith
import Derived.Test.YtmmoenkmicimcaaGreatDoorDRaw
namespace Go.Proofs.YtmmoenkmicimcaaGreatDoor
open Go.RowKit
set_option linter.unusedVariables false
set_option maxRecDepth 100000
theorem mod4_cases (n : Int) : modI n 4 = 0 ∨ modI n 4 = 1 ∨ modI n 4 = 2 ∨ modI n 4 = 3 := by have := modI_bd (x := n) (m := 4) (by omega); omega
set_option maxHeartbeats 1000000 in
theorem stateX_any (n : Int) (w : World) (hn : wf64 n) : Calls Tryz.prog 32 #[.int .i64 n] w fun e w' => e = .returned (.string (bstr (stateN n))) ∧ Ext w w' := by
  obtain ⟨n0, n1⟩ := hn
  have HM := Lib.hid (fun W => mod_any n 4 W n0 n1 (by omega))
  have c4 := mod4_cases n
  have hS : stateN n = if modI n 4 = 0 then utoZ else if modI n 4 = 1 then deuN else if modI n 4 = 2 then xomN else zzzN := rfl
  generalize stateN n = S at *
  generalize modI n 4 = m4 at *
  have HS := Lib.hid hS
  clear n0 n1 hS
  go_enter Tryz.func32, Tryz.ntmps32
  go_wp2_with fail
  refine (HM.out _).mono ?_
  rintro e w' ⟨rfl, rfl⟩
  rcases c4 with rfl | rfl | rfl | rfl
  · go_wp2_with fail
    go_ret
    obtain rfl := HS.out
    exact ⟨rfl, (Below.refl _ _).alloc (Nat.le_refl _) _⟩
  · go_wp2_with fail
    go_ret
    obtain rfl := HS.out
    exact ⟨rfl, (Below.refl _ _).alloc (Nat.le_refl _) _⟩
  · go_wp2_with fail
    go_ret
    obtain rfl := HS.out
    exact ⟨rfl, (Below.refl _ _).alloc (Nat.le_refl _) _⟩
  · go_wp2_with fail
    go_ret
    obtain rfl := HS.out
    exact ⟨rfl, (Below.refl _ _).alloc (Nat.le_refl _) _⟩
end Go.Proofs.YtmmoenkmicimcaaGreatDoor
namespace Go.Proofs.YtmmoenkmicimcaaGreatDoor
open Go.RowKit
set_option linter.unusedVariables false
set_option maxRecDepth 100000
/-- What an authority's 33 cells hold. -/
structure AB where
  st : List UInt8
  R : Value
  L : Value
  S : Value
  sg : NC
  ls : NC
  ssec : Int
  lsec : Int
  next : Int
  li : Int
  V : Value
  D : Value
  Z : Value
def abV (x : AB) : Value := .agg ((.string (bstr x.st)) :: x.R :: x.L :: x.S :: (.string (bstr x.sg.st)) :: (.int .i64 x.sg.kind) :: (.int .i64 x.sg.num) :: (.int .i64 x.sg.iss) :: (.int .i64 x.sg.own) :: (.int .i64 x.sg.key) :: (.int .i64 x.sg.fr) :: (.int .i64 x.sg.un) :: (.int .i64 x.sg.to) :: (.int .i64 x.sg.e) :: (.int .i64 x.sg.s) :: (.string (bstr x.ls.st)) :: (.int .i64 x.ls.kind) :: (.int .i64 x.ls.num) :: (.int .i64 x.ls.iss) :: (.int .i64 x.ls.own) :: (.int .i64 x.ls.key) :: (.int .i64 x.ls.fr) :: (.int .i64 x.ls.un) :: (.int .i64 x.ls.to) :: (.int .i64 x.ls.e) :: (.int .i64 x.ls.s) :: (.int .i64 x.ssec) :: (.int .i64 x.lsec) :: (.int .i64 x.next) :: (.int .i64 x.li) :: x.V :: x.D :: x.Z :: ([] : List Value)).toArray
def AuAt (w : World) (g : Nat) (x : AB) : Prop := w.heap[g]? = some (.cells ((.string (bstr x.st)) :: x.R :: x.L :: x.S :: (.string (bstr x.sg.st)) :: (.int .i64 x.sg.kind) :: (.int .i64 x.sg.num) :: (.int .i64 x.sg.iss) :: (.int .i64 x.sg.own) :: (.int .i64 x.sg.key) :: (.int .i64 x.sg.fr) :: (.int .i64 x.sg.un) :: (.int .i64 x.sg.to) :: (.int .i64 x.sg.e) :: (.int .i64 x.sg.s) :: (.string (bstr x.ls.st)) :: (.int .i64 x.ls.kind) :: (.int .i64 x.ls.num) :: (.int .i64 x.ls.iss) :: (.int .i64 x.ls.own) :: (.int .i64 x.ls.key) :: (.int .i64 x.ls.fr) :: (.int .i64 x.ls.un) :: (.int .i64 x.ls.to) :: (.int .i64 x.ls.e) :: (.int .i64 x.ls.s) :: (.int .i64 x.ssec) :: (.int .i64 x.lsec) :: (.int .i64 x.next) :: (.int .i64 x.li) :: x.V :: x.D :: x.Z :: ([] : List Value)).toArray 50 (0, 0))
section
variable {w w' : World} {g : Nat} {x : AB}
theorem AuAt.lt (h : AuAt w g x) : g < w.heap.size := block_lt h
theorem AuAt.ext (h : AuAt w g x) (e : Ext w w') : AuAt w' g x := (e.block g h.lt).trans h
theorem AuAt.frozen (h : AuAt w g x) (i : Nat) : w.frozen? ⟨g, i, none⟩ = false := by
  unfold AuAt at h
  simp [World.frozen?, h]
theorem AuAt.other {b i : Nat} {v : Value} (h : AuAt w g x) (hne : g ≠ b) : AuAt (w.setCell ⟨b, i, none⟩ v) g x := (setCell_block hne).trans h
theorem AuAt.c0 (h : AuAt w g x) : w.cell? ⟨g, 0, none⟩ = some (.string (bstr x.st)) := by rw [cell_of_row w g 0 _ _ _ h]; rfl
theorem AuAt.c1 (h : AuAt w g x) : w.cell? ⟨g, 1, none⟩ = some (x.R) := by rw [cell_of_row w g 1 _ _ _ h]; rfl
theorem AuAt.c2 (h : AuAt w g x) : w.cell? ⟨g, 2, none⟩ = some (x.L) := by rw [cell_of_row w g 2 _ _ _ h]; rfl
theorem AuAt.c3 (h : AuAt w g x) : w.cell? ⟨g, 3, none⟩ = some (x.S) := by rw [cell_of_row w g 3 _ _ _ h]; rfl
theorem AuAt.c4 (h : AuAt w g x) : w.cell? ⟨g, 4, none⟩ = some (.string (bstr x.sg.st)) := by rw [cell_of_row w g 4 _ _ _ h]; rfl
theorem AuAt.c5 (h : AuAt w g x) : w.cell? ⟨g, 5, none⟩ = some (.int .i64 x.sg.kind) := by rw [cell_of_row w g 5 _ _ _ h]; rfl
theorem AuAt.c6 (h : AuAt w g x) : w.cell? ⟨g, 6, none⟩ = some (.int .i64 x.sg.num) := by rw [cell_of_row w g 6 _ _ _ h]; rfl
theorem AuAt.c7 (h : AuAt w g x) : w.cell? ⟨g, 7, none⟩ = some (.int .i64 x.sg.iss) := by rw [cell_of_row w g 7 _ _ _ h]; rfl
theorem AuAt.c8 (h : AuAt w g x) : w.cell? ⟨g, 8, none⟩ = some (.int .i64 x.sg.own) := by rw [cell_of_row w g 8 _ _ _ h]; rfl
theorem AuAt.c9 (h : AuAt w g x) : w.cell? ⟨g, 9, none⟩ = some (.int .i64 x.sg.key) := by rw [cell_of_row w g 9 _ _ _ h]; rfl
theorem AuAt.c10 (h : AuAt w g x) : w.cell? ⟨g, 10, none⟩ = some (.int .i64 x.sg.fr) := by rw [cell_of_row w g 10 _ _ _ h]; rfl
theorem AuAt.c11 (h : AuAt w g x) : w.cell? ⟨g, 11, none⟩ = some (.int .i64 x.sg.un) := by rw [cell_of_row w g 11 _ _ _ h]; rfl
theorem AuAt.c12 (h : AuAt w g x) : w.cell? ⟨g, 12, none⟩ = some (.int .i64 x.sg.to) := by rw [cell_of_row w g 12 _ _ _ h]; rfl
theorem AuAt.c13 (h : AuAt w g x) : w.cell? ⟨g, 13, none⟩ = some (.int .i64 x.sg.e) := by rw [cell_of_row w g 13 _ _ _ h]; rfl
theorem AuAt.c14 (h : AuAt w g x) : w.cell? ⟨g, 14, none⟩ = some (.int .i64 x.sg.s) := by rw [cell_of_row w g 14 _ _ _ h]; rfl
theorem AuAt.c15 (h : AuAt w g x) : w.cell? ⟨g, 15, none⟩ = some (.string (bstr x.ls.st)) := by rw [cell_of_row w g 15 _ _ _ h]; rfl
theorem AuAt.c16 (h : AuAt w g x) : w.cell? ⟨g, 16, none⟩ = some (.int .i64 x.ls.kind) := by rw [cell_of_row w g 16 _ _ _ h]; rfl
theorem AuAt.c17 (h : AuAt w g x) : w.cell? ⟨g, 17, none⟩ = some (.int .i64 x.ls.num) := by rw [cell_of_row w g 17 _ _ _ h]; rfl
theorem AuAt.c18 (h : AuAt w g x) : w.cell? ⟨g, 18, none⟩ = some (.int .i64 x.ls.iss) := by rw [cell_of_row w g 18 _ _ _ h]; rfl
theorem AuAt.c19 (h : AuAt w g x) : w.cell? ⟨g, 19, none⟩ = some (.int .i64 x.ls.own) := by rw [cell_of_row w g 19 _ _ _ h]; rfl
theorem AuAt.c20 (h : AuAt w g x) : w.cell? ⟨g, 20, none⟩ = some (.int .i64 x.ls.key) := by rw [cell_of_row w g 20 _ _ _ h]; rfl
theorem AuAt.c21 (h : AuAt w g x) : w.cell? ⟨g, 21, none⟩ = some (.int .i64 x.ls.fr) := by rw [cell_of_row w g 21 _ _ _ h]; rfl
theorem AuAt.c22 (h : AuAt w g x) : w.cell? ⟨g, 22, none⟩ = some (.int .i64 x.ls.un) := by rw [cell_of_row w g 22 _ _ _ h]; rfl
theorem AuAt.c23 (h : AuAt w g x) : w.cell? ⟨g, 23, none⟩ = some (.int .i64 x.ls.to) := by rw [cell_of_row w g 23 _ _ _ h]; rfl
theorem AuAt.c24 (h : AuAt w g x) : w.cell? ⟨g, 24, none⟩ = some (.int .i64 x.ls.e) := by rw [cell_of_row w g 24 _ _ _ h]; rfl
theorem AuAt.c25 (h : AuAt w g x) : w.cell? ⟨g, 25, none⟩ = some (.int .i64 x.ls.s) := by rw [cell_of_row w g 25 _ _ _ h]; rfl
theorem AuAt.c26 (h : AuAt w g x) : w.cell? ⟨g, 26, none⟩ = some (.int .i64 x.ssec) := by rw [cell_of_row w g 26 _ _ _ h]; rfl
theorem AuAt.c27 (h : AuAt w g x) : w.cell? ⟨g, 27, none⟩ = some (.int .i64 x.lsec) := by rw [cell_of_row w g 27 _ _ _ h]; rfl
theorem AuAt.c28 (h : AuAt w g x) : w.cell? ⟨g, 28, none⟩ = some (.int .i64 x.next) := by rw [cell_of_row w g 28 _ _ _ h]; rfl
theorem AuAt.c29 (h : AuAt w g x) : w.cell? ⟨g, 29, none⟩ = some (.int .i64 x.li) := by rw [cell_of_row w g 29 _ _ _ h]; rfl
theorem AuAt.c31 (h : AuAt w g x) : w.cell? ⟨g, 31, none⟩ = some (x.D) := by rw [cell_of_row w g 31 _ _ _ h]; rfl
theorem AuAt.put_R (h : AuAt w g x) (v : Value) : AuAt (w.setCell ⟨g, 1, none⟩ (v)) g { x with R := v } := by
  have h9 := row_set h 1 (v)
  simp only [List.setIfInBounds_toArray, List.set_cons_zero, List.set_cons_succ] at h9
  exact h9
theorem AuAt.put_L (h : AuAt w g x) (v : Value) : AuAt (w.setCell ⟨g, 2, none⟩ (v)) g { x with L := v } := by
  have h9 := row_set h 2 (v)
  simp only [List.setIfInBounds_toArray, List.set_cons_zero, List.set_cons_succ] at h9
  exact h9
theorem AuAt.put_S (h : AuAt w g x) (v : Value) : AuAt (w.setCell ⟨g, 3, none⟩ (v)) g { x with S := v } := by
  have h9 := row_set h 3 (v)
  simp only [List.setIfInBounds_toArray, List.set_cons_zero, List.set_cons_succ] at h9
  exact h9
theorem AuAt.put_ssec (h : AuAt w g x) (v : Int) : AuAt (w.setCell ⟨g, 26, none⟩ (.int .i64 v)) g { x with ssec := v } := by
  have h9 := row_set h 26 (.int .i64 v)
  simp only [List.setIfInBounds_toArray, List.set_cons_zero, List.set_cons_succ] at h9
  exact h9
theorem AuAt.put_lsec (h : AuAt w g x) (v : Int) : AuAt (w.setCell ⟨g, 27, none⟩ (.int .i64 v)) g { x with lsec := v } := by
  have h9 := row_set h 27 (.int .i64 v)
  simp only [List.setIfInBounds_toArray, List.set_cons_zero, List.set_cons_succ] at h9
  exact h9
theorem AuAt.put_next (h : AuAt w g x) (v : Int) : AuAt (w.setCell ⟨g, 28, none⟩ (.int .i64 v)) g { x with next := v } := by
  have h9 := row_set h 28 (.int .i64 v)
  simp only [List.setIfInBounds_toArray, List.set_cons_zero, List.set_cons_succ] at h9
  exact h9
def set_sg (w : World) (g : Nat) (c : NC) : World := (((((((((((w.setCell ⟨g, 4, none⟩ (.string (bstr c.st))).setCell ⟨g, 5, none⟩ (.int .i64 c.kind)).setCell ⟨g, 6, none⟩ (.int .i64 c.num)).setCell ⟨g, 7, none⟩ (.int .i64 c.iss)).setCell ⟨g, 8, none⟩ (.int .i64 c.own)).setCell ⟨g, 9, none⟩ (.int .i64 c.key)).setCell ⟨g, 10, none⟩ (.int .i64 c.fr)).setCell ⟨g, 11, none⟩ (.int .i64 c.un)).setCell ⟨g, 12, none⟩ (.int .i64 c.to)).setCell ⟨g, 13, none⟩ (.int .i64 c.e)).setCell ⟨g, 14, none⟩ (.int .i64 c.s))
theorem AuAt.put_sg (h : AuAt w g x) (c : NC) : AuAt (set_sg w g c) g { x with sg := c } := by
  have h9 := (row_set (row_set (row_set (row_set (row_set (row_set (row_set (row_set (row_set (row_set (row_set h 4 (.string (bstr c.st))) 5 (.int .i64 c.kind)) 6 (.int .i64 c.num)) 7 (.int .i64 c.iss)) 8 (.int .i64 c.own)) 9 (.int .i64 c.key)) 10 (.int .i64 c.fr)) 11 (.int .i64 c.un)) 12 (.int .i64 c.to)) 13 (.int .i64 c.e)) 14 (.int .i64 c.s))
  simp only [List.setIfInBounds_toArray, List.set_cons_zero, List.set_cons_succ] at h9
  exact h9
theorem ext_sg (h : Ext w w') (hg : w.heap.size ≤ g) (c : NC) : Ext w (set_sg w' g c) :=
  ext_set (ext_set (ext_set (ext_set (ext_set (ext_set (ext_set (ext_set (ext_set (ext_set (ext_set h hg) hg) hg) hg) hg) hg) hg) hg) hg) hg) hg
def set_ls (w : World) (g : Nat) (c : NC) : World := (((((((((((w.setCell ⟨g, 15, none⟩ (.string (bstr c.st))).setCell ⟨g, 16, none⟩ (.int .i64 c.kind)).setCell ⟨g, 17, none⟩ (.int .i64 c.num)).setCell ⟨g, 18, none⟩ (.int .i64 c.iss)).setCell ⟨g, 19, none⟩ (.int .i64 c.own)).setCell ⟨g, 20, none⟩ (.int .i64 c.key)).setCell ⟨g, 21, none⟩ (.int .i64 c.fr)).setCell ⟨g, 22, none⟩ (.int .i64 c.un)).setCell ⟨g, 23, none⟩ (.int .i64 c.to)).setCell ⟨g, 24, none⟩ (.int .i64 c.e)).setCell ⟨g, 25, none⟩ (.int .i64 c.s))
theorem AuAt.put_ls (h : AuAt w g x) (c : NC) : AuAt (set_ls w g c) g { x with ls := c } := by
  have h9 := (row_set (row_set (row_set (row_set (row_set (row_set (row_set (row_set (row_set (row_set (row_set h 15 (.string (bstr c.st))) 16 (.int .i64 c.kind)) 17 (.int .i64 c.num)) 18 (.int .i64 c.iss)) 19 (.int .i64 c.own)) 20 (.int .i64 c.key)) 21 (.int .i64 c.fr)) 22 (.int .i64 c.un)) 23 (.int .i64 c.to)) 24 (.int .i64 c.e)) 25 (.int .i64 c.s))
  simp only [List.setIfInBounds_toArray, List.set_cons_zero, List.set_cons_succ] at h9
  exact h9
theorem ext_ls (h : Ext w w') (hg : w.heap.size ≤ g) (c : NC) : Ext w (set_ls w' g c) :=
  ext_set (ext_set (ext_set (ext_set (ext_set (ext_set (ext_set (ext_set (ext_set (ext_set (ext_set h hg) hg) hg) hg) hg) hg) hg) hg) hg) hg) hg
theorem au_alloc (w : World) (x : AB) : ∃ wz, wz = w.alloc (.cells ((.string (bstr x.st)) :: x.R :: x.L :: x.S :: (.string (bstr x.sg.st)) :: (.int .i64 x.sg.kind) :: (.int .i64 x.sg.num) :: (.int .i64 x.sg.iss) :: (.int .i64 x.sg.own) :: (.int .i64 x.sg.key) :: (.int .i64 x.sg.fr) :: (.int .i64 x.sg.un) :: (.int .i64 x.sg.to) :: (.int .i64 x.sg.e) :: (.int .i64 x.sg.s) :: (.string (bstr x.ls.st)) :: (.int .i64 x.ls.kind) :: (.int .i64 x.ls.num) :: (.int .i64 x.ls.iss) :: (.int .i64 x.ls.own) :: (.int .i64 x.ls.key) :: (.int .i64 x.ls.fr) :: (.int .i64 x.ls.un) :: (.int .i64 x.ls.to) :: (.int .i64 x.ls.e) :: (.int .i64 x.ls.s) :: (.int .i64 x.ssec) :: (.int .i64 x.lsec) :: (.int .i64 x.next) :: (.int .i64 x.li) :: x.V :: x.D :: x.Z :: ([] : List Value)).toArray 50) ∧ Ext w wz ∧ AuAt wz w.heap.size x :=
  ⟨_, rfl, (Below.refl _ _).alloc (Nat.le_refl _) _, heap_alloc_new' w _⟩
end
/-- Two slices that share no row. -/
def apart (u v : Value) : Prop := ∀ r, rowOf u = some r → rowOf v ≠ some r
/-- The authority a in memory: B is where its rows begin. -/
structure AbR (w : World) (B : Nat) (x : AB) (a : AU) : Prop where
  o1 : OwnK w B 39 11 x.R (ncsCells a.roots)
  o2 : OwnK w B 39 11 x.L (ncsCells a.links)
  o3 : OwnK w B 3 1 x.S (intsV a.secs)
  ap : apart x.R x.L
  st : x.st = a.st
  sg : x.sg = a.sg
  ls : x.ls = a.ls
  ssec : x.ssec = a.ssec
  lsec : x.lsec = a.lsec
  next : x.next = a.next
theorem AbR.ext {w w' : World} {B : Nat} {x : AB} {a : AU} (h : AbR w B x a) (e : Ext w w') : AbR w' B x a := ⟨h.o1.ext e, h.o2.ext e, h.o3.ext e, h.ap, h.st, h.sg, h.ls, h.ssec, h.lsec, h.next⟩
end Go.Proofs.YtmmoenkmicimcaaGreatDoor
namespace Go.Proofs.YtmmoenkmicimcaaGreatDoor
open Go.RowKit
set_option linter.unusedVariables false
set_option maxRecDepth 100000
theorem tn_ta : 39 ≠ 50 := by decide
theorem ti_ta : 3 ≠ 50 := by decide
def zeroAB : AB := ⟨[], .slice none 0 0, .slice none 0 0, .slice none 0 0, zeroN, zeroN, 0, 0, 0, 0, .slice none 0 0, .slice none 0 0, .slice none 0 0⟩
structure KyI (w0 : World) (g : Nat) (wx : World) (x : AB) (roots links : List NC) (secs : List Int) : Prop where
  ext : Ext w0 wx
  hg : w0.heap.size ≤ g
  au : AuAt wx g x
  zr : AuAt wx (g + 1) zeroAB
  o1 : OwnK wx w0.heap.size 39 11 x.R (ncsCells roots)
  o2 : OwnK wx w0.heap.size 39 11 x.L (ncsCells links)
  o3 : OwnK wx w0.heap.size 3 1 x.S (intsV secs)
  ap : apart x.R x.L
theorem OwnK.setX {wx : World} {B : Nat} {e : TypeId} {k : Nat} {v : Value} {xs : List Value} {g i : Nat} {u : Value} (h : OwnK wx B e k v xs) (hne : rowOf v ≠ some g) : OwnK (wx.setCell ⟨g, i, none⟩ u) B e k v xs := h.grown (Gb.set g i wx u) (.inr hne)
section
variable {w0 wx wy w8 : World} {g : Nat} {x : AB} {roots links : List NC} {secs : List Int}
theorem KyI.step (h : KyI w0 g wx x roots links secs) (e : Ext wx wy) : KyI w0 g wy x roots links secs := ⟨h.ext.tr e, h.hg, h.au.ext e, h.zr.ext e, h.o1.ext e, h.o2.ext e, h.o3.ext e, h.ap⟩
theorem KyI.r1 (h : KyI w0 g wx x roots links secs) : rowOf x.R ≠ some g := h.o1.row_blk h.au tn_ta
theorem KyI.r2 (h : KyI w0 g wx x roots links secs) : rowOf x.L ≠ some g := h.o2.row_blk h.au tn_ta
theorem KyI.r3 (h : KyI w0 g wx x roots links secs) : rowOf x.S ≠ some g := h.o3.row_blk h.au ti_ta
theorem KyI.set {i : Nat} {v : Value} {y : AB} (h : KyI w0 g wx x roots links secs) (ha : AuAt (wx.setCell ⟨g, i, none⟩ v) g y) (hR : y.R = x.R) (hL : y.L = x.L) (hS : y.S = x.S) : KyI w0 g (wx.setCell ⟨g, i, none⟩ v) y roots links secs :=
  ⟨ext_set h.ext h.hg, h.hg, ha, h.zr.other (by omega), by rw [hR]; exact h.o1.setX h.r1, by rw [hL]; exact h.o2.setX h.r2, by rw [hS]; exact h.o3.setX h.r3, by rw [hR, hL]; exact h.ap⟩
theorem KyI.next (h : KyI w0 g wx x roots links secs) (v : Int) : KyI w0 g (wx.setCell ⟨g, 28, none⟩ (.int .i64 v)) { x with next := v } roots links secs := h.set (h.au.put_next v) rfl rfl rfl
theorem KyI.ssec (h : KyI w0 g wx x roots links secs) (v : Int) : KyI w0 g (wx.setCell ⟨g, 26, none⟩ (.int .i64 v)) { x with ssec := v } roots links secs := h.set (h.au.put_ssec v) rfl rfl rfl
theorem KyI.lsec (h : KyI w0 g wx x roots links secs) (v : Int) : KyI w0 g (wx.setCell ⟨g, 27, none⟩ (.int .i64 v)) { x with lsec := v } roots links secs := h.set (h.au.put_lsec v) rfl rfl rfl
theorem KyI.appR {roots' : List NC} {v : Value} (h : KyI w0 g wx x roots links secs) (o8 : OwnK w8 w0.heap.size 39 11 v (ncsCells roots')) (x8 : Ext w0 w8) (g8 : wx.grownBy w8 (rowOf x.R)) (f8 : ∀ r, rowOf v = some r → rowOf x.R = some r ∨ wx.heap.size ≤ r) :
    KyI w0 g (w8.setCell ⟨g, 1, none⟩ v) { x with R := v } roots' links secs := by
  have au8 : AuAt w8 g x := (g8.block g h.au.lt (fun q => h.r1 q.symm)).trans h.au
  have zr8 : AuAt w8 (g + 1) zeroAB := (g8.block (g + 1) h.zr.lt (fun q => h.o1.row_blk h.zr tn_ta q.symm)).trans h.zr
  have p2 : OwnK w8 w0.heap.size 39 11 x.L (ncsCells links) := h.o2.grown g8 (by
    cases hq : rowOf x.L with
    | none => exact .inl rfl
    | some r => exact .inr (fun q => h.ap r q.symm hq))
  have p3 : OwnK w8 w0.heap.size 3 1 x.S (intsV secs) := h.o3.grown g8 (h.o1.row_ne h.o3 tn_ti)
  have a8 : apart v x.L := fun r hr hl => by
    rcases f8 r hr with q | q
    · exact h.ap r q hl
    · have := rowOf_ltK h.o2 r hl; omega
  exact ⟨ext_set x8 h.hg, h.hg, au8.put_R v, zr8.other (by omega), o8.setX (o8.row_blk au8 tn_ta), p2.setX (p2.row_blk au8 tn_ta), p3.setX (p3.row_blk au8 ti_ta), a8⟩
theorem KyI.appL {links' : List NC} {v : Value} (h : KyI w0 g wx x roots links secs) (o8 : OwnK w8 w0.heap.size 39 11 v (ncsCells links')) (x8 : Ext w0 w8) (g8 : wx.grownBy w8 (rowOf x.L)) (f8 : ∀ r, rowOf v = some r → rowOf x.L = some r ∨ wx.heap.size ≤ r) :
    KyI w0 g (w8.setCell ⟨g, 2, none⟩ v) { x with L := v } roots links' secs := by
  have au8 : AuAt w8 g x := (g8.block g h.au.lt (fun q => h.r2 q.symm)).trans h.au
  have zr8 : AuAt w8 (g + 1) zeroAB := (g8.block (g + 1) h.zr.lt (fun q => h.o2.row_blk h.zr tn_ta q.symm)).trans h.zr
  have p1 : OwnK w8 w0.heap.size 39 11 x.R (ncsCells roots) := h.o1.grown g8 (by
    cases hq : rowOf x.R with
    | none => exact .inl rfl
    | some r => exact .inr (fun q => h.ap r hq q.symm))
  have p3 : OwnK w8 w0.heap.size 3 1 x.S (intsV secs) := h.o3.grown g8 (h.o2.row_ne h.o3 tn_ti)
  have a8 : apart x.R v := fun r hr hl => by
    rcases f8 r hl with q | q
    · exact h.ap r hr q
    · have := rowOf_ltK h.o1 r hr; omega
  exact ⟨ext_set x8 h.hg, h.hg, au8.put_L v, zr8.other (by omega), p1.setX (p1.row_blk au8 tn_ta), o8.setX (o8.row_blk au8 tn_ta), p3.setX (p3.row_blk au8 ti_ta), a8⟩
theorem KyI.appS {secs' : List Int} {v : Value} (h : KyI w0 g wx x roots links secs) (o8 : OwnK w8 w0.heap.size 3 1 v (intsV secs')) (x8 : Ext w0 w8) (g8 : wx.grownBy w8 (rowOf x.S)) :
    KyI w0 g (w8.setCell ⟨g, 3, none⟩ v) { x with S := v } roots links secs' := by
  have au8 : AuAt w8 g x := (g8.block g h.au.lt (fun q => h.r3 q.symm)).trans h.au
  have zr8 : AuAt w8 (g + 1) zeroAB := (g8.block (g + 1) h.zr.lt (fun q => h.o3.row_blk h.zr ti_ta q.symm)).trans h.zr
  have p1 : OwnK w8 w0.heap.size 39 11 x.R (ncsCells roots) := h.o1.grown g8 (h.o3.row_ne h.o1 (Ne.symm tn_ti))
  have p2 : OwnK w8 w0.heap.size 39 11 x.L (ncsCells links) := h.o2.grown g8 (h.o3.row_ne h.o2 (Ne.symm tn_ti))
  exact ⟨ext_set x8 h.hg, h.hg, au8.put_S v, zr8.other (by omega), p1.setX (p1.row_blk au8 tn_ta), p2.setX (p2.row_blk au8 tn_ta), o8.setX (o8.row_blk au8 ti_ta), h.ap⟩
theorem KyI.sg (h : KyI w0 g wx x roots links secs) (c : NC) : KyI w0 g (set_sg wx g c) { x with sg := c } roots links secs := by
  have hne : g + 1 ≠ g := by omega
  exact ⟨ext_sg h.ext h.hg c, h.hg, h.au.put_sg c, (((((((((((h.zr).other hne).other hne).other hne).other hne).other hne).other hne).other hne).other hne).other hne).other hne).other hne, (((((((((((h.o1).setX h.r1).setX h.r1).setX h.r1).setX h.r1).setX h.r1).setX h.r1).setX h.r1).setX h.r1).setX h.r1).setX h.r1).setX h.r1, (((((((((((h.o2).setX h.r2).setX h.r2).setX h.r2).setX h.r2).setX h.r2).setX h.r2).setX h.r2).setX h.r2).setX h.r2).setX h.r2).setX h.r2, (((((((((((h.o3).setX h.r3).setX h.r3).setX h.r3).setX h.r3).setX h.r3).setX h.r3).setX h.r3).setX h.r3).setX h.r3).setX h.r3).setX h.r3, h.ap⟩
theorem KyI.ls (h : KyI w0 g wx x roots links secs) (c : NC) : KyI w0 g (set_ls wx g c) { x with ls := c } roots links secs := by
  have hne : g + 1 ≠ g := by omega
  exact ⟨ext_ls h.ext h.hg c, h.hg, h.au.put_ls c, (((((((((((h.zr).other hne).other hne).other hne).other hne).other hne).other hne).other hne).other hne).other hne).other hne).other hne, (((((((((((h.o1).setX h.r1).setX h.r1).setX h.r1).setX h.r1).setX h.r1).setX h.r1).setX h.r1).setX h.r1).setX h.r1).setX h.r1).setX h.r1, (((((((((((h.o2).setX h.r2).setX h.r2).setX h.r2).setX h.r2).setX h.r2).setX h.r2).setX h.r2).setX h.r2).setX h.r2).setX h.r2).setX h.r2, (((((((((((h.o3).setX h.r3).setX h.r3).setX h.r3).setX h.r3).setX h.r3).setX h.r3).setX h.r3).setX h.r3).setX h.r3).setX h.r3).setX h.r3, h.ap⟩
end
def set_au (w : World) (g : Nat) (x : AB) : World := (((((((((((((((((((((((((((((((((w.setCell ⟨g, 0, none⟩ (.string (bstr x.st))).setCell ⟨g, 1, none⟩ x.R).setCell ⟨g, 2, none⟩ x.L).setCell ⟨g, 3, none⟩ x.S).setCell ⟨g, 4, none⟩ (.string (bstr x.sg.st))).setCell ⟨g, 5, none⟩ (.int .i64 x.sg.kind)).setCell ⟨g, 6, none⟩ (.int .i64 x.sg.num)).setCell ⟨g, 7, none⟩ (.int .i64 x.sg.iss)).setCell ⟨g, 8, none⟩ (.int .i64 x.sg.own)).setCell ⟨g, 9, none⟩ (.int .i64 x.sg.key)).setCell ⟨g, 10, none⟩ (.int .i64 x.sg.fr)).setCell ⟨g, 11, none⟩ (.int .i64 x.sg.un)).setCell ⟨g, 12, none⟩ (.int .i64 x.sg.to)).setCell ⟨g, 13, none⟩ (.int .i64 x.sg.e)).setCell ⟨g, 14, none⟩ (.int .i64 x.sg.s)).setCell ⟨g, 15, none⟩ (.string (bstr x.ls.st))).setCell ⟨g, 16, none⟩ (.int .i64 x.ls.kind)).setCell ⟨g, 17, none⟩ (.int .i64 x.ls.num)).setCell ⟨g, 18, none⟩ (.int .i64 x.ls.iss)).setCell ⟨g, 19, none⟩ (.int .i64 x.ls.own)).setCell ⟨g, 20, none⟩ (.int .i64 x.ls.key)).setCell ⟨g, 21, none⟩ (.int .i64 x.ls.fr)).setCell ⟨g, 22, none⟩ (.int .i64 x.ls.un)).setCell ⟨g, 23, none⟩ (.int .i64 x.ls.to)).setCell ⟨g, 24, none⟩ (.int .i64 x.ls.e)).setCell ⟨g, 25, none⟩ (.int .i64 x.ls.s)).setCell ⟨g, 26, none⟩ (.int .i64 x.ssec)).setCell ⟨g, 27, none⟩ (.int .i64 x.lsec)).setCell ⟨g, 28, none⟩ (.int .i64 x.next)).setCell ⟨g, 29, none⟩ (.int .i64 x.li)).setCell ⟨g, 30, none⟩ x.V).setCell ⟨g, 31, none⟩ x.D).setCell ⟨g, 32, none⟩ x.Z)
theorem AuAt.set_au {w : World} {g : Nat} {y : AB} (h : AuAt w g y) (x : AB) : AuAt (set_au w g x) g x := by
  have h9 := (row_set (row_set (row_set (row_set (row_set (row_set (row_set (row_set (row_set (row_set (row_set (row_set (row_set (row_set (row_set (row_set (row_set (row_set (row_set (row_set (row_set (row_set (row_set (row_set (row_set (row_set (row_set (row_set (row_set (row_set (row_set (row_set (row_set h 0 (.string (bstr x.st))) 1 x.R) 2 x.L) 3 x.S) 4 (.string (bstr x.sg.st))) 5 (.int .i64 x.sg.kind)) 6 (.int .i64 x.sg.num)) 7 (.int .i64 x.sg.iss)) 8 (.int .i64 x.sg.own)) 9 (.int .i64 x.sg.key)) 10 (.int .i64 x.sg.fr)) 11 (.int .i64 x.sg.un)) 12 (.int .i64 x.sg.to)) 13 (.int .i64 x.sg.e)) 14 (.int .i64 x.sg.s)) 15 (.string (bstr x.ls.st))) 16 (.int .i64 x.ls.kind)) 17 (.int .i64 x.ls.num)) 18 (.int .i64 x.ls.iss)) 19 (.int .i64 x.ls.own)) 20 (.int .i64 x.ls.key)) 21 (.int .i64 x.ls.fr)) 22 (.int .i64 x.ls.un)) 23 (.int .i64 x.ls.to)) 24 (.int .i64 x.ls.e)) 25 (.int .i64 x.ls.s)) 26 (.int .i64 x.ssec)) 27 (.int .i64 x.lsec)) 28 (.int .i64 x.next)) 29 (.int .i64 x.li)) 30 x.V) 31 x.D) 32 x.Z)
  simp only [List.setIfInBounds_toArray, List.set_cons_zero, List.set_cons_succ] at h9
  exact h9
theorem ext_au {w w' : World} {g : Nat} (h : Ext w w') (hg : w.heap.size ≤ g) (x : AB) : Ext w (Proofs.YtmmoenkmicimcaaGreatDoor.set_au w' g x) :=
  ext_set (ext_set (ext_set (ext_set (ext_set (ext_set (ext_set (ext_set (ext_set (ext_set (ext_set (ext_set (ext_set (ext_set (ext_set (ext_set (ext_set (ext_set (ext_set (ext_set (ext_set (ext_set (ext_set (ext_set (ext_set (ext_set (ext_set (ext_set (ext_set (ext_set (ext_set (ext_set (ext_set h hg) hg) hg) hg) hg) hg) hg) hg) hg) hg) hg) hg) hg) hg) hg) hg) hg) hg) hg) hg) hg) hg) hg) hg) hg) hg) hg) hg) hg) hg) hg) hg) hg
theorem OwnK.set_au {w : World} {B : Nat} {e : TypeId} {k : Nat} {v : Value} {xs : List Value} {g : Nat} (h : OwnK w B e k v xs) (r : rowOf v ≠ some g) (x : AB) : OwnK (Proofs.YtmmoenkmicimcaaGreatDoor.set_au w g x) B e k v xs := (((((((((((((((((((((((((((((((((h).setX r).setX r).setX r).setX r).setX r).setX r).setX r).setX r).setX r).setX r).setX r).setX r).setX r).setX r).setX r).setX r).setX r).setX r).setX r).setX r).setX r).setX r).setX r).setX r).setX r).setX r).setX r).setX r).setX r).setX r).setX r).setX r).setX r
/-- The end: the authority is copied to the result's block. -/
theorem KyI.fin {w0 wx : World} {g : Nat} {x : AB} {roots links : List NC} {secs : List Int} (h : KyI w0 g wx x roots links secs) : Ext w0 (Proofs.YtmmoenkmicimcaaGreatDoor.set_au wx (g + 1) x) ∧ AuAt (Proofs.YtmmoenkmicimcaaGreatDoor.set_au wx (g + 1) x) (g + 1) x ∧
    OwnK (Proofs.YtmmoenkmicimcaaGreatDoor.set_au wx (g + 1) x) w0.heap.size 39 11 x.R (ncsCells roots) ∧ OwnK (Proofs.YtmmoenkmicimcaaGreatDoor.set_au wx (g + 1) x) w0.heap.size 39 11 x.L (ncsCells links) ∧ OwnK (Proofs.YtmmoenkmicimcaaGreatDoor.set_au wx (g + 1) x) w0.heap.size 3 1 x.S (intsV secs) :=
  ⟨ext_au h.ext (by have := h.hg; omega) x, h.zr.set_au x, h.o1.set_au (h.o1.row_blk h.zr tn_ta) x, h.o2.set_au (h.o2.row_blk h.zr tn_ta) x, h.o3.set_au (h.o3.row_blk h.zr ti_ta) x⟩
section
end
end Go.Proofs.YtmmoenkmicimcaaGreatDoor
