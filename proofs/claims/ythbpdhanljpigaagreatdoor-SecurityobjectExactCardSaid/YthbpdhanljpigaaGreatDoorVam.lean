/- Parts Wd8 of the proof. -/
import Derived.RangeFuncNested
import Derived.RangeFuncBound
import Derived.RangeFuncCalls
import Derived.RangeFuncLeaves
import Derived.RangeFuncBox
import Derived.Shelf.Abstract
import Derived.Shelf.RegionOpen
import Derived.WalkKit
import Derived.OwnWalkIn
import Derived.TacticsInMore
import Derived.LoopNIn
import Derived.LoopIn
import Derived.Test.YthbpdhanljpigaaGreatDoorVal
namespace Go.Proofs.YthbpdhanljpigaaGreatDoor
open Go.RowKit Go.Shelf
set_option linter.unusedVariables false
attribute [local go_sem] Oper.semAt_some
/-- What has come when k rounds are over: 0, .., k - 1. -/
abbrev Blk (m : Nat) := { k : Nat // k < m }
def upto (m : Nat) : Nat → List (Blk m)
  | 0 => []
  | k + 1 => if h : k < m then upto m k ++ [⟨k, h⟩] else upto m k
theorem upto_succ {m k : Nat} (h : k < m) : upto m (k + 1) = upto m k ++ [⟨k, h⟩] := by simp [upto, h]
theorem upto_length {m : Nat} : ∀ {k : Nat}, k ≤ m → (upto m k).length = k
  | 0, _ => rfl
  | k + 1, h => by rw [upto_succ (k := k) (by omega), List.length_append, upto_length (k := k) (by omega)]; rfl

/-- What a round that goes on keeps: all below n₀ but one box. -/
def KeepsBut (n₀ B0 : Nat) (W W' : World) : Prop := W.heap.size ≤ W'.heap.size ∧ ∀ k, k < n₀ → k ≠ B0 → W'.heap[k]? = W.heap[k]?
theorem KeepsBut.trans {n₀ B0 : Nat} {a b c : World} (h : KeepsBut n₀ B0 a b) (k : KeepsBut n₀ B0 b c) : KeepsBut n₀ B0 a c := ⟨Nat.le_trans h.1 k.1, fun i hi hb => (k.2 i hi hb).trans (h.2 i hi hb)⟩
theorem KeepsBut.refl (n₀ B0 : Nat) (a : World) : KeepsBut n₀ B0 a a := ⟨Nat.le_refl _, fun _ _ _ => rfl⟩
theorem KeepsBut.drewN {n₀ B0 : Nat} {a b : World} (h : KeepsBut n₀ B0 a b) (n : Nat) : KeepsBut n₀ B0 a (b.drewN n) := h
theorem KeepsBut.cell {n₀ B0 : Nat} {a b : World} (h : KeepsBut n₀ B0 a b) {p : Addr} (hp : p.block < n₀) (hb : p.block ≠ B0) : b.cell? p = a.cell? p := World.cell?_of_block (h.2 _ hp hb)
theorem Ext.others {W W' : World} (h : Ext W W') : KeepsOthers W W' := ⟨h.size, fun k o hk _ => (h.block k (Array.getElem?_eq_some_iff.1 hk).1).trans hk⟩
theorem Ext.but {W W' : World} (h : Ext W W') (n₀ B0 : Nat) (hn : n₀ ≤ W.heap.size) : KeepsBut n₀ B0 W W' := ⟨h.size, fun k hk _ => h.block k (Nat.lt_of_lt_of_le hk hn)⟩
theorem Rd.kept {W W' : World} {row : Option Nat} {v : Value} {xs : List Value} (h : Rd W v xs) (hg : W.grownBy W' row) (hr : ∀ r, row = some r → ∃ o : Obj, W.heap[r]? = some o ∧ o.isCells = false) : Rd W' v xs := by
  obtain ⟨A, n, c, rfl, hn, hnc, hcm, hc0⟩ := h
  refine ⟨A, n, c, rfl, hn, hnc, hcm, fun h0 => ?_⟩
  obtain ⟨b, o, rfl, hc⟩ := hc0 h0
  exact ⟨b, o, rfl, fun j u hu => cell_kept (hc j u hu) hg hr⟩
theorem Rd.set_ {W : World} {B : Nat} {t : TypeId} {u u' v : Value} {xs : List Value} (h : Rd W v xs) (hb : Boxed W B t u) (hx : ∀ x ∈ xs, x ≠ u) : Rd (W.setCell ⟨B, 0, none⟩ u') v xs := by
  obtain ⟨A, n, c, rfl, hn, hnc, hcm, hc0⟩ := h
  refine ⟨A, n, c, rfl, hn, hnc, hcm, fun h0 => ?_⟩
  obtain ⟨b, o, rfl, hc⟩ := hc0 h0
  refine ⟨b, o, rfl, fun j x hj => ?_⟩
  rw [World.cell?_setCell_other _ _ _ _ (fun e => hx x (List.mem_of_getElem? hj) (by
    have h1 := hc j x hj
    rw [← e, hb.cell] at h1
    exact (Option.some.inj h1).symm))]
  exact hc j x hj

/-- The state behind the blocks that have come. -/
def foldS (p : List UInt8) (m : Nat) (pre : List (Blk m)) : List Int := pre.foldl (fun s x => comp s ((p.drop (64 * x.1)).take 64)) start8
theorem foldS_snoc (p : List UInt8) (m : Nat) (pre : List (Blk m)) (x : Blk m) : foldS p m (pre ++ [x]) = comp (foldS p m pre) ((p.drop (64 * x.1)).take 64) := by simp [foldS]
theorem comp_u32 (s : List Int) (l : List UInt8) : (s8of (comp s l)).u32 := ⟨mod_u32 _, mod_u32 _, mod_u32 _, mod_u32 _, mod_u32 _, mod_u32 _, mod_u32 _, mod_u32 _⟩
theorem foldS_ok (p : List UInt8) (m : Nat) (pre : List (Blk m)) : (foldS p m pre).length = 8 ∧ (s8of (foldS p m pre)).u32 := by
  rcases List.eq_nil_or_concat pre with rfl | ⟨q, x, rfl⟩
  · refine ⟨rfl, ?_⟩
    show (s8of start8).u32
    refine ⟨⟨?_, ?_⟩, ⟨?_, ?_⟩, ⟨?_, ?_⟩, ⟨?_, ?_⟩, ⟨?_, ?_⟩, ⟨?_, ?_⟩, ⟨?_, ?_⟩, ⟨?_, ?_⟩⟩ <;> decide
  · rw [List.concat_eq_append, foldS_snoc]
    exact ⟨rfl, comp_u32 _ _⟩
theorem foldS_upto (p : List UInt8) (m : Nat) : ∀ k, k ≤ m → foldS p m (upto m k) = states p k
  | 0, _ => rfl
  | k + 1, h => by rw [upto_succ (k := k) (by omega), foldS_snoc, foldS_upto p m k (by omega)]; rfl

set_option maxRecDepth 100000 in
set_option maxHeartbeats 2000000 in
theorem chunk1_in (n l Bs Bn n₀ B0 b off m cap : Nat) (hm : 64 * m ≤ 140737488355328) (hcap : 64 * m ≤ cap) (hcm : cap ≤ maxLen) (J Jx : List (Blk m) → World → Prop) (hJd : ∀ s w n, J s w → J s (w.drewN n))
    (hY : ∀ pre x W, J pre W → pre.length < m → YieldAt Fence.wide (n - 1) Tryz.prog l #[.slice (some ⟨b, off + 64 * x.1, none⟩) 64 64] W fun e W' =>
      (e = .returned (.bool true) ∧ J (pre ++ [x]) W' ∧ KeepsBut n₀ B0 W W') ∨ (e = .returned (.bool false) ∧ Jx (pre ++ [x]) W'))
    (W : World) (hBs : W.cell? ⟨Bs, 0, none⟩ = some (.slice (some ⟨b, off, none⟩) (64 * m) cap)) (hBn : W.cell? ⟨Bn, 0, none⟩ = some (.int .i64 64)) (hs0 : Bs < n₀) (hn0 : Bn < n₀) (hs1 : Bs ≠ B0) (hn1 : Bn ≠ B0) (h0 : J [] W) (hn : 1 ≤ n) :
    CallsIn Fence.wide n Tryz.prog 145 #[.func (.yield l) #[] #[], .pointer (some ⟨Bs, 0, none⟩), .pointer (some ⟨Bn, 0, none⟩)] W fun e W' => (∃ v, e = .returned v) ∧
      ((∃ ys, ys = upto m m ∧ J ys W') ∨ (∃ pre, (∃ k, k ≤ m ∧ pre = upto m k) ∧ Jx pre W')) := by
  refine callsIn_of_wp Tryz.func145 rfl trivial ?_ rfl
  simp only [Tryz.ntmps145, List.size_toArray, List.length_cons, List.length_nil, Nat.reduceAdd, Nat.reduceSub, Array.replicate_succ, Array.replicate_zero, List.push_toArray, List.append_toArray, List.nil_append, List.cons_append]
  gi_wp2
  gi_loopw [4] (fun i wr => ∃ k : Nat, k ≤ m ∧ i = .int .i64 (64 * (k : Int)) ∧ J (upto m k) wr ∧ KeepsBut n₀ B0 W wr)
    (fun i _ => 64 * m - (intOf i).toNat)
  case atStart => exact ⟨0, Nat.zero_le _, rfl, h0, KeepsBut.refl _ _ _⟩
  case round =>
    obtain ⟨k, hk, rfl, hJs, hnx⟩ := hrel
    have cs := (hnx.cell (p := ⟨Bs, 0, none⟩) hs0 hs1).trans hBs
    have cn := (hnx.cell (p := ⟨Bn, 0, none⟩) hn0 hn1).trans hBn
    unfold maxLen at hcm
    by_cases hlt : k < m
    · have w1 : IntKind.i64.wrap (64 * (k : Int) + 64) = 64 * (k : Int) + 64 := IntWalk.i64_in _ (by omega)
      have z0 : (0 : Int) ≤ 64 * (k : Int) := by omega
      have l1 : 64 * (k : Int) ≤ ((64 * m : Nat) : Int) := by omega
      have l2 : 64 * (k : Int) + 64 ≤ ((64 * m : Nat) : Int) := by omega
      have l3 : 64 * (k : Int) + 64 ≤ (cap : Int) := by omega
      have t1 : (64 * (k : Int)).toNat = 64 * k := by omega
      have t2 : (64 * (k : Int) + 64).toNat = 64 * k + 64 := by omega
      gi_wp2
      refine wpIn_wide.2 ?_
      go_wp2
      go_quiet (fail)
      obtain ⟨fn, tmps, assign, body, hy, hR⟩ := hY _ ⟨k, hlt⟩ (wr.drewN nq) (hJd _ _ _ hJs) (by rw [upto_length hk]; exact hlt)
      dsimp only at hy
      gi_wp2
      refine hR.mono ?_
      rintro e W3 (⟨rfl, hJ3, hk3⟩ | ⟨rfl, hJx3⟩)
      · have cn3 := (((hnx.drewN nq).trans hk3).cell (p := ⟨Bn, 0, none⟩) hn0 hn1).trans hBn
        gi_wp2
        go_roundw
        case rel => exact ⟨k + 1, by omega, by go_num, by rw [upto_succ hlt]; exact hJ3, (hnx.drewN nq).trans hk3⟩
        case measure => simp [intOf]; omega
      · gi_wp2
        refine bodyPost_ret (results_none rfl _ _ _) rfl ?_
        exact ⟨⟨_, rfl⟩, .inr ⟨_, ⟨k + 1, by omega, (upto_succ hlt).symm⟩, hJx3⟩⟩
    · obtain rfl : k = m := by omega
      gi_wp2
      go_end0
      exact ⟨⟨_, rfl⟩, .inl ⟨_, rfl, hJs⟩⟩

theorem chunk_any (A : Option Addr) (n c : Nat) (w : World) :
    Calls Tryz.prog 98 #[.slice A n c, .int .i64 64] w fun e w' => e = .returned (.func (.func 145) #[] #[.pointer (some ⟨w.heap.size, 0, none⟩), .pointer (some ⟨w.heap.size + 1, 0, none⟩)]) ∧ w' = (w.alloc (.cells #[.slice A n c] 26)).alloc (.cells #[.int .i64 64] 3) := by
  go_enter Tryz.func98, Tryz.ntmps98
  go_wp2
  go_ret
  exact ⟨rfl, rfl⟩

theorem chunk_stops (n Bs Bn n₀ B0 b off m cap : Nat) (hm : 64 * m ≤ 140737488355328) (hcap : 64 * m ≤ cap) (hcm : cap ≤ maxLen) (w : World) (hBs : w.cell? ⟨Bs, 0, none⟩ = some (.slice (some ⟨b, off, none⟩) (64 * m) cap)) (hBn : w.cell? ⟨Bn, 0, none⟩ = some (.int .i64 64))
    (hs0 : Bs < n₀) (hn0 : Bn < n₀) (hs1 : Bs ≠ B0) (hn1 : Bn ≠ B0) (hn₀ : n₀ ≤ w.heap.size) (hn : 1 ≤ n) :
    SeqStopsK Fence.wide n Tryz.prog 145 #[.pointer (some ⟨Bs, 0, none⟩), .pointer (some ⟨Bn, 0, none⟩)] (fun x : Blk m => #[.slice (some ⟨b, off + 64 * x.1, none⟩) 64 64]) (KeepsBut n₀ B0) (fun ys => ys = upto m m) (fun pre => ∃ k, k ≤ m ∧ pre = upto m k) m w :=
  fun l J Jx W hW hJ hJx hY h0 =>
    chunk1_in n l Bs Bn n₀ B0 b off m cap hm hcap hcm J Jx (fun s W n h => hJ s W _ none h ⟨rfl, rfl, rfl, Nat.le_refl _, fun _ _ _ => rfl⟩ (fun r e => by cases e)) hY W
      ((hW.cell (p := ⟨Bs, 0, none⟩) (Nat.lt_of_lt_of_le hs0 hn₀)).trans hBs) ((hW.cell (p := ⟨Bn, 0, none⟩) (Nat.lt_of_lt_of_le hn0 hn₀)).trans hBn) hs0 hn0 hs1 hn1 h0 hn

theorem Rd.blk {w : World} {b o n c : Nat} {p : List UInt8} (h : Rd w (.slice (some ⟨b, o, none⟩) n c) (bvs p)) (i : Nat) (hi : i + 64 ≤ n) : Rd w (.slice (some ⟨b, o + i, none⟩) 64 64) (bvs ((p.drop i).take 64)) := by
  obtain ⟨A', n', c', e, hn, _, _, hc⟩ := h
  injection e with e1 e2 e3
  subst e1 e2 e3
  obtain ⟨b', o', e4, hcell⟩ := hc (by omega)
  injection e4 with e4
  injection e4 with e5 e6
  subst e5 e6
  rw [bvs_length] at hn
  refine ⟨_, 64, 64, rfl, by rw [bvs_length, List.length_take, List.length_drop]; omega, Nat.le_refl _, by unfold maxLen; omega, fun _ => ⟨b, o + i, rfl, fun j u hu => ?_⟩⟩
  rw [Nat.add_assoc]
  refine hcell (i + j) u ?_
  simp only [bvs, List.getElem?_map, List.getElem?_take, List.getElem?_drop] at hu ⊢
  split at hu
  · exact hu
  · cases hu
theorem int_ne_slice {k : IntKind} {l : List Int} {A : Option Addr} {n c : Nat} : ∀ x ∈ l.map (Value.int k), x ≠ .slice A n c := by
  rintro x hx rfl
  simp at hx
theorem bvs_ne_slice {l : List UInt8} {A : Option Addr} {n c : Nat} : ∀ x ∈ bvs l, x ≠ .slice A n c := by
  rintro x hx rfl
  simp [bvs, bv] at hx

set_option maxRecDepth 100000 in
set_option maxHeartbeats 2000000 in
theorem digsum_any {b : Value} {l : List UInt8} (w : World) (hb : Rd w b (bvs l)) (h47 : l.length ≤ 140737488353000) (hk : KTab w 2) :
    Calls Tryz.prog 44 #[b] w (RetB w (sha l)) := by
  obtain ⟨A, n, c, rfl, hn, hnc, hcm, hA⟩ := hb.bytes
  subst hn
  clear hA
  refine (callsIn_wide (n := 3)).1 ?_
  refine callsIn_of_wp_marks Tryz.func44 rfl trivial ?_ rfl
  simp only [Tryz.ntmps44, List.size_toArray, List.length_cons, List.length_nil, Nat.reduceAdd, Nat.reduceSub, Array.replicate_succ, Array.replicate_zero, List.push_toArray, List.append_toArray, List.nil_append, List.cons_append]
  refine wpIn_wide.2 ?_
  go_wp2_with (first
    | (go_at_call 97; refine (digstart_any _).mono ?_; rintro e w1 ⟨A1, n1, c1, rfl, hn1, r1, b1⟩; obtain rfl : n1 = 8 := hn1)
    | (go_at_call 99; refine (digpad_any _ (hb.below (b1.alloc b1.size _)) h47).mono ?_; rintro e w2 ⟨A2, n2, c2, rfl, hn2, o2, b2⟩)
    | (go_at_call 98; refine (chunk_any _ _ _ _).mono ?_; rintro e w3 ⟨rfl, rfl⟩))
  have hp8 : 0 < (pad l).length := by rw [pad_length]; omega
  obtain ⟨p, hp⟩ : ∃ p, p = pad l := ⟨_, rfl⟩
  obtain ⟨m, hm⟩ : ∃ m, m = p.length / 64 := ⟨_, rfl⟩
  have hpm : p.length = 64 * m := by rw [hm, hp]; exact pad_blocks l
  have hpm2 : 64 * m ≤ 140737488355328 := by rw [← hpm, hp, pad_length]; have := zeros_lt l.length; omega
  have hp2 : Rd w2 (.slice A2 n2 c2) (bvs p) := by rw [hp]; exact o2.rd
  obtain rfl : n2 = 64 * m := by rw [← hpm, hp]; exact hn2.out
  have hm0 : 0 < 64 * m := by rw [← hpm, hp]; exact hp8
  obtain ⟨_, _, _, e1, hxx, hmc, hcc, hcell⟩ := hp2.bytes
  injection e1 with e1 e2 e3
  subst e1 e2 e3
  obtain ⟨b2', o2', rfl, _, _⟩ := hcell hm0
  have HP := Lib.hid hp
  have HM := Lib.hid hm
  have HPM := Lib.hid hpm
  clear hp hm hpm hxx hcell hn2
  have bx0 : Boxed w2 w1.heap.size 118 (.slice A1 8 c1) := (b2.block _ (by simp)).trans (Boxed.new w1 _ _)
  have bx1 := (bx0.alloc (.cells #[.slice (some ⟨b2', o2', none⟩) (64 * m) c2] 26)).alloc (.cells #[.int .i64 64] 3)
  have bs0 := (Boxed.new w2 26 (.slice (some ⟨b2', o2', none⟩) (64 * m) c2)).alloc (.cells #[.int .i64 64] 3)
  have bn0 := Boxed.new (w2.alloc (.cells #[.slice (some ⟨b2', o2', none⟩) (64 * m) c2] 26)) 3 (.int .i64 64)
  rw [World.size_alloc] at bn0
  have hw2 : Ext w2 ((w2.alloc (.cells #[.slice (some ⟨b2', o2', none⟩) (64 * m) c2] 26)).alloc (.cells #[.int .i64 64] 3)) := ((Below.refl _ _).alloc (Nat.le_refl _) _).alloc (by simp) _
  obtain ⟨ws, hws⟩ : ∃ x, x = (w2.alloc (.cells #[.slice (some ⟨b2', o2', none⟩) (64 * m) c2] 26)).alloc (.cells #[.int .i64 64] 3) := ⟨_, rfl⟩
  have hsz : ws.heap.size = w2.heap.size + 2 := by rw [hws]; simp
  rw [← hws] at bx1 bs0 bn0 hw2 ⊢
  clear hws bx0
  have e01 : Ext w1 (w1.alloc (.cells #[.slice A1 8 c1] 118)) := (Below.refl _ _).alloc (Nat.le_refl _) _
  have h1s : Ext w1 ws := (e01.tr b2).tr hw2
  have hws0 : Below w.heap.size w ws := b1.trans (h1s.mono b1.size)
  have r1s : RdI ws .u32 (.slice A1 8 c1) start8 := r1.ext h1s
  have hps : Rd ws (.slice (some ⟨b2', o2', none⟩) (64 * m) c2) (bvs p) := hp2.ext hw2
  have h12 : w1.heap.size < w2.heap.size := by have := b2.size; simp at this; omega
  refine (wpIn_wide (n := 3)).1 ?_
  refine wpIn_rangeFunc_ownF rfl (by omega) (gf := 145) (lb := #[.pointer (some ⟨w2.heap.size, 0, none⟩), .pointer (some ⟨w2.heap.size + 1, 0, none⟩)]) rfl trivial (enters_of Tryz.func145 (by kernel_rfl) rfl)
    (chunk_stops (3 - 1) w2.heap.size (w2.heap.size + 1) ws.heap.size w1.heap.size b2' o2' m c2 hpm2 hmc hcc ws bs0.cell bn0.cell (by omega) (by omega) (by omega) (by omega) (Nat.le_refl _) (by omega))
    KeepsBut.trans (fun W l o o' hl h _ _ => ⟨by simp, fun k hk _ => World.putObj_heap_other (by omega)⟩) (Below.refl _ _) (fun _ => rfl)
    (fun pre W => ∃ A c, Boxed W w1.heap.size 118 (.slice A 8 c) ∧ RdI W .u32 (.slice A 8 c) (foldS p m pre) ∧ Rd W (.slice (some ⟨b2', o2', none⟩) (64 * m) c2) (bvs p) ∧ Below w.heap.size w W ∧ ws.heap.size ≤ W.heap.size)
    (fun _ _ _ => False)
    (fun s X Y row ⟨A, c, h1, h2, h3, h4, h5⟩ hg hr => ⟨A, c, h1.kept hg (fun e => by
        obtain ⟨_, o, ho, hc⟩ := hr _ e.symm
        rw [show X.heap[w1.heap.size]? = _ from h1] at ho
        cases ho; cases hc), Rd.kept h2 hg (fun r e => (hr r e).2), Rd.kept h3 hg (fun r e => (hr r e).2), h4.grown hg h4.size (fun k e => Nat.le_trans hws0.size (hr k e).1), Nat.le_trans h5 hg.size⟩)
    (fun _ _ _ _ _ hs _ _ => hs)
    ⟨A1, c1, bx1, r1s, hps, hws0, Nat.le_refl _⟩
    (fun x => { tmps := #[.slice A l.length c, undef, .slice none 0 0, .pointer (some ⟨w1.heap.size, 0, none⟩), .slice (some ⟨b2', o2' + 64 * x.1, none⟩) 64 64, undef, undef, undef, .slice A1 8 c1, .slice A l.length c, .slice (some ⟨b2', o2', none⟩) (64 * m) c2, .func (.func 145) #[] #[.pointer (some ⟨w2.heap.size, 0, none⟩), .pointer (some ⟨w2.heap.size + 1, 0, none⟩)], .slice (some ⟨b2', o2' + 64 * x.1, none⟩) 64 64, undef, undef, undef, undef, undef, undef, undef, undef, undef, undef, undef, undef, undef, undef, undef, undef, undef, undef], defers := [] }) ?assign ?body ?done ?stop
  case assign =>
    intro l x W K hK
    gi_wp2
    exact hK
  case body =>
    rintro lp pre x W ⟨A, c, hbx, hst, hpd, hB, hsW⟩ hlt
    have hcx := hbx.cell
    have hblk := hpd.blk (64 * x.1) (by have := x.2; omega)
    have hbl : ((p.drop (64 * x.1)).take 64).length = 64 := by rw [List.length_take, List.length_drop, HPM.out]; have := x.2; omega
    gi_wp2_with (refine ⟨trivial, ?_⟩; gi_at_call 100; refine (CallsIn.inRound lp (callsIn_wide.2 (digcomp_any _ hst hblk (foldS_ok p m pre).1 hbl (hk.below hB) (foldS_ok p m pre).2))).mono ?_; rintro e w' ⟨A', c', rfl, r', b'⟩; have hbx' : Boxed w' w1.heap.size 118 (.slice A 8 c) := (b'.block _ hbx.lt).trans hbx; have hc1 := hbx'.cell; have hf1 := hbx'.frozen)
    refine ⟨(Ext.others b').trans (KeepsOthers.setCell _ _ _), (b'.but ws.heap.size w1.heap.size hsW).trans ⟨by simp, fun k _ hne => Go.Deep.blk_setCell_other _ _ _ _ hne⟩, A', c', hbx'.set _, ?_, (hpd.ext b').set_ hbx' bvs_ne_slice, (hB.trans (b'.mono hB.size)).setCell (p := ⟨w1.heap.size, 0, none⟩) b1.size _, by simp; exact Nat.le_trans hsW b'.size⟩
    rw [foldS_snoc]
    exact Rd.set_ r' hbx' int_ne_slice
  case done =>
    rintro D ys W hD rfl ⟨A, c, hbx, hst, hpd, hB, hsW⟩ hK
    rw [foldS_upto p m m (Nat.le_refl _)] at hst
    have hcx := hbx.cell
    have hKl : D < W.heap.size := block_lt hK
    go_wp2
    obtain ⟨_, _, _, e1, hxx, hmc3, hcc3, hcell⟩ := hst.ints
    injection e1 with e1 e2 e3
    subst e1 e2 e3
    obtain ⟨bs, os, rfl, hbs, hs⟩ := hcell (by omega)
    have HS := Lib.hid hs
    have HKD := Lib.hid hK
    clear hs hcell hxx hK hcx hbx hpd hst
    obtain ⟨wa, hwa⟩ : ∃ x, x = W := ⟨_, rfl⟩
    subst hwa
    go_loopw [5, 21] (fun v i wr => ∃ (j : Nat) (A : Option Addr) (n c : Nat), j ≤ 8 ∧ i = .int .i64 (j : Int) ∧ v = .slice A n c ∧ Hid (n = 4 * j) ∧ Own wr wa.heap.size 5 (.slice A n c) (bvs (bytes8 ((states p m).take j))) ∧ Below wa.heap.size wa wr) (fun _ i _ => (8 - intOf i).toNat)
    case atStart => exact ⟨0, none, 0, 0, by omega, rfl, rfl, rfl, nilB _ _, Below.refl _ _⟩
    case round =>
      obtain ⟨j, A4, n4, c4, hj, rfl, rfl, hn4, o4, b4⟩ := hrel
      by_cases hj8 : j < 8
      · obtain ⟨x, hx⟩ : ∃ x, x = (states p m).getD j 0 := ⟨_, rfl⟩
        have cst : wr.cell? ⟨bs, os + j, none⟩ = some (.int .u32 x) := (b4.cell hbs).trans ((HS.out j hj8).trans (by rw [hx]))
        have HX := Lib.hid hx
        clear hx
        have wi1 : IntKind.i64.wrap ((j : Int)) = (j : Int) := IntWalk.i64_in _ (by omega)
        have zi1 : (0 : Int) ≤ (j : Int) := by omega
        have li1 : (j : Int) < 8 := by omega
        have ti1 : ((j : Int)).toNat = j := by omega
        have HN := Lib.hid hn4
        clear hn4
        go_wp2_with (first
          | (go_at_call 101; refine (bytesOf_any _ _).mono ?_; rintro e w5 ⟨A5, n5, c5, rfl, hn5, o5, b5⟩)
          | (refine appB (o4.ext b5) o5.rd (b4.trans (b5.mono b4.size)) (by rw [bytes8_length]; simp [be4]; omega) (Nat.le_trans b4.size b5.size) rfl rfl rfl rfl ?_; intro A6 n6 c6 w6 hn6 o6 b6 g6))
        go_roundw
        case rel => exact ⟨j + 1, A6, n6, c6, by omega, by go_num, rfl, (show _ = _ by have := hn6.out; rw [bytes8_length, List.length_take, states_length] at this; simp [be4] at this; omega), by rw [bytes8_step (by rw [states_length]; exact hj8), ← HX.out]; exact o6, b6⟩
        case measure => simp [intOf]; omega
      · obtain rfl : j = 8 := by omega
        simp only [Int.cast_ofNat_Int]
        go_wp2
        have hK2 : wr.heap[D]? = some (.deferred (some [])) := (b4.block _ hKl).trans HKD.out
        refine ⟨by simp, .inl ⟨_, _, rfl, run_takeDeferred hK2, ?_⟩⟩
        have e8 : bytes8 ((states p m).take 8) = sha l := by
          rw [List.take_of_length_le (by rw [states_length]; exact Nat.le_refl _), HM.out, HP.out]; rfl
        rw [e8] at o4
        have hD0 : w.heap.size ≤ D := Nat.le_trans hws0.size hD
        refine ⟨_, results_tmp rfl _ _ _, _, _, _, rfl, (show _ = _ by rw [hn4.out, sha_length]), ?_, (hB.trans (b4.mono hB.size)).trans (belowK_b (w := w) (Nat.le_refl _) _ D _ _ hD0 hK2 rfl rfl)⟩
        obtain ⟨A9, n9, c9, e9, h9, hcase⟩ := o4
        injection e9 with e1 e2 e3
        subst e1 e2 e3
        refine ⟨_, _, _, rfl, h9, ?_⟩
        rcases hcase with h | ⟨g, cur, rfl, h1, hg, hr⟩
        · exact .inl h
        · exact .inr ⟨g, cur, rfl, Nat.le_trans hB.size h1, (World.putObj_heap_other (by omega)).trans hg, hr⟩
  case stop =>
    rintro D c pre W _ _ h _
    exact h.elim
end Go.Proofs.YthbpdhanljpigaaGreatDoor
