/- Parts Wd3 Wd5 of the proof. -/
import Derived.Test.YthbpdhanljpigaaGreatDoorVag
import Derived.Test.YthbpdhanljpigaaGreatDoorVaa
import Derived.Test.YthbpdhanljpigaaGreatDoorVad
namespace Go.Proofs.YthbpdhanljpigaaGreatDoor
open Go.RowKit
set_option linter.unusedVariables false
/-- A call that returns new words. -/
def RetW (w : World) (l : List Int) (e : Ending) (w' : World) : Prop :=
  ∃ A n c, e = .returned (.slice A n c) ∧ n = l.length ∧ RdI w' .u32 (.slice A n c) l ∧ Ext w w'

theorem digstart_any (w : World) : Calls Tryz.prog 97 #[] w (RetW w start8) := by
  go_enter Tryz.func97, Tryz.ntmps97
  go_wp2
  go_ret
  exact ⟨_, _, _, rfl, rfl, Rd.lit _ _ _ 8 rfl (by unfold maxLen; omega), (Below.refl _ _).alloc (Nat.le_refl _) _⟩

theorem word_any {b : Value} {l : List UInt8} (w : World) (hb : Rd w b (bvs l)) (h4 : 4 ≤ l.length) :
    Calls Tryz.prog 148 #[b] w fun e w' => e = .returned (.int .u32 (wordAt l 0)) ∧ ∃ n, w' = w.drewN n := by
  obtain ⟨A, n, c, rfl, hn, hnc, hcm, hA⟩ := hb.bytes
  obtain ⟨b, o, rfl, _, hc⟩ := hA (by omega)
  have c0 := hc 0 (by omega)
  have c1 := hc 1 (by omega)
  have c2 := hc 2 (by omega)
  have c3 := hc 3 (by omega)
  have b0 := byteI_lo l 0
  have b1 := byteI_lo l 1
  have b2 := byteI_lo l 2
  have b3 := byteI_lo l 3
  have d0 := byteI_hi l 0
  have d1 := byteI_hi l 1
  have d2 := byteI_hi l 2
  have d3 := byteI_hi l 3
  have k0 : 0 < n := by omega
  rw [Nat.add_zero] at c0
  have k1 : (1 : Int) < n := by omega
  have k2 : (2 : Int) < n := by omega
  have k3 : (3 : Int) < n := by omega
  clear hc hA hn hb
  go_enter Tryz.func148, Tryz.ntmps148
  go_wp2
  go_quiet (fail)
  go_wp2
  go_ret
  exact ⟨rfl, nq, rfl⟩

/-- The table of the constants, in block g. -/
def KTab (w : World) (g : Nat) : Prop := ∀ t, t < 64 → w.cell? ⟨g, t, none⟩ = some (.int .u32 (kAt t))
theorem KTab.lt {w : World} {g : Nat} (h : KTab w g) : g < w.heap.size := World.block_lt_of_cell? w _ (h 0 (by omega))
theorem KTab.below {w w' : World} {g : Nat} (h : KTab w g) (hb : Below w.heap.size w w') : KTab w' g := fun t ht => (hb.cell (p := ⟨g, t, none⟩) h.lt).trans (h t ht)
/-- What Compress returns for a state and a block. -/
def RetC (w : World) (l : List Int) (e : Ending) (w' : World) : Prop :=
  ∃ A c, e = .returned (.tuple #[.slice A 8 c, .int .i64 0]) ∧ RdI w' .u32 (.slice A 8 c) l ∧ Ext w w'

end Go.Proofs.YthbpdhanljpigaaGreatDoor
namespace Go.Proofs.YthbpdhanljpigaaGreatDoor
open Go.RowKit
set_option linter.unusedVariables false
theorem ofInt32_nat (a : Nat) (ha : a < 4294967296) : (BitVec.ofInt 32 (a : Int)).toNat = a := by
  rw [BitVec.ofInt_natCast, BitVec.toNat_ofNat]; exact Nat.mod_eq_of_lt (by omega)
theorem u32_or_nat (a b : Nat) (ha : a < 4294967296) (hb : b < 4294967296) : bits .or .u32 (a : Int) (b : Int) = ((a ||| b : Nat) : Int) := by
  have hx : a ||| b < 2 ^ 32 := Nat.or_lt_two_pow (by omega) (by omega)
  show IntKind.u32.wrap ((BitVec.ofInt 32 (a : Int) ||| BitVec.ofInt 32 (b : Int)).toNat : Int) = _
  rw [BitVec.toNat_or, ofInt32_nat a ha, ofInt32_nat b hb, IntKind.wrap_u32]
  omega
theorem u32_xor_nat (a b : Nat) (ha : a < 4294967296) (hb : b < 4294967296) : bits .xor .u32 (a : Int) (b : Int) = ((a ^^^ b : Nat) : Int) := by
  have hx : a ^^^ b < 2 ^ 32 := Nat.xor_lt_two_pow (by omega) (by omega)
  show IntKind.u32.wrap ((BitVec.ofInt 32 (a : Int) ^^^ BitVec.ofInt 32 (b : Int)).toNat : Int) = _
  rw [BitVec.toNat_xor, ofInt32_nat a ha, ofInt32_nat b hb, IntKind.wrap_u32]
  omega
/-- A number of 32 bits. -/
def U32 (x : Int) : Prop := 0 ≤ x ∧ x < 4294967296
theorem U32.nat {x : Int} (h : U32 x) : ∃ n : Nat, x = n ∧ n < 4294967296 := ⟨x.toNat, by have := h.1; omega, by have := h.1; have := h.2; omega⟩
theorem or_u32 {a b : Int} (ha : U32 a) (hb : U32 b) : U32 (bits .or .u32 a b) := by
  obtain ⟨m, rfl, hm⟩ := ha.nat
  obtain ⟨n, rfl, hn⟩ := hb.nat
  rw [u32_or_nat m n hm hn]
  have : m ||| n < 2 ^ 32 := Nat.or_lt_two_pow (by omega) (by omega)
  exact ⟨by omega, by omega⟩
theorem or_comm32 {a b : Int} (ha : U32 a) (hb : U32 b) : bits .or .u32 a b = bits .or .u32 b a := by
  obtain ⟨m, rfl, hm⟩ := ha.nat
  obtain ⟨n, rfl, hn⟩ := hb.nat
  rw [u32_or_nat m n hm hn, u32_or_nat n m hn hm, Nat.or_comm]
theorem xor_zero32 {a : Int} (ha : U32 a) : bits .xor .u32 0 a = a := by
  obtain ⟨m, rfl, hm⟩ := ha.nat
  have := u32_xor_nat 0 m (by omega) hm
  simpa using this
theorem shr_u32 {x : Int} (h : U32 x) (n : Nat) : U32 (x / 2 ^ n) := by
  obtain ⟨m, rfl, hm⟩ := h.nat
  have e : ((m : Int) / 2 ^ n) = ((m / 2 ^ n : Nat) : Int) := by simp
  have := Nat.div_le_self m (2 ^ n)
  rw [e]
  generalize m / 2 ^ n = q at *
  exact ⟨by omega, by omega⟩
theorem rotr_u32 {x n : Int} (h : U32 x) : U32 (rotr x n) := or_u32 (shr_u32 h _) ⟨by omega, by omega⟩
theorem rotl_rotr {x n : Int} (h : U32 x) : bits .or .u32 (x * 2 ^ (32 - n).toNat % 4294967296) (x / 2 ^ n.toNat) = rotr x n := or_comm32 ⟨by omega, by omega⟩ (shr_u32 h _)

/-- What the closure 'rot' reckons. -/
def rotF (x : Int) (ns : List Int) : Int := ns.foldl (fun acc n => bits .xor .u32 acc (bits .or .u32 (x * 2 ^ (32 - n).toNat % 4294967296) (x / 2 ^ n.toNat))) 0
theorem rotF_two {x : Int} (h : U32 x) (m n : Int) : rotF x [m, n] = bits .xor .u32 (rotr x m) (rotr x n) := by
  simp only [rotF, List.foldl_cons, List.foldl_nil]
  rw [rotl_rotr h, rotl_rotr h, xor_zero32 (rotr_u32 (n := m) h)]
theorem rotF_three {x : Int} (h : U32 x) (m n k : Int) : rotF x [m, n, k] = bits .xor .u32 (bits .xor .u32 (rotr x m) (rotr x n)) (rotr x k) := by
  simp only [rotF, List.foldl_cons, List.foldl_nil]
  rw [rotl_rotr h, rotl_rotr h, rotl_rotr h, xor_zero32 (rotr_u32 (n := m) h)]

theorem and31 (n : Int) (h0 : 1 ≤ n) (h1 : n ≤ 31) : bits .and .u64 (IntKind.u64.wrap (-n)) 31 = 32 - n := by
  have key : ∀ k : Fin 31, bits .and .u64 (IntKind.u64.wrap (-((k.val : Int) + 1))) 31 = 32 - ((k.val : Int) + 1) := by decide
  have := key ⟨(n - 1).toNat, by omega⟩
  have e : (((n - 1).toNat : Nat) : Int) + 1 = n := by omega
  simp only [e] at this
  exact this

theorem rotl_any (x n : Int) (h0 : 1 ≤ n) (h1 : n ≤ 31) (w : World) :
    Calls Tryz.prog 147 #[.int .u32 x, .int .i64 (-n)] w fun e w' => e = .returned (.int .u32 (bits .or .u32 (x * 2 ^ (32 - n).toNat % 4294967296) (x / 2 ^ n.toNat))) ∧ w' = w := by
  have ha := and31 n h0 h1
  have hb : (32 : Int) - (32 - n) = n := by omega
  go_enter Tryz.func147, Tryz.ntmps147
  go_wp2
  go_ret
  exact ⟨rfl, rfl⟩

theorem rot_any {v : Value} {ns : List Int} (x : Int) (w : World) (hv : RdI w .i64 v ns) (hn : ∀ n ∈ ns, 1 ≤ n ∧ n ≤ 31) :
    Calls Tryz.prog 146 #[.int .u32 x, v] w fun e w' => e = .returned (.int .u32 (rotF x ns)) ∧ w' = w := by
  obtain ⟨A, n, c, rfl, hl, hnc, hcm, hA⟩ := hv.ints
  unfold maxLen at hcm
  have HL := Lib.hid hl
  clear hl hv
  go_enter Tryz.func146, Tryz.ntmps146
  go_wp2
  go_loop [5, 10] (fun v i => ∃ k : Nat, k ≤ n ∧ i = .int .i64 k ∧ v = .int .u32 (rotF x (ns.take k))) (fun _ i => n - (intOf i).toNat)
  case atStart => exact ⟨0, by omega, rfl, rfl⟩
  case round =>
    obtain ⟨k, hk, rfl, rfl⟩ := hrel
    by_cases hlt : k < n
    · obtain ⟨b, o, rfl, _, hc⟩ := hA (by omega)
      have c0 := hc k hlt
      have hkn : k < ns.length := by rw [← HL.out]; exact hlt
      have hb := hn (ns.getD k 0) (by simp [List.getD_eq_getElem?_getD, hkn])
      obtain ⟨m, hm⟩ : ∃ m, m = ns.getD k 0 := ⟨_, rfl⟩
      rw [← hm] at c0 hb
      have hstep : rotF x (ns.take (k + 1)) = bits .xor .u32 (rotF x (ns.take k)) (bits .or .u32 (x * 2 ^ (32 - m).toNat % 4294967296) (x / 2 ^ m.toNat)) := by
        have hm' : m = ns[k] := by rw [hm]; simp [List.getD_eq_getElem?_getD, hkn]
        unfold rotF
        rw [List.take_succ_eq_append_getElem hkn, List.foldl_append, ← hm']
        rfl
      have HS := Lib.hid hstep
      clear hstep hm hkn hc hA hn
      obtain ⟨hb0, hb1⟩ := hb
      have wi1 : IntKind.i64.wrap ((k : Int)) = (k : Int) := IntWalk.i64_in _ (by omega)
      have zi1 : (0 : Int) ≤ (k : Int) := by omega
      have li1 : (k : Int) < n := by omega
      have ti1 : ((k : Int)).toNat = k := by omega
      go_wp2_with (go_at_call 147; refine (rotl_any _ _ hb0 hb1 _).mono ?_; rintro e w' ⟨rfl, rfl⟩)
      go_round
      case rel => exact ⟨k + 1, by omega, by go_num, by rw [HS.out]⟩
      case measure => simp [intOf]; omega
    · obtain rfl : k = n := by omega
      go_wp2
      go_ret
      have hfin : ns.take k = ns := List.take_of_length_le (by rw [HL.out]; exact Nat.le_refl _)
      exact ⟨by rw [hfin]; rfl, rfl⟩
end Go.Proofs.YthbpdhanljpigaaGreatDoor
