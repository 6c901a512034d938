/- The digest in plain words: words of a block, the schedule, the rounds, the state behind a block, the sum. No program is named here. -/
import Derived.Test.YtkjplpmogfmhkaaGreatDoorS
namespace Go.Proofs.YtkjplpmogfmhkaaGreatDoor
open Go
set_option linter.unusedVariables false

def word4 (a b c d : Int) : Int := bits .or .u32 (bits .or .u32 (bits .or .u32 (a * 16777216) (b * 65536)) (c * 256)) d
def wordAt (l : List UInt8) (i : Nat) : Int := word4 (byteI l i) (byteI l (i + 1)) (byteI l (i + 2)) (byteI l (i + 3))

theorem wordAt_drop (l : List UInt8) (i : Nat) : wordAt (l.drop i) 0 = wordAt l i := by simp only [wordAt, byteI_drop, Nat.add_zero, Nat.zero_add]

def rotr (x n : Int) : Int := bits .or .u32 (x / 2 ^ n.toNat) (x * 2 ^ (32 - n).toNat % 4294967296)
def sm0 (x : Int) : Int := bits .xor .u32 (bits .xor .u32 (rotr x 7) (rotr x 18)) (x / 8)
def sm1 (x : Int) : Int := bits .xor .u32 (bits .xor .u32 (rotr x 17) (rotr x 19)) (x / 1024)
def bg0 (x : Int) : Int := bits .xor .u32 (bits .xor .u32 (rotr x 2) (rotr x 13)) (rotr x 22)
def bg1 (x : Int) : Int := bits .xor .u32 (bits .xor .u32 (rotr x 6) (rotr x 11)) (rotr x 25)
/-- A word of the schedule out of four before it. -/
def nextW (y w7 x w16 : Int) : Int := (sm1 y + w7 + sm0 x + w16) % 4294967296
/-- The first t words of the schedule. -/
def sched (l : List UInt8) : Nat → List Int
  | 0 => []
  | t + 1 => sched l t ++ [if t < 16 then wordAt l (4 * t) else nextW ((sched l t).getD (t - 2) 0) ((sched l t).getD (t - 7) 0) ((sched l t).getD (t - 15) 0) ((sched l t).getD (t - 16) 0)]
theorem sched_length (l : List UInt8) : ∀ t, (sched l t).length = t
  | 0 => rfl
  | t + 1 => by simp [sched, sched_length l t]
/-- Word number t of the schedule. -/
def schedW (l : List UInt8) (t : Nat) : Int := (sched l 64).getD t 0
theorem sched_prefix (l : List UInt8) (t : Nat) : ∀ k, (sched l (t + k)).take t = sched l t
  | 0 => by rw [Nat.add_zero, List.take_of_length_le (by rw [sched_length]; exact Nat.le_refl _)]
  | k + 1 => by
    rw [← Nat.add_assoc, sched, List.take_append_of_le_length (by rw [sched_length]; omega), sched_prefix l t k]
theorem sched_get (l : List UInt8) {n t : Nat} (hn : n ≤ 64) (ht : t < n) : (sched l n).getD t 0 = schedW l t := by
  unfold schedW
  have h := sched_prefix l n (64 - n)
  rw [show n + (64 - n) = 64 by omega] at h
  rw [← h]
  simp [List.getD_eq_getElem?_getD, ht]
theorem schedW_lo (l : List UInt8) {t : Nat} (ht : t < 16) : schedW l t = wordAt l (4 * t) := by
  rw [← sched_get l (n := t + 1) (by omega) (by omega)]
  simp [sched, List.getD_eq_getElem?_getD, sched_length, ht]
theorem schedW_hi (l : List UInt8) {t : Nat} (h16 : 16 ≤ t) (ht : t < 64) : schedW l t = nextW (schedW l (t - 2)) (schedW l (t - 7)) (schedW l (t - 15)) (schedW l (t - 16)) := by
  rw [← sched_get l (n := t + 1) (by omega) (by omega)]
  have e : (sched l (t + 1)).getD t 0 = nextW ((sched l t).getD (t - 2) 0) ((sched l t).getD (t - 7) 0) ((sched l t).getD (t - 15) 0) ((sched l t).getD (t - 16) 0) := by
    simp only [sched, List.getD_eq_getElem?_getD]
    rw [List.getElem?_append_right (by rw [sched_length]; exact Nat.le_refl _), sched_length]
    simp [show ¬ t < 16 by omega]
  rw [e, sched_get l (by omega) (by omega), sched_get l (by omega) (by omega), sched_get l (by omega) (by omega), sched_get l (by omega) (by omega)]

/-- The constants of the rounds. -/
def kTab : List Int := [1116352408, 1899447441, 3049323471, 3921009573, 961987163, 1508970993, 2453635748, 2870763221, 3624381080, 310598401, 607225278, 1426881987, 1925078388, 2162078206, 2614888103, 3248222580, 3835390401, 4022224774, 264347078, 604807628, 770255983, 1249150122, 1555081692, 1996064986, 2554220882, 2821834349, 2952996808, 3210313671, 3336571891, 3584528711, 113926993, 338241895, 666307205, 773529912, 1294757372, 1396182291, 1695183700, 1986661051, 2177026350, 2456956037, 2730485921, 2820302411, 3259730800, 3345764771, 3516065817, 3600352804, 4094571909, 275423344, 430227734, 506948616, 659060556, 883997877, 958139571, 1322822218, 1537002063, 1747873779, 1955562222, 2024104815, 2227730452, 2361852424, 2428436474, 2756734187, 3204031479, 3329325298]
def kAt (t : Nat) : Int := kTab.getD t 0

/-- The eight words of a round. -/
structure S8 where
  a : Int
  b : Int
  c : Int
  d : Int
  e : Int
  f : Int
  g : Int
  h : Int
def chF (e f g : Int) : Int := bits .xor .u32 (bits .and .u32 e f) (bits .and .u32 (bits .xor .u32 IntKind.u32.max e) g)
theorem ifmax : (if IntKind.u32.signed = true then (-1 : Int) else IntKind.u32.max) = IntKind.u32.max := rfl
def mjF (a b c : Int) : Int := bits .xor .u32 (bits .xor .u32 (bits .and .u32 a b) (bits .and .u32 a c)) (bits .and .u32 b c)
def t1F (s : S8) (k w : Int) : Int := s.h + bg1 s.e + chF s.e s.f s.g + k + w
def t2F (s : S8) : Int := bg0 s.a + mjF s.a s.b s.c
def roundF (s : S8) (k w : Int) : S8 := ⟨(t1F s k w + t2F s) % 4294967296, s.a, s.b, s.c, (s.d + t1F s k w) % 4294967296, s.e, s.f, s.g⟩
def roundsF (l : List UInt8) (s : S8) : Nat → S8
  | 0 => s
  | t + 1 => roundF (roundsF l s t) (kAt t) (schedW l t)
def s8of (s : List Int) : S8 := ⟨s.getD 0 0, s.getD 1 0, s.getD 2 0, s.getD 3 0, s.getD 4 0, s.getD 5 0, s.getD 6 0, s.getD 7 0⟩
/-- The state behind a block. -/
def comp (s : List Int) (l : List UInt8) : List Int :=
  let r := roundsF l (s8of s) 64
  [(s.getD 0 0 + r.a) % 4294967296, (s.getD 1 0 + r.b) % 4294967296, (s.getD 2 0 + r.c) % 4294967296, (s.getD 3 0 + r.d) % 4294967296, (s.getD 4 0 + r.e) % 4294967296, (s.getD 5 0 + r.f) % 4294967296, (s.getD 6 0 + r.g) % 4294967296, (s.getD 7 0 + r.h) % 4294967296]
theorem comp_length (s : List Int) (l : List UInt8) : (comp s l).length = 8 := rfl
def start8 : List Int := [1779033703, 3144134277, 1013904242, 2773480762, 1359893119, 2600822924, 528734635, 1541459225]
/-- The state behind k blocks of p. -/
def states (p : List UInt8) : Nat → List Int
  | 0 => start8
  | k + 1 => comp (states p k) ((p.drop (64 * k)).take 64)
theorem states_length (p : List UInt8) : ∀ k, (states p k).length = 8
  | 0 => rfl
  | k + 1 => rfl
def bytes8 (s : List Int) : List UInt8 := (s.map be4).flatten
/-- The digest. -/
def sha (l : List UInt8) : List UInt8 := bytes8 (states (pad l) ((pad l).length / 64))
end Go.Proofs.YtkjplpmogfmhkaaGreatDoor
