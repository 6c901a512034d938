/- Parts Ct Cq Ck Cx Ge Bn Wn Tr Ts Tt Tu Cl To Td Tf Tg Th Ti of the proof. -/
import Derived.Test.YtkjplpmogfmhkaaGreatDoorPkd
import Derived.Test.YtkjplpmogfmhkaaGreatDoorSx
import Derived.Test.YtkjplpmogfmhkaaGreatDoorSd
import Derived.Test.YtkjplpmogfmhkaaGreatDoorGs
import Derived.Test.YtkjplpmogfmhkaaGreatDoorSe
import Derived.Test.YtkjplpmogfmhkaaGreatDoorNo
import Derived.Test.YtkjplpmogfmhkaaGreatDoorWd1
import Derived.Test.YtkjplpmogfmhkaaGreatDoorBk
import Derived.Lib.ConvBytes
import Derived.Test.YtkjplpmogfmhkaaGreatDoorWm
import Derived.BigQuiet
import Derived.Laws.AppendOwn
import Derived.Lib.SliceRun
import Derived.Deep.LoopGhost
import Derived.Lib.LazyBuf
import Derived.Test.YtkjplpmogfmhkaaGreatDoorWx
namespace Go.Proofs.YtkjplpmogfmhkaaGreatDoor
open Go.RowKit
set_option linter.unusedVariables false
set_option maxRecDepth 100000

def bstr (l : List UInt8) : ByteArray := ⟨l.toArray⟩
theorem bstr_back (s : ByteArray) : bstr s.data.toList = s := rfl
def upI (z : Int) : Prop := 65 ≤ z ∧ z ≤ 90
def dgI (z : Int) : Prop := 48 ≤ z ∧ z ≤ 57
instance (z : Int) : Decidable (upI z) := inferInstanceAs (Decidable (_ ∧ _))
instance (z : Int) : Decidable (dgI z) := inferInstanceAs (Decidable (_ ∧ _))
/-- A name. -/
def nameP (l : List UInt8) : Prop := (1 ≤ l.length ∧ l.length ≤ 16) ∧ upI (byteI l 0) ∧ ∀ i, i < l.length → upI (byteI l i) ∨ dgI (byteI l i)
instance (l : List UInt8) : Decidable (nameP l) := inferInstanceAs (Decidable (_ ∧ _ ∧ _))
structure TC where
  au : List UInt8
  ho : List UInt8
  key : Int
  role : Int
  rights : Int
  fr : Int
  to : Int
  e : Int
  s : Int
def daysP (fr to : Int) : Prop := 0 ≤ fr ∧ fr ≤ to ∧ to ≤ 73048
instance (fr to : Int) : Decidable (daysP fr to) := inferInstanceAs (Decidable (_ ∧ _))
/-- What Check reports. -/
def ckT (c : TC) : Int :=
  if ¬ nameP c.au ∨ ¬ nameP c.ho then 60 else if isElem c.key = false then 10 else if c.role < 1 ∨ 4 < c.role then 61 else
  if c.rights < 0 ∨ 65535 < c.rights then 62 else if ¬ daysP c.fr c.to then 8 else 0
theorem ckT_ok {c : TC} (h : ckT c = 0) : nameP c.au ∧ nameP c.ho ∧ isElem c.key = true ∧ 1 ≤ c.role ∧ c.role ≤ 4 ∧ 0 ≤ c.rights ∧ c.rights ≤ 65535 ∧ daysP c.fr c.to := by
  unfold ckT at h
  split at h
  · cases h
  · rename_i h1
    split at h
    · cases h
    · rename_i h2
      split at h
      · cases h
      · rename_i h3
        split at h
        · cases h
        · rename_i h4
          split at h
          · cases h
          · rename_i h5
            simp only [not_or, Decidable.not_not] at h1 h5
            exact ⟨h1.1, h1.2, by simpa using h2, by omega, by omega, by omega, by omega, h5⟩
def tcV (c : TC) : Value := .agg #[.string (bstr c.au), .string (bstr c.ho), .int .i64 c.key, .int .i64 c.role, .int .i64 c.rights, .int .i64 c.fr, .int .i64 c.to, .int .i64 c.e, .int .i64 c.s]
def zeroT : TC := ⟨[], [], 0, 0, 0, 0, 0, 0, 0⟩
/-- Three bytes of a number. -/
def be3 (x : Int) : List UInt8 := [u8 (x / 65536), u8 (x / 256), u8 x]
def leafN (t : Int) (l : List UInt8) : Nd := .mk t l []
def bodyT (c : TC) : Nd := .mk 32590 [] [leafN 66 c.au, leafN 24352 c.ho, leafN 134 (be4 c.key), .mk 32588 [] [leafN 83 [u8 c.role, u8 (c.rights / 256), u8 c.rights]], leafN 24357 (be3 c.fr), leafN 24356 (be3 c.to)]
def certT (c : TC) : Nd := .mk 32545 [] [bodyT c, leafN 24375 (be4 c.e ++ be4 c.s)]
def bodyB (c : TC) : List UInt8 := encNs 3 [bodyT c]
def tcB (c : TC) : List UInt8 := encNs 4 [certT c]
/-- A certificate that can be written. -/
def validT' (c : TC) : Prop := ckT c = 0 ∧ encK c.e c.s = 0
theorem be4_num {x : Int} (h0 : 0 ≤ x) (h1 : x < 4294967296) : num (be4 x) = x := by
  simp only [num, be4, List.foldl, u8_val]
  omega
theorem be3_num {x : Int} (h0 : 0 ≤ x) (h1 : x < 16777216) : num (be3 x) = x := by
  simp only [num, be3, List.foldl, u8_val]
  omega
theorem okLeaf {d : Nat} {t : Int} {l : List UInt8} (h0 : 0 ≤ t) (h1 : t < 65536) (hv : validT t = true) (hc : consT t = false) : (0 ≤ (leafN t l).tag ∧ (leafN t l).tag < 65536) ∧ validT (leafN t l).tag = true ∧ (consT (leafN t l).tag = true → (leafN t l).val = []) ∧ (consT (leafN t l).tag = false → (leafN t l).kids = []) ∧ okNs d (leafN t l).kids := by
  refine ⟨⟨h0, h1⟩, hv, fun h => ?_, fun _ => rfl, ?_⟩
  · rw [show (leafN t l).tag = t from rfl, hc] at h; cases h
  · show okNs d []
    cases d with
    | zero => rfl
    | succ d => intro t ht; cases ht
theorem okCons {d : Nat} {t : Int} {ks : List Nd} (h0 : 0 ≤ t) (h1 : t < 65536) (hv : validT t = true) (hc : consT t = true) (hk : okNs d ks) : (0 ≤ (Nd.mk t [] ks).tag ∧ (Nd.mk t [] ks).tag < 65536) ∧ validT (Nd.mk t [] ks).tag = true ∧ (consT (Nd.mk t [] ks).tag = true → (Nd.mk t [] ks).val = []) ∧ (consT (Nd.mk t [] ks).tag = false → (Nd.mk t [] ks).kids = []) ∧ okNs d (Nd.mk t [] ks).kids :=
  ⟨⟨h0, h1⟩, hv, fun _ => rfl, fun h => (by rw [show (Nd.mk t [] ks).tag = t from rfl, hc] at h; cases h), hk⟩
theorem okNs_nil (d : Nat) : okNs d [] := by
  cases d with
  | zero => rfl
  | succ d => intro t ht; cases ht
theorem okNs_cons {d : Nat} {t : Nd} {ts : List Nd} (h : (0 ≤ t.tag ∧ t.tag < 65536) ∧ validT t.tag = true ∧ (consT t.tag = true → t.val = []) ∧ (consT t.tag = false → t.kids = []) ∧ okNs d t.kids) (hs : okNs (d + 1) ts) : okNs (d + 1) (t :: ts) := by
  intro u hu
  rcases List.mem_cons.1 hu with rfl | hu
  · exact h
  · exact hs u hu
theorem ok_bodyT (c : TC) : okNs 3 [bodyT c] := by
  refine okNs_cons (okCons (by decide) (by decide) (by decide) (by decide) ?_) (okNs_nil _)
  refine okNs_cons (okLeaf (by decide) (by decide) (by decide) (by decide)) ?_
  refine okNs_cons (okLeaf (by decide) (by decide) (by decide) (by decide)) ?_
  refine okNs_cons (okLeaf (by decide) (by decide) (by decide) (by decide)) ?_
  refine okNs_cons (okCons (by decide) (by decide) (by decide) (by decide) ?_) ?_
  · exact okNs_cons (okLeaf (by decide) (by decide) (by decide) (by decide)) (okNs_nil _)
  refine okNs_cons (okLeaf (by decide) (by decide) (by decide) (by decide)) ?_
  exact okNs_cons (okLeaf (by decide) (by decide) (by decide) (by decide)) (okNs_nil _)
theorem okNs_up : ∀ (d : Nat) (ts : List Nd), okNs d ts → okNs (d + 1) ts
  | 0, ts, h => by obtain rfl : ts = [] := h; exact okNs_nil _
  | d + 1, ts, h => fun t ht => by
    obtain ⟨h1, h2, h3, h4, h5⟩ := h t ht
    exact ⟨h1, h2, h3, h4, okNs_up d _ h5⟩
theorem ok_certT (c : TC) : okNs 4 [certT c] := by
  refine okNs_cons (okCons (by decide) (by decide) (by decide) (by decide) ?_) (okNs_nil _)
  refine okNs_cons (ok_bodyT c _ (List.mem_singleton.2 rfl)) ?_
  exact okNs_cons (okLeaf (by decide) (by decide) (by decide) (by decide)) (okNs_nil _)
theorem tcB_len {c : TC} (h1 : c.au.length ≤ 16) (h2 : c.ho.length ≤ 16) : (tcB c).length ≤ 200 := by
  have h := encNs_len 4 [certT c]
  have e1 : cntNs 4 [certT c] = 10 := rfl
  have e2 : valNs 4 [certT c] = c.au.length + c.ho.length + 21 := by
    simp only [valNs, certT, bodyT, leafN, Nd.val, Nd.kids, List.map_cons, List.map_nil, List.sum_cons, List.sum_nil, List.length_append, List.length_nil, List.length_cons, be4, be3]
    omega
  unfold tcB
  omega
theorem bodyB_len {c : TC} (h1 : c.au.length ≤ 16) (h2 : c.ho.length ≤ 16) : (bodyB c).length ≤ 200 := by
  have h := encNs_len 3 [bodyT c]
  have e1 : cntNs 3 [bodyT c] = 8 := rfl
  have e2 : valNs 3 [bodyT c] = c.au.length + c.ho.length + 13 := by
    simp only [valNs, bodyT, leafN, Nd.val, Nd.kids, List.map_cons, List.map_nil, List.sum_cons, List.sum_nil, List.length_nil, List.length_cons, be4, be3]
    omega
  unfold bodyB
  omega
/-- The object at the end of a path of tags. -/
def findN : List Nd → List Int → Option Nd
  | _, [] => none
  | ts, p :: ps => match ts.find? (fun t => t.tag == p) with
    | none => none
    | some t => if ps = [] then some t else findN t.kids ps
def valN (ts : List Nd) (p : List Int) : List UInt8 := match findN ts p with
  | none => []
  | some t => t.val
/-- What is read off the objects of a certificate: as the program does, and as the reference does. -/
def numN (ts : List Nd) (p : List Int) : Int := match findN ts p with
  | none => -1
  | some t => if t.val.length ≤ 7 then num t.val else -1
def smallN (l : List UInt8) : Int := if 4 < l.length then -1 else num l
def pA : List Int := [32545, 32590, 66]
def pH : List Int := [32545, 32590, 24352]
def pK : List Int := [32545, 32590, 134]
def pR : List Int := [32545, 32590, 32588, 83]
def pF : List Int := [32545, 32590, 24357]
def pT : List Int := [32545, 32590, 24356]
def pS : List Int := [32545, 24375]
def xP (ts : List Nd) : Option TC :=
  if (valN ts pK).length = 4 ∧ isElem (num (valN ts pK)) = true ∧ 0 ≤ numN ts pR ∧ dcK (valN ts pS) = 0 then
    some ⟨valN ts pA, valN ts pH, num (valN ts pK), numN ts pR / 65536, numN ts pR % 65536, numN ts pF, numN ts pT, dcE (valN ts pS), dcS (valN ts pS)⟩
  else none
def xR (ts : List Nd) : Option TC :=
  if dcK (valN ts pS) = 0 ∧ (valN ts pR).length = 3 then
    some ⟨valN ts pA, valN ts pH, smallN (valN ts pK), byteI (valN ts pR) 0, num ((valN ts pR).drop 1), smallN (valN ts pF), smallN (valN ts pT), dcE (valN ts pS), dcS (valN ts pS)⟩
  else none
theorem encK_ok {e s : Int} (h : encK e s = 0) : (0 ≤ e ∧ e < 1073741789) ∧ 0 ≤ s ∧ s < 1073741789 := by
  unfold encK at h
  split at h
  · rename_i q
    exact ⟨inB_true q.1, inB_true q.2⟩
  · cases h
theorem dc_encT {e s : Int} (h : encK e s = 0) : dcK (be4 e ++ be4 s) = 0 ∧ dcE (be4 e ++ be4 s) = e ∧ dcS (be4 e ++ be4 s) = s := by
  obtain ⟨⟨e0, e1⟩, s0, s1⟩ := encK_ok h
  have n1 := be4_num (x := e) e0 (by omega)
  have n2 := be4_num (x := s) s0 (by omega)
  have hl : (be4 e ++ be4 s).length = 8 := rfl
  have ht : (be4 e ++ be4 s).take 4 = be4 e := rfl
  have hd : (be4 e ++ be4 s).drop 4 = be4 s := rfl
  have hok : dcOk (be4 e ++ be4 s) := by
    unfold dcOk
    rw [ht, hd, n1, n2]
    exact ⟨inB_yes e0 e1, inB_yes s0 s1⟩
  unfold dcK dcE dcS
  rw [if_pos hl, if_pos hok, if_pos ⟨hl, hok⟩, if_pos ⟨hl, hok⟩, ht, hd]
  exact ⟨rfl, n1, n2⟩
theorem xP_cert {c : TC} (h : validT' c) : xP [certT c] = some c := by
  obtain ⟨hk, he⟩ := h
  obtain ⟨h1, h2, h3, h4, h5, h6, h7, h8, h9, h10⟩ := ckT_ok hk
  obtain ⟨d1, d2, d3⟩ := dc_encT he
  have k0 := isElem_in h3
  have vA : valN [certT c] pA = c.au := rfl
  have vH : valN [certT c] pH = c.ho := rfl
  have vK : valN [certT c] pK = be4 c.key := rfl
  have vR : numN [certT c] pR = num [u8 c.role, u8 (c.rights / 256), u8 c.rights] := rfl
  have vF : numN [certT c] pF = num (be3 c.fr) := rfl
  have vT : numN [certT c] pT = num (be3 c.to) := rfl
  have vS : valN [certT c] pS = be4 c.e ++ be4 c.s := rfl
  have nR : num [u8 c.role, u8 (c.rights / 256), u8 c.rights] = 65536 * c.role + c.rights := by
    simp only [num, List.foldl, u8_val]
    omega
  unfold xP
  rw [vA, vH, vK, vR, vF, vT, vS, nR, be4_num (by omega) (by omega), be3_num h8 (by omega), be3_num (by omega) (by omega), d1, d2, d3, if_pos ⟨rfl, h3, by omega, rfl⟩]
  have q1 : (65536 * c.role + c.rights) / 65536 = c.role := by omega
  have q2 : (65536 * c.role + c.rights) % 65536 = c.rights := by omega
  rw [q1, q2]
theorem xR_cert {c : TC} (h : validT' c) : xR [certT c] = some c := by
  obtain ⟨hk, he⟩ := h
  obtain ⟨h1, h2, h3, h4, h5, h6, h7, h8, h9, h10⟩ := ckT_ok hk
  obtain ⟨d1, d2, d3⟩ := dc_encT he
  have k0 := isElem_in h3
  have vA : valN [certT c] pA = c.au := rfl
  have vH : valN [certT c] pH = c.ho := rfl
  have vK : smallN (valN [certT c] pK) = num (be4 c.key) := rfl
  have vR : valN [certT c] pR = [u8 c.role, u8 (c.rights / 256), u8 c.rights] := rfl
  have vF : smallN (valN [certT c] pF) = num (be3 c.fr) := rfl
  have vT : smallN (valN [certT c] pT) = num (be3 c.to) := rfl
  have vS : valN [certT c] pS = be4 c.e ++ be4 c.s := rfl
  have nR : byteI [u8 c.role, u8 (c.rights / 256), u8 c.rights] 0 = c.role := by
    show ((u8 c.role).toNat : Int) = _
    rw [u8_val]; omega
  have nQ : num [u8 (c.rights / 256), u8 c.rights] = c.rights := by
    rw [num_two, u8_val, u8_val]; omega
  unfold xR
  rw [vA, vH, vK, vR, vF, vT, vS, nR, be4_num (by omega) (by omega), be3_num h8 (by omega), be3_num (by omega) (by omega), d1, d2, d3, if_pos ⟨rfl, rfl⟩]
  rw [show [u8 c.role, u8 (c.rights / 256), u8 c.rights].drop 1 = [u8 (c.rights / 256), u8 c.rights] from rfl, nQ]
/-- What a certificate's bytes are read as. -/
theorem parse_tcB {c : TC} (h : validT' c) : objsP 1 0 (tcB c) = some ([certT c], 10) := by
  obtain ⟨⟨a1, _⟩, ⟨a2, _⟩, _⟩ := ckT_ok h.1
  have hl := tcB_len a1.2 a2.2
  exact objsP_enc 4 [certT c] 1 0 (ok_certT c) (by decide) (show 0 + 10 ≤ 256 by decide) (by unfold tcB at hl; omega)
theorem tcB_inj {c d : TC} (hc : validT' c) (hd : validT' d) (h : tcB c = tcB d) : c = d := by
  have h1 := parse_tcB hc
  rw [h, parse_tcB hd] at h1
  have h2 : [certT d] = [certT c] := congrArg Prod.fst (Option.some.inj h1)
  have h3 := xP_cert hc
  rw [← h2, xP_cert hd] at h3
  exact (Option.some.inj h3).symm
/-- Which certificate bytes are. -/
noncomputable def decT (b : List UInt8) : Option TC := open Classical in if h : ∃ c, validT' c ∧ tcB c = b then some (Classical.choose h) else none
theorem decT_of {c : TC} (h : validT' c) : decT (tcB c) = some c := by
  have he : ∃ d, validT' d ∧ tcB d = tcB c := ⟨c, h, rfl⟩
  unfold decT
  rw [dif_pos he]
  obtain ⟨h1, h2⟩ := Classical.choose_spec he
  rw [tcB_inj h1 h h2]
/-- Bytes that are read by an extraction which knows certificates, and written again. -/
theorem decT_by {x : List Nd → Option TC} (hx : ∀ c, validT' c → x [certT c] = some c) (b : List UInt8) :
    decT b = match objsP 1 0 b with
      | none => none
      | some (ts, _) => match x ts with
        | none => none
        | some c => open Classical in if validT' c ∧ tcB c = b then some c else none := by
  by_cases he : ∃ c, validT' c ∧ tcB c = b
  · obtain ⟨c, h, rfl⟩ := he
    rw [decT_of h, parse_tcB h]
    simp only []
    rw [hx c h]
    simp only []
    rw [if_pos ⟨h, rfl⟩]
  · have hd : decT b = none := by unfold decT; rw [dif_neg he]
    rw [hd]
    split
    · rfl
    · split
      · rfl
      · rename_i c _
        rw [if_neg (fun h => he ⟨c, h⟩)]
end Go.Proofs.YtkjplpmogfmhkaaGreatDoor

namespace Go.Proofs.YtkjplpmogfmhkaaGreatDoor
open Go.RowKit
set_option linter.unusedVariables false
set_option maxRecDepth 100000

def updS (c : TC) (e s : Int) : TC := ⟨c.au, c.ho, c.key, c.role, c.rights, c.fr, c.to, e, s⟩
def byB (c : TC) : List UInt8 := if ckT c = 0 then bodyB c else []
def ecK (c : TC) : Int := if ckT c = 0 then encK c.e c.s else ckT c
def ecB (c : TC) : List UInt8 := if ecK c = 0 then tcB c else []
def isC (k : Int) (c : TC) : TC := if ckT c = 0 ∧ sK k = 0 then updS c (sE k (bodyB c)) (sS k (bodyB c)) else zeroT
def isK (k : Int) (c : TC) : Int := if ckT c = 0 then sK k else ckT c
def vfB (p : Int) (c : TC) : Bool := if ckT c = 0 then verB p (bodyB c) c.e c.s else false
theorem ecK_valid {c : TC} : ecK c = 0 ↔ validT' c := by
  unfold ecK validT'
  by_cases h : ckT c = 0
  · rw [if_pos h]; exact ⟨fun k => ⟨h, k⟩, fun k => k.2⟩
  · rw [if_neg h]; exact ⟨fun k => absurd k h, fun k => absurd k.1 h⟩
theorem ckT_upd (c : TC) (e s : Int) : ckT (updS c e s) = ckT c := rfl
theorem bodyB_upd (c : TC) (e s : Int) : bodyB (updS c e s) = bodyB c := rfl
theorem sK_in {k : Int} (h : inB 1 1073741789 k = true) : sK k = 0 := if_pos h
theorem isC_in {k : Int} {c : TC} (hk : inB 1 1073741789 k = true) (hc : ckT c = 0) : isC k c = updS c (sigE k (bodyB c)) (sigS k (bodyB c)) := by
  unfold isC sE sS
  rw [if_pos ⟨hc, sK_in hk⟩, if_pos hk, if_pos hk]
theorem isK_in {k : Int} {c : TC} (hk : inB 1 1073741789 k = true) (hc : ckT c = 0) : isK k c = 0 := by
  unfold isK; rw [if_pos hc, sK_in hk]
theorem vf_issue {k : Int} {c : TC} (hk : inB 1 1073741789 k = true) (hc : ckT c = 0) : vfB (pw 4 k) (isC k c) = true := by
  obtain ⟨h0, h1⟩ := inB_true hk
  rw [isC_in hk hc]
  unfold vfB
  rw [ckT_upd, if_pos hc, bodyB_upd]
  exact sig_verifies h0 h1 _
theorem encK_in {e s : Int} (he : 0 ≤ e ∧ e < 1073741789) (hs : 0 ≤ s ∧ s < 1073741789) : encK e s = 0 := if_pos ⟨inB_yes he.1 he.2, inB_yes hs.1 hs.2⟩
theorem valid_issue {k : Int} {c : TC} (hk : inB 1 1073741789 k = true) (hc : ckT c = 0) : validT' (isC k c) := by
  rw [isC_in hk hc]
  exact ⟨hc, encK_in (sigE_bd _ _) (sigS_bd _ _)⟩
theorem ecK_issue {k : Int} {c : TC} (hk : inB 1 1073741789 k = true) (hc : ckT c = 0) : ecK (isC k c) = 0 := ecK_valid.2 (valid_issue hk hc)
theorem vf_one (c : TC) : vfB 1 c = false := by
  unfold vfB
  split
  · exact verB_p isElem_one
  · rfl
noncomputable def dtC (b : List UInt8) : TC := (decT b).getD zeroT
noncomputable def dtK (b : List UInt8) : Int := match decT b with
  | none => 1
  | some _ => 0
theorem dt_none {b : List UInt8} (h : decT b = none) : dtC b = zeroT ∧ dtK b = 1 := by unfold dtC dtK; rw [h]; exact ⟨rfl, rfl⟩
theorem dt_some {b : List UInt8} {c : TC} (h : decT b = some c) : dtC b = c ∧ dtK b = 0 := by unfold dtC dtK; rw [h]; exact ⟨rfl, rfl⟩
theorem dt_of {c : TC} (h : validT' c) : dtC (ecB c) = c ∧ dtK (ecB c) = 0 := by
  unfold ecB
  rw [if_pos (ecK_valid.2 h)]
  exact dt_some (decT_of h)
theorem byB_len (c : TC) : (byB c).length ≤ 200 := by
  unfold byB
  split
  · rename_i h
    obtain ⟨⟨a1, _⟩, ⟨a2, _⟩, _⟩ := ckT_ok h
    exact bodyB_len a1.2 a2.2
  · simp
theorem ecB_len (c : TC) : (ecB c).length ≤ 200 := by
  unfold ecB
  split
  · rename_i h
    obtain ⟨⟨a1, _⟩, ⟨a2, _⟩, _⟩ := ckT_ok (ecK_valid.1 h).1
    exact tcB_len a1.2 a2.2
  · simp
/-- What an extraction that knows certificates makes of bytes. -/
theorem dt_by {x : List Nd → Option TC} (hx : ∀ c, validT' c → x [certT c] = some c) (b : List UInt8) :
    (∀ ts n c, objsP 1 0 b = some (ts, n) → x ts = some c → ecK c = 0 → ecB c = b → dtC b = c ∧ dtK b = 0) ∧
    (∀ ts n c, objsP 1 0 b = some (ts, n) → x ts = some c → ¬ (ecK c = 0 ∧ ecB c = b) → dtC b = zeroT ∧ dtK b = 1) ∧
    (∀ ts n, objsP 1 0 b = some (ts, n) → x ts = none → dtC b = zeroT ∧ dtK b = 1) ∧ (objsP 1 0 b = none → dtC b = zeroT ∧ dtK b = 1) := by
  have h := decT_by hx b
  refine ⟨fun ts n c h1 h2 h3 h4 => ?_, fun ts n c h1 h2 h3 => ?_, fun ts n h1 h2 => ?_, fun h1 => ?_⟩
  · rw [h1] at h
    simp only [h2] at h
    have h5 : tcB c = b := by unfold ecB at h4; rwa [if_pos h3] at h4
    rw [if_pos ⟨ecK_valid.1 h3, h5⟩] at h
    exact dt_some h
  · rw [h1] at h
    simp only [h2] at h
    rw [if_neg (fun q => h3 ⟨ecK_valid.2 q.1, by unfold ecB; rw [if_pos (ecK_valid.2 q.1)]; exact q.2⟩)] at h
    exact dt_none h
  · rw [h1] at h
    simp only [h2] at h
    exact dt_none h
  · rw [h1] at h
    exact dt_none h
end Go.Proofs.YtkjplpmogfmhkaaGreatDoor

namespace Go.Proofs.YtkjplpmogfmhkaaGreatDoor
open Go.RowKit
set_option linter.unusedVariables false
set_option maxRecDepth 100000

theorem nameP_no_short {l : List UInt8} (h : l.length < 1) : decide (nameP l) = false := decide_eq_false fun q => by have := q.1.1; omega
theorem nameP_no_long {l : List UInt8} (h : 16 < l.length) : decide (nameP l) = false := decide_eq_false fun q => by have := q.1.2; omega
theorem nameP_no_head {l : List UInt8} (h : ¬ upI (byteI l 0)) : decide (nameP l) = false := decide_eq_false fun q => h q.2.1
theorem nameP_no_at {l : List UInt8} (i : Nat) (hi : i < l.length) (h : ¬ (upI (byteI l i) ∨ dgI (byteI l i))) : decide (nameP l) = false := decide_eq_false fun q => h (q.2.2 i hi)
theorem nameP_yes {l : List UInt8} (h1 : 1 ≤ l.length) (h2 : l.length ≤ 16) (h3 : upI (byteI l 0)) (h4 : ∀ i, i < l.length → upI (byteI l i) ∨ dgI (byteI l i)) : decide (nameP l) = true := decide_eq_true ⟨⟨h1, h2⟩, h3, h4⟩
theorem byteS {s : ByteArray} {k : Nat} (h : k < s.size) : byteI s.data.toList k = (s[k].toNat : Int) := by
  rw [byteI_get (l := s.data.toList) (by simpa using h)]
  rfl
set_option maxHeartbeats 1000000 in
theorem name_any (s : ByteArray) (w : World) (hs : s.size ≤ maxLen) : Calls Tryz.prog 239 #[.string s] w fun e w' => e = .returned (.bool (decide (nameP s.data.toList))) ∧ w = w' := by
  unfold maxLen at hs
  have hsz : s.data.toList.length = s.size := by simp
  by_cases h1 : s.size < 1
  · have HN := Lib.hid (nameP_no_short (l := s.data.toList) (by omega))
    clear hsz
    go_enter Tryz.func239, Tryz.ntmps239
    go_wp2
    go_ret
    exact ⟨by rw [HN.out]; rfl, rfl⟩
  by_cases h16 : 16 < s.size
  · have HN := Lib.hid (nameP_no_long (l := s.data.toList) (by omega))
    clear hsz
    go_enter Tryz.func239, Tryz.ntmps239
    go_wp2
    go_ret
    exact ⟨by rw [HN.out]; rfl, rfl⟩
  have h0 : 0 < s.size := by omega
  have q0 := byteS h0
  have u0 : (s[0].toNat : Int) < 256 := by have := UInt8.toNat_lt s[0]; omega
  by_cases ha : (s[0].toNat : Int) < 65
  · have HN := Lib.hid (nameP_no_head (l := s.data.toList) (by rw [q0]; unfold upI; omega))
    clear hsz q0
    go_enter Tryz.func239, Tryz.ntmps239
    go_wp2
    go_ret
    exact ⟨by rw [HN.out]; rfl, rfl⟩
  by_cases hb : 90 < (s[0].toNat : Int)
  · have HN := Lib.hid (nameP_no_head (l := s.data.toList) (by rw [q0]; unfold upI; omega))
    clear hsz q0
    go_enter Tryz.func239, Tryz.ntmps239
    go_wp2
    go_ret
    exact ⟨by rw [HN.out]; rfl, rfl⟩
  have HU := Lib.hid (show upI (byteI s.data.toList 0) by rw [q0]; unfold upI; omega)
  have HZ := Lib.hid hsz
  clear hsz q0
  go_enter Tryz.func239, Tryz.ntmps239
  go_wp2
  go_loop [3, 24] (fun _ i => ∃ k : Nat, k ≤ s.size ∧ i = .int .i64 (k : Int) ∧ ∀ j, j < k → upI (byteI s.data.toList j) ∨ dgI (byteI s.data.toList j)) (fun _ i => s.size - (intOf i).toNat)
  case atStart => exact ⟨0, Nat.zero_le _, rfl, fun j hj => absurd hj (by omega)⟩
  case round =>
    obtain ⟨k, hk, rfl, hall⟩ := hrel
    have HA := Lib.hid hall
    clear hall
    by_cases hlt : k < s.size
    · have HQ := Lib.hid (byteS hlt)
      have uk : (s[k].toNat : Int) < 256 := by have := UInt8.toNat_lt s[k]; omega
      have next : upI (s[k].toNat : Int) ∨ dgI (s[k].toNat : Int) → ∀ j, j < k + 1 → upI (byteI s.data.toList j) ∨ dgI (byteI s.data.toList j) := fun h j hj => by
        by_cases hjk : j < k
        · exact HA.out j hjk
        · obtain rfl : j = k := by omega
          rw [HQ.out]; exact h
      have NX := Lib.hid next
      have bad : ¬ (upI (s[k].toNat : Int) ∨ dgI (s[k].toNat : Int)) → decide (nameP s.data.toList) = false := fun h => nameP_no_at k (by rw [HZ.out]; exact hlt) (by rw [HQ.out]; exact h)
      have BD := Lib.hid bad
      clear next bad
      by_cases c1 : (s[k].toNat : Int) < 65
      · by_cases c2 : (s[k].toNat : Int) < 48
        · have HN := Lib.hid (BD.out (by unfold upI dgI; omega))
          go_wp2
          go_ret
          exact ⟨by rw [HN.out]; rfl, rfl⟩
        · by_cases c3 : 57 < (s[k].toNat : Int)
          · have HN := Lib.hid (BD.out (by unfold upI dgI; omega))
            go_wp2
            go_ret
            exact ⟨by rw [HN.out]; rfl, rfl⟩
          · have HN := Lib.hid (NX.out (by unfold upI dgI; omega))
            go_wp2
            go_round
            case rel => exact ⟨k + 1, by omega, by go_num, HN.out⟩
            case measure => simp [intOf]; omega
      · by_cases c2 : 90 < (s[k].toNat : Int)
        · have HN := Lib.hid (BD.out (by unfold upI dgI; omega))
          go_wp2
          go_ret
          exact ⟨by rw [HN.out]; rfl, rfl⟩
        · have HN := Lib.hid (NX.out (by unfold upI dgI; omega))
          go_wp2
          go_round
          case rel => exact ⟨k + 1, by omega, by go_num, HN.out⟩
          case measure => simp [intOf]; omega
    · obtain rfl : k = s.size := by omega
      have HN := Lib.hid (nameP_yes (l := s.data.toList) (by rw [HZ.out]; omega) (by rw [HZ.out]; omega) HU.out (fun i hi => HA.out i (by rw [← HZ.out]; exact hi)))
      go_wp2
      go_ret
      exact ⟨by rw [HN.out]; rfl, rfl⟩
/-- How far the reference has come. -/
def nmTo (l : List UInt8) (k : Nat) : Prop := (∀ j, j < k → upI (byteI l j) ∨ dgI (byteI l j)) ∧ (0 < k → upI (byteI l 0))
set_option maxHeartbeats 1000000 in
theorem refname_any (s : ByteArray) (w : World) (hs : s.size ≤ maxLen) : Calls Tryz.prog 183 #[.string s] w fun e w' => e = .returned (.bool (decide (nameP s.data.toList))) ∧ w = w' := by
  unfold maxLen at hs
  have hsz : s.data.toList.length = s.size := by simp
  have HZ := Lib.hid hsz
  clear hsz
  go_enter Tryz.func183, Tryz.ntmps183
  go_wp2
  go_loop [3, 4] (fun i _ => ∃ k : Nat, k ≤ s.size ∧ i = .int .i64 (k : Int) ∧ nmTo s.data.toList k) (fun i _ => s.size - (intOf i).toNat)
  case atStart => exact ⟨0, Nat.zero_le _, rfl, fun j hj => absurd hj (by omega), fun h => absurd h (by omega)⟩
  case round =>
    obtain ⟨k, hk, rfl, hall⟩ := hrel
    have HA := Lib.hid hall
    clear hall
    by_cases hlt : k < s.size
    · have HQ := Lib.hid (byteS hlt)
      have uk : (s[k].toNat : Int) < 256 := by have := UInt8.toNat_lt s[k]; omega
      have NX := Lib.hid (fun (h : upI (s[k].toNat : Int) ∨ (0 < k ∧ dgI (s[k].toNat : Int))) => (⟨fun j hj => by
        by_cases hjk : j < k
        · exact HA.out.1 j hjk
        · obtain rfl : j = k := by omega
          rw [HQ.out]; exact h.elim .inl (fun q => .inr q.2), fun _ => by
        by_cases h0 : 0 < k
        · exact HA.out.2 h0
        · obtain rfl : k = 0 := by omega
          rw [HQ.out]
          exact h.resolve_right fun q => absurd q.1 (by omega)⟩ : nmTo s.data.toList (k + 1)))
      have B1 := Lib.hid (fun (h : ¬ (upI (s[k].toNat : Int) ∨ dgI (s[k].toNat : Int))) => nameP_no_at (l := s.data.toList) k (by rw [HZ.out]; exact hlt) (by rw [HQ.out]; exact h))
      by_cases c1 : 65 ≤ (s[k].toNat : Int)
      · by_cases c2 : (s[k].toNat : Int) ≤ 90
        · have HN := Lib.hid (NX.out (.inl ⟨c1, c2⟩))
          go_wp2
          go_round
          case rel => exact ⟨k + 1, by omega, by go_num, HN.out⟩
          case measure => simp [intOf]; omega
        · have HN := Lib.hid (B1.out (by unfold upI dgI; omega))
          by_cases h0 : k = 0
          · subst h0
            go_wp2
            go_ret
            exact ⟨by rw [HN.out]; rfl, rfl⟩
          · go_wp2
            go_ret
            exact ⟨by rw [HN.out]; rfl, rfl⟩
      · by_cases h0 : k = 0
        · subst h0
          have HN := Lib.hid (nameP_no_head (l := s.data.toList) (by rw [HQ.out]; unfold upI; omega))
          go_wp2
          go_ret
          exact ⟨by rw [HN.out]; rfl, rfl⟩
        · by_cases c3 : (s[k].toNat : Int) < 48
          · have HN := Lib.hid (B1.out (by unfold upI dgI; omega))
            go_wp2
            go_ret
            exact ⟨by rw [HN.out]; rfl, rfl⟩
          · by_cases c4 : 57 < (s[k].toNat : Int)
            · have HN := Lib.hid (B1.out (by unfold upI dgI; omega))
              go_wp2
              go_ret
              exact ⟨by rw [HN.out]; rfl, rfl⟩
            · have HN := Lib.hid (NX.out (.inr ⟨by omega, by unfold dgI; omega⟩))
              go_wp2
              go_round
              case rel => exact ⟨k + 1, by omega, by go_num, HN.out⟩
              case measure => simp [intOf]; omega
    · obtain rfl : k = s.size := by omega
      by_cases h1 : 1 ≤ s.size
      · by_cases h2 : s.size ≤ 16
        · have HN := Lib.hid ((nameP_yes (l := s.data.toList) (by rw [HZ.out]; omega) (by rw [HZ.out]; omega) (HA.out.2 (by omega)) (fun i hi => HA.out.1 i (by rw [← HZ.out]; exact hi))).trans (decide_eq_true (show (s.size : Int) ≤ 16 by omega)).symm)
          go_wp2
          go_ret
          exact ⟨by rw [HN.out]; rfl, rfl⟩
        · have HN := Lib.hid ((nameP_no_long (l := s.data.toList) (by rw [HZ.out]; omega)).trans (decide_eq_false (show ¬ (s.size : Int) ≤ 16 by omega)).symm)
          go_wp2
          go_ret
          exact ⟨by rw [HN.out]; rfl, rfl⟩
      · have HN := Lib.hid (nameP_no_short (l := s.data.toList) (by rw [HZ.out]; omega))
        go_wp2
        go_ret
        exact ⟨by rw [HN.out]; rfl, rfl⟩
theorem name_tc (l : List UInt8) (w : World) (hl : l.length ≤ 4096) : Calls Tryz.prog 239 #[.string (bstr l)] w fun e w' => e = .returned (.bool (decide (nameP l))) ∧ w = w' :=
  name_any (bstr l) w (by show l.toArray.size ≤ _; unfold maxLen; simp; omega)
theorem refname_tc (l : List UInt8) (w : World) (hl : l.length ≤ 4096) : Calls Tryz.prog 183 #[.string (bstr l)] w fun e w' => e = .returned (.bool (decide (nameP l))) ∧ w = w' :=
  refname_any (bstr l) w (by show l.toArray.size ≤ _; unfold maxLen; simp; omega)
theorem days_any (fr to : Int) (w : World) : Calls Tryz.prog 241 #[.int .i64 fr, .int .i64 to] w fun e w' => e = .returned (.bool (decide (daysP fr to))) ∧ w = w' := by
  by_cases h1 : 0 ≤ fr
  · by_cases h2 : fr ≤ to
    · have HN := Lib.hid (show decide (daysP fr to) = decide (to ≤ 73048) from decide_eq_decide.2 ⟨fun h => h.2.2, fun h => ⟨h1, h2, h⟩⟩)
      go_enter Tryz.func241, Tryz.ntmps241
      go_wp2
      go_ret
      exact ⟨by rw [HN.out]; rfl, rfl⟩
    · have HN := Lib.hid (show decide (daysP fr to) = false from decide_eq_false fun h => h2 h.2.1)
      go_enter Tryz.func241, Tryz.ntmps241
      go_wp2
      go_ret
      exact ⟨by rw [HN.out]; rfl, rfl⟩
  · have HN := Lib.hid (show decide (daysP fr to) = false from decide_eq_false fun h => h1 h.1)
    go_enter Tryz.func241, Tryz.ntmps241
    go_wp2
    go_ret
    exact ⟨by rw [HN.out]; rfl, rfl⟩
def dayP (x : Int) : Prop := 0 ≤ x ∧ x ≤ 73048
instance (x : Int) : Decidable (dayP x) := inferInstanceAs (Decidable (_ ∧ _))
theorem refday_any (x : Int) (w : World) : Calls Tryz.prog 185 #[.int .i64 x] w fun e w' => e = .returned (.bool (decide (dayP x))) ∧ w = w' := by
  by_cases h1 : 0 ≤ x
  · have HN := Lib.hid (show decide (dayP x) = decide (x ≤ 73048) from decide_eq_decide.2 ⟨fun h => h.2, fun h => ⟨h1, h⟩⟩)
    go_enter Tryz.func185, Tryz.ntmps185
    go_wp2
    go_ret
    exact ⟨by rw [HN.out]; rfl, rfl⟩
  · have HN := Lib.hid (show decide (dayP x) = false from decide_eq_false fun h => h1 h.1)
    go_enter Tryz.func185, Tryz.ntmps185
    go_wp2
    go_ret
    exact ⟨by rw [HN.out]; rfl, rfl⟩
end Go.Proofs.YtkjplpmogfmhkaaGreatDoor

namespace Go.Proofs.YtkjplpmogfmhkaaGreatDoor
open Go.RowKit
set_option linter.unusedVariables false
set_option maxRecDepth 100000

def smT (c : TC) : Prop := c.au.length ≤ 4096 ∧ c.ho.length ≤ 4096
theorem ck_au {c : TC} (h : ¬ nameP c.au) : ckT c = 60 := if_pos (.inl h)
theorem ck_ho {c : TC} (h : ¬ nameP c.ho) : ckT c = 60 := if_pos (.inr h)
theorem ck_el {c : TC} (h1 : nameP c.au) (h2 : nameP c.ho) (h3 : isElem c.key = false) : ckT c = 10 := by
  unfold ckT; rw [if_neg (by simp [h1, h2]), if_pos h3]
theorem ck_ro {c : TC} (h1 : nameP c.au) (h2 : nameP c.ho) (h3 : isElem c.key = true) (h4 : c.role < 1 ∨ 4 < c.role) : ckT c = 61 := by
  unfold ckT; rw [if_neg (by simp [h1, h2]), if_neg (by simp [h3]), if_pos h4]
theorem ck_ri {c : TC} (h1 : nameP c.au) (h2 : nameP c.ho) (h3 : isElem c.key = true) (h4 : ¬ (c.role < 1 ∨ 4 < c.role)) (h5 : c.rights < 0 ∨ 65535 < c.rights) : ckT c = 62 := by
  unfold ckT; rw [if_neg (by simp [h1, h2]), if_neg (by simp [h3]), if_neg h4, if_pos h5]
theorem ck_da {c : TC} (h1 : nameP c.au) (h2 : nameP c.ho) (h3 : isElem c.key = true) (h4 : ¬ (c.role < 1 ∨ 4 < c.role)) (h5 : ¬ (c.rights < 0 ∨ 65535 < c.rights)) (h6 : ¬ daysP c.fr c.to) : ckT c = 8 := by
  unfold ckT; rw [if_neg (by simp [h1, h2]), if_neg (by simp [h3]), if_neg h4, if_neg h5, if_pos h6]
theorem ck_ok {c : TC} (h1 : nameP c.au) (h2 : nameP c.ho) (h3 : isElem c.key = true) (h4 : ¬ (c.role < 1 ∨ 4 < c.role)) (h5 : ¬ (c.rights < 0 ∨ 65535 < c.rights)) (h6 : daysP c.fr c.to) : ckT c = 0 := by
  unfold ckT; rw [if_neg (by simp [h1, h2]), if_neg (by simp [h3]), if_neg h4, if_neg h5, if_neg (by simp [h6])]
set_option maxHeartbeats 1000000 in
theorem checkP_any (c : TC) (w : World) (hs : smT c) : Calls Tryz.prog 186 #[tcV c] w (RetQ w (.int .i64 (ckT c))) := by
  obtain ⟨ha, hh⟩ := hs
  have x0 : Ext w (w.alloc (.cells #[.string (bstr c.au), .string (bstr c.ho), .int .i64 c.key, .int .i64 c.role, .int .i64 c.rights, .int .i64 c.fr, .int .i64 c.to, .int .i64 c.e, .int .i64 c.s] 35)) := (Below.refl _ _).alloc (Nat.le_refl _) _
  unfold tcV
  go_enter Tryz.func186, Tryz.ntmps186
  go_wp2_with fail
  refine (name_tc _ _ ha).mono ?_
  rintro e w' ⟨rfl, rfl⟩
  by_cases nA : nameP c.au
  · rw [decide_eq_true nA]
    go_wp2_with fail
    refine (name_tc _ _ hh).mono ?_
    rintro e w' ⟨rfl, rfl⟩
    by_cases nH : nameP c.ho
    · rw [decide_eq_true nH]
      go_wp2_with fail
      refine (element_any _ _).mono ?_
      rintro e w' ⟨rfl, rfl⟩
      cases hE : isElem c.key with
      | false =>
        have HN := Lib.hid (ck_el nA nH hE)
        go_wp2_with fail
        go_ret
        exact ⟨by rw [HN.out]; rfl, x0⟩
      | true =>
        by_cases r1 : c.role < 1
        · have HN := Lib.hid (ck_ro nA nH hE (.inl r1))
          go_wp2_with fail
          go_ret
          exact ⟨by rw [HN.out]; rfl, x0⟩
        by_cases r2 : 4 < c.role
        · have HN := Lib.hid (ck_ro nA nH hE (.inr r2))
          go_wp2_with fail
          go_ret
          exact ⟨by rw [HN.out]; rfl, x0⟩
        have hr : ¬ (c.role < 1 ∨ 4 < c.role) := by omega
        have HR := Lib.hid hr
        clear hr
        by_cases s1 : c.rights < 0
        · have HN := Lib.hid (ck_ri nA nH hE HR.out (.inl s1))
          go_wp2_with fail
          go_ret
          exact ⟨by rw [HN.out]; rfl, x0⟩
        by_cases s2 : 65535 < c.rights
        · have HN := Lib.hid (ck_ri nA nH hE HR.out (.inr s2))
          go_wp2_with fail
          go_ret
          exact ⟨by rw [HN.out]; rfl, x0⟩
        have hr : ¬ (c.rights < 0 ∨ 65535 < c.rights) := by omega
        have HS := Lib.hid hr
        clear hr
        go_wp2_with fail
        refine (days_any _ _ _).mono ?_
        rintro e w' ⟨rfl, rfl⟩
        by_cases dD : daysP c.fr c.to
        · rw [decide_eq_true dD]
          have HN := Lib.hid (ck_ok nA nH hE HR.out HS.out dD)
          go_wp2_with fail
          go_ret
          exact ⟨by rw [HN.out]; rfl, x0⟩
        · rw [decide_eq_false dD]
          have HN := Lib.hid (ck_da nA nH hE HR.out HS.out dD)
          go_wp2_with fail
          go_ret
          exact ⟨by rw [HN.out]; rfl, x0⟩
    · rw [decide_eq_false nH]
      have HN := Lib.hid (ck_ho nH)
      go_wp2_with fail
      go_ret
      exact ⟨by rw [HN.out]; rfl, x0⟩
  · rw [decide_eq_false nA]
    have HN := Lib.hid (ck_au nA)
    go_wp2_with fail
    go_ret
    exact ⟨by rw [HN.out]; rfl, x0⟩
set_option maxHeartbeats 1000000 in
theorem checkR_any (c : TC) (w : World) (hs : smT c) : Calls Tryz.prog 191 #[tcV c] w (RetQ w (.int .i64 (ckT c))) := by
  obtain ⟨ha, hh⟩ := hs
  have x0 : Ext w (w.alloc (.cells #[.string (bstr c.au), .string (bstr c.ho), .int .i64 c.key, .int .i64 c.role, .int .i64 c.rights, .int .i64 c.fr, .int .i64 c.to, .int .i64 c.e, .int .i64 c.s] 35)) := (Below.refl _ _).alloc (Nat.le_refl _) _
  unfold tcV
  go_enter Tryz.func191, Tryz.ntmps191
  go_wp2_with fail
  refine (refname_tc _ _ ha).mono ?_
  rintro e w' ⟨rfl, rfl⟩
  by_cases nA : nameP c.au
  · rw [decide_eq_true nA]
    go_wp2_with fail
    refine (refname_tc _ _ hh).mono ?_
    rintro e w' ⟨rfl, rfl⟩
    by_cases nH : nameP c.ho
    · rw [decide_eq_true nH]
      go_wp2_with fail
      refine (refelement_any _ _).mono ?_
      rintro e w' ⟨rfl, rfl⟩
      cases hE : isElem c.key with
      | false =>
        have HN := Lib.hid (ck_el nA nH hE)
        go_wp2_with fail
        go_ret
        exact ⟨by rw [HN.out]; rfl, x0⟩
      | true =>
        by_cases r1 : c.role < 1
        · have HN := Lib.hid (ck_ro nA nH hE (.inl r1))
          go_wp2_with fail
          go_ret
          exact ⟨by rw [HN.out]; rfl, x0⟩
        by_cases r2 : 4 < c.role
        · have HN := Lib.hid (ck_ro nA nH hE (.inr r2))
          go_wp2_with fail
          go_ret
          exact ⟨by rw [HN.out]; rfl, x0⟩
        have hr : ¬ (c.role < 1 ∨ 4 < c.role) := by omega
        have HR := Lib.hid hr
        clear hr
        by_cases s1 : c.rights < 0
        · have HN := Lib.hid (ck_ri nA nH hE HR.out (.inl s1))
          go_wp2_with fail
          go_ret
          exact ⟨by rw [HN.out]; rfl, x0⟩
        by_cases s2 : 65535 < c.rights
        · have HN := Lib.hid (ck_ri nA nH hE HR.out (.inr s2))
          go_wp2_with fail
          go_ret
          exact ⟨by rw [HN.out]; rfl, x0⟩
        have hr : ¬ (c.rights < 0 ∨ 65535 < c.rights) := by omega
        have HS := Lib.hid hr
        clear hr
        go_wp2_with fail
        refine (refday_any _ _).mono ?_
        rintro e w' ⟨rfl, rfl⟩
        by_cases d1 : dayP c.fr
        · rw [decide_eq_true d1]
          go_wp2_with fail
          refine (refday_any _ _).mono ?_
          rintro e w' ⟨rfl, rfl⟩
          by_cases d2 : dayP c.to
          · rw [decide_eq_true d2]
            by_cases d3 : c.to < c.fr
            · have HN := Lib.hid (ck_da nA nH hE HR.out HS.out (fun q => by have := q.2.1; omega))
              go_wp2_with fail
              go_ret
              exact ⟨by rw [HN.out]; rfl, x0⟩
            · have HN := Lib.hid (ck_ok nA nH hE HR.out HS.out ⟨d1.1, by omega, d2.2⟩)
              go_wp2_with fail
              go_ret
              exact ⟨by rw [HN.out]; rfl, x0⟩
          · rw [decide_eq_false d2]
            have HN := Lib.hid (ck_da nA nH hE HR.out HS.out (fun q => d2 ⟨by have := q.1; have := q.2.1; omega, q.2.2⟩))
            go_wp2_with fail
            go_ret
            exact ⟨by rw [HN.out]; rfl, x0⟩
        · rw [decide_eq_false d1]
          have HN := Lib.hid (ck_da nA nH hE HR.out HS.out (fun q => d1 ⟨q.1, by have := q.2.1; have := q.2.2; omega⟩))
          go_wp2_with fail
          go_ret
          exact ⟨by rw [HN.out]; rfl, x0⟩
    · rw [decide_eq_false nH]
      have HN := Lib.hid (ck_ho nH)
      go_wp2_with fail
      go_ret
      exact ⟨by rw [HN.out]; rfl, x0⟩
  · rw [decide_eq_false nA]
    have HN := Lib.hid (ck_au nA)
    go_wp2_with fail
    go_ret
    exact ⟨by rw [HN.out]; rfl, x0⟩
end Go.Proofs.YtkjplpmogfmhkaaGreatDoor

namespace Go.Proofs.YtkjplpmogfmhkaaGreatDoor
open Go.RowKit
set_option linter.unusedVariables false
set_option maxRecDepth 100000

def elB (x : Int) : List UInt8 := if isElem x = true then be4 x else []
def elK (x : Int) : Int := if isElem x = true then 0 else 10
theorem gencode_any (x : Int) (w : World) : Calls Tryz.prog 252 #[.int .i64 x] w (RetBE w (elB x) (elK x)) := by
  cases h : isElem x with
  | true =>
    obtain ⟨x0, x1⟩ := isElem_in h
    unfold elB elK
    rw [if_pos h, if_pos h]
    go_enter Tryz.func252, Tryz.ntmps252
    go_wp2_with fail
    refine (element_any x _).mono ?_
    rintro e w' ⟨rfl, rfl⟩
    rw [h]
    go_wp2_with fail
    refine (oct4_any x _ (by omega) (by omega)).mono ?_
    rintro e w2 ⟨A, n, c, rfl, hn, o, b⟩
    go_wp2_with fail
    go_ret2
    exact ⟨_, _, _, rfl, hn, o, b⟩
  | false =>
    unfold elB elK
    rw [if_neg (by simp [h]), if_neg (by simp [h])]
    go_enter Tryz.func252, Tryz.ntmps252
    go_wp2_with fail
    refine (element_any x _).mono ?_
    rintro e w' ⟨rfl, rfl⟩
    rw [h]
    go_wp2_with fail
    go_ret2
    exact ⟨_, _, _, rfl, (show _ = _ from rfl), Own.nil_ _ _ _, Below.refl _ _⟩
theorem refgencode_any (x : Int) (w : World) : Calls Tryz.prog 256 #[.int .i64 x] w (RetBE w (elB x) (elK x)) := by
  cases h : isElem x with
  | true =>
    unfold elB elK
    rw [if_pos h, if_pos h]
    go_enter Tryz.func256, Tryz.ntmps256
    go_wp2_with fail
    refine (refelement_any x _).mono ?_
    rintro e w' ⟨rfl, rfl⟩
    rw [h]
    go_wp2_with fail
    refine (four_any x _).mono ?_
    rintro e w2 ⟨A, n, c, rfl, hn, o, b⟩
    go_wp2_with fail
    go_ret2
    exact ⟨_, _, _, rfl, hn, o, b⟩
  | false =>
    unfold elB elK
    rw [if_neg (by simp [h]), if_neg (by simp [h])]
    go_enter Tryz.func256, Tryz.ntmps256
    go_wp2_with fail
    refine (refelement_any x _).mono ?_
    rintro e w' ⟨rfl, rfl⟩
    rw [h]
    go_wp2_with fail
    go_ret2
    exact ⟨_, _, _, rfl, (show _ = _ from rfl), Own.nil_ _ _ _, Below.refl _ _⟩
def gdOk (l : List UInt8) : Prop := l.length = 4 ∧ isElem (num l) = true
instance (l : List UInt8) : Decidable (gdOk l) := inferInstanceAs (Decidable (_ ∧ _))
def gdV (l : List UInt8) : Int := if gdOk l then num l else 0
def gdK (l : List UInt8) : Int := if gdOk l then 0 else if l.length = 4 then 10 else 2
end Go.Proofs.YtkjplpmogfmhkaaGreatDoor

namespace Go.Proofs.YtkjplpmogfmhkaaGreatDoor
open Go.RowKit
set_option linter.unusedVariables false
set_option maxRecDepth 100000

theorem bvs_be3 (x : Int) : bvs (be3 x) = [.int .u8 (x / 65536 % 256), .int .u8 (x / 256 % 256), .int .u8 (x % 256)] := by
  simp [bvs, be3, bv_u8]
theorem three_any (x : Int) (w : World) : Calls Tryz.prog 284 #[.int .i64 x] w (RetB w (be3 x)) := by
  go_enter Tryz.func284, Tryz.ntmps284
  go_wp2
  go_ret
  refine ⟨_, _, _, rfl, (show _ = _ from rfl), ?_, (Below.refl _ _).alloc (Nat.le_refl _) _⟩
  rw [bvs_be3]
  exact Own.lit w _ _ 3 rfl (by unfold maxLen; omega)
/-- A number in so many bytes. -/
def beN : Nat → Int → List UInt8
  | 0, _ => []
  | k + 1, x => beN k (x / 256) ++ [u8 x]
theorem beN_len : ∀ (k : Nat) (x : Int), (beN k x).length = k
  | 0, _ => rfl
  | k + 1, x => by rw [beN, List.length_append, beN_len k]; rfl
theorem beN_1 (x : Int) : beN 1 x = [u8 x] := rfl
theorem beN_2 (x : Int) : beN 2 x = [u8 (x / 256), u8 x] := rfl
theorem beN_3 (x : Int) : beN 3 x = be3 x := by
  show [u8 (x / 256 / 256), u8 (x / 256), u8 x] = _
  rw [show x / 256 / 256 = x / 65536 by omega]
  rfl
theorem beN_4 (x : Int) : beN 4 x = be4 x := by
  show [u8 (x / 256 / 256 / 256), u8 (x / 256 / 256), u8 (x / 256), u8 x] = _
  rw [show x / 256 / 256 / 256 = x / 16777216 by omega, show x / 256 / 256 = x / 65536 by omega]
  rfl
theorem set_rep (v : UInt8) (T : List UInt8) : ∀ k : Nat, (List.replicate (k + 1) 0 ++ T).set k v = List.replicate k 0 ++ v :: T
  | 0 => rfl
  | k + 1 => by
    rw [List.replicate_succ, List.cons_append, List.set_cons_succ, set_rep v T k, List.replicate_succ (n := k)]
    rfl
theorem u8_mod (x : Int) : u8 (x % 256) = u8 x := by unfold u8; rw [Int.emod_emod]
/-- Where the loop of Bytes stands. -/
def BnL (w : World) (size : Nat) (x : Int) (n i : Value) (wr : World) : Prop :=
  ∃ (k : Nat) (y : Int) (T : List UInt8), k ≤ size ∧ i = .int .i64 ((k : Int) - 1) ∧ n = .int .i64 y ∧ 0 ≤ y ∧ y < 9223372036854775808 ∧ beN k y ++ T = beN size x ∧ Bk wr w.heap.size (List.replicate k 0 ++ T) ∧ Below w.heap.size w wr
set_option maxHeartbeats 1000000 in
theorem refbytes_full (size : Nat) (x z : Int) (w : World) (h0 : 0 ≤ x) (h1 : x < 9223372036854775808) (hz : z = (size : Int)) (hs : size ≤ 100) : Calls Tryz.prog 153 #[.int .i64 x, .int .i64 z] w fun e w' => ∃ A, e = .returned (.slice A size size) ∧ Own w' w.heap.size 5 (.slice A size size) (bvs (beN size x)) ∧ Ext w w' := by
  subst hz
  go_enter Tryz.func153, Tryz.ntmps153
  go_wp2_with (refine makeB size _ rfl rfl rfl rfl rfl (by omega) (Below.refl _ _) (Nat.le_refl _) ?_; intro w1 k1 b1 x1)
  have R0 : BnL w size x (.int .i64 x) (.int .i64 ((size : Int) - 1)) w1 := ⟨size, x, [], Nat.le_refl _, rfl, rfl, h0, h1, List.append_nil _, by rw [List.append_nil]; exact k1, b1⟩
  have R0' := Lib.hid R0
  clear R0 k1 b1 x1
  go_loopw [0, 6] (fun n i wr => BnL w size x n i wr) (fun _ i _ => (intOf i + 1).toNat)
  case atStart => exact R0'.out
  case round =>
    obtain ⟨k, y, T, hk, rfl, rfl, y0, y1, hT, kb, bb⟩ := hrel
    have HT := Lib.hid hT
    have HB := Lib.hid kb
    clear hT kb
    match k, hk, HT, HB with
    | 0, hk, HT, HB =>
      have e : T = beN size x := by have := HT.out; simpa [beN] using this
      subst e
      rw [show ((0 : Nat) : Int) - 1 = -1 from rfl]
      have ho := HB.out.own (B := w.heap.size) (Nat.le_refl _) (by simp [beN_len]; unfold maxLen; omega)
      simp only [List.replicate_zero, List.nil_append, beN_len] at ho
      have HO := Lib.hid ho
      clear ho
      go_wp2
      go_ret
      exact ⟨_, rfl, HO.out, bb⟩
    | k + 1, hk, HT, HB =>
      rw [show ((k + 1 : Nat) : Int) - 1 = (k : Int) by omega]
      have hc := HB.out.cell (j := k) (by simp; omega)
      have hf := HB.out.frozen k
      have wi1 : IntKind.i64.wrap ((k : Int)) = (k : Int) := IntWalk.i64_in _ (by omega)
      have zi1 : (0 : Int) ≤ (k : Int) := by omega
      have li1 : (k : Int) < (size : Int) := by omega
      have ti1 : ((k : Int)).toNat = k := by omega
      have d0 : 0 ≤ y / 256 := by omega
      have d1 : y / 256 < 9223372036854775808 := by omega
      go_wp2
      go_roundw
      case rel =>
        refine ⟨k, y / 256, u8 y :: T, by omega, rfl, rfl, d0, d1, ?_, ?_, bb.setCell (p := ⟨w.heap.size, k, none⟩) (Nat.le_refl _) _⟩
        · have := HT.out
          rw [beN, List.append_assoc] at this
          exact this
        · have := HB.out.set k (y % 256) (by omega) (by omega)
          rw [set_rep, u8_mod] at this
          exact this
      case measure => simp [intOf]
theorem refbytes_any (size : Nat) (x z : Int) (w : World) (h0 : 0 ≤ x) (h1 : x < 9223372036854775808) (hz : z = (size : Int)) (hs : size ≤ 100) : Calls Tryz.prog 153 #[.int .i64 x, .int .i64 z] w (RetB w (beN size x)) :=
  (refbytes_full size x z w h0 h1 hz hs).mono fun e w' ⟨A, h1, h2, h3⟩ => ⟨_, _, _, h1, (show _ = _ by rw [beN_len]), h2, h3⟩
theorem leaf_any (t : Int) (A : Option Addr) (n c : Nat) (w : World) : Calls Tryz.prog 152 #[.int .i64 t, .slice A n c] w (RetQ w (.agg #[.int .i64 t, .slice A n c, .slice none 0 0])) := by
  go_enter Tryz.func152, Tryz.ntmps152
  go_wp2_with fail
  refine bodyPost_ret (v := .agg #[.int .i64 t, .slice A n c, .slice none 0 0]) ?_ rfl ⟨rfl, ?_⟩
  · simp [results, Tryz.results152, go_sem]
  · exact (Below.refl _ _).alloc (Nat.le_refl _) _
/-- []byte(s): new bytes. -/
theorem run_strBytes (W : World) (l : List UInt8) (hl : l.length ≤ 4096) : ∃ A n c w', (convert 9 89 (.string (bstr l))).run Tryz.prog W = .ok (.slice A n c) w' ∧ Ext W w' ∧ Hid (n = l.length) ∧ RdS (fun b => W.heap.size ≤ b) w' (.slice A n c) (bvs l) := by
  have hsz : (bstr l).size = l.length := by show l.toArray.size = _; simp
  refine ⟨_, _, _, _, Lib.run_convert_string_bytes W 9 89 5 (bstr l) Tryz.underlying9 Tryz.underlying89 Tryz.underlying5, ?_, (show _ = _ from hsz), ?_⟩
  · exact ⟨by simp [Lib.bytesWorld, World.freeze, World.alloc, World.drew, -World.alloc_eq, -World.drew_eq], by simp [Lib.bytesWorld, World.freeze, World.alloc, World.drew, -World.alloc_eq, -World.drew_eq], by simp [Lib.bytesWorld, World.freeze, World.alloc, World.drew, -World.alloc_eq, -World.drew_eq], by rw [Lib.bytesWorld_size]; omega, fun k hk => Lib.bytesWorld_at_old _ _ _ _ hk⟩
  · refine ⟨_, _, _, rfl, by rw [bvs_length]; exact hsz, grownCap_ge _ _ _ _, grownCap_le_maxLen _ _ _ _ (by unfold maxLen; omega), fun _ => ⟨_, 0, rfl, Nat.le_refl _, fun j u hu => ?_⟩⟩
    obtain ⟨hj, rfl⟩ := bvs_get hu
    rw [Nat.zero_add, Lib.bytesWorld_cell _ _ _ _ (by rw [hsz]; exact hj)]
    congr 2
    simp [bstr, List.getD_eq_getElem?_getD, hj]
end Go.Proofs.YtkjplpmogfmhkaaGreatDoor

namespace Go.Proofs.YtkjplpmogfmhkaaGreatDoor
open Go Go.RowKit
set_option linter.unusedVariables false

/-- What an operand reads when the holes hold f. -/
def evF (a : Act) (hs : List (Nat × VPred)) (f : Nat → Value) : Operand → Value
  | .tmp t => match hs.lookup t with
    | some _ => f t
    | none => a.eval (.tmp t)
  | x => a.eval x
def okOp (a : Act) : Operand → Bool
  | .tmp t => Nat.blt t a.tmps.size
  | _ => true
theorem evF_fill {a b : Act} {hs : List (Nat × VPred)} {f : Nat → Value} {x : Operand} (hz : b.tmps.size = a.tmps.size) (hb : ∀ (i : Nat) (h1 : i < b.tmps.size) (h2 : i < a.tmps.size), b.tmps[i] = if (hs.lookup i).isSome then f i else a.tmps[i]) (h : okOp a x = true) : b.eval x = evF a hs f x := by
  cases x with
  | tmp t =>
    have h2 : t < a.tmps.size := blt_lt h
    have h1 : t < b.tmps.size := by rw [hz]; exact h2
    have := hb t h1 h2
    unfold evF
    simp only [Act.eval]
    rw [← Array.getElem_eq_getD (h := h1), ← Array.getElem_eq_getD (h := h2), this]
    cases hs.lookup t <;> rfl
  | _ => rfl

namespace Gd
open Go.Proofs.YtkjplpmogfmhkaaGreatDoor.Gd (GRun)
section
variable {P : Program} {ops : Array Oper} {Q : Exit → Act → World → Prop} {w0 : World} {R : Act → World → Prop}
theorem ev_fill {a : Act} {hs : List (Nat × VPred)} {f : Nat → Value} {x : Operand} (h : okOp a x = true) : (fillH a hs f).eval x = evF a hs f x := evF_fill (fillH_size a f hs) (fillH_at a f hs) h
theorem fill_put_size {a : Act} {hs : List (Nat × VPred)} (f : Nat → Value) (n : Nat) (h : Nat.blt n a.tmps.size = true) : n < (fillH a hs f).tmps.size := by rw [fillH_size]; exact blt_lt h
theorem wpX_newL {o : Oper} {rest : List Oper} {a : Act} {hs : List (Nat × VPred)} {d : Nat} (hg : GRun ops o a hs) (g : VPred) (hst : StableP g) (s : (Nat → Value) → Sem Value)
    (hd : o.dst = some d) (hz : Nat.blt d a.tmps.size = true) (hsel : notSelect o = true) (hin : (opTmps o).all (fun t => Nat.blt t a.tmps.size) = true) (he : ∀ f, execOp (fillH a hs f).eval o = (do pure (Next.value (← s f))))
    (h : ∀ (m : Lt w0) (f : Nat → Value), (∀ t p, hs.lookup t = some p → (opTmps o).contains t = true → p (f t) m.1) → ∃ v w'', (s f).run P m.1 = .ok v w'' ∧ Ext m.1 w'' ∧ g v w'')
    (hr : wpX P ops Q w0 R rest (a.put (some d) undef) ((d, g) :: hs)) : wpX P ops Q w0 R (o :: rest) a hs :=
  wpX_useL hg g hst hd hz hsel hin (fun m f hf K hK => by
    obtain ⟨v, w'', h1, h2, h3⟩ := h m f hf
    exact wp_newVal (he f) h1 (hK _ _ (by rw [hd]; show ((fillH a hs f).put (some d) v).defers = _; simp [Act.put, fillH_defers]) ⟨h2, by rw [hd, eval_put_same (fill_put_size f d hz)]; exact h3⟩)) hr
/-- A slice literal. -/
theorem wpX_buildSL {o : Oper} {rest : List Oper} {a : Act} {hs : List (Nat × VPred)} {d : Nat} (hg : GRun ops o a hs) (g : VPred) (hst : StableP g) {t : TypeId} {n : Nat} {ps : Array (Nat × Operand)} (vs : (Nat → Value) → List (Nat × Value))
    (hd : o.dst = some d) (hz : Nat.blt d a.tmps.size = true) (ho : o.op = .buildSlice t n ps) (hin : (opTmps o).all (fun t => Nat.blt t a.tmps.size) = true) (hq : (ps.toList.all fun q => okOp a q.2) = true) (ha : ∀ f, (ps.toList.map fun q => (q.1, evF a hs f q.2)) = vs f)
    (h : ∀ (m : Lt w0) (f : Nat → Value), (∀ t p, hs.lookup t = some p → (opTmps o).contains t = true → p (f t) m.1) → ∃ v w'', (Instr.buildSlice t n (vs f).toArray).run P m.1 = .ok v w'' ∧ Ext m.1 w'' ∧ g v w'')
    (hr : wpX P ops Q w0 R rest (a.put (some d) undef) ((d, g) :: hs)) : wpX P ops Q w0 R (o :: rest) a hs :=
  wpX_newL hg g hst (fun f => Instr.buildSlice t n (vs f).toArray) hd hz (by unfold notSelect; rw [ho]) hin (fun f => by unfold execOp; simp only [ho]; rw [← ha f, List.map_congr_left (fun q hm => by rw [← ev_fill (List.all_eq_true.1 hq q hm)]), ← List.map_toArray, Array.toArray_toList]) h hr
/-- A struct literal. -/
theorem wpX_buildL {o : Oper} {rest : List Oper} {a : Act} {hs : List (Nat × VPred)} {d : Nat} (hg : GRun ops o a hs) (g : VPred) (hst : StableP g) {t : TypeId} {ps : Array (Nat × Operand)} (vs : (Nat → Value) → List (Nat × Value))
    (hd : o.dst = some d) (hz : Nat.blt d a.tmps.size = true) (ho : o.op = .build t ps) (hin : (opTmps o).all (fun t => Nat.blt t a.tmps.size) = true) (hq : (ps.toList.all fun q => okOp a q.2) = true) (ha : ∀ f, (ps.toList.map fun q => (q.1, evF a hs f q.2)) = vs f)
    (h : ∀ (m : Lt w0) (f : Nat → Value), (∀ t p, hs.lookup t = some p → (opTmps o).contains t = true → p (f t) m.1) → ∃ v w'', (Instr.build t (vs f).toArray).run P m.1 = .ok v w'' ∧ Ext m.1 w'' ∧ g v w'')
    (hr : wpX P ops Q w0 R rest (a.put (some d) undef) ((d, g) :: hs)) : wpX P ops Q w0 R (o :: rest) a hs :=
  wpX_newL hg g hst (fun f => Instr.build t (vs f).toArray) hd hz (by unfold notSelect; rw [ho]) hin (fun f => by unfold execOp; simp only [ho]; rw [← ha f, List.map_congr_left (fun q hm => by rw [← ev_fill (List.all_eq_true.1 hq q hm)]), ← List.map_toArray, Array.toArray_toList]) h hr
/-- A conversion. -/
theorem wpX_convL {o : Oper} {rest : List Oper} {a : Act} {hs : List (Nat × VPred)} {d : Nat} (hg : GRun ops o a hs) (g : VPred) (hst : StableP g) {t1 t2 : TypeId} {x : Operand} (xv : (Nat → Value) → Value)
    (hd : o.dst = some d) (hz : Nat.blt d a.tmps.size = true) (ho : o.op = .convert t1 t2 x) (hin : (opTmps o).all (fun t => Nat.blt t a.tmps.size) = true) (hq : okOp a x = true) (ha : ∀ f, evF a hs f x = xv f)
    (h : ∀ (m : Lt w0) (f : Nat → Value), (∀ t p, hs.lookup t = some p → (opTmps o).contains t = true → p (f t) m.1) → ∃ v w'', (convert t1 t2 (xv f)).run P m.1 = .ok v w'' ∧ Ext m.1 w'' ∧ g v w'')
    (hr : wpX P ops Q w0 R rest (a.put (some d) undef) ((d, g) :: hs)) : wpX P ops Q w0 R (o :: rest) a hs :=
  wpX_newL hg g hst (fun f => convert t1 t2 (xv f)) hd hz (by unfold notSelect; rw [ho]) hin (fun f => by unfold execOp; simp only [ho]; rw [ev_fill hq, ha f]) h hr
/-- A call that reads any holes. -/
theorem wpX_callF {o : Oper} {rest : List Oper} {a : Act} {hs : List (Nat × VPred)} {d : Nat} (hg : GRun ops o a hs) (g : VPred) (hst : StableP g) {fn : FuncId} {x : Operand} {xs : Array Operand} {ats : Array TypeId} (args : (Nat → Value) → List Value)
    (hd : o.dst = some d) (hz : Nat.blt d a.tmps.size = true) (ho : o.op = .call { callee := .value x, args := xs, argTypes := ats }) (hin : (opTmps o).all (fun t => Nat.blt t a.tmps.size) = true)
    (hqx : x = .func fn) (hf : entersB P fn = true) (hq : (xs.toList.all fun q => okOp a q) = true) (ha : ∀ f, xs.toList.map (evF a hs f) = args f)
    (h : ∀ (m : Lt w0) (f : Nat → Value), (∀ t p, hs.lookup t = some p → (opTmps o).contains t = true → p (f t) m.1) → Calls P fn (args f).toArray m.1 fun e w'' => ∃ v, e = .returned v ∧ Ext m.1 w'' ∧ g v w'')
    (hr : wpX P ops Q w0 R rest (a.put (some d) undef) ((d, g) :: hs)) : wpX P ops Q w0 R (o :: rest) a hs :=
  wpX_callL hg g hst args hd hz ho hin (fun f => by rw [hqx]; rfl) hf (fun f => by rw [← ha f]; exact List.map_congr_left (fun q hm => ev_fill (List.all_eq_true.1 hq q hm))) h hr
/-- A part of a tuple. -/
theorem wpX_extL {o : Oper} {rest : List Oper} {a : Act} {hs : List (Nat × VPred)} {d : Nat} (hg : GRun ops o a hs) (g : VPred) (hst : StableP g) {x : Operand} {ix : Nat} (xv : (Nat → Value) → Value)
    (hd : o.dst = some d) (hz : Nat.blt d a.tmps.size = true) (ho : o.op = .extract x ix) (hin : (opTmps o).all (fun t => Nat.blt t a.tmps.size) = true) (hq : okOp a x = true) (ha : ∀ f, evF a hs f x = xv f)
    (h : ∀ (m : Lt w0) (f : Nat → Value), (∀ t p, hs.lookup t = some p → (opTmps o).contains t = true → p (f t) m.1) → ∃ v w'', (Instr.extract (xv f) ix).run P m.1 = .ok v w'' ∧ Ext m.1 w'' ∧ g v w'')
    (hr : wpX P ops Q w0 R rest (a.put (some d) undef) ((d, g) :: hs)) : wpX P ops Q w0 R (o :: rest) a hs :=
  wpX_newL hg g hst (fun f => Instr.extract (xv f) ix) hd hz (by unfold notSelect; rw [ho]) hin (fun f => by unfold execOp; simp only [ho]; rw [ev_fill hq, ha f]) h hr
end
end Gd
namespace Gm
open Go.Proofs.YtkjplpmogfmhkaaGreatDoor.Gd (GRun)
section
variable {P : Program} {ops : Array Oper} {Q : Exit → Act → World → Prop} {w0 : World} {R : Act → World → Prop}
theorem ev_fill {a : Act} {hs : List (Nat × VPred)} {f : Nat → Value} {x : Operand} (h : okOp a x = true) : (fillH a hs f).eval x = evF a hs f x := evF_fill (fillH_size a f hs) (fillH_at a f hs) h
theorem fill_put_size {a : Act} {hs : List (Nat × VPred)} (f : Nat → Value) (n : Nat) (h : Nat.blt n a.tmps.size = true) : n < (fillH a hs f).tmps.size := by rw [fillH_size]; exact blt_lt h
theorem wpX_newL {o : Oper} {rest : List Oper} {a : Act} {hs : List (Nat × VPred)} {d : Nat} (hg : GRun ops o a hs) (g : VPred) (hst : StableM w0.heap.size g) (s : (Nat → Value) → Sem Value)
    (hd : o.dst = some d) (hz : Nat.blt d a.tmps.size = true) (hsel : notSelect o = true) (hin : (opTmps o).all (fun t => Nat.blt t a.tmps.size) = true) (he : ∀ f, execOp (fillH a hs f).eval o = (do pure (Next.value (← s f))))
    (h : ∀ (m : Lt w0) (f : Nat → Value), (∀ t p, hs.lookup t = some p → (opTmps o).contains t = true → p (f t) m.1) → ∃ v w'', (s f).run P m.1 = .ok v w'' ∧ ExtM w0.heap.size m.1 w'' ∧ g v w'')
    (hr : wpX P ops Q w0 R rest (a.put (some d) undef) ((d, g) :: hs)) : wpX P ops Q w0 R (o :: rest) a hs :=
  wpX_useL hg g hst hd hz hsel hin (fun m f hf K hK => by
    obtain ⟨v, w'', h1, h2, h3⟩ := h m f hf
    exact wp_newVal (he f) h1 (hK _ _ (by rw [hd]; show ((fillH a hs f).put (some d) v).defers = _; simp [Act.put, fillH_defers]) ⟨h2, by rw [hd, eval_put_same (fill_put_size f d hz)]; exact h3⟩)) hr
/-- A slice literal. -/
theorem wpX_buildSL {o : Oper} {rest : List Oper} {a : Act} {hs : List (Nat × VPred)} {d : Nat} (hg : GRun ops o a hs) (g : VPred) (hst : StableM w0.heap.size g) {t : TypeId} {n : Nat} {ps : Array (Nat × Operand)} (vs : (Nat → Value) → List (Nat × Value))
    (hd : o.dst = some d) (hz : Nat.blt d a.tmps.size = true) (ho : o.op = .buildSlice t n ps) (hin : (opTmps o).all (fun t => Nat.blt t a.tmps.size) = true) (hq : (ps.toList.all fun q => okOp a q.2) = true) (ha : ∀ f, (ps.toList.map fun q => (q.1, evF a hs f q.2)) = vs f)
    (h : ∀ (m : Lt w0) (f : Nat → Value), (∀ t p, hs.lookup t = some p → (opTmps o).contains t = true → p (f t) m.1) → ∃ v w'', (Instr.buildSlice t n (vs f).toArray).run P m.1 = .ok v w'' ∧ ExtM w0.heap.size m.1 w'' ∧ g v w'')
    (hr : wpX P ops Q w0 R rest (a.put (some d) undef) ((d, g) :: hs)) : wpX P ops Q w0 R (o :: rest) a hs :=
  wpX_newL hg g hst (fun f => Instr.buildSlice t n (vs f).toArray) hd hz (by unfold notSelect; rw [ho]) hin (fun f => by unfold execOp; simp only [ho]; rw [← ha f, List.map_congr_left (fun q hm => by rw [← ev_fill (List.all_eq_true.1 hq q hm)]), ← List.map_toArray, Array.toArray_toList]) h hr
/-- A struct literal. -/
theorem wpX_buildL {o : Oper} {rest : List Oper} {a : Act} {hs : List (Nat × VPred)} {d : Nat} (hg : GRun ops o a hs) (g : VPred) (hst : StableM w0.heap.size g) {t : TypeId} {ps : Array (Nat × Operand)} (vs : (Nat → Value) → List (Nat × Value))
    (hd : o.dst = some d) (hz : Nat.blt d a.tmps.size = true) (ho : o.op = .build t ps) (hin : (opTmps o).all (fun t => Nat.blt t a.tmps.size) = true) (hq : (ps.toList.all fun q => okOp a q.2) = true) (ha : ∀ f, (ps.toList.map fun q => (q.1, evF a hs f q.2)) = vs f)
    (h : ∀ (m : Lt w0) (f : Nat → Value), (∀ t p, hs.lookup t = some p → (opTmps o).contains t = true → p (f t) m.1) → ∃ v w'', (Instr.build t (vs f).toArray).run P m.1 = .ok v w'' ∧ ExtM w0.heap.size m.1 w'' ∧ g v w'')
    (hr : wpX P ops Q w0 R rest (a.put (some d) undef) ((d, g) :: hs)) : wpX P ops Q w0 R (o :: rest) a hs :=
  wpX_newL hg g hst (fun f => Instr.build t (vs f).toArray) hd hz (by unfold notSelect; rw [ho]) hin (fun f => by unfold execOp; simp only [ho]; rw [← ha f, List.map_congr_left (fun q hm => by rw [← ev_fill (List.all_eq_true.1 hq q hm)]), ← List.map_toArray, Array.toArray_toList]) h hr
/-- A conversion. -/
theorem wpX_convL {o : Oper} {rest : List Oper} {a : Act} {hs : List (Nat × VPred)} {d : Nat} (hg : GRun ops o a hs) (g : VPred) (hst : StableM w0.heap.size g) {t1 t2 : TypeId} {x : Operand} (xv : (Nat → Value) → Value)
    (hd : o.dst = some d) (hz : Nat.blt d a.tmps.size = true) (ho : o.op = .convert t1 t2 x) (hin : (opTmps o).all (fun t => Nat.blt t a.tmps.size) = true) (hq : okOp a x = true) (ha : ∀ f, evF a hs f x = xv f)
    (h : ∀ (m : Lt w0) (f : Nat → Value), (∀ t p, hs.lookup t = some p → (opTmps o).contains t = true → p (f t) m.1) → ∃ v w'', (convert t1 t2 (xv f)).run P m.1 = .ok v w'' ∧ ExtM w0.heap.size m.1 w'' ∧ g v w'')
    (hr : wpX P ops Q w0 R rest (a.put (some d) undef) ((d, g) :: hs)) : wpX P ops Q w0 R (o :: rest) a hs :=
  wpX_newL hg g hst (fun f => convert t1 t2 (xv f)) hd hz (by unfold notSelect; rw [ho]) hin (fun f => by unfold execOp; simp only [ho]; rw [ev_fill hq, ha f]) h hr
/-- A call that reads any holes. -/
theorem wpX_callF {o : Oper} {rest : List Oper} {a : Act} {hs : List (Nat × VPred)} {d : Nat} (hg : GRun ops o a hs) (g : VPred) (hst : StableM w0.heap.size g) {fn : FuncId} {x : Operand} {xs : Array Operand} {ats : Array TypeId} (args : (Nat → Value) → List Value)
    (hd : o.dst = some d) (hz : Nat.blt d a.tmps.size = true) (ho : o.op = .call { callee := .value x, args := xs, argTypes := ats }) (hin : (opTmps o).all (fun t => Nat.blt t a.tmps.size) = true)
    (hqx : x = .func fn) (hf : entersB P fn = true) (hq : (xs.toList.all fun q => okOp a q) = true) (ha : ∀ f, xs.toList.map (evF a hs f) = args f)
    (h : ∀ (m : Lt w0) (f : Nat → Value), (∀ t p, hs.lookup t = some p → (opTmps o).contains t = true → p (f t) m.1) → Calls P fn (args f).toArray m.1 fun e w'' => ∃ v, e = .returned v ∧ ExtM w0.heap.size m.1 w'' ∧ g v w'')
    (hr : wpX P ops Q w0 R rest (a.put (some d) undef) ((d, g) :: hs)) : wpX P ops Q w0 R (o :: rest) a hs :=
  wpX_callL hg g hst args hd hz ho hin (fun f => by rw [hqx]; rfl) hf (fun f => by rw [← ha f]; exact List.map_congr_left (fun q hm => ev_fill (List.all_eq_true.1 hq q hm))) h hr
/-- A part of a tuple. -/
theorem wpX_extL {o : Oper} {rest : List Oper} {a : Act} {hs : List (Nat × VPred)} {d : Nat} (hg : GRun ops o a hs) (g : VPred) (hst : StableM w0.heap.size g) {x : Operand} {ix : Nat} (xv : (Nat → Value) → Value)
    (hd : o.dst = some d) (hz : Nat.blt d a.tmps.size = true) (ho : o.op = .extract x ix) (hin : (opTmps o).all (fun t => Nat.blt t a.tmps.size) = true) (hq : okOp a x = true) (ha : ∀ f, evF a hs f x = xv f)
    (h : ∀ (m : Lt w0) (f : Nat → Value), (∀ t p, hs.lookup t = some p → (opTmps o).contains t = true → p (f t) m.1) → ∃ v w'', (Instr.extract (xv f) ix).run P m.1 = .ok v w'' ∧ ExtM w0.heap.size m.1 w'' ∧ g v w'')
    (hr : wpX P ops Q w0 R rest (a.put (some d) undef) ((d, g) :: hs)) : wpX P ops Q w0 R (o :: rest) a hs :=
  wpX_newL hg g hst (fun f => Instr.extract (xv f) ix) hd hz (by unfold notSelect; rw [ho]) hin (fun f => by unfold execOp; simp only [ho]; rw [ev_fill hq, ha f]) h hr
end
end Gm
end Go.Proofs.YtkjplpmogfmhkaaGreatDoor

namespace Go.Proofs.YtkjplpmogfmhkaaGreatDoor
open Go.RowKit
set_option linter.unusedVariables false
set_option maxRecDepth 100000

abbrev Gb (g : Nat) (W W' : World) : Prop := W.grownBy W' (some g)
theorem Gb.refl (g : Nat) (W : World) : Gb g W W := World.grownBy.refl _ _
theorem Gb.tr {g : Nat} {a b c : World} (h : Gb g a b) (k : Gb g b c) : Gb g a c := World.grownBy.trans h k
theorem Gb.set (g i : Nat) (W : World) (v : Value) : Gb g W (W.setCell ⟨g, i, none⟩ v) := ⟨rfl, rfl, rfl, by simp, fun k hk hne => by
  have : k ≠ g := fun e => hne (by rw [e])
  simp [World.setCell, Array.getElem?_modify, Ne.symm this]⟩
theorem Gb.of (g : Nat) {W W' : World} (h : Ext W W') : Gb g W W' := ⟨h.os, h.tape, h.output, h.size, fun i hi _ => h.block i hi⟩
theorem Gb.below {w0 W W' : World} {g : Nat} (h : Below w0.heap.size w0 W) (k : Gb g W W') (hg : w0.heap.size ≤ g) : Below w0.heap.size w0 W' := h.grown k h.size (fun r hr => by obtain rfl := Option.some.inj hr; exact hg)
theorem byteI_win {L : List UInt8} {e a i : Nat} (h : a + i < e) : byteI ((L.take e).drop a) i = byteI L (a + i) := by
  unfold byteI
  simp only [List.getD_eq_getElem?_getD, List.getElem?_drop, List.getElem?_take, if_pos h]
theorem win_len {L : List UInt8} {e a : Nat} (h : e ≤ L.length) : ((L.take e).drop a).length = e - a := by rw [List.length_drop, List.length_take, Nat.min_eq_left h]
theorem tagP_win {L : List UInt8} {e a : Nat} (h : e ≤ L.length) : tagP ((L.take e).drop a) =
    if e ≤ a then none else if longT (byteI L a) then (if e ≤ a + 1 then none else if validT (256 * byteI L a + byteI L (a + 1)) then some (256 * byteI L a + byteI L (a + 1), 2) else none)
    else if validT (byteI L a) then some (byteI L a, 1) else none := by
  unfold tagP
  rw [win_len h]
  by_cases h1 : e ≤ a
  · rw [if_pos (by omega), if_pos h1]
  · rw [if_neg (by omega), if_neg h1, byteI_win (i := 0) (by omega), Nat.add_zero]
    by_cases h2 : e ≤ a + 1
    · rw [if_pos (show e - a < 2 by omega), if_pos h2]
    · rw [if_neg (show ¬ e - a < 2 by omega), if_neg h2, byteI_win (i := 1) (by omega), Int.mul_comm]
theorem ifb_false {α : Type} {b : Bool} {x y : α} (h : b = false) : (if b = true then x else y) = y := if_neg (by rw [h]; decide)
theorem ifb_true {α : Type} {b : Bool} {x y : α} (h : b = true) : (if b = true then x else y) = x := if_pos h
theorem Gb.step1 {g : Nat} {W W' : World} (h : Ext W W') (v : Value) : Gb g W (W'.setCell ⟨g, 1, none⟩ v) := (Gb.of g h).tr (Gb.set g 1 W' v)
theorem lenP_win {L : List UInt8} {e a : Nat} (h : e ≤ L.length) : lenP ((L.take e).drop a) =
    if e ≤ a then none else if byteI L a < 128 then some ((byteI L a).toNat, 1) else if 132 < byteI L a ∨ byteI L a = 128 then none else
    if e < a + 1 + (byteI L a - 128).toNat then none else
    if num ((L.drop (a + 1)).take (byteI L a - 128).toNat) < 128 ∨ num ((L.drop (a + 1)).take (byteI L a - 128).toNat) / 256 ^ ((byteI L a - 128).toNat - 1) = 0 then none else
    some ((num ((L.drop (a + 1)).take (byteI L a - 128).toNat)).toNat, 1 + (byteI L a - 128).toNat) := by
  unfold lenP
  rw [win_len h]
  by_cases h1 : e ≤ a
  · rw [if_pos (by omega), if_pos h1]
  · rw [if_neg (by omega), if_neg h1, byteI_win (i := 0) (by omega), Nat.add_zero]
    by_cases h2 : byteI L a < 128
    · rw [if_pos h2, if_pos h2]
    · rw [if_neg h2, if_neg h2]
      by_cases h3 : 132 < byteI L a ∨ byteI L a = 128
      · rw [if_pos h3, if_pos h3]
      · rw [if_neg h3, if_neg h3]
        by_cases h4 : e < a + 1 + (byteI L a - 128).toNat
        · rw [if_pos (by omega), if_pos h4]
        · rw [if_neg (by omega), if_neg h4]
          have e1 : (((L.take e).drop a).drop 1).take (byteI L a - 128).toNat = (L.drop (a + 1)).take (byteI L a - 128).toNat := by
            rw [List.drop_drop, List.drop_take, List.take_take, Nat.min_eq_left (by omega)]
          rw [e1]
end Go.Proofs.YtkjplpmogfmhkaaGreatDoor

namespace Go.Proofs.YtkjplpmogfmhkaaGreatDoor
open Go.RowKit
set_option linter.unusedVariables false
set_option maxRecDepth 100000

theorem num_lt4 (l : List UInt8) {j : Nat} (hj : j ≤ 4) : 0 ≤ num (l.take j) ∧ num (l.take j) < 4294967296 := by
  obtain ⟨h1, h2⟩ := num_bd _ (l.take j) rfl
  have h3 : (l.take j).length ≤ 4 := by rw [List.length_take]; omega
  have : ∀ k, k ≤ 4 → (256 : Int) ^ k ≤ 4294967296 := by decide
  have := this _ h3
  omega
end Go.Proofs.YtkjplpmogfmhkaaGreatDoor

namespace Go.Proofs.YtkjplpmogfmhkaaGreatDoor
open Go.RowKit
set_option linter.unusedVariables false
set_option maxRecDepth 100000

theorem eql_nilB (w : World) (A : Option Addr) (n c : Nat) : (binOp .eql 89 (.slice A n c) (.slice none 0 0)).run Tryz.prog w = .ok (.bool A.isNone) w := Lib.run_eql_slice_nil w _ 5 A n c 0 0 Tryz.underlying89
set_option maxHeartbeats 1000000 in
theorem cloneB_any {a : Value} {l : List UInt8} (w : World) (ha : Rd w a (bvs l)) (hl : l.length ≤ 140737488355328) : Calls Tryz.prog 288 #[a] w (RetB w l) := by
  have ha0 := ha
  obtain ⟨A, n, c, rfl, hn, hnc, hcm, hA⟩ := ha.bytes
  subst hn
  unfold maxLen at hcm
  cases A with
  | none =>
    have h0 : l = [] := by
      by_cases h : 0 < l.length
      · obtain ⟨b, o, e, _⟩ := hA h; cases e
      · exact List.eq_nil_of_length_eq_zero (by omega)
    subst h0
    clear hA ha ha0
    have hq := fun w => eql_nilB w none 0 c
    go_enter Tryz.func288, Tryz.ntmps288
    go_wp2
    go_ret
    exact ⟨_, _, _, rfl, (show _ = _ from rfl), nilB _ _, Below.refl _ _⟩
  | some ad =>
    clear hA ha
    have hq := fun w => eql_nilB w (some ad) l.length c
    have e6 : Ext w (w.alloc (.cells #[] 5)) := (Below.refl _ _).alloc (Nat.le_refl _) _
    go_enter Tryz.func288, Tryz.ntmps288
    go_wp2_with (refine appN (ys := l) (ha0.ext e6) e6 hl e6.size rfl rfl rfl rfl ?_; intro A2 n2 c2 w2 hn2 o2 (b2 : Ext _ _) g2)
    go_ret
    exact ⟨_, _, _, rfl, hn2, o2, b2⟩
theorem objsP_cnt : ∀ (k : Nat) (l : List UInt8) (dep : Int) (cnt : Nat) (ts : List Nd) (c : Nat), l.length ≤ k → objsP dep cnt l = some (ts, c) → cnt ≤ 256 → c ≤ 256 ∧ ts.length ≤ 256 ∧ cnt + ts.length ≤ c := by
  intro k
  induction k using Nat.strongRecOn with
  | ind k IH =>
    intro l dep cnt ts c hk h hc
    rw [objsP_eq] at h
    split at h
    · simp only [Option.some.injEq, Prod.mk.injEq] at h
      obtain ⟨rfl, rfl⟩ := h
      simp
      omega
    · rename_i h0
      split at h
      · cases h
      · rename_i x c1 u hx
        obtain ⟨u0, u1⟩ := objP1_used hx
        have hc1 : c1 ≤ 256 ∧ cnt + 1 ≤ c1 := by
          unfold objP1 at hx
          split at hx
          · cases hx
          · rename_i t o n ht
            obtain ⟨g1, g2, g3, g4, g5, g6, g7⟩ := headP_bd ht
            split at hx
            · split at hx
              · cases hx
              · rename_i ks c2 hk2
                simp only [Option.some.injEq, Prod.mk.injEq] at hx
                obtain ⟨_, rfl, _⟩ := hx
                have := IH ((l.drop o).take n).length (by rw [List.length_take, List.length_drop]; omega) _ _ _ _ _ (Nat.le_refl _) hk2 (by omega)
                omega
            · simp only [Option.some.injEq, Prod.mk.injEq] at hx
              omega
        split at h
        · cases h
        · rename_i xs c' hxs
          simp only [Option.some.injEq, Prod.mk.injEq] at h
          obtain ⟨rfl, rfl⟩ := h
          have := IH (l.drop u).length (by rw [List.length_drop]; omega) _ _ _ _ _ (Nat.le_refl _) hxs hc1.1
          simp only [List.length_cons]
          omega
theorem objP1_cnt {dep : Int} {cnt : Nat} {l : List UInt8} {x : Nd} {c u : Nat} (h : objP1 objsP dep cnt l = some (x, c, u)) : c ≤ 256 ∧ cnt + 1 ≤ c := by
  unfold objP1 at h
  split at h
  · cases h
  · rename_i t o n ht
    obtain ⟨g1, g2, g3, g4, g5, g6, g7⟩ := headP_bd ht
    split at h
    · split at h
      · cases h
      · rename_i ks c2 hk2
        simp only [Option.some.injEq, Prod.mk.injEq] at h
        obtain ⟨_, rfl, _⟩ := h
        have := objsP_cnt _ _ _ _ _ _ (Nat.le_refl _) hk2 (by omega)
        omega
    · simp only [Option.some.injEq, Prod.mk.injEq] at h
      omega
theorem objP1_dep {rec : Int → Nat → List UInt8 → Option (List Nd × Nat)} {dep : Int} {cnt : Nat} {l : List UInt8} {r : Nd × Nat × Nat} (h : objP1 rec dep cnt l = some r) : dep ≤ 8 := by
  unfold objP1 at h
  split at h
  · cases h
  · rename_i t o n ht
    exact (headP_bd ht).2.2.2.2.2.1
theorem rowOf_ltK {w : World} {B : Nat} {e : TypeId} {k : Nat} {v : Value} {xs : List Value} (h : OwnK w B e k v xs) : ∀ r, rowOf v = some r → r < w.heap.size := by
  obtain ⟨A, n, c, rfl, hn, ⟨rfl, rfl⟩ | ⟨g, cur, rfl, hb, hg, _⟩⟩ := h
  · intro k hk; cases A <;> simp [rowOf] at hk
  · intro k hk
    cases c with
    | zero => simp [rowOf] at hk
    | succ c =>
      have := block_lt hg
      simp [rowOf] at hk
      omega
end Go.Proofs.YtkjplpmogfmhkaaGreatDoor

namespace Go.Proofs.YtkjplpmogfmhkaaGreatDoor
open Go.RowKit
set_option linter.unusedVariables false
set_option maxRecDepth 100000

section
variable {P : Program} {Q : Exit → Act → World → Prop} {w0 : World} {R : Act → World → Prop}
/-- A nil check of a pointer that is none, in a region that draws. -/
theorem wpX_nil {o : Oper} {rest : List Oper} {a : Act} {hs : List (Nat × VPred)} {d : Nat} (ad : Addr) {x : Operand} (hd : o.dst = some d) (hz : Nat.blt d a.tmps.size = true) (ho : o.op = .nilCheck x) (hx : a.eval x = .pointer (some ad)) (hn : noHole o hs = true)
    (hr : wpX P Q w0 R rest (a.put (some d) (.pointer (some ad))) hs) : wpX P Q w0 R (o :: rest) a hs :=
  wpX_call (.pointer (some ad)) hd hz (by unfold notSelect; rw [ho]) hn (fun m K hK => by
    unfold Oper.wp execOp
    simp only [ho, hx, Sem.run_pure, Oper.upon]
    exact hK _ _ (by rw [hd]; rfl) ⟨Below.refl _ _, by rw [hd, eval_put_same (blt_lt hz)]⟩) hr
end
/-- A block of three cells. -/
def C3 (W : World) (b : Nat) (v0 v1 v2 : Value) : Prop := W.heap[b]? = some (.cells #[v0, v1, v2] 180 (0, 0))
theorem C3.cells {W : World} {b : Nat} {v0 v1 v2 : Value} (h : C3 W b v0 v1 v2) : W.cell? ⟨b, 0, none⟩ = some v0 ∧ W.cell? ⟨b, 1, none⟩ = some v1 ∧ W.cell? ⟨b, 2, none⟩ = some v2 ∧ W.frozen? ⟨b, 0, none⟩ = false ∧ W.frozen? ⟨b, 1, none⟩ = false ∧ W.frozen? ⟨b, 2, none⟩ = false := by
  refine ⟨?_, ?_, ?_, ?_, ?_, ?_⟩
  · rw [cell_of_row W b 0 _ _ _ h]; rfl
  · rw [cell_of_row W b 1 _ _ _ h]; rfl
  · rw [cell_of_row W b 2 _ _ _ h]; rfl
  all_goals (unfold C3 at h; simp [World.frozen?, h])
theorem C3.gb {W W' : World} {g b : Nat} {v0 v1 v2 : Value} (h : C3 W b v0 v1 v2) (k : Gb g W W') (hne : b ≠ g) : C3 W' b v0 v1 v2 := (k.block b (block_lt h) (fun e => hne (by injection e))).trans h
theorem C3.new (W : World) (v0 v1 v2 : Value) : C3 (W.alloc (.cells #[v0, v1, v2] 180)) W.heap.size v0 v1 v2 := heap_alloc_new' W _
theorem C3.lt {W : World} {b : Nat} {v0 v1 v2 : Value} (h : C3 W b v0 v1 v2) : b < W.heap.size := block_lt h
theorem Gb.poke {g b i : Nat} {W W' : World} {v : Value} (h : Gb g W W') (hb : W.heap.size ≤ b) : Gb g W (W'.setCell ⟨b, i, none⟩ v) :=
  ⟨h.os, h.tape, h.output, by simpa using h.size, fun k hk hne => by
    have e : k ≠ b := by omega
    rw [← h.block k hk hne]
    simp [World.setCell, Array.getElem?_modify, Ne.symm e]⟩
theorem setCell_block {W : World} {b i k : Nat} {v : Value} (h : k ≠ b) : (W.setCell ⟨b, i, none⟩ v).heap[k]? = W.heap[k]? := by simp [World.setCell, Array.getElem?_modify, Ne.symm h]
theorem C3.other {W : World} {b b' i : Nat} {v0 v1 v2 v : Value} (h : C3 W b v0 v1 v2) (hne : b ≠ b') : C3 (W.setCell ⟨b', i, none⟩ v) b v0 v1 v2 := (setCell_block hne).trans h
abbrev set3 (W : World) (b : Nat) (v0 v1 v2 : Value) : World := ((W.setCell ⟨b, 0, none⟩ v0).setCell ⟨b, 1, none⟩ v1).setCell ⟨b, 2, none⟩ v2
theorem C3.set2 {W : World} {b : Nat} {v0 v1 v2 : Value} (h : C3 W b v0 v1 v2) (u : Value) : C3 (W.setCell ⟨b, 2, none⟩ u) b v0 v1 u := by
  unfold C3 at h ⊢
  simp only [World.setCell, Array.getElem?_modify, if_true, h, Option.map_some]
  rfl
theorem C3.set1 {W : World} {b : Nat} {v0 v1 v2 : Value} (h : C3 W b v0 v1 v2) (u : Value) : C3 (W.setCell ⟨b, 1, none⟩ u) b v0 u v2 := by
  unfold C3 at h ⊢
  simp only [World.setCell, Array.getElem?_modify, if_true, h, Option.map_some]
  rfl
theorem C3.set0 {W : World} {b : Nat} {v0 v1 v2 : Value} (h : C3 W b v0 v1 v2) (u : Value) : C3 (W.setCell ⟨b, 0, none⟩ u) b u v1 v2 := by
  unfold C3 at h ⊢
  simp only [World.setCell, Array.getElem?_modify, if_true, h, Option.map_some]
  rfl
theorem C3.set3 {W : World} {b : Nat} {v0 v1 v2 : Value} (h : C3 W b v0 v1 v2) (u0 u1 u2 : Value) : C3 (set3 W b u0 u1 u2) b u0 u1 u2 := ((h.set0 u0).set1 u1).set2 u2
theorem Gb.set3 {g b : Nat} {W W' : World} {v0 v1 v2 : Value} (h : Gb g W W') (hb : W.heap.size ≤ b) : Gb g W (set3 W' b v0 v1 v2) := ((h.poke hb).poke hb).poke hb
theorem set3_block {W : World} {b k : Nat} {v0 v1 v2 : Value} (h : k ≠ b) : (set3 W b v0 v1 v2).heap[k]? = W.heap[k]? := by
  unfold Go.Proofs.YtkjplpmogfmhkaaGreatDoor.set3
  rw [setCell_block h, setCell_block h, setCell_block h]
theorem win_take {L : List UInt8} {e p n : Nat} (h : p + n ≤ e) : ((L.take e).drop p).take n = (L.take (p + n)).drop p := by
  rw [List.drop_take, List.take_take, List.drop_take, Nat.min_eq_left (by omega)]
  congr 1
  omega
end Go.Proofs.YtkjplpmogfmhkaaGreatDoor

namespace Go.Proofs.YtkjplpmogfmhkaaGreatDoor
open Go.RowKit
set_option linter.unusedVariables false
set_option maxRecDepth 100000

section
variable {P : Program} {Q : Exit → Act → World → Prop} {w0 : World} {R : Act → World → Prop}
/-- A new variable in a region that draws. -/
theorem wpX_alloc {o : Oper} {rest : List Oper} {a : Act} {hs : List (Nat × VPred)} {d : Nat} {t : TypeId} {cs : Array Value}
    (hrun : ∀ W : World, (Instr.alloc t true (.tuple #[])).run P W = .ok (.pointer (some ⟨W.heap.size, 0, none⟩)) (W.alloc (.cells cs t)))
    (hd : o.dst = some d) (hz : Nat.blt d a.tmps.size = true) (ho : o.op = .alloc t) (hn : noHole o hs = true)
    (hr : wpX P Q w0 R rest (a.put (some d) undef) ((d, fun v w => ∃ g, v = .pointer (some ⟨g, 0, none⟩) ∧ w0.heap.size ≤ g ∧ w.heap[g]? = some (.cells cs t (0, 0))) :: hs)) : wpX P Q w0 R (o :: rest) a hs :=
  wpX_hole _ (fun v w w' hb ⟨g, h1, h2, h3⟩ => ⟨g, h1, h2, (hb.block g (block_lt h3)).trans h3⟩) hd hz (by unfold notSelect; rw [ho]) hn (fun m K hK => wp_newVal (s := Instr.alloc t true (.tuple #[])) (by unfold execOp; simp only [ho]) (hrun m.1)
    (hK _ _ (by rw [hd]; rfl) ⟨(Below.refl _ _).alloc (Nat.le_refl _) _, by rw [hd, eval_put_same (blt_lt hz)]; exact ⟨_, rfl, m.2.size, heap_alloc_new' _ _⟩⟩)) hr
/-- A struct literal that reads a hole. -/
theorem wpX_buildUse {o : Oper} {rest : List Oper} {a : Act} {hs : List (Nat × VPred)} {d : Nat} (t1 : Nat) (p : VPred) (f : Value → Value) {t : TypeId} {ps : Array (Nat × Operand)} (vs : Value → List (Nat × Value)) (hp : StableP p)
    (hrun : ∀ (W : World) (u : Value), p u W → (Instr.build t (vs u).toArray).run P W = .ok (f u) W)
    (hd : o.dst = some d) (hz : Nat.blt d a.tmps.size = true) (ho : o.op = .build t ps) (ha : ∀ u, (ps.toList.map fun q => (q.1, (a.put (some t1) u).eval q.2)) = vs u) (hl : hs.lookup t1 = some p) (hn : oneHole o hs t1 = true) (hin : (opTmps o).contains t1 = true) (hz1 : Nat.blt t1 a.tmps.size = true)
    (hr : wpX P Q w0 R rest (a.put (some d) undef) ((d, fun v w => ∃ u, p u w ∧ v = f u) :: hs)) : wpX P Q w0 R (o :: rest) a hs :=
  wpX_useHole t1 p _ (fun v w w' hb ⟨u, h1, h2⟩ => ⟨u, hp _ _ _ hb h1, h2⟩) hd hz (by unfold notSelect; rw [ho]) hl hn hin hz1 (fun m u hu K hK => wp_newVal (s := Instr.build t (vs u).toArray) (by unfold execOp; simp only [ho]; rw [← ha u, ← List.map_toArray, Array.toArray_toList]) (hrun m.1 u hu)
    (hK _ _ (by rw [hd]; rfl) ⟨Below.refl _ _, by rw [hd, eval_put_same (by simpa [Act.put] using blt_lt hz)]; exact ⟨u, hu, rfl⟩⟩)) hr
/-- A slice literal that reads a hole. -/
theorem wpX_buildSUse {o : Oper} {rest : List Oper} {a : Act} {hs : List (Nat × VPred)} {d : Nat} (t1 : Nat) (p g : VPred) (hst : StableP g) {t : TypeId} {n : Nat} {ps : Array (Nat × Operand)} (vs : Value → List (Nat × Value))
    (hrun : ∀ (m : Lt w0) (u : Value), p u m.1 → ∃ v w'', (Instr.buildSlice t n (vs u).toArray).run P m.1 = .ok v w'' ∧ Ext m.1 w'' ∧ g v w'')
    (hd : o.dst = some d) (hz : Nat.blt d a.tmps.size = true) (ho : o.op = .buildSlice t n ps) (ha : ∀ u, (ps.toList.map fun q => (q.1, (a.put (some t1) u).eval q.2)) = vs u) (hl : hs.lookup t1 = some p) (hn : oneHole o hs t1 = true) (hin : (opTmps o).contains t1 = true) (hz1 : Nat.blt t1 a.tmps.size = true)
    (hr : wpX P Q w0 R rest (a.put (some d) undef) ((d, g) :: hs)) : wpX P Q w0 R (o :: rest) a hs :=
  wpX_useHole t1 p _ hst hd hz (by unfold notSelect; rw [ho]) hl hn hin hz1 (fun m u hu K hK => by
    obtain ⟨v, w'', h1, h2, h3⟩ := hrun m u hu
    exact wp_newVal (s := Instr.buildSlice t n (vs u).toArray) (by unfold execOp; simp only [ho]; rw [← ha u, ← List.map_toArray, Array.toArray_toList]) h1
      (hK _ _ (by rw [hd]; rfl) ⟨h2, by rw [hd, eval_put_same (by simpa [Act.put] using blt_lt hz)]; exact h3⟩)) hr
end
theorem run_allocNd (W : World) : (Instr.alloc 180 true (.tuple #[])).run Tryz.prog W = .ok (.pointer (some ⟨W.heap.size, 0, none⟩)) (W.alloc (.cells #[.int .i64 0, .slice none 0 0, .slice none 0 0] 180)) := by go_simp
theorem run_buildNd (W : World) (t : Int) (A : Option Addr) (n c : Nat) : (Instr.build 180 [(0, .int .i64 t), (1, .slice A n c)].toArray).run Tryz.prog W = .ok (.agg #[.int .i64 t, .slice A n c, .slice none 0 0]) W := run_build W _ _ _ (by kernel_rfl)
theorem C3.ex {W W' : World} {b : Nat} {v0 v1 v2 : Value} (h : C3 W b v0 v1 v2) (k : Ext W W') : C3 W' b v0 v1 v2 := (k.block b (block_lt h)).trans h
theorem RdS.avoid {S S' : Nat → Prop} {w : World} {v : Value} {l : List UInt8} {yb : Nat} {z : Int} {A B : Option Addr} {n c n' c' : Nat} (h : RdS S w v (bvs l)) (hy : C3 w yb (.int .i64 z) (.slice A n c) (.slice B n' c')) (hS : ∀ b, S b → b < w.heap.size → b ≠ yb → S' b) : RdS S' w v (bvs l) := by
  obtain ⟨A, n, c, h1, h2, h3, h4, h5⟩ := h
  refine ⟨A, n, c, h1, h2, h3, h4, fun h0 => ?_⟩
  obtain ⟨b, o, q1, q2, q3⟩ := h5 h0
  rw [bvs_length] at h2
  have c0 := q3 0 _ (bvs_at (by omega))
  refine ⟨b, o, q1, hS b q2 (World.block_lt_of_cell? w _ c0) (fun e => ?_), q3⟩
  subst e
  rw [cell_of_row w b (o + 0) _ _ _ hy] at c0
  match o, c0 with
  | 0, c0 => simp at c0
  | 1, c0 => simp at c0
  | 2, c0 => simp at c0
  | o + 3, c0 => simp at c0
def AggV (v : Value) : Prop := ∃ (t : Int) (A1 : Option Addr) (n1 c1 : Nat) (A2 : Option Addr) (n2 c2 : Nat), v = .agg #[.int .i64 t, .slice A1 n1 c1, .slice A2 n2 c2]
def OneNd (v : Value) (w : World) : Prop := ∃ (t : Int) (A1 : Option Addr) (n1 c1 : Nat) (A2 : Option Addr) (n2 c2 : Nat) (g : Nat), v = .slice (some ⟨g, 0, none⟩) 1 1 ∧ RdK w 3 v [.int .i64 t, .slice A1 n1 c1, .slice A2 n2 c2]
theorem stable_oneNd : StableP OneNd := fun v w w' hb ⟨t, a1, a2, a3, a4, a5, a6, g, h0, h⟩ => ⟨t, a1, a2, a3, a4, a5, a6, g, h0, h.ext hb⟩
theorem run_buildSliceNd (W : World) (t : Int) (A1 : Option Addr) (n1 c1 : Nat) (A2 : Option Addr) (n2 c2 : Nat) : (Instr.buildSlice 178 1 [(0, .agg #[.int .i64 t, .slice A1 n1 c1, .slice A2 n2 c2])].toArray).run Tryz.prog W = .ok (.slice (some ⟨W.heap.size, 0, none⟩) 1 1) (W.alloc (.cells #[.int .i64 t, .slice A1 n1 c1, .slice A2 n2 c2] 180)) := by go_simp
/-- Where the loop of clone stands. -/
def ClL (w : World) (yb rb B : Nat) (t : Int) (Av : Option Addr) (nv cv : Nat) (val : List UInt8) (len : Nat) (i : Value) (wr : World) : Prop :=
  ∃ (j : Nat) (A : Option Addr) (n cc : Nat) (xs : List Value), j ≤ len ∧ i = .int .i64 (j : Int) ∧ n = j ∧ Ext w wr ∧ B ≤ wr.heap.size ∧ C3 wr yb (.int .i64 t) (.slice Av nv cv) (.slice A n cc) ∧ C3 wr rb (.int .i64 0) (.slice none 0 0) (.slice none 0 0) ∧
    OwnK wr B 180 3 (.slice A n cc) xs ∧ n * 3 = xs.length ∧ RdS (fun b => b ≠ yb ∧ b < B ∧ b ≠ rb) wr (.slice Av nv cv) (bvs val)
end Go.Proofs.YtkjplpmogfmhkaaGreatDoor

namespace Go.Proofs.YtkjplpmogfmhkaaGreatDoor
open Go.RowKit
set_option linter.unusedVariables false
set_option maxRecDepth 100000

/-- New bytes, in blocks from B on. -/
def GS (B : Nat) (l : List UInt8) : VPred := fun v w => RdS (fun b => B ≤ b) w v (bvs l)
/-- A new object by value, whose data lie in blocks from B on. -/
def NdG (B d : Nat) (t : Nd) : VPred := fun v w => ∃ (A1 : Option Addr) (n1 c1 : Nat) (A2 : Option Addr) (n2 c2 : Nat), v = .agg #[.int .i64 t.tag, .slice A1 n1 c1, .slice A2 n2 c2] ∧ RdS (fun b => B ≤ b) w (.slice A1 n1 c1) (bvs t.val) ∧ NdsS (fun b => B ≤ b) d w (.slice A2 n2 c2) t.kids
/-- New objects. -/
def NdsG (B d : Nat) (ts : List Nd) : VPred := fun v w => NdsS (fun b => B ≤ b) d w v ts
theorem stable_GS (B : Nat) (l : List UInt8) : StableP (GS B l) := fun v w w' e h => h.map fun b hb hlt => ⟨hb, e.block b hlt⟩
theorem stable_NdsG (B d : Nat) (ts : List Nd) : StableP (NdsG B d ts) := fun v w w' e h => h.map fun b hb hlt => ⟨hb, e.block b hlt⟩
theorem stable_NdG (B d : Nat) (t : Nd) : StableP (NdG B d t) := fun v w w' e ⟨A1, n1, c1, A2, n2, c2, h1, h2, h3⟩ => ⟨A1, n1, c1, A2, n2, c2, h1, h2.map fun b hb hlt => ⟨hb, e.block b hlt⟩, h3.map fun b hb hlt => ⟨hb, e.block b hlt⟩⟩
theorem GS.slice {B : Nat} {l : List UInt8} {v : Value} {w : World} (h : GS B l v w) : ∃ A n c, v = .slice A n c := by
  obtain ⟨A, n, c, h, _⟩ := h
  exact ⟨A, n, c, h⟩
theorem NdsS.slice {S : Nat → Prop} {d : Nat} {ts : List Nd} {v : Value} {w : World} (h : NdsS S d w v ts) : ∃ A n c, v = .slice A n c := by
  cases d with
  | zero => obtain ⟨_, A, c, h, _⟩ := h; exact ⟨A, 0, c, h⟩
  | succ d => obtain ⟨A, n, c, h, _⟩ := h; exact ⟨A, n, c, h⟩
theorem run_leaf {B d : Nat} (W : World) (t : Int) {v : Value} {l : List UInt8} (h : GS B l v W) : ∃ v' w'', (Instr.build 180 [(0, .int .i64 t), (1, v)].toArray).run Tryz.prog W = .ok v' w'' ∧ Ext W w'' ∧ NdG B d (leafN t l) v' w'' := by
  obtain ⟨A, n, c, rfl⟩ := h.slice
  exact ⟨_, _, run_buildNd W t A n c, Below.refl _ _, _, _, _, _, _, _, rfl, h, NdsS.nil _ _⟩
theorem run_buildNd2 (W : World) (t : Int) (A : Option Addr) (n c : Nat) : (Instr.build 180 [(0, .int .i64 t), (2, .slice A n c)].toArray).run Tryz.prog W = .ok (.agg #[.int .i64 t, .slice none 0 0, .slice A n c]) W := run_build W _ _ _ (by kernel_rfl)
theorem run_cons {B d : Nat} (W : World) (t : Int) {v : Value} {ts : List Nd} (h : NdsG B d ts v W) : ∃ v' w'', (Instr.build 180 [(0, .int .i64 t), (2, v)].toArray).run Tryz.prog W = .ok v' w'' ∧ Ext W w'' ∧ NdG B d (.mk t [] ts) v' w'' := by
  obtain ⟨A, n, c, rfl⟩ := NdsS.slice h
  exact ⟨_, _, run_buildNd2 W t A n c, Below.refl _ _, _, _, _, _, _, _, rfl, RdS.nil _, h⟩
theorem ndsS_lit {B d : Nat} {W : World} (cs : List Value) (ts : List Nd) (n : Nat) (hn : n = ts.length) (hm : n ≤ 100) (h : NdCells (fun b => B ≤ b) d W cs ts) (hB : B ≤ W.heap.size) : NdsS (fun b => B ≤ b) (d + 1) (W.alloc (.cells cs.toArray 180)) (.slice (some ⟨W.heap.size, 0, none⟩) n n) ts := by
  have e : Ext W (W.alloc (.cells cs.toArray 180)) := (Below.refl _ _).alloc (Nat.le_refl _) _
  have ho := OwnK.lit W 3 cs.toArray 180 n (by rw [hn, ← h.1]; simp) (by unfold maxLen; omega)
  exact NdsS.mk ho (h.map fun b hb hlt => ⟨hb, e.block b hlt⟩) (fun b hb => hb) (fun b hb => Nat.le_trans hB hb)
set_option maxHeartbeats 1000000 in
theorem run_bs1 (W : World) (z0 : Int) (a0 b0 : Option Addr) (n0 c0 m0 d0 : Nat) : (Instr.buildSlice 178 1 [(0, .agg #[.int .i64 z0, .slice a0 n0 c0, .slice b0 m0 d0])].toArray).run Tryz.prog W = .ok (.slice (some ⟨W.heap.size, 0, none⟩) 1 1) (W.alloc (.cells #[.int .i64 z0, .slice a0 n0 c0, .slice b0 m0 d0] 180)) := by go_simp
theorem run_nodes1 {B d : Nat} (W : World) (hB : B ≤ W.heap.size) {v0 : Value} {t0 : Nd} (h0 : NdG B d t0 v0 W) : ∃ v' w'', (Instr.buildSlice 178 1 [(0, v0)].toArray).run Tryz.prog W = .ok v' w'' ∧ Ext W w'' ∧ NdsG B (d + 1) [t0] v' w'' := by
  obtain ⟨a0, n0, c0, b0, m0, d0, rfl, r0, k0⟩ := h0
  exact ⟨_, _, run_bs1 W t0.tag a0 b0 n0 c0 m0 d0, (Below.refl _ _).alloc (Nat.le_refl _) _, ndsS_lit [.int .i64 t0.tag, .slice a0 n0 c0, .slice b0 m0 d0] [t0] 1 rfl (by omega) ((NdCells.nil _ d W).snoc r0 k0) hB⟩
set_option maxHeartbeats 1000000 in
theorem run_bs2 (W : World) (z0 : Int) (a0 b0 : Option Addr) (n0 c0 m0 d0 : Nat) (z1 : Int) (a1 b1 : Option Addr) (n1 c1 m1 d1 : Nat) : (Instr.buildSlice 178 2 [(0, .agg #[.int .i64 z0, .slice a0 n0 c0, .slice b0 m0 d0]), (1, .agg #[.int .i64 z1, .slice a1 n1 c1, .slice b1 m1 d1])].toArray).run Tryz.prog W = .ok (.slice (some ⟨W.heap.size, 0, none⟩) 2 2) (W.alloc (.cells #[.int .i64 z0, .slice a0 n0 c0, .slice b0 m0 d0, .int .i64 z1, .slice a1 n1 c1, .slice b1 m1 d1] 180)) := by go_simp
theorem run_nodes2 {B d : Nat} (W : World) (hB : B ≤ W.heap.size) {v0 v1 : Value} {t0 t1 : Nd} (h0 : NdG B d t0 v0 W) (h1 : NdG B d t1 v1 W) : ∃ v' w'', (Instr.buildSlice 178 2 [(0, v0), (1, v1)].toArray).run Tryz.prog W = .ok v' w'' ∧ Ext W w'' ∧ NdsG B (d + 1) [t0, t1] v' w'' := by
  obtain ⟨a0, n0, c0, b0, m0, d0, rfl, r0, k0⟩ := h0
  obtain ⟨a1, n1, c1, b1, m1, d1, rfl, r1, k1⟩ := h1
  exact ⟨_, _, run_bs2 W t0.tag a0 b0 n0 c0 m0 d0 t1.tag a1 b1 n1 c1 m1 d1, (Below.refl _ _).alloc (Nat.le_refl _) _, ndsS_lit [.int .i64 t0.tag, .slice a0 n0 c0, .slice b0 m0 d0, .int .i64 t1.tag, .slice a1 n1 c1, .slice b1 m1 d1] [t0, t1] 2 rfl (by omega) (((NdCells.nil _ d W).snoc r0 k0).snoc r1 k1) hB⟩
set_option maxHeartbeats 1000000 in
theorem run_bs6 (W : World) (z0 : Int) (a0 b0 : Option Addr) (n0 c0 m0 d0 : Nat) (z1 : Int) (a1 b1 : Option Addr) (n1 c1 m1 d1 : Nat) (z2 : Int) (a2 b2 : Option Addr) (n2 c2 m2 d2 : Nat) (z3 : Int) (a3 b3 : Option Addr) (n3 c3 m3 d3 : Nat) (z4 : Int) (a4 b4 : Option Addr) (n4 c4 m4 d4 : Nat) (z5 : Int) (a5 b5 : Option Addr) (n5 c5 m5 d5 : Nat) : (Instr.buildSlice 178 6 [(0, .agg #[.int .i64 z0, .slice a0 n0 c0, .slice b0 m0 d0]), (1, .agg #[.int .i64 z1, .slice a1 n1 c1, .slice b1 m1 d1]), (2, .agg #[.int .i64 z2, .slice a2 n2 c2, .slice b2 m2 d2]), (3, .agg #[.int .i64 z3, .slice a3 n3 c3, .slice b3 m3 d3]), (4, .agg #[.int .i64 z4, .slice a4 n4 c4, .slice b4 m4 d4]), (5, .agg #[.int .i64 z5, .slice a5 n5 c5, .slice b5 m5 d5])].toArray).run Tryz.prog W = .ok (.slice (some ⟨W.heap.size, 0, none⟩) 6 6) (W.alloc (.cells #[.int .i64 z0, .slice a0 n0 c0, .slice b0 m0 d0, .int .i64 z1, .slice a1 n1 c1, .slice b1 m1 d1, .int .i64 z2, .slice a2 n2 c2, .slice b2 m2 d2, .int .i64 z3, .slice a3 n3 c3, .slice b3 m3 d3, .int .i64 z4, .slice a4 n4 c4, .slice b4 m4 d4, .int .i64 z5, .slice a5 n5 c5, .slice b5 m5 d5] 180)) := by go_simp
theorem run_nodes6 {B d : Nat} (W : World) (hB : B ≤ W.heap.size) {v0 v1 v2 v3 v4 v5 : Value} {t0 t1 t2 t3 t4 t5 : Nd} (h0 : NdG B d t0 v0 W) (h1 : NdG B d t1 v1 W) (h2 : NdG B d t2 v2 W) (h3 : NdG B d t3 v3 W) (h4 : NdG B d t4 v4 W) (h5 : NdG B d t5 v5 W) : ∃ v' w'', (Instr.buildSlice 178 6 [(0, v0), (1, v1), (2, v2), (3, v3), (4, v4), (5, v5)].toArray).run Tryz.prog W = .ok v' w'' ∧ Ext W w'' ∧ NdsG B (d + 1) [t0, t1, t2, t3, t4, t5] v' w'' := by
  obtain ⟨a0, n0, c0, b0, m0, d0, rfl, r0, k0⟩ := h0
  obtain ⟨a1, n1, c1, b1, m1, d1, rfl, r1, k1⟩ := h1
  obtain ⟨a2, n2, c2, b2, m2, d2, rfl, r2, k2⟩ := h2
  obtain ⟨a3, n3, c3, b3, m3, d3, rfl, r3, k3⟩ := h3
  obtain ⟨a4, n4, c4, b4, m4, d4, rfl, r4, k4⟩ := h4
  obtain ⟨a5, n5, c5, b5, m5, d5, rfl, r5, k5⟩ := h5
  exact ⟨_, _, run_bs6 W t0.tag a0 b0 n0 c0 m0 d0 t1.tag a1 b1 n1 c1 m1 d1 t2.tag a2 b2 n2 c2 m2 d2 t3.tag a3 b3 n3 c3 m3 d3 t4.tag a4 b4 n4 c4 m4 d4 t5.tag a5 b5 n5 c5 m5 d5, (Below.refl _ _).alloc (Nat.le_refl _) _, ndsS_lit [.int .i64 t0.tag, .slice a0 n0 c0, .slice b0 m0 d0, .int .i64 t1.tag, .slice a1 n1 c1, .slice b1 m1 d1, .int .i64 t2.tag, .slice a2 n2 c2, .slice b2 m2 d2, .int .i64 t3.tag, .slice a3 n3 c3, .slice b3 m3 d3, .int .i64 t4.tag, .slice a4 n4 c4, .slice b4 m4 d4, .int .i64 t5.tag, .slice a5 n5 c5, .slice b5 m5 d5] [t0, t1, t2, t3, t4, t5] 6 rfl (by omega) (((((((NdCells.nil _ d W).snoc r0 k0).snoc r1 k1).snoc r2 k2).snoc r3 k3).snoc r4 k4).snoc r5 k5) hB⟩
set_option maxHeartbeats 1000000 in
theorem run_bs7 (W : World) (z0 : Int) (a0 b0 : Option Addr) (n0 c0 m0 d0 : Nat) (z1 : Int) (a1 b1 : Option Addr) (n1 c1 m1 d1 : Nat) (z2 : Int) (a2 b2 : Option Addr) (n2 c2 m2 d2 : Nat) (z3 : Int) (a3 b3 : Option Addr) (n3 c3 m3 d3 : Nat) (z4 : Int) (a4 b4 : Option Addr) (n4 c4 m4 d4 : Nat) (z5 : Int) (a5 b5 : Option Addr) (n5 c5 m5 d5 : Nat) (z6 : Int) (a6 b6 : Option Addr) (n6 c6 m6 d6 : Nat) : (Instr.buildSlice 178 7 [(0, .agg #[.int .i64 z0, .slice a0 n0 c0, .slice b0 m0 d0]), (1, .agg #[.int .i64 z1, .slice a1 n1 c1, .slice b1 m1 d1]), (2, .agg #[.int .i64 z2, .slice a2 n2 c2, .slice b2 m2 d2]), (3, .agg #[.int .i64 z3, .slice a3 n3 c3, .slice b3 m3 d3]), (4, .agg #[.int .i64 z4, .slice a4 n4 c4, .slice b4 m4 d4]), (5, .agg #[.int .i64 z5, .slice a5 n5 c5, .slice b5 m5 d5]), (6, .agg #[.int .i64 z6, .slice a6 n6 c6, .slice b6 m6 d6])].toArray).run Tryz.prog W = .ok (.slice (some ⟨W.heap.size, 0, none⟩) 7 7) (W.alloc (.cells #[.int .i64 z0, .slice a0 n0 c0, .slice b0 m0 d0, .int .i64 z1, .slice a1 n1 c1, .slice b1 m1 d1, .int .i64 z2, .slice a2 n2 c2, .slice b2 m2 d2, .int .i64 z3, .slice a3 n3 c3, .slice b3 m3 d3, .int .i64 z4, .slice a4 n4 c4, .slice b4 m4 d4, .int .i64 z5, .slice a5 n5 c5, .slice b5 m5 d5, .int .i64 z6, .slice a6 n6 c6, .slice b6 m6 d6] 180)) := by go_simp
theorem run_nodes7 {B d : Nat} (W : World) (hB : B ≤ W.heap.size) {v0 v1 v2 v3 v4 v5 v6 : Value} {t0 t1 t2 t3 t4 t5 t6 : Nd} (h0 : NdG B d t0 v0 W) (h1 : NdG B d t1 v1 W) (h2 : NdG B d t2 v2 W) (h3 : NdG B d t3 v3 W) (h4 : NdG B d t4 v4 W) (h5 : NdG B d t5 v5 W) (h6 : NdG B d t6 v6 W) : ∃ v' w'', (Instr.buildSlice 178 7 [(0, v0), (1, v1), (2, v2), (3, v3), (4, v4), (5, v5), (6, v6)].toArray).run Tryz.prog W = .ok v' w'' ∧ Ext W w'' ∧ NdsG B (d + 1) [t0, t1, t2, t3, t4, t5, t6] v' w'' := by
  obtain ⟨a0, n0, c0, b0, m0, d0, rfl, r0, k0⟩ := h0
  obtain ⟨a1, n1, c1, b1, m1, d1, rfl, r1, k1⟩ := h1
  obtain ⟨a2, n2, c2, b2, m2, d2, rfl, r2, k2⟩ := h2
  obtain ⟨a3, n3, c3, b3, m3, d3, rfl, r3, k3⟩ := h3
  obtain ⟨a4, n4, c4, b4, m4, d4, rfl, r4, k4⟩ := h4
  obtain ⟨a5, n5, c5, b5, m5, d5, rfl, r5, k5⟩ := h5
  obtain ⟨a6, n6, c6, b6, m6, d6, rfl, r6, k6⟩ := h6
  exact ⟨_, _, run_bs7 W t0.tag a0 b0 n0 c0 m0 d0 t1.tag a1 b1 n1 c1 m1 d1 t2.tag a2 b2 n2 c2 m2 d2 t3.tag a3 b3 n3 c3 m3 d3 t4.tag a4 b4 n4 c4 m4 d4 t5.tag a5 b5 n5 c5 m5 d5 t6.tag a6 b6 n6 c6 m6 d6, (Below.refl _ _).alloc (Nat.le_refl _) _, ndsS_lit [.int .i64 t0.tag, .slice a0 n0 c0, .slice b0 m0 d0, .int .i64 t1.tag, .slice a1 n1 c1, .slice b1 m1 d1, .int .i64 t2.tag, .slice a2 n2 c2, .slice b2 m2 d2, .int .i64 t3.tag, .slice a3 n3 c3, .slice b3 m3 d3, .int .i64 t4.tag, .slice a4 n4 c4, .slice b4 m4 d4, .int .i64 t5.tag, .slice a5 n5 c5, .slice b5 m5 d5, .int .i64 t6.tag, .slice a6 n6 c6, .slice b6 m6 d6] [t0, t1, t2, t3, t4, t5, t6] 7 rfl (by omega) ((((((((NdCells.nil _ d W).snoc r0 k0).snoc r1 k1).snoc r2 k2).snoc r3 k3).snoc r4 k4).snoc r5 k5).snoc r6 k6) hB⟩
section
open Go.Proofs.YtkjplpmogfmhkaaGreatDoor.Gd (GRun)
variable {P : Program} {ops : Array Oper} {Q : Exit → Act → World → Prop} {w0 : World} {R : Act → World → Prop}
/-- append, whatever holes it reads, where it makes a new block. -/
theorem Gd.wpX_appF {o : Oper} {rest : List Oper} {a : Act} {hs : List (Nat × VPred)} {d : Nat} (hg : GRun ops o a hs) (g : VPred) (hst : StableP g) {t : TypeId} {s x : Operand} (sv xv : (Nat → Value) → Value)
    (hd : o.dst = some d) (hz : Nat.blt d a.tmps.size = true) (ho : o.op = .call { callee := .builtin .append, args := #[s, x], argTypes := #[t, t] }) (hin : (opTmps o).all (fun t => Nat.blt t a.tmps.size) = true) (hqs : okOp a s = true) (hqx : okOp a x = true)
    (hs' : ∀ f, evF a hs f s = sv f) (hx' : ∀ f, evF a hs f x = xv f)
    (h : ∀ (m : Lt w0) (f : Nat → Value), (∀ t p, hs.lookup t = some p → (opTmps o).contains t = true → p (f t) m.1) → ∃ v w'', (Builtin.append_ #[t, t] o.type #[sv f, xv f]).run P m.1 = .ok v w'' ∧ Ext m.1 w'' ∧ g v w'')
    (hr : Gd.wpX P ops Q w0 R rest (a.put (some d) undef) ((d, g) :: hs)) : Gd.wpX P ops Q w0 R (o :: rest) a hs :=
  Gd.wpX_useL hg g hst hd hz (by unfold notSelect; rw [ho]) hin (fun m f hf K hK => by
    obtain ⟨v, w'', h1, h2, h3⟩ := h m f hf
    have e1 : (fillH a hs f).eval s = sv f := (Gd.ev_fill hqs).trans (hs' f)
    have e2 : (fillH a hs f).eval x = xv f := (Gd.ev_fill hqx).trans (hx' f)
    unfold Oper.wp execOp
    simp only [ho, resolve, invoke, builtin, Sem.run_bind, Sem.run_pure, Result.andThen_ok, List.map_toArray, List.map_cons, List.map_nil, e1, e2, h1]
    exact hK _ _ (by rw [hd]; show ((fillH a hs f).put (some d) v).defers = _; simp [Act.put, fillH_defers]) ⟨h2, by rw [hd, eval_put_same (Gd.fill_put_size f d hz)]; exact h3⟩) hr
end
/-- New bytes without room behind them. -/
def GF (B : Nat) (l : List UInt8) : VPred := fun v w => ∃ A, v = .slice A l.length l.length ∧ RdS (fun b => B ≤ b) w v (bvs l)
theorem stable_GF (B : Nat) (l : List UInt8) : StableP (GF B l) := fun v w w' e ⟨A, h1, h⟩ => ⟨A, h1, h.map fun b hb hlt => ⟨hb, e.block b hlt⟩⟩
theorem GF.gs {B : Nat} {l : List UInt8} {v : Value} {w : World} (h : GF B l v w) : GS B l v w := by obtain ⟨A, _, k⟩ := h; exact k
theorem gf_bytes {B : Nat} (size : Nat) (x z : Int) (w : World) (hB : B ≤ w.heap.size) (h0 : 0 ≤ x) (h1 : x < 9223372036854775808) (hz : z = (size : Int)) (hs : size ≤ 100) : Calls Tryz.prog 153 #[.int .i64 x, .int .i64 z] w fun e w' => ∃ v, e = .returned v ∧ Ext w w' ∧ GF B (beN size x) v w' :=
  (refbytes_full size x z w h0 h1 hz hs).mono fun e w' ⟨A, h1, h2, h3⟩ => ⟨_, h1, h3, A, by rw [beN_len], RdS.of h2 fun b hb => Nat.le_trans hB hb⟩
theorem run_appFull {B : Nat} {W : World} {ty : TypeId} {v src : Value} {xs ys : List UInt8} (hB : B ≤ W.heap.size) (hx : GF B xs v W) (hy : GS B ys src W) (h1 : 0 < xs.length) (h2 : 0 < ys.length) (hs : xs.length + ys.length ≤ 100000) :
    ∃ v' w'', (Builtin.append_ #[89, 89] ty #[v, src]).run Tryz.prog W = .ok v' w'' ∧ Ext W w'' ∧ GS B (xs ++ ys) v' w'' := by
  obtain ⟨i, z, ht, hi, hz, hsz, hby, hzs⟩ := elemB.ex
  obtain ⟨A, rfl, A', n', c', e, hn, _, _, hcell⟩ := hx
  injection e with e1 e2 e3
  subst e1 e2 e3
  obtain ⟨A2, m, c2, rfl, hm, _, _, hcell2⟩ := hy
  rw [bvs_length] at hm
  subst hm
  obtain ⟨b, o, rfl, _, hc⟩ := hcell h1
  obtain ⟨b2, o2, rfl, _, hc2⟩ := hcell2 h2
  obtain ⟨v', w', k1, k2, k3⟩ := run_append_arg_grows (P := Tryz.prog) W 89 ty 5 i z 1 1 ht hi hz hsz hby hzs (by decide) ⟨b, o, none⟩ xs.length xs.length (bvs xs) (by rw [bvs_length]; omega) (fun j u hu => by rw [Addr.add_lit]; exact hc j u hu) ⟨b2, o2, none⟩ ys.length c2 (bvs ys) (by rw [bvs_length]; omega) (fun j u hu => by rw [Addr.add_lit]; exact hc2 j u hu) (by omega) (by unfold maxLen; omega) (by omega)
  rw [bvs_append] at k2
  exact ⟨v', w', k1, ⟨k3.os, k3.tape, k3.output, k3.size, fun k hk => k3.block k hk (by simp)⟩, RdS.of (ownsRow_own k2) fun b hb => Nat.le_trans hB hb⟩
/-- A leaf by a call of the reference. -/
theorem leafC {B d : Nat} (W : World) (t : Int) {v : Value} {l : List UInt8} (h : GS B l v W) : Calls Tryz.prog 152 #[.int .i64 t, v] W fun e w'' => ∃ v', e = .returned v' ∧ Ext W w'' ∧ NdG B d (leafN t l) v' w'' := by
  obtain ⟨A, n, c, rfl⟩ := h.slice
  exact (leaf_any t A n c W).mono fun e w'' ⟨h1, h2⟩ => ⟨_, h1, h2, _, _, _, _, _, _, rfl, stable_GS B l _ _ _ h2 h, NdsS.nil _ _⟩
theorem RetB.gs {w w' : World} {B : Nat} {l : List UInt8} {e : Ending} (h : RetB w l e w') (hB : B ≤ w.heap.size) : ∃ v, e = .returned v ∧ Ext w w' ∧ GS B l v w' := by
  obtain ⟨A, n, c, h1, h2, h3, h4⟩ := h
  exact ⟨_, h1, h4, RdS.of h3 fun b hb => Nat.le_trans hB hb⟩
theorem gs_str {B : Nat} (W : World) (hB : B ≤ W.heap.size) (l : List UInt8) (hl : l.length ≤ 4096) : ∃ v w'', (convert 9 89 (.string (bstr l))).run Tryz.prog W = .ok v w'' ∧ Ext W w'' ∧ GS B l v w'' := by
  obtain ⟨A, n, c', w2, h1, h2, h3, h4⟩ := run_strBytes W l hl
  exact ⟨_, _, h1, h2, h4.map (fun b hb _ => ⟨Nat.le_trans hB hb, rfl⟩)⟩
theorem gs_lit {B : Nat} (W : World) (hB : B ≤ W.heap.size) (cs : Array Value) (l : List UInt8) (n : Nat) (hn : n = l.length) (hm : n ≤ 100) (hc : cs.toList = bvs l) : GS B l (.slice (some ⟨W.heap.size, 0, none⟩) n n) (W.alloc (.cells cs 5)) := by
  have h := Own.lit W cs 5 n (by rw [hn, ← bvs_length, ← hc]; simp) (by unfold maxLen; omega)
  rw [hc] at h
  exact RdS.of h fun b hb => Nat.le_trans hB hb
/-- A call that returns a new object (by value). -/
def NodeR (w : World) (d : Nat) (t : Nd) (mkv : Value → Value) (e : Ending) (w' : World) : Prop := Ext w w' ∧ ∃ v, NdG w.heap.size d t v w' ∧ e = .returned (mkv v)
end Go.Proofs.YtkjplpmogfmhkaaGreatDoor

namespace Go.Proofs.YtkjplpmogfmhkaaGreatDoor
open Go.RowKit
set_option linter.unusedVariables false
set_option maxRecDepth 100000

/-- A certificate that lies in block g. -/
def TcAt (w : World) (g : Nat) (c : TC) : Prop := w.heap[g]? = some (.cells #[.string (bstr c.au), .string (bstr c.ho), .int .i64 c.key, .int .i64 c.role, .int .i64 c.rights, .int .i64 c.fr, .int .i64 c.to, .int .i64 c.e, .int .i64 c.s] 35 (0, 0))
theorem TcAt.lt {w : World} {g : Nat} {c : TC} (h : TcAt w g c) : g < w.heap.size := block_lt h
theorem TcAt.ext {w w' : World} {g : Nat} {c : TC} (h : TcAt w g c) (e : Ext w w') : TcAt w' g c := (e.block g h.lt).trans h
theorem TcAt.cells {w : World} {g : Nat} {c : TC} (h : TcAt w g c) : w.cell? ⟨g, 0, none⟩ = some (.string (bstr c.au)) ∧ w.cell? ⟨g, 1, none⟩ = some (.string (bstr c.ho)) ∧ w.cell? ⟨g, 2, none⟩ = some (.int .i64 c.key) ∧ w.cell? ⟨g, 3, none⟩ = some (.int .i64 c.role) ∧ w.cell? ⟨g, 4, none⟩ = some (.int .i64 c.rights) ∧ w.cell? ⟨g, 5, none⟩ = some (.int .i64 c.fr) ∧ w.cell? ⟨g, 6, none⟩ = some (.int .i64 c.to) ∧ w.cell? ⟨g, 7, none⟩ = some (.int .i64 c.e) ∧ w.cell? ⟨g, 8, none⟩ = some (.int .i64 c.s) :=
  ⟨cell_of_row w g 0 _ _ _ h, cell_of_row w g 1 _ _ _ h, cell_of_row w g 2 _ _ _ h, cell_of_row w g 3 _ _ _ h, cell_of_row w g 4 _ _ _ h, cell_of_row w g 5 _ _ _ h, cell_of_row w g 6 _ _ _ h, cell_of_row w g 7 _ _ _ h, cell_of_row w g 8 _ _ _ h⟩
theorem TcAt.new (w : World) (c : TC) : TcAt (w.alloc (.cells #[.string (bstr c.au), .string (bstr c.ho), .int .i64 c.key, .int .i64 c.role, .int .i64 c.rights, .int .i64 c.fr, .int .i64 c.to, .int .i64 c.e, .int .i64 c.s] 35)) w.heap.size c := heap_alloc_new' w _
theorem node_back {w w' : World} {rb d : Nat} {t : Nd} {A1 A2 : Option Addr} {n1 c1 n2 c2 B : Nat} (hB : w.heap.size ≤ B) (hrb : rb < B) (r : RdS (fun b => B ≤ b) w' (.slice A1 n1 c1) (bvs t.val)) (k : NdsS (fun b => B ≤ b) d w' (.slice A2 n2 c2) t.kids) (v0 v1 v2 : Value) :
    NdG w.heap.size d t (.agg #[.int .i64 t.tag, .slice A1 n1 c1, .slice A2 n2 c2]) (Go.Proofs.YtkjplpmogfmhkaaGreatDoor.set3 w' rb v0 v1 v2) :=
  ⟨_, _, _, _, _, _, rfl, r.map fun b hb _ => ⟨Nat.le_trans hB hb, set3_block (by have hb : B ≤ b := hb; omega)⟩, k.map fun b hb _ => ⟨Nat.le_trans hB hb, set3_block (by have hb : B ≤ b := hb; omega)⟩⟩
theorem ext_set3 {w w' : World} {rb : Nat} (h : Ext w w') (hrb : w.heap.size ≤ rb) (v0 v1 v2 : Value) : Ext w (Go.Proofs.YtkjplpmogfmhkaaGreatDoor.set3 w' rb v0 v1 v2) :=
  ((h.setCell (p := ⟨rb, 0, none⟩) hrb _).setCell (p := ⟨rb, 1, none⟩) hrb _).setCell (p := ⟨rb, 2, none⟩) hrb _
theorem sm_of {c : TC} (h : ckT c = 0) : smT c := by
  obtain ⟨⟨a1, _⟩, ⟨a2, _⟩, _⟩ := ckT_ok h
  exact ⟨by omega, by omega⟩
def roleB (c : TC) : List UInt8 := [u8 c.role, u8 (c.rights / 256), u8 c.rights]
theorem bvs_role (c : TC) : bvs (roleB c) = [.int .u8 (c.role % 256), .int .u8 (c.rights / 256 % 256), .int .u8 (c.rights % 256)] := by simp [bvs, roleB, bv_u8]
set_option maxHeartbeats 400000 in
theorem tree_ok (c : TC) (w : World) (h : ckT c = 0) : Calls Tryz.prog 273 #[tcV c] w (NodeR w 2 (bodyT c) fun v => .tuple #[v, .int .i64 0]) := by
  obtain ⟨sa, sh⟩ := sm_of h
  have HC := Lib.hid (ckT_ok h)
  have he := (ckT_ok h).2.2.1
  clear h
  obtain ⟨wz, hwz⟩ : ∃ wz, wz = (w.alloc (.cells #[.string (bstr c.au), .string (bstr c.ho), .int .i64 c.key, .int .i64 c.role, .int .i64 c.rights, .int .i64 c.fr, .int .i64 c.to, .int .i64 c.e, .int .i64 c.s] 35)).alloc (.cells #[.int .i64 0, .slice none 0 0, .slice none 0 0] 180) := ⟨_, rfl⟩
  have e1 : Ext w (w.alloc (.cells #[.string (bstr c.au), .string (bstr c.ho), .int .i64 c.key, .int .i64 c.role, .int .i64 c.rights, .int .i64 c.fr, .int .i64 c.to, .int .i64 c.e, .int .i64 c.s] 35)) := (Below.refl _ _).alloc (Nat.le_refl _) _
  have x0 : Ext w wz := by rw [hwz]; exact e1.alloc (by simp) _
  have hc : TcAt wz w.heap.size c := by rw [hwz]; exact (TcAt.new w c).ext ((Below.refl _ _).alloc (Nat.le_refl _) _)
  have hb : C3 wz (w.heap.size + 1) (.int .i64 0) (.slice none 0 0) (.slice none 0 0) := by
    have := C3.new (w.alloc (.cells #[.string (bstr c.au), .string (bstr c.ho), .int .i64 c.key, .int .i64 c.role, .int .i64 c.rights, .int .i64 c.fr, .int .i64 c.to, .int .i64 c.e, .int .i64 c.s] 35)) (.int .i64 0) (.slice none 0 0) (.slice none 0 0)
    rw [show (w.alloc (.cells #[.string (bstr c.au), .string (bstr c.ho), .int .i64 c.key, .int .i64 c.role, .int .i64 c.rights, .int .i64 c.fr, .int .i64 c.to, .int .i64 c.e, .int .i64 c.s] 35)).heap.size = w.heap.size + 1 by simp] at this
    rw [hwz]; exact this
  have hsz : w.heap.size + 1 < wz.heap.size := hb.lt
  unfold tcV
  go_enter Tryz.func273, Tryz.ntmps273
  go_wp2_with fail
  rw [← hwz]
  clear hwz e1
  refine (gencode_any _ _).mono ?_
  rintro e wk ⟨A, n, c', rfl, hn, o, bk⟩
  rw [show elB c.key = be4 c.key from if_pos he] at hn o
  rw [show elK c.key = 0 from if_pos he]
  have ob : GS wz.heap.size (be4 c.key) (.slice A n c') wk := RdS.of o fun b hb => hb
  have hck := hc.ext bk
  have hbk := hb.ex bk
  have xk := x0.tr bk
  clear hn o hc hb
  go_wp2_with fail
  refine Gd.wp_region_X 34 (by kernel_rfl) (by kernel_rfl) ?_
  simp only [List.take_succ_cons, List.take_zero, List.drop_succ_cons, List.drop_zero]
  intro w1 hw1
  have LL : ∀ m : Lt w1, Ext wk m.1 := fun m => hw1.tr m.2
  have v0 : ∀ m : Lt w1, m.1.cell? ⟨w.heap.size, 0, none⟩ = some (.string (bstr c.au)) := fun m => (hck.ext (LL m)).cells.1
  have v1 : ∀ m : Lt w1, m.1.cell? ⟨w.heap.size, 1, none⟩ = some (.string (bstr c.ho)) := fun m => (hck.ext (LL m)).cells.2.1
  have v3 : ∀ m : Lt w1, m.1.cell? ⟨w.heap.size, 3, none⟩ = some (.int .i64 c.role) := fun m => (hck.ext (LL m)).cells.2.2.2.1
  have v4 : ∀ m : Lt w1, m.1.cell? ⟨w.heap.size, 4, none⟩ = some (.int .i64 c.rights) := fun m => (hck.ext (LL m)).cells.2.2.2.2.1
  have v5 : ∀ m : Lt w1, m.1.cell? ⟨w.heap.size, 5, none⟩ = some (.int .i64 c.fr) := fun m => (hck.ext (LL m)).cells.2.2.2.2.2.1
  have v6 : ∀ m : Lt w1, m.1.cell? ⟨w.heap.size, 6, none⟩ = some (.int .i64 c.to) := fun m => (hck.ext (LL m)).cells.2.2.2.2.2.2.1
  have OB : ∀ m : Lt w1, GS wz.heap.size (be4 c.key) (.slice A n c') m.1 := fun m => stable_GS _ _ _ _ _ (LL m) ob
  have BB : ∀ m : Lt w1, wz.heap.size ≤ m.1.heap.size := fun m => Nat.le_trans bk.size (LL m).size
  repeat (refine Gd.wpX_pure (by first | exact trivial | exact ⟨_, rfl, rfl, rfl⟩) rfl rfl rfl rfl rfl (fun K hK => ?_); go_big_quiet_op; refine hK _ ?_; clear hK K)
  refine Gd.wpX_convL (by first | exact trivial | exact ⟨_, rfl, rfl, rfl⟩) (GS wz.heap.size c.au) (stable_GS _ _) (fun _ => .string (bstr c.au)) rfl rfl rfl rfl rfl (fun _ => rfl) (fun m f hf => gs_str m.1 (BB m) c.au sa) ?_
  simp only [Act.put, List.setIfInBounds_toArray, List.set_cons_zero, List.set_cons_succ]
  refine Gd.wpX_buildL (by first | exact trivial | exact ⟨_, rfl, rfl, rfl⟩) (NdG wz.heap.size 1 (leafN 66 c.au)) (stable_NdG _ _ _) (fun f => [(0, .int .i64 66), (1, f 18)]) rfl rfl rfl rfl rfl (fun f => rfl) (fun m f hf => run_leaf m.1 66 (hf 18 _ rfl rfl)) ?_
  simp only [Act.put, List.setIfInBounds_toArray, List.set_cons_zero, List.set_cons_succ]
  repeat (refine Gd.wpX_pure (by first | exact trivial | exact ⟨_, rfl, rfl, rfl⟩) rfl rfl rfl rfl rfl (fun K hK => ?_); go_big_quiet_op; refine hK _ ?_; clear hK K)
  refine Gd.wpX_convL (by first | exact trivial | exact ⟨_, rfl, rfl, rfl⟩) (GS wz.heap.size c.ho) (stable_GS _ _) (fun _ => .string (bstr c.ho)) rfl rfl rfl rfl rfl (fun _ => rfl) (fun m f hf => gs_str m.1 (BB m) c.ho sh) ?_
  simp only [Act.put, List.setIfInBounds_toArray, List.set_cons_zero, List.set_cons_succ]
  refine Gd.wpX_buildL (by first | exact trivial | exact ⟨_, rfl, rfl, rfl⟩) (NdG wz.heap.size 1 (leafN 24352 c.ho)) (stable_NdG _ _ _) (fun f => [(0, .int .i64 24352), (1, f 22)]) rfl rfl rfl rfl rfl (fun f => rfl) (fun m f hf => run_leaf m.1 24352 (hf 22 _ rfl rfl)) ?_
  simp only [Act.put, List.setIfInBounds_toArray, List.set_cons_zero, List.set_cons_succ]
  repeat (refine Gd.wpX_pure (by first | exact trivial | exact ⟨_, rfl, rfl, rfl⟩) rfl rfl rfl rfl rfl (fun K hK => ?_); go_big_quiet_op; refine hK _ ?_; clear hK K)
  refine Gd.wpX_buildL (by first | exact trivial | exact ⟨_, rfl, rfl, rfl⟩) (NdG wz.heap.size 1 (leafN 134 (be4 c.key))) (stable_NdG _ _ _) (fun f => [(0, .int .i64 134), (1, .slice A n c')]) rfl rfl rfl rfl rfl (fun f => rfl) (fun m f hf => run_leaf m.1 134 (OB m)) ?_
  simp only [Act.put, List.setIfInBounds_toArray, List.set_cons_zero, List.set_cons_succ]
  repeat (refine Gd.wpX_pure (by first | exact trivial | exact ⟨_, rfl, rfl, rfl⟩) rfl rfl rfl rfl rfl (fun K hK => ?_); go_big_quiet_op; refine hK _ ?_; clear hK K)
  refine Gd.wpX_buildSL (by first | exact trivial | exact ⟨_, rfl, rfl, rfl⟩) (GS wz.heap.size (roleB c)) (stable_GS _ _) (fun _ => [(0, .int .u8 (c.role % 256)), (1, .int .u8 (c.rights / 256 % 256)), (2, .int .u8 (c.rights % 256))]) rfl rfl rfl rfl rfl (fun _ => rfl) (fun m f hf => ⟨_, _, (by go_simp : (Instr.buildSlice 89 3 [(0, .int .u8 (c.role % 256)), (1, .int .u8 (c.rights / 256 % 256)), (2, .int .u8 (c.rights % 256))].toArray).run Tryz.prog m.1 = .ok (.slice (some ⟨m.1.heap.size, 0, none⟩) 3 3) (m.1.alloc (.cells #[.int .u8 (c.role % 256), .int .u8 (c.rights / 256 % 256), .int .u8 (c.rights % 256)] 5))), (Below.refl _ _).alloc (Nat.le_refl _) _, gs_lit m.1 (BB m) _ (roleB c) 3 rfl (by omega) (bvs_role c).symm⟩) ?_
  simp only [Act.put, List.setIfInBounds_toArray, List.set_cons_zero, List.set_cons_succ]
  refine Gd.wpX_buildL (by first | exact trivial | exact ⟨_, rfl, rfl, rfl⟩) (NdG wz.heap.size 0 (leafN 83 (roleB c))) (stable_NdG _ _ _) (fun f => [(0, .int .i64 83), (1, f 36)]) rfl rfl rfl rfl rfl (fun f => rfl) (fun m f hf => run_leaf m.1 83 (hf 36 _ rfl rfl)) ?_
  simp only [Act.put, List.setIfInBounds_toArray, List.set_cons_zero, List.set_cons_succ]
  refine Gd.wpX_buildSL (by first | exact trivial | exact ⟨_, rfl, rfl, rfl⟩) (NdsG wz.heap.size 1 [leafN 83 (roleB c)]) (stable_NdsG _ _ _) (fun f => [(0, f 37)]) rfl rfl rfl rfl rfl (fun f => rfl) (fun m f hf => run_nodes1 m.1 (BB m) (hf 37 _ rfl rfl)) ?_
  simp only [Act.put, List.setIfInBounds_toArray, List.set_cons_zero, List.set_cons_succ]
  refine Gd.wpX_buildL (by first | exact trivial | exact ⟨_, rfl, rfl, rfl⟩) (NdG wz.heap.size 1 (.mk 32588 [] [leafN 83 (roleB c)])) (stable_NdG _ _ _) (fun f => [(0, .int .i64 32588), (2, f 38)]) rfl rfl rfl rfl rfl (fun f => rfl) (fun m f hf => run_cons m.1 32588 (hf 38 _ rfl rfl)) ?_
  simp only [Act.put, List.setIfInBounds_toArray, List.set_cons_zero, List.set_cons_succ]
  repeat (refine Gd.wpX_pure (by first | exact trivial | exact ⟨_, rfl, rfl, rfl⟩) rfl rfl rfl rfl rfl (fun K hK => ?_); go_big_quiet_op; refine hK _ ?_; clear hK K)
  refine Gd.wpX_callF (by first | exact trivial | exact ⟨_, rfl, rfl, rfl⟩) (GS wz.heap.size (be3 c.fr)) (stable_GS _ _) (fun _ => [.int .i64 c.fr]) rfl rfl rfl rfl rfl (by kernel_rfl) rfl (fun _ => rfl) (fun m f hf => (three_any c.fr m.1).mono fun _ _ h => h.gs (BB m)) ?_
  simp only [Act.put, List.setIfInBounds_toArray, List.set_cons_zero, List.set_cons_succ]
  refine Gd.wpX_buildL (by first | exact trivial | exact ⟨_, rfl, rfl, rfl⟩) (NdG wz.heap.size 1 (leafN 24357 (be3 c.fr))) (stable_NdG _ _ _) (fun f => [(0, .int .i64 24357), (1, f 42)]) rfl rfl rfl rfl rfl (fun f => rfl) (fun m f hf => run_leaf m.1 24357 (hf 42 _ rfl rfl)) ?_
  simp only [Act.put, List.setIfInBounds_toArray, List.set_cons_zero, List.set_cons_succ]
  repeat (refine Gd.wpX_pure (by first | exact trivial | exact ⟨_, rfl, rfl, rfl⟩) rfl rfl rfl rfl rfl (fun K hK => ?_); go_big_quiet_op; refine hK _ ?_; clear hK K)
  refine Gd.wpX_callF (by first | exact trivial | exact ⟨_, rfl, rfl, rfl⟩) (GS wz.heap.size (be3 c.to)) (stable_GS _ _) (fun _ => [.int .i64 c.to]) rfl rfl rfl rfl rfl (by kernel_rfl) rfl (fun _ => rfl) (fun m f hf => (three_any c.to m.1).mono fun _ _ h => h.gs (BB m)) ?_
  simp only [Act.put, List.setIfInBounds_toArray, List.set_cons_zero, List.set_cons_succ]
  refine Gd.wpX_buildL (by first | exact trivial | exact ⟨_, rfl, rfl, rfl⟩) (NdG wz.heap.size 1 (leafN 24356 (be3 c.to))) (stable_NdG _ _ _) (fun f => [(0, .int .i64 24356), (1, f 46)]) rfl rfl rfl rfl rfl (fun f => rfl) (fun m f hf => run_leaf m.1 24356 (hf 46 _ rfl rfl)) ?_
  simp only [Act.put, List.setIfInBounds_toArray, List.set_cons_zero, List.set_cons_succ]
  refine Gd.wpX_buildSL (by first | exact trivial | exact ⟨_, rfl, rfl, rfl⟩) (NdsG wz.heap.size 2 (bodyT c).kids) (stable_NdsG _ _ _) (fun f => [(0, f 19), (1, f 23), (2, f 25), (3, f 39), (4, f 43), (5, f 47)]) rfl rfl rfl rfl rfl (fun f => rfl) (fun m f hf => run_nodes6 m.1 (BB m) (hf 19 _ rfl rfl) (hf 23 _ rfl rfl) (hf 25 _ rfl rfl) (hf 39 _ rfl rfl) (hf 43 _ rfl rfl) (hf 47 _ rfl rfl)) ?_
  simp only [Act.put, List.setIfInBounds_toArray, List.set_cons_zero, List.set_cons_succ]
  refine Gd.wpX_buildL (by first | exact trivial | exact ⟨_, rfl, rfl, rfl⟩) (NdG wz.heap.size 2 (bodyT c)) (stable_NdG _ _ _) (fun f => [(0, .int .i64 32590), (2, f 48)]) rfl rfl rfl rfl rfl (fun f => rfl) (fun m f hf => run_cons m.1 32590 (hf 48 _ rfl rfl)) ?_
  simp only [Act.put, List.setIfInBounds_toArray, List.set_cons_zero, List.set_cons_succ]
  refine Gd.wpX_endL (fun m f hf => ?_)
  obtain ⟨A1, n1, c1, A2, n2, c2, e49, r49, k49⟩ := hf 49 _ rfl
  rw [show (bodyT c).tag = 32590 from rfl] at e49
  simp only [fillH]
  simp only [Act.put, List.setIfInBounds_toArray, List.set_cons_zero, List.set_cons_succ]
  rw [e49]
  have Lm := LL m
  have xm := xk.tr Lm
  obtain ⟨wy, hwy⟩ := m
  clear LL BB OB v0 v1 v3 v4 v5 v6 hf e49
  have hby := hbk.ex Lm
  have NB := Lib.hid (node_back (w := w) (t := bodyT c) x0.size hsz r49 k49 (.int .i64 32590) (.slice A1 n1 c1) (.slice A2 n2 c2))
  clear r49 k49 hck
  obtain ⟨y0, y1, y2, yf0, yf1, yf2⟩ := hby.cells
  obtain ⟨w0', w1', w2', _, _, _⟩ := (hby.set3 (.int .i64 32590) (.slice A1 n1 c1) (.slice A2 n2 c2)).cells
  have hl := hby.lt
  show wpList _ _ _ _ _ _
  go_wp2_with fail
  refine bodyPost_ret (v := .tuple #[.agg #[.int .i64 32590, .slice A1 n1 c1, .slice A2 n2 c2], .int .i64 0]) ?_ rfl ⟨ext_set3 xm (by omega) _ _ _, _, NB.out, rfl⟩
  simp [results, Tryz.results273, go_sem, w0', w1', w2']
end Go.Proofs.YtkjplpmogfmhkaaGreatDoor

namespace Go.Proofs.YtkjplpmogfmhkaaGreatDoor
open Go.RowKit
set_option linter.unusedVariables false
set_option maxRecDepth 100000

set_option maxHeartbeats 400000 in
theorem refbody_ok (c : TC) (w : World) (h : ckT c = 0) : Calls Tryz.prog 272 #[tcV c] w (NodeR w 2 (bodyT c) id) := by
  obtain ⟨sa, sh⟩ := sm_of h
  have HC := Lib.hid (ckT_ok h)
  have he := (ckT_ok h).2.2.1
  clear h
  obtain ⟨wz, hwz⟩ : ∃ wz, wz = (w.alloc (.cells #[.string (bstr c.au), .string (bstr c.ho), .int .i64 c.key, .int .i64 c.role, .int .i64 c.rights, .int .i64 c.fr, .int .i64 c.to, .int .i64 c.e, .int .i64 c.s] 35)).alloc (.cells #[.int .i64 0, .slice none 0 0, .slice none 0 0] 180) := ⟨_, rfl⟩
  have e1 : Ext w (w.alloc (.cells #[.string (bstr c.au), .string (bstr c.ho), .int .i64 c.key, .int .i64 c.role, .int .i64 c.rights, .int .i64 c.fr, .int .i64 c.to, .int .i64 c.e, .int .i64 c.s] 35)) := (Below.refl _ _).alloc (Nat.le_refl _) _
  have x0 : Ext w wz := by rw [hwz]; exact e1.alloc (by simp) _
  have hc : TcAt wz w.heap.size c := by rw [hwz]; exact (TcAt.new w c).ext ((Below.refl _ _).alloc (Nat.le_refl _) _)
  have hb : C3 wz (w.heap.size + 1) (.int .i64 0) (.slice none 0 0) (.slice none 0 0) := by
    have := C3.new (w.alloc (.cells #[.string (bstr c.au), .string (bstr c.ho), .int .i64 c.key, .int .i64 c.role, .int .i64 c.rights, .int .i64 c.fr, .int .i64 c.to, .int .i64 c.e, .int .i64 c.s] 35)) (.int .i64 0) (.slice none 0 0) (.slice none 0 0)
    rw [show (w.alloc (.cells #[.string (bstr c.au), .string (bstr c.ho), .int .i64 c.key, .int .i64 c.role, .int .i64 c.rights, .int .i64 c.fr, .int .i64 c.to, .int .i64 c.e, .int .i64 c.s] 35)).heap.size = w.heap.size + 1 by simp] at this
    rw [hwz]; exact this
  have hsz : w.heap.size + 1 < wz.heap.size := hb.lt
  unfold tcV
  go_enter Tryz.func272, Tryz.ntmps272
  go_wp2_with fail
  rw [← hwz]
  clear hwz e1
  refine (refgencode_any _ _).mono ?_
  rintro e wk ⟨A, n, c', rfl, hn, o, bk⟩
  rw [show elB c.key = be4 c.key from if_pos he] at hn o
  rw [show elK c.key = 0 from if_pos he]
  have ob : GS wz.heap.size (be4 c.key) (.slice A n c') wk := RdS.of o fun b hb => hb
  have hck := hc.ext bk
  have hbk := hb.ex bk
  have xk := x0.tr bk
  clear hn o hc hb
  have r0 : 0 ≤ c.role := by have := HC.out.2.2.2.1; omega
  have r1 : c.role < 9223372036854775808 := by have := HC.out.2.2.2.2.1; omega
  have q0 : 0 ≤ c.rights := HC.out.2.2.2.2.2.1
  have q1 : c.rights < 9223372036854775808 := by have := HC.out.2.2.2.2.2.2.1; omega
  have fr0 : 0 ≤ c.fr := HC.out.2.2.2.2.2.2.2.1
  have to0 : 0 ≤ c.to := by have := HC.out.2.2.2.2.2.2.2.2.1; omega
  have to1 : c.to < 9223372036854775808 := by have := HC.out.2.2.2.2.2.2.2.2.2; omega
  have fr1 : c.fr < 9223372036854775808 := by have := HC.out.2.2.2.2.2.2.2.2.1; omega
  go_wp2_with fail
  refine Gd.wp_region_X 7 (by kernel_rfl) (by kernel_rfl) ?_
  simp only [List.take_succ_cons, List.take_zero, List.drop_succ_cons, List.drop_zero]
  intro w1 hw1
  have LL : ∀ m : Lt w1, Ext wk m.1 := fun m => hw1.tr m.2
  have v3 : ∀ m : Lt w1, m.1.cell? ⟨w.heap.size, 3, none⟩ = some (.int .i64 c.role) := fun m => (hck.ext (LL m)).cells.2.2.2.1
  have v4 : ∀ m : Lt w1, m.1.cell? ⟨w.heap.size, 4, none⟩ = some (.int .i64 c.rights) := fun m => (hck.ext (LL m)).cells.2.2.2.2.1
  have BB : ∀ m : Lt w1, wz.heap.size ≤ m.1.heap.size := fun m => Nat.le_trans bk.size (LL m).size
  repeat (refine Gd.wpX_pure (by first | exact trivial | exact ⟨_, rfl, rfl, rfl⟩) rfl rfl rfl rfl rfl (fun K hK => ?_); go_big_quiet_op; refine hK _ ?_; clear hK K)
  refine Gd.wpX_callF (by first | exact trivial | exact ⟨_, rfl, rfl, rfl⟩) (GF wz.heap.size [u8 c.role]) (stable_GF _ _) (fun _ => [.int .i64 c.role, .int .i64 1]) rfl rfl rfl rfl rfl (by kernel_rfl) rfl (fun _ => rfl) (fun m f hf => gf_bytes 1 c.role 1 m.1 (BB m) r0 r1 rfl (by omega)) ?_
  simp only [Act.put, List.setIfInBounds_toArray, List.set_cons_zero, List.set_cons_succ]
  repeat (refine Gd.wpX_pure (by first | exact trivial | exact ⟨_, rfl, rfl, rfl⟩) rfl rfl rfl rfl rfl (fun K hK => ?_); go_big_quiet_op; refine hK _ ?_; clear hK K)
  refine Gd.wpX_callF (by first | exact trivial | exact ⟨_, rfl, rfl, rfl⟩) (GF wz.heap.size [u8 (c.rights / 256), u8 c.rights]) (stable_GF _ _) (fun _ => [.int .i64 c.rights, .int .i64 2]) rfl rfl rfl rfl rfl (by kernel_rfl) rfl (fun _ => rfl) (fun m f hf => gf_bytes 2 c.rights 2 m.1 (BB m) q0 q1 rfl (by omega)) ?_
  simp only [Act.put, List.setIfInBounds_toArray, List.set_cons_zero, List.set_cons_succ]
  refine Gd.wpX_appF (by first | exact trivial | exact ⟨_, rfl, rfl, rfl⟩) (GS wz.heap.size (roleB c)) (stable_GS _ _) (fun f => f 14) (fun f => f 17) rfl rfl rfl rfl rfl rfl (fun _ => rfl) (fun _ => rfl) (fun m f hf => run_appFull (BB m) (hf 14 _ rfl rfl) (hf 17 _ rfl rfl).gs (by simp) (by simp) (by simp)) ?_
  simp only [Act.put, List.setIfInBounds_toArray, List.set_cons_zero, List.set_cons_succ]
  refine Gd.wpX_endL (fun m f hf => ?_)
  have h18 := hf 18 _ rfl
  simp only [fillH]
  simp only [Act.put, List.setIfInBounds_toArray, List.set_cons_zero, List.set_cons_succ]
  obtain ⟨Aq, nq, cq, e18⟩ := h18.slice
  rw [e18] at h18 ⊢
  have ob2 : GS wz.heap.size (be4 c.key) (.slice A n c') m.1 := stable_GS _ _ _ _ _ (LL m) ob
  have bk2 := bk.tr (LL m)
  have hck2 := hck.ext (LL m)
  have hbk2 := hbk.ex (LL m)
  have xk2 := xk.tr (LL m)
  obtain ⟨wq, hwq⟩ := m
  have oq : GS wz.heap.size (roleB c) (.slice Aq nq cq) wq := h18
  clear LL BB v3 v4 hf e18 h18 ob hck hbk xk bk
  show wpList _ _ _ _ _ _
  go_wp2_with fail
  refine Gd.wp_region_X 24 (by kernel_rfl) (by kernel_rfl) ?_
  simp only [List.take_succ_cons, List.take_zero, List.drop_succ_cons, List.drop_zero]
  intro w1 hw1
  have LL : ∀ m : Lt w1, Ext wq m.1 := fun m => hw1.tr m.2
  have v0 : ∀ m : Lt w1, m.1.cell? ⟨w.heap.size, 0, none⟩ = some (.string (bstr c.au)) := fun m => (hck2.ext (LL m)).cells.1
  have v1 : ∀ m : Lt w1, m.1.cell? ⟨w.heap.size, 1, none⟩ = some (.string (bstr c.ho)) := fun m => (hck2.ext (LL m)).cells.2.1
  have v5 : ∀ m : Lt w1, m.1.cell? ⟨w.heap.size, 5, none⟩ = some (.int .i64 c.fr) := fun m => (hck2.ext (LL m)).cells.2.2.2.2.2.1
  have v6 : ∀ m : Lt w1, m.1.cell? ⟨w.heap.size, 6, none⟩ = some (.int .i64 c.to) := fun m => (hck2.ext (LL m)).cells.2.2.2.2.2.2.1
  have OB : ∀ m : Lt w1, GS wz.heap.size (be4 c.key) (.slice A n c') m.1 := fun m => stable_GS _ _ _ _ _ (LL m) ob2
  have BB : ∀ m : Lt w1, wz.heap.size ≤ m.1.heap.size := fun m => Nat.le_trans bk2.size (LL m).size
  have OR : ∀ m : Lt w1, GS wz.heap.size (roleB c) (.slice Aq nq cq) m.1 := fun m => stable_GS _ _ _ _ _ (LL m) oq
  repeat (refine Gd.wpX_pure (by first | exact trivial | exact ⟨_, rfl, rfl, rfl⟩) rfl rfl rfl rfl rfl (fun K hK => ?_); go_big_quiet_op; refine hK _ ?_; clear hK K)
  refine Gd.wpX_convL (by first | exact trivial | exact ⟨_, rfl, rfl, rfl⟩) (GS wz.heap.size c.au) (stable_GS _ _) (fun _ => .string (bstr c.au)) rfl rfl rfl rfl rfl (fun _ => rfl) (fun m f hf => gs_str m.1 (BB m) c.au sa) ?_
  simp only [Act.put, List.setIfInBounds_toArray, List.set_cons_zero, List.set_cons_succ]
  refine Gd.wpX_callF (by first | exact trivial | exact ⟨_, rfl, rfl, rfl⟩) (NdG wz.heap.size 1 (leafN 66 c.au)) (stable_NdG _ _ _) (fun f => [.int .i64 66, f 21]) rfl rfl rfl rfl rfl (by kernel_rfl) rfl (fun f => rfl) (fun m f hf => leafC m.1 66 (hf 21 _ rfl rfl)) ?_
  simp only [Act.put, List.setIfInBounds_toArray, List.set_cons_zero, List.set_cons_succ]
  repeat (refine Gd.wpX_pure (by first | exact trivial | exact ⟨_, rfl, rfl, rfl⟩) rfl rfl rfl rfl rfl (fun K hK => ?_); go_big_quiet_op; refine hK _ ?_; clear hK K)
  refine Gd.wpX_convL (by first | exact trivial | exact ⟨_, rfl, rfl, rfl⟩) (GS wz.heap.size c.ho) (stable_GS _ _) (fun _ => .string (bstr c.ho)) rfl rfl rfl rfl rfl (fun _ => rfl) (fun m f hf => gs_str m.1 (BB m) c.ho sh) ?_
  simp only [Act.put, List.setIfInBounds_toArray, List.set_cons_zero, List.set_cons_succ]
  refine Gd.wpX_callF (by first | exact trivial | exact ⟨_, rfl, rfl, rfl⟩) (NdG wz.heap.size 1 (leafN 24352 c.ho)) (stable_NdG _ _ _) (fun f => [.int .i64 24352, f 25]) rfl rfl rfl rfl rfl (by kernel_rfl) rfl (fun f => rfl) (fun m f hf => leafC m.1 24352 (hf 25 _ rfl rfl)) ?_
  simp only [Act.put, List.setIfInBounds_toArray, List.set_cons_zero, List.set_cons_succ]
  repeat (refine Gd.wpX_pure (by first | exact trivial | exact ⟨_, rfl, rfl, rfl⟩) rfl rfl rfl rfl rfl (fun K hK => ?_); go_big_quiet_op; refine hK _ ?_; clear hK K)
  refine Gd.wpX_callF (by first | exact trivial | exact ⟨_, rfl, rfl, rfl⟩) (NdG wz.heap.size 1 (leafN 134 (be4 c.key))) (stable_NdG _ _ _) (fun f => [.int .i64 134, .slice A n c']) rfl rfl rfl rfl rfl (by kernel_rfl) rfl (fun f => rfl) (fun m f hf => leafC m.1 134 (OB m)) ?_
  simp only [Act.put, List.setIfInBounds_toArray, List.set_cons_zero, List.set_cons_succ]
  repeat (refine Gd.wpX_pure (by first | exact trivial | exact ⟨_, rfl, rfl, rfl⟩) rfl rfl rfl rfl rfl (fun K hK => ?_); go_big_quiet_op; refine hK _ ?_; clear hK K)
  refine Gd.wpX_callF (by first | exact trivial | exact ⟨_, rfl, rfl, rfl⟩) (NdG wz.heap.size 0 (leafN 83 (roleB c))) (stable_NdG _ _ _) (fun f => [.int .i64 83, .slice Aq nq cq]) rfl rfl rfl rfl rfl (by kernel_rfl) rfl (fun f => rfl) (fun m f hf => leafC m.1 83 (OR m)) ?_
  simp only [Act.put, List.setIfInBounds_toArray, List.set_cons_zero, List.set_cons_succ]
  refine Gd.wpX_buildSL (by first | exact trivial | exact ⟨_, rfl, rfl, rfl⟩) (NdsG wz.heap.size 1 [leafN 83 (roleB c)]) (stable_NdsG _ _ _) (fun f => [(0, f 30)]) rfl rfl rfl rfl rfl (fun f => rfl) (fun m f hf => run_nodes1 m.1 (BB m) (hf 30 _ rfl rfl)) ?_
  simp only [Act.put, List.setIfInBounds_toArray, List.set_cons_zero, List.set_cons_succ]
  refine Gd.wpX_buildL (by first | exact trivial | exact ⟨_, rfl, rfl, rfl⟩) (NdG wz.heap.size 1 (.mk 32588 [] [leafN 83 (roleB c)])) (stable_NdG _ _ _) (fun f => [(0, .int .i64 32588), (2, f 31)]) rfl rfl rfl rfl rfl (fun f => rfl) (fun m f hf => run_cons m.1 32588 (hf 31 _ rfl rfl)) ?_
  simp only [Act.put, List.setIfInBounds_toArray, List.set_cons_zero, List.set_cons_succ]
  repeat (refine Gd.wpX_pure (by first | exact trivial | exact ⟨_, rfl, rfl, rfl⟩) rfl rfl rfl rfl rfl (fun K hK => ?_); go_big_quiet_op; refine hK _ ?_; clear hK K)
  refine Gd.wpX_callF (by first | exact trivial | exact ⟨_, rfl, rfl, rfl⟩) (GS wz.heap.size (be3 c.fr)) (stable_GS _ _) (fun _ => [.int .i64 c.fr, .int .i64 3]) rfl rfl rfl rfl rfl (by kernel_rfl) rfl (fun _ => rfl) (fun m f hf => (refbytes_any 3 c.fr 3 m.1 fr0 fr1 rfl (by omega)).mono fun _ _ h => (beN_3 c.fr ▸ h : RetB _ _ _ _).gs (BB m)) ?_
  simp only [Act.put, List.setIfInBounds_toArray, List.set_cons_zero, List.set_cons_succ]
  refine Gd.wpX_callF (by first | exact trivial | exact ⟨_, rfl, rfl, rfl⟩) (NdG wz.heap.size 1 (leafN 24357 (be3 c.fr))) (stable_NdG _ _ _) (fun f => [.int .i64 24357, f 35]) rfl rfl rfl rfl rfl (by kernel_rfl) rfl (fun f => rfl) (fun m f hf => leafC m.1 24357 (hf 35 _ rfl rfl)) ?_
  simp only [Act.put, List.setIfInBounds_toArray, List.set_cons_zero, List.set_cons_succ]
  repeat (refine Gd.wpX_pure (by first | exact trivial | exact ⟨_, rfl, rfl, rfl⟩) rfl rfl rfl rfl rfl (fun K hK => ?_); go_big_quiet_op; refine hK _ ?_; clear hK K)
  refine Gd.wpX_callF (by first | exact trivial | exact ⟨_, rfl, rfl, rfl⟩) (GS wz.heap.size (be3 c.to)) (stable_GS _ _) (fun _ => [.int .i64 c.to, .int .i64 3]) rfl rfl rfl rfl rfl (by kernel_rfl) rfl (fun _ => rfl) (fun m f hf => (refbytes_any 3 c.to 3 m.1 to0 to1 rfl (by omega)).mono fun _ _ h => (beN_3 c.to ▸ h : RetB _ _ _ _).gs (BB m)) ?_
  simp only [Act.put, List.setIfInBounds_toArray, List.set_cons_zero, List.set_cons_succ]
  refine Gd.wpX_callF (by first | exact trivial | exact ⟨_, rfl, rfl, rfl⟩) (NdG wz.heap.size 1 (leafN 24356 (be3 c.to))) (stable_NdG _ _ _) (fun f => [.int .i64 24356, f 39]) rfl rfl rfl rfl rfl (by kernel_rfl) rfl (fun f => rfl) (fun m f hf => leafC m.1 24356 (hf 39 _ rfl rfl)) ?_
  simp only [Act.put, List.setIfInBounds_toArray, List.set_cons_zero, List.set_cons_succ]
  refine Gd.wpX_buildSL (by first | exact trivial | exact ⟨_, rfl, rfl, rfl⟩) (NdsG wz.heap.size 2 (bodyT c).kids) (stable_NdsG _ _ _) (fun f => [(0, f 22), (1, f 26), (2, f 28), (3, f 32), (4, f 36), (5, f 40)]) rfl rfl rfl rfl rfl (fun f => rfl) (fun m f hf => run_nodes6 m.1 (BB m) (hf 22 _ rfl rfl) (hf 26 _ rfl rfl) (hf 28 _ rfl rfl) (hf 32 _ rfl rfl) (hf 36 _ rfl rfl) (hf 40 _ rfl rfl)) ?_
  simp only [Act.put, List.setIfInBounds_toArray, List.set_cons_zero, List.set_cons_succ]
  refine Gd.wpX_buildL (by first | exact trivial | exact ⟨_, rfl, rfl, rfl⟩) (NdG wz.heap.size 2 (bodyT c)) (stable_NdG _ _ _) (fun f => [(0, .int .i64 32590), (2, f 41)]) rfl rfl rfl rfl rfl (fun f => rfl) (fun m f hf => run_cons m.1 32590 (hf 41 _ rfl rfl)) ?_
  simp only [Act.put, List.setIfInBounds_toArray, List.set_cons_zero, List.set_cons_succ]
  refine Gd.wpX_endL (fun m f hf => ?_)
  obtain ⟨A1, n1, c1, A2, n2, c2, e49, r49, k49⟩ := hf 42 _ rfl
  rw [show (bodyT c).tag = 32590 from rfl] at e49
  simp only [fillH]
  simp only [Act.put, List.setIfInBounds_toArray, List.set_cons_zero, List.set_cons_succ]
  rw [e49]
  have Lm := LL m
  have xm := xk2.tr Lm
  obtain ⟨wy, hwy⟩ := m
  clear LL BB OB OR v0 v1 v5 v6 hf e49
  have hby := hbk2.ex Lm
  have NB := Lib.hid (node_back (w := w) (t := bodyT c) x0.size hsz r49 k49 (.int .i64 32590) (.slice A1 n1 c1) (.slice A2 n2 c2))
  clear r49 k49 hck2
  obtain ⟨y0, y1, y2, yf0, yf1, yf2⟩ := hby.cells
  obtain ⟨w0', w1', w2', _, _, _⟩ := (hby.set3 (.int .i64 32590) (.slice A1 n1 c1) (.slice A2 n2 c2)).cells
  have hl := hby.lt
  show wpList _ _ _ _ _ _
  go_wp2_with fail
  refine bodyPost_ret (v := .agg #[.int .i64 32590, .slice A1 n1 c1, .slice A2 n2 c2]) ?_ rfl ⟨ext_set3 xm (by omega) _ _ _, _, NB.out, rfl⟩
  simp [results, Tryz.results272, go_sem, w0', w1', w2']
end Go.Proofs.YtkjplpmogfmhkaaGreatDoor

namespace Go.Proofs.YtkjplpmogfmhkaaGreatDoor
open Go.RowKit
set_option linter.unusedVariables false
set_option maxRecDepth 100000

theorem Rd.gs0 {w : World} {v : Value} {l : List UInt8} (h : Rd w v (bvs l)) : GS 0 l v w := by
  obtain ⟨A, n, c, h1, h2, h3, h4, h5⟩ := h
  exact ⟨A, n, c, h1, h2, h3, h4, fun h0 => by obtain ⟨b, o, q1, q2⟩ := h5 h0; exact ⟨b, o, q1, Nat.zero_le _, q2⟩⟩
theorem NdG.zero {B d : Nat} {t : Nd} {v : Value} {w : World} (h : NdG B d t v w) : NdG 0 d t v w := by
  obtain ⟨A1, n1, c1, A2, n2, c2, h1, h2, h3⟩ := h
  exact ⟨A1, n1, c1, A2, n2, c2, h1, h2.map fun b _ _ => ⟨Nat.zero_le _, rfl⟩, h3.map fun b _ _ => ⟨Nat.zero_le _, rfl⟩⟩
theorem nds_one {d g : Nat} {W : World} {t : Nd} {A1 A2 : Option Addr} {n1 c1 n2 c2 : Nat} (hg : g = W.heap.size) (h : NdG 0 d t (.agg #[.int .i64 t.tag, .slice A1 n1 c1, .slice A2 n2 c2]) W) :
    NdsRd (d + 1) (W.alloc (.cells #[.int .i64 t.tag, .slice A1 n1 c1, .slice A2 n2 c2] 180)) (.slice (some ⟨g, 0, none⟩) 1 1) [t] := by
  subst hg
  obtain ⟨B1, m1, k1, B2, m2, k2, e, r, k⟩ := h
  injection e with e
  injection e with e
  simp only [List.cons.injEq, Value.slice.injEq, and_true, true_and] at e
  obtain ⟨⟨rfl, rfl, rfl⟩, rfl, rfl, rfl⟩ := e
  exact (ndsS_lit [.int .i64 t.tag, .slice A1 n1 c1, .slice A2 n2 c2] [t] 1 rfl (by omega) ((NdCells.nil _ d W).snoc r k) (Nat.zero_le _)).rd
/-- An object with two objects below it, the second a leaf: three rows. -/
theorem nds_cert {d g1 g2 : Nat} {W : World} {t : Nd} {T S : Int} {l : List UInt8} {A1 A2 A : Option Addr} {n1 c1 n2 c2 n c : Nat} (hg1 : g1 = W.heap.size) (hg2 : g2 = W.heap.size + 1)
    (h : NdG 0 d t (.agg #[.int .i64 t.tag, .slice A1 n1 c1, .slice A2 n2 c2]) W) (hs : GS 0 l (.slice A n c) W) :
    NdsRd (d + 2) ((W.alloc (.cells #[.int .i64 t.tag, .slice A1 n1 c1, .slice A2 n2 c2, .int .i64 S, .slice A n c, .slice none 0 0] 180)).alloc (.cells #[.int .i64 T, .slice none 0 0, .slice (some ⟨g1, 0, none⟩) 2 2] 180)) (.slice (some ⟨g2, 0, none⟩) 1 1) [.mk T [] [t, leafN S l]] := by
  subst hg1
  obtain ⟨B1, m1, k1, B2, m2, k2, e, r, k⟩ := h
  injection e with e
  injection e with e
  simp only [List.cons.injEq, Value.slice.injEq, and_true, true_and] at e
  obtain ⟨⟨rfl, rfl, rfl⟩, rfl, rfl, rfl⟩ := e
  have h2 := ndsS_lit [.int .i64 t.tag, .slice A1 n1 c1, .slice A2 n2 c2, .int .i64 S, .slice A n c, .slice none 0 0] [t, leafN S l] 2 rfl (by omega) (((NdCells.nil _ d W).snoc r k).snoc (t := leafN S l) hs (NdsS.nil _ _)) (Nat.zero_le _)
  exact nds_one (t := .mk T [] [t, leafN S l]) (by rw [hg2]; simp) ⟨_, _, _, _, _, _, rfl, RdS.nil _, h2⟩
theorem cnt_body (c : TC) : cntNs 3 [bodyT c] ≤ 256 := show 8 ≤ 256 by omega
theorem cnt_cert (c : TC) : cntNs 4 [certT c] ≤ 256 := show 10 ≤ 256 by omega
theorem bodyB_4096 {c : TC} (h : ckT c = 0) : (encNs 3 [bodyT c]).length ≤ 4096 := by
  obtain ⟨⟨a1, _⟩, ⟨a2, _⟩, _⟩ := ckT_ok h
  have := bodyB_len a1.2 a2.2
  unfold bodyB at this
  omega
theorem tcB_4096 {c : TC} (h : ckT c = 0) : (encNs 4 [certT c]).length ≤ 4096 := by
  obtain ⟨⟨a1, _⟩, ⟨a2, _⟩, _⟩ := ckT_ok h
  have := tcB_len a1.2 a2.2
  unfold tcB at this
  omega
theorem node_open {B d : Nat} {t : Nd} {v : Value} {w : World} (h : NdG B d t v w) : ∃ (A1 : Option Addr) (n1 c1 : Nat) (A2 : Option Addr) (n2 c2 : Nat), v = .agg #[.int .i64 t.tag, .slice A1 n1 c1, .slice A2 n2 c2] := by
  obtain ⟨A1, n1, c1, A2, n2, c2, h, _⟩ := h
  exact ⟨A1, n1, c1, A2, n2, c2, h⟩
set_option maxHeartbeats 1000000 in
theorem body_any (c : TC) (w : World) (hs : smT c) : Calls Tryz.prog 245 #[tcV c] w (RetRE w (byB c) (ckT c)) := by
  have x0 : Ext w (w.alloc (.cells #[.string (bstr c.au), .string (bstr c.ho), .int .i64 c.key, .int .i64 c.role, .int .i64 c.rights, .int .i64 c.fr, .int .i64 c.to, .int .i64 c.e, .int .i64 c.s] 35)) := (Below.refl _ _).alloc (Nat.le_refl _) _
  unfold tcV
  go_enter Tryz.func245, Tryz.ntmps245
  go_wp2_with fail
  refine (checkP_any c _ hs).mono ?_
  rintro e w1 ⟨rfl, b1⟩
  have x1 := x0.tr b1
  have hT := (TcAt.new w c).ext b1
  by_cases hc : ckT c = 0
  · have HK := Lib.hid hc
    have HB := Lib.hid (show byB c = bodyB c from if_pos hc)
    rw [hc]
    clear hc
    obtain ⟨t0, t1, t2, t3, t4, t5, t6, t7, t8⟩ := hT.cells
    have hl := hT.lt
    go_wp2_with fail
    refine (tree_ok c _ HK.out).mono ?_
    rintro e w2 ⟨b2, v, hv, rfl⟩
    obtain ⟨A1, n1, c1, A2, n2, c2, rfl⟩ := node_open hv
    have x2 := x1.tr b2
    have hv0 := stable_NdG _ _ _ _ _ _ ((Below.refl _ _).alloc (Nat.le_refl _) (.cells #[.int .i64 32590, .slice A1 n1 c1, .slice A2 n2 c2] 180)) hv.zero
    have x3 : Ext w ((w2.alloc (.cells #[.int .i64 32590, .slice A1 n1 c1, .slice A2 n2 c2] 180)).alloc (.cells #[.int .i64 32590, .slice A1 n1 c1, .slice A2 n2 c2] 180)) := (x2.alloc x2.size _).alloc (by simp; have := x2.size; omega) _
    have HV := Lib.hid hv0
    clear hv hv0 t0 t1 t2 t3 t4 t5 t6 t7 t8 hT hl
    rw [show (bodyT c).tag = 32590 from rfl]
    go_wp2_with fail
    refine (encode_ok (d := 3) (ts := [bodyT c]) _ (ok_bodyT c) (nds_one (t := bodyT c) (by simp) HV.out) (by omega) (cnt_body c) (bodyB_4096 HK.out)).mono ?_
    rintro e w4 ⟨A, n, cc, rfl, hn, o, b4⟩
    go_wp2_with fail
    go_ret2
    rw [HB.out, HK.out]
    exact ⟨_, _, _, rfl, hn, o.rd, x3.tr b4⟩
  · have hb : (ckT c != 0) = true := by simpa using hc
    have HB := Lib.hid (show byB c = [] from if_neg hc)
    clear hc
    go_wp2_with fail
    go_ret2
    rw [HB.out]
    exact ⟨_, _, _, rfl, (show _ = _ from rfl), Rd.nil_ _, x1⟩
set_option maxHeartbeats 1000000 in
theorem refbody_any (c : TC) (w : World) (hs : smT c) : Calls Tryz.prog 238 #[tcV c] w (RetRE w (byB c) (ckT c)) := by
  have x0 : Ext w (w.alloc (.cells #[.string (bstr c.au), .string (bstr c.ho), .int .i64 c.key, .int .i64 c.role, .int .i64 c.rights, .int .i64 c.fr, .int .i64 c.to, .int .i64 c.e, .int .i64 c.s] 35)) := (Below.refl _ _).alloc (Nat.le_refl _) _
  unfold tcV
  go_enter Tryz.func238, Tryz.ntmps238
  go_wp2_with fail
  refine (checkR_any c _ hs).mono ?_
  rintro e w1 ⟨rfl, b1⟩
  have x1 := x0.tr b1
  have hT := (TcAt.new w c).ext b1
  by_cases hc : ckT c = 0
  · have HK := Lib.hid hc
    have HB := Lib.hid (show byB c = bodyB c from if_pos hc)
    rw [hc]
    clear hc
    obtain ⟨t0, t1, t2, t3, t4, t5, t6, t7, t8⟩ := hT.cells
    have hl := hT.lt
    go_wp2_with fail
    refine (refbody_ok c _ HK.out).mono ?_
    rintro e w2 ⟨b2, v, hv, rfl⟩
    obtain ⟨A1, n1, c1, A2, n2, c2, rfl⟩ := node_open hv
    have x2 := x1.tr b2
    have x3 : Ext w (w2.alloc (.cells #[.int .i64 32590, .slice A1 n1 c1, .slice A2 n2 c2] 180)) := x2.alloc x2.size _
    have HV := Lib.hid hv.zero
    clear hv t0 t1 t2 t3 t4 t5 t6 t7 t8 hT hl
    rw [show (bodyT c).tag = 32590 from rfl]
    simp only [id]
    go_wp2_with fail
    refine (refencode_ok (d := 3) (ts := [bodyT c]) _ (ok_bodyT c) (nds_one (t := bodyT c) rfl HV.out) (by omega) (cnt_body c) (bodyB_4096 HK.out)).mono ?_
    rintro e w4 ⟨A, n, cc, rfl, hn, o, b4⟩
    go_wp2_with fail
    go_ret2
    rw [HB.out, HK.out]
    exact ⟨_, _, _, rfl, hn, o.rd, x3.tr b4⟩
  · have hb : (ckT c != 0) = true := by simpa using hc
    have HB := Lib.hid (show byB c = [] from if_neg hc)
    clear hc
    go_wp2_with fail
    go_ret2
    rw [HB.out]
    exact ⟨_, _, _, rfl, (show _ = _ from rfl), Rd.nil_ _, x1⟩
end Go.Proofs.YtkjplpmogfmhkaaGreatDoor

namespace Go.Proofs.YtkjplpmogfmhkaaGreatDoor
open Go.RowKit
set_option linter.unusedVariables false
set_option maxRecDepth 100000

theorem encB_ok {e s : Int} (h : encK e s = 0) : encB e s = be4 e ++ be4 s := by
  unfold encK at h
  unfold encB
  split at h
  · rename_i q; rw [if_pos q]
  · cases h
end Go.Proofs.YtkjplpmogfmhkaaGreatDoor

namespace Go.Proofs.YtkjplpmogfmhkaaGreatDoor
open Go.RowKit
set_option linter.unusedVariables false
set_option maxRecDepth 100000

theorem row_set {w : World} {g : Nat} {cs : Array Value} {t : TypeId} {fr : Nat × Nat} (h : w.heap[g]? = some (.cells cs t fr)) (i : Nat) (v : Value) : (w.setCell ⟨g, i, none⟩ v).heap[g]? = some (.cells (cs.setIfInBounds i v) t fr) := by
  simp only [World.setCell, Array.getElem?_modify, if_true, h, Option.map_some]
  rfl
theorem TcAt.frozen {w : World} {g : Nat} {c : TC} (h : TcAt w g c) (i : Nat) : w.frozen? ⟨g, i, none⟩ = false := by
  unfold TcAt at h
  simp [World.frozen?, h]
abbrev set9 (w : World) (g : Nat) (v0 v1 v2 v3 v4 v5 v6 v7 v8 : Value) : World := ((((((((w.setCell ⟨g, 0, none⟩ v0).setCell ⟨g, 1, none⟩ v1).setCell ⟨g, 2, none⟩ v2).setCell ⟨g, 3, none⟩ v3).setCell ⟨g, 4, none⟩ v4).setCell ⟨g, 5, none⟩ v5).setCell ⟨g, 6, none⟩ v6).setCell ⟨g, 7, none⟩ v7).setCell ⟨g, 8, none⟩ v8
abbrev setT (w : World) (g : Nat) (c : TC) : World := set9 w g (.string (bstr c.au)) (.string (bstr c.ho)) (.int .i64 c.key) (.int .i64 c.role) (.int .i64 c.rights) (.int .i64 c.fr) (.int .i64 c.to) (.int .i64 c.e) (.int .i64 c.s)
theorem TcAt.setT {w : World} {g : Nat} {c : TC} (h : TcAt w g c) (d : TC) : TcAt (setT w g d) g d := by
  have h9 := row_set (row_set (row_set (row_set (row_set (row_set (row_set (row_set (row_set h 0 (.string (bstr d.au))) 1 (.string (bstr d.ho))) 2 (.int .i64 d.key)) 3 (.int .i64 d.role)) 4 (.int .i64 d.rights)) 5 (.int .i64 d.fr)) 6 (.int .i64 d.to)) 7 (.int .i64 d.e)) 8 (.int .i64 d.s)
  simp only [List.setIfInBounds_toArray, List.set_cons_zero, List.set_cons_succ] at h9
  exact h9
theorem TcAt.setSig {w : World} {g : Nat} {c : TC} (h : TcAt w g c) (e s : Int) : TcAt ((w.setCell ⟨g, 7, none⟩ (.int .i64 e)).setCell ⟨g, 8, none⟩ (.int .i64 s)) g (updS c e s) := by
  have h9 := row_set (row_set h 7 (.int .i64 e)) 8 (.int .i64 s)
  simp only [List.setIfInBounds_toArray, List.set_cons_zero, List.set_cons_succ] at h9
  exact h9
theorem TcAt.other {w : World} {g b i : Nat} {c : TC} {v : Value} (h : TcAt w g c) (hne : g ≠ b) : TcAt (w.setCell ⟨b, i, none⟩ v) g c := (setCell_block hne).trans h
theorem ext_set {w w' : World} {g i : Nat} {v : Value} (h : Ext w w') (hg : w.heap.size ≤ g) : Ext w (w'.setCell ⟨g, i, none⟩ v) := h.setCell (p := ⟨g, i, none⟩) hg _
theorem ext_setT {w w' : World} {g : Nat} (h : Ext w w') (hg : w.heap.size ≤ g) (c : TC) : Ext w (setT w' g c) :=
  ext_set (ext_set (ext_set (ext_set (ext_set (ext_set (ext_set (ext_set (ext_set h hg) hg) hg) hg) hg) hg) hg) hg) hg
/-- Two blocks: a certificate that came, and the result. -/
structure TwoAt (w wz : World) (c : TC) : Prop where
  ext : Ext w wz
  c : TcAt wz w.heap.size c
  r : TcAt wz (w.heap.size + 1) zeroT
theorem two_alloc (w : World) (c : TC) : ∃ wz, wz = (w.alloc (.cells #[.string (bstr c.au), .string (bstr c.ho), .int .i64 c.key, .int .i64 c.role, .int .i64 c.rights, .int .i64 c.fr, .int .i64 c.to, .int .i64 c.e, .int .i64 c.s] 35)).alloc (.cells #[.string ⟨#[]⟩, .string ⟨#[]⟩, .int .i64 0, .int .i64 0, .int .i64 0, .int .i64 0, .int .i64 0, .int .i64 0, .int .i64 0] 35) ∧ TwoAt w wz c := by
  have e1 : Ext w (w.alloc (.cells #[.string (bstr c.au), .string (bstr c.ho), .int .i64 c.key, .int .i64 c.role, .int .i64 c.rights, .int .i64 c.fr, .int .i64 c.to, .int .i64 c.e, .int .i64 c.s] 35)) := (Below.refl _ _).alloc (Nat.le_refl _) _
  refine ⟨_, rfl, e1.alloc (by simp) _, (TcAt.new w c).ext ((Below.refl _ _).alloc (Nat.le_refl _) _), ?_⟩
  have := TcAt.new (w.alloc (.cells #[.string (bstr c.au), .string (bstr c.ho), .int .i64 c.key, .int .i64 c.role, .int .i64 c.rights, .int .i64 c.fr, .int .i64 c.to, .int .i64 c.e, .int .i64 c.s] 35)) zeroT
  rw [show (w.alloc (.cells #[.string (bstr c.au), .string (bstr c.ho), .int .i64 c.key, .int .i64 c.role, .int .i64 c.rights, .int .i64 c.fr, .int .i64 c.to, .int .i64 c.e, .int .i64 c.s] 35)).heap.size = w.heap.size + 1 by simp] at this
  exact this
theorem TwoAt.tr {w wz wy : World} {c : TC} (h : TwoAt w wz c) (e : Ext wz wy) : TwoAt w wy c := ⟨h.ext.tr e, h.c.ext e, h.r.ext e⟩
set_option maxHeartbeats 1000000 in
theorem refissue_any (k : Int) (c : TC) (w : World) (hs : smT c) (E : KTab w 0) : Calls Tryz.prog 179 #[.int .i64 k, tcV c] w (RetQ w (.tuple #[tcV (isC k c), .int .i64 (isK k c)])) := by
  obtain ⟨wz, hwz, T⟩ := two_alloc w c
  unfold tcV
  go_enter Tryz.func179, Tryz.ntmps179
  go_wp2_with fail
  rw [← hwz]
  clear hwz
  refine (refbody_any c _ hs).mono ?_
  rintro e w1 ⟨A, n, cc, rfl, hn, r, b1⟩
  have T1 := T.tr b1
  clear T
  have x1 := T1.ext
  by_cases hc : ckT c = 0
  · have HK := Lib.hid hc
    rw [hc]
    have hlen := byB_len c
    clear hc
    go_wp2_with fail
    refine (refsign_any k _ r (by omega) (E.below x1)).mono ?_
    rintro e w2 ⟨rfl, b2⟩
    have T2 := T1.tr b2
    have x2 := T2.ext
    clear T1 x1 hn r hlen
    unfold sgV
    rw [show byB c = bodyB c from if_pos HK.out]
    obtain ⟨t0, t1, t2, t3, t4, t5, t6, t7, t8⟩ := T2.c.cells
    have hl := T2.c.lt
    have hlr := T2.r.lt
    have f7 := T2.c.frozen 7
    have f8 := T2.c.frozen 8
    obtain ⟨r0, r1, r2, r3, r4, r5, r6, r7, r8⟩ := T2.r.cells
    have g0 := T2.r.frozen 0
    have g1 := T2.r.frozen 1
    have g2 := T2.r.frozen 2
    have g3 := T2.r.frozen 3
    have g4 := T2.r.frozen 4
    have g5 := T2.r.frozen 5
    have g6 := T2.r.frozen 6
    have g7 := T2.r.frozen 7
    have g8 := T2.r.frozen 8
    by_cases hk : sK k = 0
    · have HI := Lib.hid (show isC k c = updS c (sE k (bodyB c)) (sS k (bodyB c)) from if_pos ⟨HK.out, hk⟩)
      have HJ := Lib.hid (show isK k c = 0 by unfold isK; rw [if_pos HK.out, hk])
      rw [hk]
      clear hk
      generalize sE k (bodyB c) = es at *
      generalize sS k (bodyB c) = ss at *
      obtain ⟨wa, hwa, sa⟩ := sg_alloc w2 es ss
      have hwb := hwa.symm
      clear hwa
      have T3 := T2.tr sa.ext
      have s0 := sa.c0
      have s1 := sa.c1
      have sl := sa.lt
      clear sa
      clear t0 t1 t2 t3 t4 t5 t6 t7 t8 hl hlr f7 f8 r0 r1 r2 r3 r4 r5 r6 r7 r8 g0 g1 g2 g3 g4 g5 g6 g7 g8
      obtain ⟨t0, t1, t2, t3, t4, t5, t6, t7, t8⟩ := T3.c.cells
      have hl := T3.c.lt
      have hlr := T3.r.lt
      have f7 := T3.c.frozen 7
      have f8 := T3.c.frozen 8
      obtain ⟨r0, r1, r2, r3, r4, r5, r6, r7, r8⟩ := T3.r.cells
      have g0 := T3.r.frozen 0
      have g1 := T3.r.frozen 1
      have g2 := T3.r.frozen 2
      have g3 := T3.r.frozen 3
      have g4 := T3.r.frozen 4
      have g5 := T3.r.frozen 5
      have g6 := T3.r.frozen 6
      have g7 := T3.r.frozen 7
      have g8 := T3.r.frozen 8
      go_wp2_with fail
      have TR := (T3.r.other (b := w.heap.size) (i := 7) (v := .int .i64 es) (by omega)).other (b := w.heap.size) (i := 8) (v := .int .i64 ss) (by omega)
      have TZ : TcAt (set9 ((wa.setCell ⟨w.heap.size, 7, none⟩ (.int .i64 es)).setCell ⟨w.heap.size, 8, none⟩ (.int .i64 ss)) (w.heap.size + 1) (.string (bstr c.au)) (.string (bstr c.ho)) (.int .i64 c.key) (.int .i64 c.role) (.int .i64 c.rights) (.int .i64 c.fr) (.int .i64 c.to) (.int .i64 es) (.int .i64 ss)) (w.heap.size + 1) (updS c es ss) := TR.setT (updS c es ss)
      refine bodyPost_ret (v := .tuple #[tcV (updS c es ss), .int .i64 0]) ?_ rfl ⟨by rw [HI.out, HJ.out]; rfl, ext_setT (ext_set (ext_set T3.ext (Nat.le_refl _)) (Nat.le_refl _)) (by omega) (updS c es ss)⟩
      obtain ⟨q0, q1, q2, q3, q4, q5, q6, q7, q8⟩ := TZ.cells
      clear r0 r1 r2 r3 r4 r5 r6 r7 r8 t0 t1 t2 t3 t4 t5 t6 t7 t8
      simp [results, Tryz.results179, go_sem, tcV, q0, q1, q2, q3, q4, q5, q6, q7, q8]
    · have HI := Lib.hid (show isC k c = zeroT from if_neg (fun q => hk q.2))
      have HJ := Lib.hid (show isK k c = sK k from if_pos HK.out)
      have hb : (sK k != 0) = true := by simpa using hk
      clear hk
      generalize sE k (bodyB c) = es at *
      generalize sS k (bodyB c) = ss at *
      obtain ⟨wa, hwa, sa⟩ := sg_alloc w2 es ss
      have hwb := hwa.symm
      clear hwa
      have T3 := T2.tr sa.ext
      have s0 := sa.c0
      have s1 := sa.c1
      have sl := sa.lt
      clear sa
      clear t0 t1 t2 t3 t4 t5 t6 t7 t8 hl hlr f7 f8 r0 r1 r2 r3 r4 r5 r6 r7 r8 g0 g1 g2 g3 g4 g5 g6 g7 g8
      obtain ⟨t0, t1, t2, t3, t4, t5, t6, t7, t8⟩ := T3.c.cells
      have hl := T3.c.lt
      have hlr := T3.r.lt
      have f7 := T3.c.frozen 7
      have f8 := T3.c.frozen 8
      obtain ⟨r0, r1, r2, r3, r4, r5, r6, r7, r8⟩ := T3.r.cells
      have g0 := T3.r.frozen 0
      have g1 := T3.r.frozen 1
      have g2 := T3.r.frozen 2
      have g3 := T3.r.frozen 3
      have g4 := T3.r.frozen 4
      have g5 := T3.r.frozen 5
      have g6 := T3.r.frozen 6
      have g7 := T3.r.frozen 7
      have g8 := T3.r.frozen 8
      go_wp2_with fail
      have TZ : TcAt (set9 wa (w.heap.size + 1) (.string ⟨#[]⟩) (.string ⟨#[]⟩) (.int .i64 0) (.int .i64 0) (.int .i64 0) (.int .i64 0) (.int .i64 0) (.int .i64 0) (.int .i64 0)) (w.heap.size + 1) zeroT := T3.r.setT zeroT
      refine bodyPost_ret (v := .tuple #[tcV zeroT, .int .i64 (sK k)]) ?_ rfl ⟨by rw [HI.out, HJ.out]; rfl, ext_setT T3.ext (by omega) zeroT⟩
      obtain ⟨q0, q1, q2, q3, q4, q5, q6, q7, q8⟩ := TZ.cells
      clear r0 r1 r2 r3 r4 r5 r6 r7 r8 t0 t1 t2 t3 t4 t5 t6 t7 t8
      simp [results, Tryz.results179, go_sem, tcV, q0, q1, q2, q3, q4, q5, q6, q7, q8]
  · have HI := Lib.hid (show isC k c = zeroT from if_neg (fun q => hc q.1))
    have HJ := Lib.hid (show isK k c = ckT c from if_neg hc)
    have hb : (ckT c != 0) = true := by simpa using hc
    clear hc r hn
    obtain ⟨r0, r1, r2, r3, r4, r5, r6, r7, r8⟩ := T1.r.cells
    have hlr := T1.r.lt
    have g0 := T1.r.frozen 0
    have g1 := T1.r.frozen 1
    have g2 := T1.r.frozen 2
    have g3 := T1.r.frozen 3
    have g4 := T1.r.frozen 4
    have g5 := T1.r.frozen 5
    have g6 := T1.r.frozen 6
    have g7 := T1.r.frozen 7
    have g8 := T1.r.frozen 8
    go_wp2_with fail
    refine bodyPost_ret (v := .tuple #[tcV zeroT, .int .i64 (ckT c)]) ?_ rfl ⟨by rw [HI.out, HJ.out]; rfl, ext_setT x1 (by omega) zeroT⟩
    have TZ : TcAt (set9 w1 (w.heap.size + 1) (.string ⟨#[]⟩) (.string ⟨#[]⟩) (.int .i64 0) (.int .i64 0) (.int .i64 0) (.int .i64 0) (.int .i64 0) (.int .i64 0) (.int .i64 0)) (w.heap.size + 1) zeroT := T1.r.setT zeroT
    obtain ⟨q0, q1, q2, q3, q4, q5, q6, q7, q8⟩ := TZ.cells
    clear r0 r1 r2 r3 r4 r5 r6 r7 r8
    simp [results, Tryz.results179, go_sem, tcV, q0, q1, q2, q3, q4, q5, q6, q7, q8]

set_option maxHeartbeats 1000000 in
theorem tverify_any (p : Int) (c : TC) (w : World) (hs : smT c) (E : KTab w 1) : Calls Tryz.prog 187 #[.int .i64 p, tcV c] w (RetQ w (.bool (vfB p c))) := by
  have x0 : Ext w (w.alloc (.cells #[.string (bstr c.au), .string (bstr c.ho), .int .i64 c.key, .int .i64 c.role, .int .i64 c.rights, .int .i64 c.fr, .int .i64 c.to, .int .i64 c.e, .int .i64 c.s] 35)) := (Below.refl _ _).alloc (Nat.le_refl _) _
  unfold tcV
  go_enter Tryz.func187, Tryz.ntmps187
  go_wp2_with fail
  refine (body_any c _ hs).mono ?_
  rintro e w1 ⟨A, n, cc, rfl, hn, r, b1⟩
  have x1 := x0.tr b1
  have hT := (TcAt.new w c).ext b1
  by_cases hc : ckT c = 0
  · have HV := Lib.hid (show vfB p c = verB p (bodyB c) c.e c.s from if_pos hc)
    rw [show byB c = bodyB c from if_pos hc] at r
    have hlen := byB_len c
    rw [show byB c = bodyB c from if_pos hc] at hlen
    rw [hc]
    clear hc
    obtain ⟨_, _, _, _, _, _, _, t7, t8⟩ := hT.cells
    have hl := hT.lt
    go_wp2_with fail
    refine (verify_any p c.e c.s _ r (by omega) (E.below x1)).mono ?_
    rintro e w2 ⟨rfl, b2⟩
    go_wp2_with fail
    go_ret
    exact ⟨by rw [HV.out]; rfl, x1.tr b2⟩
  · have hb : (ckT c == 0) = false := by simpa using hc
    have HV := Lib.hid (show vfB p c = false from if_neg hc)
    clear hc
    go_wp2_with fail
    go_ret
    exact ⟨by rw [HV.out]; rfl, x1⟩

set_option maxHeartbeats 1000000 in
theorem reftverify_any (p : Int) (c : TC) (w : World) (hs : smT c) (E : KTab w 0) : Calls Tryz.prog 192 #[.int .i64 p, tcV c] w (RetQ w (.bool (vfB p c))) := by
  have x0 : Ext w (w.alloc (.cells #[.string (bstr c.au), .string (bstr c.ho), .int .i64 c.key, .int .i64 c.role, .int .i64 c.rights, .int .i64 c.fr, .int .i64 c.to, .int .i64 c.e, .int .i64 c.s] 35)) := (Below.refl _ _).alloc (Nat.le_refl _) _
  unfold tcV
  go_enter Tryz.func192, Tryz.ntmps192
  go_wp2_with fail
  refine (refbody_any c _ hs).mono ?_
  rintro e w1 ⟨A, n, cc, rfl, hn, r, b1⟩
  have x1 := x0.tr b1
  have hT := (TcAt.new w c).ext b1
  by_cases hc : ckT c = 0
  · have HV := Lib.hid (show vfB p c = verB p (bodyB c) c.e c.s from if_pos hc)
    rw [show byB c = bodyB c from if_pos hc] at r
    have hlen := byB_len c
    rw [show byB c = bodyB c from if_pos hc] at hlen
    rw [hc]
    clear hc
    obtain ⟨_, _, _, _, _, _, _, t7, t8⟩ := hT.cells
    have hl := hT.lt
    go_wp2_with fail
    refine (refverify_any p c.e c.s _ r (by omega) (E.below x1)).mono ?_
    rintro e w2 ⟨rfl, b2⟩
    go_wp2_with fail
    go_ret
    exact ⟨by rw [HV.out]; rfl, x1.tr b2⟩
  · have hb : (ckT c == 0) = false := by simpa using hc
    have HV := Lib.hid (show vfB p c = false from if_neg hc)
    clear hc
    go_wp2_with fail
    go_ret
    exact ⟨by rw [HV.out]; rfl, x1⟩
theorem zero_alloc (w : World) : ∃ wz, wz = w.alloc (.cells #[.string ⟨#[]⟩, .string ⟨#[]⟩, .int .i64 0, .int .i64 0, .int .i64 0, .int .i64 0, .int .i64 0, .int .i64 0, .int .i64 0] 35) ∧ Ext w wz ∧ TcAt wz w.heap.size zeroT :=
  ⟨_, rfl, (Below.refl _ _).alloc (Nat.le_refl _) _, TcAt.new w zeroT⟩
theorem tc_alloc (w : World) (c : TC) : ∃ wz, wz = w.alloc (.cells #[.string (bstr c.au), .string (bstr c.ho), .int .i64 c.key, .int .i64 c.role, .int .i64 c.rights, .int .i64 c.fr, .int .i64 c.to, .int .i64 c.e, .int .i64 c.s] 35) ∧ Ext w wz ∧ TcAt wz w.heap.size c :=
  ⟨_, rfl, (Below.refl _ _).alloc (Nat.le_refl _) _, TcAt.new w c⟩
end Go.Proofs.YtkjplpmogfmhkaaGreatDoor
