/- Layer 24 in plain Lean: certificates, their bytes, what bytes are. -/
import Derived.Test.YteilglpdmfiinaaDoorPkd
import Derived.Test.YteilglpdmfiinaaDoorSx
import Derived.Test.YteilglpdmfiinaaDoorSd
namespace Go.Proofs.YteilglpdmfiinaaDoor
open Go.RowKit
set_option linter.unusedVariables false
set_option maxRecDepth 100000

def bstr (l : List UInt8) : ByteArray := ⟨l.toArray⟩
theorem bstr_back (s : ByteArray) : bstr s.data.toList = s := rfl
def upI (z : Int) : Prop := 65 ≤ z ∧ z ≤ 90
def dgI (z : Int) : Prop := 48 ≤ z ∧ z ≤ 57
instance (z : Int) : Decidable (upI z) := inferInstanceAs (Decidable (_ ∧ _))
instance (z : Int) : Decidable (dgI z) := inferInstanceAs (Decidable (_ ∧ _))
/-- A name. -/
def nameP (l : List UInt8) : Prop := (1 ≤ l.length ∧ l.length ≤ 16) ∧ upI (byteI l 0) ∧ ∀ i, i < l.length → upI (byteI l i) ∨ dgI (byteI l i)
instance (l : List UInt8) : Decidable (nameP l) := inferInstanceAs (Decidable (_ ∧ _ ∧ _))
structure TC where
  au : List UInt8
  ho : List UInt8
  key : Int
  role : Int
  rights : Int
  fr : Int
  to : Int
  e : Int
  s : Int
def daysP (fr to : Int) : Prop := 0 ≤ fr ∧ fr ≤ to ∧ to ≤ 73048
instance (fr to : Int) : Decidable (daysP fr to) := inferInstanceAs (Decidable (_ ∧ _))
/-- What Check reports. -/
def ckT (c : TC) : Int :=
  if ¬ nameP c.au ∨ ¬ nameP c.ho then 60 else if isElem c.key = false then 10 else if c.role < 1 ∨ 4 < c.role then 61 else
  if c.rights < 0 ∨ 65535 < c.rights then 62 else if ¬ daysP c.fr c.to then 8 else 0
theorem ckT_ok {c : TC} (h : ckT c = 0) : nameP c.au ∧ nameP c.ho ∧ isElem c.key = true ∧ 1 ≤ c.role ∧ c.role ≤ 4 ∧ 0 ≤ c.rights ∧ c.rights ≤ 65535 ∧ daysP c.fr c.to := by
  unfold ckT at h
  split at h
  · cases h
  · rename_i h1
    split at h
    · cases h
    · rename_i h2
      split at h
      · cases h
      · rename_i h3
        split at h
        · cases h
        · rename_i h4
          split at h
          · cases h
          · rename_i h5
            simp only [not_or, Decidable.not_not] at h1 h5
            exact ⟨h1.1, h1.2, by simpa using h2, by omega, by omega, by omega, by omega, h5⟩
def tcV (c : TC) : Value := .agg #[.string (bstr c.au), .string (bstr c.ho), .int .i64 c.key, .int .i64 c.role, .int .i64 c.rights, .int .i64 c.fr, .int .i64 c.to, .int .i64 c.e, .int .i64 c.s]
def zeroT : TC := ⟨[], [], 0, 0, 0, 0, 0, 0, 0⟩
/-- Three bytes of a number. -/
def be3 (x : Int) : List UInt8 := [u8 (x / 65536), u8 (x / 256), u8 x]
def leafN (t : Int) (l : List UInt8) : Nd := .mk t l []
def bodyT (c : TC) : Nd := .mk 32590 [] [leafN 66 c.au, leafN 24352 c.ho, leafN 134 (be4 c.key), .mk 32588 [] [leafN 83 [u8 c.role, u8 (c.rights / 256), u8 c.rights]], leafN 24357 (be3 c.fr), leafN 24356 (be3 c.to)]
def certT (c : TC) : Nd := .mk 32545 [] [bodyT c, leafN 24375 (be4 c.e ++ be4 c.s)]
def bodyB (c : TC) : List UInt8 := encNs 3 [bodyT c]
def tcB (c : TC) : List UInt8 := encNs 4 [certT c]
/-- A certificate that can be written. -/
def validT' (c : TC) : Prop := ckT c = 0 ∧ encK c.e c.s = 0
theorem be4_num {x : Int} (h0 : 0 ≤ x) (h1 : x < 4294967296) : num (be4 x) = x := by
  simp only [num, be4, List.foldl, u8_val]
  omega
theorem be3_num {x : Int} (h0 : 0 ≤ x) (h1 : x < 16777216) : num (be3 x) = x := by
  simp only [num, be3, List.foldl, u8_val]
  omega
theorem okLeaf {d : Nat} {t : Int} {l : List UInt8} (h0 : 0 ≤ t) (h1 : t < 65536) (hv : validT t = true) (hc : consT t = false) : (0 ≤ (leafN t l).tag ∧ (leafN t l).tag < 65536) ∧ validT (leafN t l).tag = true ∧ (consT (leafN t l).tag = true → (leafN t l).val = []) ∧ (consT (leafN t l).tag = false → (leafN t l).kids = []) ∧ okNs d (leafN t l).kids := by
  refine ⟨⟨h0, h1⟩, hv, fun h => ?_, fun _ => rfl, ?_⟩
  · rw [show (leafN t l).tag = t from rfl, hc] at h; cases h
  · show okNs d []
    cases d with
    | zero => rfl
    | succ d => intro t ht; cases ht
theorem okCons {d : Nat} {t : Int} {ks : List Nd} (h0 : 0 ≤ t) (h1 : t < 65536) (hv : validT t = true) (hc : consT t = true) (hk : okNs d ks) : (0 ≤ (Nd.mk t [] ks).tag ∧ (Nd.mk t [] ks).tag < 65536) ∧ validT (Nd.mk t [] ks).tag = true ∧ (consT (Nd.mk t [] ks).tag = true → (Nd.mk t [] ks).val = []) ∧ (consT (Nd.mk t [] ks).tag = false → (Nd.mk t [] ks).kids = []) ∧ okNs d (Nd.mk t [] ks).kids :=
  ⟨⟨h0, h1⟩, hv, fun _ => rfl, fun h => (by rw [show (Nd.mk t [] ks).tag = t from rfl, hc] at h; cases h), hk⟩
theorem okNs_nil (d : Nat) : okNs d [] := by
  cases d with
  | zero => rfl
  | succ d => intro t ht; cases ht
theorem okNs_cons {d : Nat} {t : Nd} {ts : List Nd} (h : (0 ≤ t.tag ∧ t.tag < 65536) ∧ validT t.tag = true ∧ (consT t.tag = true → t.val = []) ∧ (consT t.tag = false → t.kids = []) ∧ okNs d t.kids) (hs : okNs (d + 1) ts) : okNs (d + 1) (t :: ts) := by
  intro u hu
  rcases List.mem_cons.1 hu with rfl | hu
  · exact h
  · exact hs u hu
theorem ok_bodyT (c : TC) : okNs 3 [bodyT c] := by
  refine okNs_cons (okCons (by decide) (by decide) (by decide) (by decide) ?_) (okNs_nil _)
  refine okNs_cons (okLeaf (by decide) (by decide) (by decide) (by decide)) ?_
  refine okNs_cons (okLeaf (by decide) (by decide) (by decide) (by decide)) ?_
  refine okNs_cons (okLeaf (by decide) (by decide) (by decide) (by decide)) ?_
  refine okNs_cons (okCons (by decide) (by decide) (by decide) (by decide) ?_) ?_
  · exact okNs_cons (okLeaf (by decide) (by decide) (by decide) (by decide)) (okNs_nil _)
  refine okNs_cons (okLeaf (by decide) (by decide) (by decide) (by decide)) ?_
  exact okNs_cons (okLeaf (by decide) (by decide) (by decide) (by decide)) (okNs_nil _)
theorem okNs_up : ∀ (d : Nat) (ts : List Nd), okNs d ts → okNs (d + 1) ts
  | 0, ts, h => by obtain rfl : ts = [] := h; exact okNs_nil _
  | d + 1, ts, h => fun t ht => by
    obtain ⟨h1, h2, h3, h4, h5⟩ := h t ht
    exact ⟨h1, h2, h3, h4, okNs_up d _ h5⟩
theorem ok_certT (c : TC) : okNs 4 [certT c] := by
  refine okNs_cons (okCons (by decide) (by decide) (by decide) (by decide) ?_) (okNs_nil _)
  refine okNs_cons (ok_bodyT c _ (List.mem_singleton.2 rfl)) ?_
  exact okNs_cons (okLeaf (by decide) (by decide) (by decide) (by decide)) (okNs_nil _)
theorem tcB_len {c : TC} (h1 : c.au.length ≤ 16) (h2 : c.ho.length ≤ 16) : (tcB c).length ≤ 200 := by
  have h := encNs_len 4 [certT c]
  have e1 : cntNs 4 [certT c] = 10 := rfl
  have e2 : valNs 4 [certT c] = c.au.length + c.ho.length + 21 := by
    simp only [valNs, certT, bodyT, leafN, Nd.val, Nd.kids, List.map_cons, List.map_nil, List.sum_cons, List.sum_nil, List.length_append, List.length_nil, List.length_cons, be4, be3]
    omega
  unfold tcB
  omega
theorem bodyB_len {c : TC} (h1 : c.au.length ≤ 16) (h2 : c.ho.length ≤ 16) : (bodyB c).length ≤ 200 := by
  have h := encNs_len 3 [bodyT c]
  have e1 : cntNs 3 [bodyT c] = 8 := rfl
  have e2 : valNs 3 [bodyT c] = c.au.length + c.ho.length + 13 := by
    simp only [valNs, bodyT, leafN, Nd.val, Nd.kids, List.map_cons, List.map_nil, List.sum_cons, List.sum_nil, List.length_nil, List.length_cons, be4, be3]
    omega
  unfold bodyB
  omega
/-- The object at the end of a path of tags. -/
def findN : List Nd → List Int → Option Nd
  | _, [] => none
  | ts, p :: ps => match ts.find? (fun t => t.tag == p) with
    | none => none
    | some t => if ps = [] then some t else findN t.kids ps
def valN (ts : List Nd) (p : List Int) : List UInt8 := match findN ts p with
  | none => []
  | some t => t.val
/-- What is read off the objects of a certificate: as the program does, and as the reference does. -/
def numN (ts : List Nd) (p : List Int) : Int := match findN ts p with
  | none => -1
  | some t => if t.val.length ≤ 7 then num t.val else -1
def smallN (l : List UInt8) : Int := if 4 < l.length then -1 else num l
def pA : List Int := [32545, 32590, 66]
def pH : List Int := [32545, 32590, 24352]
def pK : List Int := [32545, 32590, 134]
def pR : List Int := [32545, 32590, 32588, 83]
def pF : List Int := [32545, 32590, 24357]
def pT : List Int := [32545, 32590, 24356]
def pS : List Int := [32545, 24375]
def xP (ts : List Nd) : Option TC :=
  if (valN ts pK).length = 4 ∧ isElem (num (valN ts pK)) = true ∧ 0 ≤ numN ts pR ∧ dcK (valN ts pS) = 0 then
    some ⟨valN ts pA, valN ts pH, num (valN ts pK), numN ts pR / 65536, numN ts pR % 65536, numN ts pF, numN ts pT, dcE (valN ts pS), dcS (valN ts pS)⟩
  else none
def xR (ts : List Nd) : Option TC :=
  if dcK (valN ts pS) = 0 ∧ (valN ts pR).length = 3 then
    some ⟨valN ts pA, valN ts pH, smallN (valN ts pK), byteI (valN ts pR) 0, num ((valN ts pR).drop 1), smallN (valN ts pF), smallN (valN ts pT), dcE (valN ts pS), dcS (valN ts pS)⟩
  else none
theorem encK_ok {e s : Int} (h : encK e s = 0) : (0 ≤ e ∧ e < 1073741789) ∧ 0 ≤ s ∧ s < 1073741789 := by
  unfold encK at h
  split at h
  · rename_i q
    exact ⟨inB_true q.1, inB_true q.2⟩
  · cases h
theorem dc_encT {e s : Int} (h : encK e s = 0) : dcK (be4 e ++ be4 s) = 0 ∧ dcE (be4 e ++ be4 s) = e ∧ dcS (be4 e ++ be4 s) = s := by
  obtain ⟨⟨e0, e1⟩, s0, s1⟩ := encK_ok h
  have n1 := be4_num (x := e) e0 (by omega)
  have n2 := be4_num (x := s) s0 (by omega)
  have hl : (be4 e ++ be4 s).length = 8 := rfl
  have ht : (be4 e ++ be4 s).take 4 = be4 e := rfl
  have hd : (be4 e ++ be4 s).drop 4 = be4 s := rfl
  have hok : dcOk (be4 e ++ be4 s) := by
    unfold dcOk
    rw [ht, hd, n1, n2]
    exact ⟨inB_yes e0 e1, inB_yes s0 s1⟩
  unfold dcK dcE dcS
  rw [if_pos hl, if_pos hok, if_pos ⟨hl, hok⟩, if_pos ⟨hl, hok⟩, ht, hd]
  exact ⟨rfl, n1, n2⟩
theorem xP_cert {c : TC} (h : validT' c) : xP [certT c] = some c := by
  obtain ⟨hk, he⟩ := h
  obtain ⟨h1, h2, h3, h4, h5, h6, h7, h8, h9, h10⟩ := ckT_ok hk
  obtain ⟨d1, d2, d3⟩ := dc_encT he
  have k0 := isElem_in h3
  have vA : valN [certT c] pA = c.au := rfl
  have vH : valN [certT c] pH = c.ho := rfl
  have vK : valN [certT c] pK = be4 c.key := rfl
  have vR : numN [certT c] pR = num [u8 c.role, u8 (c.rights / 256), u8 c.rights] := rfl
  have vF : numN [certT c] pF = num (be3 c.fr) := rfl
  have vT : numN [certT c] pT = num (be3 c.to) := rfl
  have vS : valN [certT c] pS = be4 c.e ++ be4 c.s := rfl
  have nR : num [u8 c.role, u8 (c.rights / 256), u8 c.rights] = 65536 * c.role + c.rights := by
    simp only [num, List.foldl, u8_val]
    omega
  unfold xP
  rw [vA, vH, vK, vR, vF, vT, vS, nR, be4_num (by omega) (by omega), be3_num h8 (by omega), be3_num (by omega) (by omega), d1, d2, d3, if_pos ⟨rfl, h3, by omega, rfl⟩]
  have q1 : (65536 * c.role + c.rights) / 65536 = c.role := by omega
  have q2 : (65536 * c.role + c.rights) % 65536 = c.rights := by omega
  rw [q1, q2]
theorem xR_cert {c : TC} (h : validT' c) : xR [certT c] = some c := by
  obtain ⟨hk, he⟩ := h
  obtain ⟨h1, h2, h3, h4, h5, h6, h7, h8, h9, h10⟩ := ckT_ok hk
  obtain ⟨d1, d2, d3⟩ := dc_encT he
  have k0 := isElem_in h3
  have vA : valN [certT c] pA = c.au := rfl
  have vH : valN [certT c] pH = c.ho := rfl
  have vK : smallN (valN [certT c] pK) = num (be4 c.key) := rfl
  have vR : valN [certT c] pR = [u8 c.role, u8 (c.rights / 256), u8 c.rights] := rfl
  have vF : smallN (valN [certT c] pF) = num (be3 c.fr) := rfl
  have vT : smallN (valN [certT c] pT) = num (be3 c.to) := rfl
  have vS : valN [certT c] pS = be4 c.e ++ be4 c.s := rfl
  have nR : byteI [u8 c.role, u8 (c.rights / 256), u8 c.rights] 0 = c.role := by
    show ((u8 c.role).toNat : Int) = _
    rw [u8_val]; omega
  have nQ : num [u8 (c.rights / 256), u8 c.rights] = c.rights := by
    rw [num_two, u8_val, u8_val]; omega
  unfold xR
  rw [vA, vH, vK, vR, vF, vT, vS, nR, be4_num (by omega) (by omega), be3_num h8 (by omega), be3_num (by omega) (by omega), d1, d2, d3, if_pos ⟨rfl, rfl⟩]
  rw [show [u8 c.role, u8 (c.rights / 256), u8 c.rights].drop 1 = [u8 (c.rights / 256), u8 c.rights] from rfl, nQ]
/-- What a certificate's bytes are read as. -/
theorem parse_tcB {c : TC} (h : validT' c) : objsP 1 0 (tcB c) = some ([certT c], 10) := by
  obtain ⟨⟨a1, _⟩, ⟨a2, _⟩, _⟩ := ckT_ok h.1
  have hl := tcB_len a1.2 a2.2
  exact objsP_enc 4 [certT c] 1 0 (ok_certT c) (by decide) (show 0 + 10 ≤ 256 by decide) (by unfold tcB at hl; omega)
theorem tcB_inj {c d : TC} (hc : validT' c) (hd : validT' d) (h : tcB c = tcB d) : c = d := by
  have h1 := parse_tcB hc
  rw [h, parse_tcB hd] at h1
  have h2 : [certT d] = [certT c] := congrArg Prod.fst (Option.some.inj h1)
  have h3 := xP_cert hc
  rw [← h2, xP_cert hd] at h3
  exact (Option.some.inj h3).symm
/-- Which certificate bytes are. -/
noncomputable def decT (b : List UInt8) : Option TC := open Classical in if h : ∃ c, validT' c ∧ tcB c = b then some (Classical.choose h) else none
theorem decT_of {c : TC} (h : validT' c) : decT (tcB c) = some c := by
  have he : ∃ d, validT' d ∧ tcB d = tcB c := ⟨c, h, rfl⟩
  unfold decT
  rw [dif_pos he]
  obtain ⟨h1, h2⟩ := Classical.choose_spec he
  rw [tcB_inj h1 h h2]
/-- Bytes that are read by an extraction which knows certificates, and written again. -/
theorem decT_by {x : List Nd → Option TC} (hx : ∀ c, validT' c → x [certT c] = some c) (b : List UInt8) :
    decT b = match objsP 1 0 b with
      | none => none
      | some (ts, _) => match x ts with
        | none => none
        | some c => open Classical in if validT' c ∧ tcB c = b then some c else none := by
  by_cases he : ∃ c, validT' c ∧ tcB c = b
  · obtain ⟨c, h, rfl⟩ := he
    rw [decT_of h, parse_tcB h]
    simp only []
    rw [hx c h]
    simp only []
    rw [if_pos ⟨h, rfl⟩]
  · have hd : decT b = none := by unfold decT; rw [dif_neg he]
    rw [hd]
    split
    · rfl
    · split
      · rfl
      · rename_i c _
        rw [if_neg (fun h => he ⟨c, h⟩)]
end Go.Proofs.YteilglpdmfiinaaDoor
