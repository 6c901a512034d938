/- Parts Zd of the proof. -/
import Derived.Test.YtkjplpmogfmhkaaGreatDoorWat
import Derived.Test.YtkjplpmogfmhkaaGreatDoorWaj
namespace Go.Proofs.YtkjplpmogfmhkaaGreatDoor
open Go.RowKit
set_option linter.unusedVariables false
set_option maxRecDepth 100000
def utoZ : List UInt8 := [85, 84, 79]
def deuN : List UInt8 := [68]
def xomN : List UInt8 := [88, 79, 77]
def zzzN : List UInt8 := [90, 90, 90]
def stateN (n : Int) : List UInt8 := if modI n 4 = 0 then utoZ else if modI n 4 = 1 then deuN else if modI n 4 = 2 then xomN else zzzN
theorem state_utoZ : stateP utoZ := by decide
theorem state_deu : stateP deuN := by decide
theorem stateN_ok (n : Int) : stateP (stateN n) := by
 unfold stateN
 split
 · exact state_utoZ
 · split
   · exact state_deu
   · split
     · exact (by decide : stateP xomN)
     · exact (by decide : stateP zzzN)
def natC (k : Int) (st : List UInt8) (kind num iss own key fr un td : Int) : NC := isCN k ⟨st, kind, num, iss, own, key, fr, un, td, 0, 0⟩
structure IsNat (c : NC) (st : List UInt8) (kind num iss own key fr un td p : Int) : Prop where
 ck : ckN c = 0
 st : c.st = st
 kind : c.kind = kind
 num : c.num = num
 iss : c.iss = iss
 own : c.own = own
 key : c.key = key
 fr : c.fr = fr
 un : c.un = un
 tdd : c.to = td
 vf : vfN p c = true
theorem isNat {k : Int} {st : List UInt8} {kind num iss own key fr un td : Int} (hk : inB 1 1073741789 k = true) (h1 : stateP st) (h2 : 1 ≤ kind ∧ kind ≤ 4) (h3 : numsP num iss own kind) (h4 : isElem key = true) (h5 : termP fr un td) :
 IsNat (natC k st kind num iss own key fr un td) st kind num iss own key fr un td (pw 4 k) := by
 have hc : ckN ⟨st, kind, num, iss, own, key, fr, un, td, 0, 0⟩ = 0 := ckN_yes h1 (by show ¬ (kind < 1 ∨ 4 < kind); omega) h3 h4 h5
 have hv := vfN_issue hk hc
 have hw := (validN_issue hk hc).1
 unfold natC
 rw [isCN_in hk hc] at hv hw ⊢
 exact ⟨hw, rfl, rfl, rfl, rfl, rfl, rfl, rfl, rfl, rfl, hv⟩
theorem isNat_key {k : Int} {st : List UInt8} {kind num iss own key fr un td : Int} {c : NC} (h : IsNat c st kind num iss own key fr un td k) : smN c := sm_ofN h.ck
theorem IsNat.on {c : NC} {st : List UInt8} {kind num iss own key fr un td p day : Int} (h : IsNat c st kind num iss own key fr un td p) (h1 : fr ≤ day) (h2 : day ≤ td) : onN c day = 0 := by
 unfold onN
 rw [if_pos h.ck, if_neg (by rw [h.fr]; omega), if_neg (by rw [h.tdd]; omega)]
structure AU where
 st : List UInt8
 next : Int
 roots : List NC
 links : List NC
 secs : List Int
 sg : NC
 ls : NC
 ssec : Int
 lsec : Int
def keyK (a : AU) (seed : Int) : Int := nearI (seed * 97 + (a.secs.length : Int) * 13)
def keyS (a : AU) (seed : Int) : Int := nearI (seed * 89 + (a.secs.length : Int) * 7 + 1)
def keyL (a : AU) (seed : Int) : Int := nearI (seed * 83 + (a.secs.length : Int) * 5 + 2)
def keyN (a : AU) : Int := if a.secs.length = 0 then a.next + 1 else a.next + 1 + 1
def rootC (a : AU) (seed day : Int) : NC := natC (keyK a seed) a.st 1 a.next ((a.secs.length : Int) + 1) ((a.secs.length : Int) + 1) (pw 4 (keyK a seed)) day (day + 1825) (day + 5475)
def linkC (a : AU) (seed day : Int) : NC := natC (a.secs.getD (a.secs.length - 1) 0) a.st 2 (a.next + 1) (a.secs.length : Int) ((a.secs.length : Int) + 1) (pw 4 (keyK a seed)) day (day + 1825) (day + 5475)
def signC (a : AU) (seed day : Int) : NC := natC (keyK a seed) a.st 3 (keyN a) ((a.secs.length : Int) + 1) (1000 + keyN a) (pw 4 (keyS a seed)) day (day + 90) (day + 3740)
def listC (a : AU) (seed day : Int) : NC := natC (keyK a seed) a.st 4 (keyN a + 1) ((a.secs.length : Int) + 1) (1000 + (keyN a + 1)) (pw 4 (keyL a seed)) day (day + 365) (day + 730)
def keyA (a : AU) (seed day : Int) : AU :=
 ⟨a.st, keyN a + 1 + 1, a.roots ++ [rootC a seed day], (if a.secs.length = 0 then a.links else a.links ++ [linkC a seed day]), a.secs ++ [keyK a seed], signC a seed day, listC a seed day, keyS a seed, keyL a seed⟩
def zeroA (st : List UInt8) : AU := ⟨st, 1, [], [], [], zeroN, zeroN, 0, 0⟩
theorem nearI_in (x : Int) : inB 1 1073741789 (nearI x) = true := near_in x
theorem elem_near (x : Int) : isElem (pw 4 (nearI x)) = true := by
 obtain ⟨h0, h1⟩ := inB_true (nearI_in x)
 exact pub_elem h0 h1
structure AuI (a : AU) (ds : List Int) : Prop where
 st : stateP a.st
 len : a.secs.length = ds.length
 le : ds.length ≤ 8
 next : 1 ≤ a.next ∧ a.next ≤ 1 + 4 * (ds.length : Int)
 days : ∀ d ∈ ds, 40000 ≤ d ∧ d ≤ 42000
 rlen : a.roots.length = ds.length
 llen : a.links.length = ds.length - 1
 sec : ∀ k ∈ a.secs, inB 1 1073741789 k = true
 rt : ∀ (i : Nat) (c : NC), a.roots[i]? = some c → ∃ k d num : Int, a.secs[i]? = some k ∧ ds[i]? = some d ∧ 1 ≤ num ∧ num ≤ 100 ∧ IsNat c a.st 1 num ((i : Int) + 1) ((i : Int) + 1) (pw 4 k) d (d + 1825) (d + 5475) (pw 4 k)
 lk : ∀ (i : Nat) (c : NC), a.links[i]? = some c → ∃ k k' d num : Int, a.secs[i]? = some k ∧ a.secs[i + 1]? = some k' ∧ ds[i + 1]? = some d ∧ 1 ≤ num ∧ num ≤ 100 ∧ IsNat c a.st 2 num ((i : Int) + 1) ((i : Int) + 1 + 1) (pw 4 k') d (d + 1825) (d + 5475) (pw 4 k)
 sg : ds ≠ [] → ∃ k d num : Int, a.secs[ds.length - 1]? = some k ∧ ds[ds.length - 1]? = some d ∧ 1 ≤ num ∧ num ≤ 100 ∧ inB 1 1073741789 a.ssec = true ∧ IsNat a.sg a.st 3 num (ds.length : Int) (1000 + num) (pw 4 a.ssec) d (d + 90) (d + 3740) (pw 4 k)
 ls : ds ≠ [] → ∃ k d num : Int, a.secs[ds.length - 1]? = some k ∧ ds[ds.length - 1]? = some d ∧ 1 ≤ num ∧ num ≤ 100 ∧ inB 1 1073741789 a.lsec = true ∧ IsNat a.ls a.st 4 num (ds.length : Int) (1000 + num) (pw 4 a.lsec) d (d + 365) (d + 730) (pw 4 k)
 ne : ds ≠ [] → a.sg.num ≠ a.ls.num
theorem auI_zero {st : List UInt8} (h : stateP st) : AuI (zeroA st) [] :=
 ⟨h, rfl, Nat.zero_le _, ⟨by show (1 : Int) ≤ 1; omega, by show (1 : Int) ≤ 1 + 4 * 0; omega⟩, fun d hd => (by cases hd), rfl, rfl, fun k hk => (by cases hk), fun i c hc => (by cases hc), fun i c hc => (by cases hc), fun q => absurd rfl q, fun q => absurd rfl q, fun q => absurd rfl q⟩
theorem snoc_get {α : Type} {l : List α} {x y : α} {i : Nat} (h : (l ++ [x])[i]? = some y) : l[i]? = some y ∨ (i = l.length ∧ y = x) := by
 by_cases hi : i < l.length
 · rw [List.getElem?_append_left hi] at h
   exact .inl h
 · rw [List.getElem?_append_right (by omega)] at h
   have h0 : i - l.length = 0 := by
    have := (List.getElem?_eq_some_iff.1 h).1
    simpa using this
   rw [h0] at h
   exact .inr ⟨by omega, (Option.some.inj h).symm⟩
theorem snoc_old {α : Type} {l : List α} {x y : α} {i : Nat} (h : l[i]? = some y) : (l ++ [x])[i]? = some y := by
 rw [List.getElem?_append_left (List.getElem?_eq_some_iff.1 h).1]
 exact h
theorem snoc_new {α : Type} (l : List α) (x : α) {n : Nat} (h : n = l.length) : (l ++ [x])[n]? = some x := by
 subst h
 simp
theorem keyN_eq (a : AU) : keyN a = a.next + 1 ∨ keyN a = a.next + 1 + 1 := by
 unfold keyN
 split
 · exact .inl rfl
 · exact .inr rfl
theorem auI_key {a : AU} {ds : List Int} (h : AuI a ds) (seed : Int) {day : Int} (h0 : 40000 ≤ day) (h1 : day ≤ 42000) (h8 : ds.length < 8) : AuI (keyA a seed day) (ds ++ [day]) := by
 have hn := h.next
 have hk := keyN_eq a
 have hl := h.len
 have hle : (a.secs.length : Int) ≤ 7 := by rw [hl]; omega
 have kin : inB 1 1073741789 (keyK a seed) = true := nearI_in _
 have hroot : IsNat (rootC a seed day) a.st 1 a.next ((ds.length : Int) + 1) ((ds.length : Int) + 1) (pw 4 (keyK a seed)) day (day + 1825) (day + 5475) (pw 4 (keyK a seed)) := by
  have := isNat (k := keyK a seed) (st := a.st) (kind := 1) (num := a.next) (iss := (a.secs.length : Int) + 1) (own := (a.secs.length : Int) + 1) (key := pw 4 (keyK a seed)) (fr := day) (un := day + 1825) (td := day + 5475) kin h.st ⟨by omega, by omega⟩
   ⟨⟨by omega, by omega⟩, ⟨by omega, by omega⟩, ⟨by omega, by omega⟩, ⟨fun _ => rfl, fun _ => rfl⟩⟩ (elem_near _) ⟨by omega, by omega, by omega, by omega⟩
  rw [show (ds.length : Int) = (a.secs.length : Int) by rw [hl]]
  exact this
 have hsign : IsNat (signC a seed day) a.st 3 (keyN a) ((ds.length : Int) + 1) (1000 + keyN a) (pw 4 (keyS a seed)) day (day + 90) (day + 3740) (pw 4 (keyK a seed)) := by
  have := isNat (k := keyK a seed) (st := a.st) (kind := 3) (num := keyN a) (iss := (a.secs.length : Int) + 1) (own := 1000 + keyN a) (key := pw 4 (keyS a seed)) (fr := day) (un := day + 90) (td := day + 3740) kin h.st ⟨by omega, by omega⟩
   ⟨⟨by omega, by omega⟩, ⟨by omega, by omega⟩, ⟨by omega, by omega⟩, ⟨fun _ => by omega, fun _ => by omega⟩⟩ (elem_near _) ⟨by omega, by omega, by omega, by omega⟩
  rw [show (ds.length : Int) = (a.secs.length : Int) by rw [hl]]
  exact this
 have hlist : IsNat (listC a seed day) a.st 4 (keyN a + 1) ((ds.length : Int) + 1) (1000 + (keyN a + 1)) (pw 4 (keyL a seed)) day (day + 365) (day + 730) (pw 4 (keyK a seed)) := by
  have := isNat (k := keyK a seed) (st := a.st) (kind := 4) (num := keyN a + 1) (iss := (a.secs.length : Int) + 1) (own := 1000 + (keyN a + 1)) (key := pw 4 (keyL a seed)) (fr := day) (un := day + 365) (td := day + 730) kin h.st ⟨by omega, by omega⟩
   ⟨⟨by omega, by omega⟩, ⟨by omega, by omega⟩, ⟨by omega, by omega⟩, ⟨fun _ => by omega, fun _ => by omega⟩⟩ (elem_near _) ⟨by omega, by omega, by omega, by omega⟩
  rw [show (ds.length : Int) = (a.secs.length : Int) by rw [hl]]
  exact this
 have el : (ds ++ [day]).length = ds.length + 1 := by simp
 have ec : (((ds ++ [day]).length : Nat) : Int) = (ds.length : Int) + 1 := by rw [el]; omega
 refine ⟨h.st, ?_, by rw [el]; omega, ?_, ?_, ?_, ?_, ?_, ?_, ?_, ?_, ?_, ?_⟩
 · show (a.secs ++ [_]).length = _
   rw [List.length_append, el, hl]
   rfl
 · show 1 ≤ keyN a + 1 + 1 ∧ keyN a + 1 + 1 ≤ _
   rw [ec]
   omega
 · intro d hd
   rcases List.mem_append.1 hd with hd | hd
   · exact h.days d hd
   · rw [List.mem_singleton.1 hd]; exact ⟨h0, h1⟩
 · show (a.roots ++ [_]).length = _
   rw [List.length_append, el, h.rlen]
   rfl
 · show (if a.secs.length = 0 then a.links else a.links ++ [linkC a seed day]).length = _
   rw [el]
   have := h.llen
   split
   · rename_i q
     rw [this]; omega
   · rename_i q
     rw [List.length_append, this]
     show ds.length - 1 + 1 = _
     omega
 · intro k hk
   rcases List.mem_append.1 hk with hk | hk
   · exact h.sec k hk
   · rw [List.mem_singleton.1 hk]; exact kin
 · intro i c hc
   rcases snoc_get hc with hc | ⟨hi, rfl⟩
   · obtain ⟨k, d, num, q1, q2, q3, q4, q5⟩ := h.rt i c hc
     exact ⟨k, d, num, snoc_old q1, snoc_old q2, q3, q4, q5⟩
   · rw [h.rlen] at hi
     subst hi
     exact ⟨_, _, _, snoc_new _ _ hl.symm, snoc_new _ _ rfl, hn.1, by omega, hroot⟩
 · intro i c hc
   by_cases h00 : a.secs.length = 0
   · have hc' : (if a.secs.length = 0 then a.links else a.links ++ [linkC a seed day])[i]? = some c := hc
     rw [if_pos h00] at hc'
     have := (List.getElem?_eq_some_iff.1 hc').1
     rw [h.llen] at this
     omega
   · have hc' : (if a.secs.length = 0 then a.links else a.links ++ [linkC a seed day])[i]? = some c := hc
     rw [if_neg h00] at hc'
     rcases snoc_get hc' with hc | ⟨hi, rfl⟩
     · obtain ⟨k, k', d, num, q1, q1', q2, q3, q4, q5⟩ := h.lk i c hc
       exact ⟨k, k', d, num, snoc_old q1, snoc_old q1', snoc_old q2, q3, q4, q5⟩
     · rw [h.llen] at hi
       have hsl : ds.length - 1 < a.secs.length := by omega
       obtain ⟨ko, hko⟩ : ∃ ko, a.secs[ds.length - 1]? = some ko := ⟨_, List.getElem?_eq_getElem hsl⟩
       have e1 : a.secs.getD (a.secs.length - 1) 0 = ko := by rw [hl, List.getD_eq_getElem?_getD, hko]; rfl
       have kin0 := h.sec ko (List.mem_of_getElem? hko)
       have hlink := isNat (k := ko) (st := a.st) (kind := 2) (num := a.next + 1) (iss := (a.secs.length : Int)) (own := (a.secs.length : Int) + 1) (key := pw 4 (keyK a seed)) (fr := day) (un := day + 1825) (td := day + 5475) kin0 h.st ⟨by omega, by omega⟩
        ⟨⟨by omega, by omega⟩, ⟨by omega, by omega⟩, ⟨by omega, by omega⟩, ⟨fun _ => by omega, fun _ => by omega⟩⟩ (elem_near _) ⟨by omega, by omega, by omega, by omega⟩
       subst hi
       refine ⟨ko, keyK a seed, day, a.next + 1, snoc_old hko, snoc_new _ _ (by omega), snoc_new _ _ (by omega), by omega, by omega, ?_⟩
       have ei : (((ds.length - 1 : Nat) : Int) + 1) = (a.secs.length : Int) := by omega
       rw [ei]
       unfold linkC
       rw [e1]
       exact hlink
 · intro _
   refine ⟨keyK a seed, day, keyN a, ?_, ?_, by omega, by omega, nearI_in _, ?_⟩
   · rw [el]; exact snoc_new _ _ (by omega)
   · rw [el]; exact snoc_new _ _ (by omega)
   · rw [ec]; exact hsign
 · intro _
   refine ⟨keyK a seed, day, keyN a + 1, ?_, ?_, by omega, by omega, nearI_in _, ?_⟩
   · rw [el]; exact snoc_new _ _ (by omega)
   · rw [el]; exact snoc_new _ _ (by omega)
   · rw [ec]; exact hlist
 · intro _
   show (signC a seed day).num ≠ (listC a seed day).num
   rw [hsign.num, hlist.num]
   omega
theorem fol_nat {a b : NC} {st : List UInt8} {ka na ia oa ya fa ua ta pa kb nb ib ob yb fb ub tb pb day : Int} (ha : IsNat a st ka na ia oa ya fa ua ta pa) (hb : IsNat b st kb nb ib ob yb fb ub tb pb) (h1 : ib = oa) (h2 : ka = 1 ∨ ka = 2) (h3 : kb ≠ 1) (h4 : pb = ya)
 (d1 : fa ≤ day) (d2 : day ≤ ta) (d3 : fb ≤ day) (d4 : day ≤ tb) : folB day a b = true :=
 decide_eq_true ⟨by rw [ha.st, hb.st], by rw [hb.iss, ha.own]; exact h1, by rw [ha.kind]; exact h2, by rw [hb.kind]; exact h3, ha.on d1 d2, hb.on d3 d4, by rw [ha.key, ← h4]; exact hb.vf⟩
theorem root_nat {c : NC} {st : List UInt8} {num iss own key fr un td day : Int} (h : IsNat c st 1 num iss own key fr un td key) (d1 : fr ≤ day) (d2 : day ≤ td) : rootP st day c :=
 ⟨h.st, h.on d1 d2, by unfold rtN; rw [if_pos h.kind, h.key]; exact h.vf⟩
end Go.Proofs.YtkjplpmogfmhkaaGreatDoor
