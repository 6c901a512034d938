/- Parts Pkn of the proof. -/
import Derived.Test.YtkjplpmogfmhkaaGreatDoorWar
import Derived.Test.YtkjplpmogfmhkaaGreatDoorWai
namespace Go.Proofs.YtkjplpmogfmhkaaGreatDoor
open Go.RowKit
set_option linter.unusedVariables false
set_option maxRecDepth 100000
section
variable {α : Type} {V : α → Prop} {B : α → List UInt8} {O : α → List Nd} {x : List Nd → Option α}
end
def stateP (l : List UInt8) : Prop := (1 ≤ l.length ∧ l.length ≤ 3) ∧ ∀ i, i < l.length → upI (byteI l i)
instance (l : List UInt8) : Decidable (stateP l) := inferInstanceAs (Decidable (_ ∧ _))
def serP (x : Int) : Prop := 1 ≤ x ∧ x ≤ 1073741824
instance (x : Int) : Decidable (serP x) := inferInstanceAs (Decidable (_ ∧ _))
structure NC where
 st : List UInt8
 kind : Int
 num : Int
 iss : Int
 own : Int
 key : Int
 fr : Int
 un : Int
 to : Int
 e : Int
 s : Int
def numsP (num iss own kind : Int) : Prop := serP num ∧ serP iss ∧ serP own ∧ (iss = own ↔ kind = 1)
instance (num iss own kind : Int) : Decidable (numsP num iss own kind) := inferInstanceAs (Decidable (_ ∧ _ ∧ _ ∧ _))
def termP (fr un to : Int) : Prop := 0 ≤ fr ∧ fr ≤ un ∧ un ≤ to ∧ to ≤ 73048
instance (fr un to : Int) : Decidable (termP fr un to) := inferInstanceAs (Decidable (_ ∧ _ ∧ _ ∧ _))
def ckN (c : NC) : Int :=
 if ¬ stateP c.st then 60 else if c.kind < 1 ∨ 4 < c.kind then 61 else if ¬ numsP c.num c.iss c.own c.kind then 3 else
 if isElem c.key = false then 10 else if ¬ termP c.fr c.un c.to then 8 else 0
theorem ckN_ok {c : NC} (h : ckN c = 0) : stateP c.st ∧ 1 ≤ c.kind ∧ c.kind ≤ 4 ∧ numsP c.num c.iss c.own c.kind ∧ isElem c.key = true ∧ termP c.fr c.un c.to := by
 unfold ckN at h
 split at h
 · cases h
 · rename_i h1
   split at h
   · cases h
   · rename_i h2
     split at h
     · cases h
     · rename_i h3
       split at h
       · cases h
       · rename_i h4
         split at h
         · cases h
         · rename_i h5
           simp only [Decidable.not_not] at h1 h3 h5
           exact ⟨h1, by omega, by omega, h3, by simpa using h4, h5⟩
theorem ckN_st {c : NC} (h : ¬ stateP c.st) : ckN c = 60 := if_pos h
theorem ckN_kind {c : NC} (h1 : stateP c.st) (h2 : c.kind < 1 ∨ 4 < c.kind) : ckN c = 61 := by unfold ckN; rw [if_neg (not_not_intro h1), if_pos h2]
theorem ckN_nums {c : NC} (h1 : stateP c.st) (h2 : ¬ (c.kind < 1 ∨ 4 < c.kind)) (h3 : ¬ numsP c.num c.iss c.own c.kind) : ckN c = 3 := by unfold ckN; rw [if_neg (not_not_intro h1), if_neg h2, if_pos h3]
theorem ckN_key {c : NC} (h1 : stateP c.st) (h2 : ¬ (c.kind < 1 ∨ 4 < c.kind)) (h3 : numsP c.num c.iss c.own c.kind) (h4 : isElem c.key = false) : ckN c = 10 := by unfold ckN; rw [if_neg (not_not_intro h1), if_neg h2, if_neg (not_not_intro h3), if_pos h4]
theorem ckN_term {c : NC} (h1 : stateP c.st) (h2 : ¬ (c.kind < 1 ∨ 4 < c.kind)) (h3 : numsP c.num c.iss c.own c.kind) (h4 : isElem c.key = true) (h5 : ¬ termP c.fr c.un c.to) : ckN c = 8 := by unfold ckN; rw [if_neg (not_not_intro h1), if_neg h2, if_neg (not_not_intro h3), if_neg (by rw [h4]; simp), if_pos h5]
theorem ckN_yes {c : NC} (h1 : stateP c.st) (h2 : ¬ (c.kind < 1 ∨ 4 < c.kind)) (h3 : numsP c.num c.iss c.own c.kind) (h4 : isElem c.key = true) (h5 : termP c.fr c.un c.to) : ckN c = 0 := by unfold ckN; rw [if_neg (not_not_intro h1), if_neg h2, if_neg (not_not_intro h3), if_neg (by rw [h4]; simp), if_neg (not_not_intro h5)]
def onN (c : NC) (day : Int) : Int := if ckN c = 0 then (if day < c.fr then 64 else if c.to < day then 63 else 0) else ckN c
def ncV (c : NC) : Value := .agg #[.string (bstr c.st), .int .i64 c.kind, .int .i64 c.num, .int .i64 c.iss, .int .i64 c.own, .int .i64 c.key, .int .i64 c.fr, .int .i64 c.un, .int .i64 c.to, .int .i64 c.e, .int .i64 c.s]
def zeroN : NC := ⟨[], 0, 0, 0, 0, 0, 0, 0, 0, 0, 0⟩
def daysB (c : NC) : List UInt8 := be3 c.fr ++ be3 c.un ++ be3 c.to
def bodyN (c : NC) : Nd := .mk 48 [] [leafN 19 c.st, leafN 129 [u8 c.kind], leafN 130 (be4 c.num), leafN 131 (be4 c.iss), leafN 132 (be4 c.own), leafN 133 (be4 c.key), leafN 134 (daysB c)]
def certN (c : NC) : Nd := .mk 48 [] [bodyN c, leafN 3 (be4 c.e ++ be4 c.s)]
def bodyNB (c : NC) : List UInt8 := encNs 2 [bodyN c]
def validN (c : NC) : Prop := ckN c = 0 ∧ encK c.e c.s = 0
theorem ok_bodyN (c : NC) : okNs 2 [bodyN c] := by
 refine okNs_cons (okCons (by decide) (by decide) (by decide) (by decide) ?_) (okNs_nil _)
 refine okNs_cons (okLeaf (by decide) (by decide) (by decide) (by decide)) ?_
 refine okNs_cons (okLeaf (by decide) (by decide) (by decide) (by decide)) ?_
 refine okNs_cons (okLeaf (by decide) (by decide) (by decide) (by decide)) ?_
 refine okNs_cons (okLeaf (by decide) (by decide) (by decide) (by decide)) ?_
 refine okNs_cons (okLeaf (by decide) (by decide) (by decide) (by decide)) ?_
 refine okNs_cons (okLeaf (by decide) (by decide) (by decide) (by decide)) ?_
 exact okNs_cons (okLeaf (by decide) (by decide) (by decide) (by decide)) (okNs_nil _)
theorem ok_certN (c : NC) : okNs 3 [certN c] := by
 refine okNs_cons (okCons (by decide) (by decide) (by decide) (by decide) ?_) (okNs_nil _)
 refine okNs_cons (ok_bodyN c _ (List.mem_singleton.2 rfl)) ?_
 exact okNs_cons (okLeaf (by decide) (by decide) (by decide) (by decide)) (okNs_nil _)
theorem bodyNB_len {c : NC} (h1 : c.st.length ≤ 3) : (bodyNB c).length ≤ 200 := by
 have h := encNs_len 2 [bodyN c]
 have e1 : cntNs 2 [bodyN c] = 8 := rfl
 have e2 : valNs 2 [bodyN c] = c.st.length + 26 := by
  simp only [valNs, bodyN, leafN, daysB, Nd.val, Nd.kids, List.map_cons, List.map_nil, List.sum_cons, List.sum_nil, List.length_append, List.length_nil, List.length_cons, be4, be3]
  omega
 unfold bodyNB
 omega
def updN (c : NC) (e s : Int) : NC := ⟨c.st, c.kind, c.num, c.iss, c.own, c.key, c.fr, c.un, c.to, e, s⟩
def byN (c : NC) : List UInt8 := if ckN c = 0 then bodyNB c else []
def isCN (k : Int) (c : NC) : NC := if ckN c = 0 ∧ sK k = 0 then updN c (sE k (bodyNB c)) (sS k (bodyNB c)) else zeroN
def isKN (k : Int) (c : NC) : Int := if ckN c = 0 then sK k else ckN c
def vfN (p : Int) (c : NC) : Bool := if ckN c = 0 then verB p (bodyNB c) c.e c.s else false
def rtN (c : NC) : Bool := if c.kind = 1 then vfN c.key c else false
theorem ckN_upd (c : NC) (e s : Int) : ckN (updN c e s) = ckN c := rfl
theorem bodyNB_upd (c : NC) (e s : Int) : bodyNB (updN c e s) = bodyNB c := rfl
theorem isCN_in {k : Int} {c : NC} (hk : inB 1 1073741789 k = true) (hc : ckN c = 0) : isCN k c = updN c (sigE k (bodyNB c)) (sigS k (bodyNB c)) := by
 unfold isCN sE sS
 have hs : sK k = 0 := if_pos hk
 rw [if_pos ⟨hc, hs⟩, if_pos hk, if_pos hk]
theorem vfN_issue {k : Int} {c : NC} (hk : inB 1 1073741789 k = true) (hc : ckN c = 0) : vfN (pw 4 k) (isCN k c) = true := by
 obtain ⟨h0, h1⟩ := inB_true hk
 rw [isCN_in hk hc]
 unfold vfN
 rw [ckN_upd, if_pos hc, bodyNB_upd]
 exact sig_verifies h0 h1 _
theorem encKN_in {e s : Int} (he : 0 ≤ e ∧ e < 1073741789) (hs : 0 ≤ s ∧ s < 1073741789) : encK e s = 0 := if_pos ⟨inB_yes he.1 he.2, inB_yes hs.1 hs.2⟩
theorem validN_issue {k : Int} {c : NC} (hk : inB 1 1073741789 k = true) (hc : ckN c = 0) : validN (isCN k c) := by
 rw [isCN_in hk hc]
 exact ⟨hc, encKN_in (sigE_bd _ _) (sigS_bd _ _)⟩
theorem byN_len (c : NC) : (byN c).length ≤ 200 := by
 unfold byN
 split
 · rename_i h
   exact bodyNB_len (ckN_ok h).1.1.2
 · simp
def smN (c : NC) : Prop := c.st.length ≤ maxLen
theorem sm_ofN {c : NC} (h : ckN c = 0) : smN c := by have := (ckN_ok h).1.1.2; unfold smN maxLen; omega
theorem stateP_no_short {l : List UInt8} (h : l.length < 1) : decide (stateP l) = false := decide_eq_false fun q => by have := q.1.1; omega
theorem stateP_no_long {l : List UInt8} (h : 3 < l.length) : decide (stateP l) = false := decide_eq_false fun q => by have := q.1.2; omega
theorem stateP_no_at {l : List UInt8} (i : Nat) (hi : i < l.length) (h : ¬ upI (byteI l i)) : decide (stateP l) = false := decide_eq_false fun q => h (q.2 i hi)
theorem stateP_yes {l : List UInt8} (h1 : 1 ≤ l.length) (h2 : l.length ≤ 3) (h4 : ∀ i, i < l.length → upI (byteI l i)) : decide (stateP l) = true := decide_eq_true ⟨⟨h1, h2⟩, h4⟩
set_option maxHeartbeats 1000000 in
theorem state_any (s : ByteArray) (w : World) (hs : s.size ≤ maxLen) : Calls Tryz.prog 136 #[.string s] w fun e w' => e = .returned (.bool (decide (stateP s.data.toList))) ∧ w = w' := by
 unfold maxLen at hs
 have hsz : s.data.toList.length = s.size := by simp
 by_cases h1 : s.size < 1
 · have HN := Lib.hid (stateP_no_short (l := s.data.toList) (by omega))
   clear hsz
   go_enter Tryz.func136, Tryz.ntmps136
   go_wp2
   go_ret
   exact ⟨by rw [HN.out]; rfl, rfl⟩
 by_cases h16 : 3 < s.size
 · have HN := Lib.hid (stateP_no_long (l := s.data.toList) (by omega))
   clear hsz
   go_enter Tryz.func136, Tryz.ntmps136
   go_wp2
   go_ret
   exact ⟨by rw [HN.out]; rfl, rfl⟩
 have HZ := Lib.hid hsz
 clear hsz
 go_enter Tryz.func136, Tryz.ntmps136
 go_wp2
 go_loop [3, 14] (fun _ i => ∃ k : Nat, k ≤ s.size ∧ i = .int .i64 (k : Int) ∧ ∀ j, j < k → upI (byteI s.data.toList j)) (fun _ i => s.size - (intOf i).toNat)
 case atStart => exact ⟨0, Nat.zero_le _, rfl, fun j hj => absurd hj (by omega)⟩
 case round =>
  obtain ⟨k, hk, rfl, hall⟩ := hrel
  have HA := Lib.hid hall
  clear hall
  by_cases hlt : k < s.size
  · have HQ := Lib.hid (byteS hlt)
    have uk : (s[k].toNat : Int) < 256 := by have := UInt8.toNat_lt s[k]; omega
    have next : upI (s[k].toNat : Int) → ∀ j, j < k + 1 → upI (byteI s.data.toList j) := fun h j hj => by
     by_cases hjk : j < k
     · exact HA.out j hjk
     · obtain rfl : j = k := by omega
       rw [HQ.out]; exact h
    have NX := Lib.hid next
    have bad : ¬ upI (s[k].toNat : Int) → decide (stateP s.data.toList) = false := fun h => stateP_no_at k (by rw [HZ.out]; exact hlt) (by rw [HQ.out]; exact h)
    have BD := Lib.hid bad
    clear next bad
    by_cases c1 : (s[k].toNat : Int) < 65
    · have HN := Lib.hid (BD.out (by unfold upI; omega))
      go_wp2
      go_ret
      exact ⟨by rw [HN.out]; rfl, rfl⟩
    · by_cases c2 : 90 < (s[k].toNat : Int)
      · have HN := Lib.hid (BD.out (by unfold upI; omega))
        go_wp2
        go_ret
        exact ⟨by rw [HN.out]; rfl, rfl⟩
      · have HN := Lib.hid (NX.out (by unfold upI; omega))
        go_wp2
        go_round
        case rel => exact ⟨k + 1, by omega, by go_num, HN.out⟩
        case measure => simp [intOf]; omega
  · obtain rfl : k = s.size := by omega
    have HN := Lib.hid (stateP_yes (l := s.data.toList) (by rw [HZ.out]; omega) (by rw [HZ.out]; omega) (fun i hi => HA.out i (by rw [← HZ.out]; exact hi)))
    go_wp2
    go_ret
    exact ⟨by rw [HN.out]; rfl, rfl⟩
set_option maxHeartbeats 1000000 in
theorem refstate_any (s : ByteArray) (w : World) (hs : s.size ≤ maxLen) : Calls Tryz.prog 140 #[.string s] w fun e w' => e = .returned (.bool (decide (stateP s.data.toList))) ∧ w = w' := by
 unfold maxLen at hs
 have hsz : s.data.toList.length = s.size := by simp
 have HZ := Lib.hid hsz
 clear hsz
 go_enter Tryz.func140, Tryz.ntmps140
 go_wp2
 go_loop [3] (fun i => ∃ k : Nat, k ≤ s.size ∧ i = .int .i64 (k : Int) ∧ ∀ j, j < k → upI (byteI s.data.toList j)) (fun i => s.size - (intOf i).toNat)
 case atStart => exact ⟨0, Nat.zero_le _, rfl, fun j hj => absurd hj (by omega)⟩
 case round =>
  obtain ⟨k, hk, rfl, hall⟩ := hrel
  have HA := Lib.hid hall
  clear hall
  by_cases hlt : k < s.size
  · have HQ := Lib.hid (byteS hlt)
    have uk : (s[k].toNat : Int) < 256 := by have := UInt8.toNat_lt s[k]; omega
    have NX := Lib.hid (fun (h : upI (s[k].toNat : Int)) => (fun j hj => by
     by_cases hjk : j < k
     · exact HA.out j hjk
     · obtain rfl : j = k := by omega
       rw [HQ.out]; exact h : ∀ j, j < k + 1 → upI (byteI s.data.toList j)))
    have BD := Lib.hid (fun (h : ¬ upI (s[k].toNat : Int)) => stateP_no_at (l := s.data.toList) k (by rw [HZ.out]; exact hlt) (by rw [HQ.out]; exact h))
    by_cases c1 : (s[k].toNat : Int) < 65
    · have HN := Lib.hid (BD.out (by unfold upI; omega))
      go_wp2
      go_ret
      exact ⟨by rw [HN.out]; rfl, rfl⟩
    · by_cases c2 : 90 < (s[k].toNat : Int)
      · have HN := Lib.hid (BD.out (by unfold upI; omega))
        go_wp2
        go_ret
        exact ⟨by rw [HN.out]; rfl, rfl⟩
      · have HN := Lib.hid (NX.out (by unfold upI; omega))
        go_wp2
        go_round
        case rel => exact ⟨k + 1, by omega, by go_num, HN.out⟩
        case measure => simp [intOf]; omega
  · obtain rfl : k = s.size := by omega
    by_cases h1 : 1 ≤ s.size
    · by_cases h2 : s.size ≤ 3
      · have HN := Lib.hid ((stateP_yes (l := s.data.toList) (by rw [HZ.out]; omega) (by rw [HZ.out]; omega) (fun i hi => HA.out i (by rw [← HZ.out]; exact hi))).trans (decide_eq_true (show (s.size : Int) ≤ 3 by omega)).symm)
        go_wp2
        go_ret
        exact ⟨by rw [HN.out]; rfl, rfl⟩
      · have HN := Lib.hid ((stateP_no_long (l := s.data.toList) (by rw [HZ.out]; omega)).trans (decide_eq_false (show ¬ (s.size : Int) ≤ 3 by omega)).symm)
        go_wp2
        go_ret
        exact ⟨by rw [HN.out]; rfl, rfl⟩
    · have HN := Lib.hid (stateP_no_short (l := s.data.toList) (by rw [HZ.out]; omega))
      go_wp2
      go_ret
      exact ⟨by rw [HN.out]; rfl, rfl⟩
theorem nationalcert_st (l : List UInt8) (w : World) (hl : l.length ≤ maxLen) : Calls Tryz.prog 136 #[.string (bstr l)] w fun e w' => e = .returned (.bool (decide (stateP l))) ∧ w = w' :=
 state_any (bstr l) w (by show l.toArray.size ≤ _; simpa using hl)
theorem traveldocref29_st (l : List UInt8) (w : World) (hl : l.length ≤ maxLen) : Calls Tryz.prog 140 #[.string (bstr l)] w fun e w' => e = .returned (.bool (decide (stateP l))) ∧ w = w' :=
 refstate_any (bstr l) w (by show l.toArray.size ≤ _; simpa using hl)
theorem nationalcert_el (x : Int) (w : World) : Calls Tryz.prog 240 #[.int .i64 x] w fun e w' => e = .returned (.bool (isElem x)) ∧ w = w' := element_any x w
theorem traveldocref29_el (x : Int) (w : World) : Calls Tryz.prog 184 #[.int .i64 x] w fun e w' => e = .returned (.bool (isElem x)) ∧ w = w' := refelement_any x w
theorem nationalcert_serial (x : Int) (w : World) : Calls Tryz.prog 137 #[.int .i64 x] w fun e w' => e = .returned (.bool (decide (serP x))) ∧ w = w' := by
 by_cases h1 : 1 ≤ x
 · have HN := Lib.hid (show decide (serP x) = decide (x ≤ 1073741824) from decide_eq_decide.2 ⟨fun h => h.2, fun h => ⟨h1, h⟩⟩)
   go_enter Tryz.func137, Tryz.ntmps137
   go_wp2
   go_ret
   exact ⟨by rw [HN.out]; rfl, rfl⟩
 · have HN := Lib.hid (show decide (serP x) = false from decide_eq_false fun h => h1 h.1)
   go_enter Tryz.func137, Tryz.ntmps137
   go_wp2
   go_ret
   exact ⟨by rw [HN.out]; rfl, rfl⟩
theorem traveldocref29_serial (x : Int) (w : World) : Calls Tryz.prog 141 #[.int .i64 x] w fun e w' => e = .returned (.bool (decide (serP x))) ∧ w = w' := by
 by_cases h1 : 1 ≤ x
 · have HN := Lib.hid (show decide (serP x) = decide (x ≤ 1073741824) from decide_eq_decide.2 ⟨fun h => h.2, fun h => ⟨h1, h⟩⟩)
   go_enter Tryz.func141, Tryz.ntmps141
   go_wp2
   go_ret
   exact ⟨by rw [HN.out]; rfl, rfl⟩
 · have HN := Lib.hid (show decide (serP x) = false from decide_eq_false fun h => h1 h.1)
   go_enter Tryz.func141, Tryz.ntmps141
   go_wp2
   go_ret
   exact ⟨by rw [HN.out]; rfl, rfl⟩
set_option maxHeartbeats 2000000 in
theorem nationalcert_check (c : NC) (w : World) (hs : smN c) : Calls Tryz.prog 195 #[ncV c] w (RetQ w (.int .i64 (ckN c))) := by
 unfold smN at hs
 have x0 : Ext w (w.alloc (.cells #[.string (bstr c.st), .int .i64 c.kind, .int .i64 c.num, .int .i64 c.iss, .int .i64 c.own, .int .i64 c.key, .int .i64 c.fr, .int .i64 c.un, .int .i64 c.to, .int .i64 c.e, .int .i64 c.s] 56)) := (Below.refl _ _).alloc (Nat.le_refl _) _
 unfold ncV
 go_enter Tryz.func195, Tryz.ntmps195
 go_wp2_with fail
 refine (nationalcert_st _ _ hs).mono ?_
 rintro e w' ⟨rfl, rfl⟩
 by_cases nA : stateP c.st
 · rw [decide_eq_true nA]
   by_cases r1 : c.kind < 1
   · have HN := Lib.hid (ckN_kind nA (.inl r1))
     clear nA
     go_wp2_with fail
     go_ret
     exact ⟨by rw [HN.out]; rfl, x0⟩
   by_cases r2 : 4 < c.kind
   · have HN := Lib.hid (ckN_kind nA (.inr r2))
     clear nA
     go_wp2_with fail
     go_ret
     exact ⟨by rw [HN.out]; rfl, x0⟩
   have HR := Lib.hid (show ¬ (c.kind < 1 ∨ 4 < c.kind) by omega)
   go_wp2_with fail
   refine (nationalcert_serial _ _).mono ?_
   rintro e w' ⟨rfl, rfl⟩
   by_cases s1 : serP c.num
   · rw [decide_eq_true s1]
     go_wp2_with fail
     refine (nationalcert_serial _ _).mono ?_
     rintro e w' ⟨rfl, rfl⟩
     by_cases s2 : serP c.iss
     · rw [decide_eq_true s2]
       go_wp2_with fail
       refine (nationalcert_serial _ _).mono ?_
       rintro e w' ⟨rfl, rfl⟩
       by_cases s3 : serP c.own
       · rw [decide_eq_true s3]
         have HS := Lib.hid (And.intro s1 (And.intro s2 s3))
         have HA := Lib.hid nA
         clear s1 s2 s3 nA
         by_cases q : (c.iss = c.own ↔ c.kind = 1)
         · have HQ := Lib.hid (show numsP c.num c.iss c.own c.kind from ⟨HS.out.1, HS.out.2.1, HS.out.2.2, q⟩)
           have hq : ((c.iss == c.own) == (c.kind == 1)) = true := by
            by_cases u : c.iss = c.own
            · have := q.1 u
              simp [u, this]
            · have : ¬ c.kind = 1 := fun k => u (q.2 k)
              have e1 : (c.iss == c.own) = false := by simpa using u
              have e2 : (c.kind == 1) = false := by simpa using this
              rw [e1, e2]; rfl
           clear q
           go_wp2_with fail
           refine (nationalcert_el _ _).mono ?_
           rintro e w' ⟨rfl, rfl⟩
           cases hE : isElem c.key with
           | false =>
             have HN := Lib.hid (ckN_key HA.out HR.out HQ.out hE)
             go_wp2_with fail
             go_ret
             exact ⟨by rw [HN.out]; rfl, x0⟩
           | true =>
             by_cases d1 : c.fr < 0
             · have HN := Lib.hid (ckN_term HA.out HR.out HQ.out hE (fun q => by have := q.1; omega))
               go_wp2_with fail
               go_ret
               exact ⟨by rw [HN.out]; rfl, x0⟩
             by_cases d2 : c.un < c.fr
             · have HN := Lib.hid (ckN_term HA.out HR.out HQ.out hE (fun q => by have := q.2.1; omega))
               go_wp2_with fail
               go_ret
               exact ⟨by rw [HN.out]; rfl, x0⟩
             by_cases d3 : c.to < c.un
             · have HN := Lib.hid (ckN_term HA.out HR.out HQ.out hE (fun q => by have := q.2.2.1; omega))
               go_wp2_with fail
               go_ret
               exact ⟨by rw [HN.out]; rfl, x0⟩
             by_cases d4 : 73048 < c.to
             · have HN := Lib.hid (ckN_term HA.out HR.out HQ.out hE (fun q => by have := q.2.2.2; omega))
               go_wp2_with fail
               go_ret
               exact ⟨by rw [HN.out]; rfl, x0⟩
             have HN := Lib.hid (ckN_yes HA.out HR.out HQ.out hE ⟨by omega, by omega, by omega, by omega⟩)
             go_wp2_with fail
             go_ret
             exact ⟨by rw [HN.out]; rfl, x0⟩
         · have HN := Lib.hid (ckN_nums HA.out HR.out (fun k => q k.2.2.2))
           have hq : ((c.iss == c.own) == (c.kind == 1)) = false := by
            by_cases u : c.iss = c.own
            · have : ¬ c.kind = 1 := fun k => q ⟨fun _ => k, fun _ => u⟩
              have e2 : (c.kind == 1) = false := by simpa using this
              simp [u, e2]
            · have : c.kind = 1 := Decidable.byContradiction fun k => q ⟨fun h => absurd h u, fun h => absurd h k⟩
              have e1 : (c.iss == c.own) = false := by simpa using u
              rw [e1, this]; rfl
           clear q
           go_wp2_with fail
           go_ret
           exact ⟨by rw [HN.out]; rfl, x0⟩
       · rw [decide_eq_false s3]
         have HN := Lib.hid (ckN_nums nA HR.out (fun k => s3 k.2.2.1))
         clear s1 s2 s3 nA
         go_wp2_with fail
         go_ret
         exact ⟨by rw [HN.out]; rfl, x0⟩
     · rw [decide_eq_false s2]
       have HN := Lib.hid (ckN_nums nA HR.out (fun k => s2 k.2.1))
       clear s1 s2 nA
       go_wp2_with fail
       go_ret
       exact ⟨by rw [HN.out]; rfl, x0⟩
   · rw [decide_eq_false s1]
     have HN := Lib.hid (ckN_nums nA HR.out (fun k => s1 k.1))
     clear s1 nA
     go_wp2_with fail
     go_ret
     exact ⟨by rw [HN.out]; rfl, x0⟩
 · rw [decide_eq_false nA]
   have HN := Lib.hid (ckN_st nA)
   clear nA
   go_wp2_with fail
   go_ret
   exact ⟨by rw [HN.out]; rfl, x0⟩
set_option maxHeartbeats 1000000 in
theorem nationalcert_on (c : NC) (day : Int) (w : World) (hs : smN c) : Calls Tryz.prog 116 #[ncV c, .int .i64 day] w (RetQ w (.int .i64 (onN c day))) := by
 obtain ⟨wz, hwz, z0, zr⟩ : ∃ wz, wz = w.alloc (.cells #[.string (bstr c.st), .int .i64 c.kind, .int .i64 c.num, .int .i64 c.iss, .int .i64 c.own, .int .i64 c.key, .int .i64 c.fr, .int .i64 c.un, .int .i64 c.to, .int .i64 c.e, .int .i64 c.s] 56) ∧ Ext w wz ∧ wz.heap[w.heap.size]? = some (.cells #[.string (bstr c.st), .int .i64 c.kind, .int .i64 c.num, .int .i64 c.iss, .int .i64 c.own, .int .i64 c.key, .int .i64 c.fr, .int .i64 c.un, .int .i64 c.to, .int .i64 c.e, .int .i64 c.s] 56 (0, 0)) := ⟨_, rfl, (Below.refl _ _).alloc (Nat.le_refl _) _, heap_alloc_new' w _⟩
 unfold ncV
 go_enter Tryz.func116, Tryz.ntmps116
 go_wp2_with fail
 rw [← hwz]
 clear hwz
 refine (nationalcert_check c _ hs).mono ?_
 rintro e w1 ⟨rfl, b1⟩
 have x1 := z0.tr b1
 have row := (b1.block _ (block_lt zr)).trans zr
 have q6 := cell_of_row w1 w.heap.size 6 _ _ _ row
 have q8 := cell_of_row w1 w.heap.size 8 _ _ _ row
 have hl := block_lt row
 by_cases hc : ckN c = 0
 · by_cases h1 : day < c.fr
   · have HN := Lib.hid (show onN c day = 64 by unfold onN; rw [if_pos hc, if_pos h1])
     rw [hc]
     clear hc row zr
     go_wp2_with fail
     go_ret
     exact ⟨by rw [HN.out]; rfl, x1⟩
   by_cases h2 : c.to < day
   · have HN := Lib.hid (show onN c day = 63 by unfold onN; rw [if_pos hc, if_neg h1, if_pos h2])
     rw [hc]
     clear hc row zr
     go_wp2_with fail
     go_ret
     exact ⟨by rw [HN.out]; rfl, x1⟩
   have HN := Lib.hid (show onN c day = 0 by unfold onN; rw [if_pos hc, if_neg h1, if_neg h2])
   rw [hc]
   clear hc row zr
   go_wp2_with fail
   go_ret
   exact ⟨by rw [HN.out]; rfl, x1⟩
 · have HN := Lib.hid (show onN c day = ckN c from if_neg hc)
   have hb : (ckN c != 0) = true := by simpa using hc
   clear hc row zr
   go_wp2_with fail
   go_ret
   exact ⟨by rw [HN.out]; rfl, x1⟩
set_option maxHeartbeats 2000000 in
theorem traveldocref29_check (c : NC) (w : World) (hs : smN c) : Calls Tryz.prog 130 #[ncV c] w (RetQ w (.int .i64 (ckN c))) := by
 unfold smN at hs
 have x0 : Ext w (w.alloc (.cells #[.string (bstr c.st), .int .i64 c.kind, .int .i64 c.num, .int .i64 c.iss, .int .i64 c.own, .int .i64 c.key, .int .i64 c.fr, .int .i64 c.un, .int .i64 c.to, .int .i64 c.e, .int .i64 c.s] 56)) := (Below.refl _ _).alloc (Nat.le_refl _) _
 unfold ncV
 go_enter Tryz.func130, Tryz.ntmps130
 go_wp2_with fail
 refine (traveldocref29_st _ _ hs).mono ?_
 rintro e w' ⟨rfl, rfl⟩
 by_cases nA : stateP c.st
 · rw [decide_eq_true nA]
   by_cases r1 : c.kind < 1
   · have HN := Lib.hid (ckN_kind nA (.inl r1))
     clear nA
     go_wp2_with fail
     go_ret
     exact ⟨by rw [HN.out]; rfl, x0⟩
   by_cases r2 : 4 < c.kind
   · have HN := Lib.hid (ckN_kind nA (.inr r2))
     clear nA
     go_wp2_with fail
     go_ret
     exact ⟨by rw [HN.out]; rfl, x0⟩
   have HR := Lib.hid (show ¬ (c.kind < 1 ∨ 4 < c.kind) by omega)
   go_wp2_with fail
   refine (traveldocref29_serial _ _).mono ?_
   rintro e w' ⟨rfl, rfl⟩
   by_cases s1 : serP c.num
   · rw [decide_eq_true s1]
     go_wp2_with fail
     refine (traveldocref29_serial _ _).mono ?_
     rintro e w' ⟨rfl, rfl⟩
     by_cases s2 : serP c.iss
     · rw [decide_eq_true s2]
       go_wp2_with fail
       refine (traveldocref29_serial _ _).mono ?_
       rintro e w' ⟨rfl, rfl⟩
       by_cases s3 : serP c.own
       · rw [decide_eq_true s3]
         have HS := Lib.hid (And.intro s1 (And.intro s2 s3))
         have HA := Lib.hid nA
         clear s1 s2 s3 nA
         by_cases q : (c.iss = c.own ↔ c.kind = 1)
         · have HQ := Lib.hid (show numsP c.num c.iss c.own c.kind from ⟨HS.out.1, HS.out.2.1, HS.out.2.2, q⟩)
           have hq : ((c.iss == c.own) == (c.kind == 1)) = true := by
            by_cases u : c.iss = c.own
            · have := q.1 u
              simp [u, this]
            · have : ¬ c.kind = 1 := fun k => u (q.2 k)
              have e1 : (c.iss == c.own) = false := by simpa using u
              have e2 : (c.kind == 1) = false := by simpa using this
              rw [e1, e2]; rfl
           clear q
           go_wp2_with fail
           refine (traveldocref29_el _ _).mono ?_
           rintro e w' ⟨rfl, rfl⟩
           cases hE : isElem c.key with
           | false =>
             have HN := Lib.hid (ckN_key HA.out HR.out HQ.out hE)
             go_wp2_with fail
             go_ret
             exact ⟨by rw [HN.out]; rfl, x0⟩
           | true =>
             by_cases d1 : c.fr < 0
             · have HN := Lib.hid (ckN_term HA.out HR.out HQ.out hE (fun q => by have := q.1; omega))
               go_wp2_with fail
               go_ret
               exact ⟨by rw [HN.out]; rfl, x0⟩
             by_cases d2 : c.un < c.fr
             · have HN := Lib.hid (ckN_term HA.out HR.out HQ.out hE (fun q => by have := q.2.1; omega))
               go_wp2_with fail
               go_ret
               exact ⟨by rw [HN.out]; rfl, x0⟩
             by_cases d3 : c.to < c.un
             · have HN := Lib.hid (ckN_term HA.out HR.out HQ.out hE (fun q => by have := q.2.2.1; omega))
               go_wp2_with fail
               go_ret
               exact ⟨by rw [HN.out]; rfl, x0⟩
             by_cases d4 : 73048 < c.to
             · have HN := Lib.hid (ckN_term HA.out HR.out HQ.out hE (fun q => by have := q.2.2.2; omega))
               go_wp2_with fail
               go_ret
               exact ⟨by rw [HN.out]; rfl, x0⟩
             have HN := Lib.hid (ckN_yes HA.out HR.out HQ.out hE ⟨by omega, by omega, by omega, by omega⟩)
             go_wp2_with fail
             go_ret
             exact ⟨by rw [HN.out]; rfl, x0⟩
         · have HN := Lib.hid (ckN_nums HA.out HR.out (fun k => q k.2.2.2))
           have hq : ((c.iss == c.own) == (c.kind == 1)) = false := by
            by_cases u : c.iss = c.own
            · have : ¬ c.kind = 1 := fun k => q ⟨fun _ => k, fun _ => u⟩
              have e2 : (c.kind == 1) = false := by simpa using this
              simp [u, e2]
            · have : c.kind = 1 := Decidable.byContradiction fun k => q ⟨fun h => absurd h u, fun h => absurd h k⟩
              have e1 : (c.iss == c.own) = false := by simpa using u
              rw [e1, this]; rfl
           clear q
           go_wp2_with fail
           go_ret
           exact ⟨by rw [HN.out]; rfl, x0⟩
       · rw [decide_eq_false s3]
         have HN := Lib.hid (ckN_nums nA HR.out (fun k => s3 k.2.2.1))
         clear s1 s2 s3 nA
         go_wp2_with fail
         go_ret
         exact ⟨by rw [HN.out]; rfl, x0⟩
     · rw [decide_eq_false s2]
       have HN := Lib.hid (ckN_nums nA HR.out (fun k => s2 k.2.1))
       clear s1 s2 nA
       go_wp2_with fail
       go_ret
       exact ⟨by rw [HN.out]; rfl, x0⟩
   · rw [decide_eq_false s1]
     have HN := Lib.hid (ckN_nums nA HR.out (fun k => s1 k.1))
     clear s1 nA
     go_wp2_with fail
     go_ret
     exact ⟨by rw [HN.out]; rfl, x0⟩
 · rw [decide_eq_false nA]
   have HN := Lib.hid (ckN_st nA)
   clear nA
   go_wp2_with fail
   go_ret
   exact ⟨by rw [HN.out]; rfl, x0⟩
set_option maxHeartbeats 1000000 in
theorem traveldocref29_on (c : NC) (day : Int) (w : World) (hs : smN c) : Calls Tryz.prog 46 #[ncV c, .int .i64 day] w (RetQ w (.int .i64 (onN c day))) := by
 obtain ⟨wz, hwz, z0, zr⟩ : ∃ wz, wz = w.alloc (.cells #[.string (bstr c.st), .int .i64 c.kind, .int .i64 c.num, .int .i64 c.iss, .int .i64 c.own, .int .i64 c.key, .int .i64 c.fr, .int .i64 c.un, .int .i64 c.to, .int .i64 c.e, .int .i64 c.s] 56) ∧ Ext w wz ∧ wz.heap[w.heap.size]? = some (.cells #[.string (bstr c.st), .int .i64 c.kind, .int .i64 c.num, .int .i64 c.iss, .int .i64 c.own, .int .i64 c.key, .int .i64 c.fr, .int .i64 c.un, .int .i64 c.to, .int .i64 c.e, .int .i64 c.s] 56 (0, 0)) := ⟨_, rfl, (Below.refl _ _).alloc (Nat.le_refl _) _, heap_alloc_new' w _⟩
 unfold ncV
 go_enter Tryz.func46, Tryz.ntmps46
 go_wp2_with fail
 rw [← hwz]
 clear hwz
 refine (traveldocref29_check c _ hs).mono ?_
 rintro e w1 ⟨rfl, b1⟩
 have x1 := z0.tr b1
 have row := (b1.block _ (block_lt zr)).trans zr
 have q6 := cell_of_row w1 w.heap.size 6 _ _ _ row
 have q8 := cell_of_row w1 w.heap.size 8 _ _ _ row
 have hl := block_lt row
 by_cases hc : ckN c = 0
 · by_cases h1 : day < c.fr
   · have HN := Lib.hid (show onN c day = 64 by unfold onN; rw [if_pos hc, if_pos h1])
     rw [hc]
     clear hc row zr
     go_wp2_with fail
     go_ret
     exact ⟨by rw [HN.out]; rfl, x1⟩
   by_cases h2 : c.to < day
   · have HN := Lib.hid (show onN c day = 63 by unfold onN; rw [if_pos hc, if_neg h1, if_pos h2])
     rw [hc]
     clear hc row zr
     go_wp2_with fail
     go_ret
     exact ⟨by rw [HN.out]; rfl, x1⟩
   have HN := Lib.hid (show onN c day = 0 by unfold onN; rw [if_pos hc, if_neg h1, if_neg h2])
   rw [hc]
   clear hc row zr
   go_wp2_with fail
   go_ret
   exact ⟨by rw [HN.out]; rfl, x1⟩
 · have HN := Lib.hid (show onN c day = ckN c from if_neg hc)
   have hb : (ckN c != 0) = true := by simpa using hc
   clear hc row zr
   go_wp2_with fail
   go_ret
   exact ⟨by rw [HN.out]; rfl, x1⟩
def NcAt (w : World) (g : Nat) (c : NC) : Prop := w.heap[g]? = some (.cells #[.string (bstr c.st), .int .i64 c.kind, .int .i64 c.num, .int .i64 c.iss, .int .i64 c.own, .int .i64 c.key, .int .i64 c.fr, .int .i64 c.un, .int .i64 c.to, .int .i64 c.e, .int .i64 c.s] 56 (0, 0))
theorem NcAt.lt {w : World} {g : Nat} {c : NC} (h : NcAt w g c) : g < w.heap.size := block_lt h
theorem NcAt.ext {w w' : World} {g : Nat} {c : NC} (h : NcAt w g c) (e : Ext w w') : NcAt w' g c := (e.block g h.lt).trans h
theorem NcAt.cells {w : World} {g : Nat} {c : NC} (h : NcAt w g c) : w.cell? ⟨g, 0, none⟩ = some (.string (bstr c.st)) ∧ w.cell? ⟨g, 1, none⟩ = some (.int .i64 c.kind) ∧ w.cell? ⟨g, 2, none⟩ = some (.int .i64 c.num) ∧ w.cell? ⟨g, 3, none⟩ = some (.int .i64 c.iss) ∧ w.cell? ⟨g, 4, none⟩ = some (.int .i64 c.own) ∧ w.cell? ⟨g, 5, none⟩ = some (.int .i64 c.key) ∧ w.cell? ⟨g, 6, none⟩ = some (.int .i64 c.fr) ∧ w.cell? ⟨g, 7, none⟩ = some (.int .i64 c.un) ∧ w.cell? ⟨g, 8, none⟩ = some (.int .i64 c.to) ∧ w.cell? ⟨g, 9, none⟩ = some (.int .i64 c.e) ∧ w.cell? ⟨g, 10, none⟩ = some (.int .i64 c.s) :=
 ⟨cell_of_row w g 0 _ _ _ h, cell_of_row w g 1 _ _ _ h, cell_of_row w g 2 _ _ _ h, cell_of_row w g 3 _ _ _ h, cell_of_row w g 4 _ _ _ h, cell_of_row w g 5 _ _ _ h, cell_of_row w g 6 _ _ _ h, cell_of_row w g 7 _ _ _ h, cell_of_row w g 8 _ _ _ h, cell_of_row w g 9 _ _ _ h, cell_of_row w g 10 _ _ _ h⟩
theorem NcAt.new (w : World) (c : NC) : NcAt (w.alloc (.cells #[.string (bstr c.st), .int .i64 c.kind, .int .i64 c.num, .int .i64 c.iss, .int .i64 c.own, .int .i64 c.key, .int .i64 c.fr, .int .i64 c.un, .int .i64 c.to, .int .i64 c.e, .int .i64 c.s] 56)) w.heap.size c := heap_alloc_new' w _
theorem NcAt.frozen {w : World} {g : Nat} {c : NC} (h : NcAt w g c) (i : Nat) : w.frozen? ⟨g, i, none⟩ = false := by
 unfold NcAt at h
 simp [World.frozen?, h]
abbrev set11 (w : World) (g : Nat) (v0 v1 v2 v3 v4 v5 v6 v7 v8 v9 v10 : Value) : World := (((((((((((w.setCell ⟨g, 0, none⟩ v0).setCell ⟨g, 1, none⟩ v1).setCell ⟨g, 2, none⟩ v2).setCell ⟨g, 3, none⟩ v3).setCell ⟨g, 4, none⟩ v4).setCell ⟨g, 5, none⟩ v5).setCell ⟨g, 6, none⟩ v6).setCell ⟨g, 7, none⟩ v7).setCell ⟨g, 8, none⟩ v8).setCell ⟨g, 9, none⟩ v9).setCell ⟨g, 10, none⟩ v10)
abbrev setN (w : World) (g : Nat) (c : NC) : World := set11 w g (.string (bstr c.st)) (.int .i64 c.kind) (.int .i64 c.num) (.int .i64 c.iss) (.int .i64 c.own) (.int .i64 c.key) (.int .i64 c.fr) (.int .i64 c.un) (.int .i64 c.to) (.int .i64 c.e) (.int .i64 c.s)
theorem NcAt.setN {w : World} {g : Nat} {c : NC} (h : NcAt w g c) (d : NC) : NcAt (setN w g d) g d := by
 have h9 := (row_set (row_set (row_set (row_set (row_set (row_set (row_set (row_set (row_set (row_set (row_set h 0 (.string (bstr d.st))) 1 (.int .i64 d.kind)) 2 (.int .i64 d.num)) 3 (.int .i64 d.iss)) 4 (.int .i64 d.own)) 5 (.int .i64 d.key)) 6 (.int .i64 d.fr)) 7 (.int .i64 d.un)) 8 (.int .i64 d.to)) 9 (.int .i64 d.e)) 10 (.int .i64 d.s))
 simp only [List.setIfInBounds_toArray, List.set_cons_zero, List.set_cons_succ] at h9
 exact h9
theorem NcAt.setSig {w : World} {g : Nat} {c : NC} (h : NcAt w g c) (e s : Int) : NcAt ((w.setCell ⟨g, 9, none⟩ (.int .i64 e)).setCell ⟨g, 10, none⟩ (.int .i64 s)) g (updN c e s) := by
 have h9 := row_set (row_set h 9 (.int .i64 e)) 10 (.int .i64 s)
 simp only [List.setIfInBounds_toArray, List.set_cons_zero, List.set_cons_succ] at h9
 exact h9
theorem NcAt.other {w : World} {g b i : Nat} {c : NC} {v : Value} (h : NcAt w g c) (hne : g ≠ b) : NcAt (w.setCell ⟨b, i, none⟩ v) g c := (setCell_block hne).trans h
theorem ext_setN {w w' : World} {g : Nat} (h : Ext w w') (hg : w.heap.size ≤ g) (c : NC) : Ext w (setN w' g c) :=
 ext_set (ext_set (ext_set (ext_set (ext_set (ext_set (ext_set (ext_set (ext_set (ext_set (ext_set h hg) hg) hg) hg) hg) hg) hg) hg) hg) hg) hg
theorem nc_alloc (w : World) (c : NC) : ∃ wz, wz = w.alloc (.cells #[.string (bstr c.st), .int .i64 c.kind, .int .i64 c.num, .int .i64 c.iss, .int .i64 c.own, .int .i64 c.key, .int .i64 c.fr, .int .i64 c.un, .int .i64 c.to, .int .i64 c.e, .int .i64 c.s] 56) ∧ Ext w wz ∧ NcAt wz w.heap.size c :=
 ⟨_, rfl, (Below.refl _ _).alloc (Nat.le_refl _) _, NcAt.new w c⟩
structure TwoN (w wz : World) (c : NC) : Prop where
 ext : Ext w wz
 c : NcAt wz w.heap.size c
 r : NcAt wz (w.heap.size + 1) zeroN
theorem two_allocN (w : World) (c : NC) : ∃ wz, wz = (w.alloc (.cells #[.string (bstr c.st), .int .i64 c.kind, .int .i64 c.num, .int .i64 c.iss, .int .i64 c.own, .int .i64 c.key, .int .i64 c.fr, .int .i64 c.un, .int .i64 c.to, .int .i64 c.e, .int .i64 c.s] 56)).alloc (.cells #[.string ⟨#[]⟩, .int .i64 0, .int .i64 0, .int .i64 0, .int .i64 0, .int .i64 0, .int .i64 0, .int .i64 0, .int .i64 0, .int .i64 0, .int .i64 0] 56) ∧ TwoN w wz c := by
 have e1 : Ext w (w.alloc (.cells #[.string (bstr c.st), .int .i64 c.kind, .int .i64 c.num, .int .i64 c.iss, .int .i64 c.own, .int .i64 c.key, .int .i64 c.fr, .int .i64 c.un, .int .i64 c.to, .int .i64 c.e, .int .i64 c.s] 56)) := (Below.refl _ _).alloc (Nat.le_refl _) _
 refine ⟨_, rfl, e1.alloc (by simp) _, (NcAt.new w c).ext ((Below.refl _ _).alloc (Nat.le_refl _) _), ?_⟩
 have := NcAt.new (w.alloc (.cells #[.string (bstr c.st), .int .i64 c.kind, .int .i64 c.num, .int .i64 c.iss, .int .i64 c.own, .int .i64 c.key, .int .i64 c.fr, .int .i64 c.un, .int .i64 c.to, .int .i64 c.e, .int .i64 c.s] 56)) zeroN
 rw [show (w.alloc (.cells #[.string (bstr c.st), .int .i64 c.kind, .int .i64 c.num, .int .i64 c.iss, .int .i64 c.own, .int .i64 c.key, .int .i64 c.fr, .int .i64 c.un, .int .i64 c.to, .int .i64 c.e, .int .i64 c.s] 56)).heap.size = w.heap.size + 1 by simp] at this
 exact this
theorem TwoN.tr {w wz wy : World} {c : NC} (h : TwoN w wz c) (e : Ext wz wy) : TwoN w wy c := ⟨h.ext.tr e, h.c.ext e, h.r.ext e⟩
def wideB (size : Nat) (l : List Int) : List UInt8 := l.flatMap (beN size)
theorem wideB_len (size : Nat) : ∀ l : List Int, (wideB size l).length = l.length * size
 | [] => by simp [wideB]
 | x :: l => by
   have := wideB_len size l
   unfold wideB at *
   rw [List.flatMap_cons, List.length_append, beN_len, this, List.length_cons, Nat.succ_mul, Nat.add_comm]
theorem wideB_snoc (size : Nat) (l : List Int) (x : Int) : wideB size (l ++ [x]) = wideB size l ++ beN size x := by simp [wideB]
theorem beN_byte : ∀ (size : Nat) (x : Int) (j : Nat), j < size → (beN size x)[j]? = some (u8 (x / 256 ^ (size - 1 - j)))
 | k + 1, x, j, hj => by
   rw [beN]
   by_cases h : j < k
   · rw [List.getElem?_append_left (by rw [beN_len]; exact h), beN_byte k (x / 256) j h, Int.ediv_ediv_of_nonneg (by omega)]
     have e : k + 1 - 1 - j = (k - 1 - j) + 1 := by omega
     rw [e, Int.pow_succ, Int.mul_comm]
   · obtain rfl : j = k := by omega
     rw [List.getElem?_append_right (by rw [beN_len]; exact Nat.le_refl _), beN_len]
     simp
theorem beN_take (size : Nat) (x : Int) (j : Nat) (hj : j < size) : (beN size x).take (size - (j + 1)) ++ [u8 (x / 256 ^ j)] = (beN size x).take (size - j) := by
 have h := beN_byte size x (size - (j + 1)) (by omega)
 rw [show size - 1 - (size - (j + 1)) = j by omega] at h
 rw [show size - j = (size - (j + 1)) + 1 by omega]
 rw [List.take_add_one, h]
 rfl
def WdO (w : World) (size : Nat) (l : List Int) (o i : Value) (wr : World) : Prop :=
 ∃ (k : Nat) (A : Option Addr) (n c : Nat), k ≤ l.length ∧ i = .int .i64 ((k : Nat) : Int) ∧ o = .slice A n c ∧ Hid (n = (wideB size (l.take k)).length) ∧ Own wr w.heap.size 5 (.slice A n c) (bvs (wideB size (l.take k))) ∧ Ext w wr
def WdI (w : World) (size : Nat) (T : List UInt8) (x : Int) (o i : Value) (wr : World) : Prop :=
 ∃ (j : Nat) (A : Option Addr) (n c : Nat), j ≤ size ∧ i = .int .i64 (((j : Nat) : Int) - 1) ∧ o = .slice A n c ∧ Hid (n = (T ++ (beN size x).take (size - j)).length) ∧ Own wr w.heap.size 5 (.slice A n c) (bvs (T ++ (beN size x).take (size - j))) ∧ Ext w wr
theorem take_snocD {l : List Int} {k : Nat} (h : k < l.length) : l.take (k + 1) = l.take k ++ [l.getD k 0] := by
 rw [List.take_succ_eq_append_getElem h]; simp [List.getD_eq_getElem?_getD, h]
set_option maxHeartbeats 2000000 in
theorem wide_any (size : Nat) {v : Value} {l : List Int} (w : World) (h : RdI w .i64 v l) (hs : size ≤ 4) (hl : l.length ≤ 1000) :
 Calls Tryz.prog 148 #[.int .i64 (size : Int), v] w (RetB w (wideB size l)) := by
 obtain ⟨A, n, c, rfl, hn, hnc, hcm, hA⟩ := h.ints
 subst hn
 clear h
 have HW := Lib.hid (fun k => wideB_len size (l.take k))
 have HLT := Lib.hid (fun k => List.length_take_le k l)
 go_enter Tryz.func148, Tryz.ntmps148
 go_wp2_with fail
 go_loopw [5, 7, 8, 11] (fun o _ _ i wr => WdO w size l o i wr) (fun _ _ _ i _ => l.length - (intOf i).toNat)
 case atStart => exact ⟨0, none, 0, 0, Nat.zero_le _, rfl, rfl, rfl, nilB _ _, Below.refl _ _⟩
 case round =>
  obtain ⟨k, A5, n5, c5, hk, rfl, rfl, hn5, o5, b5⟩ := hrel
  by_cases hlt : k < l.length
  · obtain ⟨b, off, rfl, hbl, hc0⟩ := hA (by omega)
    have hc := hc0 k hlt
    have hck := (b5.cell (p := ⟨b, off + k, none⟩) hbl).trans hc
    have hbl2 : b < wr.heap.size := Nat.lt_of_lt_of_le hbl b5.size
    obtain ⟨x, hx⟩ : ∃ x, l.getD k 0 = x := ⟨_, rfl⟩
    rw [hx] at hck
    have HS := Lib.hid (show wideB size (l.take (k + 1)) = wideB size (l.take k) ++ beN size x by rw [take_snocD hlt, wideB_snoc, hx])
    have hT : (wideB size (l.take k)).length ≤ 4000 := by
     have h1 := HW.out k
     have h2 := HLT.out k
     have h3 := Nat.mul_le_mul (show (l.take k).length ≤ 1000 by omega) hs
     omega
    obtain ⟨T, hTe⟩ : ∃ T, wideB size (l.take k) = T := ⟨_, rfl⟩
    rw [hTe] at HS hT hn5 o5
    clear hc hc0 hx hTe
    go_wp2_with fail
    go_loopw [5, 8] (fun o i wx => WdI w size T x o i wx) (fun _ i _ => (intOf i + 1).toNat)
    case atStart => exact ⟨size, _, _, _, Nat.le_refl _, rfl, rfl, (show _ = _ by rw [Nat.sub_self, List.take_zero, List.append_nil]; exact hn5.out), by rw [Nat.sub_self, List.take_zero, List.append_nil]; exact o5, b5⟩
    case round =>
     obtain ⟨j, A6, n6, c6, hj, rfl, rfl, hn6, o6, b6⟩ := hrel
     clear hn5 o5 b5
     cases j with
     | zero =>
       rw [Nat.sub_zero, List.take_of_length_le (by rw [beN_len]; exact Nat.le_refl _)] at o6 hn6
       rw [← HS.out] at o6 hn6
       rw [show ((0 : Nat) : Int) - 1 = -1 from rfl]
       go_wp2_with fail
       go_roundw
       case rel => exact ⟨k + 1, _, _, _, hlt, by go_num, rfl, hn6, o6, b6⟩
       case measure => simp [intOf]; omega
     | succ j =>
       rw [show ((j + 1 : Nat) : Int) - 1 = (j : Int) by omega]
       have hl6 : (T ++ (beN size x).take (size - (j + 1))).length + 1 ≤ 5000 := by
        rw [List.length_append]
        have := List.length_take_le (size - (j + 1)) (beN size x)
        omega
       have hj4 : j = 0 ∨ j = 1 ∨ j = 2 ∨ j = 3 := by omega
       have hbx : w.heap.size ≤ wr.heap.size := b6.size
       have e1 := fun cs => (show Ext wr (wr.alloc (.cells cs 5)) from (Below.refl _ _).alloc (Nat.le_refl _) _)
       rcases hj4 with rfl | rfl | rfl | rfl
       · have HB := Lib.hid (show (beN size x).take (size - (0 + 1)) ++ [Go.Proofs.YtkjplpmogfmhkaaGreatDoor.u8 (x)] = (beN size x).take (size - 0) by
          have h := beN_take size x 0 (by omega)
          rw [show (256 : Int) ^ 0 = 1 from rfl] at h
          rw [Int.ediv_one] at h; exact h)
         simp only [Int.cast_ofNat_Int]
         go_wp2_with (refine appB (ys := [Go.Proofs.YtkjplpmogfmhkaaGreatDoor.u8 (x)]) (w0 := w) (o6.ext (e1 _)) (Rd.oneZ wr (x)) (b6.tr (e1 _)) (by rw [List.length_singleton]; omega) (by simp; omega) rfl rfl rfl rfl ?_; intro A7 n7 c7 w7 hn7 o7 b7 g7)
         rw [List.append_assoc, HB.out] at o7
         have hn8 := Lib.hid (show n7 = (T ++ (beN size x).take (size - 0)).length by rw [← HB.out, ← List.append_assoc, List.length_append]; exact hn7.out)
         go_roundw
         case rel => exact ⟨0, _, _, _, by omega, by first | rfl | go_num, rfl, hn8, o7, b7⟩
         case measure => simp [intOf]
       · have HB := Lib.hid (show (beN size x).take (size - (1 + 1)) ++ [Go.Proofs.YtkjplpmogfmhkaaGreatDoor.u8 (x / 256)] = (beN size x).take (size - 1) by
          have h := beN_take size x 1 (by omega)
          rw [show (256 : Int) ^ 1 = 256 from rfl] at h
          exact h)
         simp only [Int.cast_ofNat_Int]
         go_wp2_with (refine appB (ys := [Go.Proofs.YtkjplpmogfmhkaaGreatDoor.u8 (x / 256)]) (w0 := w) (o6.ext (e1 _)) (Rd.oneZ wr (x / 256)) (b6.tr (e1 _)) (by rw [List.length_singleton]; omega) (by simp; omega) rfl rfl rfl rfl ?_; intro A7 n7 c7 w7 hn7 o7 b7 g7)
         rw [List.append_assoc, HB.out] at o7
         have hn8 := Lib.hid (show n7 = (T ++ (beN size x).take (size - 1)).length by rw [← HB.out, ← List.append_assoc, List.length_append]; exact hn7.out)
         go_roundw
         case rel => exact ⟨1, _, _, _, by omega, by first | rfl | go_num, rfl, hn8, o7, b7⟩
         case measure => simp [intOf]
       · have HB := Lib.hid (show (beN size x).take (size - (2 + 1)) ++ [Go.Proofs.YtkjplpmogfmhkaaGreatDoor.u8 (x / 65536)] = (beN size x).take (size - 2) by
          have h := beN_take size x 2 (by omega)
          rw [show (256 : Int) ^ 2 = 65536 from rfl] at h
          exact h)
         simp only [Int.cast_ofNat_Int]
         go_wp2_with (refine appB (ys := [Go.Proofs.YtkjplpmogfmhkaaGreatDoor.u8 (x / 65536)]) (w0 := w) (o6.ext (e1 _)) (Rd.oneZ wr (x / 65536)) (b6.tr (e1 _)) (by rw [List.length_singleton]; omega) (by simp; omega) rfl rfl rfl rfl ?_; intro A7 n7 c7 w7 hn7 o7 b7 g7)
         rw [List.append_assoc, HB.out] at o7
         have hn8 := Lib.hid (show n7 = (T ++ (beN size x).take (size - 2)).length by rw [← HB.out, ← List.append_assoc, List.length_append]; exact hn7.out)
         go_roundw
         case rel => exact ⟨2, _, _, _, by omega, by first | rfl | go_num, rfl, hn8, o7, b7⟩
         case measure => simp [intOf]
       · have HB := Lib.hid (show (beN size x).take (size - (3 + 1)) ++ [Go.Proofs.YtkjplpmogfmhkaaGreatDoor.u8 (x / 16777216)] = (beN size x).take (size - 3) by
          have h := beN_take size x 3 (by omega)
          rw [show (256 : Int) ^ 3 = 16777216 from rfl] at h
          exact h)
         simp only [Int.cast_ofNat_Int]
         go_wp2_with (refine appB (ys := [Go.Proofs.YtkjplpmogfmhkaaGreatDoor.u8 (x / 16777216)]) (w0 := w) (o6.ext (e1 _)) (Rd.oneZ wr (x / 16777216)) (b6.tr (e1 _)) (by rw [List.length_singleton]; omega) (by simp; omega) rfl rfl rfl rfl ?_; intro A7 n7 c7 w7 hn7 o7 b7 g7)
         rw [List.append_assoc, HB.out] at o7
         have hn8 := Lib.hid (show n7 = (T ++ (beN size x).take (size - 3)).length by rw [← HB.out, ← List.append_assoc, List.length_append]; exact hn7.out)
         go_roundw
         case rel => exact ⟨3, _, _, _, by omega, by first | rfl | go_num, rfl, hn8, o7, b7⟩
         case measure => simp [intOf]
  · obtain rfl : k = l.length := by omega
    rw [List.take_length] at o5 hn5
    clear hA
    go_wp2_with fail
    go_ret
    exact ⟨_, _, _, rfl, hn5, o5, b5⟩
def GI (l : List Int) : VPred := fun v w => RdI w .i64 v l
theorem stable_GI (l : List Int) : StableP (GI l) := fun v w w' e h => Rd.ext h e
theorem gi_lit (W : World) (cs : Array Value) (l : List Int) (n : Nat) (hn : n = l.length) (hm : n ≤ 100) (hc : cs.toList = l.map (Value.int .i64)) : GI l (.slice (some ⟨W.heap.size, 0, none⟩) n n) (W.alloc (.cells cs 3)) := by
 have := Rd.lit W cs 3 n (by rw [← Array.length_toList, hc, List.length_map]; exact hn) (by unfold maxLen; omega)
 rw [hc] at this
 exact this
theorem wide1_4 (x : Int) : wideB 4 [x] = be4 x := by show beN 4 x ++ [] = _; rw [List.append_nil, beN_4]
theorem wide3_3 (x y z : Int) : wideB 3 [x, y, z] = be3 x ++ be3 y ++ be3 z := by
 show beN 3 x ++ (beN 3 y ++ (beN 3 z ++ [])) = _
 rw [List.append_nil, beN_3, beN_3, beN_3, List.append_assoc]
theorem wide_days (c : NC) : wideB 3 [c.fr, c.un, c.to] = daysB c := wide3_3 _ _ _
theorem bvs_u8one (x : Int) : bvs [u8 x] = [.int .u8 (x % 256)] := by simp [bvs, bv_u8]
set_option maxHeartbeats 1000000 in
theorem ntree_ok (c : NC) (w : World) (h : ckN c = 0) : Calls Tryz.prog 207 #[ncV c] w (NodeR w 1 (bodyN c) fun v => .tuple #[v, .int .i64 0]) := by
 have sa : c.st.length ≤ 4096 := by have := (ckN_ok h).1.1.2; omega
 have HC := Lib.hid (ckN_ok h)
 have he := (ckN_ok h).2.2.2.2.1
 clear h
 obtain ⟨wz, hwz⟩ : ∃ wz, wz = ((w.alloc (.cells #[.string (bstr c.st), .int .i64 c.kind, .int .i64 c.num, .int .i64 c.iss, .int .i64 c.own, .int .i64 c.key, .int .i64 c.fr, .int .i64 c.un, .int .i64 c.to, .int .i64 c.e, .int .i64 c.s] 56))).alloc (.cells #[.int .i64 0, .slice none 0 0, .slice none 0 0] 180) := ⟨_, rfl⟩
 have e1 : Ext w (w.alloc (.cells #[.string (bstr c.st), .int .i64 c.kind, .int .i64 c.num, .int .i64 c.iss, .int .i64 c.own, .int .i64 c.key, .int .i64 c.fr, .int .i64 c.un, .int .i64 c.to, .int .i64 c.e, .int .i64 c.s] 56)) := (Below.refl _ _).alloc (Nat.le_refl _) _
 have x0 : Ext w wz := by rw [hwz]; exact e1.alloc (by simp) _
 have hc : NcAt wz w.heap.size c := by rw [hwz]; exact (NcAt.new w c).ext ((Below.refl _ _).alloc (Nat.le_refl _) _)
 have hb : C3 wz (w.heap.size + 1) (.int .i64 0) (.slice none 0 0) (.slice none 0 0) := by
  have := C3.new (w.alloc (.cells #[.string (bstr c.st), .int .i64 c.kind, .int .i64 c.num, .int .i64 c.iss, .int .i64 c.own, .int .i64 c.key, .int .i64 c.fr, .int .i64 c.un, .int .i64 c.to, .int .i64 c.e, .int .i64 c.s] 56)) (.int .i64 0) (.slice none 0 0) (.slice none 0 0)
  rw [show (w.alloc (.cells #[.string (bstr c.st), .int .i64 c.kind, .int .i64 c.num, .int .i64 c.iss, .int .i64 c.own, .int .i64 c.key, .int .i64 c.fr, .int .i64 c.un, .int .i64 c.to, .int .i64 c.e, .int .i64 c.s] 56)).heap.size = w.heap.size + 1 by simp] at this
  rw [hwz]; exact this
 have hsz : w.heap.size + 1 < wz.heap.size := hb.lt
 unfold ncV
 go_enter Tryz.func207, Tryz.ntmps207
 go_wp2_with fail
 rw [← hwz]
 clear hwz e1
 obtain ⟨t0, t1, t2, t3, t4, t5, t6, t7, t8, t9, t10⟩ := hc.cells
 have hl := hc.lt
 go_wp2_with fail
 refine (gencode_any _ _).mono ?_
 rintro e wk ⟨A, n, c', rfl, hn, o, bk⟩
 rw [show elB c.key = be4 c.key from if_pos he] at hn o
 rw [show elK c.key = 0 from if_pos he]
 have ob : GS wz.heap.size (be4 c.key) (.slice A n c') wk := RdS.of o fun b hb => hb
 have hck := hc.ext bk
 have hbk := hb.ex bk
 have xk := x0.tr bk
 clear hn o hc hb t0 t1 t2 t3 t4 t5 t6 t7 t8 t9 t10 hl
 go_wp2_with fail
 refine Gd.wp_region_X 37 (by kernel_rfl) (by kernel_rfl) ?_
 simp only [List.take_succ_cons, List.take_zero, List.drop_succ_cons, List.drop_zero]
 intro w1 hw1
 have LL : ∀ m : Lt w1, Ext wk m.1 := fun m => hw1.tr m.2
 have v0 : ∀ m : Lt w1, m.1.cell? ⟨w.heap.size, 0, none⟩ = some (.string (bstr c.st)) := fun m => (hck.ext (LL m)).cells.1
 have v1 : ∀ m : Lt w1, m.1.cell? ⟨w.heap.size, 1, none⟩ = some (.int .i64 c.kind) := fun m => (hck.ext (LL m)).cells.2.1
 have v2 : ∀ m : Lt w1, m.1.cell? ⟨w.heap.size, 2, none⟩ = some (.int .i64 c.num) := fun m => (hck.ext (LL m)).cells.2.2.1
 have v3 : ∀ m : Lt w1, m.1.cell? ⟨w.heap.size, 3, none⟩ = some (.int .i64 c.iss) := fun m => (hck.ext (LL m)).cells.2.2.2.1
 have v4 : ∀ m : Lt w1, m.1.cell? ⟨w.heap.size, 4, none⟩ = some (.int .i64 c.own) := fun m => (hck.ext (LL m)).cells.2.2.2.2.1
 have v6 : ∀ m : Lt w1, m.1.cell? ⟨w.heap.size, 6, none⟩ = some (.int .i64 c.fr) := fun m => (hck.ext (LL m)).cells.2.2.2.2.2.2.1
 have v7 : ∀ m : Lt w1, m.1.cell? ⟨w.heap.size, 7, none⟩ = some (.int .i64 c.un) := fun m => (hck.ext (LL m)).cells.2.2.2.2.2.2.2.1
 have v8 : ∀ m : Lt w1, m.1.cell? ⟨w.heap.size, 8, none⟩ = some (.int .i64 c.to) := fun m => (hck.ext (LL m)).cells.2.2.2.2.2.2.2.2.1
 have OB : ∀ m : Lt w1, GS wz.heap.size (be4 c.key) (.slice A n c') m.1 := fun m => stable_GS _ _ _ _ _ (LL m) ob
 have BB : ∀ m : Lt w1, wz.heap.size ≤ m.1.heap.size := fun m => Nat.le_trans bk.size (LL m).size
 repeat (refine Gd.wpX_pure (by first | exact trivial | exact ⟨_, rfl, rfl, rfl⟩) rfl rfl rfl rfl rfl (fun K hK => ?_); go_big_quiet_op; refine hK _ ?_; clear hK K)
 refine Gd.wpX_convL (by first | exact trivial | exact ⟨_, rfl, rfl, rfl⟩) (GS wz.heap.size c.st) (stable_GS _ _) (fun _ => .string (bstr c.st)) rfl rfl rfl rfl rfl (fun _ => rfl) (fun m f hf => gs_str m.1 (BB m) c.st sa) ?_
 simp only [Act.put, List.setIfInBounds_toArray, List.set_cons_zero, List.set_cons_succ]
 refine Gd.wpX_buildL (by first | exact trivial | exact ⟨_, rfl, rfl, rfl⟩) (NdG wz.heap.size 0 (leafN 19 c.st)) (stable_NdG _ _ _) (fun f => [(0, .int .i64 19), (1, f 18)]) rfl rfl rfl rfl rfl (fun f => rfl) (fun m f hf => run_leaf m.1 19 (hf 18 _ rfl rfl)) ?_
 simp only [Act.put, List.setIfInBounds_toArray, List.set_cons_zero, List.set_cons_succ]
 repeat (refine Gd.wpX_pure (by first | exact trivial | exact ⟨_, rfl, rfl, rfl⟩) rfl rfl rfl rfl rfl (fun K hK => ?_); go_big_quiet_op; refine hK _ ?_; clear hK K)
 refine Gd.wpX_buildSL (by first | exact trivial | exact ⟨_, rfl, rfl, rfl⟩) (GS wz.heap.size [u8 c.kind]) (stable_GS _ _) (fun _ => [(0, .int .u8 (c.kind % 256))]) rfl rfl rfl rfl rfl (fun _ => rfl) (fun m f hf => ⟨_, _, (by go_simp : (Instr.buildSlice 89 1 [(0, .int .u8 (c.kind % 256))].toArray).run Tryz.prog m.1 = .ok (.slice (some ⟨m.1.heap.size, 0, none⟩) 1 1) (m.1.alloc (.cells #[.int .u8 (c.kind % 256)] 5))), (Below.refl _ _).alloc (Nat.le_refl _) _, gs_lit m.1 (BB m) _ [u8 c.kind] 1 rfl (by omega) (bvs_u8one c.kind).symm⟩) ?_
 simp only [Act.put, List.setIfInBounds_toArray, List.set_cons_zero, List.set_cons_succ]
 refine Gd.wpX_buildL (by first | exact trivial | exact ⟨_, rfl, rfl, rfl⟩) (NdG wz.heap.size 0 (leafN 129 [u8 c.kind])) (stable_NdG _ _ _) (fun f => [(0, .int .i64 129), (1, f 23)]) rfl rfl rfl rfl rfl (fun f => rfl) (fun m f hf => run_leaf m.1 129 (hf 23 _ rfl rfl)) ?_
 simp only [Act.put, List.setIfInBounds_toArray, List.set_cons_zero, List.set_cons_succ]
 repeat (refine Gd.wpX_pure (by first | exact trivial | exact ⟨_, rfl, rfl, rfl⟩) rfl rfl rfl rfl rfl (fun K hK => ?_); go_big_quiet_op; refine hK _ ?_; clear hK K)
 refine Gd.wpX_buildSL (by first | exact trivial | exact ⟨_, rfl, rfl, rfl⟩) (GI [c.num]) (stable_GI _) (fun _ => [(0, .int .i64 c.num)]) rfl rfl rfl rfl rfl (fun _ => rfl) (fun m f hf => ⟨_, _, (by go_simp : (Instr.buildSlice 41 1 [(0, .int .i64 c.num)].toArray).run Tryz.prog m.1 = .ok (.slice (some ⟨m.1.heap.size, 0, none⟩) 1 1) (m.1.alloc (.cells #[.int .i64 c.num] 3))), (Below.refl _ _).alloc (Nat.le_refl _) _, gi_lit m.1 #[.int .i64 c.num] [c.num] 1 rfl (by omega) rfl⟩) ?_
 simp only [Act.put, List.setIfInBounds_toArray, List.set_cons_zero, List.set_cons_succ]
 refine Gd.wpX_callF (by first | exact trivial | exact ⟨_, rfl, rfl, rfl⟩) (GS wz.heap.size (be4 c.num)) (stable_GS _ _) (fun f => [.int .i64 4, f 27]) rfl rfl rfl rfl rfl (by kernel_rfl) rfl (fun f => rfl) (fun m f hf => (wide_any 4 m.1 (hf 27 _ rfl rfl) (by omega) (by simp)).mono fun _ _ h => (wide1_4 c.num ▸ h : RetB _ _ _ _).gs (BB m)) ?_
 simp only [Act.put, List.setIfInBounds_toArray, List.set_cons_zero, List.set_cons_succ]
 refine Gd.wpX_buildL (by first | exact trivial | exact ⟨_, rfl, rfl, rfl⟩) (NdG wz.heap.size 0 (leafN 130 (be4 c.num))) (stable_NdG _ _ _) (fun f => [(0, .int .i64 130), (1, f 28)]) rfl rfl rfl rfl rfl (fun f => rfl) (fun m f hf => run_leaf m.1 130 (hf 28 _ rfl rfl)) ?_
 simp only [Act.put, List.setIfInBounds_toArray, List.set_cons_zero, List.set_cons_succ]
 repeat (refine Gd.wpX_pure (by first | exact trivial | exact ⟨_, rfl, rfl, rfl⟩) rfl rfl rfl rfl rfl (fun K hK => ?_); go_big_quiet_op; refine hK _ ?_; clear hK K)
 refine Gd.wpX_buildSL (by first | exact trivial | exact ⟨_, rfl, rfl, rfl⟩) (GI [c.iss]) (stable_GI _) (fun _ => [(0, .int .i64 c.iss)]) rfl rfl rfl rfl rfl (fun _ => rfl) (fun m f hf => ⟨_, _, (by go_simp : (Instr.buildSlice 41 1 [(0, .int .i64 c.iss)].toArray).run Tryz.prog m.1 = .ok (.slice (some ⟨m.1.heap.size, 0, none⟩) 1 1) (m.1.alloc (.cells #[.int .i64 c.iss] 3))), (Below.refl _ _).alloc (Nat.le_refl _) _, gi_lit m.1 #[.int .i64 c.iss] [c.iss] 1 rfl (by omega) rfl⟩) ?_
 simp only [Act.put, List.setIfInBounds_toArray, List.set_cons_zero, List.set_cons_succ]
 refine Gd.wpX_callF (by first | exact trivial | exact ⟨_, rfl, rfl, rfl⟩) (GS wz.heap.size (be4 c.iss)) (stable_GS _ _) (fun f => [.int .i64 4, f 32]) rfl rfl rfl rfl rfl (by kernel_rfl) rfl (fun f => rfl) (fun m f hf => (wide_any 4 m.1 (hf 32 _ rfl rfl) (by omega) (by simp)).mono fun _ _ h => (wide1_4 c.iss ▸ h : RetB _ _ _ _).gs (BB m)) ?_
 simp only [Act.put, List.setIfInBounds_toArray, List.set_cons_zero, List.set_cons_succ]
 refine Gd.wpX_buildL (by first | exact trivial | exact ⟨_, rfl, rfl, rfl⟩) (NdG wz.heap.size 0 (leafN 131 (be4 c.iss))) (stable_NdG _ _ _) (fun f => [(0, .int .i64 131), (1, f 33)]) rfl rfl rfl rfl rfl (fun f => rfl) (fun m f hf => run_leaf m.1 131 (hf 33 _ rfl rfl)) ?_
 simp only [Act.put, List.setIfInBounds_toArray, List.set_cons_zero, List.set_cons_succ]
 repeat (refine Gd.wpX_pure (by first | exact trivial | exact ⟨_, rfl, rfl, rfl⟩) rfl rfl rfl rfl rfl (fun K hK => ?_); go_big_quiet_op; refine hK _ ?_; clear hK K)
 refine Gd.wpX_buildSL (by first | exact trivial | exact ⟨_, rfl, rfl, rfl⟩) (GI [c.own]) (stable_GI _) (fun _ => [(0, .int .i64 c.own)]) rfl rfl rfl rfl rfl (fun _ => rfl) (fun m f hf => ⟨_, _, (by go_simp : (Instr.buildSlice 41 1 [(0, .int .i64 c.own)].toArray).run Tryz.prog m.1 = .ok (.slice (some ⟨m.1.heap.size, 0, none⟩) 1 1) (m.1.alloc (.cells #[.int .i64 c.own] 3))), (Below.refl _ _).alloc (Nat.le_refl _) _, gi_lit m.1 #[.int .i64 c.own] [c.own] 1 rfl (by omega) rfl⟩) ?_
 simp only [Act.put, List.setIfInBounds_toArray, List.set_cons_zero, List.set_cons_succ]
 refine Gd.wpX_callF (by first | exact trivial | exact ⟨_, rfl, rfl, rfl⟩) (GS wz.heap.size (be4 c.own)) (stable_GS _ _) (fun f => [.int .i64 4, f 37]) rfl rfl rfl rfl rfl (by kernel_rfl) rfl (fun f => rfl) (fun m f hf => (wide_any 4 m.1 (hf 37 _ rfl rfl) (by omega) (by simp)).mono fun _ _ h => (wide1_4 c.own ▸ h : RetB _ _ _ _).gs (BB m)) ?_
 simp only [Act.put, List.setIfInBounds_toArray, List.set_cons_zero, List.set_cons_succ]
 refine Gd.wpX_buildL (by first | exact trivial | exact ⟨_, rfl, rfl, rfl⟩) (NdG wz.heap.size 0 (leafN 132 (be4 c.own))) (stable_NdG _ _ _) (fun f => [(0, .int .i64 132), (1, f 38)]) rfl rfl rfl rfl rfl (fun f => rfl) (fun m f hf => run_leaf m.1 132 (hf 38 _ rfl rfl)) ?_
 simp only [Act.put, List.setIfInBounds_toArray, List.set_cons_zero, List.set_cons_succ]
 repeat (refine Gd.wpX_pure (by first | exact trivial | exact ⟨_, rfl, rfl, rfl⟩) rfl rfl rfl rfl rfl (fun K hK => ?_); go_big_quiet_op; refine hK _ ?_; clear hK K)
 refine Gd.wpX_buildL (by first | exact trivial | exact ⟨_, rfl, rfl, rfl⟩) (NdG wz.heap.size 0 (leafN 133 (be4 c.key))) (stable_NdG _ _ _) (fun f => [(0, .int .i64 133), (1, .slice A n c')]) rfl rfl rfl rfl rfl (fun f => rfl) (fun m f hf => run_leaf m.1 133 (OB m)) ?_
 simp only [Act.put, List.setIfInBounds_toArray, List.set_cons_zero, List.set_cons_succ]
 repeat (refine Gd.wpX_pure (by first | exact trivial | exact ⟨_, rfl, rfl, rfl⟩) rfl rfl rfl rfl rfl (fun K hK => ?_); go_big_quiet_op; refine hK _ ?_; clear hK K)
 refine Gd.wpX_buildSL (by first | exact trivial | exact ⟨_, rfl, rfl, rfl⟩) (GI [c.fr, c.un, c.to]) (stable_GI _) (fun _ => [(0, .int .i64 c.fr), (1, .int .i64 c.un), (2, .int .i64 c.to)]) rfl rfl rfl rfl rfl (fun _ => rfl) (fun m f hf => ⟨_, _, (by go_simp : (Instr.buildSlice 41 3 [(0, .int .i64 c.fr), (1, .int .i64 c.un), (2, .int .i64 c.to)].toArray).run Tryz.prog m.1 = .ok (.slice (some ⟨m.1.heap.size, 0, none⟩) 3 3) (m.1.alloc (.cells #[.int .i64 c.fr, .int .i64 c.un, .int .i64 c.to] 3))), (Below.refl _ _).alloc (Nat.le_refl _) _, gi_lit m.1 #[.int .i64 c.fr, .int .i64 c.un, .int .i64 c.to] [c.fr, c.un, c.to] 3 rfl (by omega) rfl⟩) ?_
 simp only [Act.put, List.setIfInBounds_toArray, List.set_cons_zero, List.set_cons_succ]
 refine Gd.wpX_callF (by first | exact trivial | exact ⟨_, rfl, rfl, rfl⟩) (GS wz.heap.size (daysB c)) (stable_GS _ _) (fun f => [.int .i64 3, f 48]) rfl rfl rfl rfl rfl (by kernel_rfl) rfl (fun f => rfl) (fun m f hf => (wide_any 3 m.1 (hf 48 _ rfl rfl) (by omega) (by simp)).mono fun _ _ h => (wide_days c ▸ h : RetB _ _ _ _).gs (BB m)) ?_
 simp only [Act.put, List.setIfInBounds_toArray, List.set_cons_zero, List.set_cons_succ]
 refine Gd.wpX_buildL (by first | exact trivial | exact ⟨_, rfl, rfl, rfl⟩) (NdG wz.heap.size 0 (leafN 134 (daysB c))) (stable_NdG _ _ _) (fun f => [(0, .int .i64 134), (1, f 49)]) rfl rfl rfl rfl rfl (fun f => rfl) (fun m f hf => run_leaf m.1 134 (hf 49 _ rfl rfl)) ?_
 simp only [Act.put, List.setIfInBounds_toArray, List.set_cons_zero, List.set_cons_succ]
 refine Gd.wpX_buildSL (by first | exact trivial | exact ⟨_, rfl, rfl, rfl⟩) (NdsG wz.heap.size 1 (bodyN c).kids) (stable_NdsG _ _ _) (fun f => [(0, f 19), (1, f 24), (2, f 29), (3, f 34), (4, f 39), (5, f 41), (6, f 50)]) rfl rfl rfl rfl rfl (fun f => rfl) (fun m f hf => run_nodes7 m.1 (BB m) (hf 19 _ rfl rfl) (hf 24 _ rfl rfl) (hf 29 _ rfl rfl) (hf 34 _ rfl rfl) (hf 39 _ rfl rfl) (hf 41 _ rfl rfl) (hf 50 _ rfl rfl)) ?_
 simp only [Act.put, List.setIfInBounds_toArray, List.set_cons_zero, List.set_cons_succ]
 refine Gd.wpX_buildL (by first | exact trivial | exact ⟨_, rfl, rfl, rfl⟩) (NdG wz.heap.size 1 (bodyN c)) (stable_NdG _ _ _) (fun f => [(0, .int .i64 48), (2, f 51)]) rfl rfl rfl rfl rfl (fun f => rfl) (fun m f hf => run_cons m.1 48 (hf 51 _ rfl rfl)) ?_
 simp only [Act.put, List.setIfInBounds_toArray, List.set_cons_zero, List.set_cons_succ]
 refine Gd.wpX_endL (fun m f hf => ?_)
 obtain ⟨A1, n1, c1, A2, n2, c2, e49, r49, k49⟩ := hf 52 _ rfl
 rw [show (bodyN c).tag = 48 from rfl] at e49
 simp only [fillH]
 simp only [Act.put, List.setIfInBounds_toArray, List.set_cons_zero, List.set_cons_succ]
 rw [e49]
 have Lm := LL m
 have xm := xk.tr Lm
 obtain ⟨wy, hwy⟩ := m
 clear LL BB OB v0 v1 v2 v3 v4 v6 v7 v8 hf e49
 have hby := hbk.ex Lm
 have NB := Lib.hid (node_back (w := w) (t := bodyN c) x0.size hsz r49 k49 (.int .i64 48) (.slice A1 n1 c1) (.slice A2 n2 c2))
 clear r49 k49 hck
 obtain ⟨y0, y1, y2, yf0, yf1, yf2⟩ := hby.cells
 obtain ⟨w0', w1', w2', _, _, _⟩ := (hby.set3 (.int .i64 48) (.slice A1 n1 c1) (.slice A2 n2 c2)).cells
 have hl := hby.lt
 show wpList _ _ _ _ _ _
 go_wp2_with fail
 refine bodyPost_ret (v := .tuple #[.agg #[.int .i64 48, .slice A1 n1 c1, .slice A2 n2 c2], .int .i64 0]) ?_ rfl ⟨ext_set3 xm (by omega) _ _ _, _, NB.out, rfl⟩
 simp [results, Tryz.results207, go_sem, w0', w1', w2']
theorem Own.slice {w : World} {B : Nat} {e : TypeId} {v : Value} {xs : List Value} (h : Own w B e v xs) : ∃ A n c, v = .slice A n c := by
 obtain ⟨A, n, c, e, _⟩ := h
 exact ⟨A, n, c, e⟩
theorem run_appOwn {B : Nat} {W : World} {ty : TypeId} {v src : Value} {xs ys : List UInt8} (hB : B ≤ W.heap.size) (hx : GF B xs v W) (hy : GS B ys src W) (h1 : 0 < xs.length) (h2 : 0 < ys.length) (hs : xs.length + ys.length ≤ 100000) :
 ∃ v' w'', (Builtin.append_ #[89, 89] ty #[v, src]).run Tryz.prog W = .ok v' w'' ∧ Ext W w'' ∧ Own w'' B 5 v' (bvs (xs ++ ys)) := by
 obtain ⟨i, z, ht, hi, hz, hsz, hby, hzs⟩ := elemB.ex
 obtain ⟨A, rfl, A', n', c', e, hn, _, _, hcell⟩ := hx
 injection e with e1 e2 e3
 subst e1 e2 e3
 obtain ⟨A2, m, c2, rfl, hm, _, _, hcell2⟩ := hy
 rw [bvs_length] at hm
 subst hm
 obtain ⟨b, o, rfl, _, hc⟩ := hcell h1
 obtain ⟨b2, o2, rfl, _, hc2⟩ := hcell2 h2
 obtain ⟨v', w', k1, k2, k3⟩ := run_append_arg_grows (P := Tryz.prog) W 89 ty 5 i z 1 1 ht hi hz hsz hby hzs (by decide) ⟨b, o, none⟩ xs.length xs.length (bvs xs) (by rw [bvs_length]; omega) (fun j u hu => by rw [Addr.add_lit]; exact hc j u hu) ⟨b2, o2, none⟩ ys.length c2 (bvs ys) (by rw [bvs_length]; omega) (fun j u hu => by rw [Addr.add_lit]; exact hc2 j u hu) (by omega) (by unfold maxLen; omega) (by omega)
 rw [bvs_append] at k2
 exact ⟨v', w', k1, ⟨k3.os, k3.tape, k3.output, k3.size, fun k hk => k3.block k hk (by simp)⟩, (ownsRow_own k2).mono hB⟩
set_option maxHeartbeats 1000000 in
theorem nrefbody_ok (c : NC) (w : World) (h : ckN c = 0) : Calls Tryz.prog 211 #[ncV c] w (NodeR w 1 (bodyN c) id) := by
 have sa : c.st.length ≤ 4096 := by have := (ckN_ok h).1.1.2; omega
 have HC := Lib.hid (ckN_ok h)
 have he := (ckN_ok h).2.2.2.2.1
 clear h
 obtain ⟨wz, hwz⟩ : ∃ wz, wz = ((w.alloc (.cells #[.string (bstr c.st), .int .i64 c.kind, .int .i64 c.num, .int .i64 c.iss, .int .i64 c.own, .int .i64 c.key, .int .i64 c.fr, .int .i64 c.un, .int .i64 c.to, .int .i64 c.e, .int .i64 c.s] 56))).alloc (.cells #[.int .i64 0, .slice none 0 0, .slice none 0 0] 180) := ⟨_, rfl⟩
 have e1 : Ext w (w.alloc (.cells #[.string (bstr c.st), .int .i64 c.kind, .int .i64 c.num, .int .i64 c.iss, .int .i64 c.own, .int .i64 c.key, .int .i64 c.fr, .int .i64 c.un, .int .i64 c.to, .int .i64 c.e, .int .i64 c.s] 56)) := (Below.refl _ _).alloc (Nat.le_refl _) _
 have x0 : Ext w wz := by rw [hwz]; exact e1.alloc (by simp) _
 have hc : NcAt wz w.heap.size c := by rw [hwz]; exact (NcAt.new w c).ext ((Below.refl _ _).alloc (Nat.le_refl _) _)
 have hb : C3 wz (w.heap.size + 1) (.int .i64 0) (.slice none 0 0) (.slice none 0 0) := by
  have := C3.new (w.alloc (.cells #[.string (bstr c.st), .int .i64 c.kind, .int .i64 c.num, .int .i64 c.iss, .int .i64 c.own, .int .i64 c.key, .int .i64 c.fr, .int .i64 c.un, .int .i64 c.to, .int .i64 c.e, .int .i64 c.s] 56)) (.int .i64 0) (.slice none 0 0) (.slice none 0 0)
  rw [show (w.alloc (.cells #[.string (bstr c.st), .int .i64 c.kind, .int .i64 c.num, .int .i64 c.iss, .int .i64 c.own, .int .i64 c.key, .int .i64 c.fr, .int .i64 c.un, .int .i64 c.to, .int .i64 c.e, .int .i64 c.s] 56)).heap.size = w.heap.size + 1 by simp] at this
  rw [hwz]; exact this
 have hsz : w.heap.size + 1 < wz.heap.size := hb.lt
 unfold ncV
 go_enter Tryz.func211, Tryz.ntmps211
 go_wp2_with fail
 rw [← hwz]
 clear hwz e1
 obtain ⟨t0, t1, t2, t3, t4, t5, t6, t7, t8, t9, t10⟩ := hc.cells
 have hl := hc.lt
 go_wp2_with fail
 refine (refgencode_any _ _).mono ?_
 rintro e wk ⟨A, n, c', rfl, hn, o, bk⟩
 rw [show elB c.key = be4 c.key from if_pos he] at hn o
 rw [show elK c.key = 0 from if_pos he]
 have ob : GS wz.heap.size (be4 c.key) (.slice A n c') wk := RdS.of o fun b hb => hb
 have hck := hc.ext bk
 have hbk := hb.ex bk
 have xk := x0.tr bk
 clear hn o hc hb t0 t1 t2 t3 t4 t5 t6 t7 t8 t9 t10 hl
 obtain ⟨h1, h2, h3, ⟨⟨n1, n2⟩, ⟨n3, n4⟩, ⟨n5, n6⟩, _⟩, h5, d1, d2, d3, d4⟩ := HC.out
 have kind0 : 0 ≤ c.kind := by omega
 have kind1 : c.kind < 9223372036854775808 := by omega
 have num0 : 0 ≤ c.num := by omega
 have num1 : c.num < 9223372036854775808 := by omega
 have iss0 : 0 ≤ c.iss := by omega
 have iss1 : c.iss < 9223372036854775808 := by omega
 have own0 : 0 ≤ c.own := by omega
 have own1 : c.own < 9223372036854775808 := by omega
 have fr0 : 0 ≤ c.fr := by omega
 have fr1 : c.fr < 9223372036854775808 := by omega
 have un0 : 0 ≤ c.un := by omega
 have un1 : c.un < 9223372036854775808 := by omega
 have to0 : 0 ≤ c.to := by omega
 have to1 : c.to < 9223372036854775808 := by omega
 clear h1 h2 h3 n1 n2 n3 n4 n5 n6 h5 d1 d2 d3 d4
 go_wp2_with fail
 refine Gd.wp_region_X 10 (by kernel_rfl) (by kernel_rfl) ?_
 simp only [List.take_succ_cons, List.take_zero, List.drop_succ_cons, List.drop_zero]
 intro w1 hw1
 have LL : ∀ m : Lt w1, Ext wk m.1 := fun m => hw1.tr m.2
 have v6 : ∀ m : Lt w1, m.1.cell? ⟨w.heap.size, 6, none⟩ = some (.int .i64 c.fr) := fun m => (hck.ext (LL m)).cells.2.2.2.2.2.2.1
 have v7 : ∀ m : Lt w1, m.1.cell? ⟨w.heap.size, 7, none⟩ = some (.int .i64 c.un) := fun m => (hck.ext (LL m)).cells.2.2.2.2.2.2.2.1
 have v8 : ∀ m : Lt w1, m.1.cell? ⟨w.heap.size, 8, none⟩ = some (.int .i64 c.to) := fun m => (hck.ext (LL m)).cells.2.2.2.2.2.2.2.2.1
 have BB : ∀ m : Lt w1, wk.heap.size ≤ m.1.heap.size := fun m => (LL m).size
 repeat (refine Gd.wpX_pure (by first | exact trivial | exact ⟨_, rfl, rfl, rfl⟩) rfl rfl rfl rfl rfl (fun K hK => ?_); go_big_quiet_op; refine hK _ ?_; clear hK K)
 refine Gd.wpX_callF (by first | exact trivial | exact ⟨_, rfl, rfl, rfl⟩) (GF wk.heap.size (be3 c.fr)) (stable_GF _ _) (fun _ => [.int .i64 c.fr, .int .i64 3]) rfl rfl rfl rfl rfl (by kernel_rfl) rfl (fun _ => rfl) (fun m f hf => beN_3 c.fr ▸ gf_bytes 3 c.fr 3 m.1 (BB m) fr0 fr1 rfl (by omega)) ?_
 simp only [Act.put, List.setIfInBounds_toArray, List.set_cons_zero, List.set_cons_succ]
 repeat (refine Gd.wpX_pure (by first | exact trivial | exact ⟨_, rfl, rfl, rfl⟩) rfl rfl rfl rfl rfl (fun K hK => ?_); go_big_quiet_op; refine hK _ ?_; clear hK K)
 refine Gd.wpX_callF (by first | exact trivial | exact ⟨_, rfl, rfl, rfl⟩) (GF wk.heap.size (be3 c.un)) (stable_GF _ _) (fun _ => [.int .i64 c.un, .int .i64 3]) rfl rfl rfl rfl rfl (by kernel_rfl) rfl (fun _ => rfl) (fun m f hf => beN_3 c.un ▸ gf_bytes 3 c.un 3 m.1 (BB m) un0 un1 rfl (by omega)) ?_
 simp only [Act.put, List.setIfInBounds_toArray, List.set_cons_zero, List.set_cons_succ]
 refine Gd.wpX_appF (by first | exact trivial | exact ⟨_, rfl, rfl, rfl⟩) (fun v w => Own w wk.heap.size 5 v (bvs (be3 c.fr ++ be3 c.un))) (stable_own _ _ _) (fun f => f 14) (fun f => f 17) rfl rfl rfl rfl rfl rfl (fun _ => rfl) (fun _ => rfl) (fun m f hf => run_appOwn (BB m) (hf 14 _ rfl rfl) (hf 17 _ rfl rfl).gs (by simp [be3]) (by simp [be3]) (by simp [be3])) ?_
 simp only [Act.put, List.setIfInBounds_toArray, List.set_cons_zero, List.set_cons_succ]
 repeat (refine Gd.wpX_pure (by first | exact trivial | exact ⟨_, rfl, rfl, rfl⟩) rfl rfl rfl rfl rfl (fun K hK => ?_); go_big_quiet_op; refine hK _ ?_; clear hK K)
 refine Gd.wpX_callF (by first | exact trivial | exact ⟨_, rfl, rfl, rfl⟩) (GF wk.heap.size (be3 c.to)) (stable_GF _ _) (fun _ => [.int .i64 c.to, .int .i64 3]) rfl rfl rfl rfl rfl (by kernel_rfl) rfl (fun _ => rfl) (fun m f hf => beN_3 c.to ▸ gf_bytes 3 c.to 3 m.1 (BB m) to0 to1 rfl (by omega)) ?_
 simp only [Act.put, List.setIfInBounds_toArray, List.set_cons_zero, List.set_cons_succ]
 refine Gd.wpX_endL (fun m f hf => ?_)
 have h18 := hf 18 _ rfl
 have h21 := (hf 21 _ rfl).gs
 simp only [fillH]
 simp only [Act.put, List.setIfInBounds_toArray, List.set_cons_zero, List.set_cons_succ]
 obtain ⟨A18, n18, c18, e18⟩ := Own.slice h18
 obtain ⟨A21, n21, c21, e21⟩ := h21.slice
 rw [e18] at h18 ⊢
 rw [e21] at h21 ⊢
 have Lm := LL m
 obtain ⟨wm, hwm⟩ := m
 clear LL BB v6 v7 v8 hf e18 e21
 show wpList _ _ _ _ _ _
 go_wp2_with (refine appB (B := wk.heap.size) (w0 := wk) (xs := be3 c.fr ++ be3 c.un) (ys := be3 c.to) h18 h21.rd Lm (by simp [be3]) Lm.size rfl rfl rfl rfl ?_; intro Aq nq cq wq hnq oq0 bq gq)
 have oq : GS wz.heap.size (daysB c) (.slice Aq nq cq) wq := RdS.of (xs := bvs (daysB c)) oq0 fun b hb => Nat.le_trans bk.size hb
 have ob2 : GS wz.heap.size (be4 c.key) (.slice A n c') wq := stable_GS _ _ _ _ _ bq ob
 have bk2 := bk.tr bq
 have hck2 := hck.ext bq
 have hbk2 := hbk.ex bq
 have xk2 := xk.tr bq
 clear ob hck hbk xk bk h18 h21 Lm hwm hnq oq0 gq
 refine Gd.wp_region_X 26 (by kernel_rfl) (by kernel_rfl) ?_
 simp only [List.take_succ_cons, List.take_zero, List.drop_succ_cons, List.drop_zero]
 intro w1 hw1
 have LL : ∀ m : Lt w1, Ext wq m.1 := fun m => hw1.tr m.2
 have v0 : ∀ m : Lt w1, m.1.cell? ⟨w.heap.size, 0, none⟩ = some (.string (bstr c.st)) := fun m => (hck2.ext (LL m)).cells.1
 have v1 : ∀ m : Lt w1, m.1.cell? ⟨w.heap.size, 1, none⟩ = some (.int .i64 c.kind) := fun m => (hck2.ext (LL m)).cells.2.1
 have v2 : ∀ m : Lt w1, m.1.cell? ⟨w.heap.size, 2, none⟩ = some (.int .i64 c.num) := fun m => (hck2.ext (LL m)).cells.2.2.1
 have v3 : ∀ m : Lt w1, m.1.cell? ⟨w.heap.size, 3, none⟩ = some (.int .i64 c.iss) := fun m => (hck2.ext (LL m)).cells.2.2.2.1
 have v4 : ∀ m : Lt w1, m.1.cell? ⟨w.heap.size, 4, none⟩ = some (.int .i64 c.own) := fun m => (hck2.ext (LL m)).cells.2.2.2.2.1
 have OB : ∀ m : Lt w1, GS wz.heap.size (be4 c.key) (.slice A n c') m.1 := fun m => stable_GS _ _ _ _ _ (LL m) ob2
 have OR : ∀ m : Lt w1, GS wz.heap.size (daysB c) (.slice Aq nq cq) m.1 := fun m => stable_GS _ _ _ _ _ (LL m) oq
 have BB : ∀ m : Lt w1, wz.heap.size ≤ m.1.heap.size := fun m => Nat.le_trans bk2.size (LL m).size
 repeat (refine Gd.wpX_pure (by first | exact trivial | exact ⟨_, rfl, rfl, rfl⟩) rfl rfl rfl rfl rfl (fun K hK => ?_); go_big_quiet_op; refine hK _ ?_; clear hK K)
 refine Gd.wpX_convL (by first | exact trivial | exact ⟨_, rfl, rfl, rfl⟩) (GS wz.heap.size c.st) (stable_GS _ _) (fun _ => .string (bstr c.st)) rfl rfl rfl rfl rfl (fun _ => rfl) (fun m f hf => gs_str m.1 (BB m) c.st sa) ?_
 simp only [Act.put, List.setIfInBounds_toArray, List.set_cons_zero, List.set_cons_succ]
 refine Gd.wpX_callF (by first | exact trivial | exact ⟨_, rfl, rfl, rfl⟩) (NdG wz.heap.size 0 (leafN 19 c.st)) (stable_NdG _ _ _) (fun f => [.int .i64 19, f 25]) rfl rfl rfl rfl rfl (by kernel_rfl) rfl (fun f => rfl) (fun m f hf => leafC m.1 19 (hf 25 _ rfl rfl)) ?_
 simp only [Act.put, List.setIfInBounds_toArray, List.set_cons_zero, List.set_cons_succ]
 repeat (refine Gd.wpX_pure (by first | exact trivial | exact ⟨_, rfl, rfl, rfl⟩) rfl rfl rfl rfl rfl (fun K hK => ?_); go_big_quiet_op; refine hK _ ?_; clear hK K)
 refine Gd.wpX_callF (by first | exact trivial | exact ⟨_, rfl, rfl, rfl⟩) (GS wz.heap.size [u8 c.kind]) (stable_GS _ _) (fun _ => [.int .i64 c.kind, .int .i64 1]) rfl rfl rfl rfl rfl (by kernel_rfl) rfl (fun _ => rfl) (fun m f hf => (refbytes_any 1 c.kind 1 m.1 kind0 kind1 rfl (by omega)).mono fun _ _ h => (beN_1 c.kind ▸ h : RetB _ _ _ _).gs (BB m)) ?_
 simp only [Act.put, List.setIfInBounds_toArray, List.set_cons_zero, List.set_cons_succ]
 refine Gd.wpX_callF (by first | exact trivial | exact ⟨_, rfl, rfl, rfl⟩) (NdG wz.heap.size 0 (leafN 129 [u8 c.kind])) (stable_NdG _ _ _) (fun f => [.int .i64 129, f 29]) rfl rfl rfl rfl rfl (by kernel_rfl) rfl (fun f => rfl) (fun m f hf => leafC m.1 129 (hf 29 _ rfl rfl)) ?_
 simp only [Act.put, List.setIfInBounds_toArray, List.set_cons_zero, List.set_cons_succ]
 repeat (refine Gd.wpX_pure (by first | exact trivial | exact ⟨_, rfl, rfl, rfl⟩) rfl rfl rfl rfl rfl (fun K hK => ?_); go_big_quiet_op; refine hK _ ?_; clear hK K)
 refine Gd.wpX_callF (by first | exact trivial | exact ⟨_, rfl, rfl, rfl⟩) (GS wz.heap.size (be4 c.num)) (stable_GS _ _) (fun _ => [.int .i64 c.num, .int .i64 4]) rfl rfl rfl rfl rfl (by kernel_rfl) rfl (fun _ => rfl) (fun m f hf => (refbytes_any 4 c.num 4 m.1 num0 num1 rfl (by omega)).mono fun _ _ h => (beN_4 c.num ▸ h : RetB _ _ _ _).gs (BB m)) ?_
 simp only [Act.put, List.setIfInBounds_toArray, List.set_cons_zero, List.set_cons_succ]
 refine Gd.wpX_callF (by first | exact trivial | exact ⟨_, rfl, rfl, rfl⟩) (NdG wz.heap.size 0 (leafN 130 (be4 c.num))) (stable_NdG _ _ _) (fun f => [.int .i64 130, f 33]) rfl rfl rfl rfl rfl (by kernel_rfl) rfl (fun f => rfl) (fun m f hf => leafC m.1 130 (hf 33 _ rfl rfl)) ?_
 simp only [Act.put, List.setIfInBounds_toArray, List.set_cons_zero, List.set_cons_succ]
 repeat (refine Gd.wpX_pure (by first | exact trivial | exact ⟨_, rfl, rfl, rfl⟩) rfl rfl rfl rfl rfl (fun K hK => ?_); go_big_quiet_op; refine hK _ ?_; clear hK K)
 refine Gd.wpX_callF (by first | exact trivial | exact ⟨_, rfl, rfl, rfl⟩) (GS wz.heap.size (be4 c.iss)) (stable_GS _ _) (fun _ => [.int .i64 c.iss, .int .i64 4]) rfl rfl rfl rfl rfl (by kernel_rfl) rfl (fun _ => rfl) (fun m f hf => (refbytes_any 4 c.iss 4 m.1 iss0 iss1 rfl (by omega)).mono fun _ _ h => (beN_4 c.iss ▸ h : RetB _ _ _ _).gs (BB m)) ?_
 simp only [Act.put, List.setIfInBounds_toArray, List.set_cons_zero, List.set_cons_succ]
 refine Gd.wpX_callF (by first | exact trivial | exact ⟨_, rfl, rfl, rfl⟩) (NdG wz.heap.size 0 (leafN 131 (be4 c.iss))) (stable_NdG _ _ _) (fun f => [.int .i64 131, f 37]) rfl rfl rfl rfl rfl (by kernel_rfl) rfl (fun f => rfl) (fun m f hf => leafC m.1 131 (hf 37 _ rfl rfl)) ?_
 simp only [Act.put, List.setIfInBounds_toArray, List.set_cons_zero, List.set_cons_succ]
 repeat (refine Gd.wpX_pure (by first | exact trivial | exact ⟨_, rfl, rfl, rfl⟩) rfl rfl rfl rfl rfl (fun K hK => ?_); go_big_quiet_op; refine hK _ ?_; clear hK K)
 refine Gd.wpX_callF (by first | exact trivial | exact ⟨_, rfl, rfl, rfl⟩) (GS wz.heap.size (be4 c.own)) (stable_GS _ _) (fun _ => [.int .i64 c.own, .int .i64 4]) rfl rfl rfl rfl rfl (by kernel_rfl) rfl (fun _ => rfl) (fun m f hf => (refbytes_any 4 c.own 4 m.1 own0 own1 rfl (by omega)).mono fun _ _ h => (beN_4 c.own ▸ h : RetB _ _ _ _).gs (BB m)) ?_
 simp only [Act.put, List.setIfInBounds_toArray, List.set_cons_zero, List.set_cons_succ]
 refine Gd.wpX_callF (by first | exact trivial | exact ⟨_, rfl, rfl, rfl⟩) (NdG wz.heap.size 0 (leafN 132 (be4 c.own))) (stable_NdG _ _ _) (fun f => [.int .i64 132, f 41]) rfl rfl rfl rfl rfl (by kernel_rfl) rfl (fun f => rfl) (fun m f hf => leafC m.1 132 (hf 41 _ rfl rfl)) ?_
 simp only [Act.put, List.setIfInBounds_toArray, List.set_cons_zero, List.set_cons_succ]
 repeat (refine Gd.wpX_pure (by first | exact trivial | exact ⟨_, rfl, rfl, rfl⟩) rfl rfl rfl rfl rfl (fun K hK => ?_); go_big_quiet_op; refine hK _ ?_; clear hK K)
 refine Gd.wpX_callF (by first | exact trivial | exact ⟨_, rfl, rfl, rfl⟩) (NdG wz.heap.size 0 (leafN 133 (be4 c.key))) (stable_NdG _ _ _) (fun f => [.int .i64 133, .slice A n c']) rfl rfl rfl rfl rfl (by kernel_rfl) rfl (fun f => rfl) (fun m f hf => leafC m.1 133 (OB m)) ?_
 simp only [Act.put, List.setIfInBounds_toArray, List.set_cons_zero, List.set_cons_succ]
 repeat (refine Gd.wpX_pure (by first | exact trivial | exact ⟨_, rfl, rfl, rfl⟩) rfl rfl rfl rfl rfl (fun K hK => ?_); go_big_quiet_op; refine hK _ ?_; clear hK K)
 refine Gd.wpX_callF (by first | exact trivial | exact ⟨_, rfl, rfl, rfl⟩) (NdG wz.heap.size 0 (leafN 134 (daysB c))) (stable_NdG _ _ _) (fun f => [.int .i64 134, .slice Aq nq cq]) rfl rfl rfl rfl rfl (by kernel_rfl) rfl (fun f => rfl) (fun m f hf => leafC m.1 134 (OR m)) ?_
 simp only [Act.put, List.setIfInBounds_toArray, List.set_cons_zero, List.set_cons_succ]
 refine Gd.wpX_buildSL (by first | exact trivial | exact ⟨_, rfl, rfl, rfl⟩) (NdsG wz.heap.size 1 (bodyN c).kids) (stable_NdsG _ _ _) (fun f => [(0, f 26), (1, f 30), (2, f 34), (3, f 38), (4, f 42), (5, f 44), (6, f 46)]) rfl rfl rfl rfl rfl (fun f => rfl) (fun m f hf => run_nodes7 m.1 (BB m) (hf 26 _ rfl rfl) (hf 30 _ rfl rfl) (hf 34 _ rfl rfl) (hf 38 _ rfl rfl) (hf 42 _ rfl rfl) (hf 44 _ rfl rfl) (hf 46 _ rfl rfl)) ?_
 simp only [Act.put, List.setIfInBounds_toArray, List.set_cons_zero, List.set_cons_succ]
 refine Gd.wpX_buildL (by first | exact trivial | exact ⟨_, rfl, rfl, rfl⟩) (NdG wz.heap.size 1 (bodyN c)) (stable_NdG _ _ _) (fun f => [(0, .int .i64 48), (2, f 47)]) rfl rfl rfl rfl rfl (fun f => rfl) (fun m f hf => run_cons m.1 48 (hf 47 _ rfl rfl)) ?_
 simp only [Act.put, List.setIfInBounds_toArray, List.set_cons_zero, List.set_cons_succ]
 refine Gd.wpX_endL (fun m f hf => ?_)
 obtain ⟨A1, n1, c1, A2, n2, c2, e49, r49, k49⟩ := hf 48 _ rfl
 rw [show (bodyN c).tag = 48 from rfl] at e49
 simp only [fillH]
 simp only [Act.put, List.setIfInBounds_toArray, List.set_cons_zero, List.set_cons_succ]
 rw [e49]
 have Lm := LL m
 have xm := xk2.tr Lm
 obtain ⟨wy, hwy⟩ := m
 clear LL BB OB OR v0 v1 v2 v3 v4 hf e49
 have hby := hbk2.ex Lm
 have NB := Lib.hid (node_back (w := w) (t := bodyN c) x0.size hsz r49 k49 (.int .i64 48) (.slice A1 n1 c1) (.slice A2 n2 c2))
 clear r49 k49 hck2
 obtain ⟨y0, y1, y2, yf0, yf1, yf2⟩ := hby.cells
 obtain ⟨w0', w1', w2', _, _, _⟩ := (hby.set3 (.int .i64 48) (.slice A1 n1 c1) (.slice A2 n2 c2)).cells
 have hl := hby.lt
 show wpList _ _ _ _ _ _
 go_wp2_with fail
 refine bodyPost_ret (v := .agg #[.int .i64 48, .slice A1 n1 c1, .slice A2 n2 c2]) ?_ rfl ⟨ext_set3 xm (by omega) _ _ _, _, NB.out, rfl⟩
 simp [results, Tryz.results211, go_sem, w0', w1', w2']
theorem ncnt_body (c : NC) : cntNs 2 [bodyN c] ≤ 256 := show 8 ≤ 256 by omega
theorem nbody_4096 {c : NC} (h : ckN c = 0) : (encNs 2 [bodyN c]).length ≤ 4096 := by
 have := bodyNB_len (ckN_ok h).1.1.2
 unfold bodyNB at this
 omega
set_option maxHeartbeats 1000000 in
theorem nbody_any (c : NC) (w : World) (hs : smN c) : Calls Tryz.prog 247 #[ncV c] w (RetRE w (byN c) (ckN c)) := by
 have x0 : Ext w (w.alloc (.cells #[.string (bstr c.st), .int .i64 c.kind, .int .i64 c.num, .int .i64 c.iss, .int .i64 c.own, .int .i64 c.key, .int .i64 c.fr, .int .i64 c.un, .int .i64 c.to, .int .i64 c.e, .int .i64 c.s] 56)) := (Below.refl _ _).alloc (Nat.le_refl _) _
 unfold ncV
 go_enter Tryz.func247, Tryz.ntmps247
 go_wp2_with fail
 refine (nationalcert_check c _ hs).mono ?_
 rintro e w1 ⟨rfl, b1⟩
 have x1 := x0.tr b1
 have hT := (NcAt.new w c).ext b1
 by_cases hc : ckN c = 0
 · have HK := Lib.hid hc
   have HB := Lib.hid (show byN c = bodyNB c from if_pos hc)
   rw [hc]
   clear hc
   obtain ⟨t0, t1, t2, t3, t4, t5, t6, t7, t8, t9, t10⟩ := hT.cells
   have hl := hT.lt
   go_wp2_with fail
   refine (ntree_ok c _ HK.out).mono ?_
   rintro e w2 ⟨b2, v, hv, rfl⟩
   obtain ⟨A1, n1, c1, A2, n2, c2, rfl⟩ := node_open hv
   have x2 := x1.tr b2
   have hv0 := stable_NdG _ _ _ _ _ _ ((Below.refl _ _).alloc (Nat.le_refl _) (.cells #[.int .i64 48, .slice A1 n1 c1, .slice A2 n2 c2] 180)) hv.zero
   have x3 : Ext w ((w2.alloc (.cells #[.int .i64 48, .slice A1 n1 c1, .slice A2 n2 c2] 180)).alloc (.cells #[.int .i64 48, .slice A1 n1 c1, .slice A2 n2 c2] 180)) := (x2.alloc x2.size _).alloc (by simp; have := x2.size; omega) _
   have HV := Lib.hid hv0
   clear hv hv0 t0 t1 t2 t3 t4 t5 t6 t7 t8 t9 t10 hT hl
   rw [show (bodyN c).tag = 48 from rfl]
   go_wp2_with fail
   refine (encode_ok (d := 2) (ts := [bodyN c]) _ (ok_bodyN c) (nds_one (t := bodyN c) (by simp) HV.out) (by omega) (ncnt_body c) (nbody_4096 HK.out)).mono ?_
   rintro e w4 ⟨A, n, cc, rfl, hn, o, b4⟩
   go_wp2_with fail
   go_ret2
   rw [HB.out, HK.out]
   exact ⟨_, _, _, rfl, hn, o.rd, x3.tr b4⟩
 · have hb : (ckN c != 0) = true := by simpa using hc
   have HB := Lib.hid (show byN c = [] from if_neg hc)
   clear hc
   go_wp2_with fail
   go_ret2
   rw [HB.out]
   exact ⟨_, _, _, rfl, (show _ = _ from rfl), Rd.nil_ _, x1⟩
set_option maxHeartbeats 1000000 in
theorem nrefbody_any (c : NC) (w : World) (hs : smN c) : Calls Tryz.prog 248 #[ncV c] w (RetRE w (byN c) (ckN c)) := by
 have x0 : Ext w (w.alloc (.cells #[.string (bstr c.st), .int .i64 c.kind, .int .i64 c.num, .int .i64 c.iss, .int .i64 c.own, .int .i64 c.key, .int .i64 c.fr, .int .i64 c.un, .int .i64 c.to, .int .i64 c.e, .int .i64 c.s] 56)) := (Below.refl _ _).alloc (Nat.le_refl _) _
 unfold ncV
 go_enter Tryz.func248, Tryz.ntmps248
 go_wp2_with fail
 refine (traveldocref29_check c _ hs).mono ?_
 rintro e w1 ⟨rfl, b1⟩
 have x1 := x0.tr b1
 have hT := (NcAt.new w c).ext b1
 by_cases hc : ckN c = 0
 · have HK := Lib.hid hc
   have HB := Lib.hid (show byN c = bodyNB c from if_pos hc)
   rw [hc]
   clear hc
   obtain ⟨t0, t1, t2, t3, t4, t5, t6, t7, t8, t9, t10⟩ := hT.cells
   have hl := hT.lt
   go_wp2_with fail
   refine (nrefbody_ok c _ HK.out).mono ?_
   rintro e w2 ⟨b2, v, hv, rfl⟩
   obtain ⟨A1, n1, c1, A2, n2, c2, rfl⟩ := node_open hv
   have x2 := x1.tr b2
   have x3 : Ext w (w2.alloc (.cells #[.int .i64 48, .slice A1 n1 c1, .slice A2 n2 c2] 180)) := x2.alloc x2.size _
   have HV := Lib.hid hv.zero
   clear hv t0 t1 t2 t3 t4 t5 t6 t7 t8 t9 t10 hT hl
   rw [show (bodyN c).tag = 48 from rfl]
   simp only [id]
   go_wp2_with fail
   refine (refencode_ok (d := 2) (ts := [bodyN c]) _ (ok_bodyN c) (nds_one (t := bodyN c) rfl HV.out) (by omega) (ncnt_body c) (nbody_4096 HK.out)).mono ?_
   rintro e w4 ⟨A, n, cc, rfl, hn, o, b4⟩
   go_wp2_with fail
   go_ret2
   rw [HB.out, HK.out]
   exact ⟨_, _, _, rfl, hn, o.rd, x3.tr b4⟩
 · have hb : (ckN c != 0) = true := by simpa using hc
   have HB := Lib.hid (show byN c = [] from if_neg hc)
   clear hc
   go_wp2_with fail
   go_ret2
   rw [HB.out]
   exact ⟨_, _, _, rfl, (show _ = _ from rfl), Rd.nil_ _, x1⟩
theorem NdG.mono {B B' d : Nat} {t : Nd} {v : Value} {w : World} (hB : B' ≤ B) (h : NdG B d t v w) : NdG B' d t v w := by
 obtain ⟨A1, n1, c1, A2, n2, c2, h1, h2, h3⟩ := h
 exact ⟨A1, n1, c1, A2, n2, c2, h1, h2.map fun b hb _ => ⟨Nat.le_trans hB hb, rfl⟩, h3.map fun b hb _ => ⟨Nat.le_trans hB hb, rfl⟩⟩
set_option maxHeartbeats 1000000 in
theorem nrefissue_any (k : Int) (c : NC) (w : World) (hs : smN c) (E : KTab w 0) : Calls Tryz.prog 246 #[.int .i64 k, ncV c] w (RetQ w (.tuple #[ncV (isCN k c), .int .i64 (isKN k c)])) := by
 obtain ⟨wz, hwz, T⟩ := two_allocN w c
 unfold ncV
 go_enter Tryz.func246, Tryz.ntmps246
 go_wp2_with fail
 rw [← hwz]
 clear hwz
 refine (nrefbody_any c _ hs).mono ?_
 rintro e w1 ⟨A, n, cc, rfl, hn, r, b1⟩
 have T1 := T.tr b1
 clear T
 have x1 := T1.ext
 by_cases hc : ckN c = 0
 · have HK := Lib.hid hc
   rw [hc]
   have hlen := byN_len c
   clear hc
   go_wp2_with fail
   refine (refsign_any k _ r (by omega) (E.below x1)).mono ?_
   rintro e w2 ⟨rfl, b2⟩
   have T2 := T1.tr b2
   have x2 := T2.ext
   clear T1 x1 hn r hlen
   unfold sgV
   rw [show byN c = bodyNB c from if_pos HK.out]
   obtain ⟨t0, t1, t2, t3, t4, t5, t6, t7, t8, t9, t10⟩ := T2.c.cells
   have hl := T2.c.lt
   have hlr := T2.r.lt
   have f7 := T2.c.frozen 9
   have f8 := T2.c.frozen 10
   obtain ⟨r0, r1, r2, r3, r4, r5, r6, r7, r8, r9, r10⟩ := T2.r.cells
   have g0 := T2.r.frozen 0
   have g1 := T2.r.frozen 1
   have g2 := T2.r.frozen 2
   have g3 := T2.r.frozen 3
   have g4 := T2.r.frozen 4
   have g5 := T2.r.frozen 5
   have g6 := T2.r.frozen 6
   have g7 := T2.r.frozen 7
   have g8 := T2.r.frozen 8
   have g9 := T2.r.frozen 9
   have g10 := T2.r.frozen 10
   by_cases hk : sK k = 0
   · have HI := Lib.hid (show isCN k c = updN c (sE k (bodyNB c)) (sS k (bodyNB c)) from if_pos ⟨HK.out, hk⟩)
     have HJ := Lib.hid (show isKN k c = 0 by unfold isKN; rw [if_pos HK.out, hk])
     rw [hk]
     clear hk
     generalize sE k (bodyNB c) = es at *
     generalize sS k (bodyNB c) = ss at *
     obtain ⟨wa, hwa, sa⟩ := sg_alloc w2 es ss
     have hwb := hwa.symm
     clear hwa
     have T3 := T2.tr sa.ext
     have s0 := sa.c0
     have s1 := sa.c1
     have sl := sa.lt
     clear sa
     clear t0 t1 t2 t3 t4 t5 t6 t7 t8 t9 t10 hl hlr f7 f8 r0 r1 r2 r3 r4 r5 r6 r7 r8 r9 r10 g0 g1 g2 g3 g4 g5 g6 g7 g8 g9 g10
     obtain ⟨t0, t1, t2, t3, t4, t5, t6, t7, t8, t9, t10⟩ := T3.c.cells
     have hl := T3.c.lt
     have hlr := T3.r.lt
     have f7 := T3.c.frozen 9
     have f8 := T3.c.frozen 10
     obtain ⟨r0, r1, r2, r3, r4, r5, r6, r7, r8, r9, r10⟩ := T3.r.cells
     have g0 := T3.r.frozen 0
     have g1 := T3.r.frozen 1
     have g2 := T3.r.frozen 2
     have g3 := T3.r.frozen 3
     have g4 := T3.r.frozen 4
     have g5 := T3.r.frozen 5
     have g6 := T3.r.frozen 6
     have g7 := T3.r.frozen 7
     have g8 := T3.r.frozen 8
     have g9 := T3.r.frozen 9
     have g10 := T3.r.frozen 10
     go_wp2_with fail
     have TR := (T3.r.other (b := w.heap.size) (i := 9) (v := .int .i64 es) (by omega)).other (b := w.heap.size) (i := 10) (v := .int .i64 ss) (by omega)
     have TZ : NcAt (set11 ((wa.setCell ⟨w.heap.size, 9, none⟩ (.int .i64 es)).setCell ⟨w.heap.size, 10, none⟩ (.int .i64 ss)) (w.heap.size + 1) (.string (bstr c.st)) (.int .i64 c.kind) (.int .i64 c.num) (.int .i64 c.iss) (.int .i64 c.own) (.int .i64 c.key) (.int .i64 c.fr) (.int .i64 c.un) (.int .i64 c.to) (.int .i64 es) (.int .i64 ss)) (w.heap.size + 1) (updN c es ss) := TR.setN (updN c es ss)
     refine bodyPost_ret (v := .tuple #[ncV (updN c es ss), .int .i64 0]) ?_ rfl ⟨by rw [HI.out, HJ.out]; rfl, ext_setN (ext_set (ext_set T3.ext (Nat.le_refl _)) (Nat.le_refl _)) (by omega) (updN c es ss)⟩
     obtain ⟨q0, q1, q2, q3, q4, q5, q6, q7, q8, q9, q10⟩ := TZ.cells
     clear r0 r1 r2 r3 r4 r5 r6 r7 r8 r9 r10 t0 t1 t2 t3 t4 t5 t6 t7 t8 t9 t10
     simp [results, Tryz.results246, go_sem, ncV, q0, q1, q2, q3, q4, q5, q6, q7, q8, q9, q10]
   · have HI := Lib.hid (show isCN k c = zeroN from if_neg (fun q => hk q.2))
     have HJ := Lib.hid (show isKN k c = sK k from if_pos HK.out)
     have hb : (sK k != 0) = true := by simpa using hk
     clear hk
     generalize sE k (bodyNB c) = es at *
     generalize sS k (bodyNB c) = ss at *
     obtain ⟨wa, hwa, sa⟩ := sg_alloc w2 es ss
     have hwb := hwa.symm
     clear hwa
     have T3 := T2.tr sa.ext
     have s0 := sa.c0
     have s1 := sa.c1
     have sl := sa.lt
     clear sa
     clear t0 t1 t2 t3 t4 t5 t6 t7 t8 t9 t10 hl hlr f7 f8 r0 r1 r2 r3 r4 r5 r6 r7 r8 r9 r10 g0 g1 g2 g3 g4 g5 g6 g7 g8 g9 g10
     obtain ⟨t0, t1, t2, t3, t4, t5, t6, t7, t8, t9, t10⟩ := T3.c.cells
     have hl := T3.c.lt
     have hlr := T3.r.lt
     have f7 := T3.c.frozen 9
     have f8 := T3.c.frozen 10
     obtain ⟨r0, r1, r2, r3, r4, r5, r6, r7, r8, r9, r10⟩ := T3.r.cells
     have g0 := T3.r.frozen 0
     have g1 := T3.r.frozen 1
     have g2 := T3.r.frozen 2
     have g3 := T3.r.frozen 3
     have g4 := T3.r.frozen 4
     have g5 := T3.r.frozen 5
     have g6 := T3.r.frozen 6
     have g7 := T3.r.frozen 7
     have g8 := T3.r.frozen 8
     have g9 := T3.r.frozen 9
     have g10 := T3.r.frozen 10
     go_wp2_with fail
     have TZ : NcAt (set11 wa (w.heap.size + 1) (.string ⟨#[]⟩) (.int .i64 0) (.int .i64 0) (.int .i64 0) (.int .i64 0) (.int .i64 0) (.int .i64 0) (.int .i64 0) (.int .i64 0) (.int .i64 0) (.int .i64 0)) (w.heap.size + 1) zeroN := T3.r.setN zeroN
     refine bodyPost_ret (v := .tuple #[ncV zeroN, .int .i64 (sK k)]) ?_ rfl ⟨by rw [HI.out, HJ.out]; rfl, ext_setN T3.ext (by omega) zeroN⟩
     obtain ⟨q0, q1, q2, q3, q4, q5, q6, q7, q8, q9, q10⟩ := TZ.cells
     clear r0 r1 r2 r3 r4 r5 r6 r7 r8 r9 r10 t0 t1 t2 t3 t4 t5 t6 t7 t8 t9 t10
     simp [results, Tryz.results246, go_sem, ncV, q0, q1, q2, q3, q4, q5, q6, q7, q8, q9, q10]
 · have HI := Lib.hid (show isCN k c = zeroN from if_neg (fun q => hc q.1))
   have HJ := Lib.hid (show isKN k c = ckN c from if_neg hc)
   have hb : (ckN c != 0) = true := by simpa using hc
   clear hc r hn
   obtain ⟨r0, r1, r2, r3, r4, r5, r6, r7, r8, r9, r10⟩ := T1.r.cells
   have hlr := T1.r.lt
   have g0 := T1.r.frozen 0
   have g1 := T1.r.frozen 1
   have g2 := T1.r.frozen 2
   have g3 := T1.r.frozen 3
   have g4 := T1.r.frozen 4
   have g5 := T1.r.frozen 5
   have g6 := T1.r.frozen 6
   have g7 := T1.r.frozen 7
   have g8 := T1.r.frozen 8
   have g9 := T1.r.frozen 9
   have g10 := T1.r.frozen 10
   go_wp2_with fail
   refine bodyPost_ret (v := .tuple #[ncV zeroN, .int .i64 (ckN c)]) ?_ rfl ⟨by rw [HI.out, HJ.out]; rfl, ext_setN x1 (by omega) zeroN⟩
   have TZ : NcAt (set11 w1 (w.heap.size + 1) (.string ⟨#[]⟩) (.int .i64 0) (.int .i64 0) (.int .i64 0) (.int .i64 0) (.int .i64 0) (.int .i64 0) (.int .i64 0) (.int .i64 0) (.int .i64 0) (.int .i64 0)) (w.heap.size + 1) zeroN := T1.r.setN zeroN
   obtain ⟨q0, q1, q2, q3, q4, q5, q6, q7, q8, q9, q10⟩ := TZ.cells
   clear r0 r1 r2 r3 r4 r5 r6 r7 r8 r9 r10
   simp [results, Tryz.results246, go_sem, ncV, q0, q1, q2, q3, q4, q5, q6, q7, q8, q9, q10]
set_option maxHeartbeats 1000000 in
theorem nverify_any (p : Int) (c : NC) (w : World) (hs : smN c) (E : KTab w 1) : Calls Tryz.prog 198 #[.int .i64 p, ncV c] w (RetQ w (.bool (vfN p c))) := by
 have x0 : Ext w (w.alloc (.cells #[.string (bstr c.st), .int .i64 c.kind, .int .i64 c.num, .int .i64 c.iss, .int .i64 c.own, .int .i64 c.key, .int .i64 c.fr, .int .i64 c.un, .int .i64 c.to, .int .i64 c.e, .int .i64 c.s] 56)) := (Below.refl _ _).alloc (Nat.le_refl _) _
 unfold ncV
 go_enter Tryz.func198, Tryz.ntmps198
 go_wp2_with fail
 refine (nbody_any c _ hs).mono ?_
 rintro e w1 ⟨A, n, cc, rfl, hn, r, b1⟩
 have x1 := x0.tr b1
 have hT := (NcAt.new w c).ext b1
 by_cases hc : ckN c = 0
 · have HV := Lib.hid (show vfN p c = verB p (bodyNB c) c.e c.s from if_pos hc)
   rw [show byN c = bodyNB c from if_pos hc] at r
   have hlen := byN_len c
   rw [show byN c = bodyNB c from if_pos hc] at hlen
   rw [hc]
   clear hc
   obtain ⟨_, _, _, _, _, _, _, _, _, t9, t10⟩ := hT.cells
   have hl := hT.lt
   go_wp2_with fail
   refine (verify_any p c.e c.s _ r (by omega) (E.below x1)).mono ?_
   rintro e w2 ⟨rfl, b2⟩
   go_wp2_with fail
   go_ret
   exact ⟨by rw [HV.out]; rfl, x1.tr b2⟩
 · have hb : (ckN c == 0) = false := by simpa using hc
   have HV := Lib.hid (show vfN p c = false from if_neg hc)
   clear hc
   go_wp2_with fail
   go_ret
   exact ⟨by rw [HV.out]; rfl, x1⟩
set_option maxHeartbeats 1000000 in
theorem nrefverify_any (p : Int) (c : NC) (w : World) (hs : smN c) (E : KTab w 0) : Calls Tryz.prog 199 #[.int .i64 p, ncV c] w (RetQ w (.bool (vfN p c))) := by
 have x0 : Ext w (w.alloc (.cells #[.string (bstr c.st), .int .i64 c.kind, .int .i64 c.num, .int .i64 c.iss, .int .i64 c.own, .int .i64 c.key, .int .i64 c.fr, .int .i64 c.un, .int .i64 c.to, .int .i64 c.e, .int .i64 c.s] 56)) := (Below.refl _ _).alloc (Nat.le_refl _) _
 unfold ncV
 go_enter Tryz.func199, Tryz.ntmps199
 go_wp2_with fail
 refine (nrefbody_any c _ hs).mono ?_
 rintro e w1 ⟨A, n, cc, rfl, hn, r, b1⟩
 have x1 := x0.tr b1
 have hT := (NcAt.new w c).ext b1
 by_cases hc : ckN c = 0
 · have HV := Lib.hid (show vfN p c = verB p (bodyNB c) c.e c.s from if_pos hc)
   rw [show byN c = bodyNB c from if_pos hc] at r
   have hlen := byN_len c
   rw [show byN c = bodyNB c from if_pos hc] at hlen
   rw [hc]
   clear hc
   obtain ⟨_, _, _, _, _, _, _, _, _, t9, t10⟩ := hT.cells
   have hl := hT.lt
   go_wp2_with fail
   refine (refverify_any p c.e c.s _ r (by omega) (E.below x1)).mono ?_
   rintro e w2 ⟨rfl, b2⟩
   go_wp2_with fail
   go_ret
   exact ⟨by rw [HV.out]; rfl, x1.tr b2⟩
 · have hb : (ckN c == 0) = false := by simpa using hc
   have HV := Lib.hid (show vfN p c = false from if_neg hc)
   clear hc
   go_wp2_with fail
   go_ret
   exact ⟨by rw [HV.out]; rfl, x1⟩
set_option maxHeartbeats 1000000 in
theorem nationalcert_root (c : NC) (w : World) (hs : smN c) (E : KTab w 1) : Calls Tryz.prog 122 #[ncV c] w (RetQ w (.bool (rtN c))) := by
 obtain ⟨wz, hwz, z0, zr⟩ := nc_alloc w c
 unfold ncV
 go_enter Tryz.func122, Tryz.ntmps122
 by_cases hk : c.kind = 1
 · have HV := Lib.hid (show rtN c = vfN c.key c from if_pos hk)
   have hb : (c.kind == 1) = true := by simp [hk]
   clear hk
   go_wp2_with fail
   rw [← hwz]
   clear hwz
   obtain ⟨t0, t1, t2, t3, t4, t5, t6, t7, t8, t9, t10⟩ := zr.cells
   have hl := zr.lt
   go_wp2_with fail
   refine (nverify_any c.key c _ hs (E.below z0)).mono ?_
   rintro e w2 ⟨rfl, b2⟩
   go_wp2_with fail
   go_ret
   exact ⟨by rw [HV.out]; rfl, z0.tr b2⟩
 · have hb : (c.kind == 1) = false := by simpa using hk
   have HV := Lib.hid (show rtN c = false from if_neg hk)
   clear hk
   go_wp2_with fail
   go_ret
   exact ⟨by rw [HV.out]; rfl, (Below.refl _ _).alloc (Nat.le_refl _) _⟩
set_option maxHeartbeats 1000000 in
theorem traveldocref29_root (c : NC) (w : World) (hs : smN c) (E : KTab w 0) : Calls Tryz.prog 129 #[ncV c] w (RetQ w (.bool (rtN c))) := by
 obtain ⟨wz, hwz, z0, zr⟩ := nc_alloc w c
 unfold ncV
 go_enter Tryz.func129, Tryz.ntmps129
 by_cases hk : c.kind = 1
 · have HV := Lib.hid (show rtN c = vfN c.key c from if_pos hk)
   have hb : (c.kind == 1) = true := by simp [hk]
   clear hk
   go_wp2_with fail
   rw [← hwz]
   clear hwz
   obtain ⟨t0, t1, t2, t3, t4, t5, t6, t7, t8, t9, t10⟩ := zr.cells
   have hl := zr.lt
   go_wp2_with fail
   refine (nrefverify_any c.key c _ hs (E.below z0)).mono ?_
   rintro e w2 ⟨rfl, b2⟩
   go_wp2_with fail
   go_ret
   exact ⟨by rw [HV.out]; rfl, z0.tr b2⟩
 · have hb : (c.kind == 1) = false := by simpa using hk
   have HV := Lib.hid (show rtN c = false from if_neg hk)
   clear hk
   go_wp2_with fail
   go_ret
   exact ⟨by rw [HV.out]; rfl, (Below.refl _ _).alloc (Nat.le_refl _) _⟩
end Go.Proofs.YtkjplpmogfmhkaaGreatDoor
