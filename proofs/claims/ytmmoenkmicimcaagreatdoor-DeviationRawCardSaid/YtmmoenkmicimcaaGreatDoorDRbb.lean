/- Parts Jf Jg Jh Ji of the proof. -/
import Derived.Test.YtmmoenkmicimcaaGreatDoorDRaw
import Derived.Test.YtmmoenkmicimcaaGreatDoorDRba
import Derived.Deep.CutBlock
namespace Go.Proofs.YtmmoenkmicimcaaGreatDoor
open Go.RowKit
set_option linter.unusedVariables false
set_option maxRecDepth 100000
theorem restT_add {pool next : List NC} {c : NC} (hc : c ∈ pool) (hn : c ∉ next) : restT pool (next ++ [c]) < restT pool next :=
  filter_lt _ _ pool (fun x _ hx => by
    have hx' : x ∉ next ++ [c] := of_decide_eq_true hx
    exact decide_eq_true fun q => hx' (List.mem_append_left _ q)) ⟨c, hc, decide_eq_true hn, decide_eq_false (fun q => q (List.mem_append_right _ List.mem_cons_self))⟩
theorem firstT_snoc (st : List UInt8) (day : Int) {roots : List NC} {y : NC} {k : Nat} (h : roots[k]? = some y) : firstT (roots.take (k + 1)) st day = firstStep st day (firstT (roots.take k) st day) y := by
  unfold firstT
  rw [take_snocN h, List.foldl_append]
  rfl
theorem firstT_len (st : List UInt8) (day : Int) (roots : List NC) : (firstT roots st day).length ≤ roots.length := by
  have h : ∀ (l acc : List NC), (l.foldl (firstStep st day) acc).length ≤ acc.length + l.length := by
    intro l
    induction l with
    | nil => intro acc; exact Nat.le_refl _
    | cons x l IH =>
      intro acc
      refine Nat.le_trans (IH _) ?_
      have : (firstStep st day acc x).length ≤ acc.length + 1 := by
        unfold firstStep
        split
        · simp
        · omega
      simp only [List.length_cons]
      omega
  have := h roots []
  rw [List.length_nil, Nat.zero_add] at this
  exact this
def linkF (day : Int) (out : List NC) (l : List NC) : List NC := l.foldl (linkStep day out) out
theorem linkF_snoc (day : Int) (out : List NC) {pool : List NC} {y : NC} {k : Nat} (h : pool[k]? = some y) : linkF day out (pool.take (k + 1)) = linkStep day out (linkF day out (pool.take k)) y := by
  unfold linkF
  rw [take_snocN h, List.foldl_append]
  rfl
theorem linkF_app (day : Int) (out l : List NC) : ∃ t, linkF day out l = out ++ t := by
  obtain ⟨t, h, _⟩ := foldl_ext day out l out
  exact ⟨t, h⟩
theorem bef_ge {day : Int} {L : List NC} {c : NC} : (0 ≤ befI day L c) ↔ (L.any fun a => folB day a c) = true := by
  unfold befI
  split
  · rename_i h
    exact ⟨fun _ => h, fun _ => Int.natCast_nonneg _⟩
  · rename_i h
    exact ⟨fun q => absurd q (by omega), fun q => absurd q h⟩
/-- What is kept of the rounds. -/
structure FnI (C : Nat) (pool L : List NC) (R : List Int) (rd : Int) : Prop where
  srt : Srt R
  le : ∀ x ∈ R, x ≤ rd
  kd : ∀ (i : Nat) (a : NC) (x : Int), L[i]? = some a → R[i]? = some x → (x = 0 ↔ a.kind = 1)
  sm : smL L
  bd : L.length + restT pool L ≤ C
theorem snoc_get' {α : Type} {l : List α} {x y : α} {i : Nat} (h : (l ++ [x])[i]? = some y) : l[i]? = some y ∨ (i = l.length ∧ y = x) := by
  by_cases hi : i < l.length
  · rw [List.getElem?_append_left hi] at h
    exact .inl h
  · rw [List.getElem?_append_right (by omega)] at h
    have h0 : i - l.length = 0 := by
      have := (List.getElem?_eq_some_iff.1 h).1
      simpa using this
    rw [h0] at h
    exact .inr ⟨by omega, (Option.some.inj h).symm⟩
theorem srt_snoc {R : List Int} {rd : Int} (h : Srt R) (hl : ∀ x ∈ R, x ≤ rd) : Srt (R ++ [rd]) := by
  intro i j x y hij hi hj
  rcases snoc_get' hi with q | ⟨q, e⟩
  · rcases snoc_get' hj with q2 | ⟨q2, e2⟩
    · exact h i j x y hij q q2
    · rw [e2]
      exact hl x (List.mem_of_getElem? q)
  · rcases snoc_get' hj with q2 | ⟨q2, e2⟩
    · have := (List.getElem?_eq_some_iff.1 q2).1
      omega
    · rw [e, e2]
      exact Int.le_refl _
theorem FnI.app {C : Nat} {pool L : List NC} {R : List Int} {rd : Int} {c : NC} (h : FnI C pool L R rd) (hlen : R.length = L.length) (hk : rd = 0 ↔ c.kind = 1) (hs : smN c) (hb : (L ++ [c]).length + restT pool (L ++ [c]) ≤ C) : FnI C pool (L ++ [c]) (R ++ [rd]) rd :=
  ⟨srt_snoc h.srt h.le, fun x hx => by
    rcases List.mem_append.1 hx with q | q
    · exact h.le x q
    · rw [List.mem_singleton.1 q]; exact Int.le_refl _, fun i a x ha hx => by
    rcases snoc_get' ha with ha | ⟨ha, rfl⟩
    · rcases snoc_get' hx with hx | ⟨hx, rfl⟩
      · exact h.kd i a x ha hx
      · have := (List.getElem?_eq_some_iff.1 ha).1
        omega
    · rcases snoc_get' hx with hx | ⟨hx, rfl⟩
      · have := (List.getElem?_eq_some_iff.1 hx).1
        omega
      · exact hk, h.sm.app (fun q hq => by rw [List.mem_singleton.1 hq]; exact hs), hb⟩
theorem FnI.up {C : Nat} {pool L : List NC} {R : List Int} {rd rd' : Int} (h : FnI C pool L R rd) (hr : rd ≤ rd') : FnI C pool L R rd' := ⟨h.srt, fun x hx => Int.le_trans (h.le x hx) hr, h.kd, h.sm, h.bd⟩
/-- What find returns. -/
def FindR (w : World) (roots pool : List NC) (st : List UInt8) (day : Int) (e : Ending) (w' : World) : Prop :=
  Ext w w' ∧ ∃ (S : Nat) (v1 v2 : Value) (R : List Int), e = .returned (.pointer (some ⟨S, 0, none⟩)) ∧ w.heap.size ≤ S ∧ SeAt w' w.heap.size S day v1 v2 (trustT roots pool st day) R ∧ ∃ rd, FnI (roots.length + pool.length) pool (trustT roots pool st day) R rd
theorem se_new (w : World) (day : Int) : ∃ wz, wz = w.alloc (.cells #[.int .i64 day, .slice none 0 0, .slice none 0 0] 160) ∧ Ext w wz ∧ SeAt wz w.heap.size w.heap.size day (.slice none 0 0) (.slice none 0 0) [] [] :=
  ⟨_, rfl, (Below.refl _ _).alloc (Nat.le_refl _) _, heap_alloc_new' w _, OwnK.empty _ _ _ _ _, OwnK.empty _ _ _ _ _, rfl⟩
theorem fni_first {roots pool : List NC} {st : List UInt8} {day : Int} {R : List Int} (h0 : ∀ x ∈ R, x = 0) (hs : smL roots) : FnI (roots.length + pool.length) pool (firstT roots st day) R 1 :=
  ⟨fun i j x y _ hx hy => by rw [h0 x (List.mem_of_getElem? hx), h0 y (List.mem_of_getElem? hy)]; exact Int.le_refl _, fun x hx => by rw [h0 x hx]; decide, fun i a x ha hx => by
    rw [h0 x (List.mem_of_getElem? hx)]
    exact ⟨fun _ => (rt_kind (firstT_mem (List.mem_of_getElem? ha)).2.2.2).1, fun _ => rfl⟩, fun c hc => hs c (firstT_mem hc).1, by
    have h1 := firstT_len st day roots
    have h2 := restT_le pool (firstT roots st day)
    omega⟩
theorem round_same {pool out : List NC} {day : Int} (h : (roundT pool day out).length = out.length) : roundT pool day out = out := by
  obtain ⟨t, e, _⟩ := roundT_ext pool day out
  rw [e] at h ⊢
  rw [List.length_append] at h
  rw [List.eq_nil_of_length_eq_zero (by omega : t.length = 0), List.append_nil]
/-- Where the rounds stand. -/
def FrD (roots pool : List NC) (st : List UInt8) (day : Int) (L : List NC) (r : Nat) (m : Bool) : Prop :=
  (m = true → allT pool day L = trustT roots pool st day ∧ restT pool L + r ≤ pool.length + 1) ∧ (m = false → L = trustT roots pool st day)
theorem frD_next {roots pool : List NC} {st : List UInt8} {day : Int} {L : List NC} {r : Nat} (h : FrD roots pool st day L r true) : FrD roots pool st day (roundT pool day L) (r + 1) (decide ((roundT pool day L).length ≠ L.length)) := by
  obtain ⟨h1, h2⟩ := h.1 rfl
  refine ⟨fun q => ?_, fun q => ?_⟩
  · have q := of_decide_eq_true q
    have h3 := restT_lt q
    exact ⟨by rw [← allT_step q]; exact h1, by omega⟩
  · have q : (roundT pool day L).length = L.length := by
      have := of_decide_eq_false q
      omega
    rw [round_same q, ← h1, allT_stop q]
theorem app_bd {C : Nat} {pool N : List NC} {c : NC} (hc : c ∈ pool) (hn : c ∉ N) (h : N.length + restT pool N ≤ C) : (N ++ [c]).length + restT pool (N ++ [c]) ≤ C := by
  have := restT_add hc hn
  rw [List.length_append]
  simp only [List.length_cons, List.length_nil]
  omega
/-- What is kept where roots are looked at. -/
structure FrI (w wr : World) (S : Nat) (day : Int) (C : Nat) (pool L : List NC) (R : List Int) : Prop where
  ext : Ext w wr
  se : ∃ v1 v2, SeAt wr w.heap.size S day v1 v2 L R
  len : R.length = L.length
theorem FrI.tr {w wr wx : World} {S : Nat} {day : Int} {C : Nat} {pool L : List NC} {R : List Int} (h : FrI w wr S day C pool L R) (e : Ext wr wx) : FrI w wx S day C pool L R := by
  obtain ⟨h1, ⟨v1, v2, h2⟩, h3⟩ := h
  exact ⟨h1.tr e, ⟨v1, v2, h2.ext e⟩, h3⟩
/-- add, where find stands. -/
theorem FrI.add {w wr : World} {S : Nat} {day : Int} {C : Nat} {pool L : List NC} {R : List Int} (h : FrI w wr S day C pool L R) (hS : w.heap.size ≤ S) (c : NC) (rd : Int) (hl : L.length ≤ 1000000) :
    Calls Tryz.prog 153 #[.pointer (some ⟨S, 0, none⟩), ncV c, .int .i64 rd] wr fun e w' => e = .returned (.bool (decide (c ∉ L))) ∧ FrI w w' S day C pool (addL L c) (addR L R c rd) := by
  obtain ⟨h1, ⟨v1, v2, h2⟩, h3⟩ := h
  exact (add_any c rd wr h2 h1.size hS hl).mono fun e w' ⟨q1, q2, u1, u2, q3⟩ => ⟨q2, h1.trans q1, ⟨u1, u2, q3⟩, addRL h3 c rd⟩
theorem FrI.before {w wr : World} {S : Nat} {day : Int} {C : Nat} {pool L : List NC} {R : List Int} (h : FrI w wr S day C pool L R) (c : NC) (n : Nat) (hn : n ≤ L.length) (hl : L.length ≤ 1000000) (hR : Srt R) (hs : smL L) (hc : smN c) (E : KTab w 1) :
    Calls Tryz.prog 119 #[.pointer (some ⟨S, 0, none⟩), ncV c, .int .i64 (n : Int)] wr (RetQ wr (.int .i64 (befI day (L.take n) c))) := by
  obtain ⟨h1, ⟨v1, v2, h2⟩, h3⟩ := h
  exact before_any c n wr h2 hn hl hR hs hc (E.below h1)
set_option maxHeartbeats 4000000 in
theorem find_any {v1 v2 : Value} {roots pool : List NC} (st : List UInt8) (day : Int) (w : World) (h1 : RdN w v1 roots) (h2 : RdN w v2 pool) (hs1 : smL roots) (hs2 : smL pool) (hl : roots.length + pool.length ≤ 900000) (E : KTab w 1) :
    Calls Tryz.prog 118 #[v1, v2, .string (bstr st), .int .i64 day] w (FindR w roots pool st day) := by
  obtain ⟨A1, n1, c1, rfl, hn1, hnc1, hcm1, hel1⟩ := h1.at_
  subst hn1
  obtain ⟨A2, n2, c2, rfl, hn2, hnc2, hcm2, hel2⟩ := h2.at_
  subst hn2
  have HEL1 := Lib.hid hel1
  have HEL2 := Lib.hid hel2
  have HON := Lib.hid (fun (c : NC) (hs : smN c) W => nationalcert_on c day W hs)
  have HRT := Lib.hid (fun (c : NC) (hs : smN c) W (e : Ext w W) => nationalcert_root c W hs (E.below e))
  have HE := Lib.hid E
  have HS1 := Lib.hid hs1
  have HS2 := Lib.hid hs2
  have HQ := Lib.hid (fun s => bstr_eqJ s st)
  unfold maxLen at hcm1 hcm2
  obtain ⟨wz, hwz, ez, SZ⟩ := se_new w day
  have Z0 := Lib.hid (show FrI w wz w.heap.size day (roots.length + pool.length) pool (firstT (roots.take 0) st day) [] from ⟨ez, ⟨_, _, SZ⟩, rfl⟩)
  clear hel1 hel2 h1 h2 hs1 hs2 E ez SZ
  go_enter Tryz.func118, Tryz.ntmps118
  go_upto_region 2 with fail
  rw [← hwz]
  clear hwz
  go_wp2_with fail
  go_loopw [22] (fun i wr => ∃ k : Nat, k ≤ roots.length ∧ i = .int .i64 (k : Int) ∧ ∃ R : List Int, Hid (FrI w wr w.heap.size day (roots.length + pool.length) pool (firstT (roots.take k) st day) R) ∧ Hid (∀ x ∈ R, x = 0)) (fun i _ => roots.length - (intOf i).toNat)
  case atStart => exact ⟨0, Nat.zero_le _, rfl, [], Z0, Lib.hid (fun x hx => by simp at hx)⟩
  case round =>
    clear Z0
    obtain ⟨k, hk, rfl, R, Z, HR0⟩ := hrel
    by_cases hlt : k < roots.length
    case neg =>
      obtain rfl : k = roots.length := by omega
      have HF0 := Lib.hid (show firstT (roots.take roots.length) st day = firstT roots st day by rw [List.take_length])
      have HI := Lib.hid (fni_first (pool := pool) (st := st) (day := day) HR0.out HS1.out)
      have ZZ : Hid (FrI w wr w.heap.size day (roots.length + pool.length) pool (firstT roots st day) R) := by have := Z.out; rw [HF0.out] at this; exact this
      have HD0 : Hid (FrD roots pool st day (firstT roots st day) 1 true) := Lib.hid ⟨fun _ => ⟨rfl, by have := restT_le pool (firstT roots st day); omega⟩, fun q => by cases q⟩
      clear Z HF0 HR0 hk hlt
      generalize firstT roots st day = L0 at *
      go_wp2_with fail
      go_loopw [12, 13] (fun rd mb wr => ∃ (r : Nat) (m : Bool) (L : List NC) (R : List Int), rd = .int .i64 (r : Int) ∧ mb = .bool m ∧ 1 ≤ r ∧ r ≤ pool.length + 2 ∧ Hid (FrI w wr w.heap.size day (roots.length + pool.length) pool L R) ∧ Hid (FnI (roots.length + pool.length) pool L R (r : Int)) ∧ Hid (FrD roots pool st day L r m)) (fun rd _ _ => pool.length + 3 - (intOf rd).toNat)
      case atStart => exact ⟨1, true, L0, R, rfl, rfl, Nat.le_refl _, by omega, ZZ, HI, HD0⟩
      case round =>
        clear ZZ HI HD0
        clear R
        obtain ⟨r, m, L, R, rfl, rfl, r1, r2, Z, HI, HD⟩ := hrel
        cases m
        · have hL := HD.out.2 rfl
          subst hL
          obtain ⟨zx, ⟨u1, u2, zs⟩, zl⟩ := Z.out
          have FIN := Lib.hid (show FindR w roots pool st day (.returned (.pointer (some ⟨w.heap.size, 0, none⟩))) wr from ⟨zx, _, u1, u2, R, rfl, Nat.le_refl _, zs, _, HI.out⟩)
          clear zx zs zl
          go_wp2_with fail
          go_ret
          exact FIN.out
        · have hr3 : r ≤ pool.length + 1 := by have := (HD.out.1 rfl).2; omega
          obtain ⟨zx, ⟨u1, u2, zs⟩, zl⟩ := Z.out
          obtain ⟨B1, d1, B2, d2, rfl, rfl, hd1, hd2, hm1, hm2⟩ := zs.forms
          obtain ⟨s0, s1, s2⟩ := zs.cells
          have sl := zs.lt
          have HLB := Lib.hid (show L.length ≤ 900000 by have := HI.out.bd; omega)
          unfold maxLen at hm1 hm2
          clear zx zs zl
          have wr1 : IntKind.i64.wrap ((r : Int) + 1) = (r : Int) + 1 := IntWalk.i64_in _ (by omega)
          go_wp2_with fail
          clear s0 s1 s2 sl
          go_loopw [54, 13] (fun i mb wr => ∃ k : Nat, k ≤ pool.length ∧ i = .int .i64 (k : Int) ∧ mb = .bool (decide ((linkF day L (pool.take k)).length ≠ L.length)) ∧ ∃ R' : List Int, Hid (FrI w wr w.heap.size day (roots.length + pool.length) pool (linkF day L (pool.take k)) R') ∧ Hid (FnI (roots.length + pool.length) pool (linkF day L (pool.take k)) R' (r : Int))) (fun i _ _ => pool.length - (intOf i).toNat)
          case atStart => exact ⟨0, Nat.zero_le _, rfl, by rw [List.take_zero]; simp [linkF], R, by rw [List.take_zero]; exact Z, by rw [List.take_zero]; exact HI⟩
          case round =>
            clear Z
            obtain ⟨k, hk, rfl, rfl, R', Z, HIK⟩ := hrel
            by_cases hlt : k < pool.length
            case neg =>
              obtain rfl : k = pool.length := by omega
              have HRD : Hid (linkF day L (pool.take pool.length) = roundT pool day L) := Lib.hid (by rw [List.take_length]; rfl)
              have HDN : Hid (FrD roots pool st day (linkF day L (pool.take pool.length)) (r + 1) (decide ((linkF day L (pool.take pool.length)).length ≠ L.length))) := Lib.hid (by rw [HRD.out]; exact frD_next HD.out)
              have HIN := Lib.hid (HIK.out.up (rd' := ((r + 1 : Nat) : Int)) (by omega))
              obtain ⟨m9, hm9⟩ : ∃ m9, decide ((linkF day L (pool.take pool.length)).length ≠ L.length) = m9 := ⟨_, rfl⟩
              rw [hm9] at HDN
              rw [hm9]
              clear HRD
              clear hk hlt HIK HI hm9
              go_wp2_with fail
              go_roundw
              case rel => exact ⟨r + 1, m9, _, R', by go_num, rfl, by omega, by omega, Z, HIN, HDN⟩
              case measure => simp [intOf]; omega
            case pos =>
            obtain ⟨y, hy⟩ : ∃ y, pool[k]? = some y := ⟨_, List.getElem?_eq_getElem hlt⟩
            obtain ⟨b, o, rfl, hbl, hc⟩ := HEL2.out (by omega)
            have hcy := hc k y hy
            have HY := Lib.hid hy
            have HSY := Lib.hid (HS2.out y (List.mem_of_getElem? hy))
            have X := Z.out.ext
            clear hy hc
            have wi1 : IntKind.i64.wrap ((k : Int)) = (k : Int) := IntWalk.i64_in _ (by omega)
            have zi1 : (0 : Int) ≤ (k : Int) := by omega
            have li1 : (k : Int) < (pool.length : Int) := by omega
            have ti1 : ((k : Int)).toNat = k := by omega
            have wk : IntKind.i64.wrap ((k : Int) + 1) = (k : Int) + 1 := IntWalk.i64_in _ (by omega)
            have q0 := (X.cell (p := ⟨b, o + k * 11, none⟩) hbl).trans hcy.1
            have q1 := (X.cell (p := ⟨b, o + k * 11 + 1, none⟩) hbl).trans hcy.2.1
            have q2 := (X.cell (p := ⟨b, o + k * 11 + 2, none⟩) hbl).trans hcy.2.2.1
            have q3 := (X.cell (p := ⟨b, o + k * 11 + 3, none⟩) hbl).trans hcy.2.2.2.1
            have q4 := (X.cell (p := ⟨b, o + k * 11 + 4, none⟩) hbl).trans hcy.2.2.2.2.1
            have q5 := (X.cell (p := ⟨b, o + k * 11 + 5, none⟩) hbl).trans hcy.2.2.2.2.2.1
            have q6 := (X.cell (p := ⟨b, o + k * 11 + 6, none⟩) hbl).trans hcy.2.2.2.2.2.2.1
            have q7 := (X.cell (p := ⟨b, o + k * 11 + 7, none⟩) hbl).trans hcy.2.2.2.2.2.2.2.1
            have q8 := (X.cell (p := ⟨b, o + k * 11 + 8, none⟩) hbl).trans hcy.2.2.2.2.2.2.2.2.1
            have q9 := (X.cell (p := ⟨b, o + k * 11 + 9, none⟩) hbl).trans hcy.2.2.2.2.2.2.2.2.2.1
            have q10 := (X.cell (p := ⟨b, o + k * 11 + 10, none⟩) hbl).trans hcy.2.2.2.2.2.2.2.2.2.2
            clear hcy
            obtain ⟨wn, hwn, en, TN⟩ := nc_alloc wr y
            have HSN := Lib.hid (linkF_snoc day L HY.out)
            have HAP := Lib.hid (linkF_app day L (pool.take k))
            obtain ⟨N, hN⟩ : ∃ N, linkF day L (pool.take k) = N := ⟨_, rfl⟩
            rw [hN] at HSN HAP HIK Z
            rw [hN]
            clear hN
            have HLN := Lib.hid (show N.length ≤ 1000000 by have := HIK.out.bd; omega)
            have HTK : Hid (N.take L.length = L) := Lib.hid (by obtain ⟨t, ht⟩ := HAP.out; rw [ht]; simp)
            have HNL := Lib.hid (show L.length ≤ N.length by obtain ⟨t, ht⟩ := HAP.out; rw [ht]; simp)
            obtain ⟨mb, hmb⟩ : ∃ mb, decide (N.length ≠ L.length) = mb := ⟨_, rfl⟩
            rw [hmb]
            have HMB := Lib.hid hmb
            clear hmb
            go_upto_region 16 with fail
            rw [← hwn]
            clear hwn q0 q1 q2 q3 q4 q5 q6 q7 q8 q9 q10 X
            have HZL := Lib.hid (show R'.length = N.length from Z.out.len)
            have ZN := Lib.hid (Z.out.tr en)
            clear Z en
            obtain ⟨p0, p1, p2, p3, p4, p5, p6, p7, p8, p9, p10⟩ := (TN).cells
            have pf0 := (TN).frozen 0
            have pf1 := (TN).frozen 1
            have pf2 := (TN).frozen 2
            have pf3 := (TN).frozen 3
            have pf4 := (TN).frozen 4
            have pf5 := (TN).frozen 5
            have pf6 := (TN).frozen 6
            have pf7 := (TN).frozen 7
            have pf8 := (TN).frozen 8
            have pf9 := (TN).frozen 9
            have pf10 := (TN).frozen 10
            have pl := (TN).lt
            by_cases k2 : y.kind = 2
            case neg =>
              have hb : (y.kind == 2) = false := by simpa using k2
              have HF := Lib.hid (show linkF day L (pool.take (k + 1)) = N by rw [HSN.out]; unfold linkStep; rw [if_neg (fun q => k2 q.1)])
              clear k2
              go_wp2_with fail
              go_roundw
              case rel => exact ⟨k + 1, by omega, by go_num, by rw [HF.out, HMB.out], R', by rw [HF.out]; exact ZN, by rw [HF.out]; exact HIK⟩
              case measure => simp [intOf]; omega
            have hb : (y.kind == 2) = true := by simpa using k2
            have K2 := Lib.hid k2
            clear k2
            go_wp2_with fail
            refine (ZN.out.before y L.length HNL.out HLN.out HIK.out.srt HIK.out.sm HSY.out HE.out).mono ?_
            rintro e w2 ⟨rfl, b2⟩
            rw [HTK.out]
            have TN2 := TN.ext b2
            have Z2 := Lib.hid (ZN.out.tr b2)
            clear p0 pf0 p1 pf1 p2 pf2 p3 pf3 p4 pf4 p5 pf5 p6 pf6 p7 pf7 p8 pf8 p9 pf9 p10 pf10 pl
            clear TN ZN b2
            by_cases an : (L.any fun a => folB day a y) = true
            case neg =>
              have hz : ¬ ((0 : Int) ≤ befI day L y) := fun q => an (bef_ge.1 q)
              have hz2 : befI day L y < 0 := by omega
              have HF := Lib.hid (show linkF day L (pool.take (k + 1)) = N by rw [HSN.out]; unfold linkStep; rw [if_neg (fun q => an q.2.2)])
              clear an
              generalize befI day L y = z at *
              go_wp2_with fail
              go_roundw
              case rel => exact ⟨k + 1, by omega, by go_num, by rw [HF.out, HMB.out], R', by rw [HF.out]; exact Z2, by rw [HF.out]; exact HIK⟩
              case measure => simp [intOf]; omega
            have hz : (0 : Int) ≤ befI day L y := bef_ge.2 an
            have AN := Lib.hid an
            clear an
            generalize befI day L y = z at *
            obtain ⟨p0, p1, p2, p3, p4, p5, p6, p7, p8, p9, p10⟩ := (TN2).cells
            have pf0 := (TN2).frozen 0
            have pf1 := (TN2).frozen 1
            have pf2 := (TN2).frozen 2
            have pf3 := (TN2).frozen 3
            have pf4 := (TN2).frozen 4
            have pf5 := (TN2).frozen 5
            have pf6 := (TN2).frozen 6
            have pf7 := (TN2).frozen 7
            have pf8 := (TN2).frozen 8
            have pf9 := (TN2).frozen 9
            have pf10 := (TN2).frozen 10
            have pl := (TN2).lt
            go_wp2_with fail
            refine (Z2.out.add (Nat.le_refl _) y (r : Int) HLN.out).mono ?_
            rintro e w4 ⟨rfl, Z4⟩
            have HZ4 := Lib.hid Z4
            clear p0 pf0 p1 pf1 p2 pf2 p3 pf3 p4 pf4 p5 pf5 p6 pf6 p7 pf7 p8 pf8 p9 pf9 p10 pf10 pl
            clear TN2 Z2 Z4
            by_cases hm : y ∈ N
            · have HF := Lib.hid (show linkF day L (pool.take (k + 1)) = N by rw [HSN.out]; unfold linkStep; rw [if_neg (fun q => q.2.1 hm)])
              have HA1 := Lib.hid (show addL N y = N from if_pos hm)
              have HA2 := Lib.hid (show addR N R' y (r : Int) = R' from if_pos hm)
              have hd : decide (y ∉ N) = false := decide_eq_false (fun q => q hm)
              rw [hd]
              clear hm hd
              go_wp2_with fail
              go_roundw
              case rel => exact ⟨k + 1, by omega, by go_num, by rw [HF.out, HMB.out], R', by have := HZ4.out; rw [HA1.out, HA2.out] at this; rw [HF.out]; exact this, by rw [HF.out]; exact HIK⟩
              case measure => simp [intOf]; omega
            · have HF := Lib.hid (show linkF day L (pool.take (k + 1)) = N ++ [y] by rw [HSN.out]; unfold linkStep; rw [if_pos ⟨K2.out, hm, AN.out⟩])
              have HA1 := Lib.hid (show addL N y = N ++ [y] from if_neg hm)
              have HA2 := Lib.hid (show addR N R' y (r : Int) = R' ++ [(r : Int)] from if_neg hm)
              have HIA := Lib.hid (HIK.out.app (c := y) HZL.out ⟨fun q => by omega, fun q => by rw [K2.out] at q; cases q⟩ HSY.out (app_bd (List.mem_of_getElem? HY.out) hm HIK.out.bd))
              have hd : decide (y ∉ N) = true := decide_eq_true hm
              have HMT := Lib.hid (show decide ((N ++ [y]).length ≠ L.length) = true from decide_eq_true (by rw [List.length_append]; simp only [List.length_cons, List.length_nil]; have := HNL.out; omega))
              rw [hd]
              clear hm hd
              go_wp2_with fail
              go_roundw
              case rel => exact ⟨k + 1, by omega, by go_num, by rw [HF.out, HMT.out], _, by have := HZ4.out; rw [HA1.out, HA2.out] at this; rw [HF.out]; exact this, by rw [HF.out]; exact HIA⟩
              case measure => simp [intOf]; omega
    case pos =>
    obtain ⟨y, hy⟩ : ∃ y, roots[k]? = some y := ⟨_, List.getElem?_eq_getElem hlt⟩
    obtain ⟨b, o, rfl, hbl, hc⟩ := HEL1.out (by omega)
    have hcy := hc k y hy
    have HY := Lib.hid hy
    have HSY := Lib.hid (HS1.out y (List.mem_of_getElem? hy))
    have X := Z.out.ext
    clear hy hc
    have wi2 : IntKind.i64.wrap ((k : Int)) = (k : Int) := IntWalk.i64_in _ (by omega)
    have zi2 : (0 : Int) ≤ (k : Int) := by omega
    have li2 : (k : Int) < (roots.length : Int) := by omega
    have ti2 : ((k : Int)).toNat = k := by omega
    have wk : IntKind.i64.wrap ((k : Int) + 1) = (k : Int) + 1 := IntWalk.i64_in _ (by omega)
    have q0 := (X.cell (p := ⟨b, o + k * 11, none⟩) hbl).trans hcy.1
    have q1 := (X.cell (p := ⟨b, o + k * 11 + 1, none⟩) hbl).trans hcy.2.1
    have q2 := (X.cell (p := ⟨b, o + k * 11 + 2, none⟩) hbl).trans hcy.2.2.1
    have q3 := (X.cell (p := ⟨b, o + k * 11 + 3, none⟩) hbl).trans hcy.2.2.2.1
    have q4 := (X.cell (p := ⟨b, o + k * 11 + 4, none⟩) hbl).trans hcy.2.2.2.2.1
    have q5 := (X.cell (p := ⟨b, o + k * 11 + 5, none⟩) hbl).trans hcy.2.2.2.2.2.1
    have q6 := (X.cell (p := ⟨b, o + k * 11 + 6, none⟩) hbl).trans hcy.2.2.2.2.2.2.1
    have q7 := (X.cell (p := ⟨b, o + k * 11 + 7, none⟩) hbl).trans hcy.2.2.2.2.2.2.2.1
    have q8 := (X.cell (p := ⟨b, o + k * 11 + 8, none⟩) hbl).trans hcy.2.2.2.2.2.2.2.2.1
    have q9 := (X.cell (p := ⟨b, o + k * 11 + 9, none⟩) hbl).trans hcy.2.2.2.2.2.2.2.2.2.1
    have q10 := (X.cell (p := ⟨b, o + k * 11 + 10, none⟩) hbl).trans hcy.2.2.2.2.2.2.2.2.2.2
    clear hcy
    obtain ⟨wn, hwn, en, TN⟩ := nc_alloc wr y
    go_upto_region 5 with fail
    rw [← hwn]
    clear hwn q0 q1 q2 q3 q4 q5 q6 q7 q8 q9 q10 X
    have ZN := Lib.hid (Z.out.tr en)
    obtain ⟨p0, p1, p2, p3, p4, p5, p6, p7, p8, p9, p10⟩ := (TN).cells
    have pf0 := (TN).frozen 0
    have pf1 := (TN).frozen 1
    have pf2 := (TN).frozen 2
    have pf3 := (TN).frozen 3
    have pf4 := (TN).frozen 4
    have pf5 := (TN).frozen 5
    have pf6 := (TN).frozen 6
    have pf7 := (TN).frozen 7
    have pf8 := (TN).frozen 8
    have pf9 := (TN).frozen 9
    have pf10 := (TN).frozen 10
    have pl := (TN).lt
    have HSN := Lib.hid (firstT_snoc st day HY.out)
    by_cases c1' : y.st = st
    case neg =>
      have hb : ((bstr y.st).toList == (bstr st).toList) = false := by rw [HQ.out]; exact decide_eq_false c1'
      have HF := Lib.hid (show firstT (roots.take (k + 1)) st day = firstT (roots.take k) st day by rw [HSN.out]; unfold firstStep; rw [if_neg (fun q => c1' q.1.1)])
      clear c1'
      go_wp2_with fail
      go_roundw
      case rel => exact ⟨k + 1, by omega, by go_num, R, by rw [HF.out]; exact ZN, HR0⟩
      case measure => simp [intOf]; omega
    have hb : ((bstr y.st).toList == (bstr st).toList) = true := by rw [HQ.out]; exact decide_eq_true c1'
    have C1 := Lib.hid c1'
    clear c1'
    go_wp2_with fail
    refine (HON.out y HSY.out _).mono ?_
    rintro e w2 ⟨rfl, b2⟩
    have TN2 := TN.ext b2
    have Z2 := Lib.hid (ZN.out.tr b2)
    clear p0 pf0 p1 pf1 p2 pf2 p3 pf3 p4 pf4 p5 pf5 p6 pf6 p7 pf7 p8 pf8 p9 pf9 p10 pf10 pl
    clear TN ZN b2
    by_cases c2' : onN y day = 0
    case neg =>
      have hb2 : (onN y day == 0) = false := by simpa using c2'
      have HF := Lib.hid (show firstT (roots.take (k + 1)) st day = firstT (roots.take k) st day by rw [HSN.out]; unfold firstStep; rw [if_neg (fun q => c2' q.1.2.1)])
      clear c2'
      go_wp2_with fail
      go_roundw
      case rel => exact ⟨k + 1, by omega, by go_num, R, by rw [HF.out]; exact Z2, HR0⟩
      case measure => simp [intOf]; omega
    have hb2 : (onN y day == 0) = true := by simpa using c2'
    have C2 := Lib.hid c2'
    clear c2'
    obtain ⟨p0, p1, p2, p3, p4, p5, p6, p7, p8, p9, p10⟩ := (TN2).cells
    have pf0 := (TN2).frozen 0
    have pf1 := (TN2).frozen 1
    have pf2 := (TN2).frozen 2
    have pf3 := (TN2).frozen 3
    have pf4 := (TN2).frozen 4
    have pf5 := (TN2).frozen 5
    have pf6 := (TN2).frozen 6
    have pf7 := (TN2).frozen 7
    have pf8 := (TN2).frozen 8
    have pf9 := (TN2).frozen 9
    have pf10 := (TN2).frozen 10
    have pl := (TN2).lt
    go_wp2_with fail
    refine (HRT.out y HSY.out _ Z2.out.ext).mono ?_
    rintro e w3 ⟨rfl, b3⟩
    have TN3 := TN2.ext b3
    have Z3 := Lib.hid (Z2.out.tr b3)
    clear p0 pf0 p1 pf1 p2 pf2 p3 pf3 p4 pf4 p5 pf5 p6 pf6 p7 pf7 p8 pf8 p9 pf9 p10 pf10 pl
    clear TN2 Z2 b3
    obtain ⟨rb, hrb⟩ : ∃ rb, rtN y = rb := ⟨_, rfl⟩
    rw [hrb]
    cases rb
    · have HF := Lib.hid (show firstT (roots.take (k + 1)) st day = firstT (roots.take k) st day by rw [HSN.out]; unfold firstStep; rw [if_neg (fun q => by have := q.1.2.2; rw [hrb] at this; cases this)])
      clear hrb
      go_wp2_with fail
      go_roundw
      case rel => exact ⟨k + 1, by omega, by go_num, R, by rw [HF.out]; exact Z3, HR0⟩
      case measure => simp [intOf]; omega
    have HF := Lib.hid (show firstT (roots.take (k + 1)) st day = addL (firstT (roots.take k) st day) y by
      rw [HSN.out]
      unfold firstStep addL
      by_cases hm : y ∈ firstT (roots.take k) st day
      · rw [if_neg (fun q => q.2 hm), if_pos hm]
      · rw [if_pos ⟨⟨C1.out, C2.out, hrb⟩, hm⟩, if_neg hm])
    clear hrb
    obtain ⟨p0, p1, p2, p3, p4, p5, p6, p7, p8, p9, p10⟩ := (TN3).cells
    have pf0 := (TN3).frozen 0
    have pf1 := (TN3).frozen 1
    have pf2 := (TN3).frozen 2
    have pf3 := (TN3).frozen 3
    have pf4 := (TN3).frozen 4
    have pf5 := (TN3).frozen 5
    have pf6 := (TN3).frozen 6
    have pf7 := (TN3).frozen 7
    have pf8 := (TN3).frozen 8
    have pf9 := (TN3).frozen 9
    have pf10 := (TN3).frozen 10
    have pl := (TN3).lt
    go_wp2_with fail
    refine (Z3.out.add (Nat.le_refl _) y 0 (by have h1 := firstT_len st day (roots.take k); have h2 := List.length_take_le k roots; rw [List.length_take] at h1; omega)).mono ?_
    rintro e w4 ⟨rfl, Z4⟩
    have HZ4 := Lib.hid Z4
    have HR4 : Hid (∀ x ∈ addR (firstT (roots.take k) st day) R y 0, x = 0) := Lib.hid (by
      unfold addR
      split
      · exact HR0.out
      · intro x hx
        rcases List.mem_append.1 hx with q | q
        · exact HR0.out x q
        · exact List.mem_singleton.1 q)
    clear p0 pf0 p1 pf1 p2 pf2 p3 pf3 p4 pf4 p5 pf5 p6 pf6 p7 pf7 p8 pf8 p9 pf9 p10 pf10 pl
    clear TN3 Z3 Z4
    go_wp2_with fail
    go_roundw
    case rel => exact ⟨k + 1, by omega, by go_num, _, by rw [HF.out]; exact HZ4, HR4⟩
    case measure => simp [intOf]; omega
end Go.Proofs.YtmmoenkmicimcaaGreatDoor
namespace Go.Proofs.YtmmoenkmicimcaaGreatDoor
open Go.RowKit
set_option linter.unusedVariables false
set_option maxRecDepth 100000
/-- A slice that reads as certificates is returned. -/
def RetN (w : World) (l : List NC) (e : Ending) (w' : World) : Prop := Ext w w' ∧ ∃ (A : Option Addr) (c : Nat), e = .returned (.slice A l.length c) ∧ RdN w' (.slice A l.length c) l
end Go.Proofs.YtmmoenkmicimcaaGreatDoor
namespace Go.Proofs.YtmmoenkmicimcaaGreatDoor
open Go.RowKit
set_option linter.unusedVariables false
set_option maxRecDepth 100000
/-- Where a list of certificates is being made. -/
structure LsZ (w wr : World) (v : Value) (L : List NC) : Prop where
  ext : Ext w wr
  own : OwnK wr w.heap.size 39 11 v (ncsCells L)
  form : ∃ A c, v = .slice A L.length c
theorem LsZ.tr {w wr wx : World} {v : Value} {L : List NC} (h : LsZ w wr v L) (e : Ext wr wx) : LsZ w wx v L := ⟨h.ext.tr e, h.own.ext e, h.form⟩
theorem LsZ.rd {w wr : World} {v : Value} {L : List NC} (h : LsZ w wr v L) : RdN wr v L := h.own.rd
theorem ls_one (w : World) (c : NC) : RdK (w.alloc (.cells (ncCells c).toArray 39)) 11 (.slice (some ⟨w.heap.size, 0, none⟩) 1 1) (ncCells c) := by
  have := RdK.lit w 11 (ncCells c).toArray 39 1 rfl (by unfold maxLen; omega)
  simpa using this
end Go.Proofs.YtmmoenkmicimcaaGreatDoor
namespace Go.Proofs.YtmmoenkmicimcaaGreatDoor
open Go.RowKit
set_option linter.unusedVariables false
set_option maxRecDepth 100000
def lenS9 : Value → Nat
  | .slice _ n _ => n
  | _ => 0
theorem LsZ.mono {w w' wr : World} {v : Value} {L : List NC} (e : Ext w w') (h : LsZ w' wr v L) : LsZ w wr v L := ⟨e.tr h.ext, h.own.mono e.size, h.form⟩
end Go.Proofs.YtmmoenkmicimcaaGreatDoor
