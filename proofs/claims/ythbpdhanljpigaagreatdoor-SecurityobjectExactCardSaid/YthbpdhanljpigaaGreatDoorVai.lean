/- Parts Ty of the proof. -/
import Derived.Test.YthbpdhanljpigaaGreatDoorVah
namespace Go.Proofs.YthbpdhanljpigaaGreatDoor
open Go.RowKit
set_option linter.unusedVariables false
set_option maxRecDepth 100000
set_option maxHeartbeats 4000000 in
theorem raw_ok : ∀ (d : Nat) (ts : List Nd) (w : World) (v : Value), okNs d ts → NdsRd d w v ts → (encNs d ts).length ≤ 4096 → Calls Tryz.prog 117 #[v] w (RetB w (encNs d ts)) := by
  intro d
  induction d with
  | zero =>
    intro ts w v hok hr hlen
    obtain ⟨rfl, A, c, rfl, hcm⟩ := hr
    go_enter Tryz.func117, Tryz.ntmps117
    go_wp2
    go_loopw [3, 4] (fun out i wr => out = .slice none 0 0 ∧ i = .int .i64 0 ∧ wr = w) (fun _ i _ => 0)
    case atStart => exact ⟨rfl, rfl, rfl⟩
    case round =>
      obtain ⟨rfl, rfl, rfl⟩ := hrel
      go_wp2
      go_ret
      exact ⟨_, _, _, rfl, (show _ = _ from rfl), nilB _ _, Below.refl _ _⟩
  | succ d IH =>
    intro ts w v hok hr hlen
    have IH' := Lib.hid IH
    obtain ⟨A, n, c, rfl, hn, hnc, hcm, hel⟩ := hr.open_
    subst hn
    unfold maxLen at hcm
    clear hr IH
    have HE := Lib.hid hel
    have HO := Lib.hid hok
    have HK := Lib.hid hlen
    clear hel hok hlen
    go_enter Tryz.func117, Tryz.ntmps117
    go_wp2
    go_loopw [3, 4, 5] (fun out i _ wr => ∃ (j : Nat) (A' : Option Addr) (n' c' : Nat), j ≤ ts.length ∧ i = .int .i64 (j : Int) ∧ out = .slice A' n' c' ∧ Hid (n' = (encNs (d + 1) (ts.take j)).length) ∧ Own wr w.heap.size 5 (.slice A' n' c') (bvs (encNs (d + 1) (ts.take j))) ∧ Ext w wr) (fun _ i _ _ => ts.length - (intOf i).toNat)
    case atStart => exact ⟨0, none, 0, 0, Nat.zero_le _, rfl, rfl, rfl, nilB _ _, Below.refl _ _⟩
    case round =>
      obtain ⟨j, A', n', c', hj, rfl, rfl, hn', o, bb⟩ := hrel
      have ho4 : (n' : Int) ≤ 4096 := by
        have h1 := encNs_len_take (d + 1) ts j
        have h2 := HK.out
        have h3 := hn'.out
        omega
      by_cases hlt : j < ts.length
      · obtain ⟨t, ht⟩ : ∃ t, ts[j]? = some t := ⟨_, List.getElem?_eq_getElem hlt⟩
        obtain ⟨d', hd', b, of, rfl, hbl, A1, n1, c1, A2, n2, c2, e0, e1, e2, r1, r2⟩ := HE.out j t ht
        obtain rfl : d = d' := by omega
        obtain ⟨⟨t0, t1⟩, hv, hcv, hck, hko⟩ := HO.out t (List.mem_of_getElem? ht)
        have l0 := (bb.cell (p := ⟨b, of + j * 3, none⟩) hbl).trans e0
        have l1 := (bb.cell (p := ⟨b, of + j * 3 + 1, none⟩) hbl).trans e1
        have l2 := (bb.cell (p := ⟨b, of + j * 3 + 2, none⟩) hbl).trans e2
        have ET := Lib.hid (encNs_take (d := d) ht)
        have EL := encNs_len_take (d + 1) ts (j + 1)
        rw [ET.out, List.length_append] at EL
        have EL2 := Lib.hid (Nat.le_trans EL HK.out)
        clear EL
        have hsh' : (contN d t).length ≤ 4096 := by
          have := EL2.out
          have h5 : (contN d t).length ≤ (encN d t).length := by unfold encN; simp only [List.length_append]; omega
          omega
        have hgp := bb.size
        have EN : (encNs (d + 1) (ts.take j)).length ≤ 4096 := Nat.le_trans (Nat.le_add_right _ _) EL2.out
        have wi1 : IntKind.i64.wrap ((j : Int)) = (j : Int) := IntWalk.i64_in _ (by omega)
        have zi1 : (0 : Int) ≤ (j : Int) := by omega
        have li1 : (j : Int) < (ts.length : Int) := by omega
        have ti1 : ((j : Int)).toNat = j := by omega
        go_wp2_with fail
        refine (refcons_any _ _ t0 t1).mono ?_
        rintro e w' ⟨rfl, rfl⟩
        obtain ⟨q, hq⟩ : ∃ q, consT t.tag = q := ⟨_, rfl⟩
        rw [hq]
        cases q
        · have hct : contN d t = t.val := by unfold contN; rw [hq]; rfl
          have hn1 : n1 = (contN d t).length := by
            obtain ⟨A'', n'', c'', e, hn, _⟩ := r1
            injection e with _ e _
            rw [hct, e, hn, bvs_length]
          have RC : ∀ W', Keep w.heap.size wr.heap.size wr.heap.size wr W' → Rd W' (.slice A1 n1 c1) (bvs (contN d t)) := fun W' h => by rw [hct]; exact h.rdB r1 bb
          have b6 : Ext wr wr := Below.refl _ _
          clear hct hcv hck hq e1 e2 l0 l1 l2
          have HL := fun W => reflength_any n1 W (by omega)
          rw [show lenB n1 = lenB (contN d t).length by rw [hn1]] at HL
          have HLL := Lib.hid HL
          have hn1b : (n1 : Int) ≤ 4096 := by omega
          have HN1 := Lib.hid hn1
          clear HL hn1
          have sz := b6.size
          have l0 := ((bb.tr b6).cell (p := ⟨b, of + j * 3, none⟩) hbl).trans e0
          by_cases hl : 255 < t.tag
          · have h81 : t.tag / 256 % 256 = t.tag / 256 := by omega
            have ht8 : tagB t.tag = [Go.Proofs.YthbpdhanljpigaaGreatDoor.u8 (t.tag / 256)] ++ [Go.Proofs.YthbpdhanljpigaaGreatDoor.u8 t.tag] := by rw [tagB, if_pos hl]; rfl
            have a1 : Ext wr (wr.alloc (.cells #[.int .u8 (t.tag / 256)] 5)) := (Below.refl _ _).alloc (Nat.le_refl _) _
            go_wp2_with (first
              | (refine appK (lo := wr.heap.size) (hi := wr.heap.size) (W := wr) ((o.ext b6).ext a1) (Own.oneC wr (Go.Proofs.YthbpdhanljpigaaGreatDoor.u8 (t.tag / 256)) (t.tag / 256) (by rw [u8_val]; omega)).rd ((bb.tr b6).tr a1) ((Keep.refl _ _ _ _).ext a1 (by omega) (Nat.le_refl _)) (fun k hk => .inl (rowOf_lt o k hk)) a1.size (by simp only [List.length_cons, List.length_nil]; omega) rfl rfl rfl rfl ?_; intro A7 n7 c7 w7 hn7 o7 (b7 : Ext _ _) K7 R7 s7; have y7 := (b7.cell (p := ⟨b, of + j * 3, none⟩) hbl).trans e0; have a7 : Ext w7 (w7.alloc (.cells #[.int .u8 (t.tag % 256)] 5)) := (Below.refl _ _).alloc (Nat.le_refl _) _)
              | (refine appK (lo := wr.heap.size) (hi := wr.heap.size) (W := wr) (o7.ext a7) (Own.oneC w7 (Go.Proofs.YthbpdhanljpigaaGreatDoor.u8 t.tag) (t.tag % 256) (by rw [u8_val])).rd (b7.tr a7) (K7.ext a7 b7.size s7) R7 (Nat.le_trans s7 a7.size) (by simp only [List.length_append, List.length_cons, List.length_nil]; omega) rfl rfl rfl rfl ?_; intro A8 n8 c8 w8 hn8 o8 (b8 : Ext _ _) K8 R8 s8)
              | (go_at_call 157; refine (HLL.out _).mono ?_; rintro e w9 ⟨A9, n9, c9, rfl, hn9, o9, b9⟩; have K9 := K8.ext b9 b8.size s8)
              | (refine appK (lo := wr.heap.size) (hi := wr.heap.size) (W := wr) (o8.ext b9) o9.rd (b8.tr b9) K9 R8 (Nat.le_trans s8 b9.size) (by have := lenB_le (contN d t).length; simp only [List.length_append, List.length_cons, List.length_nil]; omega) rfl rfl rfl rfl ?_; intro Aa na ca wa hna oa (ba : Ext _ _) Ka Ra sa)
              | (refine appK (lo := wr.heap.size) (hi := wr.heap.size) (W := wr) oa (RC _ Ka) ba Ka Ra sa (by have := lenB_le (contN d t).length; simp only [List.length_append, List.length_cons, List.length_nil]; omega) rfl rfl rfl rfl ?_; intro Ab nb cb wb hnb ob (bB : Ext _ _) Kb Rb sb))
            have EE : encNs (d + 1) (ts.take (j + 1)) = encNs (d + 1) (ts.take j) ++ [Go.Proofs.YthbpdhanljpigaaGreatDoor.u8 (t.tag / 256)] ++ [Go.Proofs.YthbpdhanljpigaaGreatDoor.u8 t.tag] ++ lenB (contN d t).length ++ contN d t := by rw [ET.out, encN, ht8]; simp only [List.append_assoc]
            go_roundw
            case rel => exact ⟨j + 1, Ab, nb, cb, by omega, by go_num, rfl, (show _ = _ by rw [EE, hnb.out]; simp only [List.length_append]), by rw [EE]; exact ob, bB⟩
            case measure => simp [intOf]; omega
          · have ht8 : tagB t.tag = [Go.Proofs.YthbpdhanljpigaaGreatDoor.u8 t.tag] := by rw [tagB, if_neg hl]
            have a7 : Ext wr (wr.alloc (.cells #[.int .u8 t.tag] 5)) := (Below.refl _ _).alloc (Nat.le_refl _) _
            go_wp2_with (first
              | (refine appK (lo := wr.heap.size) (hi := wr.heap.size) (W := wr) ((o.ext b6).ext a7) (Own.oneC wr (Go.Proofs.YthbpdhanljpigaaGreatDoor.u8 t.tag) t.tag (by rw [u8_val]; omega)).rd ((bb.tr b6).tr a7) ((Keep.refl _ _ _ _).ext a7 (by omega) (Nat.le_refl _)) (fun k hk => .inl (rowOf_lt o k hk)) a7.size (by simp only [List.length_cons, List.length_nil]; omega) rfl rfl rfl rfl ?_; intro A8 n8 c8 w8 hn8 o8 (b8 : Ext _ _) K8 R8 s8)
              | (go_at_call 157; refine (HLL.out _).mono ?_; rintro e w9 ⟨A9, n9, c9, rfl, hn9, o9, b9⟩; have K9 := K8.ext b9 b8.size s8)
              | (refine appK (lo := wr.heap.size) (hi := wr.heap.size) (W := wr) (o8.ext b9) o9.rd (b8.tr b9) K9 R8 (Nat.le_trans s8 b9.size) (by have := lenB_le (contN d t).length; simp only [List.length_append, List.length_cons, List.length_nil]; omega) rfl rfl rfl rfl ?_; intro Aa na ca wa hna oa (ba : Ext _ _) Ka Ra sa)
              | (refine appK (lo := wr.heap.size) (hi := wr.heap.size) (W := wr) oa (RC _ Ka) ba Ka Ra sa (by have := lenB_le (contN d t).length; simp only [List.length_append, List.length_cons, List.length_nil]; omega) rfl rfl rfl rfl ?_; intro Ab nb cb wb hnb ob (bB : Ext _ _) Kb Rb sb))
            have EE : encNs (d + 1) (ts.take (j + 1)) = encNs (d + 1) (ts.take j) ++ [Go.Proofs.YthbpdhanljpigaaGreatDoor.u8 t.tag] ++ lenB (contN d t).length ++ contN d t := by rw [ET.out, encN, ht8]; simp only [List.append_assoc]
            go_roundw
            case rel => exact ⟨j + 1, Ab, nb, cb, by omega, by go_num, rfl, (show _ = _ by rw [EE, hnb.out]; simp only [List.length_append]), by rw [EE]; exact ob, bB⟩
            case measure => simp [intOf]; omega
        · have hct : contN d t = encNs d t.kids := by unfold contN; rw [hq]; rfl
          have hkl : (encNs d t.kids).length ≤ 4096 := by rw [hct] at hsh'; omega
          go_wp2_with fail
          refine (IH'.out t.kids wr _ hko (r2.ext bb) hkl).mono ?_
          rintro e wy ⟨A1, n1, c1, rfl, hn1, oc, bxy⟩
          rw [← hct] at hn1 oc
          have hn1 : n1 = (contN d t).length := hn1
          have RC : ∀ W', Keep w.heap.size wr.heap.size wy.heap.size wy W' → Rd W' (.slice A1 n1 c1) (bvs (contN d t)) := fun W' h => h.rdO oc (Nat.le_refl _)
          have b6 : Ext wr wy := bxy
          clear hct hcv hck hq e1 e2 hkl l0 l1 l2
          have HL := fun W => reflength_any n1 W (by omega)
          rw [show lenB n1 = lenB (contN d t).length by rw [hn1]] at HL
          have HLL := Lib.hid HL
          have hn1b : (n1 : Int) ≤ 4096 := by omega
          have HN1 := Lib.hid hn1
          clear HL hn1
          have sz := b6.size
          have l0 := ((bb.tr b6).cell (p := ⟨b, of + j * 3, none⟩) hbl).trans e0
          by_cases hl : 255 < t.tag
          · have h81 : t.tag / 256 % 256 = t.tag / 256 := by omega
            have ht8 : tagB t.tag = [Go.Proofs.YthbpdhanljpigaaGreatDoor.u8 (t.tag / 256)] ++ [Go.Proofs.YthbpdhanljpigaaGreatDoor.u8 t.tag] := by rw [tagB, if_pos hl]; rfl
            have a1 : Ext wy (wy.alloc (.cells #[.int .u8 (t.tag / 256)] 5)) := (Below.refl _ _).alloc (Nat.le_refl _) _
            go_wp2_with (first
              | (refine appK (lo := wr.heap.size) (hi := wy.heap.size) (W := wy) ((o.ext b6).ext a1) (Own.oneC wy (Go.Proofs.YthbpdhanljpigaaGreatDoor.u8 (t.tag / 256)) (t.tag / 256) (by rw [u8_val]; omega)).rd ((bb.tr b6).tr a1) ((Keep.refl _ _ _ _).ext a1 (by omega) (Nat.le_refl _)) (fun k hk => .inl (rowOf_lt o k hk)) a1.size (by simp only [List.length_cons, List.length_nil]; omega) rfl rfl rfl rfl ?_; intro A7 n7 c7 w7 hn7 o7 (b7 : Ext _ _) K7 R7 s7; have y7 := (b7.cell (p := ⟨b, of + j * 3, none⟩) hbl).trans e0; have a7 : Ext w7 (w7.alloc (.cells #[.int .u8 (t.tag % 256)] 5)) := (Below.refl _ _).alloc (Nat.le_refl _) _)
              | (refine appK (lo := wr.heap.size) (hi := wy.heap.size) (W := wy) (o7.ext a7) (Own.oneC w7 (Go.Proofs.YthbpdhanljpigaaGreatDoor.u8 t.tag) (t.tag % 256) (by rw [u8_val])).rd (b7.tr a7) (K7.ext a7 b7.size s7) R7 (Nat.le_trans s7 a7.size) (by simp only [List.length_append, List.length_cons, List.length_nil]; omega) rfl rfl rfl rfl ?_; intro A8 n8 c8 w8 hn8 o8 (b8 : Ext _ _) K8 R8 s8)
              | (go_at_call 157; refine (HLL.out _).mono ?_; rintro e w9 ⟨A9, n9, c9, rfl, hn9, o9, b9⟩; have K9 := K8.ext b9 b8.size s8)
              | (refine appK (lo := wr.heap.size) (hi := wy.heap.size) (W := wy) (o8.ext b9) o9.rd (b8.tr b9) K9 R8 (Nat.le_trans s8 b9.size) (by have := lenB_le (contN d t).length; simp only [List.length_append, List.length_cons, List.length_nil]; omega) rfl rfl rfl rfl ?_; intro Aa na ca wa hna oa (ba : Ext _ _) Ka Ra sa)
              | (refine appK (lo := wr.heap.size) (hi := wy.heap.size) (W := wy) oa (RC _ Ka) ba Ka Ra sa (by have := lenB_le (contN d t).length; simp only [List.length_append, List.length_cons, List.length_nil]; omega) rfl rfl rfl rfl ?_; intro Ab nb cb wb hnb ob (bB : Ext _ _) Kb Rb sb))
            have EE : encNs (d + 1) (ts.take (j + 1)) = encNs (d + 1) (ts.take j) ++ [Go.Proofs.YthbpdhanljpigaaGreatDoor.u8 (t.tag / 256)] ++ [Go.Proofs.YthbpdhanljpigaaGreatDoor.u8 t.tag] ++ lenB (contN d t).length ++ contN d t := by rw [ET.out, encN, ht8]; simp only [List.append_assoc]
            go_roundw
            case rel => exact ⟨j + 1, Ab, nb, cb, by omega, by go_num, rfl, (show _ = _ by rw [EE, hnb.out]; simp only [List.length_append]), by rw [EE]; exact ob, bB⟩
            case measure => simp [intOf]; omega
          · have ht8 : tagB t.tag = [Go.Proofs.YthbpdhanljpigaaGreatDoor.u8 t.tag] := by rw [tagB, if_neg hl]
            have a7 : Ext wy (wy.alloc (.cells #[.int .u8 t.tag] 5)) := (Below.refl _ _).alloc (Nat.le_refl _) _
            go_wp2_with (first
              | (refine appK (lo := wr.heap.size) (hi := wy.heap.size) (W := wy) ((o.ext b6).ext a7) (Own.oneC wy (Go.Proofs.YthbpdhanljpigaaGreatDoor.u8 t.tag) t.tag (by rw [u8_val]; omega)).rd ((bb.tr b6).tr a7) ((Keep.refl _ _ _ _).ext a7 (by omega) (Nat.le_refl _)) (fun k hk => .inl (rowOf_lt o k hk)) a7.size (by simp only [List.length_cons, List.length_nil]; omega) rfl rfl rfl rfl ?_; intro A8 n8 c8 w8 hn8 o8 (b8 : Ext _ _) K8 R8 s8)
              | (go_at_call 157; refine (HLL.out _).mono ?_; rintro e w9 ⟨A9, n9, c9, rfl, hn9, o9, b9⟩; have K9 := K8.ext b9 b8.size s8)
              | (refine appK (lo := wr.heap.size) (hi := wy.heap.size) (W := wy) (o8.ext b9) o9.rd (b8.tr b9) K9 R8 (Nat.le_trans s8 b9.size) (by have := lenB_le (contN d t).length; simp only [List.length_append, List.length_cons, List.length_nil]; omega) rfl rfl rfl rfl ?_; intro Aa na ca wa hna oa (ba : Ext _ _) Ka Ra sa)
              | (refine appK (lo := wr.heap.size) (hi := wy.heap.size) (W := wy) oa (RC _ Ka) ba Ka Ra sa (by have := lenB_le (contN d t).length; simp only [List.length_append, List.length_cons, List.length_nil]; omega) rfl rfl rfl rfl ?_; intro Ab nb cb wb hnb ob (bB : Ext _ _) Kb Rb sb))
            have EE : encNs (d + 1) (ts.take (j + 1)) = encNs (d + 1) (ts.take j) ++ [Go.Proofs.YthbpdhanljpigaaGreatDoor.u8 t.tag] ++ lenB (contN d t).length ++ contN d t := by rw [ET.out, encN, ht8]; simp only [List.append_assoc]
            go_roundw
            case rel => exact ⟨j + 1, Ab, nb, cb, by omega, by go_num, rfl, (show _ = _ by rw [EE, hnb.out]; simp only [List.length_append]), by rw [EE]; exact ob, bB⟩
            case measure => simp [intOf]; omega
      · obtain rfl : j = ts.length := by omega
        rw [List.take_length] at o hn'
        go_wp2
        go_ret
        exact ⟨_, _, _, rfl, hn', o, bb⟩
set_option maxHeartbeats 1000000 in
theorem refencode_ok {d : Nat} {ts : List Nd} {v : Value} (w : World) (hok : okNs d ts) (hr : NdsRd d w v ts) (hd : d ≤ 8) (hc : cntNs d ts ≤ 256) (hl : (encNs d ts).length ≤ 4096) :
    Calls Tryz.prog 61 #[v] w (RetBE w (encNs d ts) 0) := by
  obtain ⟨A, n, c, hv, hn, hnc, hcm, _⟩ := hr.open_
  have hr' := Lib.hid hr
  have hok' := Lib.hid hok
  subst hv hn
  clear hr hok
  go_enter Tryz.func61, Tryz.ntmps61
  go_wp2_with fail
  refine (refcheck_ok d ts w _ 1 hok'.out hr'.out (by omega) (by omega)).mono ?_
  rintro e w1 ⟨rfl, b1⟩
  have hc' : (cntNs d ts : Int) ≤ 256 := by omega
  go_wp2_with fail
  refine (refcount_ok d ts w1 _ hok'.out (hr'.out.ext b1) hc).mono ?_
  rintro e w1' ⟨rfl, rfl⟩
  go_wp2_with fail
  refine (raw_ok d ts w1 _ hok'.out (hr'.out.ext b1) hl).mono ?_
  rintro e w2 ⟨A2, n2, c2, rfl, hn2, o2, b2⟩
  have hn2' : (n2 : Int) ≤ 4096 := by rw [hn2.out]; omega
  go_wp2
  go_ret2
  exact ⟨_, _, _, rfl, hn2, o2.mono b1.size, b1.tr b2⟩
end Go.Proofs.YthbpdhanljpigaaGreatDoor
