/- Parts Vc Ya Yb of the proof. -/
import Derived.Test.YtkjplpmogfmhkaaGreatDoorPku
import Derived.Test.YtkjplpmogfmhkaaGreatDoorPko
import Derived.Test.YtkjplpmogfmhkaaGreatDoorPkj
namespace Go.Proofs.YtkjplpmogfmhkaaGreatDoor
open Go.RowKit
set_option linter.unusedVariables false
set_option maxRecDepth 100000

def term1N : List UInt8 := [84, 69, 82, 77, 49]
def root2N : List UInt8 := [82, 79, 79, 84, 50]
theorem name_term1 : nameP term1N := by decide
theorem name_root2 : nameP root2N := by decide
/-- A certificate with these entries, signed with the authority's secret. -/
structure IsCert (c : TC) (a h : List UInt8) (role rights fr td : Int) : Prop where
  ck : ckT c = 0
  au : c.au = a
  ho : c.ho = h
  key : c.key = pw 4 (holderK h)
  role : c.role = role
  rights : c.rights = rights
  fr : c.fr = fr
  tdd : c.to = td
  vf : vfB (pw 4 (holderK a)) c = true
theorem isCert {a h : List UInt8} {role rights fr td : Int} (h1 : nameP a) (h2 : nameP h) (h3 : 1 ≤ role ∧ role ≤ 4) (h4 : 0 ≤ rights ∧ rights ≤ 65535) (h5 : daysP fr td) : IsCert (certC a h role rights fr td) a h role rights fr td := by
  have hk := holderK_in a
  have hc : ckT ⟨a, h, pw 4 (holderK h), role, rights, fr, td, 0, 0⟩ = 0 := ck_ok h1 h2 (elem_holder h) (by show ¬ (role < 1 ∨ 4 < role); omega) (by show ¬ (rights < 0 ∨ 65535 < rights); omega) h5
  have hv := vf_issue hk hc
  have hw := (valid_issue hk hc).1
  unfold certC
  rw [isC_in hk hc] at hv hw ⊢
  exact ⟨hw, rfl, rfl, rfl, rfl, rfl, rfl, rfl, hv⟩
def pt0 (K : Int) : TP := ⟨rootN, K, 7, 0, 500⟩
/-- The trust of the law's examples. -/
def trust0 (K : Int) : TR := ⟨[pt0 K], 100⟩
theorem pt0_ok {K : Int} (hK : K = pw 4 (holderK rootN)) : ptK (pt0 K) = 0 := ptK_ok name_root (by show isElem K = true; rw [hK]; exact elem_holder _) (by show ¬ ((7 : Int) < 0 ∨ 65535 < (7 : Int)); omega) (by show (0 : Int) ≤ 0 ∧ (0 : Int) ≤ 500 ∧ (500 : Int) ≤ 73048; omega)
theorem vd_one {p : TP} {d : Int} (h : ptK p = 0) (h0 : 0 ≤ d) (h1 : d ≤ 73048) : vdK ⟨[p], d⟩ = 0 :=
  vdK_ok (by show ¬ (1 < 1 ∨ 2 < 1); omega) (by show (if ptK p = 0 then 0 else ptK p) = 0; rw [if_pos h]) rfl (by show ¬ (d < 0 ∨ 73048 < d); omega)
theorem vd_two {p q : TP} {d : Int} (h : ptK p = 0) (k : ptK q = 0) (hn : p.ho ≠ q.ho) (h0 : 0 ≤ d) (h1 : d ≤ 73048) : vdK ⟨[p, q], d⟩ = 0 :=
  vdK_ok (by show ¬ (2 < 1 ∨ 2 < 2); omega) (by show (if ptK p = 0 then (if ptK q = 0 then 0 else ptK q) else ptK p) = 0; rw [if_pos h, if_pos k]) (decide_eq_false hn) (by show ¬ (d < 0 ∨ 73048 < d); omega)
theorem start_hd {p : TP} {l : List TP} {d : Int} (hv : vdK ⟨p :: l, d⟩ = 0) : startO ⟨p :: l, d⟩ p.ho = some (chOf p) := startO_at (t := ⟨p :: l, d⟩) hv 0 (Nat.zero_lt_succ _) (fun j hj h => absurd h (Nat.not_lt_zero _)) rfl
theorem start_2nd {p q : TP} {d : Int} (hv : vdK ⟨[p, q], d⟩ = 0) (hn : p.ho ≠ q.ho) : startO ⟨[p, q], d⟩ q.ho = some (chOf q) :=
  startO_at (t := ⟨[p, q], d⟩) hv 1 (Nat.lt_succ_self _) (fun j hj h => (by
    obtain rfl : j = 0 := by omega
    exact hn)) rfl
theorem learn_no1 {t : TR} {b : CH} {c : TC} (hv : vdK t = 0) (hc : ckT c = 0) (hr : c.role ≠ 1) : learnT t b c = ⟨t.ps, lnDt t b c⟩ := by
  unfold learnT
  rw [if_neg (fun q => q.elim (fun q => q hv) (fun q => q hc)), if_pos (.inl hr)]
/-- One step of a path. -/
theorem step_ok {t : TR} {c : CH} {x : TC} {a h : List UInt8} {role rights fr td : Int} (hx : IsCert x a h role rights fr td) (hv : vdK t = 0) (ha : c.ho = a) (hn : a ≠ []) (hk : c.key = pw 4 (holderK a))
    (hf : followB c.role role = true) (h7 : t.dt ≤ c.to) (h8 : t.dt ≤ td) (h9 : c.role = 1 ∨ (c.fr ≤ fr ∧ fr ≤ c.to)) : exK t c x = 0 :=
  exK_ok hv (by rw [ha]; exact hn) hx.ck (by rw [hx.au, ha]) (by rw [hk]; exact hx.vf) (by rw [hx.role]; exact hf) (by rw [hx.tdd]; omega) (by rw [hx.fr]; omega)
theorem path_one {t : TR} {c : CH} {x : TC} (hs : startO t x.au = some c) (h : exK t c x = 0) : pathO t [x] = (learnT t c x, nextC c x, 0) := by
  rw [pathO_cons (by simp) hs, runP_ok h]
  rfl
theorem path_two {t : TR} {c : CH} {x y : TC} (hs : startO t x.au = some c) (h : exK t c x = 0) (h2 : exK (learnT t c x) (nextC c x) y = 0) : pathO t [x, y] = (learnT (learnT t c x) (nextC c x) y, nextC (nextC c x) y, 0) := by
  rw [pathO_cons (by simp) hs, runP_ok h, runP_ok h2]
  rfl
/-- The first example of the sanity check. -/
theorem awake_path1 {K : Int} (hK : K = pw 4 (holderK rootN)) {v x : TC} (hv : IsCert v rootN homeN 2 3 90 300) (hx : IsCert x homeN term1N 4 6 120 200) :
    (pathO (trust0 K) [v, x]).2.2 = 0 ∧ (pathO (trust0 K) [v, x]).2.1.rights = 2 ∧ (pathO (trust0 K) [v, x]).2.1.ho = term1N ∧ (pathO (trust0 K) [v, x]).1.dt = 120 := by
  have v0 : vdK (trust0 K) = 0 := vd_one (pt0_ok hK) (by omega) (by omega)
  have hs : startO (trust0 K) v.au = some (chOf (pt0 K)) := by rw [hv.au]; exact start_hd v0
  have e1 : exK (trust0 K) (chOf (pt0 K)) v = 0 := step_ok hv v0 rfl (by decide) hK rfl (by show (100 : Int) ≤ 500; omega) (by show (100 : Int) ≤ 300; omega) (.inl rfl)
  have d1 : lnDt (trust0 K) (chOf (pt0 K)) v = 100 := by unfold lnDt; rw [if_pos (.inl (by rw [hv.role]; decide)), hv.fr]; rfl
  have l1 : learnT (trust0 K) (chOf (pt0 K)) v = (trust0 K) := by rw [learn_no1 v0 hv.ck (by rw [hv.role]; decide), d1]; rfl
  have n1 : (nextC (chOf (pt0 K)) v).role = 2 := hv.role
  have n2 : (nextC (chOf (pt0 K)) v).ho = homeN := hv.ho
  have n3 : (nextC (chOf (pt0 K)) v).key = pw 4 (holderK homeN) := hv.key
  have n4 : (nextC (chOf (pt0 K)) v).fr = 90 := hv.fr
  have n5 : (nextC (chOf (pt0 K)) v).to = 300 := hv.tdd
  have e2 : exK (learnT (trust0 K) (chOf (pt0 K)) v) (nextC (chOf (pt0 K)) v) x = 0 := by
    rw [l1]
    exact step_ok hx v0 n2 (by decide) n3 (by rw [n1]; rfl) (by rw [n5]; show (100 : Int) ≤ 300; omega) (by show (100 : Int) ≤ 200; omega) (.inr ⟨by rw [n4]; decide, by rw [n5]; decide⟩)
  rw [path_two hs e1 e2, l1]
  refine ⟨rfl, ?_, hx.ho, ?_⟩
  · show andR (andR 7 v.rights) x.rights = 2
    rw [hv.rights, hx.rights]
    decide
  · rw [learn_no1 v0 hx.ck (by rw [hx.role]; decide)]
    show lnDt (trust0 K) (nextC (chOf (pt0 K)) v) x = 120
    unfold lnDt
    rw [if_pos (.inr n1), hx.fr]
    rfl
theorem awake_path2 {K : Int} (hK : K = pw 4 (holderK rootN)) {y : TC} (hy : IsCert y rootN term1N 4 6 120 200) : (pathO (trust0 K) [y]).2.2 = 61 := by
  have v0 : vdK (trust0 K) = 0 := vd_one (pt0_ok hK) (by omega) (by omega)
  have hs : startO (trust0 K) y.au = some (chOf (pt0 K)) := by rw [hy.au]; exact start_hd v0
  have e1 : exK (trust0 K) (chOf (pt0 K)) y = 61 := exK_fo v0 (by show rootN ≠ []; decide) hy.ck hy.au (by show vfB K y = true; rw [hK]; exact hy.vf) (by rw [hy.role]; rfl)
  rw [pathO_cons (by simp) hs, runP_bad (by rw [e1]; decide)]
  exact e1
/-- The law on links. -/
theorem links_path {K : Int} (hK : K = pw 4 (holderK rootN)) {r m day dd : Int} {link old fresh : TC} (hr : 0 ≤ r ∧ r < 16) (hm : 0 ≤ m ∧ m < 16) (hd : 100 ≤ day ∧ day < 400) (hdd : 0 ≤ dd ∧ dd < 500)
    (hl : IsCert link rootN root2N 1 r day (day + 100 + dd)) (ho : IsCert old rootN homeN 2 m day (day + 50)) (hf : IsCert fresh root2N homeN 2 m day (day + 50)) :
    (pathO (trust0 K) [link]).2.2 = 0 ∧ (pathO (trust0 K) [link]).1.dt = day ∧ (pathO (trust0 K) [link]).1.ps.length = 2 ∧
    (pathO (pathO (trust0 K) [link]).1 [old]).2.2 = 0 ∧ (pathO (pathO (trust0 K) [link]).1 [fresh]).2.2 = 0 ∧
    (pathO (pathO (trust0 K) [link]).1 [old]).2.1.rights = andR m 7 ∧ (pathO (pathO (trust0 K) [link]).1 [fresh]).2.1.rights = andR (andR m 7) r := by
  have v0 : vdK (trust0 K) = 0 := vd_one (pt0_ok hK) (by omega) (by omega)
  have hs : startO (trust0 K) link.au = some (chOf (pt0 K)) := by rw [hl.au]; exact start_hd v0
  have e1 : exK (trust0 K) (chOf (pt0 K)) link = 0 := step_ok hl v0 rfl (by decide) hK rfl (by show (100 : Int) ≤ 500; omega) (by show (100 : Int) ≤ _; omega) (.inl rfl)
  have d1 : lnDt (trust0 K) (chOf (pt0 K)) link = day := by
    unfold lnDt
    rw [if_pos (.inl (by rw [hl.role]; decide)), hl.fr]
    show max (100 : Int) day = day
    omega
  obtain ⟨p, hp⟩ : ∃ p, p = lnPt (chOf (pt0 K)) link := ⟨_, rfl⟩
  have p1 : p.ho = root2N := by rw [hp]; exact hl.ho
  have p2 : p.key = pw 4 (holderK root2N) := by rw [hp]; exact hl.key
  have p3 : p.rights = andR r 7 := by rw [hp]; show andR link.rights 7 = _; rw [hl.rights]
  have p4 : p.fr = day := by rw [hp]; exact hl.fr
  have p5 : p.to = day + 100 + dd := by rw [hp]; exact hl.tdd
  have pr := (subR_andL (x := r) (y := 7) ⟨by omega, by omega⟩ ⟨by omega, by omega⟩).2.2
  have l1 : learnT (trust0 K) (chOf (pt0 K)) link = ⟨[(pt0 K), p], day⟩ := by
    have hh : hasP (trust0 K).ps link.ho = false := by
      rw [hl.ho]
      refine hasP_false (l := [pt0 K]) fun j hj => ?_
      obtain rfl : j = 0 := by simpa using hj
      exact (by decide : rootN ≠ root2N)
    have hk : lnKept (trust0 K) (chOf (pt0 K)) link = [(pt0 K), p] := by
      unfold lnKept
      rw [d1, ← hp]
      have : ((trust0 K).ps.filter fun p => decide (day ≤ p.to)) = [(pt0 K)] := by
        show ([(pt0 K)].filter fun p => decide (day ≤ p.to)) = [(pt0 K)]
        rw [List.filter_cons_of_pos (by show decide (day ≤ 500) = true; exact decide_eq_true (by omega))]
        rfl
      rw [this]
      rfl
    unfold learnT
    rw [if_neg (fun q => q.elim (fun q => q v0) (fun q => q hl.ck)), if_neg (by rw [hl.role, hh]; simp), hk, d1]
    rfl
  rw [path_one hs e1, l1]
  have hne : (pt0 K).ho ≠ p.ho := by rw [p1]; exact (by decide : rootN ≠ root2N)
  have pk : ptK p = 0 := ptK_ok (by rw [p1]; exact name_root2) (by rw [p2]; exact elem_holder _) (by rw [p3]; omega) (by rw [p4, p5]; show 0 ≤ day ∧ day ≤ day + 100 + dd ∧ day + 100 + dd ≤ 73048; omega)
  have v1 : vdK ⟨[(pt0 K), p], day⟩ = 0 := vd_two (pt0_ok hK) pk hne (by omega) (by omega)
  have s1 : startO ⟨[(pt0 K), p], day⟩ old.au = some (chOf (pt0 K)) := by rw [ho.au]; exact start_hd v1
  have s2 : startO ⟨[(pt0 K), p], day⟩ fresh.au = some (chOf p) := by rw [hf.au, ← p1]; exact start_2nd v1 hne
  have x1 : exK ⟨[(pt0 K), p], day⟩ (chOf (pt0 K)) old = 0 := step_ok ho v1 rfl (by decide) hK rfl (by show day ≤ 500; omega) (by show day ≤ day + 50; omega) (.inl rfl)
  have x2 : exK ⟨[(pt0 K), p], day⟩ (chOf p) fresh = 0 := step_ok hf v1 p1 (by decide) p2 rfl (by show day ≤ p.to; rw [p5]; omega) (by show day ≤ day + 50; omega) (.inl rfl)
  rw [path_one s1 x1, path_one s2 x2]
  refine ⟨rfl, rfl, rfl, rfl, rfl, ?_, ?_⟩
  · show andR 7 old.rights = _
    rw [ho.rights]
    obtain ⟨a, rfl⟩ := Int.eq_ofNat_of_zero_le hm.1
    have h1 := andR_nat a 7 (by omega) (by omega)
    have h2 := andR_nat 7 a (by omega) (by omega)
    rw [show ((7 : Nat) : Int) = 7 from rfl] at h1 h2
    rw [h1, h2, Nat.and_comm]
  · show andR p.rights fresh.rights = _
    rw [p3, hf.rights]
    obtain ⟨a, rfl⟩ := Int.eq_ofNat_of_zero_le hm.1
    obtain ⟨b, rfl⟩ := Int.eq_ofNat_of_zero_le hr.1
    have h1 := andR_nat a 7 (by omega) (by omega)
    have h2 := andR_nat b 7 (by omega) (by omega)
    have l1 := and_lt_left a 7 (by omega)
    have l2 := and_lt_left b 7 (by omega)
    rw [show ((7 : Nat) : Int) = 7 from rfl] at h1 h2
    rw [h1, h2, andR_nat _ a l2 (by omega), andR_nat _ b l1 (by omega)]
    congr 1
    rw [Nat.and_comm b 7, Nat.and_comm a 7, Nat.and_assoc, Nat.and_assoc, Nat.and_comm b a]
end Go.Proofs.YtkjplpmogfmhkaaGreatDoor

namespace Go.Proofs.YtkjplpmogfmhkaaGreatDoor
open Go.RowKit
set_option linter.unusedVariables false
set_option maxRecDepth 100000

def tpCells (p : TP) : List Value := [.string (bstr p.ho), .int .i64 p.key, .int .i64 p.rights, .int .i64 p.fr, .int .i64 p.to]
def tpsCells (l : List TP) : List Value := l.flatMap tpCells
theorem tpCells_len (p : TP) : (tpCells p).length = 5 := rfl
theorem tpsCells_len (l : List TP) : (tpsCells l).length = l.length * 5 := flat_len _ 5 tpCells_len l
theorem tpsCells_snoc (l : List TP) (p : TP) : tpsCells l ++ tpCells p = tpsCells (l ++ [p]) := by simp [tpsCells]
theorem tpsCells_app (l m : List TP) : tpsCells l ++ tpsCells m = tpsCells (l ++ m) := by simp [tpsCells]
theorem tpCells_one (p : TP) : ∀ u ∈ tpCells p, u.oneCell' = true := by
  intro u hu
  simp only [tpCells, List.mem_cons, List.not_mem_nil, or_false] at hu
  rcases hu with rfl | rfl | rfl | rfl | rfl <;> rfl
theorem tpsCells_one (l : List TP) : ∀ u ∈ tpsCells l, u.oneCell' = true := by
  intro u hu
  obtain ⟨p, _, hu⟩ := List.mem_flatMap.1 hu
  exact tpCells_one p u hu
theorem elemTp : ElemK Tryz.prog 22 139 5 48 := by
  have h : (Tryz.prog.info? 139).map (fun i => (i.zero, i.size, i.bytes)) = some (some (.agg #[.string ⟨#[]⟩, .int .i64 0, .int .i64 0, .int .i64 0, .int .i64 0]), 5, 48) := by kernel_rfl
  obtain ⟨i, h1, h2, h3, h4⟩ := info_parts h
  exact ⟨i, _, Tryz.underlying22, h1, h2, h3, h4, rfl⟩
def tpV (p : TP) : Value := .agg #[.string (bstr p.ho), .int .i64 p.key, .int .i64 p.rights, .int .i64 p.fr, .int .i64 p.to]
def chV (c : CH) : Value := .agg #[.string (bstr c.ho), .int .i64 c.key, .int .i64 c.role, .int .i64 c.rights, .int .i64 c.fr, .int .i64 c.to]
/-- Block g is the trust point p. -/
def TpAt (w : World) (g : Nat) (p : TP) : Prop := w.heap[g]? = some (.cells #[.string (bstr p.ho), .int .i64 p.key, .int .i64 p.rights, .int .i64 p.fr, .int .i64 p.to] 139 (0, 0))
theorem TpAt.lt {w : World} {g : Nat} {p : TP} (h : TpAt w g p) : g < w.heap.size := block_lt h
theorem TpAt.ext {w w' : World} {g : Nat} {p : TP} (h : TpAt w g p) (e : Ext w w') : TpAt w' g p := (e.block g h.lt).trans h
theorem TpAt.cells {w : World} {g : Nat} {p : TP} (h : TpAt w g p) : w.cell? ⟨g, 0, none⟩ = some (.string (bstr p.ho)) ∧ w.cell? ⟨g, 1, none⟩ = some (.int .i64 p.key) ∧ w.cell? ⟨g, 2, none⟩ = some (.int .i64 p.rights) ∧ w.cell? ⟨g, 3, none⟩ = some (.int .i64 p.fr) ∧ w.cell? ⟨g, 4, none⟩ = some (.int .i64 p.to) := by
  refine ⟨?_, ?_, ?_, ?_, ?_⟩ <;> (rw [cell_of_row w g _ _ _ _ h]; rfl)
theorem TpAt.frozen {w : World} {g : Nat} {p : TP} (h : TpAt w g p) (i : Nat) : w.frozen? ⟨g, i, none⟩ = false := by
  unfold TpAt at h
  simp [World.frozen?, h]
theorem tp_alloc (w : World) (p : TP) : ∃ wz, wz = w.alloc (.cells #[.string (bstr p.ho), .int .i64 p.key, .int .i64 p.rights, .int .i64 p.fr, .int .i64 p.to] 139) ∧ Ext w wz ∧ TpAt wz w.heap.size p :=
  ⟨_, rfl, (Below.refl _ _).alloc (Nat.le_refl _) _, heap_alloc_new' w _⟩
/-- Block g is the chain c. -/
def ChAt (w : World) (g : Nat) (c : CH) : Prop := w.heap[g]? = some (.cells #[.string (bstr c.ho), .int .i64 c.key, .int .i64 c.role, .int .i64 c.rights, .int .i64 c.fr, .int .i64 c.to] 28 (0, 0))
theorem ChAt.lt {w : World} {g : Nat} {c : CH} (h : ChAt w g c) : g < w.heap.size := block_lt h
theorem ChAt.ext {w w' : World} {g : Nat} {c : CH} (h : ChAt w g c) (e : Ext w w') : ChAt w' g c := (e.block g h.lt).trans h
theorem ChAt.cells {w : World} {g : Nat} {c : CH} (h : ChAt w g c) : w.cell? ⟨g, 0, none⟩ = some (.string (bstr c.ho)) ∧ w.cell? ⟨g, 1, none⟩ = some (.int .i64 c.key) ∧ w.cell? ⟨g, 2, none⟩ = some (.int .i64 c.role) ∧ w.cell? ⟨g, 3, none⟩ = some (.int .i64 c.rights) ∧ w.cell? ⟨g, 4, none⟩ = some (.int .i64 c.fr) ∧ w.cell? ⟨g, 5, none⟩ = some (.int .i64 c.to) := by
  refine ⟨?_, ?_, ?_, ?_, ?_, ?_⟩ <;> (rw [cell_of_row w g _ _ _ _ h]; rfl)
theorem ChAt.frozen {w : World} {g : Nat} {c : CH} (h : ChAt w g c) (i : Nat) : w.frozen? ⟨g, i, none⟩ = false := by
  unfold ChAt at h
  simp [World.frozen?, h]
theorem ch_alloc (w : World) (c : CH) : ∃ wz, wz = w.alloc (.cells #[.string (bstr c.ho), .int .i64 c.key, .int .i64 c.role, .int .i64 c.rights, .int .i64 c.fr, .int .i64 c.to] 28) ∧ Ext w wz ∧ ChAt wz w.heap.size c :=
  ⟨_, rfl, (Below.refl _ _).alloc (Nat.le_refl _) _, heap_alloc_new' w _⟩
/-- A slice that reads as trust points. -/
abbrev RdT (w : World) (v : Value) (l : List TP) : Prop := RdK w 5 v (tpsCells l)
/-- The value v is the trust t. -/
def TrR (w : World) (v : Value) (t : TR) : Prop := ∃ A n c, v = .agg #[.slice A n c, .int .i64 t.dt] ∧ RdT w (.slice A n c) t.ps
theorem TrR.ext {w w' : World} {v : Value} {t : TR} (h : TrR w v t) (e : Ext w w') : TrR w' v t := by
  obtain ⟨A, n, c, h1, h2⟩ := h
  exact ⟨A, n, c, h1, h2.ext e⟩
/-- Block g is a trust: its points' slice, its date. -/
def TrAt (w : World) (g : Nat) (A : Option Addr) (n c : Nat) (d : Int) : Prop := w.heap[g]? = some (.cells #[.slice A n c, .int .i64 d] 24 (0, 0))
theorem TrAt.lt {w : World} {g : Nat} {A : Option Addr} {n c : Nat} {d : Int} (h : TrAt w g A n c d) : g < w.heap.size := block_lt h
theorem TrAt.ext {w w' : World} {g : Nat} {A : Option Addr} {n c : Nat} {d : Int} (h : TrAt w g A n c d) (e : Ext w w') : TrAt w' g A n c d := (e.block g h.lt).trans h
theorem TrAt.cells {w : World} {g : Nat} {A : Option Addr} {n c : Nat} {d : Int} (h : TrAt w g A n c d) : w.cell? ⟨g, 0, none⟩ = some (.slice A n c) ∧ w.cell? ⟨g, 1, none⟩ = some (.int .i64 d) := by
  refine ⟨?_, ?_⟩ <;> (rw [cell_of_row w g _ _ _ _ h]; rfl)
theorem TrAt.frozen {w : World} {g : Nat} {A : Option Addr} {n c : Nat} {d : Int} (h : TrAt w g A n c d) (i : Nat) : w.frozen? ⟨g, i, none⟩ = false := by
  unfold TrAt at h
  simp [World.frozen?, h]
theorem tr_alloc (w : World) (A : Option Addr) (n c : Nat) (d : Int) : ∃ wz, wz = w.alloc (.cells #[.slice A n c, .int .i64 d] 24) ∧ Ext w wz ∧ TrAt wz w.heap.size A n c d :=
  ⟨_, rfl, (Below.refl _ _).alloc (Nat.le_refl _) _, heap_alloc_new' w _⟩
/-- Holders that are no longer than any string. -/
def smR (l : List TP) : Prop := ∀ p ∈ l, p.ho.length ≤ maxLen
/-- The five cells of point i. -/
theorem RdT.at_ {w : World} {v : Value} {l : List TP} (h : RdT w v l) : ∃ A n c, v = .slice A n c ∧ n = l.length ∧ n ≤ c ∧ c ≤ maxLen ∧ (0 < n → ∃ b o, A = some ⟨b, o, none⟩ ∧ b < w.heap.size ∧ ∀ (i : Nat) (p : TP), l[i]? = some p →
    w.cell? ⟨b, o + i * 5, none⟩ = some (.string (bstr p.ho)) ∧ w.cell? ⟨b, o + i * 5 + 1, none⟩ = some (.int .i64 p.key) ∧ w.cell? ⟨b, o + i * 5 + 2, none⟩ = some (.int .i64 p.rights) ∧ w.cell? ⟨b, o + i * 5 + 3, none⟩ = some (.int .i64 p.fr) ∧ w.cell? ⟨b, o + i * 5 + 4, none⟩ = some (.int .i64 p.to)) := by
  obtain ⟨A, n, c, rfl, hn, hnc, hcm, hc⟩ := RdK.flat (f := tpCells) (k := 5) (by omega) tpCells_len h
  refine ⟨A, n, c, rfl, hn, hnc, hcm, fun h0 => ?_⟩
  obtain ⟨b, o, rfl, hb, hcell⟩ := hc h0
  refine ⟨b, o, rfl, hb, fun i p hp => ?_⟩
  obtain ⟨hi, rfl⟩ := List.getElem?_eq_some_iff.1 hp
  exact ⟨hcell i hi 0 _ rfl, hcell i hi 1 _ rfl, hcell i hi 2 _ rfl, hcell i hi 3 _ rfl, hcell i hi 4 _ rfl⟩
end Go.Proofs.YtkjplpmogfmhkaaGreatDoor

namespace Go.Proofs.YtkjplpmogfmhkaaGreatDoor
open Go.RowKit
set_option linter.unusedVariables false
set_option maxRecDepth 100000

theorem name_tp (l : List UInt8) (w : World) (hl : l.length ≤ maxLen) : Calls Tryz.prog 239 #[.string (bstr l)] w fun e w' => e = .returned (.bool (decide (nameP l))) ∧ w = w' :=
  name_any (bstr l) w (by show l.toArray.size ≤ _; simpa using hl)
theorem refname_tp (l : List UInt8) (w : World) (hl : l.length ≤ maxLen) : Calls Tryz.prog 183 #[.string (bstr l)] w fun e w' => e = .returned (.bool (decide (nameP l))) ∧ w = w' :=
  refname_any (bstr l) w (by show l.toArray.size ≤ _; simpa using hl)
set_option maxHeartbeats 1000000 in
theorem point_any (p : TP) (w : World) (hs : p.ho.length ≤ maxLen) : Calls Tryz.prog 181 #[tpV p] w (RetQ w (.int .i64 (ptK p))) := by
  obtain ⟨wz, hwz, x0, zr⟩ := tp_alloc w p
  have HS := Lib.hid hs
  clear hs
  unfold tpV
  go_enter Tryz.func181, Tryz.ntmps181
  go_wp2_with fail
  rw [← hwz]
  clear hwz
  obtain ⟨t0, t1, t2, t3, t4⟩ := zr.cells
  have hl := zr.lt
  go_wp2_with fail
  refine (name_tp _ _ HS.out).mono ?_
  rintro e w' ⟨rfl, rfl⟩
  by_cases nA : nameP p.ho
  case neg =>
    rw [decide_eq_false nA]
    have HN := Lib.hid (ptK_ho nA)
    go_wp2_with fail
    go_ret
    exact ⟨by rw [HN.out]; rfl, x0⟩
  case pos =>
  rw [decide_eq_true nA]
  go_wp2_with fail
  refine (element_any _ _).mono ?_
  rintro e w' ⟨rfl, rfl⟩
  cases hE : isElem p.key with
  | false =>
    have HN := Lib.hid (ptK_el nA hE)
    go_wp2_with fail
    go_ret
    exact ⟨by rw [HN.out]; rfl, x0⟩
  | true =>
    by_cases s1 : p.rights < 0
    · have HN := Lib.hid (ptK_ri nA hE (.inl s1))
      go_wp2_with fail
      go_ret
      exact ⟨by rw [HN.out]; rfl, x0⟩
    by_cases s2 : 65535 < p.rights
    · have HN := Lib.hid (ptK_ri nA hE (.inr s2))
      go_wp2_with fail
      go_ret
      exact ⟨by rw [HN.out]; rfl, x0⟩
    have hr : ¬ (p.rights < 0 ∨ 65535 < p.rights) := by omega
    have HR := Lib.hid hr
    clear hr
    go_wp2_with fail
    refine (days_any _ _ _).mono ?_
    rintro e w' ⟨rfl, rfl⟩
    by_cases dD : daysP p.fr p.to
    · rw [decide_eq_true dD]
      have HN := Lib.hid (ptK_ok nA hE HR.out dD)
      go_wp2_with fail
      go_ret
      exact ⟨by rw [HN.out]; rfl, x0⟩
    · rw [decide_eq_false dD]
      have HN := Lib.hid (ptK_da nA hE HR.out dD)
      go_wp2_with fail
      go_ret
      exact ⟨by rw [HN.out]; rfl, x0⟩
/-- The index of the first point of a holder, or -1. -/
def idxP (l : List TP) (h : List UInt8) : Int := match l.findIdx? (fun p => decide (p.ho = h)) with
  | none => -1
  | some i => (i : Int)
theorem idxP_at {l : List TP} {h : List UInt8} {j : Nat} {p : TP} (hp : l[j]? = some p) (hh : p.ho = h) (hlt : ∀ i u, i < j → l[i]? = some u → u.ho ≠ h) : idxP l h = (j : Int) := by
  have hj := (List.getElem?_eq_some_iff.1 hp).1
  have : l.findIdx? (fun p => decide (p.ho = h)) = some j := by
    rw [List.findIdx?_eq_some_iff_getElem]
    refine ⟨hj, ?_, fun i hi => ?_⟩
    · rw [List.getElem?_eq_getElem hj] at hp
      rw [Option.some.inj hp]; exact decide_eq_true hh
    · have := hlt i _ hi (List.getElem?_eq_getElem (by omega))
      simpa using this
  unfold idxP
  rw [this]
theorem idxP_no {l : List TP} {h : List UInt8} (hlt : ∀ (i : Nat) u, l[i]? = some u → u.ho ≠ h) : idxP l h = -1 := by
  have : l.findIdx? (fun p => decide (p.ho = h)) = none := by
    rw [List.findIdx?_eq_none_iff]
    intro u hu
    obtain ⟨i, hi⟩ := List.mem_iff_getElem?.1 hu
    simpa using hlt i u hi
  unfold idxP
  rw [this]
theorem hasP_idx (l : List TP) (h : List UInt8) : hasP l h = decide (0 ≤ idxP l h) := by
  unfold idxP hasP
  cases hf : l.findIdx? (fun p => decide (p.ho = h)) with
  | none =>
    rw [List.findIdx?_eq_none_iff] at hf
    rw [show decide ((0 : Int) ≤ -1) = false from rfl, List.any_eq_false]
    intro p hp
    simpa using hf p hp
  | some i =>
    obtain ⟨hi, h1, _⟩ := List.findIdx?_eq_some_iff_getElem.1 hf
    rw [show decide ((0 : Int) ≤ (i : Int)) = true from decide_eq_true (by omega), List.any_eq_true]
    exact ⟨l[i], List.getElem_mem hi, h1⟩
theorem bstr_toList (l : List UInt8) : (bstr l).toList = l := by
  unfold bstr
  simp
theorem bstr_eq (a b : List UInt8) : ((bstr a).toList == (bstr b).toList) = decide (a = b) := by
  rw [bstr_toList, bstr_toList, Bool.eq_iff_iff]
  simp
theorem hasFn_any (h : List UInt8) (g : Nat) (p : TP) (w : World) (hg : w.cell? ⟨g, 0, none⟩ = some (.string (bstr h))) :
    Calls Tryz.prog 243 #[tpV p, .pointer (some ⟨g, 0, none⟩)] w (RetQ w (.bool (decide (p.ho = h)))) := by
  have hl := World.block_lt_of_cell? w _ hg
  have x0 : Ext w (w.alloc (.cells #[.string (bstr p.ho), .int .i64 p.key, .int .i64 p.rights, .int .i64 p.fr, .int .i64 p.to] 139)) := (Below.refl _ _).alloc (Nat.le_refl _) _
  have HB := Lib.hid (bstr_eq p.ho h)
  unfold tpV
  go_enter Tryz.func243, Tryz.ntmps243
  go_wp2_with fail
  go_ret
  exact ⟨by show Ending.returned (.bool ((bstr p.ho).toList == (bstr h).toList)) = _; rw [HB.out], x0⟩
theorem startFn_any (h : List UInt8) (g : Nat) (p : TP) (w : World) (hg : w.cell? ⟨g, 0, none⟩ = some (.string (bstr h))) :
    Calls Tryz.prog 103 #[tpV p, .pointer (some ⟨g, 0, none⟩)] w (RetQ w (.bool (decide (p.ho = h)))) := by
  have hl := World.block_lt_of_cell? w _ hg
  have x0 : Ext w (w.alloc (.cells #[.string (bstr p.ho), .int .i64 p.key, .int .i64 p.rights, .int .i64 p.fr, .int .i64 p.to] 139)) := (Below.refl _ _).alloc (Nat.le_refl _) _
  have HB := Lib.hid (bstr_eq p.ho h)
  unfold tpV
  go_enter Tryz.func103, Tryz.ntmps103
  go_wp2_with fail
  go_ret
  exact ⟨by show Ending.returned (.bool ((bstr p.ho).toList == (bstr h).toList)) = _; rw [HB.out], x0⟩
set_option maxHeartbeats 2000000 in
theorem hasIndex_any {v : Value} {l : List TP} (h : List UInt8) (g : Nat) (w : World) (hr : RdT w v l) (hg : w.cell? ⟨g, 0, none⟩ = some (.string (bstr h))) :
    Calls Tryz.prog 102 #[v, .func (.func 243) #[] #[.pointer (some ⟨g, 0, none⟩)]] w (RetQ w (.int .i64 (idxP l h))) := by
  obtain ⟨A, n, c, rfl, hn, hnc, hcm, hel⟩ := hr.at_
  subst hn
  unfold maxLen at hcm
  have hgl := World.block_lt_of_cell? w _ hg
  have HE := Lib.hid hel
  clear hr hel
  obtain ⟨r, hr⟩ : ∃ r, idxP l h = r := ⟨_, rfl⟩
  rw [hr]
  have HR := Lib.hid hr
  clear hr
  have HF := Lib.hid (fun p (W : World) (x : Ext w W) => hasFn_any h g p W ((x.cell (p := ⟨g, 0, none⟩) hgl).trans hg))
  clear hg
  go_enter Tryz.func102, Tryz.ntmps102
  go_wp2
  go_loopw [5, 8] (fun _ i wr => ∃ j : Nat, j ≤ l.length ∧ i = .int .i64 (j : Int) ∧ Ext w wr ∧ Hid (∀ i u, i < j → l[i]? = some u → u.ho ≠ h)) (fun _ i _ => l.length - (intOf i).toNat)
  case atStart => exact ⟨0, Nat.zero_le _, rfl, Below.refl _ _, Lib.hid (fun i u h => by omega)⟩
  case round =>
    obtain ⟨j, hj, rfl, bb, hlt0⟩ := hrel
    by_cases hlt : j < l.length
    · obtain ⟨t, ht⟩ : ∃ t, l[j]? = some t := ⟨_, List.getElem?_eq_getElem hlt⟩
      obtain ⟨b, o, rfl, hbl, hc⟩ := HE.out (by omega)
      obtain ⟨e0, e1, e2, e3, e4⟩ := hc j t ht
      have l0 := (bb.cell (p := ⟨b, o + j * 5, none⟩) hbl).trans e0
      have l1 := (bb.cell (p := ⟨b, o + j * 5 + 1, none⟩) hbl).trans e1
      have l2 := (bb.cell (p := ⟨b, o + j * 5 + 2, none⟩) hbl).trans e2
      have l3 := (bb.cell (p := ⟨b, o + j * 5 + 3, none⟩) hbl).trans e3
      have l4 := (bb.cell (p := ⟨b, o + j * 5 + 4, none⟩) hbl).trans e4
      have HT := Lib.hid ht
      clear e0 e1 e2 e3 e4 ht hc
      have wi1 : IntKind.i64.wrap ((j : Int)) = (j : Int) := IntWalk.i64_in _ (by omega)
      have zi1 : (0 : Int) ≤ (j : Int) := by omega
      have li1 : (j : Int) < (l.length : Int) := by omega
      have ti1 : ((j : Int)).toNat = j := by omega
      go_wp2_with fail
      refine (HF.out t _ bb).mono ?_
      rintro e wy ⟨rfl, by_⟩
      by_cases hq : t.ho = h
      · rw [decide_eq_true hq]
        have HN := Lib.hid (show r = (j : Int) by rw [← HR.out]; exact idxP_at HT.out hq hlt0.out)
        clear hq
        go_wp2_with fail
        go_ret
        exact ⟨by rw [HN.out]; rfl, bb.tr by_⟩
      · rw [decide_eq_false hq]
        have HQ := Lib.hid hq
        clear hq
        go_wp2_with fail
        go_roundw
        case rel => exact ⟨j + 1, by omega, by go_num, bb.tr by_, Lib.hid (fun i u hi hu => by
          by_cases h : i = j
          · subst h
            rw [HT.out] at hu
            rw [← Option.some.inj hu]; exact HQ.out
          · exact hlt0.out i u (by omega) hu)⟩
        case measure => simp [intOf]; omega
    · obtain rfl : j = l.length := by omega
      have HN := Lib.hid (show r = -1 by rw [← HR.out]; exact idxP_no (fun i u hu => hlt0.out i u (List.getElem?_eq_some_iff.1 hu).1 hu))
      go_wp2
      go_ret
      exact ⟨by rw [HN.out]; rfl, bb⟩
set_option maxHeartbeats 2000000 in
theorem startIndex_any {v : Value} {l : List TP} (h : List UInt8) (g : Nat) (w : World) (hr : RdT w v l) (hg : w.cell? ⟨g, 0, none⟩ = some (.string (bstr h))) :
    Calls Tryz.prog 102 #[v, .func (.func 103) #[] #[.pointer (some ⟨g, 0, none⟩)]] w (RetQ w (.int .i64 (idxP l h))) := by
  obtain ⟨A, n, c, rfl, hn, hnc, hcm, hel⟩ := hr.at_
  subst hn
  unfold maxLen at hcm
  have hgl := World.block_lt_of_cell? w _ hg
  have HE := Lib.hid hel
  clear hr hel
  obtain ⟨r, hr⟩ : ∃ r, idxP l h = r := ⟨_, rfl⟩
  rw [hr]
  have HR := Lib.hid hr
  clear hr
  have HF := Lib.hid (fun p (W : World) (x : Ext w W) => startFn_any h g p W ((x.cell (p := ⟨g, 0, none⟩) hgl).trans hg))
  clear hg
  go_enter Tryz.func102, Tryz.ntmps102
  go_wp2
  go_loopw [5, 8] (fun _ i wr => ∃ j : Nat, j ≤ l.length ∧ i = .int .i64 (j : Int) ∧ Ext w wr ∧ Hid (∀ i u, i < j → l[i]? = some u → u.ho ≠ h)) (fun _ i _ => l.length - (intOf i).toNat)
  case atStart => exact ⟨0, Nat.zero_le _, rfl, Below.refl _ _, Lib.hid (fun i u h => by omega)⟩
  case round =>
    obtain ⟨j, hj, rfl, bb, hlt0⟩ := hrel
    by_cases hlt : j < l.length
    · obtain ⟨t, ht⟩ : ∃ t, l[j]? = some t := ⟨_, List.getElem?_eq_getElem hlt⟩
      obtain ⟨b, o, rfl, hbl, hc⟩ := HE.out (by omega)
      obtain ⟨e0, e1, e2, e3, e4⟩ := hc j t ht
      have l0 := (bb.cell (p := ⟨b, o + j * 5, none⟩) hbl).trans e0
      have l1 := (bb.cell (p := ⟨b, o + j * 5 + 1, none⟩) hbl).trans e1
      have l2 := (bb.cell (p := ⟨b, o + j * 5 + 2, none⟩) hbl).trans e2
      have l3 := (bb.cell (p := ⟨b, o + j * 5 + 3, none⟩) hbl).trans e3
      have l4 := (bb.cell (p := ⟨b, o + j * 5 + 4, none⟩) hbl).trans e4
      have HT := Lib.hid ht
      clear e0 e1 e2 e3 e4 ht hc
      have wi2 : IntKind.i64.wrap ((j : Int)) = (j : Int) := IntWalk.i64_in _ (by omega)
      have zi2 : (0 : Int) ≤ (j : Int) := by omega
      have li2 : (j : Int) < (l.length : Int) := by omega
      have ti2 : ((j : Int)).toNat = j := by omega
      go_wp2_with fail
      refine (HF.out t _ bb).mono ?_
      rintro e wy ⟨rfl, by_⟩
      by_cases hq : t.ho = h
      · rw [decide_eq_true hq]
        have HN := Lib.hid (show r = (j : Int) by rw [← HR.out]; exact idxP_at HT.out hq hlt0.out)
        clear hq
        go_wp2_with fail
        go_ret
        exact ⟨by rw [HN.out]; rfl, bb.tr by_⟩
      · rw [decide_eq_false hq]
        have HQ := Lib.hid hq
        clear hq
        go_wp2_with fail
        go_roundw
        case rel => exact ⟨j + 1, by omega, by go_num, bb.tr by_, Lib.hid (fun i u hi hu => by
          by_cases h : i = j
          · subst h
            rw [HT.out] at hu
            rw [← Option.some.inj hu]; exact HQ.out
          · exact hlt0.out i u (by omega) hu)⟩
        case measure => simp [intOf]; omega
    · obtain rfl : j = l.length := by omega
      have HN := Lib.hid (show r = -1 by rw [← HR.out]; exact idxP_no (fun i u hu => hlt0.out i u (List.getElem?_eq_some_iff.1 hu).1 hu))
      go_wp2
      go_ret
      exact ⟨by rw [HN.out]; rfl, bb⟩
theorem hasContains_any {v : Value} {l : List TP} (h : List UInt8) (g : Nat) (w : World) (hr : RdT w v l) (hg : w.cell? ⟨g, 0, none⟩ = some (.string (bstr h))) :
    Calls Tryz.prog 242 #[v, .func (.func 243) #[] #[.pointer (some ⟨g, 0, none⟩)]] w (RetQ w (.bool (hasP l h))) := by
  have HP := Lib.hid (hasP_idx l h)
  have HI := Lib.hid (hasIndex_any h g w hr hg)
  obtain ⟨A, n, c, rfl, _⟩ := hr
  generalize idxP l h = r at *
  generalize hasP l h = q at *
  clear hg
  go_enter Tryz.func242, Tryz.ntmps242
  go_wp2_with fail
  refine HI.out.mono ?_
  rintro e wy ⟨rfl, by_⟩
  go_wp2_with fail
  go_ret
  exact ⟨by rw [HP.out]; simp, by_⟩
theorem has_any {v : Value} {l : List TP} (h : List UInt8) (w : World) (hr : RdT w v l) :
    Calls Tryz.prog 182 #[v, .string (bstr h)] w (RetQ w (.bool (hasP l h))) := by
  obtain ⟨wz, hwz⟩ : ∃ wz, wz = w.alloc (.cells #[.string (bstr h)] 9) := ⟨_, rfl⟩
  have x0 : Ext w wz := by rw [hwz]; exact (Below.refl _ _).alloc (Nat.le_refl _) _
  have hg : wz.cell? ⟨w.heap.size, 0, none⟩ = some (.string (bstr h)) := by rw [hwz]; go_simp
  have HC := Lib.hid (hasContains_any h w.heap.size wz (hr.ext x0) hg)
  obtain ⟨A, n, c, rfl, _⟩ := hr
  clear hg
  go_enter Tryz.func182, Tryz.ntmps182
  go_wp2_with fail
  rw [← hwz]
  clear hwz
  refine HC.out.mono ?_
  rintro e wy ⟨rfl, by_⟩
  go_wp2_with fail
  go_ret
  exact ⟨rfl, x0.tr by_⟩
/-- A new slice of trust points, which may be appended to. -/
def RetT (w : World) (l : List TP) (e : Ending) (w' : World) : Prop := Ext w w' ∧ ∃ A n c, e = .returned (.slice A n c) ∧ Hid (n = l.length) ∧ OwnK w' w.heap.size 139 5 (.slice A n c) (tpsCells l)
theorem eql_nilT (w : World) (A : Option Addr) (n c : Nat) : (binOp .eql 22 (.slice A n c) (.slice none 0 0)).run Tryz.prog w = .ok (.bool A.isNone) w := Lib.run_eql_slice_nil w _ 139 A n c 0 0 Tryz.underlying22
set_option maxHeartbeats 1000000 in
theorem cloneT_any {v : Value} {l : List TP} (w : World) (hr : RdT w v l) (hl : l.length ≤ 2000000000000) : Calls Tryz.prog 189 #[v] w (RetT w l) := by
  have hr0 := hr
  obtain ⟨A, n, c, rfl, hn, hnc, hcm, hel⟩ := hr.at_
  subst hn
  unfold maxLen at hcm
  cases A with
  | none =>
    have h0 : l = [] := by
      by_cases h : 0 < l.length
      · obtain ⟨b, o, e, _⟩ := hel h; cases e
      · exact List.eq_nil_of_length_eq_zero (by omega)
    subst h0
    clear hel hr hr0
    have hq := fun w => eql_nilT w none 0 c
    go_enter Tryz.func189, Tryz.ntmps189
    go_wp2
    go_ret
    exact ⟨Below.refl _ _, _, _, _, rfl, (show _ = _ from rfl), OwnK.empty _ _ _ _ _⟩
  | some ad =>
    clear hel hr
    have hq := fun w => eql_nilT w (some ad) l.length c
    have e6 : Ext w (w.alloc (.cells #[] 139)) := (Below.refl _ _).alloc (Nat.le_refl _) _
    have HR := Lib.hid (hr0.ext e6)
    have HL := Lib.hid (tpsCells_len l)
    have HW := Lib.hid (OwnK.empty (w.alloc (.cells #[] 139)) w.heap.size 139 5 (some ⟨w.heap.size, 0, none⟩))
    clear hr0
    go_enter Tryz.func189, Tryz.ntmps189
    go_wp2_with (refine wpList_appK (k := 5) (by decide) elemTp (n := 0) (m := l.length) (B := w.heap.size) HW.out rfl HR.out (by rw [HL.out]) (tpsCells_one l) e6 (by omega) (by unfold maxLen; omega) e6.size rfl rfl rfl rfl ?_; intro A2 n2 c2 w2 hn2 o2 b2 _)
    go_ret
    exact ⟨b2, _, _, _, rfl, (show _ = _ by rw [hn2.out, Nat.zero_add]), by simpa using o2⟩
/-- Whether a certificate moves the date. -/
def dtB (b : CH) (c : TC) : Bool := decide (c.role ≠ 4 ∨ b.role = 2)
theorem dates_any (b : CH) (c : TC) (w : World) : Calls Tryz.prog 190 #[chV b, tcV c] w (RetQ w (.bool (dtB b c))) := by
  have x0 : Ext w (w.alloc (.cells #[.string (bstr b.ho), .int .i64 b.key, .int .i64 b.role, .int .i64 b.rights, .int .i64 b.fr, .int .i64 b.to] 28)) := (Below.refl _ _).alloc (Nat.le_refl _) _
  have x1 := x0.alloc (by simp) (.cells #[.string (bstr c.au), .string (bstr c.ho), .int .i64 c.key, .int .i64 c.role, .int .i64 c.rights, .int .i64 c.fr, .int .i64 c.to, .int .i64 c.e, .int .i64 c.s] 35)
  by_cases h1 : c.role = 4
  · by_cases h2 : b.role = 2
    · have HQ := Lib.hid (show dtB b c = true from decide_eq_true (.inr h2))
      have k1 : (c.role != 4) = false := by simp [h1]
      have k2 : (b.role == 2) = true := by simp [h2]
      clear h1 h2
      unfold chV tcV
      go_enter Tryz.func190, Tryz.ntmps190
      go_wp2_with fail
      go_ret
      exact ⟨by rw [HQ.out]; rfl, x1⟩
    · have HQ := Lib.hid (show dtB b c = false from decide_eq_false (fun q => q.elim (fun q => q h1) h2))
      have k1 : (c.role != 4) = false := by simp [h1]
      have k2 : (b.role == 2) = false := by simp [h2]
      clear h1 h2
      unfold chV tcV
      go_enter Tryz.func190, Tryz.ntmps190
      go_wp2_with fail
      go_ret
      exact ⟨by rw [HQ.out]; rfl, x1⟩
  · have HQ := Lib.hid (show dtB b c = true from decide_eq_true (.inl h1))
    have k1 : (c.role != 4) = true := by simp [h1]
    clear h1
    unfold chV tcV
    go_enter Tryz.func190, Tryz.ntmps190
    go_wp2_with fail
    go_ret
    exact ⟨by rw [HQ.out]; rfl, x1⟩
end Go.Proofs.YtkjplpmogfmhkaaGreatDoor
