import Derived.Test.YtdjinmieogpgcaaGreatMWide4
/- Wide numbers: WideAdd. -/
namespace Go.Proofs.YtdjinmieogpgcaaGreat
open Go.RowKit
set_option linter.unusedVariables false
theorem below_more (B : Nat) (w : World) (m : Nat) : Below B (w.drewN m) (w.drewN (m + 1)) := by rw [← World.drewN_drewN]; exact (Below.refl _ _).drewN 1
theorem addDigits_new (l1 l2 : List Int) (a1 a2 : Option Addr) (n1 c1 n2 c2 : Nat) (w : World) (h1 : IntsR w a1 n1 l1) (h2 : IntsR w a2 n2 l2) (d1 : DOk l1) (d2 : DOk l2) (hn1 : n1 ≤ 990000) (hn2 : n2 ≤ 990000) :
    Calls Tryz.prog 165 #[.slice a1 n1 c1, .slice a2 n2 c2] w fun e' w' => ∃ a' n' c', e' = .returned (.slice a' n' c') ∧ Below w.heap.size w w' ∧ ∃ l, IntsR w' a' n' l ∧ DOk l ∧ dval l = dval l1 + dval l2 ∧ n' ≤ c' ∧ (∀ b o, 0 < n' → a' = some ⟨b, o, none⟩ → w.heap.size ≤ b) :=
 (addDigits_any l1 l2 a1 a2 n1 c1 n2 c2 w h1 h2 d1 d2 hn1 hn2).mono fun e w' ⟨a5, n5, c5, he, hb, l5, ho, hd, hv, hn⟩ =>
  ⟨a5, n5, c5, he, hb, l5, SlR.of_owns ho, hd, hv, by
   obtain ⟨_, _, h1, h2, _⟩ := owns_slice ho
   simp only [Value.slice.injEq] at h1
   omega, fun b o h0 ha => owns_ge ho h0 ha⟩
theorem subDigits_new (l1 l2 : List Int) (a1 a2 : Option Addr) (n1 c1 n2 c2 : Nat) (w : World) (h1 : IntsR w a1 n1 l1) (h2 : IntsR w a2 n2 l2) (d1 : DOk l1) (d2 : DOk l2) (hn1 : n1 ≤ 1000000) (hle : dval l2 ≤ dval l1) :
    Calls Tryz.prog 167 #[.slice a1 n1 c1, .slice a2 n2 c2] w fun e' w' => ∃ a' n' c', e' = .returned (.slice a' n' c') ∧ Below w.heap.size w w' ∧ ∃ l, IntsR w' a' n' l ∧ DOk l ∧ dval l = dval l1 - dval l2 ∧ n' ≤ c' ∧ (∀ b o, 0 < n' → a' = some ⟨b, o, none⟩ → w.heap.size ≤ b) :=
 (subDigits_any l1 l2 a1 a2 n1 c1 n2 c2 w h1 h2 d1 d2 hn1 hle).mono fun e w' ⟨a5, n5, c5, he, hb, l5, ho, hd, _, hv, hn, hp⟩ => ⟨a5, n5, c5, he, hb, l5, ho, hd, hv, hn, hp⟩
theorem natAbs_same {x y : Int} (h : x.sign = y.sign) : (x.natAbs : Int) + y.natAbs = ((x + y).natAbs : Int) := by
 rcases Int.lt_trichotomy x 0 with h1 | h1 | h1
 ·rw [Int.sign_eq_neg_one_of_neg h1] at h
  have := Int.neg_of_sign_eq_neg_one h.symm
  omega
 ·subst h1
  have := Int.sign_eq_zero_iff_zero.1 h.symm
  omega
 ·rw [Int.sign_eq_one_of_pos h1] at h
  have := Int.pos_of_sign_eq_one h.symm
  omega
theorem natAbs_diff {x y : Int} (h : ¬ x.sign = y.sign) (h1 : ¬ x = 0) (h2 : ¬ y = 0) (h3 : (y.natAbs : Int) < x.natAbs) : (x.natAbs : Int) - y.natAbs = ((x + y).natAbs : Int) := by
 by_cases hx : x < 0
 ·by_cases hy : y < 0
  ·exact absurd (by rw [Int.sign_eq_neg_one_of_neg hx, Int.sign_eq_neg_one_of_neg hy]) h
  ·omega
 ·by_cases hy : y < 0
  ·omega
  ·exact absurd (by rw [Int.sign_eq_one_of_pos (by omega), Int.sign_eq_one_of_pos (by omega)]) h
theorem sign_diff {x y : Int} (h : ¬ x.sign = y.sign) (h1 : ¬ x = 0) (h2 : ¬ y = 0) (h3 : (y.natAbs : Int) < x.natAbs) : x.sign = (x + y).sign := by
 by_cases hx : x < 0
 ·rw [Int.sign_eq_neg_one_of_neg hx, Int.sign_eq_neg_one_of_neg (by omega)]
 ·rw [Int.sign_eq_one_of_pos (by omega), Int.sign_eq_one_of_pos (by omega)]
theorem sign_same {x y : Int} (h : x.sign = y.sign) (h0 : x ≠ 0) : x.sign = (x + y).sign := by
 rcases Int.lt_trichotomy x 0 with h1 | h1 | h1
 ·rw [Int.sign_eq_neg_one_of_neg h1] at h ⊢
  have := Int.neg_of_sign_eq_neg_one h.symm
  rw [Int.sign_eq_neg_one_of_neg (by omega)]
 ·exact absurd h1 h0
 ·rw [Int.sign_eq_one_of_pos h1] at h ⊢
  have := Int.pos_of_sign_eq_one h.symm
  rw [Int.sign_eq_one_of_pos (by omega)]
set_option maxRecDepth 100000 in
theorem wideAdd_any (p : Nat → Prop) (va vb : Value) (x y : Int) (K : Nat) (w : World) (h : WideR p w va x) (h' : WideR p w vb y) (hp : ∀ b, p b → b < w.heap.size) (hx : (x.natAbs : Int) < pw K) (hy : (y.natAbs : Int) < pw K) (hK : K ≤ 990000) :
    Calls Tryz.prog 144 #[va, vb] w fun e' w' => ∃ v', e' = .returned v' ∧ Below w.heap.size w w' ∧ WideR (fun b => p b ∨ w.heap.size ≤ b) w' v' (x + y) := by
 have HP := Lib.hid hp
 have HA := Lib.hid h
 have HB := Lib.hid h'
 clear hp
 obtain ⟨a1, n1, c1, l1, rfl, h2, h3, h4, h5, h6, h7⟩ := h
 obtain ⟨a2, n2, c2, l2, rfl, k2, k3, k4, k5, k6, k7⟩ := h'
 have hs1 := sign_bd x
 have hs2 := sign_bd y
 have hn1 : n1 ≤ 990000 := by have := h4.len h3 (K := K) (by rw [h5]; exact hx); rw [h2.len] at this; omega
 have hn2 : n2 ≤ 990000 := by have := k4.len k3 (K := K) (by rw [k5]; exact hy); rw [k2.len] at this; omega
 by_cases hx0 : x = 0
 ·have HW := Lib.hid (fun w' (hb : Below w.heap.size w w') => (HB.out.below hb).mono (q := fun b => p b ∨ w.heap.size ≤ b) (fun b h => .inl h))
  subst hx0
  rw [Int.zero_add]
  clear HA HB h2 h3 h4 h5 h6 h7 k2 k3 k4 k5 k6 k7 hx hy
  generalize y.sign = s2 at *
  rw [show (0 : Int).sign = 0 from rfl]
  go_enter Tryz.func144, Tryz.ntmps144
  go_wp2
  refine bodyPost_ret (v := .agg #[.int .i64 s2, .slice a2 n2 c2]) (by simp [results, Tryz.results144, go_sem]) rfl ⟨_, rfl, by (first|exact bwg|go_size), HW.out _ (by (first|exact bwg|go_size))⟩
 ·by_cases hy0 : y = 0
  ·have HW := Lib.hid (fun w' (hb : Below w.heap.size w w') => (HA.out.below hb).mono (q := fun b => p b ∨ w.heap.size ≤ b) (fun b h => .inl h))
   subst hy0
   rw [Int.add_zero]
   have hx1 : (x.sign == 0) = false := by simp [Int.sign_eq_zero_iff_zero, hx0]
   clear HA HB h2 h3 h4 h5 h6 h7 k2 k3 k4 k5 k6 k7 hx hy hx0
   generalize x.sign = s1 at *
   rw [show (0 : Int).sign = 0 from rfl]
   go_enter Tryz.func144, Tryz.ntmps144
   go_wp2
   refine bodyPost_ret (v := .agg #[.int .i64 s1, .slice a1 n1 c1]) (by simp [results, Tryz.results144, go_sem]) rfl ⟨_, rfl, by (first|exact bwg|go_size), HW.out _ (by (first|exact bwg|go_size))⟩
  ·have hx1 : (x.sign == 0) = false := by simp [Int.sign_eq_zero_iff_zero, hx0]
   have hy1 : (y.sign == 0) = false := by simp [Int.sign_eq_zero_iff_zero, hy0]
   by_cases hss : x.sign = y.sign
   ·have HADD := Lib.hid (fun w' (hb : Below w.heap.size w w') => addDigits_new l1 l2 a1 a2 n1 c1 n2 c2 w' (h2.below hb) (k2.below hb) h3 k3 hn1 hn2)
    have HWO := Lib.hid (fun (w' : World) (l : List Int) (a : Option Addr) (n c : Nat) (hl : IntsR w' a n l) (hd : DOk l) (hc : n ≤ c) (hv : dval l = dval l1 + dval l2) (hp : ∀ b o, 0 < n → a = some ⟨b, o, none⟩ → w.heap.size + 3 ≤ b) =>
     wideOf_any (fun b => w.heap.size + 3 ≤ b) l a n c x.sign (x + y) w' hl hd hc (by rw [hv, h5, k5]; exact natAbs_same hss) (fun _ => sign_same hss hx0) hp)
    have hxx : (x.sign == y.sign) = true := by simp [hss]
    rw [← hss] at hxx ⊢
    rw [← hss] at hs2
    clear HA HB h2 h3 h4 h5 h6 h7 k2 k3 k4 k5 k6 k7 hx hy hx0 hy0 hy1 hss
    generalize x.sign = s at *
    go_enter Tryz.func144, Tryz.ntmps144
    go_wp2_with fail
    refine wp_region_laterB (B := w.heap.size + 2) [0, 1, 2, 3, 4, 5] [6, 7, 8] (by kernel_rfl) (by kernel_rfl) ?_; simp only [List.filterMap_cons, List.filterMap_nil, List.getElem?_cons_zero, List.getElem?_cons_succ]; repeat (show wpQuiet _ _ _ _ (_ :: _) _; go_big_quiet_step (fail))
    refine wpQuiet_nil ?_
    refine wpTail_cons ?_
    go_wp2_with fail
    refine (HADD.out _ (by (first|exact bwg|go_size))).mono ?_
    rintro e5 w5 ⟨a5, n5, c5, rfl, hb5, l5, hi5, hd5, hv5, hc5, hp5⟩
    have hz5 := hb5.size
    simp at hz5
    have d2 : w5.cell? ⟨w.heap.size + 1 + 1, 0, none⟩ = some (.int .i64 0) := bwc hb5; have d3 : w5.cell? ⟨w.heap.size + 1 + 1, 1, none⟩ = some (.slice none 0 0) := bwc hb5; have f2 : w5.frozen? ⟨w.heap.size + 1 + 1, 0, none⟩ = false := bwf hb5; have f3 : w5.frozen? ⟨w.heap.size + 1 + 1, 1, none⟩ = false := bwf hb5
    have HB5 := Lib.hid (Below.trans ((Below.refl (w.heap.size + 2) _).drew) (hb5.mono (show w.heap.size + 2 ≤ _ by simp)))
    have HBW := Lib.hid (Below.trans (show Below w.heap.size w _ by (first|exact bwg|go_size)) (hb5.mono (by simp; omega)))
    have HW5 := Lib.hid (HWO.out w5 l5 a5 n5 c5 hi5 hd5 hc5 hv5 (fun b o h0 ha => by have := hp5 b o h0 ha; simpa using this))
    clear hb5 hi5 hd5 hv5 hp5 HADD HWO
    go_wp2_with fail
    refine tailL_mk HB5.out ?_
    refine wpTail_cons ?_
    go_wp2_with fail
    refine HW5.out.mono ?_
    rintro e6 w6 ⟨v6, rfl, hb6, hW6⟩
    obtain ⟨a6, n6, c6, l6, rfl, hR⟩ := hW6
    have HR := Lib.hid hR
    have hz6 := hb6.size
    have g2 : w6.cell? ⟨w.heap.size + 1 + 1, 0, none⟩ = some (.int .i64 0) := bwc hb6; have g3 : w6.cell? ⟨w.heap.size + 1 + 1, 1, none⟩ = some (.slice none 0 0) := bwc hb6; have h2 : w6.frozen? ⟨w.heap.size + 1 + 1, 0, none⟩ = false := bwf hb6; have h3 : w6.frozen? ⟨w.heap.size + 1 + 1, 1, none⟩ = false := bwf hb6
    have HB6 := Lib.hid (HB5.out.trans (hb6.mono (by omega)))
    have HBX := Lib.hid (HBW.out.trans (hb6.mono (by omega)))
    clear hb6 hR HW5
    obtain ⟨sg, hsg⟩ : ∃ sg, sg = (x + y).sign := ⟨_, rfl⟩
    have HSG := Lib.hid hsg
    rw [← hsg]
    clear hsg
    go_wp2_with fail
    refine tailL_mk HB6.out ?_
    refine wpTail_cons ?_
    go_wp2_with fail
    refine tailL_mk ((HB6.out.setCell (Nat.le_refl _) _).setCell (Nat.le_refl _) _) ?_
    refine wpTail_nil ?_
    go_wp2_with fail
    refine bodyPost_ret (v := .agg #[.int .i64 sg, .slice a6 n6 c6]) (by simp [results, Tryz.results144, go_sem, *]) rfl ⟨_, rfl, ((HBX.out.setCell (by simp; omega) _).setCell (by simp; omega) _), ?_⟩
    exact WideR.mono (p := fun b => w.heap.size + 3 ≤ b) (WideR.kept (w := w6) ⟨a6, n6, c6, l6, by rw [HSG.out], HR.out⟩ (by simp) (fun b hb => by rw [Go.Deep.blk_setCell_other _ _ _ _ (by simp; omega), Go.Deep.blk_setCell_other _ _ _ _ (by simp; omega)])) (fun b hb => .inr (by omega))
   ·have HC := Lib.hid (fun w' (hb : Below w.heap.size w w') => cmpDigits_any l1 l2 a1 a2 n1 c1 n2 c2 w' (h2.below hb) (k2.below hb) h3 k3 h4 k4)
    have hxx : (x.sign == y.sign) = false := by simp [hss]
    rcases Int.lt_trichotomy (dval l1) (dval l2) with hlt | heq | hgt
    ·have hcs : (dval l1 - dval l2).sign = -1 := sign_sub_neg hlt
     rw [hcs] at HC
     have HADD := Lib.hid (fun w' (hb : Below w.heap.size w w') => subDigits_new l2 l1 a2 a1 n2 c2 n1 c1 w' (k2.below hb) (h2.below hb) k3 h3 (by omega) (by omega))
     have HWO := Lib.hid (fun (w' : World) (l : List Int) (a : Option Addr) (n c : Nat) (hl : IntsR w' a n l) (hd : DOk l) (hc : n ≤ c) (hv : dval l = dval l2 - dval l1) (hp : ∀ b o, 0 < n → a = some ⟨b, o, none⟩ → w.heap.size + 3 ≤ b) =>
      wideOf_any (fun b => w.heap.size + 3 ≤ b) l a n c y.sign (x + y) w' hl hd hc (by rw [hv, h5, k5]; exact (by rw [Int.add_comm]; exact natAbs_diff (fun h => hss h.symm) hy0 hx0 (by omega))) (fun _ => (by rw [Int.add_comm]; exact sign_diff (fun h => hss h.symm) hy0 hx0 (by omega))) hp)
     clear HA HB h2 h3 h4 h5 h6 h7 k2 k3 k4 k5 k6 k7 hx hy hx0 hy0 hss hlt hcs
     generalize x.sign = s at *
     generalize y.sign = t at *
     go_enter Tryz.func144, Tryz.ntmps144
     go_wp2_with fail
     refine (HC.out _ (by (first|exact bwg|go_size))).mono ?_
     rintro e4 w4 ⟨rfl, m4, rfl⟩
     go_wp2_with fail
     refine wp_region_laterB (B := w.heap.size + 2) [0, 1, 2, 3, 4, 5] [6, 7, 8] (by kernel_rfl) (by kernel_rfl) ?_; simp only [List.filterMap_cons, List.filterMap_nil, List.getElem?_cons_zero, List.getElem?_cons_succ]; repeat (show wpQuiet _ _ _ _ (_ :: _) _; go_big_quiet_step (fail))
     refine wpQuiet_nil ?_
     refine wpTail_cons ?_
     go_wp2_with fail
     refine (HADD.out _ (by (first|exact bwg|go_size))).mono ?_
     rintro e5 w5 ⟨a5, n5, c5, rfl, hb5, l5, hi5, hd5, hv5, hc5, hp5⟩
     have hz5 := hb5.size
     simp at hz5
     have d2 : w5.cell? ⟨w.heap.size + 1 + 1, 0, none⟩ = some (.int .i64 0) := bwc hb5; have d3 : w5.cell? ⟨w.heap.size + 1 + 1, 1, none⟩ = some (.slice none 0 0) := bwc hb5; have f2 : w5.frozen? ⟨w.heap.size + 1 + 1, 0, none⟩ = false := bwf hb5; have f3 : w5.frozen? ⟨w.heap.size + 1 + 1, 1, none⟩ = false := bwf hb5
     have HB5 := Lib.hid (Below.trans (below_more (w.heap.size + 2) _ m4) (hb5.mono (show w.heap.size + 2 ≤ _ by simp)))
     have HBW := Lib.hid (Below.trans (show Below w.heap.size w _ by (first|exact bwg|go_size)) (hb5.mono (by simp; omega)))
     have HW5 := Lib.hid (HWO.out w5 l5 a5 n5 c5 hi5 hd5 hc5 hv5 (fun b o h0 ha => by have := hp5 b o h0 ha; simpa using this))
     clear hb5 hi5 hd5 hv5 hp5 HADD HWO
     go_wp2_with fail
     refine tailL_mk HB5.out ?_
     refine wpTail_cons ?_
     go_wp2_with fail
     refine HW5.out.mono ?_
     rintro e6 w6 ⟨v6, rfl, hb6, hW6⟩
     obtain ⟨a6, n6, c6, l6, rfl, hR⟩ := hW6
     have HR := Lib.hid hR
     have hz6 := hb6.size
     have g2 : w6.cell? ⟨w.heap.size + 1 + 1, 0, none⟩ = some (.int .i64 0) := bwc hb6; have g3 : w6.cell? ⟨w.heap.size + 1 + 1, 1, none⟩ = some (.slice none 0 0) := bwc hb6; have h2 : w6.frozen? ⟨w.heap.size + 1 + 1, 0, none⟩ = false := bwf hb6; have h3 : w6.frozen? ⟨w.heap.size + 1 + 1, 1, none⟩ = false := bwf hb6
     have HB6 := Lib.hid (HB5.out.trans (hb6.mono (by omega)))
     have HBX := Lib.hid (HBW.out.trans (hb6.mono (by omega)))
     clear hb6 hR HW5
     obtain ⟨sg, hsg⟩ : ∃ sg, sg = (x + y).sign := ⟨_, rfl⟩
     have HSG := Lib.hid hsg
     rw [← hsg]
     clear hsg
     go_wp2_with fail
     refine tailL_mk HB6.out ?_
     refine wpTail_cons ?_
     go_wp2_with fail
     refine tailL_mk ((HB6.out.setCell (Nat.le_refl _) _).setCell (Nat.le_refl _) _) ?_
     refine wpTail_nil ?_
     go_wp2_with fail
     refine bodyPost_ret (v := .agg #[.int .i64 sg, .slice a6 n6 c6]) (by simp [results, Tryz.results144, go_sem, *]) rfl ⟨_, rfl, ((HBX.out.setCell (by simp; omega) _).setCell (by simp; omega) _), ?_⟩
     exact WideR.mono (p := fun b => w.heap.size + 3 ≤ b) (WideR.kept (w := w6) ⟨a6, n6, c6, l6, by rw [HSG.out], HR.out⟩ (by simp) (fun b hb => by rw [Go.Deep.blk_setCell_other _ _ _ _ (by simp; omega), Go.Deep.blk_setCell_other _ _ _ _ (by simp; omega)])) (fun b hb => .inr (by omega))
    ·have hcs : (dval l1 - dval l2).sign = 0 := sign_sub_zero heq
     rw [hcs] at HC
     have HZ := Lib.hid (show x + y = 0 by
      by_cases hx2 : x < 0
      ·by_cases hy2 : y < 0
       ·exact absurd (by rw [Int.sign_eq_neg_one_of_neg hx2, Int.sign_eq_neg_one_of_neg hy2]) hss
       ·omega
      ·by_cases hy2 : y < 0
       ·omega
       ·exact absurd (by rw [Int.sign_eq_one_of_pos (by omega), Int.sign_eq_one_of_pos (by omega)]) hss)
     clear HA HB h2 h3 h4 h5 h6 h7 k2 k3 k4 k5 k6 k7 hx hy hx0 hy0 hss heq hcs
     generalize x.sign = s at *
     generalize y.sign = t at *
     go_enter Tryz.func144, Tryz.ntmps144
     go_wp2_with fail
     refine (HC.out _ (by (first|exact bwg|go_size))).mono ?_
     rintro e4 w4 ⟨rfl, m4, rfl⟩
     go_wp2
     refine bodyPost_ret (v := .agg #[.int .i64 0, .slice none 0 0]) (by simp [results, Tryz.results144, go_sem]) rfl ⟨_, rfl, by (first|exact bwg|go_size), ?_⟩
     exact ⟨none, 0, 0, [], by rw [HZ.out]; rfl, IntsR.nil _ _, DOk.nil, Top.nil, by rw [HZ.out]; rfl, Nat.le_refl _, fun _ _ h0 => absurd h0 (by omega)⟩
    ·have hcs : (dval l1 - dval l2).sign = 1 := sign_sub_pos hgt
     rw [hcs] at HC
     have HADD := Lib.hid (fun w' (hb : Below w.heap.size w w') => subDigits_new l1 l2 a1 a2 n1 c1 n2 c2 w' (h2.below hb) (k2.below hb) h3 k3 (by omega) (by omega))
     have HWO := Lib.hid (fun (w' : World) (l : List Int) (a : Option Addr) (n c : Nat) (hl : IntsR w' a n l) (hd : DOk l) (hc : n ≤ c) (hv : dval l = dval l1 - dval l2) (hp : ∀ b o, 0 < n → a = some ⟨b, o, none⟩ → w.heap.size + 3 ≤ b) =>
      wideOf_any (fun b => w.heap.size + 3 ≤ b) l a n c x.sign (x + y) w' hl hd hc (by rw [hv, h5, k5]; exact natAbs_diff hss hx0 hy0 (by omega)) (fun _ => sign_diff hss hx0 hy0 (by omega)) hp)
     clear HA HB h2 h3 h4 h5 h6 h7 k2 k3 k4 k5 k6 k7 hx hy hx0 hy0 hss hgt hcs
     generalize x.sign = s at *
     generalize y.sign = t at *
     go_enter Tryz.func144, Tryz.ntmps144
     go_wp2_with fail
     refine (HC.out _ (by (first|exact bwg|go_size))).mono ?_
     rintro e4 w4 ⟨rfl, m4, rfl⟩
     go_wp2_with fail
     refine wp_region_laterB (B := w.heap.size + 2) [0, 1, 2, 3, 4, 5] [6, 7, 8] (by kernel_rfl) (by kernel_rfl) ?_; simp only [List.filterMap_cons, List.filterMap_nil, List.getElem?_cons_zero, List.getElem?_cons_succ]; repeat (show wpQuiet _ _ _ _ (_ :: _) _; go_big_quiet_step (fail))
     refine wpQuiet_nil ?_
     refine wpTail_cons ?_
     go_wp2_with fail
     refine (HADD.out _ (by (first|exact bwg|go_size))).mono ?_
     rintro e5 w5 ⟨a5, n5, c5, rfl, hb5, l5, hi5, hd5, hv5, hc5, hp5⟩
     have hz5 := hb5.size
     simp at hz5
     have d2 : w5.cell? ⟨w.heap.size + 1 + 1, 0, none⟩ = some (.int .i64 0) := bwc hb5; have d3 : w5.cell? ⟨w.heap.size + 1 + 1, 1, none⟩ = some (.slice none 0 0) := bwc hb5; have f2 : w5.frozen? ⟨w.heap.size + 1 + 1, 0, none⟩ = false := bwf hb5; have f3 : w5.frozen? ⟨w.heap.size + 1 + 1, 1, none⟩ = false := bwf hb5
     have HB5 := Lib.hid (Below.trans (below_more (w.heap.size + 2) _ m4) (hb5.mono (show w.heap.size + 2 ≤ _ by simp)))
     have HBW := Lib.hid (Below.trans (show Below w.heap.size w _ by (first|exact bwg|go_size)) (hb5.mono (by simp; omega)))
     have HW5 := Lib.hid (HWO.out w5 l5 a5 n5 c5 hi5 hd5 hc5 hv5 (fun b o h0 ha => by have := hp5 b o h0 ha; simpa using this))
     clear hb5 hi5 hd5 hv5 hp5 HADD HWO
     go_wp2_with fail
     refine tailL_mk HB5.out ?_
     refine wpTail_cons ?_
     go_wp2_with fail
     refine HW5.out.mono ?_
     rintro e6 w6 ⟨v6, rfl, hb6, hW6⟩
     obtain ⟨a6, n6, c6, l6, rfl, hR⟩ := hW6
     have HR := Lib.hid hR
     have hz6 := hb6.size
     have g2 : w6.cell? ⟨w.heap.size + 1 + 1, 0, none⟩ = some (.int .i64 0) := bwc hb6; have g3 : w6.cell? ⟨w.heap.size + 1 + 1, 1, none⟩ = some (.slice none 0 0) := bwc hb6; have h2 : w6.frozen? ⟨w.heap.size + 1 + 1, 0, none⟩ = false := bwf hb6; have h3 : w6.frozen? ⟨w.heap.size + 1 + 1, 1, none⟩ = false := bwf hb6
     have HB6 := Lib.hid (HB5.out.trans (hb6.mono (by omega)))
     have HBX := Lib.hid (HBW.out.trans (hb6.mono (by omega)))
     clear hb6 hR HW5
     obtain ⟨sg, hsg⟩ : ∃ sg, sg = (x + y).sign := ⟨_, rfl⟩
     have HSG := Lib.hid hsg
     rw [← hsg]
     clear hsg
     go_wp2_with fail
     refine tailL_mk HB6.out ?_
     refine wpTail_cons ?_
     go_wp2_with fail
     refine tailL_mk ((HB6.out.setCell (Nat.le_refl _) _).setCell (Nat.le_refl _) _) ?_
     refine wpTail_nil ?_
     go_wp2_with fail
     refine bodyPost_ret (v := .agg #[.int .i64 sg, .slice a6 n6 c6]) (by simp [results, Tryz.results144, go_sem, *]) rfl ⟨_, rfl, ((HBX.out.setCell (by simp; omega) _).setCell (by simp; omega) _), ?_⟩
     exact WideR.mono (p := fun b => w.heap.size + 3 ≤ b) (WideR.kept (w := w6) ⟨a6, n6, c6, l6, by rw [HSG.out], HR.out⟩ (by simp) (fun b hb => by rw [Go.Deep.blk_setCell_other _ _ _ _ (by simp; omega), Go.Deep.blk_setCell_other _ _ _ _ (by simp; omega)])) (fun b hb => .inr (by omega))
/- Wide numbers: WideSub. -/
set_option maxRecDepth 100000 in
theorem wideSub_any (p : Nat → Prop) (va vb : Value) (x y : Int) (K : Nat) (w : World) (h : WideR p w va x) (h' : WideR p w vb y) (hp : ∀ b, p b → b < w.heap.size) (hx : (x.natAbs : Int) < pw K) (hy : (y.natAbs : Int) < pw K) (hK : K ≤ 990000) :
    Calls Tryz.prog 173 #[va, vb] w fun e' w' => ∃ v', e' = .returned v' ∧ Below w.heap.size w w' ∧ WideR (fun b => p b ∨ w.heap.size ≤ b) w' v' (x - y) := by
 have HP := Lib.hid hp
 have HA := Lib.hid h
 have HN := Lib.hid (fun w' (hb : Below w.heap.size w w') => wideNeg_any p vb y w' (h'.below hb))
 have HADD := Lib.hid (fun (w' : World) (v' : Value) (hb : Below w.heap.size w w') (hv : WideR p w' v' (-y)) => wideAdd_any p va v' x (-y) K w' (h.below hb) hv (fun b h => Nat.lt_of_lt_of_le (hp b h) hb.size) hx (by rw [Int.natAbs_neg]; exact hy) hK)
 clear hp hx hy hK
 obtain ⟨a1, n1, c1, l1, rfl, h2, h3, h4, h5, h6, h7⟩ := h
 obtain ⟨a2, n2, c2, l2, rfl, k2, k3, k4, k5, k6, k7⟩ := h'
 clear h2 h3 h4 h5 h6 h7 k2 k3 k4 k5 k6 k7 HA
 generalize x.sign = s at *
 generalize y.sign = t at *
 go_enter Tryz.func173, Tryz.ntmps173
 go_wp2_with fail
 refine wp_region_laterB (B := w.heap.size + 2) [0, 1] [2, 3, 4] (by kernel_rfl) (by kernel_rfl) ?_; simp only [List.filterMap_cons, List.filterMap_nil, List.getElem?_cons_zero, List.getElem?_cons_succ]; repeat (show wpQuiet _ _ _ _ (_ :: _) _; go_big_quiet_step (fail))
 refine wpQuiet_nil ?_
 refine wpTail_cons ?_
 go_wp2_with fail
 refine (HN.out _ (by (first|exact bwg|go_size))).mono ?_
 rintro e5 w5 ⟨v5, rfl, hb5, hv5⟩
 have hz5 := hb5.size
 simp at hz5
 have d2 : w5.cell? ⟨w.heap.size + 1 + 1, 0, none⟩ = some (.int .i64 0) := bwc hb5; have d3 : w5.cell? ⟨w.heap.size + 1 + 1, 1, none⟩ = some (.slice none 0 0) := bwc hb5; have f2 : w5.frozen? ⟨w.heap.size + 1 + 1, 0, none⟩ = false := bwf hb5; have f3 : w5.frozen? ⟨w.heap.size + 1 + 1, 1, none⟩ = false := bwf hb5
 have HB5 := Lib.hid (Below.trans ((Below.refl (w.heap.size + 2) _).drew) (hb5.mono (show w.heap.size + 2 ≤ _ by simp)))
 have HBW := Lib.hid (Below.trans (show Below w.heap.size w _ by (first|exact bwg|go_size)) (hb5.mono (by simp; omega)))
 have HW5 := Lib.hid (HADD.out w5 v5 HBW.out hv5)
 clear hb5 hv5 HADD HN
 go_wp2_with fail
 refine tailL_mk HB5.out ?_
 refine wpTail_cons ?_
 go_wp2_with fail
 refine HW5.out.mono ?_
 rintro e6 w6 ⟨v6, rfl, hb6, hW6⟩
 have hpp : ∀ b, (p b ∨ w5.heap.size ≤ b) → b < w.heap.size ∨ w.heap.size + 3 ≤ b := fun b h => by
  rcases h with h | h
  ·exact .inl (HP.out b h)
  ·exact .inr (by omega)
 have HPP := Lib.hid hpp
 have HMO := Lib.hid (show ∀ b, (p b ∨ w5.heap.size ≤ b) → (p b ∨ w.heap.size ≤ b) from fun b h => h.imp id (fun h => by omega))
 clear hpp
 obtain ⟨a6, n6, c6, l6, rfl, hR⟩ := hW6
 have HR := Lib.hid hR
 have hz6 := hb6.size
 have g2 : w6.cell? ⟨w.heap.size + 1 + 1, 0, none⟩ = some (.int .i64 0) := bwc hb6; have g3 : w6.cell? ⟨w.heap.size + 1 + 1, 1, none⟩ = some (.slice none 0 0) := bwc hb6; have h2 : w6.frozen? ⟨w.heap.size + 1 + 1, 0, none⟩ = false := bwf hb6; have h3 : w6.frozen? ⟨w.heap.size + 1 + 1, 1, none⟩ = false := bwf hb6
 have HB6 := Lib.hid (HB5.out.trans (hb6.mono (by omega)))
 have HBX := Lib.hid (HBW.out.trans (hb6.mono (by omega)))
 clear hb6 hR HW5
 obtain ⟨sg, hsg⟩ : ∃ sg, sg = (x + -y).sign := ⟨_, rfl⟩
 have HSG := Lib.hid hsg
 rw [← hsg]
 clear hsg
 go_wp2_with fail
 refine tailL_mk HB6.out ?_
 refine wpTail_cons ?_
 go_wp2_with fail
 refine tailL_mk ((HB6.out.setCell (Nat.le_refl _) _).setCell (Nat.le_refl _) _) ?_
 refine wpTail_nil ?_
 go_wp2_with fail
 refine bodyPost_ret (v := .agg #[.int .i64 sg, .slice a6 n6 c6]) (by simp [results, Tryz.results173, go_sem, *]) rfl ⟨_, rfl, ((HBX.out.setCell (by simp; omega) _).setCell (by simp; omega) _), ?_⟩
 rw [Int.sub_eq_add_neg]
 exact WideR.mono (WideR.kept (w := w6) ⟨a6, n6, c6, l6, by rw [HSG.out], HR.out⟩ (by simp) (fun b hb => by have := HPP.out b hb; rw [Go.Deep.blk_setCell_other _ _ _ _ (by simp; omega), Go.Deep.blk_setCell_other _ _ _ _ (by simp; omega)])) HMO.out
/- Wide numbers: WideCmp. -/
theorem wfield0 (s : Int) (a : Option Addr) (n c : Nat) (w : World) : (Instr.field 172 (.agg #[.int .i64 s, .slice a n c]) 0).run Tryz.prog w = .ok (.int .i64 s) w := by kernel_rfl
theorem wfield1 (s : Int) (a : Option Addr) (n c : Nat) (w : World) : (Instr.field 172 (.agg #[.int .i64 s, .slice a n c]) 1).run Tryz.prog w = .ok (.slice a n c) w := by kernel_rfl
set_option maxRecDepth 100000 in
theorem wideCmp_any (p : Nat → Prop) (va vb : Value) (x y : Int) (K : Nat) (w : World) (h : WideR p w va x) (h' : WideR p w vb y) (hp : ∀ b, p b → b < w.heap.size) (hx : (x.natAbs : Int) < pw K) (hy : (y.natAbs : Int) < pw K) (hK : K ≤ 990000) :
    Calls Tryz.prog 163 #[va, vb] w fun e' w' => e' = .returned (.int .i64 (x - y).sign) ∧ Below w.heap.size w w' := by
 have HS := Lib.hid (fun (w' : World) (hb : Below w.heap.size w w') => wideSub_any p va vb x y K w' (h.below hb) (h'.below hb) (fun b h => Nat.lt_of_lt_of_le (hp b h) hb.size) hx hy hK)
 clear hp hx hy hK
 obtain ⟨a1, n1, c1, l1, rfl, h2, h3, h4, h5, h6, h7⟩ := h
 obtain ⟨a2, n2, c2, l2, rfl, k2, k3, k4, k5, k6, k7⟩ := h'
 clear h2 h3 h4 h5 h6 h7 k2 k3 k4 k5 k6 k7
 generalize x.sign = s at *
 generalize y.sign = t at *
 go_enter Tryz.func163, Tryz.ntmps163
 go_wp2_with fail
 refine (HS.out _ (by (first|exact bwg|go_size))).mono ?_
 rintro e5 w5 ⟨v5, rfl, hb5, hv5⟩
 have HB5 := Lib.hid (Below.trans (show Below w.heap.size w _ by (first|exact bwg|go_size)) (hb5.mono (by simp; omega)))
 obtain ⟨a6, n6, c6, l6, rfl, hR⟩ := hv5
 clear hb5 hR HS
 have hf0 := wfield0 (x - y).sign a6 n6 c6 w5
 go_wp2
 go_ret
 exact ⟨rfl, HB5.out⟩
end Go.Proofs.YtdjinmieogpgcaaGreat
