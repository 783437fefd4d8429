import Derived.Test.YtidboecjllaofaaGreatMJ
/- The error of currents: the program and the reference. -/
namespace Go.Proofs.YtidboecjllaofaaGreat
open Go.RowKit
set_option linter.unusedVariables false
set_option linter.unusedSimpArgs false

theorem natz (n : Nat) : (((n : Nat) : Int) == 0) = decide (n = 0) := by rw [Bool.eq_iff_iff]; simp
theorem curE_int (m : Mac) (s : Nat) : curE m s = firstErr [unl ((s : Int) != 0) 21, unl (((dirS m s 0 : Nat) : Int) == 0 || ((dirS m s 1 : Nat) : Int) == 0) 13, unl (decide (max ((dirS m s 0 : Nat) : Int) ((dirS m s 1 : Nat) : Int) ≤ 1)) 23] := by
  unfold curE
  rw [natz, natz]
  have e1 : ((s : Int) != 0) = decide (s ≠ 0) := by rw [Bool.eq_iff_iff]; simp
  have e2 : decide (max ((dirS m s 0 : Nat) : Int) ((dirS m s 1 : Nat) : Int) ≤ 1) = (decide (dirS m s 0 ≤ 1) && decide (dirS m s 1 ≤ 1)) := by
    rw [Bool.eq_iff_iff, Bool.and_eq_true, decide_eq_true_eq, decide_eq_true_eq, decide_eq_true_eq]; omega
  rw [e1, e2]
set_option maxHeartbeats 2000000 in
set_option maxRecDepth 100000 in
theorem currentsErr_any (m : Mac) (l : Lim) (s : Nat) (ab ag : Option Addr) (nb cb ng cg : Nat) (w : World) (hm : MacV m) (hb : BrR w ab nb m.br) (hs : s < 2 ^ nb) :
    Calls Tryz.prog 136 #[.agg #[.slice ab nb cb, .int .i64 m.st, .slice ag ng cg, .int .i64 l.volt, .int .i64 l.lo, .int .i64 l.hi, .int .i64 l.circ, .int .i64 l.brk, .int .i64 l.ret], .int .i64 (s : Int)] w fun e' w' => e' = .returned (.int .i64 (curE m s)) ∧ Below w.heap.size w w' := by
  have HD := Lib.hid (fun (W : World) (hbw : Below w.heap.size w W) => direct_any m l s ab ag nb cb ng cg W hm (hb.below hbw) hs)
  have HU := Lib.hid (fun (b : Bool) (e : Int) w' => t_unless_any b e w')
  obtain ⟨vo, lo, hi, ci, br, re⟩ := l
  simp only at HD ⊢
  obtain ⟨V, hV⟩ : ∃ V, V = curE m s := ⟨_, rfl⟩
  have hV2 := hV.trans (curE_int m s)
  rw [← hV]
  obtain ⟨st, hst⟩ : ∃ x, x = m.st := ⟨_, rfl⟩
  rw [← hst] at HD ⊢
  generalize dirS m s 0 = N0 at *
  generalize dirS m s 1 = N1 at *
  have HV := Lib.hid hV2
  clear hV hV2 hb hm hs hst
  go_enter Tryz.func136, Tryz.ntmps136
  go_wp2_with fail
  refine (HD.out _ (by (repeat' (first | (with_reducible exact Below.refl _ _) | (with_reducible assumption) | (with_reducible refine Below.drewN ?_ _) | (with_reducible refine Below.alloc ?_ ?_ _) | (with_reducible refine Below.drew ?_) | (with_reducible refine Below.setCell ?_ ?_ _) | (with_reducible refine Below.step (by assumption) ?_ ?_) | (with_reducible exact And.left (by assumption)) | go_size)))).mono ?_
  rintro e5 w5 ⟨rfl, hb5⟩
  have HB5 := Lib.hid (show Below w.heap.size w w5 by (repeat' (first | (with_reducible exact Below.refl _ _) | (with_reducible assumption) | (with_reducible refine Below.drewN ?_ _) | (with_reducible refine Below.alloc ?_ ?_ _) | (with_reducible refine Below.drew ?_) | (with_reducible refine Below.setCell ?_ ?_ _) | (with_reducible refine Below.step (by assumption) ?_ ?_) | (with_reducible exact And.left (by assumption)) | go_size)))
  clear hb5 HD
  obtain ⟨w8, hW⟩ : ∃ w8, w8 = w5.alloc (Obj.cells #[.int .i64 (N0 : Int), .int .i64 (N1 : Int)] 170) := ⟨_, rfl⟩
  have hb8 : Below w5.heap.size w5 w8 := by rw [hW]; (repeat' (first | (with_reducible exact Below.refl _ _) | (with_reducible assumption) | (with_reducible refine Below.drewN ?_ _) | (with_reducible refine Below.alloc ?_ ?_ _) | (with_reducible refine Below.drew ?_) | (with_reducible refine Below.setCell ?_ ?_ _) | (with_reducible refine Below.step (by assumption) ?_ ?_) | (with_reducible exact And.left (by assumption)) | go_size))
  have k8 : w8.heap[w5.heap.size]? = some (.cells #[.int .i64 (N0 : Int), .int .i64 (N1 : Int)] 170) := by rw [hW]; exact heap_alloc_new _ _
  have HB8 := Lib.hid (HB5.out.trans (hb8.mono HB5.out.size))
  clear hb8
  go_wp2_with fail
  rw [← hW]
  obtain ⟨X5, hX5⟩ : ∃ X, X = w5.heap.size := ⟨_, rfl⟩
  rw [← hX5] at k8 ⊢
  have c0 := blk_cell k8 (i := 0) rfl
  have c1 := blk_cell k8 (i := 1) rfl
  have l8 := blk_lt k8
  clear hW hX5 k8 HB5
  by_cases hx : (N0 : Int) < (N1 : Int)
  · have hv := HV.out
    rw [show max (N0 : Int) (N1 : Int) = (N1 : Int) by omega] at hv
    have HV := Lib.hid hv
    clear hv
    cases h0 : ((N0 : Int) == 0)
    · skip
      go_wp2_with fail
      refine later_of_eq 19 (by kernel_rfl) (by kernel_rfl) ?_; simp only [List.take_succ_cons, List.take_zero, List.drop_succ_cons, List.drop_zero]; repeat go_big_quiet_step (with_reducible exact calls_later_same (HU.out _ _ _))
      refine wpQuiet_nil ?_; intro w9 hb9
      have HB9 := Lib.hid (HB8.out.trans (hb9.mono HB8.out.size))
      clear hb9 c0 c1
      go_wp2_with fail
      refine (t_first3 _ _ _ _ _ _ _ (by rfl) (by simp)).mono ?_
      rintro e8 wv ⟨rfl, hwv⟩
      have HBv := Lib.hid (HB9.out.trans ((show Below w9.heap.size w9 wv by rw [← hwv]; (repeat' (first | (with_reducible exact Below.refl _ _) | (with_reducible assumption) | (with_reducible refine Below.drewN ?_ _) | (with_reducible refine Below.alloc ?_ ?_ _) | (with_reducible refine Below.drew ?_) | (with_reducible refine Below.setCell ?_ ?_ _) | (with_reducible refine Below.step (by assumption) ?_ ?_) | (with_reducible exact And.left (by assumption)) | go_size))).mono HB9.out.size))
      clear hwv
      go_wp2
      go_ret
      exact ⟨ret_int (by rw [HV.out]; first | rfl | (rw [h0]; rfl) | simp [h0]), HBv.out⟩
    · skip
      go_wp2_with fail
      refine later_of_eq 19 (by kernel_rfl) (by kernel_rfl) ?_; simp only [List.take_succ_cons, List.take_zero, List.drop_succ_cons, List.drop_zero]; repeat go_big_quiet_step (with_reducible exact calls_later_same (HU.out _ _ _))
      refine wpQuiet_nil ?_; intro w9 hb9
      have HB9 := Lib.hid (HB8.out.trans (hb9.mono HB8.out.size))
      clear hb9 c0 c1
      go_wp2_with fail
      refine (t_first3 _ _ _ _ _ _ _ (by rfl) (by simp)).mono ?_
      rintro e8 wv ⟨rfl, hwv⟩
      have HBv := Lib.hid (HB9.out.trans ((show Below w9.heap.size w9 wv by rw [← hwv]; (repeat' (first | (with_reducible exact Below.refl _ _) | (with_reducible assumption) | (with_reducible refine Below.drewN ?_ _) | (with_reducible refine Below.alloc ?_ ?_ _) | (with_reducible refine Below.drew ?_) | (with_reducible refine Below.setCell ?_ ?_ _) | (with_reducible refine Below.step (by assumption) ?_ ?_) | (with_reducible exact And.left (by assumption)) | go_size))).mono HB9.out.size))
      clear hwv
      go_wp2
      go_ret
      exact ⟨ret_int (by rw [HV.out]; first | rfl | (rw [h0]; rfl) | simp [h0]), HBv.out⟩
  · have hv := HV.out
    rw [show max (N0 : Int) (N1 : Int) = (N0 : Int) by omega] at hv
    have HV := Lib.hid hv
    clear hv
    cases h0 : ((N0 : Int) == 0)
    · skip
      go_wp2_with fail
      refine later_of_eq 19 (by kernel_rfl) (by kernel_rfl) ?_; simp only [List.take_succ_cons, List.take_zero, List.drop_succ_cons, List.drop_zero]; repeat go_big_quiet_step (with_reducible exact calls_later_same (HU.out _ _ _))
      refine wpQuiet_nil ?_; intro w9 hb9
      have HB9 := Lib.hid (HB8.out.trans (hb9.mono HB8.out.size))
      clear hb9 c0 c1
      go_wp2_with fail
      refine (t_first3 _ _ _ _ _ _ _ (by rfl) (by simp)).mono ?_
      rintro e8 wv ⟨rfl, hwv⟩
      have HBv := Lib.hid (HB9.out.trans ((show Below w9.heap.size w9 wv by rw [← hwv]; (repeat' (first | (with_reducible exact Below.refl _ _) | (with_reducible assumption) | (with_reducible refine Below.drewN ?_ _) | (with_reducible refine Below.alloc ?_ ?_ _) | (with_reducible refine Below.drew ?_) | (with_reducible refine Below.setCell ?_ ?_ _) | (with_reducible refine Below.step (by assumption) ?_ ?_) | (with_reducible exact And.left (by assumption)) | go_size))).mono HB9.out.size))
      clear hwv
      go_wp2
      go_ret
      exact ⟨ret_int (by rw [HV.out]; first | rfl | (rw [h0]; rfl) | simp [h0]), HBv.out⟩
    · skip
      go_wp2_with fail
      refine later_of_eq 19 (by kernel_rfl) (by kernel_rfl) ?_; simp only [List.take_succ_cons, List.take_zero, List.drop_succ_cons, List.drop_zero]; repeat go_big_quiet_step (with_reducible exact calls_later_same (HU.out _ _ _))
      refine wpQuiet_nil ?_; intro w9 hb9
      have HB9 := Lib.hid (HB8.out.trans (hb9.mono HB8.out.size))
      clear hb9 c0 c1
      go_wp2_with fail
      refine (t_first3 _ _ _ _ _ _ _ (by rfl) (by simp)).mono ?_
      rintro e8 wv ⟨rfl, hwv⟩
      have HBv := Lib.hid (HB9.out.trans ((show Below w9.heap.size w9 wv by rw [← hwv]; (repeat' (first | (with_reducible exact Below.refl _ _) | (with_reducible assumption) | (with_reducible refine Below.drewN ?_ _) | (with_reducible refine Below.alloc ?_ ?_ _) | (with_reducible refine Below.drew ?_) | (with_reducible refine Below.setCell ?_ ?_ _) | (with_reducible refine Below.step (by assumption) ?_ ?_) | (with_reducible exact And.left (by assumption)) | go_size))).mono HB9.out.size))
      clear hwv
      go_wp2
      go_ret
      exact ⟨ret_int (by rw [HV.out]; first | rfl | (rw [h0]; rfl) | simp [h0]), HBv.out⟩
theorem cloU_six : ∀ n < 7, ∀ s < 2 ^ n, cloU s 6 = cloU s n := by decide +kernel
theorem curE_cases (m : Mac) (s : Nat) : curE m s = if s = 0 then 21 else if 0 < dirS m s 0 ∧ 0 < dirS m s 1 then 13 else if 1 < dirS m s 0 ∨ 1 < dirS m s 1 then 23 else 0 := by
  unfold curE
  generalize dirS m s 0 = a
  generalize dirS m s 1 = b
  by_cases h : s = 0
  · simp [h, unl, firstErr]
  · rw [if_neg h, decide_eq_true (show s ≠ 0 from h)]
    by_cases h1 : 0 < a ∧ 0 < b
    · rw [if_pos h1, decide_eq_false (show ¬ a = 0 by omega), decide_eq_false (show ¬ b = 0 by omega)]; rfl
    · have e : (decide (a = 0) || decide (b = 0)) = true := by
        rw [Bool.or_eq_true, decide_eq_true_eq, decide_eq_true_eq]; omega
      rw [if_neg h1, e]
      by_cases h2 : 1 < a ∨ 1 < b
      · have e2 : (decide (a ≤ 1) && decide (b ≤ 1)) = false := by
          rw [Bool.and_eq_false_iff, decide_eq_false_iff_not, decide_eq_false_iff_not]; omega
        rw [if_pos h2, e2]; rfl
      · have e2 : (decide (a ≤ 1) && decide (b ≤ 1)) = true := by
          rw [Bool.and_eq_true, decide_eq_true_eq, decide_eq_true_eq]; omega
        rw [if_neg h2, e2]; rfl
set_option maxHeartbeats 2000000 in
set_option maxRecDepth 100000 in
theorem rCurrentsErr_any (m : Mac) (s : Nat) (ab ag : Option Addr) (nb cb ng cg : Nat) (w : World) (hm : MacV m) (hb : BrR w ab nb m.br) (hs : s < 2 ^ nb) :
    Calls Tryz.prog 28 #[.agg #[.slice ab nb cb, .int .i64 m.st, .slice ag ng cg], .int .i64 (s : Int)] w fun e' w' => e' = .returned (.int .i64 (curE m s)) ∧ Below w.heap.size w w' := by
  have hn6 : nb ≤ 6 := by rw [← hb.len]; exact hm.n1
  have hs64 : s < 64 := Nat.lt_of_lt_of_le hs (Nat.le_trans (Nat.pow_le_pow_right (by omega) hn6) (by decide))
  have HBV := Lib.hid (fun (i : Nat) (hi : i < nb) => hm.br i (by rw [hb.len]; exact hi))
  have HBR := Lib.hid (fun (W : World) (hbw : Below w.heap.size w W) => hb.below hbw)
  have HIC := Lib.hid (fun (i : Nat) (hi : i < nb) w' => isClosed_any s i w' hs64 (by omega))
  have HCC := Lib.hid (curE_cases m s)
  have H6 := Lib.hid (show ∀ t, dirL m (cloU s nb) t = dirS m s t from fun t => by unfold dirS; rw [cloU_six nb (by omega) s hs])
  obtain ⟨st, hst⟩ : ∃ x, x = m.st := ⟨_, rfl⟩
  rw [← hst]
  clear hb hm hst hs
  obtain ⟨V, hV⟩ : ∃ V, V = curE m s := ⟨_, rfl⟩
  rw [← hV] at HCC ⊢
  clear hV
  go_enter Tryz.func28, Tryz.ntmps28
  go_wp2_with fail
  obtain ⟨w1, hW⟩ : ∃ w1, w1 = w.alloc (Obj.cells #[.slice ab nb cb, .int .i64 st, .slice ag ng cg] 45) := ⟨_, rfl⟩
  have hb1 : Below w.heap.size w w1 := by rw [hW]; (repeat' (first | (with_reducible exact Below.refl _ _) | (with_reducible assumption) | (with_reducible refine Below.drewN ?_ _) | (with_reducible refine Below.alloc ?_ ?_ _) | (with_reducible refine Below.drew ?_) | (with_reducible refine Below.setCell ?_ ?_ _) | (with_reducible refine Below.step (by assumption) ?_ ?_) | (with_reducible exact And.left (by assumption)) | go_size))
  have kM1 : w1.heap[w.heap.size]? = some (.cells #[.slice ab nb cb, .int .i64 st, .slice ag ng cg] 45) := by rw [hW]; exact heap_alloc_new _ _
  have hz1 : w1.heap.size = w.heap.size + 1 := by rw [hW]; simp
  rw [← hW]
  obtain ⟨w2, hW2⟩ : ∃ w2, w2 = w1.alloc (Obj.cells #[.int .i64 0, .int .i64 0] 170) := ⟨_, rfl⟩
  have hb2 : Below w1.heap.size w1 w2 := by rw [hW2]; (repeat' (first | (with_reducible exact Below.refl _ _) | (with_reducible assumption) | (with_reducible refine Below.drewN ?_ _) | (with_reducible refine Below.alloc ?_ ?_ _) | (with_reducible refine Below.drew ?_) | (with_reducible refine Below.setCell ?_ ?_ _) | (with_reducible refine Below.step (by assumption) ?_ ?_) | (with_reducible exact And.left (by assumption)) | go_size))
  have k5 : w2.heap[w1.heap.size]? = some (.cells #[.int .i64 0, .int .i64 0] 170) := by rw [hW2]; exact heap_alloc_new _ _
  rw [← hW2]
  rw [← hz1]
  obtain ⟨X5, hX5⟩ : ∃ X, X = w1.heap.size := ⟨_, rfl⟩
  rw [← hX5] at k5 ⊢
  have kM := blk_below kM1 hb2
  have HB1 := Lib.hid (hb1.trans (hb2.mono hb1.size))
  have hx5 : w.heap.size < X5 := by rw [hX5]; omega
  clear hW hW2 hb1 hb2 hz1 hX5 kM1
  go_loopw [6] (fun x wr => ∃ i : Nat, x = .int .i64 (i : Int) ∧ i ≤ nb ∧ Hid (wr.heap[X5]? = some (.cells #[.int .i64 (dirL m (cloU s i) 0 : Nat), .int .i64 (dirL m (cloU s i) 1 : Nat)] 170)) ∧ Hid (Below X5 w2 wr)) (fun x _ => nb - (intOf x).toNat)
  case atStart => exact ⟨0, rfl, Nat.zero_le _, Lib.hid k5, Lib.hid (Below.refl _ _)⟩
  case round =>
    clear k5
    obtain ⟨i, rfl, hi, hX, hBx⟩ := hrel
    have i0 : (0 : Int) ≤ (i : Int) := by omega
    have kw := (hBx.out.block w.heap.size hx5).trans kM
    have HBw := Lib.hid (HB1.out.trans (hBx.out.mono (by omega)))
    have lr0 := blk_lt kw
    have l5 := blk_lt hX.out
    by_cases hlt : i < nb
    · have i1 : (i : Int) < (nb : Int) := by omega
      obtain ⟨bb, ob, rfl, hbb, hcc⟩ := (HBR.out _ HBw.out).addr (by omega)
      have q0 : wr.cell? ⟨w.heap.size, 0, none⟩ = some (.slice (some ⟨bb, ob, none⟩) nb cb) := blk_cell kw (i := 0) rfl
      obtain ⟨c0, c1⟩ := hcc i hlt
      obtain ⟨⟨t0, t1⟩, r0, r1⟩ := HBV.out i hlt
      have hl0 : dirL m (cloU s i) 0 ≤ 6 := Nat.le_trans (dirL_le _ _ _) (Nat.le_trans (cloU_len s i) (by omega))
      have hl1 : dirL m (cloU s i) 1 ≤ 6 := Nat.le_trans (dirL_le _ _ _) (Nat.le_trans (cloU_len s i) (by omega))
      have HICX := Lib.hid (HIC.out i hlt)
      obtain ⟨mb, hmb⟩ : ∃ b, b = s.testBit i := ⟨_, rfl⟩
      rw [← hmb] at HICX
      have HMB := Lib.hid hmb
      obtain ⟨rr, hrr⟩ : ∃ r, r = (bAt m.br i).res := ⟨_, rfl⟩
      obtain ⟨tt, htt⟩ : ∃ r, r = (bAt m.br i).tap := ⟨_, rfl⟩
      rw [← hrr] at c1 r0 r1
      rw [← htt] at c0 t0 t1
      have HRR := Lib.hid hrr.symm
      have HTT := Lib.hid htt.symm
      clear hmb hrr htt hcc kw
      cases mb
      · go_wp2_with fail
        refine (HICX.out _).mono ?_
        rintro e5 w5 ⟨rfl, rfl⟩
        go_wp2_with fail
        go_roundw
        case rel => exact ⟨i + 1, by go_num, by omega, by rw [cloU_no HMB.out.symm]; exact hX, hBx⟩
        case measure => simp [intOf]; omega
      · by_cases hr : rr = 0
        · subst hr
          have y0 := blk_cell hX.out (i := 0) rfl
          have y1 := blk_cell hX.out (i := 1) rfl
          have z0 := blk_fz hX.out 0
          have z1 := blk_fz hX.out 1
          have HXX := hX
          obtain rfl | rfl : tt = 0 ∨ tt = 1 := by omega
          · have e0 := dirL_yes (m := m) (L := cloU s i) (t := 0) (k := i) (by unfold isDir; rw [HRR.out, HTT.out]; rfl)
            have e1 := dirL_no (m := m) (L := cloU s i) (t := 1) (k := i) (by unfold isDir; rw [HRR.out, HTT.out]; rfl)
            have HE := Lib.hid (And.intro e0 e1)
            have HCY := Lib.hid (cloU_yes HMB.out.symm)
            clear e0 e1
            generalize dirL m (cloU s i) 0 = N0 at *
            generalize dirL m (cloU s i) 1 = N1 at *
            have w1 : IntKind.i64.wrap ((N0 : Int) + 1) = (N0 : Int) + 1 := by rw [IntKind.wrap_i64]; omega
            go_wp2_with fail
            refine (HICX.out _).mono ?_
            rintro e5 w5 ⟨rfl, rfl⟩
            go_wp2_with fail
            refine drew_of_eq 16 (by kernel_rfl) (by kernel_rfl) ?_; simp only [List.take_succ_cons, List.take_zero, List.drop_succ_cons, List.drop_zero]; repeat go_big_quiet_step (fail)
            refine wpQuiet_nil ?_; intro m7
            have y0 : (wr.drewN m7).cell? ⟨X5, 0, none⟩ = some (.int .i64 (N0 : Int)) := y0
            have z0 : (wr.drewN m7).frozen? ⟨X5, 0, none⟩ = false := z0
            go_wp2_with fail
            go_roundw
            case rel => exact ⟨i + 1, by go_num, by omega, Lib.hid (by rw [HCY.out, HE.out.1, HE.out.2]; exact blk_set (show (wr.drewN m7).heap[X5]? = _ from HXX.out) 0 _), Lib.hid (Below.setCell (hBx.out.drewN m7) (Nat.le_refl _) _)⟩
            case measure => simp [intOf]; omega
          · have e0 := dirL_no (m := m) (L := cloU s i) (t := 0) (k := i) (by unfold isDir; rw [HRR.out, HTT.out]; rfl)
            have e1 := dirL_yes (m := m) (L := cloU s i) (t := 1) (k := i) (by unfold isDir; rw [HRR.out, HTT.out]; rfl)
            have HE := Lib.hid (And.intro e0 e1)
            have HCY := Lib.hid (cloU_yes HMB.out.symm)
            clear e0 e1
            generalize dirL m (cloU s i) 0 = N0 at *
            generalize dirL m (cloU s i) 1 = N1 at *
            have w1 : IntKind.i64.wrap ((N1 : Int) + 1) = (N1 : Int) + 1 := by rw [IntKind.wrap_i64]; omega
            go_wp2_with fail
            refine (HICX.out _).mono ?_
            rintro e5 w5 ⟨rfl, rfl⟩
            go_wp2_with fail
            refine drew_of_eq 16 (by kernel_rfl) (by kernel_rfl) ?_; simp only [List.take_succ_cons, List.take_zero, List.drop_succ_cons, List.drop_zero]; repeat go_big_quiet_step (fail)
            refine wpQuiet_nil ?_; intro m7
            have y1 : (wr.drewN m7).cell? ⟨X5, 1, none⟩ = some (.int .i64 (N1 : Int)) := y1
            have z1 : (wr.drewN m7).frozen? ⟨X5, 1, none⟩ = false := z1
            go_wp2_with fail
            go_roundw
            case rel => exact ⟨i + 1, by go_num, by omega, Lib.hid (by rw [HCY.out, HE.out.1, HE.out.2]; exact blk_set (show (wr.drewN m7).heap[X5]? = _ from HXX.out) 1 _), Lib.hid (Below.setCell (hBx.out.drewN m7) (Nat.le_refl _) _)⟩
            case measure => simp [intOf]; omega
        · skip
          have e0 := dirL_no (m := m) (L := cloU s i) (t := 0) (k := i) (by unfold isDir; rw [HRR.out]; simp [hr])
          have e1 := dirL_no (m := m) (L := cloU s i) (t := 1) (k := i) (by unfold isDir; rw [HRR.out]; simp [hr])
          have hr0 : (rr == 0) = false := by simpa using hr
          have HE := Lib.hid (And.intro e0 e1)
          have HCY := Lib.hid (cloU_yes HMB.out.symm)
          clear e0 e1 hr
          go_wp2_with fail
          refine (HICX.out _).mono ?_
          rintro e5 w5 ⟨rfl, rfl⟩
          go_wp2_with fail
          go_roundw
          case rel => exact ⟨i + 1, by go_num, by omega, by rw [HCY.out, HE.out.1, HE.out.2]; exact hX, hBx⟩
          case measure => simp [intOf]; omega
    · obtain rfl : nb = i := by omega
      have q0 : wr.cell? ⟨w.heap.size, 0, none⟩ = some (.slice ab nb cb) := blk_cell kw (i := 0) rfl
      have y0 := blk_cell hX.out (i := 0) rfl
      have y1 := blk_cell hX.out (i := 1) rfl
      have HC := HCC.out
      rw [← H6.out 0, ← H6.out 1] at HC
      generalize dirL m (cloU s nb) 0 = N0 at *
      generalize dirL m (cloU s nb) 1 = N1 at *
      clear hX kw
      by_cases h0 : s = 0
      · rw [if_pos h0] at HC
        have HV := Lib.hid HC
        have b0 : ((s : Int) == 0) = true := by simp; omega
        clear HC h0
        go_wp2
        go_ret
        exact ⟨ret_int HV.out.symm, HBw.out⟩
      · rw [if_neg h0] at HC
        have b0 : ((s : Int) == 0) = false := by simp; omega
        clear h0
        by_cases h1 : 0 < N0
        · have b1 : (0 : Int) < (N0 : Int) := by omega
          by_cases h2 : 0 < N1
          · have b2 : (0 : Int) < (N1 : Int) := by omega
            rw [if_pos ⟨h1, h2⟩] at HC
            have HV := Lib.hid HC
            clear HC h1 h2
            go_wp2
            go_ret
            exact ⟨ret_int HV.out.symm, HBw.out⟩
          · have b2 : ¬ (0 : Int) < (N1 : Int) := by omega
            rw [if_neg (by omega)] at HC
            by_cases h3 : 1 < N0
            · have b3 : (1 : Int) < (N0 : Int) := by omega
              rw [if_pos (.inl h3)] at HC
              have HV := Lib.hid HC
              clear HC h1 h2 h3
              go_wp2
              go_ret
              exact ⟨ret_int HV.out.symm, HBw.out⟩
            · have b3 : ¬ (1 : Int) < (N0 : Int) := by omega
              have b4 : ¬ (1 : Int) < (N1 : Int) := by omega
              rw [if_neg (by omega)] at HC
              have HV := Lib.hid HC
              clear HC h1 h2 h3
              go_wp2
              go_ret
              exact ⟨ret_int HV.out.symm, HBw.out⟩
        · have b1 : ¬ (0 : Int) < (N0 : Int) := by omega
          have b3 : ¬ (1 : Int) < (N0 : Int) := by omega
          rw [if_neg (by omega)] at HC
          by_cases h4 : 1 < N1
          · have b4 : (1 : Int) < (N1 : Int) := by omega
            rw [if_pos (.inr h4)] at HC
            have HV := Lib.hid HC
            clear HC h1 h4
            go_wp2
            go_ret
            exact ⟨ret_int HV.out.symm, HBw.out⟩
          · have b4 : ¬ (1 : Int) < (N1 : Int) := by omega
            rw [if_neg (by omega)] at HC
            have HV := Lib.hid HC
            clear HC h1 h4
            go_wp2
            go_ret
            exact ⟨ret_int HV.out.symm, HBw.out⟩
end Go.Proofs.YtidboecjllaofaaGreat
