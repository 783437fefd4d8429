import Derived.Test.YtidboecjllaofaaGreatUPlain0
import Derived.Test.YtidboecjllaofaaGreatURoundTr
import Derived.Test.YtidboecjllaofaaGreatUSched
/- The error of currents: the program and the reference. -/
namespace Go.Proofs.YtidboecjllaofaaGreat
open Go.RowKit
set_option linter.unusedVariables false
set_option linter.unusedSimpArgs false
theorem natz (n : Nat) : (((n : Nat) : Int) == 0) = decide (n = 0) := by rw [Bool.eq_iff_iff]; simp
theorem curE_int (m : Mac) (s : Nat) : curE m s = firstErr [unl ((s : Int) != 0) 21, unl (((dirS m s 0 : Nat) : Int) == 0 || ((dirS m s 1 : Nat) : Int) == 0) 13, unl (decide (max ((dirS m s 0 : Nat) : Int) ((dirS m s 1 : Nat) : Int) ≤ 1)) 23] := by
 unfold curE
 rw [natz, natz]
 have e1 : ((s : Int) != 0) = decide (s ≠ 0) := by rw [Bool.eq_iff_iff]; simp
 have e2 : decide (max ((dirS m s 0 : Nat) : Int) ((dirS m s 1 : Nat) : Int) ≤ 1) = (decide (dirS m s 0 ≤ 1) && decide (dirS m s 1 ≤ 1)) := by
  rw [Bool.eq_iff_iff, Bool.and_eq_true, decide_eq_true_eq, decide_eq_true_eq, decide_eq_true_eq]; omega
 rw [e1, e2]
set_option maxHeartbeats 2000000 in
set_option maxRecDepth 100000 in
theorem currentsErr_any (m : Mac) (l : Lim) (s : Nat) (ab ag : Option Addr) (nb cb ng cg : Nat) (w : World) (hm : MacV m) (hb : BrR w ab nb m.br) (hs : s < 2 ^ nb) :
    Calls Tryz.prog 136 #[.agg #[.slice ab nb cb, .int .i64 m.st, .slice ag ng cg, .int .i64 l.volt, .int .i64 l.lo, .int .i64 l.hi, .int .i64 l.circ, .int .i64 l.brk, .int .i64 l.ret], .int .i64 (s : Int)] w fun e' w' => e' = .returned (.int .i64 (curE m s)) ∧ Below w.heap.size w w' := by
 have HD := Lib.hid (fun (W : World) (hbw : Below w.heap.size w W) => direct_any m l s ab ag nb cb ng cg W hm (hb.below hbw) hs)
 have HU := Lib.hid (fun (b : Bool) (e : Int) w' => t_unless_any b e w')
 obtain ⟨vo, lo, hi, ci, br, re⟩ := l
 simp only at HD ⊢
 obtain ⟨V, hV⟩ : ∃ V, V = curE m s := ⟨_, rfl⟩
 have hV2 := hV.trans (curE_int m s)
 rw [← hV]
 obtain ⟨st, hst⟩ : ∃ x, x = m.st := ⟨_, rfl⟩
 rw [← hst] at HD ⊢
 generalize dirS m s 0 = N0 at *
 generalize dirS m s 1 = N1 at *
 have HV := Lib.hid hV2
 clear hV hV2 hb hm hs hst
 go_enter Tryz.func136, Tryz.ntmps136
 go_wp2_with fail
 refine (HD.out _ (by (repeat' first|(with_reducible first|exact bw1|assumption|refine bw2 ?_ _|refine bw3 ?_ ?_ _|refine bw4 ?_|refine bw5 ?_ ?_ _|refine bw6 (by assumption) ?_ ?_|exact And.left (by assumption))|go_size))).mono ?_
 rintro e5 w5 ⟨rfl, hb5⟩
 have HB5 := Lib.hid (show Below w.heap.size w w5 by (repeat' first|(with_reducible first|exact bw1|assumption|refine bw2 ?_ _|refine bw3 ?_ ?_ _|refine bw4 ?_|refine bw5 ?_ ?_ _|refine bw6 (by assumption) ?_ ?_|exact And.left (by assumption))|go_size))
 clear hb5 HD
 obtain ⟨w8, hW⟩ : ∃ w8, w8 = w5.alloc (Obj.cells #[.int .i64 (N0 : Int), .int .i64 (N1 : Int)] 170) := ⟨_, rfl⟩
 have hb8 : Below w5.heap.size w5 w8 := by rw [hW]; (repeat' first|(with_reducible first|exact bw1|assumption|refine bw2 ?_ _|refine bw3 ?_ ?_ _|refine bw4 ?_|refine bw5 ?_ ?_ _|refine bw6 (by assumption) ?_ ?_|exact And.left (by assumption))|go_size)
 have k8 : w8.heap[w5.heap.size]? = some (.cells #[.int .i64 (N0 : Int), .int .i64 (N1 : Int)] 170) := by rw [hW]; exact heap_alloc_new _ _
 have HB8 := Lib.hid (HB5.out.trans (hb8.mono HB5.out.size))
 clear hb8
 go_wp2_with fail
 rw [← hW]
 obtain ⟨X5, hX5⟩ : ∃ X, X = w5.heap.size := ⟨_, rfl⟩
 rw [← hX5] at k8 ⊢
 obtain ⟨c0, c1, l8⟩ := blkc2 k8
 clear hW hX5 k8 HB5
 by_cases hx : (N0 : Int) < (N1 : Int)
 ·have hv := HV.out
  rw [show max (N0 : Int) (N1 : Int) = (N1 : Int) by omega] at hv
  have HV := Lib.hid hv
  clear hv
  cases h0 : ((N0 : Int) == 0)
  ·skip
   go_wp2_with fail
   refine later_of_eq 19 (by kernel_rfl) (by kernel_rfl) ?_; simp only [List.take_succ_cons, List.take_zero, List.drop_succ_cons, List.drop_zero]; repeat go_big_quiet_step (with_reducible exact calls_later_same (HU.out _ _ _))
   refine wpQuiet_nil ?_; intro w9 hb9
   have HB9 := Lib.hid (HB8.out.trans (hb9.mono HB8.out.size))
   clear hb9 c0 c1
   go_wp2_with fail
   refine (t_first3 _ _ _ _ _ _ _ (by rfl) (by simp)).mono ?_
   rintro e8 wv ⟨rfl, hwv⟩
   have HBv := Lib.hid (HB9.out.trans ((show Below w9.heap.size w9 wv by rw [← hwv]; (repeat' first|(with_reducible first|exact bw1|assumption|refine bw2 ?_ _|refine bw3 ?_ ?_ _|refine bw4 ?_|refine bw5 ?_ ?_ _|refine bw6 (by assumption) ?_ ?_|exact And.left (by assumption))|go_size)).mono HB9.out.size))
   clear hwv
   go_wp2
   go_ret
   exact ⟨ret_int (by rw [HV.out]; first | rfl | (rw [h0]; rfl) | simp [h0]), HBv.out⟩
  ·skip
   go_wp2_with fail
   refine later_of_eq 19 (by kernel_rfl) (by kernel_rfl) ?_; simp only [List.take_succ_cons, List.take_zero, List.drop_succ_cons, List.drop_zero]; repeat go_big_quiet_step (with_reducible exact calls_later_same (HU.out _ _ _))
   refine wpQuiet_nil ?_; intro w9 hb9
   have HB9 := Lib.hid (HB8.out.trans (hb9.mono HB8.out.size))
   clear hb9 c0 c1
   go_wp2_with fail
   refine (t_first3 _ _ _ _ _ _ _ (by rfl) (by simp)).mono ?_
   rintro e8 wv ⟨rfl, hwv⟩
   have HBv := Lib.hid (HB9.out.trans ((show Below w9.heap.size w9 wv by rw [← hwv]; (repeat' first|(with_reducible first|exact bw1|assumption|refine bw2 ?_ _|refine bw3 ?_ ?_ _|refine bw4 ?_|refine bw5 ?_ ?_ _|refine bw6 (by assumption) ?_ ?_|exact And.left (by assumption))|go_size)).mono HB9.out.size))
   clear hwv
   go_wp2
   go_ret
   exact ⟨ret_int (by rw [HV.out]; first | rfl | (rw [h0]; rfl) | simp [h0]), HBv.out⟩
 ·have hv := HV.out
  rw [show max (N0 : Int) (N1 : Int) = (N0 : Int) by omega] at hv
  have HV := Lib.hid hv
  clear hv
  cases h0 : ((N0 : Int) == 0)
  ·skip
   go_wp2_with fail
   refine later_of_eq 19 (by kernel_rfl) (by kernel_rfl) ?_; simp only [List.take_succ_cons, List.take_zero, List.drop_succ_cons, List.drop_zero]; repeat go_big_quiet_step (with_reducible exact calls_later_same (HU.out _ _ _))
   refine wpQuiet_nil ?_; intro w9 hb9
   have HB9 := Lib.hid (HB8.out.trans (hb9.mono HB8.out.size))
   clear hb9 c0 c1
   go_wp2_with fail
   refine (t_first3 _ _ _ _ _ _ _ (by rfl) (by simp)).mono ?_
   rintro e8 wv ⟨rfl, hwv⟩
   have HBv := Lib.hid (HB9.out.trans ((show Below w9.heap.size w9 wv by rw [← hwv]; (repeat' first|(with_reducible first|exact bw1|assumption|refine bw2 ?_ _|refine bw3 ?_ ?_ _|refine bw4 ?_|refine bw5 ?_ ?_ _|refine bw6 (by assumption) ?_ ?_|exact And.left (by assumption))|go_size)).mono HB9.out.size))
   clear hwv
   go_wp2
   go_ret
   exact ⟨ret_int (by rw [HV.out]; first | rfl | (rw [h0]; rfl) | simp [h0]), HBv.out⟩
  ·skip
   go_wp2_with fail
   refine later_of_eq 19 (by kernel_rfl) (by kernel_rfl) ?_; simp only [List.take_succ_cons, List.take_zero, List.drop_succ_cons, List.drop_zero]; repeat go_big_quiet_step (with_reducible exact calls_later_same (HU.out _ _ _))
   refine wpQuiet_nil ?_; intro w9 hb9
   have HB9 := Lib.hid (HB8.out.trans (hb9.mono HB8.out.size))
   clear hb9 c0 c1
   go_wp2_with fail
   refine (t_first3 _ _ _ _ _ _ _ (by rfl) (by simp)).mono ?_
   rintro e8 wv ⟨rfl, hwv⟩
   have HBv := Lib.hid (HB9.out.trans ((show Below w9.heap.size w9 wv by rw [← hwv]; (repeat' first|(with_reducible first|exact bw1|assumption|refine bw2 ?_ _|refine bw3 ?_ ?_ _|refine bw4 ?_|refine bw5 ?_ ?_ _|refine bw6 (by assumption) ?_ ?_|exact And.left (by assumption))|go_size)).mono HB9.out.size))
   clear hwv
   go_wp2
   go_ret
   exact ⟨ret_int (by rw [HV.out]; first | rfl | (rw [h0]; rfl) | simp [h0]), HBv.out⟩
theorem cloU_six : ∀ n < 7, ∀ s < 2 ^ n, cloU s 6 = cloU s n := by decide +kernel
theorem curE_cases (m : Mac) (s : Nat) : curE m s = if s = 0 then 21 else if 0 < dirS m s 0 ∧ 0 < dirS m s 1 then 13 else if 1 < dirS m s 0 ∨ 1 < dirS m s 1 then 23 else 0 := by
 unfold curE
 generalize dirS m s 0 = a
 generalize dirS m s 1 = b
 by_cases h : s = 0
 ·simp [h, unl, firstErr]
 ·rw [if_neg h, decide_eq_true (show s ≠ 0 from h)]
  by_cases h1 : 0 < a ∧ 0 < b
  ·rw [if_pos h1, decide_eq_false (show ¬ a = 0 by omega), decide_eq_false (show ¬ b = 0 by omega)]; rfl
  ·have e : (decide (a = 0) || decide (b = 0)) = true := by
     rw [Bool.or_eq_true, decide_eq_true_eq, decide_eq_true_eq]; omega
   rw [if_neg h1, e]
   by_cases h2 : 1 < a ∨ 1 < b
   ·have e2 : (decide (a ≤ 1) && decide (b ≤ 1)) = false := by
      rw [Bool.and_eq_false_iff, decide_eq_false_iff_not, decide_eq_false_iff_not]; omega
    rw [if_pos h2, e2]; rfl
   ·have e2 : (decide (a ≤ 1) && decide (b ≤ 1)) = true := by
      rw [Bool.and_eq_true, decide_eq_true_eq, decide_eq_true_eq]; omega
    rw [if_neg h2, e2]; rfl
set_option maxHeartbeats 2000000 in
set_option maxRecDepth 100000 in
theorem rCurrentsErr_any (m : Mac) (s : Nat) (ab ag : Option Addr) (nb cb ng cg : Nat) (w : World) (hm : MacV m) (hb : BrR w ab nb m.br) (hs : s < 2 ^ nb) :
    Calls Tryz.prog 28 #[.agg #[.slice ab nb cb, .int .i64 m.st, .slice ag ng cg], .int .i64 (s : Int)] w fun e' w' => e' = .returned (.int .i64 (curE m s)) ∧ Below w.heap.size w w' := by
 have hn6 : nb ≤ 6 := by rw [← hb.len]; exact hm.n1
 have hs64 : s < 64 := Nat.lt_of_lt_of_le hs (Nat.le_trans (Nat.pow_le_pow_right (by omega) hn6) (by decide))
 have HBV := Lib.hid (fun (i : Nat) (hi : i < nb) => hm.br i (by rw [hb.len]; exact hi))
 have HBR := Lib.hid (fun (W : World) (hbw : Below w.heap.size w W) => hb.below hbw)
 have HIC := Lib.hid (fun (i : Nat) (hi : i < nb) w' => isClosed_any s i w' hs64 (by omega))
 have HCC := Lib.hid (curE_cases m s)
 have H6 := Lib.hid (show ∀ t, dirL m (cloU s nb) t = dirS m s t from fun t => by unfold dirS; rw [cloU_six nb (by omega) s hs])
 obtain ⟨st, hst⟩ : ∃ x, x = m.st := ⟨_, rfl⟩
 rw [← hst]
 clear hb hm hst hs
 obtain ⟨V, hV⟩ : ∃ V, V = curE m s := ⟨_, rfl⟩
 rw [← hV] at HCC ⊢
 clear hV
 go_enter Tryz.func28, Tryz.ntmps28
 go_wp2_with fail
 obtain ⟨w1, hW⟩ : ∃ w1, w1 = w.alloc (Obj.cells #[.slice ab nb cb, .int .i64 st, .slice ag ng cg] 45) := ⟨_, rfl⟩
 have hb1 : Below w.heap.size w w1 := by rw [hW]; (repeat' first|(with_reducible first|exact bw1|assumption|refine bw2 ?_ _|refine bw3 ?_ ?_ _|refine bw4 ?_|refine bw5 ?_ ?_ _|refine bw6 (by assumption) ?_ ?_|exact And.left (by assumption))|go_size)
 have kM1 : w1.heap[w.heap.size]? = some (.cells #[.slice ab nb cb, .int .i64 st, .slice ag ng cg] 45) := by rw [hW]; exact heap_alloc_new _ _
 have hz1 : w1.heap.size = w.heap.size + 1 := by rw [hW]; simp
 rw [← hW]
 obtain ⟨w2, hW2⟩ : ∃ w2, w2 = w1.alloc (Obj.cells #[.int .i64 0, .int .i64 0] 170) := ⟨_, rfl⟩
 have hb2 : Below w1.heap.size w1 w2 := by rw [hW2]; (repeat' first|(with_reducible first|exact bw1|assumption|refine bw2 ?_ _|refine bw3 ?_ ?_ _|refine bw4 ?_|refine bw5 ?_ ?_ _|refine bw6 (by assumption) ?_ ?_|exact And.left (by assumption))|go_size)
 have k5 : w2.heap[w1.heap.size]? = some (.cells #[.int .i64 0, .int .i64 0] 170) := by rw [hW2]; exact heap_alloc_new _ _
 rw [← hW2]
 rw [← hz1]
 obtain ⟨X5, hX5⟩ : ∃ X, X = w1.heap.size := ⟨_, rfl⟩
 rw [← hX5] at k5 ⊢
 have kM := blk_below kM1 hb2
 have HB1 := Lib.hid (hb1.trans (hb2.mono hb1.size))
 have hx5 : w.heap.size < X5 := by rw [hX5]; omega
 clear hW hW2 hb1 hb2 hz1 hX5 kM1
 go_loopw [6] (fun x wr => ∃ i : Nat, x = .int .i64 (i : Int) ∧ i ≤ nb ∧ Hid (wr.heap[X5]? = some (.cells #[.int .i64 (dirL m (cloU s i) 0 : Nat), .int .i64 (dirL m (cloU s i) 1 : Nat)] 170)) ∧ Hid (Below X5 w2 wr)) (fun x _ => nb - (intOf x).toNat)
 case atStart => exact ⟨0, rfl, Nat.zero_le _, Lib.hid k5, Lib.hid (Below.refl _ _)⟩
 case round =>
  clear k5
  obtain ⟨i, rfl, hi, hX, hBx⟩ := hrel
  have i0 : (0 : Int) ≤ (i : Int) := by omega
  have kw := (hBx.out.block w.heap.size hx5).trans kM
  have HBw := Lib.hid (HB1.out.trans (hBx.out.mono (by omega)))
  have lr0 := blk_lt kw
  have l5 := blk_lt hX.out
  by_cases hlt : i < nb
  ·have i1 : (i : Int) < (nb : Int) := by omega
   obtain ⟨bb, ob, rfl, hbb, hcc⟩ := (HBR.out _ HBw.out).addr (by omega)
   have q0 : wr.cell? ⟨w.heap.size, 0, none⟩ = some (.slice (some ⟨bb, ob, none⟩) nb cb) := blk_cell kw (i := 0) rfl
   obtain ⟨c0, c1⟩ := hcc i hlt
   obtain ⟨⟨t0, t1⟩, r0, r1⟩ := HBV.out i hlt
   have hl0 : dirL m (cloU s i) 0 ≤ 6 := Nat.le_trans (dirL_le _ _ _) (Nat.le_trans (cloU_len s i) (by omega))
   have hl1 : dirL m (cloU s i) 1 ≤ 6 := Nat.le_trans (dirL_le _ _ _) (Nat.le_trans (cloU_len s i) (by omega))
   have HICX := Lib.hid (HIC.out i hlt)
   obtain ⟨mb, hmb⟩ : ∃ b, b = s.testBit i := ⟨_, rfl⟩
   rw [← hmb] at HICX
   have HMB := Lib.hid hmb
   obtain ⟨rr, hrr⟩ : ∃ r, r = (bAt m.br i).res := ⟨_, rfl⟩
   obtain ⟨tt, htt⟩ : ∃ r, r = (bAt m.br i).tap := ⟨_, rfl⟩
   rw [← hrr] at c1 r0 r1
   rw [← htt] at c0 t0 t1
   have HRR := Lib.hid hrr.symm
   have HTT := Lib.hid htt.symm
   clear hmb hrr htt hcc kw
   cases mb
   ·go_wp2_with fail
    refine (HICX.out _).mono ?_
    rintro e5 w5 ⟨rfl, rfl⟩
    go_wp2_with fail
    go_roundw
    case rel => exact ⟨i + 1, by go_num, by omega, by rw [cloU_no HMB.out.symm]; exact hX, hBx⟩
    case measure => simp [intOf]; omega
   ·by_cases hr : rr = 0
    ·subst hr
     obtain ⟨y0, y1, _⟩ := blkc2 hX.out
     have z0 := blk_fz hX.out 0
     have z1 := blk_fz hX.out 1
     have HXX := hX
     obtain rfl | rfl : tt = 0 ∨ tt = 1 := by omega
     ·have e0 := dirL_yes (m := m) (L := cloU s i) (t := 0) (k := i) (by unfold isDir; rw [HRR.out, HTT.out]; rfl)
      have e1 := dirL_no (m := m) (L := cloU s i) (t := 1) (k := i) (by unfold isDir; rw [HRR.out, HTT.out]; rfl)
      have HE := Lib.hid (And.intro e0 e1)
      have HCY := Lib.hid (cloU_yes HMB.out.symm)
      clear e0 e1
      generalize dirL m (cloU s i) 0 = N0 at *
      generalize dirL m (cloU s i) 1 = N1 at *
      have w1 : IntKind.i64.wrap ((N0 : Int) + 1) = (N0 : Int) + 1 := by rw [IntKind.wrap_i64]; omega
      go_wp2_with fail
      refine (HICX.out _).mono ?_
      rintro e5 w5 ⟨rfl, rfl⟩
      go_wp2_with fail
      refine drew_of_eq 16 (by kernel_rfl) (by kernel_rfl) ?_; simp only [List.take_succ_cons, List.take_zero, List.drop_succ_cons, List.drop_zero]; repeat go_big_quiet_step (fail)
      refine wpQuiet_nil ?_; intro m7
      have y0 : (wr.drewN m7).cell? ⟨X5, 0, none⟩ = some (.int .i64 (N0 : Int)) := y0
      have z0 : (wr.drewN m7).frozen? ⟨X5, 0, none⟩ = false := z0
      go_wp2_with fail
      go_roundw
      case rel => exact ⟨i + 1, by go_num, by omega, Lib.hid (by rw [HCY.out, HE.out.1, HE.out.2]; exact blk_set (show (wr.drewN m7).heap[X5]? = _ from HXX.out) 0 _), Lib.hid (Below.setCell (hBx.out.drewN m7) (Nat.le_refl _) _)⟩
      case measure => simp [intOf]; omega
     ·have e0 := dirL_no (m := m) (L := cloU s i) (t := 0) (k := i) (by unfold isDir; rw [HRR.out, HTT.out]; rfl)
      have e1 := dirL_yes (m := m) (L := cloU s i) (t := 1) (k := i) (by unfold isDir; rw [HRR.out, HTT.out]; rfl)
      have HE := Lib.hid (And.intro e0 e1)
      have HCY := Lib.hid (cloU_yes HMB.out.symm)
      clear e0 e1
      generalize dirL m (cloU s i) 0 = N0 at *
      generalize dirL m (cloU s i) 1 = N1 at *
      have w1 : IntKind.i64.wrap ((N1 : Int) + 1) = (N1 : Int) + 1 := by rw [IntKind.wrap_i64]; omega
      go_wp2_with fail
      refine (HICX.out _).mono ?_
      rintro e5 w5 ⟨rfl, rfl⟩
      go_wp2_with fail
      refine drew_of_eq 16 (by kernel_rfl) (by kernel_rfl) ?_; simp only [List.take_succ_cons, List.take_zero, List.drop_succ_cons, List.drop_zero]; repeat go_big_quiet_step (fail)
      refine wpQuiet_nil ?_; intro m7
      have y1 : (wr.drewN m7).cell? ⟨X5, 1, none⟩ = some (.int .i64 (N1 : Int)) := y1
      have z1 : (wr.drewN m7).frozen? ⟨X5, 1, none⟩ = false := z1
      go_wp2_with fail
      go_roundw
      case rel => exact ⟨i + 1, by go_num, by omega, Lib.hid (by rw [HCY.out, HE.out.1, HE.out.2]; exact blk_set (show (wr.drewN m7).heap[X5]? = _ from HXX.out) 1 _), Lib.hid (Below.setCell (hBx.out.drewN m7) (Nat.le_refl _) _)⟩
      case measure => simp [intOf]; omega
    ·skip
     have e0 := dirL_no (m := m) (L := cloU s i) (t := 0) (k := i) (by unfold isDir; rw [HRR.out]; simp [hr])
     have e1 := dirL_no (m := m) (L := cloU s i) (t := 1) (k := i) (by unfold isDir; rw [HRR.out]; simp [hr])
     have hr0 : (rr == 0) = false := by simpa using hr
     have HE := Lib.hid (And.intro e0 e1)
     have HCY := Lib.hid (cloU_yes HMB.out.symm)
     clear e0 e1 hr
     go_wp2_with fail
     refine (HICX.out _).mono ?_
     rintro e5 w5 ⟨rfl, rfl⟩
     go_wp2_with fail
     go_roundw
     case rel => exact ⟨i + 1, by go_num, by omega, by rw [HCY.out, HE.out.1, HE.out.2]; exact hX, hBx⟩
     case measure => simp [intOf]; omega
  ·obtain rfl : nb = i := by omega
   have q0 : wr.cell? ⟨w.heap.size, 0, none⟩ = some (.slice ab nb cb) := blk_cell kw (i := 0) rfl
   obtain ⟨y0, y1, _⟩ := blkc2 hX.out
   have HC := HCC.out
   rw [← H6.out 0, ← H6.out 1] at HC
   generalize dirL m (cloU s nb) 0 = N0 at *
   generalize dirL m (cloU s nb) 1 = N1 at *
   clear hX kw
   by_cases h0 : s = 0
   ·rw [if_pos h0] at HC
    have HV := Lib.hid HC
    have b0 : ((s : Int) == 0) = true := by simp; omega
    clear HC h0
    go_wp2
    go_ret
    exact ⟨ret_int HV.out.symm, HBw.out⟩
   ·rw [if_neg h0] at HC
    have b0 : ((s : Int) == 0) = false := by simp; omega
    clear h0
    by_cases h1 : 0 < N0
    ·have b1 : (0 : Int) < (N0 : Int) := by omega
     by_cases h2 : 0 < N1
     ·have b2 : (0 : Int) < (N1 : Int) := by omega
      rw [if_pos ⟨h1, h2⟩] at HC
      have HV := Lib.hid HC
      clear HC h1 h2
      go_wp2
      go_ret
      exact ⟨ret_int HV.out.symm, HBw.out⟩
     ·have b2 : ¬ (0 : Int) < (N1 : Int) := by omega
      rw [if_neg (by omega)] at HC
      by_cases h3 : 1 < N0
      ·have b3 : (1 : Int) < (N0 : Int) := by omega
       rw [if_pos (.inl h3)] at HC
       have HV := Lib.hid HC
       clear HC h1 h2 h3
       go_wp2
       go_ret
       exact ⟨ret_int HV.out.symm, HBw.out⟩
      ·have b3 : ¬ (1 : Int) < (N0 : Int) := by omega
       have b4 : ¬ (1 : Int) < (N1 : Int) := by omega
       rw [if_neg (by omega)] at HC
       have HV := Lib.hid HC
       clear HC h1 h2 h3
       go_wp2
       go_ret
       exact ⟨ret_int HV.out.symm, HBw.out⟩
    ·have b1 : ¬ (0 : Int) < (N0 : Int) := by omega
     have b3 : ¬ (1 : Int) < (N0 : Int) := by omega
     rw [if_neg (by omega)] at HC
     by_cases h4 : 1 < N1
     ·have b4 : (1 : Int) < (N1 : Int) := by omega
      rw [if_pos (.inr h4)] at HC
      have HV := Lib.hid HC
      clear HC h1 h4
      go_wp2
      go_ret
      exact ⟨ret_int HV.out.symm, HBw.out⟩
     ·have b4 : ¬ (1 : Int) < (N1 : Int) := by omega
      rw [if_neg (by omega)] at HC
      have HV := Lib.hid HC
      clear HC h1 h4
      go_wp2
      go_ret
      exact ⟨ret_int HV.out.symm, HBw.out⟩
end Go.Proofs.YtidboecjllaofaaGreat

/- The voltage of the output and currents, in plain words. -/
namespace Go.Proofs.YtidboecjllaofaaGreat
set_option linter.unusedVariables false
def volA (m : Mac) (l : Lim) (k : Nat) : Int := (bAt m.br k).tap * l.volt
def numL (m : Mac) (l : Lim) (load : Int) (L : List Nat) : Int := L.foldl (fun a k => a + volA m l k * (2520 / (bAt m.br k).res)) (-load * 2520)
def denL (m : Mac) (L : List Nat) : Int := L.foldl (fun a k => a + 2520 / (bAt m.br k).res) 0
theorem numL_snoc (m : Mac) (l : Lim) (load : Int) (L : List Nat) (k : Nat) : numL m l load (L ++ [k]) = numL m l load L + volA m l k * (2520 / (bAt m.br k).res) := by unfold numL; rw [List.foldl_append]; rfl
theorem denL_snoc (m : Mac) (L : List Nat) (k : Nat) : denL m (L ++ [k]) = denL m L + 2520 / (bAt m.br k).res := by unfold denL; rw [List.foldl_append]; rfl
def isRes (m : Mac) (k : Nat) : Bool := (bAt m.br k).res == 0
def outT (m : Mac) (l : Lim) (s : Nat) (load : Int) : Int × Int :=
 match (cloU s 6).find? (isRes m) with
 | some k => (volA m l k, 1)
 | none => low (numL m l load (cloU s 6)) (denL m (cloU s 6))
theorem div_res {r : Int} (h0 : 1 ≤ r) (h1 : r ≤ 10) : 252 ≤ 2520 / r ∧ 2520 / r ≤ 2520 := by
 have : r = 1 ∨ r = 2 ∨ r = 3 ∨ r = 4 ∨ r = 5 ∨ r = 6 ∨ r = 7 ∨ r = 8 ∨ r = 9 ∨ r = 10 := by omega
 rcases this with rfl | rfl | rfl | rfl | rfl | rfl | rfl | rfl | rfl | rfl <;> decide
theorem vol_bd {m : Mac} {l : Lim} {k : Nat} (hm : MacV m) (hl : 0 ≤ l.volt ∧ l.volt ≤ 1000) (hk : k < m.br.length) : 0 ≤ volA m l k ∧ volA m l k ≤ 1000 := by
 obtain ⟨⟨h0, h1⟩, _⟩ := hm.br k hk
 unfold volA
 obtain h | h : (bAt m.br k).tap = 0 ∨ (bAt m.br k).tap = 1 := by omega
 ·rw [h, Int.zero_mul]; omega
 ·rw [h, Int.one_mul]; exact hl
theorem snoc_ind {α : Type} {P : List α → Prop} (h0 : P []) (h1 : ∀ L k, P L → P (L ++ [k])) (L : List α) : P L := by
 have key : ∀ M : List α, P M.reverse := by
  intro M
  induction M with
  | nil => exact h0
  | cons x r ih => rw [List.reverse_cons]; exact h1 _ _ ih
 have := key L.reverse
 rwa [List.reverse_reverse] at this
theorem sums_bd {m : Mac} {l : Lim} {load : Int} (hm : MacV m) (hl : 0 ≤ l.volt ∧ l.volt ≤ 1000) (hd : -1000 ≤ load ∧ load ≤ 1000) : ∀ L : List Nat, (∀ k ∈ L, k < m.br.length ∧ (bAt m.br k).res ≠ 0) →
    (-2520000 ≤ numL m l load L ∧ numL m l load L ≤ 2520000 + L.length * 2520000) ∧ (L.length * 252 ≤ denL m L ∧ denL m L ≤ L.length * 2520) := by
 refine snoc_ind ?_ ?_
 ·intro _; unfold numL denL; simp only [List.foldl_nil, List.length_nil]; omega
 ·intro L k ih h
  obtain ⟨⟨a1, a2⟩, b1, b2⟩ := ih (fun j hj => h j (List.mem_append_left _ hj))
  obtain ⟨hk, hr⟩ := h k (by simp)
  obtain ⟨_, r0, r1⟩ := hm.br k hk
  obtain ⟨v0, v1⟩ := vol_bd hm hl hk
  obtain ⟨d0, d1⟩ := div_res (r := (bAt m.br k).res) (by omega) r1
  rw [numL_snoc, denL_snoc, List.length_append, List.length_singleton]
  generalize (bAt m.br k).res = r at *
  generalize volA m l k = v at *
  generalize 2520 / r = q at *
  have p0 : 0 ≤ v * q := Int.mul_nonneg v0 (by omega)
  have p1 : v * q ≤ 1000 * 2520 := Int.mul_le_mul v1 d1 (by omega) (by decide)
  push_cast
  omega
end Go.Proofs.YtidboecjllaofaaGreat

/- Whole numbers of any size as digits to the base 1000000000, the lowest first. No program in sight. -/
namespace Go.Proofs.YtidboecjllaofaaGreat
open Go.RowKit
set_option linter.unusedVariables false
def pw : Nat → Int
 | 0 => 1
 | n + 1 => 1000000000 * pw n
def dval : List Int → Int
 | [] => 0
 | d :: l => d + 1000000000 * dval l
def DOk (l : List Int) : Prop := ∀ d ∈ l, 0 ≤ d ∧ d ≤ 999999999
def Top (l : List Int) : Prop := ∀ k, l.length = k + 1 → l.getD k 0 ≠ 0
theorem pw_pos (n : Nat) : 1 ≤ pw n := by
 induction n with
 | zero => simp [pw]
 | succ n ih => simp only [pw]; omega
theorem pw_mono {m n : Nat} (h : m ≤ n) : pw m ≤ pw n := by
 induction n with
 | zero => obtain rfl : m = 0 := by omega
           exact Int.le_refl _
 | succ n ih =>
  by_cases h1 : m = n + 1
  ·subst h1; exact Int.le_refl _
  ·have := ih (by omega); have := pw_pos n; simp only [pw]; omega
theorem pw_add (m n : Nat) : pw (m + n) = pw m * pw n := by
 induction m with
 | zero => simp [pw]
 | succ m ih => rw [show m + 1 + n = (m + n) + 1 by omega]; simp only [pw]; rw [ih, Int.mul_assoc]
theorem DOk.nil : DOk [] := by intro d h; simp at h
theorem DOk.cons {d : Int} {l : List Int} (h : DOk (d :: l)) : (0 ≤ d ∧ d ≤ 999999999) ∧ DOk l := ⟨h d (by simp), fun e he => h e (by simp [he])⟩
theorem DOk.app {a b : List Int} (h : DOk a) (k : DOk b) : DOk (a ++ b) := fun d hd => by
 rcases List.mem_append.1 hd with h1 | h1
 ·exact h d h1
 ·exact k d h1
theorem DOk.one {d : Int} (h : 0 ≤ d) (k : d ≤ 999999999) : DOk [d] := fun e he => by simp at he; subst he; exact ⟨h, k⟩
theorem DOk.take {l : List Int} (h : DOk l) (n : Nat) : DOk (l.take n) := fun d hd => h d (List.mem_of_mem_take hd)
theorem DOk.drop {l : List Int} (h : DOk l) (n : Nat) : DOk (l.drop n) := fun d hd => h d (List.mem_of_mem_drop hd)
theorem DOk.get {l : List Int} (h : DOk l) (i : Nat) : 0 ≤ l.getD i 0 ∧ l.getD i 0 ≤ 999999999 := by
 by_cases hi : i < l.length
 ·have : l.getD i 0 ∈ l := by rw [List.getD_eq_getElem?_getD, List.getElem?_eq_getElem hi]; simp
  exact h _ this
 ·rw [List.getD_eq_getElem?_getD, List.getElem?_eq_none (by omega)]; simp
theorem DOk.set {l : List Int} (h : DOk l) (i : Nat) {x : Int} (h0 : 0 ≤ x) (h1 : x ≤ 999999999) : DOk (l.set i x) := fun d hd => by
 rcases List.mem_or_eq_of_mem_set hd with h2 | h2
 ·exact h d h2
 ·subst h2; exact ⟨h0, h1⟩
theorem dval_bd {l : List Int} (h : DOk l) : 0 ≤ dval l ∧ dval l < pw l.length := by
 induction l with
 | nil => simp [dval, pw]
 | cons d l ih =>
  obtain ⟨hd, hl⟩ := h.cons
  have := ih hl
  simp only [dval, List.length_cons, pw]
  omega
theorem dval_app (a b : List Int) : dval (a ++ b) = dval a + pw a.length * dval b := by
 induction a with
 | nil => simp [dval, pw]
 | cons d a ih =>
  simp only [List.cons_append, dval, List.length_cons, pw]
  rw [ih]; grind
theorem dval_one (d : Int) : dval [d] = d := by simp [dval]
theorem dval_drop (l : List Int) (k : Nat) : dval (l.drop k) = l.getD k 0 + 1000000000 * dval (l.drop (k + 1)) := by
 by_cases h : k < l.length
 ·rw [List.drop_eq_getElem_cons h]
  simp only [dval]
  rw [List.getD_eq_getElem?_getD, List.getElem?_eq_getElem h]; simp
 ·rw [List.drop_eq_nil_of_le (by omega), List.drop_eq_nil_of_le (by omega), List.getD_eq_getElem?_getD, List.getElem?_eq_none (by omega)]
  simp [dval]
theorem dval_split (l : List Int) (k : Nat) (h : k ≤ l.length) : dval l = dval (l.take k) + pw k * dval (l.drop k) := by
 have h1 := dval_app (l.take k) (l.drop k)
 rw [List.take_append_drop, List.length_take, Nat.min_eq_left h] at h1
 exact h1
theorem dval_take (l : List Int) (k : Nat) (h : k < l.length) : dval (l.take (k + 1)) = dval (l.take k) + pw k * l.getD k 0 := by
 have h1 := dval_split l k (by omega)
 have h2 := dval_split l (k + 1) (by omega)
 have h3 := dval_drop l k
 simp only [pw] at h2
 rw [h3] at h1
 grind
theorem dval_set (l : List Int) (k : Nat) (x : Int) (h : k < l.length) : dval (l.set k x) = dval l + pw k * (x - l.getD k 0) := by
 induction l generalizing k with
 | nil => simp at h
 | cons d l ih =>
  cases k with
  | zero => simp [List.set, dval, pw]; omega
  | succ k =>
   simp only [List.set, dval, pw, List.getD_cons_succ]
   rw [ih k (by simpa using h)]; grind
theorem getD_setW_ne (l : List Int) (i k : Nat) (x : Int) (h : k ≠ i) : (l.set k x).getD i 0 = l.getD i 0 := by
 rw [List.getD_eq_getElem?_getD, List.getD_eq_getElem?_getD, List.getElem?_set_ne h]
theorem getD_set_eq (l : List Int) (i : Nat) (x : Int) (h : i < l.length) : (l.set i x).getD i 0 = x := by
 rw [List.getD_eq_getElem?_getD, List.getElem?_set_self h]; rfl
theorem getD_zeros (n i : Nat) : (List.replicate n (0 : Int)).getD i 0 = 0 := by
 rw [List.getD_eq_getElem?_getD, List.getElem?_replicate]; split <;> rfl
theorem dval_zeros (n : Nat) : dval (List.replicate n (0 : Int)) = 0 := by
 induction n with
 | zero => rfl
 | succ n ih => simp [List.replicate_succ, dval, ih]
theorem DOk.zeros (n : Nat) : DOk (List.replicate n (0 : Int)) := fun d hd => by
 obtain ⟨_, rfl⟩ := List.mem_replicate.1 hd; omega
theorem Top.nil : Top [] := fun k h => by simp at h
theorem Top.ge {l : List Int} (h : DOk l) (t : Top l) (k : Nat) (hk : l.length = k + 1) : pw k ≤ dval l := by
 have h1 := dval_split l k (by omega)
 have h2 := dval_drop l k
 rw [List.drop_eq_nil_of_le (show l.length ≤ k + 1 by omega)] at h2
 have h3 := (dval_bd (h.take k)).1
 have h4 := h.get k
 have h5 := t k hk
 have h6 : 1 ≤ dval (l.drop k) := by simp only [dval] at h2; omega
 have h7 : pw k * 1 ≤ pw k * dval (l.drop k) := Int.mul_le_mul_of_nonneg_left h6 (by have := pw_pos k; omega)
 omega
theorem Top.len {l : List Int} (h : DOk l) (t : Top l) {K : Nat} (hb : dval l < pw K) : l.length ≤ K := by
 rcases hl : l.length with _ | k
 ·omega
 ·have h1 := t.ge h k hl
  by_cases hk : k + 1 ≤ K
  ·exact hk
  ·have := pw_mono (m := K) (n := k) (by omega); omega
theorem Top.zero {l : List Int} (h : DOk l) (t : Top l) : dval l = 0 ↔ l.length = 0 := by
 constructor
 ·intro h0
  rcases hl : l.length with _ | k
  ·rfl
  ·have h1 := t.ge h k hl
   have := pw_pos k; omega
 ·intro h0; rw [List.eq_nil_of_length_eq_zero h0]; rfl
theorem Top.short {a b : List Int} (ha : DOk a) (hb : DOk b) (tb : Top b) (h : a.length < b.length) : dval a < dval b := by
 obtain ⟨k, hk⟩ : ∃ k, b.length = k + 1 := ⟨b.length - 1, by omega⟩
 have h1 := tb.ge hb k hk
 have h2 := (dval_bd ha).2
 have h3 := pw_mono (m := a.length) (n := k) (by omega)
 omega
theorem dval_lt {a b : List Int} (ha : DOk a) (hb : DOk b) (k : Nat) (hk : k < a.length) (hk2 : k < b.length) (he : dval (a.drop (k + 1)) = dval (b.drop (k + 1))) (h : a.getD k 0 < b.getD k 0) : dval a < dval b := by
 have h1 := dval_split a k (by omega)
 have h2 := dval_split b k (by omega)
 have h3 := dval_drop a k
 have h4 := dval_drop b k
 have h5 := (dval_bd (ha.take k)).2
 rw [List.length_take, Nat.min_eq_left (by omega)] at h5
 have h6 := (dval_bd (hb.take k)).1
 have h7 : pw k * (dval (a.drop k) + 1) ≤ pw k * dval (b.drop k) := Int.mul_le_mul_of_nonneg_left (by omega) (by have := pw_pos k; omega)
 rw [Int.mul_add, Int.mul_one] at h7
 omega
theorem dval_trim (l : List Int) (k : Nat) (h : k < l.length) (h0 : l.getD k 0 = 0) : dval (l.take (k + 1)) = dval (l.take k) := by
 rw [dval_take l k h, h0]; simp
theorem sign_sub_pos {a b : Int} (h : b < a) : (a - b).sign = 1 := Int.sign_eq_one_of_pos (by omega)
theorem sign_sub_neg {a b : Int} (h : a < b) : (a - b).sign = -1 := Int.sign_eq_neg_one_of_neg (by omega)
theorem sign_sub_zero {a b : Int} (h : a = b) : (a - b).sign = 0 := by subst h; simp
theorem add_digit (o a b : List Int) (k : Nat) (c S : Int) (hl : o.length = k) (h : dval o + pw k * (c + dval (a.drop k) + dval (b.drop k)) = S) :
    dval (o ++ [(a.getD k 0 + b.getD k 0 + c) % 1000000000]) + pw (k + 1) * ((a.getD k 0 + b.getD k 0 + c) / 1000000000 + dval (a.drop (k + 1)) + dval (b.drop (k + 1))) = S := by
 rw [dval_app, dval_one, hl]
 have h1 := dval_drop a k
 have h2 := dval_drop b k
 rw [h1, h2] at h
 have h3 := Int.emod_add_mul_ediv (a.getD k 0 + b.getD k 0 + c) 1000000000
 generalize (a.getD k 0 + b.getD k 0 + c) % 1000000000 = r at *
 generalize (a.getD k 0 + b.getD k 0 + c) / 1000000000 = q at *
 simp only [pw]
 grind
theorem sub_digit (o a b : List Int) (k : Nat) (c x c' S : Int) (hl : o.length = k) (h : dval o + pw k * (dval (a.drop k) - dval (b.drop k) - c) = S) (hx : x - 1000000000 * c' = a.getD k 0 - b.getD k 0 - c) :
    dval (o ++ [x]) + pw (k + 1) * (dval (a.drop (k + 1)) - dval (b.drop (k + 1)) - c') = S := by
 rw [dval_app, dval_one, hl]
 have h1 := dval_drop a k
 have h2 := dval_drop b k
 rw [h1, h2] at h
 simp only [pw]
 grind
theorem sub_end (o : List Int) (k : Nat) (ho : DOk o) (hl : o.length = k) (X S : Int) (hX : 0 ≤ X) (hS : 0 ≤ S) (h : dval o + pw k * (0 - X) = S) : dval o = S := by
 have h1 := (dval_bd ho).2
 rw [hl] at h1
 by_cases h0 : X = 0
 ·subst h0; simpa using h
 ·have h2 : pw k * 1 ≤ pw k * X := Int.mul_le_mul_of_nonneg_left (by omega) (by have := pw_pos k; omega)
  have h3 : pw k * (0 - X) = - (pw k * X) := by grind
  omega
end Go.Proofs.YtidboecjllaofaaGreat

/- Laws of the product and the quotient, digit by digit. No program in sight. -/
namespace Go.Proofs.YtidboecjllaofaaGreat
open Go.RowKit
set_option linter.unusedVariables false
theorem mul_digit (o l : List Int) (i k : Nat) (A C V : Int) (h : i + k < o.length) (hv : dval o + pw (i + k) * C = V + pw i * (A * dval (l.take k))) (hk : k < l.length) :
    dval (o.set (i + k) ((o.getD (i + k) 0 + A * l.getD k 0 + C) % 1000000000)) + pw (i + (k + 1)) * ((o.getD (i + k) 0 + A * l.getD k 0 + C) / 1000000000) = V + pw i * (A * dval (l.take (k + 1))) := by
 rw [dval_set _ _ _ h, dval_take l k hk]
 have h3 := Int.emod_add_mul_ediv (o.getD (i + k) 0 + A * l.getD k 0 + C) 1000000000
 have h4 : pw (i + (k + 1)) = 1000000000 * pw (i + k) := by rw [← Nat.add_assoc]; rfl
 have h5 := pw_add i k
 rw [h4]
 generalize (o.getD (i + k) 0 + A * l.getD k 0 + C) % 1000000000 = r at *
 generalize (o.getD (i + k) 0 + A * l.getD k 0 + C) / 1000000000 = q at *
 grind
theorem mul_row (o l1 l2 : List Int) (i : Nat) (C : Int) (hi : i < l1.length) (h : i + l2.length < o.length) (h0 : o.getD (i + l2.length) 0 = 0)
    (hv : dval o + pw (i + l2.length) * C = dval (l1.take i) * dval l2 + pw i * (l1.getD i 0 * dval (l2.take l2.length))) :
    dval (o.set (i + l2.length) (0 + C)) = dval (l1.take (i + 1)) * dval l2 := by
 rw [dval_set _ _ _ h, dval_take l1 i hi, h0]
 rw [List.take_length] at hv
 grind
theorem mul_carry {x a b c : Int} (hx : 0 ≤ x ∧ x ≤ 999999999) (ha : 0 ≤ a ∧ a ≤ 999999999) (hb : 0 ≤ b ∧ b ≤ 999999999) (hc : 0 ≤ c ∧ c ≤ 999999999) :
    0 ≤ x + a * b + c ∧ x + a * b + c ≤ 999999999999999999 ∧ 0 ≤ (x + a * b + c) / 1000000000 ∧ (x + a * b + c) / 1000000000 ≤ 999999999 ∧ 0 ≤ (x + a * b + c) % 1000000000 ∧ (x + a * b + c) % 1000000000 ≤ 999999999 ∧ 0 ≤ a * b ∧ a * b ≤ 999999998000000001 := by
 have h1 : 0 ≤ a * b := Int.mul_nonneg ha.1 hb.1
 have h2 : a * b ≤ 999999999 * 999999999 := Int.mul_le_mul ha.2 hb.2 hb.1 (by omega)
 omega
theorem sign_mul {x y : Int} : (x * y).sign = x.sign * y.sign := Int.sign_mul x y
theorem div_step (l q : List Int) (i : Nat) (B L L2 m : Int) (hi : i < q.length) (hq : q.getD i 0 = 0) (h : dval (l.drop (i + 1)) = dval (q.drop (i + 1)) * B + L) (h2 : l.getD i 0 + 1000000000 * L - B * m = L2) :
    dval (l.drop i) = dval ((q.set i m).drop i) * B + L2 := by
 have h3 := dval_drop l i
 have h4 := dval_drop (q.set i m) i
 rw [getD_set_eq _ _ _ hi] at h4
 have h5 : (q.set i m).drop (i + 1) = q.drop (i + 1) := List.drop_set_of_lt (by omega)
 rw [h5] at h4
 rw [h3, h4]
 grind
theorem wfloor_pos {x b Q R : Int} (hx : 0 < x) (h : (x.natAbs : Int) = Q * b + R) (h0 : 0 ≤ R) (h1 : R < b) : x / b = Q := by
 have e : x = R + Q * b := by omega
 rw [e, Int.add_mul_ediv_right _ _ (by omega), Int.ediv_eq_zero_of_lt h0 h1, Int.zero_add]
theorem wfloor_neg {x b Q R : Int} (hx : x < 0) (h : (x.natAbs : Int) = Q * b + R) (h0 : 0 < R) (h1 : R < b) : x / b = -Q - 1 := by
 have e : x = (b - R) + (-Q - 1) * b := by grind
 rw [e, Int.add_mul_ediv_right _ _ (by omega), Int.ediv_eq_zero_of_lt (by omega) (by omega), Int.zero_add]
theorem wfloor_neg0 {x b Q : Int} (hx : x < 0) (h : (x.natAbs : Int) = Q * b + 0) (h1 : 0 < b) : x / b = -Q := by
 have e : x = 0 + (-Q) * b := by grind
 rw [e, Int.add_mul_ediv_right _ _ (by omega), Int.ediv_eq_zero_of_lt (by omega) (by omega), Int.zero_add]
theorem natAbs_mul_lt {x y : Int} {K M : Nat} (hx : (x.natAbs : Int) < pw K) (hy : (y.natAbs : Int) < pw M) : ((x * y).natAbs : Int) < pw (K + M) := by
 rw [Int.natAbs_mul, pw_add, Int.natCast_mul]
 have := pw_pos K
 have := pw_pos M
 have h2 : (x.natAbs : Int) * y.natAbs ≤ (x.natAbs : Int) * (pw M) := Int.mul_le_mul_of_nonneg_left (by omega) (by omega)
 have h3 : (x.natAbs : Int) * (pw M) < pw K * pw M := Int.mul_lt_mul_of_pos_right hx (by omega)
 omega
theorem natAbs_add_lt {x y : Int} {K : Nat} (hx : (x.natAbs : Int) < pw K) (hy : (y.natAbs : Int) < pw K) : ((x + y).natAbs : Int) < pw (K + 1) := by
 simp only [pw]; omega
end Go.Proofs.YtidboecjllaofaaGreat

/- Quotients by their numerators and denominators, and how many digits these have. No program in sight. -/
namespace Go.Proofs.YtidboecjllaofaaGreat
set_option linter.unusedVariables false
theorem rat_num {x y : Int} (hy : 0 < y) : (Rat.divInt x y).num = x / (Int.gcd x y : Nat) := by
 rw [Rat.num_divInt, Int.sign_eq_one_of_pos hy, Int.one_mul, Int.gcd_comm]
theorem rat_den {x y : Int} (hy : 0 < y) : ((Rat.divInt x y).den : Int) = y / (Int.gcd x y : Nat) := by
 rw [Rat.den_divInt, if_neg (by omega), Int.gcd_comm, Int.natCast_ediv, Int.natAbs_of_nonneg (by omega)]
theorem rat_neg {x y : Int} : Rat.divInt (-x) (-y) = Rat.divInt x y := by rw [Rat.divInt_neg', Int.neg_neg]
theorem gcd_le_y {x y : Int} (hy : 0 < y) : 0 < (Int.gcd x y : Int) ∧ (Int.gcd x y : Int) ≤ y := by
 have h1 : Int.gcd x y ∣ y.natAbs := Int.gcd_dvd_natAbs_right x y
 have h2 : Int.gcd x y ≠ 0 := by intro h; rw [Int.gcd_eq_zero_iff] at h; omega
 have h3 := Nat.le_of_dvd (by omega) h1
 omega
def Sz (K : Nat) (q : Rat) : Prop := (q.num.natAbs : Int) < pw K ∧ (q.den : Int) < pw K
theorem ediv_natAbs_le (x : Int) (n : Nat) (hn : 0 < n) (hd : (n : Int) ∣ x) : (x / n).natAbs ≤ x.natAbs := by
 obtain ⟨z, rfl⟩ := hd
 rw [Int.mul_ediv_cancel_left _ (by omega), Int.natAbs_mul]
 exact Nat.le_mul_of_pos_left _ (by omega)
theorem sz_pos {x y : Int} {K : Nat} (hy : 0 < y) (hx : (x.natAbs : Int) < pw K) (hy2 : (y.natAbs : Int) < pw K) : Sz K (Rat.divInt x y) := by
 have hg := gcd_le_y (x := x) hy
 refine ⟨?_, ?_⟩
 ·rw [rat_num hy]
  have := ediv_natAbs_le x (Int.gcd x y) (by omega) (Int.gcd_dvd_left ..)
  omega
 ·rw [rat_den hy]
  have := ediv_natAbs_le y (Int.gcd x y) (by omega) (Int.gcd_dvd_right ..)
  have h2 : 0 ≤ y / (Int.gcd x y : Nat) := Int.ediv_nonneg (by omega) (by omega)
  omega
theorem den_pos (q : Rat) : 0 < (q.den : Int) := by have := q.den_nz; omega
theorem rmul_eq (a b : Rat) : a * b = Rat.divInt (a.num * b.num) (a.den * b.den) := by
 rw [← Rat.divInt_mul_divInt, Rat.num_divInt_den, Rat.num_divInt_den]
theorem radd_eq (a b : Rat) : a + b = Rat.divInt (a.num * b.den + b.num * a.den) (a.den * b.den) := by
 have h1 := den_pos a
 have h2 := den_pos b
 rw [← Rat.divInt_add_divInt _ _ (by omega) (by omega), Rat.num_divInt_den, Rat.num_divInt_den]
theorem natAbs_den (q : Rat) : (((q.den : Int)).natAbs : Int) = q.den := by omega
theorem sz_add {a b : Rat} {K M : Nat} (ha : Sz K a) (hb : Sz M b) : Sz (K + M + 1) (a + b) := by
 rw [radd_eq]
 have h1 : ((a.num * b.den).natAbs : Int) < pw (K + M) := natAbs_mul_lt ha.1 (by rw [natAbs_den]; exact hb.2)
 have h2 : ((b.num * a.den).natAbs : Int) < pw (K + M) := by rw [Nat.add_comm]; exact natAbs_mul_lt hb.1 (by rw [natAbs_den]; exact ha.2)
 have h3 : (((a.den : Int) * b.den).natAbs : Int) < pw (K + M) := natAbs_mul_lt (by rw [natAbs_den]; exact ha.2) (by rw [natAbs_den]; exact hb.2)
 have := pw_mono (m := K + M) (n := K + M + 1) (by omega)
 exact sz_pos (Int.mul_pos (den_pos a) (den_pos b)) (natAbs_add_lt h1 h2) (by omega)
theorem neg_den (q : Rat) : (-q).den = q.den := rfl
theorem sz_neg {a : Rat} {K : Nat} (ha : Sz K a) : Sz K (-a) := ⟨by rw [Rat.neg_num, Int.natAbs_neg]; exact ha.1, by rw [neg_den]; exact ha.2⟩
theorem sz_sub {a b : Rat} {K M : Nat} (ha : Sz K a) (hb : Sz M b) : Sz (K + M + 1) (a - b) := by
 rw [Rat.sub_eq_add_neg]
 exact sz_add ha (sz_neg hb)
theorem sz_int {n : Int} (h : -999999999 ≤ n) (h2 : n ≤ 999999999) : Sz 1 (n : Rat) := by
 refine ⟨?_, ?_⟩
 ·rw [Rat.num_intCast]; simp only [pw]; omega
 ·rw [Rat.den_intCast]; simp only [pw]; omega
theorem sz_frac {n d : Int} (h : (n.natAbs : Int) < pw 2) (hd : 0 < d) (h2 : d < pw 2) : Sz 2 (Rat.divInt n d) := sz_pos hd h (by omega)
theorem cmp_sign (a b : Rat) : ((a.num * b.den - b.num * a.den).sign = 0 ↔ a = b) ∧ (0 < (a.num * b.den - b.num * a.den).sign ↔ b < a) ∧ ((a.num * b.den - b.num * a.den).sign < 0 ↔ a < b) := by
 refine ⟨?_, ?_, ?_⟩
 ·rw [Int.sign_eq_zero_iff_zero, Rat.eq_iff_mul_eq_mul]; omega
 ·rw [Int.sign_pos_iff, Rat.lt_iff]; omega
 ·rw [Int.sign_neg_iff, Rat.lt_iff]; omega
end Go.Proofs.YtidboecjllaofaaGreat
