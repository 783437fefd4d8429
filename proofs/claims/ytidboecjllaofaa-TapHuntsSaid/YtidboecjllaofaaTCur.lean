import Derived.Test.YtidboecjllaofaaMJ
/- The error of currents: the program and the reference. -/
namespace Go.Proofs.Ytidboecjllaofaa
open Go.RowKit
set_option linter.unusedVariables false
set_option linter.unusedSimpArgs false

theorem natz (n : Nat) : (((n : Nat) : Int) == 0) = decide (n = 0) := by rw [Bool.eq_iff_iff]; simp
theorem curE_int (m : Mac) (s : Nat) : curE m s = firstErr [unl ((s : Int) != 0) 21, unl (((dirS m s 0 : Nat) : Int) == 0 || ((dirS m s 1 : Nat) : Int) == 0) 13, unl (decide (max ((dirS m s 0 : Nat) : Int) ((dirS m s 1 : Nat) : Int) ≤ 1)) 23] := by
  unfold curE
  rw [natz, natz]
  have e1 : ((s : Int) != 0) = decide (s ≠ 0) := by rw [Bool.eq_iff_iff]; simp
  have e2 : decide (max ((dirS m s 0 : Nat) : Int) ((dirS m s 1 : Nat) : Int) ≤ 1) = (decide (dirS m s 0 ≤ 1) && decide (dirS m s 1 ≤ 1)) := by
    rw [Bool.eq_iff_iff, Bool.and_eq_true, decide_eq_true_eq, decide_eq_true_eq, decide_eq_true_eq]; omega
  rw [e1, e2]
set_option maxHeartbeats 2000000 in
set_option maxRecDepth 100000 in
theorem currentsErr_any (m : Mac) (l : Lim) (s : Nat) (ab ag : Option Addr) (nb cb ng cg : Nat) (w : World) (hm : MacV m) (hb : BrR w ab nb m.br) (hs : s < 2 ^ nb) :
    Calls Try.prog 43 #[.agg #[.slice ab nb cb, .int .i64 m.st, .slice ag ng cg, .int .i64 l.volt, .int .i64 l.lo, .int .i64 l.hi, .int .i64 l.circ, .int .i64 l.brk, .int .i64 l.ret], .int .i64 (s : Int)] w fun e' w' => e' = .returned (.int .i64 (curE m s)) ∧ Below w.heap.size w w' := by
  have HD := Lib.hid (fun (W : World) (hbw : Below w.heap.size w W) => direct_any m l s ab ag nb cb ng cg W hm (hb.below hbw) hs)
  have HU := Lib.hid (fun (b : Bool) (e : Int) w' => t_unless_any b e w')
  obtain ⟨vo, lo, hi, ci, br, re⟩ := l
  simp only at HD ⊢
  obtain ⟨V, hV⟩ : ∃ V, V = curE m s := ⟨_, rfl⟩
  have hV2 := hV.trans (curE_int m s)
  rw [← hV]
  obtain ⟨st, hst⟩ : ∃ x, x = m.st := ⟨_, rfl⟩
  rw [← hst] at HD ⊢
  generalize dirS m s 0 = N0 at *
  generalize dirS m s 1 = N1 at *
  have HV := Lib.hid hV2
  clear hV hV2 hb hm hs hst
  go_enter Try.func43, Try.ntmps43
  go_wp2_with fail
  refine (HD.out _ (by (repeat' (first | (with_reducible exact Below.refl _ _) | (with_reducible assumption) | (with_reducible refine Below.drewN ?_ _) | (with_reducible refine Below.alloc ?_ ?_ _) | (with_reducible refine Below.drew ?_) | (with_reducible refine Below.setCell ?_ ?_ _) | (with_reducible refine Below.step (by assumption) ?_ ?_) | (with_reducible exact And.left (by assumption)) | go_size)))).mono ?_
  rintro e5 w5 ⟨rfl, hb5⟩
  have HB5 := Lib.hid (show Below w.heap.size w w5 by (repeat' (first | (with_reducible exact Below.refl _ _) | (with_reducible assumption) | (with_reducible refine Below.drewN ?_ _) | (with_reducible refine Below.alloc ?_ ?_ _) | (with_reducible refine Below.drew ?_) | (with_reducible refine Below.setCell ?_ ?_ _) | (with_reducible refine Below.step (by assumption) ?_ ?_) | (with_reducible exact And.left (by assumption)) | go_size)))
  clear hb5 HD
  obtain ⟨w8, hW⟩ : ∃ w8, w8 = w5.alloc (Obj.cells #[.int .i64 (N0 : Int), .int .i64 (N1 : Int)] 124) := ⟨_, rfl⟩
  have hb8 : Below w5.heap.size w5 w8 := by rw [hW]; (repeat' (first | (with_reducible exact Below.refl _ _) | (with_reducible assumption) | (with_reducible refine Below.drewN ?_ _) | (with_reducible refine Below.alloc ?_ ?_ _) | (with_reducible refine Below.drew ?_) | (with_reducible refine Below.setCell ?_ ?_ _) | (with_reducible refine Below.step (by assumption) ?_ ?_) | (with_reducible exact And.left (by assumption)) | go_size))
  have k8 : w8.heap[w5.heap.size]? = some (.cells #[.int .i64 (N0 : Int), .int .i64 (N1 : Int)] 124) := by rw [hW]; exact heap_alloc_new _ _
  have HB8 := Lib.hid (HB5.out.trans (hb8.mono HB5.out.size))
  clear hb8
  go_wp2_with fail
  rw [← hW]
  obtain ⟨X5, hX5⟩ : ∃ X, X = w5.heap.size := ⟨_, rfl⟩
  rw [← hX5] at k8 ⊢
  have c0 := blk_cell k8 (i := 0) rfl
  have c1 := blk_cell k8 (i := 1) rfl
  have l8 := blk_lt k8
  clear hW hX5 k8 HB5
  by_cases hx : (N0 : Int) < (N1 : Int)
  · have hv := HV.out
    rw [show max (N0 : Int) (N1 : Int) = (N1 : Int) by omega] at hv
    have HV := Lib.hid hv
    clear hv
    cases h0 : ((N0 : Int) == 0)
    · skip
      go_wp2_with fail
      refine later_of_eq 19 (by kernel_rfl) (by kernel_rfl) ?_; simp only [List.take_succ_cons, List.take_zero, List.drop_succ_cons, List.drop_zero]; repeat go_big_quiet_step (with_reducible exact calls_later_same (HU.out _ _ _))
      refine wpQuiet_nil ?_; intro w9 hb9
      have HB9 := Lib.hid (HB8.out.trans (hb9.mono HB8.out.size))
      clear hb9 c0 c1
      go_wp2_with fail
      refine (t_first3 _ _ _ _ _ _ _ (by rfl) (by simp)).mono ?_
      rintro e8 wv ⟨rfl, hwv⟩
      have HBv := Lib.hid (HB9.out.trans ((show Below w9.heap.size w9 wv by rw [← hwv]; (repeat' (first | (with_reducible exact Below.refl _ _) | (with_reducible assumption) | (with_reducible refine Below.drewN ?_ _) | (with_reducible refine Below.alloc ?_ ?_ _) | (with_reducible refine Below.drew ?_) | (with_reducible refine Below.setCell ?_ ?_ _) | (with_reducible refine Below.step (by assumption) ?_ ?_) | (with_reducible exact And.left (by assumption)) | go_size))).mono HB9.out.size))
      clear hwv
      go_wp2
      go_ret
      exact ⟨ret_int (by rw [HV.out]; first | rfl | (rw [h0]; rfl) | simp [h0]), HBv.out⟩
    · skip
      go_wp2_with fail
      refine later_of_eq 19 (by kernel_rfl) (by kernel_rfl) ?_; simp only [List.take_succ_cons, List.take_zero, List.drop_succ_cons, List.drop_zero]; repeat go_big_quiet_step (with_reducible exact calls_later_same (HU.out _ _ _))
      refine wpQuiet_nil ?_; intro w9 hb9
      have HB9 := Lib.hid (HB8.out.trans (hb9.mono HB8.out.size))
      clear hb9 c0 c1
      go_wp2_with fail
      refine (t_first3 _ _ _ _ _ _ _ (by rfl) (by simp)).mono ?_
      rintro e8 wv ⟨rfl, hwv⟩
      have HBv := Lib.hid (HB9.out.trans ((show Below w9.heap.size w9 wv by rw [← hwv]; (repeat' (first | (with_reducible exact Below.refl _ _) | (with_reducible assumption) | (with_reducible refine Below.drewN ?_ _) | (with_reducible refine Below.alloc ?_ ?_ _) | (with_reducible refine Below.drew ?_) | (with_reducible refine Below.setCell ?_ ?_ _) | (with_reducible refine Below.step (by assumption) ?_ ?_) | (with_reducible exact And.left (by assumption)) | go_size))).mono HB9.out.size))
      clear hwv
      go_wp2
      go_ret
      exact ⟨ret_int (by rw [HV.out]; first | rfl | (rw [h0]; rfl) | simp [h0]), HBv.out⟩
  · have hv := HV.out
    rw [show max (N0 : Int) (N1 : Int) = (N0 : Int) by omega] at hv
    have HV := Lib.hid hv
    clear hv
    cases h0 : ((N0 : Int) == 0)
    · skip
      go_wp2_with fail
      refine later_of_eq 19 (by kernel_rfl) (by kernel_rfl) ?_; simp only [List.take_succ_cons, List.take_zero, List.drop_succ_cons, List.drop_zero]; repeat go_big_quiet_step (with_reducible exact calls_later_same (HU.out _ _ _))
      refine wpQuiet_nil ?_; intro w9 hb9
      have HB9 := Lib.hid (HB8.out.trans (hb9.mono HB8.out.size))
      clear hb9 c0 c1
      go_wp2_with fail
      refine (t_first3 _ _ _ _ _ _ _ (by rfl) (by simp)).mono ?_
      rintro e8 wv ⟨rfl, hwv⟩
      have HBv := Lib.hid (HB9.out.trans ((show Below w9.heap.size w9 wv by rw [← hwv]; (repeat' (first | (with_reducible exact Below.refl _ _) | (with_reducible assumption) | (with_reducible refine Below.drewN ?_ _) | (with_reducible refine Below.alloc ?_ ?_ _) | (with_reducible refine Below.drew ?_) | (with_reducible refine Below.setCell ?_ ?_ _) | (with_reducible refine Below.step (by assumption) ?_ ?_) | (with_reducible exact And.left (by assumption)) | go_size))).mono HB9.out.size))
      clear hwv
      go_wp2
      go_ret
      exact ⟨ret_int (by rw [HV.out]; first | rfl | (rw [h0]; rfl) | simp [h0]), HBv.out⟩
    · skip
      go_wp2_with fail
      refine later_of_eq 19 (by kernel_rfl) (by kernel_rfl) ?_; simp only [List.take_succ_cons, List.take_zero, List.drop_succ_cons, List.drop_zero]; repeat go_big_quiet_step (with_reducible exact calls_later_same (HU.out _ _ _))
      refine wpQuiet_nil ?_; intro w9 hb9
      have HB9 := Lib.hid (HB8.out.trans (hb9.mono HB8.out.size))
      clear hb9 c0 c1
      go_wp2_with fail
      refine (t_first3 _ _ _ _ _ _ _ (by rfl) (by simp)).mono ?_
      rintro e8 wv ⟨rfl, hwv⟩
      have HBv := Lib.hid (HB9.out.trans ((show Below w9.heap.size w9 wv by rw [← hwv]; (repeat' (first | (with_reducible exact Below.refl _ _) | (with_reducible assumption) | (with_reducible refine Below.drewN ?_ _) | (with_reducible refine Below.alloc ?_ ?_ _) | (with_reducible refine Below.drew ?_) | (with_reducible refine Below.setCell ?_ ?_ _) | (with_reducible refine Below.step (by assumption) ?_ ?_) | (with_reducible exact And.left (by assumption)) | go_size))).mono HB9.out.size))
      clear hwv
      go_wp2
      go_ret
      exact ⟨ret_int (by rw [HV.out]; first | rfl | (rw [h0]; rfl) | simp [h0]), HBv.out⟩
theorem cloU_six : ∀ n < 7, ∀ s < 2 ^ n, cloU s 6 = cloU s n := by decide +kernel
theorem curE_cases (m : Mac) (s : Nat) : curE m s = if s = 0 then 21 else if 0 < dirS m s 0 ∧ 0 < dirS m s 1 then 13 else if 1 < dirS m s 0 ∨ 1 < dirS m s 1 then 23 else 0 := by
  unfold curE
  generalize dirS m s 0 = a
  generalize dirS m s 1 = b
  by_cases h : s = 0
  · simp [h, unl, firstErr]
  · rw [if_neg h, decide_eq_true (show s ≠ 0 from h)]
    by_cases h1 : 0 < a ∧ 0 < b
    · rw [if_pos h1, decide_eq_false (show ¬ a = 0 by omega), decide_eq_false (show ¬ b = 0 by omega)]; rfl
    · have e : (decide (a = 0) || decide (b = 0)) = true := by
        rw [Bool.or_eq_true, decide_eq_true_eq, decide_eq_true_eq]; omega
      rw [if_neg h1, e]
      by_cases h2 : 1 < a ∨ 1 < b
      · have e2 : (decide (a ≤ 1) && decide (b ≤ 1)) = false := by
          rw [Bool.and_eq_false_iff, decide_eq_false_iff_not, decide_eq_false_iff_not]; omega
        rw [if_pos h2, e2]; rfl
      · have e2 : (decide (a ≤ 1) && decide (b ≤ 1)) = true := by
          rw [Bool.and_eq_true, decide_eq_true_eq, decide_eq_true_eq]; omega
        rw [if_neg h2, e2]; rfl
end Go.Proofs.Ytidboecjllaofaa
