import Derived.DeepKeys4
import Derived.Test.YtdjinmieogpgcaaGreatMTNevP
/- Regulators: a tick, and what is valid. The program. -/
namespace Go.Proofs.YtdjinmieogpgcaaGreat
open Go.RowKit
set_option linter.unusedVariables false
set_option linter.unusedSimpArgs false
def momV (m : Mom) : Value := .agg #[.int .i64 m.tap, .int .i64 m.wait]
theorem act_mid {r : Reg} {m : Mom} {v : Int} (h0 : r.tgt - r.band ≤ v) (h1 : v ≤ r.tgt + r.band) : act r m v = ⟨m.tap, 0⟩ := by unfold act; rw [if_pos ⟨h0, h1⟩]
theorem act_up {r : Reg} {m : Mom} {v : Int} (hr : RegV r) (hm : MomV r m) (h : r.tgt + r.band < v) : act r m v = if max 0 m.wait + 1 = r.dly then ⟨min (max (m.tap - 1) r.lo) r.hi, 0⟩ else ⟨m.tap, max 0 m.wait + 1⟩ := by
 obtain ⟨⟨a1, a2⟩, a3, a4⟩ := hm
 have := hr.b0
 have := hr.d0
 have := hr.l1
 unfold act
 rw [if_neg (by omega), if_neg (by omega)]
 by_cases hx : max m.wait 0 + 1 < r.dly
 ·rw [if_pos hx, if_neg (by omega), show max 0 m.wait = max m.wait 0 by omega]
 ·rw [if_neg hx, if_pos (by omega), show min (max (m.tap - 1) r.lo) r.hi = max (m.tap - 1) r.lo by omega]
theorem act_dn {r : Reg} {m : Mom} {v : Int} (hr : RegV r) (hm : MomV r m) (h : v < r.tgt - r.band) : act r m v = if -(max 0 (-m.wait) + 1) = -r.dly then ⟨min (max (m.tap + 1) r.lo) r.hi, 0⟩ else ⟨m.tap, -(max 0 (-m.wait) + 1)⟩ := by
 obtain ⟨⟨a1, a2⟩, a3, a4⟩ := hm
 have := hr.b0
 have := hr.d0
 have := hr.l1
 unfold act
 rw [if_neg (by omega), if_pos (by omega)]
 by_cases hx : -r.dly < min m.wait 0 - 1
 ·rw [if_pos hx, if_neg (by omega), show -(max 0 (-m.wait) + 1) = min m.wait 0 - 1 by omega]
 ·rw [if_neg hx, if_pos (by omega), show min (max (m.tap + 1) r.lo) r.hi = min (m.tap + 1) r.hi by omega]
set_option maxHeartbeats 1000000 in
set_option maxRecDepth 100000 in
theorem acted_any (r : Reg) (m : Mom) (v : Int) (w : World) (hr : RegV r) (hm : MomV r m) :
    Calls Tryz.prog 74 #[.agg #[.int .i64 r.tgt, .int .i64 r.band, .int .i64 r.dly, .int .i64 r.stp, .int .i64 r.lo, .int .i64 r.hi], .agg #[.int .i64 m.tap, .int .i64 m.wait], .int .i64 v] w fun e' w' => e' = .returned (.agg #[.int .i64 (act r m v).tap, .int .i64 (act r m v).wait]) ∧ Below w.heap.size w w' := by
 have h1 := hr.t0
 have h2 := hr.t1
 have h3 := hr.b0
 have h4 := hr.b1
 have h5 := hr.d0
 have h6 := hr.d1
 have h7 := hr.l0
 have h8 := hr.l1
 have h9 := hr.h1
 obtain ⟨⟨m1, m2⟩, m3, m4⟩ := hm
 have HM := Lib.hid (fun (h : r.tgt - r.band ≤ v ∧ v ≤ r.tgt + r.band) => act_mid (m := m) h.1 h.2)
 have HU := Lib.hid (fun (h : r.tgt + r.band < v) => act_up hr ⟨⟨m1, m2⟩, m3, m4⟩ h)
 have HD := Lib.hid (fun (h : v < r.tgt - r.band) => act_dn hr ⟨⟨m1, m2⟩, m3, m4⟩ h)
 obtain ⟨R, hR⟩ : ∃ R, R = act r m v := ⟨_, rfl⟩
 rw [← hR] at HM HU HD ⊢
 obtain ⟨tgt, band, dly, stp, lo, hi⟩ := r
 obtain ⟨tap, wait⟩ := m
 simp only at h1 h2 h3 h4 h5 h6 h7 h8 h9 m1 m2 m3 m4 HM HU HD ⊢
 clear hR hr
 have w1 : IntKind.i64.wrap (tgt + band) = tgt + band := by rw [IntKind.wrap_i64]; omega
 have w2 : IntKind.i64.wrap (tgt - band) = tgt - band := by rw [IntKind.wrap_i64]; omega
 have w3 : IntKind.i64.wrap wait = wait := by rw [IntKind.wrap_i64]; omega
 have w4 : IntKind.i64.wrap dly = dly := by rw [IntKind.wrap_i64]; omega
 have w5 : IntKind.i64.wrap (tap - 1) = tap - 1 := by rw [IntKind.wrap_i64]; omega
 have w6 : IntKind.i64.wrap (-wait) = -wait := by rw [IntKind.wrap_i64]; omega
 have w7 : IntKind.i64.wrap (-dly) = -dly := by rw [IntKind.wrap_i64]; omega
 have w8 : IntKind.i64.wrap (tap + 1) = tap + 1 := by rw [IntKind.wrap_i64]; omega
 have w8' : IntKind.i64.wrap (tap - -1) = tap + 1 := by rw [IntKind.wrap_i64]; omega
 clear h1 h2
 by_cases hu : tgt + band < v
 ·have HV := Lib.hid (HU.out hu)
  have mx : max 0 wait = if 0 < wait then wait else 0 := by split <;> omega
  clear HM HU HD mx
  have w9 : IntKind.i64.wrap (wait + 1) = wait + 1 := by rw [IntKind.wrap_i64]; omega
  go_enter Tryz.func74, Tryz.ntmps74
  go_wp2_with fail
  all_goals
   refine bodyPost_ret (by simp [results, Tryz.results74, go_sem]; rfl) rfl ⟨?_, by (first|exact bwg|go_size)⟩
   have hv := HV.out
   simp only [beq_iff_eq, bne_iff_ne, beq_eq_false_iff_ne, ne_eq, decide_eq_true_eq, decide_eq_false_iff_not] at *
   rw [hv]
   split
   ·simp <;> omega
   ·simp <;> omega
 ·by_cases hd : v < tgt - band
  ·have HV := Lib.hid (HD.out hd)
   clear HM HU HD
   have w9 : IntKind.i64.wrap (-wait + 1) = -wait + 1 := by rw [IntKind.wrap_i64]; omega
   have w10 : IntKind.i64.wrap (-(-wait + 1)) = -(-wait + 1) := by rw [IntKind.wrap_i64]; omega
   go_enter Tryz.func74, Tryz.ntmps74
   go_wp2_with fail
   all_goals
    refine bodyPost_ret (by simp [results, Tryz.results74, go_sem]; rfl) rfl ⟨?_, by (first|exact bwg|go_size)⟩
    have hv := HV.out
    simp only [beq_iff_eq, bne_iff_ne, beq_eq_false_iff_ne, ne_eq, decide_eq_true_eq, decide_eq_false_iff_not] at *
    rw [hv]
    split
    ·simp <;> omega
    ·simp <;> omega
  ·have HV := Lib.hid (HM.out ⟨by omega, by omega⟩)
   clear HM HU HD w3 w4 w5 w6 w7 w8 w8'
   go_enter Tryz.func74, Tryz.ntmps74
   go_wp2_with fail
   refine bodyPost_ret (v := .agg #[.int .i64 tap, .int .i64 0]) (by simp [results, Tryz.results74, go_sem]) rfl ⟨by rw [HV.out], by (first|exact bwg|go_size)⟩
set_option maxHeartbeats 1000000 in
set_option maxRecDepth 100000 in
theorem ticked_any (r : Reg) (m : Mom) (d : Int) (w : World) (hr : RegV r) (hm : MomV r m) (hd : -10000 ≤ d ∧ d ≤ 10000) :
    Calls Tryz.prog 104 #[.agg #[.int .i64 r.tgt, .int .i64 r.band, .int .i64 r.dly, .int .i64 r.stp, .int .i64 r.lo, .int .i64 r.hi], .agg #[.int .i64 m.tap, .int .i64 m.wait], .int .i64 d] w fun e' w' => e' = .returned (.agg #[.int .i64 (tick r d m).tap, .int .i64 (tick r d m).wait]) ∧ Below w.heap.size w w' := by
 have hp : -400000 ≤ r.stp * m.tap ∧ r.stp * m.tap ≤ 400000 := by
  have h1 := hm.1
  have h2 := hr.l0
  have h3 := hr.h1
  have h4 : (r.stp * m.tap).natAbs ≤ 10000 * 40 := by rw [Int.natAbs_mul]; exact Nat.mul_le_mul (by have := hr.s0; have := hr.s1; omega) (by omega)
  omega
 have HA := Lib.hid (fun (W : World) => acted_any r m (d + r.stp * m.tap) W hr hm)
 obtain ⟨R, hR⟩ : ∃ R, R = act r m (d + r.stp * m.tap) := ⟨_, rfl⟩
 have hT : tick r d m = R := hR.symm
 rw [← hR] at HA
 rw [hT]
 obtain ⟨tgt, band, dly, stp, lo, hi⟩ := r
 obtain ⟨tap, wait⟩ := m
 obtain ⟨R1, R2⟩ := R
 simp only at HA hp ⊢
 generalize hP : stp * tap = P at *
 have w1 : IntKind.i64.wrap P = P := by rw [IntKind.wrap_i64]; omega
 have w2 : IntKind.i64.wrap (d + P) = d + P := by rw [IntKind.wrap_i64]; omega
 clear hr hm hR hT
 go_enter Tryz.func104, Tryz.ntmps104
 go_wp2_with fail
 refine (HA.out _).mono ?_
 rintro e5 w5 ⟨rfl, hb5⟩
 have hz5 := hb5.size
 simp only [World.size_alloc] at hz5
 have k6 : w5.heap[w.heap.size + 1 + 1]? = some (.cells #[.int .i64 0, .int .i64 0] 27) := by
  rw [hb5.block _ (by simp)]
  have := heap_alloc_new ((w.alloc (Obj.cells #[.int .i64 tgt, .int .i64 band, .int .i64 dly, .int .i64 stp, .int .i64 lo, .int .i64 hi] 25)).alloc (Obj.cells #[.int .i64 tap, .int .i64 wait] 27)) (Obj.cells #[.int .i64 0, .int .i64 0] 27)
  simpa using this
 have HB5 := Lib.hid (show Below w.heap.size w w5 by (first|exact bwg|go_size))
 obtain ⟨X6, hX6⟩ : ∃ X, X = w.heap.size + 1 + 1 := ⟨_, rfl⟩
 rw [← hX6] at k6 ⊢
 have hx6 : w.heap.size ≤ X6 := by omega
 obtain ⟨y0, y1, _⟩ := blkc2 k6
 have f0 := blk_fz k6 0
 have f1 := blk_fz k6 1
 have l6 := blk_lt k6
 have HK6 := Lib.hid k6
 clear hb5 hz5 k6 hX6
 go_wp2
 have kw := blk_set (blk_set HK6.out 0 (.int .i64 R1)) 1 (.int .i64 R2)
 obtain ⟨s0, s1, _⟩ := blkc2 kw
 refine bodyPost_ret (v := .agg #[.int .i64 R1, .int .i64 R2]) (by simp [results, Tryz.results104, go_sem, s0, s1]) rfl ⟨rfl, (HB5.out.setCell hx6 _).setCell hx6 _⟩
theorem swing_any (d : Int) (w : World) : Calls Tryz.prog 73 #[.int .i64 d] w fun e' w' => e' = .returned (.int .i64 (swE d)) ∧ Below w.heap.size w w' := by
 have HS := Lib.hid (fun (W : World) => t_small_any d 10000 W (by omega) (by omega))
 unfold swE
 generalize wi d (-10000) 10000 = b at *
 go_enter Tryz.func73, Tryz.ntmps73
 go_wp2_with fail
 refine (HS.out _).mono ?_
 rintro e5 w5 ⟨rfl, rfl⟩
 go_wp2_with fail
 refine (t_unless_any _ _ _).mono ?_
 rintro e6 w6 ⟨rfl, rfl⟩
 go_wp2
 go_ret
 exact ⟨rfl, by (first|exact bwg|go_size)⟩
def momX (r : Reg) (m : Mom) : Int := unl (wi m.tap r.lo r.hi && wi m.wait (IntKind.i64.wrap (1 - r.dly)) (IntKind.i64.wrap (r.dly - 1))) 2
theorem momX_eq {r : Reg} (m : Mom) (hr : RegV r) : momX r m = momE r m := by
 have d0 := hr.d0
 have d1 := hr.d1
 unfold momX momE
 rw [show IntKind.i64.wrap (1 - r.dly) = 1 - r.dly by rw [IntKind.wrap_i64]; omega, show IntKind.i64.wrap (r.dly - 1) = r.dly - 1 by rw [IntKind.wrap_i64]; omega]
set_option maxHeartbeats 1000000 in
set_option maxRecDepth 100000 in
theorem moment_any (r : Reg) (m : Mom) (w : World) :
    Calls Tryz.prog 72 #[.agg #[.int .i64 r.tgt, .int .i64 r.band, .int .i64 r.dly, .int .i64 r.stp, .int .i64 r.lo, .int .i64 r.hi], .agg #[.int .i64 m.tap, .int .i64 m.wait]] w fun e' w' => e' = .returned (.int .i64 (momX r m)) ∧ Below w.heap.size w w' := by
 unfold momX
 obtain ⟨tgt, band, dly, stp, lo, hi⟩ := r
 obtain ⟨tap, wait⟩ := m
 simp only
 obtain ⟨d1, w1⟩ : ∃ x, IntKind.i64.wrap (1 - dly) = x := ⟨_, rfl⟩
 obtain ⟨d2, w2⟩ : ∃ x, IntKind.i64.wrap (dly - 1) = x := ⟨_, rfl⟩
 rw [w1, w2]
 have H1 := Lib.hid (fun (W : World) => t_within_any tap lo hi W)
 have H2 := Lib.hid (fun (W : World) => t_within_any wait d1 d2 W)
 generalize wi tap lo hi = b1 at *
 generalize wi wait d1 d2 = b2 at *
 go_enter Tryz.func72, Tryz.ntmps72
 go_wp2_with fail
 refine (H1.out _).mono ?_
 rintro e5 w5 ⟨rfl, rfl⟩
 cases b1
 ·go_wp2_with fail
  refine (t_unless_any _ _ _).mono ?_
  rintro e6 w6 ⟨rfl, rfl⟩
  go_wp2
  go_ret
  exact ⟨rfl, by (first|exact bwg|go_size)⟩
 ·go_wp2_with fail
  refine (H2.out _).mono ?_
  rintro e5 w5 ⟨rfl, rfl⟩
  go_wp2_with fail
  refine (t_unless_any _ _ _).mono ?_
  rintro e6 w6 ⟨rfl, rfl⟩
  go_wp2
  go_ret
  exact ⟨ret_int (by rw [Bool.true_and]), by (first|exact bwg|go_size)⟩
theorem cr1_any (n : Int) (w : World) : Calls Tryz.prog 107 #[.int .i64 n] w fun e' w' => e' = .returned (.bool (wi n (-40) 40)) ∧ w = w' := by
 have HS := Lib.hid (fun (W : World) => t_small_any n 40 W (by omega) (by omega))
 generalize wi n (-40) 40 = b at *
 go_enter Tryz.func107, Tryz.ntmps107
 go_wp2_with fail
 refine (HS.out _).mono ?_
 rintro e5 w5 ⟨rfl, rfl⟩
 go_wp2
 go_ret
 exact ⟨rfl, rfl⟩
set_option maxHeartbeats 2000000 in
set_option maxRecDepth 100000 in
theorem checkReg_any (r : Reg) (w : World) : Calls Tryz.prog 71 #[.agg #[.int .i64 r.tgt, .int .i64 r.band, .int .i64 r.dly, .int .i64 r.stp, .int .i64 r.lo, .int .i64 r.hi]] w fun e' w' => e' = .returned (.int .i64 (regE r)) ∧ Below w.heap.size w w' := by
 obtain ⟨V, hV⟩ : ∃ V, V = regE r := ⟨_, rfl⟩
 rw [← hV]
 unfold regE regB at hV
 obtain ⟨tgt, band, dly, stp, lo, hi⟩ := r
 simp only at hV ⊢
 have H1 := Lib.hid (fun (W : World) => t_small_any tgt 10000 W (by omega) (by omega))
 have H2 := Lib.hid (fun (W : World) => t_within_any band 0 10000 W)
 have H3 := Lib.hid (fun (W : World) => t_within_any dly 1 20 W)
 have H4 := Lib.hid (fun (W : World) => t_within_any stp 1 10000 W)
 have H5 := Lib.hid (fun (W : World) => cr1_any lo W)
 have H6 := Lib.hid (fun (W : World) => cr1_any hi W)
 have HUN := Lib.hid (fun (b : Bool) (e : Int) w' => t_unless_any b e w')
 generalize wi tgt (-10000) 10000 = b1 at *
 generalize wi band 0 10000 = b2 at *
 generalize wi dly 1 20 = b3 at *
 generalize wi stp 1 10000 = b4 at *
 generalize wi lo (-40) 40 = b5 at *
 generalize wi hi (-40) 40 = b6 at *
 have HV := Lib.hid hV
 clear hV
 go_enter Tryz.func71, Tryz.ntmps71
 go_wp2_with fail
 refine (H1.out _).mono ?_
 rintro e5 w5 ⟨rfl, rfl⟩
 cases b1
 ·skip
  go_wp2_with fail
  refine later_of_eq 9 (by kernel_rfl) (by kernel_rfl) ?_; simp only [List.take_succ_cons, List.take_zero, List.drop_succ_cons, List.drop_zero]; repeat go_big_quiet_step(with_reducible exact calls_later_same (HUN.out _ _ _))
  refine wpQuiet_nil ?_; intro w9 hb9
  have HB9 := Lib.hid ((show Below w.heap.size w (w.alloc (Obj.cells #[.int .i64 tgt, .int .i64 band, .int .i64 dly, .int .i64 stp, .int .i64 lo, .int .i64 hi] 25)) by (first|exact bwg|go_size)).trans (hb9.mono (by simp)))
  clear hb9
  go_wp2_with fail
  refine (t_unless_any _ _ _).mono ?_
  rintro e10 w10 ⟨rfl, rfl⟩
  go_wp2_with fail
  refine (t_first2 _ _ _ _ _ _ (by rfl) (by simp)).mono ?_
  rintro e8 w8 ⟨rfl, hw8⟩
  have HB8 := Lib.hid (HB9.out.trans ((show Below w9.heap.size w9 w8 by rw [← hw8]; (first|exact bwg|go_size)).mono HB9.out.size))
  clear hw8
  go_wp2
  go_ret
  exact ⟨ret_int (by rw [HV.out]; simp), HB8.out⟩
 ·go_wp2_with fail
  refine (H2.out _).mono ?_
  rintro e5 w5 ⟨rfl, rfl⟩
  cases b2
  ·skip
   go_wp2_with fail
   refine later_of_eq 9 (by kernel_rfl) (by kernel_rfl) ?_; simp only [List.take_succ_cons, List.take_zero, List.drop_succ_cons, List.drop_zero]; repeat go_big_quiet_step(with_reducible exact calls_later_same (HUN.out _ _ _))
   refine wpQuiet_nil ?_; intro w9 hb9
   have HB9 := Lib.hid ((show Below w.heap.size w (w.alloc (Obj.cells #[.int .i64 tgt, .int .i64 band, .int .i64 dly, .int .i64 stp, .int .i64 lo, .int .i64 hi] 25)) by (first|exact bwg|go_size)).trans (hb9.mono (by simp)))
   clear hb9
   go_wp2_with fail
   refine (t_unless_any _ _ _).mono ?_
   rintro e10 w10 ⟨rfl, rfl⟩
   go_wp2_with fail
   refine (t_first2 _ _ _ _ _ _ (by rfl) (by simp)).mono ?_
   rintro e8 w8 ⟨rfl, hw8⟩
   have HB8 := Lib.hid (HB9.out.trans ((show Below w9.heap.size w9 w8 by rw [← hw8]; (first|exact bwg|go_size)).mono HB9.out.size))
   clear hw8
   go_wp2
   go_ret
   exact ⟨ret_int (by rw [HV.out]; simp), HB8.out⟩
  ·go_wp2_with fail
   refine (H3.out _).mono ?_
   rintro e5 w5 ⟨rfl, rfl⟩
   cases b3
   ·skip
    go_wp2_with fail
    refine later_of_eq 9 (by kernel_rfl) (by kernel_rfl) ?_; simp only [List.take_succ_cons, List.take_zero, List.drop_succ_cons, List.drop_zero]; repeat go_big_quiet_step(with_reducible exact calls_later_same (HUN.out _ _ _))
    refine wpQuiet_nil ?_; intro w9 hb9
    have HB9 := Lib.hid ((show Below w.heap.size w (w.alloc (Obj.cells #[.int .i64 tgt, .int .i64 band, .int .i64 dly, .int .i64 stp, .int .i64 lo, .int .i64 hi] 25)) by (first|exact bwg|go_size)).trans (hb9.mono (by simp)))
    clear hb9
    go_wp2_with fail
    refine (t_unless_any _ _ _).mono ?_
    rintro e10 w10 ⟨rfl, rfl⟩
    go_wp2_with fail
    refine (t_first2 _ _ _ _ _ _ (by rfl) (by simp)).mono ?_
    rintro e8 w8 ⟨rfl, hw8⟩
    have HB8 := Lib.hid (HB9.out.trans ((show Below w9.heap.size w9 w8 by rw [← hw8]; (first|exact bwg|go_size)).mono HB9.out.size))
    clear hw8
    go_wp2
    go_ret
    exact ⟨ret_int (by rw [HV.out]; simp), HB8.out⟩
   ·go_wp2_with fail
    refine (H4.out _).mono ?_
    rintro e5 w5 ⟨rfl, rfl⟩
    cases b4
    ·skip
     go_wp2_with fail
     refine later_of_eq 9 (by kernel_rfl) (by kernel_rfl) ?_; simp only [List.take_succ_cons, List.take_zero, List.drop_succ_cons, List.drop_zero]; repeat go_big_quiet_step(with_reducible exact calls_later_same (HUN.out _ _ _))
     refine wpQuiet_nil ?_; intro w9 hb9
     have HB9 := Lib.hid ((show Below w.heap.size w (w.alloc (Obj.cells #[.int .i64 tgt, .int .i64 band, .int .i64 dly, .int .i64 stp, .int .i64 lo, .int .i64 hi] 25)) by (first|exact bwg|go_size)).trans (hb9.mono (by simp)))
     clear hb9
     go_wp2_with fail
     refine (t_unless_any _ _ _).mono ?_
     rintro e10 w10 ⟨rfl, rfl⟩
     go_wp2_with fail
     refine (t_first2 _ _ _ _ _ _ (by rfl) (by simp)).mono ?_
     rintro e8 w8 ⟨rfl, hw8⟩
     have HB8 := Lib.hid (HB9.out.trans ((show Below w9.heap.size w9 w8 by rw [← hw8]; (first|exact bwg|go_size)).mono HB9.out.size))
     clear hw8
     go_wp2
     go_ret
     exact ⟨ret_int (by rw [HV.out]; simp), HB8.out⟩
    ·go_wp2_with fail
     refine (H5.out _).mono ?_
     rintro e5 w5 ⟨rfl, rfl⟩
     cases b5
     ·skip
      go_wp2_with fail
      refine later_of_eq 9 (by kernel_rfl) (by kernel_rfl) ?_; simp only [List.take_succ_cons, List.take_zero, List.drop_succ_cons, List.drop_zero]; repeat go_big_quiet_step(with_reducible exact calls_later_same (HUN.out _ _ _))
      refine wpQuiet_nil ?_; intro w9 hb9
      have HB9 := Lib.hid ((show Below w.heap.size w (w.alloc (Obj.cells #[.int .i64 tgt, .int .i64 band, .int .i64 dly, .int .i64 stp, .int .i64 lo, .int .i64 hi] 25)) by (first|exact bwg|go_size)).trans (hb9.mono (by simp)))
      clear hb9
      go_wp2_with fail
      refine (t_unless_any _ _ _).mono ?_
      rintro e10 w10 ⟨rfl, rfl⟩
      go_wp2_with fail
      refine (t_first2 _ _ _ _ _ _ (by rfl) (by simp)).mono ?_
      rintro e8 w8 ⟨rfl, hw8⟩
      have HB8 := Lib.hid (HB9.out.trans ((show Below w9.heap.size w9 w8 by rw [← hw8]; (first|exact bwg|go_size)).mono HB9.out.size))
      clear hw8
      go_wp2
      go_ret
      exact ⟨ret_int (by rw [HV.out]; simp), HB8.out⟩
     ·go_wp2_with fail
      refine (H6.out _).mono ?_
      rintro e5 w5 ⟨rfl, rfl⟩
      cases b6
      ·skip
       go_wp2_with fail
       refine later_of_eq 9 (by kernel_rfl) (by kernel_rfl) ?_; simp only [List.take_succ_cons, List.take_zero, List.drop_succ_cons, List.drop_zero]; repeat go_big_quiet_step(with_reducible exact calls_later_same (HUN.out _ _ _))
       refine wpQuiet_nil ?_; intro w9 hb9
       have HB9 := Lib.hid ((show Below w.heap.size w (w.alloc (Obj.cells #[.int .i64 tgt, .int .i64 band, .int .i64 dly, .int .i64 stp, .int .i64 lo, .int .i64 hi] 25)) by (first|exact bwg|go_size)).trans (hb9.mono (by simp)))
       clear hb9
       go_wp2_with fail
       refine (t_unless_any _ _ _).mono ?_
       rintro e10 w10 ⟨rfl, rfl⟩
       go_wp2_with fail
       refine (t_first2 _ _ _ _ _ _ (by rfl) (by simp)).mono ?_
       rintro e8 w8 ⟨rfl, hw8⟩
       have HB8 := Lib.hid (HB9.out.trans ((show Below w9.heap.size w9 w8 by rw [← hw8]; (first|exact bwg|go_size)).mono HB9.out.size))
       clear hw8
       go_wp2
       go_ret
       exact ⟨ret_int (by rw [HV.out]; simp), HB8.out⟩
      ·skip
       go_wp2_with fail
       refine later_of_eq 9 (by kernel_rfl) (by kernel_rfl) ?_; simp only [List.take_succ_cons, List.take_zero, List.drop_succ_cons, List.drop_zero]; repeat go_big_quiet_step(with_reducible exact calls_later_same (HUN.out _ _ _))
       refine wpQuiet_nil ?_; intro w9 hb9
       have HB9 := Lib.hid ((show Below w.heap.size w (w.alloc (Obj.cells #[.int .i64 tgt, .int .i64 band, .int .i64 dly, .int .i64 stp, .int .i64 lo, .int .i64 hi] 25)) by (first|exact bwg|go_size)).trans (hb9.mono (by simp)))
       clear hb9
       go_wp2_with fail
       refine (t_unless_any _ _ _).mono ?_
       rintro e10 w10 ⟨rfl, rfl⟩
       go_wp2_with fail
       refine (t_first2 _ _ _ _ _ _ (by rfl) (by simp)).mono ?_
       rintro e8 w8 ⟨rfl, hw8⟩
       have HB8 := Lib.hid (HB9.out.trans ((show Below w9.heap.size w9 w8 by rw [← hw8]; (first|exact bwg|go_size)).mono HB9.out.size))
       clear hw8
       go_wp2
       go_ret
       exact ⟨ret_int (by rw [HV.out]; simp), HB8.out⟩
def rgdE (r : Reg) (m : Mom) (d : Int) : Int := firstErr [regE r, momE r m, swE d]
theorem rgdE_eq (r : Reg) (m : Mom) (d : Int) : firstErr [regE r, momX r m, swE d] = rgdE r m d := by
 unfold rgdE
 by_cases h : regE r = 0
 ·rw [momX_eq m (regE_zero.1 h)]
 ·show (if regE r = 0 then _ else regE r) = (if regE r = 0 then _ else regE r)
  rw [if_neg h, if_neg h]
set_option maxHeartbeats 1000000 in
set_option maxRecDepth 100000 in
theorem regulated_any (r : Reg) (m : Mom) (d : Int) (w : World) :
    Calls Tryz.prog 69 #[.agg #[.int .i64 r.tgt, .int .i64 r.band, .int .i64 r.dly, .int .i64 r.stp, .int .i64 r.lo, .int .i64 r.hi], .agg #[.int .i64 m.tap, .int .i64 m.wait], .int .i64 d] w fun e' w' => e' = .returned (.int .i64 (rgdE r m d)) ∧ Below w.heap.size w w' := by
 have HC := Lib.hid (fun (W : World) => checkReg_any r W)
 have HMM := Lib.hid (fun (W : World) => moment_any r m W)
 have HSW := Lib.hid (fun (W : World) => swing_any d W)
 have hE := rgdE_eq r m d
 generalize rgdE r m d = V at *
 generalize regE r = E1 at *
 generalize momX r m = E2 at *
 generalize swE d = E3 at *
 have HE := Lib.hid hE
 clear hE
 obtain ⟨tgt, band, dly, stp, lo, hi⟩ := r
 obtain ⟨tap, wait⟩ := m
 simp only at HC HMM ⊢
 go_enter Tryz.func69, Tryz.ntmps69
 go_wp2_with fail
 refine later_of_eq 6 (by kernel_rfl) (by kernel_rfl) ?_; simp only [List.take_succ_cons, List.take_zero, List.drop_succ_cons, List.drop_zero]; repeat go_big_quiet_step(first | with_reducible exact calls_later (HC.out _) | with_reducible exact calls_later (HMM.out _))
 refine wpQuiet_nil ?_; intro w9 hb9
 have HB9 := Lib.hid ((show Below w.heap.size w ((w.alloc (Obj.cells #[.int .i64 tgt, .int .i64 band, .int .i64 dly, .int .i64 stp, .int .i64 lo, .int .i64 hi] 25)).alloc (Obj.cells #[.int .i64 tap, .int .i64 wait] 27)) by (first|exact bwg|go_size)).trans (hb9.mono (by simp; omega)))
 clear hb9
 go_wp2_with fail
 refine (HSW.out _).mono ?_
 rintro e10 w10 ⟨rfl, hb10⟩
 have HB10 := bwt HB9 hb10
 clear hb10
 go_wp2_with fail
 refine (t_first3 _ _ _ _ _ _ _ (by rfl) (by simp)).mono ?_
 rintro e8 w8 ⟨rfl, hw8⟩
 have HB8 := Lib.hid (HB10.out.trans ((show Below w10.heap.size w10 w8 by rw [← hw8]; (first|exact bwg|go_size)).mono HB10.out.size))
 clear hw8
 go_wp2
 go_ret
 exact ⟨ret_int HE.out, HB8.out⟩
def prdE (p : Pai) (d : Int) : Int := firstErr [regE p.a, regE p.b, momE p.a p.ma, momE p.b p.mb, swE d]
theorem prdE_eq (p : Pai) (d : Int) : firstErr [regE p.a, regE p.b, momX p.a p.ma, momX p.b p.mb, swE d] = prdE p d := by
 unfold prdE
 by_cases h : regE p.a = 0
 ·rw [momX_eq p.ma (regE_zero.1 h)]
  by_cases h2 : regE p.b = 0
  ·rw [momX_eq p.mb (regE_zero.1 h2)]
  ·show (if regE p.a = 0 then (if regE p.b = 0 then _ else regE p.b) else regE p.a) = (if regE p.a = 0 then (if regE p.b = 0 then _ else regE p.b) else regE p.a)
   rw [if_neg h2, if_neg h2]
 ·show (if regE p.a = 0 then _ else regE p.a) = (if regE p.a = 0 then _ else regE p.a)
  rw [if_neg h, if_neg h]
def paiC (p : Pai) : List Value := [.int .i64 p.a.tgt, .int .i64 p.a.band, .int .i64 p.a.dly, .int .i64 p.a.stp, .int .i64 p.a.lo, .int .i64 p.a.hi, .int .i64 p.b.tgt, .int .i64 p.b.band, .int .i64 p.b.dly, .int .i64 p.b.stp, .int .i64 p.b.lo, .int .i64 p.b.hi, .int .i64 p.ma.tap, .int .i64 p.ma.wait, .int .i64 p.mb.tap, .int .i64 p.mb.wait]
set_option maxHeartbeats 1000000 in
set_option maxRecDepth 100000 in
theorem pairErr_any (p : Pai) (d : Int) (w : World) :
    Calls Tryz.prog 38 #[.agg #[.int .i64 p.a.tgt, .int .i64 p.a.band, .int .i64 p.a.dly, .int .i64 p.a.stp, .int .i64 p.a.lo, .int .i64 p.a.hi, .int .i64 p.b.tgt, .int .i64 p.b.band, .int .i64 p.b.dly, .int .i64 p.b.stp, .int .i64 p.b.lo, .int .i64 p.b.hi, .int .i64 p.ma.tap, .int .i64 p.ma.wait, .int .i64 p.mb.tap, .int .i64 p.mb.wait], .int .i64 d] w fun e' w' => e' = .returned (.int .i64 (prdE p d)) ∧ Below w.heap.size w w' := by
 have HC := Lib.hid (fun (W : World) => checkReg_any p.a W)
 have HC2 := Lib.hid (fun (W : World) => checkReg_any p.b W)
 have HMM := Lib.hid (fun (W : World) => moment_any p.a p.ma W)
 have HM2 := Lib.hid (fun (W : World) => moment_any p.b p.mb W)
 have HSW := Lib.hid (fun (W : World) => swing_any d W)
 have hE := prdE_eq p d
 generalize prdE p d = V at *
 generalize regE p.a = E1 at *
 generalize regE p.b = E2 at *
 generalize momX p.a p.ma = E3 at *
 generalize momX p.b p.mb = E4 at *
 generalize swE d = E5 at *
 have HE := Lib.hid hE
 clear hE
 obtain ⟨⟨tgt, band, dly, stp, lo, hi⟩, ⟨tgt2, band2, dly2, stp2, lo2, hi2⟩, ⟨tap, wait⟩, ⟨tap2, wait2⟩⟩ := p
 simp only at HC HC2 HMM HM2 ⊢
 go_enter Tryz.func38, Tryz.ntmps38
 go_wp2_with fail
 refine later_of_eq 17 (by kernel_rfl) (by kernel_rfl) ?_; simp only [List.take_succ_cons, List.take_zero, List.drop_succ_cons, List.drop_zero]; repeat go_big_quiet_step(first | with_reducible exact calls_later (HC.out _) | with_reducible exact calls_later (HC2.out _) | with_reducible exact calls_later (HMM.out _) | with_reducible exact calls_later (HM2.out _))
 refine wpQuiet_nil ?_; intro w9 hb9
 have HB9 := Lib.hid ((show Below w.heap.size w (w.alloc (Obj.cells #[.int .i64 tgt, .int .i64 band, .int .i64 dly, .int .i64 stp, .int .i64 lo, .int .i64 hi, .int .i64 tgt2, .int .i64 band2, .int .i64 dly2, .int .i64 stp2, .int .i64 lo2, .int .i64 hi2, .int .i64 tap, .int .i64 wait, .int .i64 tap2, .int .i64 wait2] 29)) by (first|exact bwg|go_size)).trans (hb9.mono (by simp)))
 clear hb9
 go_wp2_with fail
 refine (HSW.out _).mono ?_
 rintro e10 w10 ⟨rfl, hb10⟩
 have HB10 := bwt HB9 hb10
 clear hb10
 go_wp2_with fail
 refine (t_first5 _ _ _ _ _ _ _ _ _ (by rfl) (by simp)).mono ?_
 rintro e8 w8 ⟨rfl, hw8⟩
 have HB8 := Lib.hid (HB10.out.trans ((show Below w10.heap.size w10 w8 by rw [← hw8]; (first|exact bwg|go_size)).mono HB10.out.size))
 clear hw8
 go_wp2
 go_ret
 exact ⟨ret_int HE.out, HB8.out⟩
/- Moments and pairs as keys of maps. -/
theorem laidAll : laidOutB Tryz.prog = true := by kernel_rfl
theorem rowMom : 27 < Tryz.prog.types.size := of_decide_eq_true (by kernel_rfl)
theorem rowPai : 29 < Tryz.prog.types.size := of_decide_eq_true (by kernel_rfl)
theorem lawMom : WideMaps.KeyLaw Tryz.prog 27 := deep_law_laid laidAll (m := 3) (by omega) rowMom (by kernel_rfl) (by kernel_rfl)
theorem lawPai : WideMaps.KeyLaw Tryz.prog 29 := deep_law_laid laidAll (m := 4) (by omega) rowPai (by kernel_rfl) (by kernel_rfl)
theorem someSize : ∃ d, Tryz.prog.types.size = d + 5 := ⟨Tryz.prog.types.size - 5, by kernel_rfl⟩
theorem cellsInt : Tryz.prog.cellsOf 3 = 1 := by kernel_rfl
theorem cellsMom : Tryz.prog.cellsOf 27 = 2 := by kernel_rfl
theorem cellsReg : Tryz.prog.cellsOf 25 = 6 := by kernel_rfl
theorem cellsRng : Tryz.prog.cellsOf 23 = 2 := by kernel_rfl
theorem cellsPai : Tryz.prog.cellsOf 29 = 16 := by kernel_rfl
theorem litsInt {d : Nat} {a : Int} (h : (Lit.int .i64 a).wf = true) : Tryz.prog.keyLits (d + 1) 3 [.int .i64 a] = some [.int .i64 a] := by
 simp [Program.keyLits, Tryz.underlying3, h]
theorem litsMom {d : Nat} {a b : Int} (h1 : (Lit.int .i64 a).wf = true) (h2 : (Lit.int .i64 b).wf = true) : Tryz.prog.keyLits (d + 2) 27 [.int .i64 a, .int .i64 b] = some [.int .i64 a, .int .i64 b] := by
 simp [Program.keyLits, Tryz.underlying27, Tryz.underlying3, cellsMom, cellsInt, h1, h2]
theorem litsRng {d : Nat} {a b : Int} (h1 : (Lit.int .i64 a).wf = true) (h2 : (Lit.int .i64 b).wf = true) : Tryz.prog.keyLits (d + 2) 23 [.int .i64 a, .int .i64 b] = some [.int .i64 a, .int .i64 b] := by
 simp [Program.keyLits, Tryz.underlying23, Tryz.underlying3, cellsRng, cellsInt, h1, h2]
theorem litsReg {d : Nat} {a b c e f g : Int} (h1 : (Lit.int .i64 a).wf = true) (h2 : (Lit.int .i64 b).wf = true) (h3 : (Lit.int .i64 c).wf = true) (h4 : (Lit.int .i64 e).wf = true) (h5 : (Lit.int .i64 f).wf = true) (h6 : (Lit.int .i64 g).wf = true) :
    Tryz.prog.keyLits (d + 3) 25 [.int .i64 a, .int .i64 b, .int .i64 c, .int .i64 e, .int .i64 f, .int .i64 g] = some [.int .i64 a, .int .i64 b, .int .i64 c, .int .i64 e, .int .i64 f, .int .i64 g] := by
 unfold Program.keyLits
 simp [Tryz.underlying25, cellsReg, cellsInt, cellsRng, litsInt h1, litsInt h2, litsInt h3, litsInt h4, litsRng h5 h6]
def momL (m : Mom) : Lit := .string (keyBytes [.int .i64 m.tap, .int .i64 m.wait])
def okM (m : Mom) : Prop := (-1000 ≤ m.tap ∧ m.tap ≤ 1000) ∧ -1000 ≤ m.wait ∧ m.wait ≤ 1000
theorem momKey (m : Mom) (h : okM m) : keyOf Tryz.prog 27 (momV m) = some (momL m) := by
 obtain ⟨⟨h1, h2⟩, h3, h4⟩ := h
 obtain ⟨d, hd⟩ := someSize
 unfold keyOf momV momL
 rw [Tryz.underlying27]
 have h5 : Tryz.prog.keyType 27 = true := by kernel_rfl
 have h6 : (Value.agg #[.int .i64 m.tap, .int .i64 m.wait]).formed Tryz.prog 27 = true := by simp [Value.formed, Tryz.underlying27, cellsMom]
 rw [h5, h6, hd]
 have h7 := litsMom (d := d + 4) (a := m.tap) (b := m.wait) (WalkArith.wf_i64 (by omega)) (WalkArith.wf_i64 (by omega))
 simp [Value.cells, h7]
theorem momKeys : KeyG Tryz.prog 27 momV momL okM := ⟨Go.Maps.Keyed.of_law lawMom, momKey, fun a ha => by
 obtain ⟨s, hs⟩ := lawMom.str (momKey a ha)
 rw [hs]; trivial, fun a b ha hb h => by
 have h1 := momKey a ha
 rw [h] at h1
 have := lawMom.inj h1 (momKey b hb)
 unfold momV at this
 obtain ⟨a1, a2⟩ := a
 obtain ⟨b1, b2⟩ := b
 simp at this
 obtain ⟨rfl, rfl⟩ := this
 rfl⟩
def paiV (p : Pai) : Value := .agg (paiC p).toArray
def paiI (p : Pai) : List Int := [p.a.tgt, p.a.band, p.a.dly, p.a.stp, p.a.lo, p.a.hi, p.b.tgt, p.b.band, p.b.dly, p.b.stp, p.b.lo, p.b.hi, p.ma.tap, p.ma.wait, p.mb.tap, p.mb.wait]
def paiL (p : Pai) : Lit := .string (keyBytes ((paiI p).map (Lit.int .i64)))
def okI (x : Int) : Prop := -100000 ≤ x ∧ x ≤ 100000
def okP (p : Pai) : Prop := (okI p.a.tgt ∧ okI p.a.band ∧ okI p.a.dly ∧ okI p.a.stp ∧ okI p.a.lo ∧ okI p.a.hi) ∧ (okI p.b.tgt ∧ okI p.b.band ∧ okI p.b.dly ∧ okI p.b.stp ∧ okI p.b.lo ∧ okI p.b.hi) ∧ (okI p.ma.tap ∧ okI p.ma.wait) ∧ okI p.mb.tap ∧ okI p.mb.wait
theorem okI_wf {x : Int} (h : okI x) : (Lit.int .i64 x).wf = true := WalkArith.wf_i64 (by unfold okI at h; omega)
theorem paiKey (p : Pai) (h : okP p) : keyOf Tryz.prog 29 (paiV p) = some (paiL p) := by
 obtain ⟨⟨a1, a2, a3, a4, a5, a6⟩, ⟨b1, b2, b3, b4, b5, b6⟩, ⟨c1, c2⟩, d1, d2⟩ := h
 obtain ⟨d, hd⟩ := someSize
 unfold keyOf
 rw [Tryz.underlying29]
 have h5 : Tryz.prog.keyType 29 = true := by kernel_rfl
 have h6 : (paiV p).formed Tryz.prog 29 = true := by simp [paiV, paiC, Value.formed, Tryz.underlying29, cellsPai]
 rw [h5, h6, hd]
 have h7 := litsReg (d := d + 2) (okI_wf a1) (okI_wf a2) (okI_wf a3) (okI_wf a4) (okI_wf a5) (okI_wf a6)
 have h8 := litsReg (d := d + 2) (okI_wf b1) (okI_wf b2) (okI_wf b3) (okI_wf b4) (okI_wf b5) (okI_wf b6)
 have h9 := litsMom (d := d + 3) (okI_wf c1) (okI_wf c2)
 have h10 := litsMom (d := d + 3) (okI_wf d1) (okI_wf d2)
 have h11 : Tryz.prog.keyLits (d + 5 + 1) 29 (paiV p).cells.toList = some ((paiI p).map (Lit.int .i64)) := by
  unfold Program.keyLits
  simp [Tryz.underlying29, paiV, paiC, paiI, Value.cells, cellsPai, cellsReg, cellsMom, h7, h8, h9, h10]
 simp only [Bool.and_self, if_true, h11]
 rfl
theorem paiKeys : KeyG Tryz.prog 29 paiV paiL okP := ⟨Go.Maps.Keyed.of_law lawPai, paiKey, fun a ha => by
 obtain ⟨s, hs⟩ := lawPai.str (paiKey a ha)
 rw [hs]; trivial, fun a b ha hb h => by
 have h1 := paiKey a ha
 rw [h] at h1
 have := lawPai.inj h1 (paiKey b hb)
 unfold paiV paiC at this
 obtain ⟨⟨_, _, _, _, _, _⟩, ⟨_, _, _, _, _, _⟩, ⟨_, _⟩, ⟨_, _⟩⟩ := a
 obtain ⟨⟨_, _, _, _, _, _⟩, ⟨_, _, _, _, _, _⟩, ⟨_, _⟩, ⟨_, _⟩⟩ := b
 simp at this
 obtain ⟨rfl, rfl, rfl, rfl, rfl, rfl, rfl, rfl, rfl, rfl, rfl, rfl, rfl, rfl, rfl, rfl⟩ := this
 rfl⟩
end Go.Proofs.YtdjinmieogpgcaaGreat
