import Derived.Test.YtidboecjllaofaaGreatTRErr
import Derived.Test.YtidboecjllaofaaGreatTReg1
/- A regulator's tick: the reference. -/
namespace Go.Proofs.YtidboecjllaofaaGreat
open Go.RowKit
set_option linter.unusedVariables false
set_option linter.unusedSimpArgs false

set_option maxHeartbeats 1000000 in
set_option maxRecDepth 100000 in
theorem rActed_any (r : Reg) (m : Mom) (v : Int) (w : World) (hr : RegV r) (hm : MomV r m) :
    Calls Tryz.prog 97 #[.agg #[.int .i64 r.tgt, .int .i64 r.band, .int .i64 r.dly, .int .i64 r.stp, .int .i64 r.lo, .int .i64 r.hi], .agg #[.int .i64 m.tap, .int .i64 m.wait], .int .i64 v] w fun e' w' => e' = .returned (.agg #[.int .i64 (act r m v).tap, .int .i64 (act r m v).wait]) ∧ Below w.heap.size w w' := by
  have HWI := Lib.hid (fun (n lo hi : Int) w' => bwithin_any n lo hi w')
  have h1 := hr.t0
  have h2 := hr.t1
  have h3 := hr.b0
  have h4 := hr.b1
  have h5 := hr.d0
  have h6 := hr.d1
  have h7 := hr.l0
  have h8 := hr.l1
  have h9 := hr.h1
  obtain ⟨⟨m1, m2⟩, m3, m4⟩ := hm
  have HA := Lib.hid (show act r m v = if r.tgt - r.band ≤ v ∧ v ≤ r.tgt + r.band then ⟨m.tap, 0⟩
  else if v < r.tgt then (if -r.dly < min m.wait 0 - 1 then ⟨m.tap, min m.wait 0 - 1⟩ else ⟨min (m.tap + 1) r.hi, 0⟩)
  else (if max m.wait 0 + 1 < r.dly then ⟨m.tap, max m.wait 0 + 1⟩ else ⟨max (m.tap - 1) r.lo, 0⟩) from rfl)
  obtain ⟨R, hR⟩ : ∃ R, R = act r m v := ⟨_, rfl⟩
  rw [← hR] at HA ⊢
  obtain ⟨tgt, band, dly, stp, lo, hi⟩ := r
  obtain ⟨tap, wait⟩ := m
  simp only at h1 h2 h3 h4 h5 h6 h7 h8 h9 m1 m2 m3 m4 HA ⊢
  clear hR hr
  have w1 : IntKind.i64.wrap (tgt + band) = tgt + band := by rw [IntKind.wrap_i64]; omega
  have w2 : IntKind.i64.wrap (tgt - band) = tgt - band := by rw [IntKind.wrap_i64]; omega
  have w5 : IntKind.i64.wrap (tap - 1) = tap - 1 := by rw [IntKind.wrap_i64]; omega
  have w7 : IntKind.i64.wrap (-dly) = -dly := by rw [IntKind.wrap_i64]; omega
  have w8 : IntKind.i64.wrap (tap + 1) = tap + 1 := by rw [IntKind.wrap_i64]; omega
  by_cases hw : tgt - band ≤ v ∧ v ≤ tgt + band
  · have hwv : wi v (tgt - band) (tgt + band) = true := wi_iff.2 hw
    have HV := Lib.hid (show R = ⟨tap, 0⟩ from by rw [HA.out, if_pos hw])
    clear HA hw
    go_enter Tryz.func97, Tryz.ntmps97
    go_wp2_with (go_at_call 95; refine (HWI.out _ _ _ _).mono ?_; rintro e5 w5 ⟨rfl, rfl⟩)
    refine bodyPost_ret (v := .agg #[.int .i64 tap, .int .i64 0]) (by simp [results, Tryz.results97, go_sem]) rfl ⟨by rw [HV.out], by (repeat' (first | (with_reducible exact Below.refl _ _) | (with_reducible assumption) | (with_reducible refine Below.drewN ?_ _) | (with_reducible refine Below.alloc ?_ ?_ _) | (with_reducible refine Below.drew ?_) | (with_reducible refine Below.setCell ?_ ?_ _) | (with_reducible refine Below.step (by assumption) ?_ ?_) | (with_reducible exact And.left (by assumption)) | go_size))⟩
  · have hwv : wi v (tgt - band) (tgt + band) = false := by rw [Bool.eq_false_iff]; intro h; exact hw (wi_iff.1 h)
    by_cases hu : v < tgt
    · have HV := Lib.hid (show R = if -dly < min wait 0 - 1 then ⟨tap, min wait 0 - 1⟩ else ⟨min (tap + 1) hi, 0⟩ from by rw [HA.out, if_neg hw, if_pos hu])
      clear HA hw
      by_cases h0 : wait ≤ 0
      · have mn : min wait 0 = wait := by omega
        have w9 : IntKind.i64.wrap (wait - 1) = wait - 1 := by rw [IntKind.wrap_i64]; omega
        by_cases hd : -dly < wait - 1
        · have HV := Lib.hid (show R = ⟨tap, wait - 1⟩ from by rw [HV.out, mn, if_pos hd])
          go_enter Tryz.func97, Tryz.ntmps97
          go_wp2_with (go_at_call 95; refine (HWI.out _ _ _ _).mono ?_; rintro e5 w5 ⟨rfl, rfl⟩)
          all_goals
            refine bodyPost_ret (by simp [results, Tryz.results97, go_sem]; rfl) rfl ⟨by first | (rw [HV.out]; done) | (rw [HV.out]; simp; done) | (rw [HV.out]; simp; omega), by (repeat' (first | (with_reducible exact Below.refl _ _) | (with_reducible assumption) | (with_reducible refine Below.drewN ?_ _) | (with_reducible refine Below.alloc ?_ ?_ _) | (with_reducible refine Below.drew ?_) | (with_reducible refine Below.setCell ?_ ?_ _) | (with_reducible refine Below.step (by assumption) ?_ ?_) | (with_reducible exact And.left (by assumption)) | go_size))⟩
        · have HV := Lib.hid (show R = ⟨min (tap + 1) hi, 0⟩ from by rw [HV.out, mn, if_neg hd])
          go_enter Tryz.func97, Tryz.ntmps97
          go_wp2_with (go_at_call 95; refine (HWI.out _ _ _ _).mono ?_; rintro e5 w5 ⟨rfl, rfl⟩)
          all_goals
            refine bodyPost_ret (by simp [results, Tryz.results97, go_sem]; rfl) rfl ⟨by first | (rw [HV.out]; done) | (rw [HV.out]; simp; done) | (rw [HV.out]; simp; omega), by (repeat' (first | (with_reducible exact Below.refl _ _) | (with_reducible assumption) | (with_reducible refine Below.drewN ?_ _) | (with_reducible refine Below.alloc ?_ ?_ _) | (with_reducible refine Below.drew ?_) | (with_reducible refine Below.setCell ?_ ?_ _) | (with_reducible refine Below.step (by assumption) ?_ ?_) | (with_reducible exact And.left (by assumption)) | go_size))⟩
      · have mn : min wait 0 = 0 := by omega
        have w9 : IntKind.i64.wrap (0 - 1) = -1 := by rw [IntKind.wrap_i64]; omega
        by_cases hd : 1 < dly
        · have HV := Lib.hid (show R = ⟨tap, -1⟩ from by rw [HV.out, mn, if_pos (by omega)]; rfl)
          go_enter Tryz.func97, Tryz.ntmps97
          go_wp2_with (go_at_call 95; refine (HWI.out _ _ _ _).mono ?_; rintro e5 w5 ⟨rfl, rfl⟩)
          all_goals
            refine bodyPost_ret (by simp [results, Tryz.results97, go_sem]; rfl) rfl ⟨by first | (rw [HV.out]; done) | (rw [HV.out]; simp; done) | (rw [HV.out]; simp; omega), by (repeat' (first | (with_reducible exact Below.refl _ _) | (with_reducible assumption) | (with_reducible refine Below.drewN ?_ _) | (with_reducible refine Below.alloc ?_ ?_ _) | (with_reducible refine Below.drew ?_) | (with_reducible refine Below.setCell ?_ ?_ _) | (with_reducible refine Below.step (by assumption) ?_ ?_) | (with_reducible exact And.left (by assumption)) | go_size))⟩
        · exfalso; omega
    · have HV := Lib.hid (show R = if max wait 0 + 1 < dly then ⟨tap, max wait 0 + 1⟩ else ⟨max (tap - 1) lo, 0⟩ from by rw [HA.out, if_neg hw, if_neg hu])
      clear HA hw
      by_cases h0 : wait ≤ 0
      · have mn : max wait 0 = 0 := by omega
        have w9 : IntKind.i64.wrap (0 + 1) = 1 := by rw [IntKind.wrap_i64]; omega
        by_cases hd : 1 < dly
        · have HV := Lib.hid (show R = ⟨tap, 1⟩ from by rw [HV.out, mn, if_pos (by omega)]; rfl)
          go_enter Tryz.func97, Tryz.ntmps97
          go_wp2_with (go_at_call 95; refine (HWI.out _ _ _ _).mono ?_; rintro e5 w5 ⟨rfl, rfl⟩)
          all_goals
            refine bodyPost_ret (by simp [results, Tryz.results97, go_sem]; rfl) rfl ⟨by first | (rw [HV.out]; done) | (rw [HV.out]; simp; done) | (rw [HV.out]; simp; omega), by (repeat' (first | (with_reducible exact Below.refl _ _) | (with_reducible assumption) | (with_reducible refine Below.drewN ?_ _) | (with_reducible refine Below.alloc ?_ ?_ _) | (with_reducible refine Below.drew ?_) | (with_reducible refine Below.setCell ?_ ?_ _) | (with_reducible refine Below.step (by assumption) ?_ ?_) | (with_reducible exact And.left (by assumption)) | go_size))⟩
        · have HV := Lib.hid (show R = ⟨max (tap - 1) lo, 0⟩ from by rw [HV.out, mn, if_neg (by omega)])
          go_enter Tryz.func97, Tryz.ntmps97
          go_wp2_with (go_at_call 95; refine (HWI.out _ _ _ _).mono ?_; rintro e5 w5 ⟨rfl, rfl⟩)
          all_goals
            refine bodyPost_ret (by simp [results, Tryz.results97, go_sem]; rfl) rfl ⟨by first | (rw [HV.out]; done) | (rw [HV.out]; simp; done) | (rw [HV.out]; simp; omega), by (repeat' (first | (with_reducible exact Below.refl _ _) | (with_reducible assumption) | (with_reducible refine Below.drewN ?_ _) | (with_reducible refine Below.alloc ?_ ?_ _) | (with_reducible refine Below.drew ?_) | (with_reducible refine Below.setCell ?_ ?_ _) | (with_reducible refine Below.step (by assumption) ?_ ?_) | (with_reducible exact And.left (by assumption)) | go_size))⟩
      · have mn : max wait 0 = wait := by omega
        have w9 : IntKind.i64.wrap (wait + 1) = wait + 1 := by rw [IntKind.wrap_i64]; omega
        by_cases hd : wait + 1 < dly
        · have HV := Lib.hid (show R = ⟨tap, wait + 1⟩ from by rw [HV.out, mn, if_pos hd])
          go_enter Tryz.func97, Tryz.ntmps97
          go_wp2_with (go_at_call 95; refine (HWI.out _ _ _ _).mono ?_; rintro e5 w5 ⟨rfl, rfl⟩)
          all_goals
            refine bodyPost_ret (by simp [results, Tryz.results97, go_sem]; rfl) rfl ⟨by first | (rw [HV.out]; done) | (rw [HV.out]; simp; done) | (rw [HV.out]; simp; omega), by (repeat' (first | (with_reducible exact Below.refl _ _) | (with_reducible assumption) | (with_reducible refine Below.drewN ?_ _) | (with_reducible refine Below.alloc ?_ ?_ _) | (with_reducible refine Below.drew ?_) | (with_reducible refine Below.setCell ?_ ?_ _) | (with_reducible refine Below.step (by assumption) ?_ ?_) | (with_reducible exact And.left (by assumption)) | go_size))⟩
        · have HV := Lib.hid (show R = ⟨max (tap - 1) lo, 0⟩ from by rw [HV.out, mn, if_neg hd])
          go_enter Tryz.func97, Tryz.ntmps97
          go_wp2_with (go_at_call 95; refine (HWI.out _ _ _ _).mono ?_; rintro e5 w5 ⟨rfl, rfl⟩)
          all_goals
            refine bodyPost_ret (by simp [results, Tryz.results97, go_sem]; rfl) rfl ⟨by first | (rw [HV.out]; done) | (rw [HV.out]; simp; done) | (rw [HV.out]; simp; omega), by (repeat' (first | (with_reducible exact Below.refl _ _) | (with_reducible assumption) | (with_reducible refine Below.drewN ?_ _) | (with_reducible refine Below.alloc ?_ ?_ _) | (with_reducible refine Below.drew ?_) | (with_reducible refine Below.setCell ?_ ?_ _) | (with_reducible refine Below.step (by assumption) ?_ ?_) | (with_reducible exact And.left (by assumption)) | go_size))⟩
set_option maxHeartbeats 1000000 in
set_option maxRecDepth 100000 in
theorem rRegulated_any (r : Reg) (m : Mom) (d : Int) (w : World) (hr : RegV r) (hm : MomV r m) (hd : -10000 ≤ d ∧ d ≤ 10000) :
    Calls Tryz.prog 57 #[.agg #[.int .i64 r.tgt, .int .i64 r.band, .int .i64 r.dly, .int .i64 r.stp, .int .i64 r.lo, .int .i64 r.hi], .agg #[.int .i64 m.tap, .int .i64 m.wait], .int .i64 d] w fun e' w' => e' = .returned (.agg #[.int .i64 (tick r d m).tap, .int .i64 (tick r d m).wait]) ∧ Below w.heap.size w w' := by
  have hp : -400000 ≤ r.stp * m.tap ∧ r.stp * m.tap ≤ 400000 := by
    have h1 := hm.1
    have h2 := hr.l0
    have h3 := hr.h1
    have h4 : (r.stp * m.tap).natAbs ≤ 10000 * 40 := by rw [Int.natAbs_mul]; exact Nat.mul_le_mul (by have := hr.s0; have := hr.s1; omega) (by omega)
    omega
  have HA := Lib.hid (fun (W : World) => rActed_any r m (d + r.stp * m.tap) W hr hm)
  obtain ⟨R, hR⟩ : ∃ R, R = act r m (d + r.stp * m.tap) := ⟨_, rfl⟩
  have hT : tick r d m = R := hR.symm
  rw [← hR] at HA
  rw [hT]
  obtain ⟨tgt, band, dly, stp, lo, hi⟩ := r
  obtain ⟨tap, wait⟩ := m
  obtain ⟨R1, R2⟩ := R
  simp only at HA hp ⊢
  generalize hP : stp * tap = P at *
  have w1 : IntKind.i64.wrap P = P := by rw [IntKind.wrap_i64]; omega
  have w2 : IntKind.i64.wrap (d + P) = d + P := by rw [IntKind.wrap_i64]; omega
  clear hr hm hR hT
  go_enter Tryz.func57, Tryz.ntmps57
  go_wp2_with fail
  refine (HA.out _).mono ?_
  rintro e5 w5 ⟨rfl, hb5⟩
  have hz5 := hb5.size
  simp only [World.size_alloc] at hz5
  have k6 : w5.heap[w.heap.size + 1 + 1]? = some (.cells #[.int .i64 0, .int .i64 0] 27) := by
    rw [hb5.block _ (by simp)]
    have := heap_alloc_new ((w.alloc (Obj.cells #[.int .i64 tgt, .int .i64 band, .int .i64 dly, .int .i64 stp, .int .i64 lo, .int .i64 hi] 25)).alloc (Obj.cells #[.int .i64 tap, .int .i64 wait] 27)) (Obj.cells #[.int .i64 0, .int .i64 0] 27)
    simpa using this
  have HB5 := Lib.hid (show Below w.heap.size w w5 by (repeat' (first | (with_reducible exact Below.refl _ _) | (with_reducible assumption) | (with_reducible refine Below.drewN ?_ _) | (with_reducible refine Below.alloc ?_ ?_ _) | (with_reducible refine Below.drew ?_) | (with_reducible refine Below.setCell ?_ ?_ _) | (with_reducible refine Below.step (by assumption) ?_ ?_) | (with_reducible exact And.left (by assumption)) | go_size)))
  obtain ⟨X6, hX6⟩ : ∃ X, X = w.heap.size + 1 + 1 := ⟨_, rfl⟩
  rw [← hX6] at k6 ⊢
  have hx6 : w.heap.size ≤ X6 := by omega
  have y0 := blk_cell k6 (i := 0) rfl
  have y1 := blk_cell k6 (i := 1) rfl
  have f0 := blk_fz k6 0
  have f1 := blk_fz k6 1
  have l6 := blk_lt k6
  have HK6 := Lib.hid k6
  clear hb5 hz5 k6 hX6
  go_wp2
  have kw := blk_set (blk_set HK6.out 0 (.int .i64 R1)) 1 (.int .i64 R2)
  have s0 := blk_cell kw (i := 0) rfl
  have s1 := blk_cell kw (i := 1) rfl
  refine bodyPost_ret (v := .agg #[.int .i64 R1, .int .i64 R2]) (by simp [results, Tryz.results57, go_sem, s0, s1]) rfl ⟨rfl, (HB5.out.setCell hx6 _).setCell hx6 _⟩
end Go.Proofs.YtidboecjllaofaaGreat
