import Derived.Test.YtidboecjllaofaaGreatMC
import Derived.Test.YtidboecjllaofaaGreatMH
/- Regulators and moments: the reference's errors. -/
namespace Go.Proofs.YtidboecjllaofaaGreat
open Go.RowKit
set_option linter.unusedVariables false
set_option linter.unusedSimpArgs false

set_option maxHeartbeats 2000000 in
set_option maxRecDepth 100000 in
theorem rRegulatorErr_any (r : Reg) (w : World) :
    Calls Tryz.prog 54 #[.agg #[.int .i64 r.tgt, .int .i64 r.band, .int .i64 r.dly, .int .i64 r.stp, .int .i64 r.lo, .int .i64 r.hi]] w fun e' w' => e' = .returned (.int .i64 (regE r)) ∧ Below w.heap.size w w' := by
  have HWI := Lib.hid (fun (n lo hi : Int) w' => bwithin_any n lo hi w')
  obtain ⟨E, hE⟩ : ∃ E, E = regE r := ⟨_, rfl⟩
  rw [← hE]
  have hE2 : E = if (wi r.tgt (-10000) 10000 && wi r.band 0 10000 && wi r.dly 1 20 && wi r.stp 1 10000 && wi r.lo (-40) 40 && wi r.hi (-40) 40) = true then (if r.lo ≤ r.hi then 0 else 9) else 2 := by
    rw [hE]
    unfold regE regB
    cases wi r.tgt (-10000) 10000 && wi r.band 0 10000 && wi r.dly 1 20 && wi r.stp 1 10000 && wi r.lo (-40) 40 && wi r.hi (-40) 40
    · simp [firstErr, unl]
    · by_cases h : r.lo ≤ r.hi <;> simp [firstErr, unl, h]
  obtain ⟨tgt, band, dly, stp, lo, hi⟩ := r
  simp only at hE2 ⊢
  have HE := Lib.hid hE2
  clear hE hE2
  go_enter Tryz.func54, Tryz.ntmps54
  cases h1 : wi tgt (-10000) 10000
  · skip
    go_wp2_with (go_at_call 95; refine (HWI.out _ _ _ _).mono ?_; rintro e5 w5 ⟨rfl, rfl⟩)
    go_ret
    exact ⟨by rw [HE.out, h1]; rfl, by (repeat' (first | (with_reducible exact Below.refl _ _) | (with_reducible assumption) | (with_reducible refine Below.drewN ?_ _) | (with_reducible refine Below.alloc ?_ ?_ _) | (with_reducible refine Below.drew ?_) | (with_reducible refine Below.setCell ?_ ?_ _) | (with_reducible refine Below.step (by assumption) ?_ ?_) | (with_reducible exact And.left (by assumption)) | go_size))⟩
  cases h2 : wi band 0 10000
  · skip
    go_wp2_with (go_at_call 95; refine (HWI.out _ _ _ _).mono ?_; rintro e5 w5 ⟨rfl, rfl⟩)
    go_ret
    exact ⟨by rw [HE.out, h1, h2]; rfl, by (repeat' (first | (with_reducible exact Below.refl _ _) | (with_reducible assumption) | (with_reducible refine Below.drewN ?_ _) | (with_reducible refine Below.alloc ?_ ?_ _) | (with_reducible refine Below.drew ?_) | (with_reducible refine Below.setCell ?_ ?_ _) | (with_reducible refine Below.step (by assumption) ?_ ?_) | (with_reducible exact And.left (by assumption)) | go_size))⟩
  cases h3 : wi dly 1 20
  · skip
    go_wp2_with (go_at_call 95; refine (HWI.out _ _ _ _).mono ?_; rintro e5 w5 ⟨rfl, rfl⟩)
    go_ret
    exact ⟨by rw [HE.out, h1, h2, h3]; rfl, by (repeat' (first | (with_reducible exact Below.refl _ _) | (with_reducible assumption) | (with_reducible refine Below.drewN ?_ _) | (with_reducible refine Below.alloc ?_ ?_ _) | (with_reducible refine Below.drew ?_) | (with_reducible refine Below.setCell ?_ ?_ _) | (with_reducible refine Below.step (by assumption) ?_ ?_) | (with_reducible exact And.left (by assumption)) | go_size))⟩
  cases h4 : wi stp 1 10000
  · skip
    go_wp2_with (go_at_call 95; refine (HWI.out _ _ _ _).mono ?_; rintro e5 w5 ⟨rfl, rfl⟩)
    go_ret
    exact ⟨by rw [HE.out, h1, h2, h3, h4]; rfl, by (repeat' (first | (with_reducible exact Below.refl _ _) | (with_reducible assumption) | (with_reducible refine Below.drewN ?_ _) | (with_reducible refine Below.alloc ?_ ?_ _) | (with_reducible refine Below.drew ?_) | (with_reducible refine Below.setCell ?_ ?_ _) | (with_reducible refine Below.step (by assumption) ?_ ?_) | (with_reducible exact And.left (by assumption)) | go_size))⟩
  cases h5 : wi lo (-40) 40
  · skip
    go_wp2_with (go_at_call 95; refine (HWI.out _ _ _ _).mono ?_; rintro e5 w5 ⟨rfl, rfl⟩)
    go_ret
    exact ⟨by rw [HE.out, h1, h2, h3, h4, h5]; rfl, by (repeat' (first | (with_reducible exact Below.refl _ _) | (with_reducible assumption) | (with_reducible refine Below.drewN ?_ _) | (with_reducible refine Below.alloc ?_ ?_ _) | (with_reducible refine Below.drew ?_) | (with_reducible refine Below.setCell ?_ ?_ _) | (with_reducible refine Below.step (by assumption) ?_ ?_) | (with_reducible exact And.left (by assumption)) | go_size))⟩
  cases h6 : wi hi (-40) 40
  · skip
    go_wp2_with (go_at_call 95; refine (HWI.out _ _ _ _).mono ?_; rintro e5 w5 ⟨rfl, rfl⟩)
    go_ret
    exact ⟨by rw [HE.out, h1, h2, h3, h4, h5, h6]; rfl, by (repeat' (first | (with_reducible exact Below.refl _ _) | (with_reducible assumption) | (with_reducible refine Below.drewN ?_ _) | (with_reducible refine Below.alloc ?_ ?_ _) | (with_reducible refine Below.drew ?_) | (with_reducible refine Below.setCell ?_ ?_ _) | (with_reducible refine Below.step (by assumption) ?_ ?_) | (with_reducible exact And.left (by assumption)) | go_size))⟩
  by_cases h7 : lo ≤ hi
  · have h8 : ¬ hi < lo := by omega
    go_wp2_with (go_at_call 95; refine (HWI.out _ _ _ _).mono ?_; rintro e5 w5 ⟨rfl, rfl⟩)
    go_ret
    exact ⟨by rw [HE.out, h1, h2, h3, h4, h5, h6]; simp [h7], by (repeat' (first | (with_reducible exact Below.refl _ _) | (with_reducible assumption) | (with_reducible refine Below.drewN ?_ _) | (with_reducible refine Below.alloc ?_ ?_ _) | (with_reducible refine Below.drew ?_) | (with_reducible refine Below.setCell ?_ ?_ _) | (with_reducible refine Below.step (by assumption) ?_ ?_) | (with_reducible exact And.left (by assumption)) | go_size))⟩
  · have h8 : hi < lo := by omega
    go_wp2_with (go_at_call 95; refine (HWI.out _ _ _ _).mono ?_; rintro e5 w5 ⟨rfl, rfl⟩)
    go_ret
    exact ⟨by rw [HE.out, h1, h2, h3, h4, h5, h6]; simp [h7], by (repeat' (first | (with_reducible exact Below.refl _ _) | (with_reducible assumption) | (with_reducible refine Below.drewN ?_ _) | (with_reducible refine Below.alloc ?_ ?_ _) | (with_reducible refine Below.drew ?_) | (with_reducible refine Below.setCell ?_ ?_ _) | (with_reducible refine Below.step (by assumption) ?_ ?_) | (with_reducible exact And.left (by assumption)) | go_size))⟩
set_option maxHeartbeats 2000000 in
set_option maxRecDepth 100000 in
theorem rMomentErr_any (r : Reg) (m : Mom) (w : World) (hr : RegV r) :
    Calls Tryz.prog 56 #[.agg #[.int .i64 r.tgt, .int .i64 r.band, .int .i64 r.dly, .int .i64 r.stp, .int .i64 r.lo, .int .i64 r.hi], .agg #[.int .i64 m.tap, .int .i64 m.wait]] w fun e' w' => e' = .returned (.int .i64 (momE r m)) ∧ Below w.heap.size w w' := by
  have HWI := Lib.hid (fun (n lo hi : Int) w' => bwithin_any n lo hi w')
  obtain ⟨E, hE⟩ : ∃ E, E = momE r m := ⟨_, rfl⟩
  have g1 := hr.d0
  have g2 := hr.d1
  rw [← hE]
  unfold momE unl at hE
  obtain ⟨tgt, band, dly, stp, lo, hi⟩ := r
  obtain ⟨tap, wait⟩ := m
  simp only at hE g1 g2 ⊢
  have HE := Lib.hid hE
  have v1 : IntKind.i64.wrap (1 - dly) = 1 - dly := by rw [IntKind.wrap_i64]; omega
  have v2 : IntKind.i64.wrap (dly - 1) = dly - 1 := by rw [IntKind.wrap_i64]; omega
  clear hE hr g1 g2
  go_enter Tryz.func56, Tryz.ntmps56
  cases h1 : wi tap lo hi
  · skip
    go_wp2_with (go_at_call 95; refine (HWI.out _ _ _ _).mono ?_; rintro e5 w5 ⟨rfl, rfl⟩)
    go_ret
    exact ⟨by rw [HE.out, h1]; rfl, by (repeat' (first | (with_reducible exact Below.refl _ _) | (with_reducible assumption) | (with_reducible refine Below.drewN ?_ _) | (with_reducible refine Below.alloc ?_ ?_ _) | (with_reducible refine Below.drew ?_) | (with_reducible refine Below.setCell ?_ ?_ _) | (with_reducible refine Below.step (by assumption) ?_ ?_) | (with_reducible exact And.left (by assumption)) | go_size))⟩
  cases h2 : wi wait (1 - dly) (dly - 1)
  · skip
    go_wp2_with (go_at_call 95; refine (HWI.out _ _ _ _).mono ?_; rintro e5 w5 ⟨rfl, rfl⟩)
    go_ret
    exact ⟨by rw [HE.out, h1, h2]; rfl, by (repeat' (first | (with_reducible exact Below.refl _ _) | (with_reducible assumption) | (with_reducible refine Below.drewN ?_ _) | (with_reducible refine Below.alloc ?_ ?_ _) | (with_reducible refine Below.drew ?_) | (with_reducible refine Below.setCell ?_ ?_ _) | (with_reducible refine Below.step (by assumption) ?_ ?_) | (with_reducible exact And.left (by assumption)) | go_size))⟩
  · skip
    go_wp2_with (go_at_call 95; refine (HWI.out _ _ _ _).mono ?_; rintro e5 w5 ⟨rfl, rfl⟩)
    go_ret
    exact ⟨by rw [HE.out, h1, h2]; rfl, by (repeat' (first | (with_reducible exact Below.refl _ _) | (with_reducible assumption) | (with_reducible refine Below.drewN ?_ _) | (with_reducible refine Below.alloc ?_ ?_ _) | (with_reducible refine Below.drew ?_) | (with_reducible refine Below.setCell ?_ ?_ _) | (with_reducible refine Below.step (by assumption) ?_ ?_) | (with_reducible exact And.left (by assumption)) | go_size))⟩
set_option maxHeartbeats 2000000 in
theorem rSwingErr_any (d : Int) (w : World) : Calls Tryz.prog 18 #[.int .i64 d] w fun e' w' => e' = .returned (.int .i64 (swE d)) ∧ Below w.heap.size w w' := by
  have HWI := Lib.hid (fun (n lo hi : Int) w' => bwithin_any n lo hi w')
  obtain ⟨E, hE⟩ : ∃ E, E = swE d := ⟨_, rfl⟩
  rw [← hE]
  unfold swE unl at hE
  have HE := Lib.hid hE
  clear hE
  go_enter Tryz.func18, Tryz.ntmps18
  cases h1 : wi d (-10000) 10000
  · skip
    go_wp2_with (go_at_call 95; refine (HWI.out _ _ _ _).mono ?_; rintro e5 w5 ⟨rfl, rfl⟩)
    go_ret
    exact ⟨by rw [HE.out, h1]; rfl, by (repeat' (first | (with_reducible exact Below.refl _ _) | (with_reducible assumption) | (with_reducible refine Below.drewN ?_ _) | (with_reducible refine Below.alloc ?_ ?_ _) | (with_reducible refine Below.drew ?_) | (with_reducible refine Below.setCell ?_ ?_ _) | (with_reducible refine Below.step (by assumption) ?_ ?_) | (with_reducible exact And.left (by assumption)) | go_size))⟩
  · skip
    go_wp2_with (go_at_call 95; refine (HWI.out _ _ _ _).mono ?_; rintro e5 w5 ⟨rfl, rfl⟩)
    go_ret
    exact ⟨by rw [HE.out, h1]; rfl, by (repeat' (first | (with_reducible exact Below.refl _ _) | (with_reducible assumption) | (with_reducible refine Below.drewN ?_ _) | (with_reducible refine Below.alloc ?_ ?_ _) | (with_reducible refine Below.drew ?_) | (with_reducible refine Below.setCell ?_ ?_ _) | (with_reducible refine Below.step (by assumption) ?_ ?_) | (with_reducible exact And.left (by assumption)) | go_size))⟩
end Go.Proofs.YtidboecjllaofaaGreat
