import Derived.Test.YthkekjgdknnaiaaGreatMDDist
import Derived.Test.YthkekjgdknnaiaaGreatMDLvl
import Derived.Test.YthkekjgdknnaiaaGreatMDRErr
import Derived.Test.YthkekjgdknnaiaaGreatMDSubs
import Derived.Test.YthkekjgdknnaiaaGreatRLvP
/- Calibrations: the program's function. -/
namespace Go.Proofs.YthkekjgdknnaiaaGreat
open Go.RowKit
set_option linter.unusedVariables false

def mxU (l : List Int) (k : Nat) : Int := (l.take k).foldl max (l.headD 0)
def mnU (l : List Int) (k : Nat) : Int := (l.take k).foldl min (l.headD 0)
theorem mxU_step {l : List Int} {k : Nat} (h : k < l.length) : mxU l (k + 1) = max (mxU l k) (l.getD k 0) := by
  unfold mxU
  rw [List.take_add_one, List.getElem?_eq_getElem h, List.foldl_append, List.getD_eq_getElem?_getD, List.getElem?_eq_getElem h]; rfl
theorem mnU_step {l : List Int} {k : Nat} (h : k < l.length) : mnU l (k + 1) = min (mnU l k) (l.getD k 0) := by
  unfold mnU
  rw [List.take_add_one, List.getElem?_eq_getElem h, List.foldl_append, List.getD_eq_getElem?_getD, List.getElem?_eq_getElem h]; rfl
theorem mxU_zero (l : List Int) : mxU l 0 = l.headD 0 := rfl
theorem mnU_zero (l : List Int) : mnU l 0 = l.headD 0 := rfl
theorem headD_get (l : List Int) : l.headD 0 = l.getD 0 0 := by cases l <;> rfl
theorem mxU_one {l : List Int} (h : 0 < l.length) : mxU l 1 = l.headD 0 := by rw [mxU_step h, mxU_zero, headD_get]; exact Int.max_self _
theorem mnU_one {l : List Int} (h : 0 < l.length) : mnU l 1 = l.headD 0 := by rw [mnU_step h, mnU_zero, headD_get]; exact Int.min_self _
theorem mxU_all {l : List Int} {n : Nat} (h : l.length = n) : mxU l n = mx l := by unfold mxU mx; rw [List.take_of_length_le (by omega)]
theorem mnU_all {l : List Int} {n : Nat} (h : l.length = n) : mnU l n = mn l := by unfold mnU mn; rw [List.take_of_length_le (by omega)]
set_option maxHeartbeats 1000000 in
set_option maxRecDepth 100000 in
theorem maxInts_any (l : List Int) (a : Option Addr) (n c : Nat) (w : World) (hl : IntsR w a n l) (h0 : 0 < n) :
    Calls Tryz.prog 102 #[.slice a n c] w fun e' w' => e' = .returned (.int .i64 (mx l)) ∧ w = w' := by
  have hn := hl.small
  have HLN := Lib.hid hl.len
  obtain ⟨b, o, rfl, hb, hc⟩ := hl.addr h0
  have c0 := hc 0 h0
  rw [← headD_get, Nat.add_zero] at c0
  have HC := Lib.hid hc
  have g0 : ((n : Int) < 1) = False := by simp; omega
  have g0' : decide ((n : Int) < 1) = false := decide_eq_false (by omega)
  have hp : (0 : Int) < (n : Int) := by omega
  have H1 := Lib.hid (mxU_one (l := l) (by rw [hl.len]; exact h0)).symm
  have HV := Lib.hid (mxU_all hl.len)
  generalize l.headD 0 = x0 at *
  clear hl hc
  go_enter Tryz.func102, Tryz.ntmps102
  go_wp2_with fail
  clear c0
  go_loopw [3, 4] (fun v i wr => ∃ (k : Nat) (M : Int), i = .int .i64 k ∧ v = .int .i64 M ∧ k ≤ n ∧ 1 ≤ k ∧ Hid (M = mxU l k) ∧ wr = w) (fun _ i _ => n - (intOf i).toNat)
  case atStart => exact ⟨1, x0, rfl, rfl, by omega, by omega, H1, rfl⟩
  case round =>
    obtain ⟨k, M, rfl, rfl, hk, hk1, hM, rfl⟩ := hrel
    have i0 : (0 : Int) ≤ (k : Int) := by omega
    by_cases hlt : k < n
    · have i1 : (k : Int) < (n : Int) := by omega
      have ck := HC.out k hlt
      have hs := mxU_step (l := l) (k := k) (by rw [HLN.out]; exact hlt)
      rw [← hM.out] at hs
      generalize l.getD k 0 = x at *
      have HS := Lib.hid hs.symm
      clear hs
      go_wp2
      go_roundw
      case rel => exact ⟨k + 1, _, by go_num, rfl, by omega, by omega, HS, by first | rfl | trivial⟩
      case measure => simp [intOf]; omega
    · obtain rfl : k = n := by omega
      have HM := Lib.hid (hM.out.trans HV.out)
      clear hM
      go_wp2
      go_ret
      exact ⟨ret_int HM.out, rfl⟩
set_option maxHeartbeats 1000000 in
set_option maxRecDepth 100000 in
theorem minInts_any (l : List Int) (a : Option Addr) (n c : Nat) (w : World) (hl : IntsR w a n l) (h0 : 0 < n) :
    Calls Tryz.prog 103 #[.slice a n c] w fun e' w' => e' = .returned (.int .i64 (mn l)) ∧ w = w' := by
  have hn := hl.small
  have HLN := Lib.hid hl.len
  obtain ⟨b, o, rfl, hb, hc⟩ := hl.addr h0
  have c0 := hc 0 h0
  rw [← headD_get, Nat.add_zero] at c0
  have HC := Lib.hid hc
  have g0 : ((n : Int) < 1) = False := by simp; omega
  have g0' : decide ((n : Int) < 1) = false := decide_eq_false (by omega)
  have hp : (0 : Int) < (n : Int) := by omega
  have H1 := Lib.hid (mnU_one (l := l) (by rw [hl.len]; exact h0)).symm
  have HV := Lib.hid (mnU_all hl.len)
  generalize l.headD 0 = x0 at *
  clear hl hc
  go_enter Tryz.func103, Tryz.ntmps103
  go_wp2_with fail
  clear c0
  go_loopw [3, 4] (fun v i wr => ∃ (k : Nat) (M : Int), i = .int .i64 k ∧ v = .int .i64 M ∧ k ≤ n ∧ 1 ≤ k ∧ Hid (M = mnU l k) ∧ wr = w) (fun _ i _ => n - (intOf i).toNat)
  case atStart => exact ⟨1, x0, rfl, rfl, by omega, by omega, H1, rfl⟩
  case round =>
    obtain ⟨k, M, rfl, rfl, hk, hk1, hM, rfl⟩ := hrel
    have i0 : (0 : Int) ≤ (k : Int) := by omega
    by_cases hlt : k < n
    · have i1 : (k : Int) < (n : Int) := by omega
      have ck := HC.out k hlt
      have hs := mnU_step (l := l) (k := k) (by rw [HLN.out]; exact hlt)
      rw [← hM.out] at hs
      generalize l.getD k 0 = x at *
      have HS := Lib.hid hs.symm
      clear hs
      go_wp2
      go_roundw
      case rel => exact ⟨k + 1, _, by go_num, rfl, by omega, by omega, HS, by first | rfl | trivial⟩
      case measure => simp [intOf]; omega
    · obtain rfl : k = n := by omega
      have HM := Lib.hid (hM.out.trans HV.out)
      clear hM
      go_wp2
      go_ret
      exact ⟨ret_int HM.out, rfl⟩
theorem cal1_any (x : Int) (w : World) : Calls Tryz.prog 98 #[.int .i64 x] w fun e w' => e = .returned (.bool (!wi x 1 4096)) ∧ w = w' := by
  go_enter Tryz.func98, Tryz.ntmps98
  go_wp2_with (go_at_call 88; refine (d_within_any _ _ _ _).mono ?_; rintro e w' ⟨rfl, rfl⟩)
  go_ret
  exact ⟨rfl, rfl⟩
theorem cal2_any (x : Int) (w : World) : Calls Tryz.prog 100 #[.int .i64 x] w fun e w' => e = .returned (.bool (wi x 1 1000000)) ∧ w = w' := by
  go_enter Tryz.func100, Tryz.ntmps100
  go_wp2_with (go_at_call 88; refine (d_within_any _ _ _ _).mono ?_; rintro e w' ⟨rfl, rfl⟩)
  go_ret
  exact ⟨rfl, rfl⟩
theorem cf_cal1 (args : Array Value) (w : World) : (callFunc 98 args).run Tryz.prog w = .ok (.enter 98 args) w := by kernel_rfl
theorem cf_cal2 (args : Array Value) (w : World) : (callFunc 100 args).run Tryz.prog w = .ok (.enter 100 args) w := by kernel_rfl
theorem mxU_bd {l : List Int} (h : ∀ x ∈ l, 1 ≤ x ∧ x ≤ 4096) : ∀ k, 0 < l.length → k ≤ l.length → 1 ≤ mxU l k ∧ mxU l k ≤ 4096
  | 0, h0, _ => by rw [mxU_zero, headD_get]; exact h _ (getD_mem h0)
  | k + 1, h0, hk => by
    have := mxU_bd h k h0 (by omega)
    have := h _ (getD_mem (l := l) (show k < l.length by omega))
    rw [mxU_step (by omega)]; omega
theorem mnU_bd {l : List Int} (h : ∀ x ∈ l, 1 ≤ x ∧ x ≤ 4096) : ∀ k, 0 < l.length → k ≤ l.length → 1 ≤ mnU l k ∧ mnU l k ≤ 4096
  | 0, h0, _ => by rw [mnU_zero, headD_get]; exact h _ (getD_mem h0)
  | k + 1, h0, hk => by
    have := mnU_bd h k h0 (by omega)
    have := h _ (getD_mem (l := l) (show k < l.length by omega))
    rw [mnU_step (by omega)]; omega
theorem cbE_zero {l : List Int} {lo hi : Int} (h : cbE l lo hi = 0) : 0 < l.length ∧ l.length ≤ 60 ∧ (∀ x ∈ l, 1 ≤ x ∧ x ≤ 4096) ∧ (1 ≤ lo ∧ lo ≤ hi ∧ hi ≤ 1000000) := by
  unfold cbE at h
  simp only [firstErr_cons] at h
  obtain ⟨h1, h2, h3, h4, _⟩ := h
  rw [unl_eq_zero (by omega)] at h1 h2 h3
  obtain ⟨g1, g2, g3⟩ := rngEE_zero h4
  rw [wi_iff] at g1 g2
  have h2 := of_decide_eq_true h2
  refine ⟨of_decide_eq_true h1, by omega, fun x hx => ?_, g1.1, g3, g2.2⟩
  rw [Bool.not_eq_true', List.any_eq_false] at h3
  have := h3 x hx
  simpa [wi_iff] using this
set_option maxHeartbeats 2000000 in
set_option maxRecDepth 100000 in
theorem calibrationOf_any (l : List Int) (lo hi : Int) (a : Option Addr) (n c : Nat) (w : World) (hl : IntsR w a n l) :
    Calls Tryz.prog 30 #[.slice a n c, .agg #[.int .i64 lo, .int .i64 hi]] w
      fun e' w' => e' = .returned (.tuple #[.agg #[.int .i64 (calOf l lo hi).1.1.1, .int .i64 (calOf l lo hi).1.1.2, .int .i64 (calOf l lo hi).1.2.1, .int .i64 (calOf l lo hi).1.2.2], .int .i64 (calOf l lo hi).2]) ∧ Below w.heap.size w w' := by
  have hn := hl.small
  have HC := Lib.hid (fun (W : World) (hb : Below w.heap.size w W) => containsInts_any 98 (fun x => !wi x 1 4096) cf_cal1 cal1_any l a n c W (hl.below hb))
  have HU := Lib.hid (fun (b : Bool) (e : Int) w' => d_unless_any b e w')
  have HR := Lib.hid (fun w' => rangeErr_any 100 (fun x => wi x 1 1000000) cf_cal2 cal2_any lo hi w')
  have HMX := Lib.hid (fun (h0 : 0 < n) (W : World) (hb : Below w.heap.size w W) => maxInts_any l a n c W (hl.below hb) h0)
  have HMN := Lib.hid (fun (h0 : 0 < n) (W : World) (hb : Below w.heap.size w W) => minInts_any l a n c W (hl.below hb) h0)
  have hE : cbE l lo hi = firstErr [unl (decide (0 < n)) 10, unl (decide ((n : Int) ≤ 60)) 8, unl (!l.any (fun n => !wi n 1 4096)) 2, rngEE (fun n => wi n 1 1000000) lo hi] := by
    unfold cbE; rw [hl.len]
  have HZ := Lib.hid (show cbE l lo hi = 0 → 0 < n ∧ (1 ≤ lo ∧ lo ≤ 1000000) ∧ (1 ≤ hi ∧ hi ≤ 1000000) ∧ (1 ≤ mx l ∧ mx l ≤ 4096) ∧ (1 ≤ mn l ∧ mn l ≤ 4096) from fun h => by
    obtain ⟨h1, h2, h3, h4⟩ := cbE_zero h
    have h5 := mxU_bd h3 l.length h1 (Nat.le_refl _)
    have h6 := mnU_bd h3 l.length h1 (Nat.le_refl _)
    rw [mxU_all rfl] at h5
    rw [mnU_all rfl] at h6
    rw [hl.len] at h1
    exact ⟨h1, by omega, by omega, h5, h6⟩)
  have HV := Lib.hid (show calOf l lo hi = if cbE l lo hi ≠ 0 then (((0, 0), (0, 0)), cbE l lo hi) else (((lo.tdiv (gc lo (mx l)), mx l / gc lo (mx l)), (hi.tdiv (gc hi (mn l)), mn l / gc hi (mn l))), 0) from rfl)
  obtain ⟨V, hV⟩ : ∃ V, V = calOf l lo hi := ⟨_, rfl⟩
  rw [← hV] at HV ⊢
  clear hV hl
  generalize hany : l.any (fun n => !wi n 1 4096) = b1 at *
  generalize rngEE (fun n => wi n 1 1000000) lo hi = e4 at *
  generalize mx l = M at *
  generalize mn l = N at *
  generalize cbE l lo hi = E at *
  have HE := Lib.hid hE
  clear hE hany
  go_enter Tryz.func30, Tryz.ntmps30
  go_wp2_with fail
  generalize hW : World.alloc _ _ = w4
  have hb4 : Below w.heap.size w w4 := by rw [← hW]; (repeat' (first | (with_reducible exact Below.refl _ _) | (with_reducible assumption) | (with_reducible refine Below.drewN ?_ _) | (with_reducible refine Below.alloc ?_ ?_ _) | (with_reducible refine Below.drew ?_) | (with_reducible refine Below.setCell ?_ ?_ _) | (with_reducible refine Below.step (by assumption) ?_ ?_) | (with_reducible exact And.left (by assumption)) | go_size))
  have x0 : w4.cell? ⟨w.heap.size, 0, none⟩ = some (.int .i64 lo) := by { rw [← hW]; clear hW; go_simp }
  have x1 : w4.cell? ⟨w.heap.size, 1, none⟩ = some (.int .i64 hi) := by { rw [← hW]; clear hW; go_simp }
  have z0 : w4.cell? ⟨w.heap.size + 1, 0, none⟩ = some (.int .i64 0) := by { rw [← hW]; clear hW; go_simp }
  have z1 : w4.cell? ⟨w.heap.size + 1, 1, none⟩ = some (.int .i64 0) := by { rw [← hW]; clear hW; go_simp }
  have z2 : w4.cell? ⟨w.heap.size + 1, 2, none⟩ = some (.int .i64 0) := by { rw [← hW]; clear hW; go_simp }
  have z3 : w4.cell? ⟨w.heap.size + 1, 3, none⟩ = some (.int .i64 0) := by { rw [← hW]; clear hW; go_simp }
  have f0 : w4.frozen? ⟨w.heap.size + 1, 0, none⟩ = false := by { rw [← hW]; clear hW; go_simp }
  have f1 : w4.frozen? ⟨w.heap.size + 1, 1, none⟩ = false := by { rw [← hW]; clear hW; go_simp }
  have f2 : w4.frozen? ⟨w.heap.size + 1, 2, none⟩ = false := by { rw [← hW]; clear hW; go_simp }
  have f3 : w4.frozen? ⟨w.heap.size + 1, 3, none⟩ = false := by { rw [← hW]; clear hW; go_simp }
  have l0 : w.heap.size < w4.heap.size := by { rw [← hW]; clear hW; simp; omega }
  have l1 : w.heap.size + 1 < w4.heap.size := by { rw [← hW]; clear hW; simp }
  have HB := Lib.hid hb4
  clear hW hb4
  refine (HC.out _ HB.out).mono ?_
  rintro e5 w5 ⟨rfl, rfl⟩
  go_wp2_with fail
  refine later_of_eq 13 (by kernel_rfl) (by kernel_rfl) ?_; simp only [List.take_succ_cons, List.take_zero, List.drop_succ_cons, List.drop_zero]; repeat go_big_quiet_step (first | (with_reducible exact calls_later (HR.out _)) | (with_reducible exact calls_later_same (HU.out _ _ _)))
  refine wpQuiet_nil ?_; intro w5 hb5
  have hz5 := hb5.size
  have x0d : w5.cell? ⟨w.heap.size, 0, none⟩ = some (.int .i64 lo) := by { rw [cellB hb5 _ _ (by first | (simp; done) | (simp; omega) | omega)]; all_goals (first | assumption | go_simp) }; have x1d : w5.cell? ⟨w.heap.size, 1, none⟩ = some (.int .i64 hi) := by { rw [cellB hb5 _ _ (by first | (simp; done) | (simp; omega) | omega)]; all_goals (first | assumption | go_simp) }; have z0d : w5.cell? ⟨w.heap.size + 1, 0, none⟩ = some (.int .i64 0) := by { rw [cellB hb5 _ _ (by first | (simp; done) | (simp; omega) | omega)]; all_goals (first | assumption | go_simp) }; have z1d : w5.cell? ⟨w.heap.size + 1, 1, none⟩ = some (.int .i64 0) := by { rw [cellB hb5 _ _ (by first | (simp; done) | (simp; omega) | omega)]; all_goals (first | assumption | go_simp) }; have z2d : w5.cell? ⟨w.heap.size + 1, 2, none⟩ = some (.int .i64 0) := by { rw [cellB hb5 _ _ (by first | (simp; done) | (simp; omega) | omega)]; all_goals (first | assumption | go_simp) }; have z3d : w5.cell? ⟨w.heap.size + 1, 3, none⟩ = some (.int .i64 0) := by { rw [cellB hb5 _ _ (by first | (simp; done) | (simp; omega) | omega)]; all_goals (first | assumption | go_simp) }; have f0d : w5.frozen? ⟨w.heap.size + 1, 0, none⟩ = false := by { rw [frozenB hb5 _ _ (by first | (simp; done) | (simp; omega) | omega)]; all_goals (first | assumption | go_simp) }; have f1d : w5.frozen? ⟨w.heap.size + 1, 1, none⟩ = false := by { rw [frozenB hb5 _ _ (by first | (simp; done) | (simp; omega) | omega)]; all_goals (first | assumption | go_simp) }; have f2d : w5.frozen? ⟨w.heap.size + 1, 2, none⟩ = false := by { rw [frozenB hb5 _ _ (by first | (simp; done) | (simp; omega) | omega)]; all_goals (first | assumption | go_simp) }; have f3d : w5.frozen? ⟨w.heap.size + 1, 3, none⟩ = false := by { rw [frozenB hb5 _ _ (by first | (simp; done) | (simp; omega) | omega)]; all_goals (first | assumption | go_simp) }; have l0d : w.heap.size < w5.heap.size := by { omega }; have l1d : w.heap.size + 1 < w5.heap.size := by { omega }
  have HB := Lib.hid (HB.out.trans (hb5.mono HB.out.size))
  clear hb5 hz5 x0 x1 z0 z1 z2 z3 f0 f1 f2 f3 l0 l1
  go_wp2_with fail
  refine (d_first4 _ _ _ _ _ _ _ _ (by rfl) (by first | rfl | simp)).mono ?_
  rintro e8 w8 ⟨rfl, hw8⟩
  have hb8 : Below w5.heap.size w5 w8 := by rw [← hw8]; (repeat' (first | (with_reducible exact Below.refl _ _) | (with_reducible assumption) | (with_reducible refine Below.drewN ?_ _) | (with_reducible refine Below.alloc ?_ ?_ _) | (with_reducible refine Below.drew ?_) | (with_reducible refine Below.setCell ?_ ?_ _) | (with_reducible refine Below.step (by assumption) ?_ ?_) | (with_reducible exact And.left (by assumption)) | go_size))
  rw [← HE.out]
  have hz8 := hb8.size
  have x0 : w8.cell? ⟨w.heap.size, 0, none⟩ = some (.int .i64 lo) := by { rw [cellB hb8 _ _ (by first | (simp; done) | (simp; omega) | omega)]; all_goals (first | assumption | go_simp) }; have x1 : w8.cell? ⟨w.heap.size, 1, none⟩ = some (.int .i64 hi) := by { rw [cellB hb8 _ _ (by first | (simp; done) | (simp; omega) | omega)]; all_goals (first | assumption | go_simp) }; have z0 : w8.cell? ⟨w.heap.size + 1, 0, none⟩ = some (.int .i64 0) := by { rw [cellB hb8 _ _ (by first | (simp; done) | (simp; omega) | omega)]; all_goals (first | assumption | go_simp) }; have z1 : w8.cell? ⟨w.heap.size + 1, 1, none⟩ = some (.int .i64 0) := by { rw [cellB hb8 _ _ (by first | (simp; done) | (simp; omega) | omega)]; all_goals (first | assumption | go_simp) }; have z2 : w8.cell? ⟨w.heap.size + 1, 2, none⟩ = some (.int .i64 0) := by { rw [cellB hb8 _ _ (by first | (simp; done) | (simp; omega) | omega)]; all_goals (first | assumption | go_simp) }; have z3 : w8.cell? ⟨w.heap.size + 1, 3, none⟩ = some (.int .i64 0) := by { rw [cellB hb8 _ _ (by first | (simp; done) | (simp; omega) | omega)]; all_goals (first | assumption | go_simp) }; have f0 : w8.frozen? ⟨w.heap.size + 1, 0, none⟩ = false := by { rw [frozenB hb8 _ _ (by first | (simp; done) | (simp; omega) | omega)]; all_goals (first | assumption | go_simp) }; have f1 : w8.frozen? ⟨w.heap.size + 1, 1, none⟩ = false := by { rw [frozenB hb8 _ _ (by first | (simp; done) | (simp; omega) | omega)]; all_goals (first | assumption | go_simp) }; have f2 : w8.frozen? ⟨w.heap.size + 1, 2, none⟩ = false := by { rw [frozenB hb8 _ _ (by first | (simp; done) | (simp; omega) | omega)]; all_goals (first | assumption | go_simp) }; have f3 : w8.frozen? ⟨w.heap.size + 1, 3, none⟩ = false := by { rw [frozenB hb8 _ _ (by first | (simp; done) | (simp; omega) | omega)]; all_goals (first | assumption | go_simp) }; have l0 : w.heap.size < w8.heap.size := by { omega }; have l1 : w.heap.size + 1 < w8.heap.size := by { omega }
  have HB := Lib.hid (HB.out.trans (hb8.mono HB.out.size))
  clear hb8 hz8 hw8 x0d x1d z0d z1d z2d z3d f0d f1d f2d f3d l0d l1d
  have hv := HV.out
  by_cases h0 : E = 0
  · subst h0
    rw [if_neg (by decide)] at hv
    subst hv
    obtain ⟨hn0, hlo, hhi, hM, hN⟩ := HZ.out (by first | rfl | trivial)
    have HMXa := Lib.hid (HMX.out hn0)
    have HMNa := Lib.hid (HMN.out hn0)
    have HL1 := Lib.hid (fun w' => d_lowest_any lo M w' (by omega) (by omega) (by omega) (by omega))
    have HL2 := Lib.hid (fun w' => d_lowest_any hi N w' (by omega) (by omega) (by omega) (by omega))
    clear HMX HMN HZ HV hlo hhi hM hN hn0 HE
    have ok0 : OkB w.heap.size w8.heap.size (w.heap.size + 1) := ⟨by omega, by omega⟩
    go_wp2_with fail
    refine wp_region_laterC (B := w8.heap.size) (b0 :=  w.heap.size + 1) [(true, 0), (true, 1), (true, 2), (true, 5), (true, 6), (true, 7), (false, 3), (false, 4), (false, 8), (false, 9), (true, 10), (false, 11), (true, 12)] (by kernel_rfl) (by kernel_rfl) ?_; simp only [opsOf, List.filterMap_cons, List.filterMap_nil, List.getElem?_toArray, List.getElem?_cons_zero, List.getElem?_cons_succ, Option.map_some]
    repeat (refine mixc_head ?_; (show wpQuiet _ _ _ _ (_ :: _) _; go_big_quiet_step (fail)); refine wpQuiet_nil ?_)
    refine mixc_tail ?_; go_wp2_with fail
    refine (HMXa.out _ HB.out.drew).mono ?_
    rintro e9 w9 ⟨rfl, rfl⟩
    go_wp2_with fail
    refine tailC_stay (SameX.of_below (Below.refl _ _).drew) ?_
    repeat (refine mixc_head ?_; (show wpQuiet _ _ _ _ (_ :: _) _; go_big_quiet_step (fail)); refine wpQuiet_nil ?_)
    refine mixc_tail ?_; go_wp2_with fail
    refine (HL1.out _).mono ?_
    rintro e10 w10 ⟨rfl, hb10⟩
    have HX := Lib.hid ((Below.refl w8.heap.size w8).drew.trans hb10)
    clear hb10
    go_wp2_with fail
    refine tailC_stay (SameX.of_below HX.out) ?_
    repeat (refine mixc_head ?_; (show wpQuiet _ _ _ _ (_ :: _) _; go_big_quiet_step (fail)); refine wpQuiet_nil ?_)
    refine mixc_tail ?_; go_wp2_with fail
    refine (HMNa.out _ (HB.out.trans (HX.out.mono HB.out.size))).mono ?_
    rintro e9 w9 ⟨rfl, rfl⟩
    go_wp2_with fail
    refine tailC_stay (SameX.of_below HX.out) ?_
    repeat (refine mixc_head ?_; (show wpQuiet _ _ _ _ (_ :: _) _; go_big_quiet_step (fail)); refine wpQuiet_nil ?_)
    refine mixc_tail ?_; go_wp2_with fail
    refine (HL2.out _).mono ?_
    rintro e11 w11 ⟨rfl, hb11⟩
    have HX := Lib.hid (HX.out.trans (hb11.mono HX.out.size))
    have hbx := HX.out
    have hzx := hbx.size
    have z0d : w11.cell? ⟨w.heap.size + 1, 0, none⟩ = some (.int .i64 0) := by { rw [cellB hbx _ _ (by first | (simp; done) | (simp; omega) | omega)]; all_goals (first | assumption | go_simp) }; have z1d : w11.cell? ⟨w.heap.size + 1, 1, none⟩ = some (.int .i64 0) := by { rw [cellB hbx _ _ (by first | (simp; done) | (simp; omega) | omega)]; all_goals (first | assumption | go_simp) }; have z2d : w11.cell? ⟨w.heap.size + 1, 2, none⟩ = some (.int .i64 0) := by { rw [cellB hbx _ _ (by first | (simp; done) | (simp; omega) | omega)]; all_goals (first | assumption | go_simp) }; have z3d : w11.cell? ⟨w.heap.size + 1, 3, none⟩ = some (.int .i64 0) := by { rw [cellB hbx _ _ (by first | (simp; done) | (simp; omega) | omega)]; all_goals (first | assumption | go_simp) }; have f0d : w11.frozen? ⟨w.heap.size + 1, 0, none⟩ = false := by { rw [frozenB hbx _ _ (by first | (simp; done) | (simp; omega) | omega)]; all_goals (first | assumption | go_simp) }; have f1d : w11.frozen? ⟨w.heap.size + 1, 1, none⟩ = false := by { rw [frozenB hbx _ _ (by first | (simp; done) | (simp; omega) | omega)]; all_goals (first | assumption | go_simp) }; have f2d : w11.frozen? ⟨w.heap.size + 1, 2, none⟩ = false := by { rw [frozenB hbx _ _ (by first | (simp; done) | (simp; omega) | omega)]; all_goals (first | assumption | go_simp) }; have f3d : w11.frozen? ⟨w.heap.size + 1, 3, none⟩ = false := by { rw [frozenB hbx _ _ (by first | (simp; done) | (simp; omega) | omega)]; all_goals (first | assumption | go_simp) }; have l1d : w.heap.size + 1 < w11.heap.size := by { omega }
    clear hb11 hbx hzx z0 z1 z2 z3 f0 f1 f2 f3 l0 l1 x0 x1
    go_wp2_with fail
    refine tailC_stay (SameX.of_below HX.out) ?_
    repeat (refine mixc_head ?_; (show wpQuiet _ _ _ _ (_ :: _) _; go_big_quiet_step (fail)); refine wpQuiet_nil ?_)
    refine mixc_tail ?_; go_wp2_with fail
    refine tailC_stay (.set (.set (.set (.set (SameX.of_below HX.out) _) _) _) _) ?_
    repeat (refine mixc_head ?_; (show wpQuiet _ _ _ _ (_ :: _) _; go_big_quiet_step (fail)); refine wpQuiet_nil ?_)
    refine mixc_nil ?_
    go_wp2_with fail
    generalize hW : World.setCell _ _ _ = w12
    have r0 : w12.cell? ⟨w.heap.size + 1, 0, none⟩ = some (.int .i64 (lo.tdiv (gc lo M))) := by { rw [← hW]; clear hW; go_simp }
    have r1 : w12.cell? ⟨w.heap.size + 1, 1, none⟩ = some (.int .i64 (M / gc lo M)) := by { rw [← hW]; clear hW; go_simp }
    have r2 : w12.cell? ⟨w.heap.size + 1, 2, none⟩ = some (.int .i64 (hi.tdiv (gc hi N))) := by { rw [← hW]; clear hW; go_simp }
    have r3 : w12.cell? ⟨w.heap.size + 1, 3, none⟩ = some (.int .i64 (N / gc hi N)) := by { rw [← hW]; clear hW; go_simp }
    have hb12 : Below w.heap.size w w12 := by { rw [← hW]; have := HB.out.trans (HX.out.mono HB.out.size); (repeat' (first | (with_reducible exact Below.refl _ _) | (with_reducible assumption) | (with_reducible refine Below.drewN ?_ _) | (with_reducible refine Below.alloc ?_ ?_ _) | (with_reducible refine Below.drew ?_) | (with_reducible refine Below.setCell ?_ ?_ _) | (with_reducible refine Below.step (by assumption) ?_ ?_) | (with_reducible exact And.left (by assumption)) | go_size)) }
    clear hW
    exact bodyPost_ret (v := .tuple #[.agg #[.int .i64 (lo.tdiv (gc lo M)), .int .i64 (M / gc lo M), .int .i64 (hi.tdiv (gc hi N)), .int .i64 (N / gc hi N)], .int .i64 0]) (by simp [results, Tryz.results30, go_sem, r0, r1, r2, r3]) rfl ⟨rfl, hb12⟩
  · rw [if_pos h0] at hv
    subst hv
    have u1 := bne_iff_ne.2 h0
    clear h0 HE HV HZ
    go_wp2_with fail
    generalize hW : World.setCell _ _ _ = w9
    have r0 : w9.cell? ⟨w.heap.size + 1, 0, none⟩ = some (.int .i64 0) := by { rw [← hW]; clear hW; go_simp }
    have r1 : w9.cell? ⟨w.heap.size + 1, 1, none⟩ = some (.int .i64 0) := by { rw [← hW]; clear hW; go_simp }
    have r2 : w9.cell? ⟨w.heap.size + 1, 2, none⟩ = some (.int .i64 0) := by { rw [← hW]; clear hW; go_simp }
    have r3 : w9.cell? ⟨w.heap.size + 1, 3, none⟩ = some (.int .i64 0) := by { rw [← hW]; clear hW; go_simp }
    have hb9 : Below w.heap.size w w9 := by { rw [← hW]; have := HB.out; (repeat' (first | (with_reducible exact Below.refl _ _) | (with_reducible assumption) | (with_reducible refine Below.drewN ?_ _) | (with_reducible refine Below.alloc ?_ ?_ _) | (with_reducible refine Below.drew ?_) | (with_reducible refine Below.setCell ?_ ?_ _) | (with_reducible refine Below.step (by assumption) ?_ ?_) | (with_reducible exact And.left (by assumption)) | go_size)) }
    clear hW
    exact bodyPost_ret (v := .tuple #[.agg #[.int .i64 0, .int .i64 0, .int .i64 0, .int .i64 0], .int .i64 E]) (by simp [results, Tryz.results30, go_sem, r0, r1, r2, r3]) rfl ⟨rfl, hb9⟩
end Go.Proofs.YthkekjgdknnaiaaGreat
