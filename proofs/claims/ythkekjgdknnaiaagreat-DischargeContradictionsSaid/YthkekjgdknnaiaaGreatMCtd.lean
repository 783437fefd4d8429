import Derived.Test.YthkekjgdknnaiaaGreatDAwk
import Derived.Test.YthkekjgdknnaiaaGreatMRctr
import Derived.Test.YthkekjgdknnaiaaGreatRArrv
/- Regions, and the sensors that contradict each other: the statement's function. -/
namespace Go.Proofs.YthkekjgdknnaiaaGreat
open Go.RowKit
set_option linter.unusedVariables false

set_option maxRecDepth 100000 in
theorem arrivalsErr_any (A : Arr) (a : Option Addr) (n c : Nat) (w : World) (hl : SenR w a n A.l) :
    Calls Tryz.prog 49 #[.agg #[.int .i64 A.lo, .int .i64 A.hi, .slice a n c]] w fun e' w' => e' = .returned (.int .i64 (arrE A).2) ∧ Below w.heap.size w w' := by
  have HC := Lib.hid (fun (W : World) (hb : Below w.heap.size w W) => rCheckArrivals_any A a n c W (hl.below hb))
  obtain ⟨⟨K1, K2⟩, hK⟩ : ∃ K, K = arrE A := ⟨_, rfl⟩
  rw [← hK] at HC ⊢
  clear hl hK
  go_enter Tryz.func49, Tryz.ntmps49
  go_wp2_with fail
  refine (HC.out _ (by (repeat' (first | (with_reducible exact Below.refl _ _) | (with_reducible assumption) | (with_reducible refine Below.drewN ?_ _) | (with_reducible refine Below.alloc ?_ ?_ _) | (with_reducible refine Below.drew ?_) | (with_reducible refine Below.setCell ?_ ?_ _) | (with_reducible refine Below.step (by assumption) ?_ ?_) | (with_reducible exact And.left (by assumption)) | go_size)))).mono ?_
  rintro e5 w5 ⟨rfl, hb5⟩
  have HB := Lib.hid (show Below w.heap.size w w5 from Below.trans (by (repeat' (first | (with_reducible exact Below.refl _ _) | (with_reducible assumption) | (with_reducible refine Below.drewN ?_ _) | (with_reducible refine Below.alloc ?_ ?_ _) | (with_reducible refine Below.drew ?_) | (with_reducible refine Below.setCell ?_ ?_ _) | (with_reducible refine Below.step (by assumption) ?_ ?_) | (with_reducible exact And.left (by assumption)) | go_size))) (hb5.mono (by simp)))
  clear hb5 HC
  go_wp2
  go_ret
  exact ⟨rfl, HB.out⟩
def ligB (g : Gri) : Bool := if griE g ≠ 0 then true else decide (g.c.x * g.c.y * g.c.z ≤ 64)
set_option maxHeartbeats 1000000 in
set_option maxRecDepth 100000 in
theorem isLight_any (g : Gri) (w : World) : Calls Tryz.prog 44 #[.agg #[.int .i64 g.f.x, .int .i64 g.f.y, .int .i64 g.f.z, .int .i64 g.st, .int .i64 g.c.x, .int .i64 g.c.y, .int .i64 g.c.z]] w fun e' w' => e' = .returned (.bool (ligB g)) ∧ Below w.heap.size w w' := by
  have HG := Lib.hid (fun w' => rGridErr_any g w')
  obtain ⟨V, hV⟩ : ∃ V, V = ligB g := ⟨_, rfl⟩
  rw [← hV]
  have hc : griE g = 0 → (1 ≤ g.c.x ∧ g.c.x ≤ 6) ∧ (1 ≤ g.c.y ∧ g.c.y ≤ 6) ∧ (1 ≤ g.c.z ∧ g.c.z ≤ 6) := fun h => cnt_iff.1 (griE_zero h).2.2
  have hv : V = if griE g ≠ 0 then true else decide (g.c.x * g.c.y * g.c.z ≤ 64) := hV
  clear hV
  generalize griE g = D at *
  obtain ⟨⟨fx, fy, fz⟩, st, ⟨x, y, z⟩⟩ := g
  simp only at *
  go_enter Tryz.func44, Tryz.ntmps44
  go_wp2_with fail
  refine (HG.out _).mono ?_
  rintro e5 w5 ⟨rfl, hb5⟩
  have q4 : w5.cell? ⟨w.heap.size, 4, none⟩ = some (.int .i64 x) := by { rw [cellB hb5 _ _ (by first | (simp; done) | (simp; omega) | omega)]; all_goals (first | assumption | go_simp) }; have q5 : w5.cell? ⟨w.heap.size, 5, none⟩ = some (.int .i64 y) := by { rw [cellB hb5 _ _ (by first | (simp; done) | (simp; omega) | omega)]; all_goals (first | assumption | go_simp) }; have q6 : w5.cell? ⟨w.heap.size, 6, none⟩ = some (.int .i64 z) := by { rw [cellB hb5 _ _ (by first | (simp; done) | (simp; omega) | omega)]; all_goals (first | assumption | go_simp) }
  have l5 : w.heap.size < w5.heap.size := by have := hb5.size; simp at this; omega
  have HB := Lib.hid (show Below w.heap.size w w5 from Below.trans (by (repeat' (first | (with_reducible exact Below.refl _ _) | (with_reducible assumption) | (with_reducible refine Below.drewN ?_ _) | (with_reducible refine Below.alloc ?_ ?_ _) | (with_reducible refine Below.drew ?_) | (with_reducible refine Below.setCell ?_ ?_ _) | (with_reducible refine Below.step (by assumption) ?_ ?_) | (with_reducible exact And.left (by assumption)) | go_size))) (hb5.mono (by simp)))
  clear hb5 HG
  by_cases h0 : D = 0
  · obtain ⟨⟨a1, a2⟩, ⟨b1, b2⟩, c1, c2⟩ := hc h0
    rw [if_neg (by rw [h0]; decide)] at hv
    have m1 := Int.mul_le_mul a2 b2 (by omega) (by omega)
    have m2 := Int.mul_nonneg (show 0 ≤ x by omega) (show 0 ≤ y by omega)
    have m3 := Int.mul_le_mul (show x * y ≤ 36 by omega) c2 (by omega) (by omega)
    have m4 := Int.mul_nonneg m2 (show 0 ≤ z by omega)
    have w1 : IntKind.i64.wrap (x * y) = x * y := by rw [IntKind.wrap_i64]; omega
    have w2 : IntKind.i64.wrap (x * y * z) = x * y * z := by rw [IntKind.wrap_i64]; omega
    have HV := Lib.hid hv
    subst h0
    clear hc hv m1 m2 m3 m4
    go_wp2
    go_ret
    exact ⟨ret_bool (by rw [HV.out]), HB.out⟩
  · rw [if_pos h0] at hv
    have h1 := bne_iff_ne.2 h0
    have HV := Lib.hid hv
    clear hc hv
    go_wp2
    go_ret
    exact ⟨ret_bool (by rw [HV.out]), HB.out⟩
set_option maxHeartbeats 8000000 in
set_option maxRecDepth 100000 in
theorem reg_any (g : Gri) (A : Arr) (a : Option Addr) (n cp : Nat) (w : World) (hl : SenR w a n A.l) :
    Calls Tryz.prog 7 #[.agg #[.int .i64 g.f.x, .int .i64 g.f.y, .int .i64 g.f.z, .int .i64 g.st, .int .i64 g.c.x, .int .i64 g.c.y, .int .i64 g.c.z], .agg #[.int .i64 A.lo, .int .i64 A.hi, .slice a n cp]] w
      fun e' w' => e' = .returned (.bool true) ∧ Below w.heap.size w w' := by
  have HF := Lib.hid (fun w' => fewSensors_any A.lo A.hi a n cp w' hl.small)
  have HL := Lib.hid (fun w' => isLight_any g w')
  have HCP := Lib.hid (fun (hn : n ≤ 7) (W : World) (hb : Below w.heap.size w W) => copyArrivals_any A.lo A.hi A.l a n cp W (hl.below hb) (by omega))
  have HR := Lib.hid (fun (a' : Option Addr) (c' : Nat) (W : World) (h : SenR W a' n A.l) => regionOf_any g A a' n c' W h)
  have HK := Lib.hid (fun (a' : Option Addr) (c' : Nat) (W : World) (h : SenR W a' n A.l) => contradicting_any g A a' n c' W h)
  have HG := Lib.hid (fun w' => rGridErr_any g w')
  have HAE := Lib.hid (fun (W : World) (hb : Below w.heap.size w W) => arrivalsErr_any A a n cp W (hl.below hb))
  have HAL := Lib.hid (fun (hn : n ≤ 7) w' => all_any A.lo A.hi a n cp w' (by omega))
  have HRR := Lib.hid (fun (h0 : hE g A = 0) (aS : Option Addr) (cs : Nat) (W : World) (hb : Below w.heap.size w W) (hS : IntsR W aS n (nats (List.range n))) => show Calls Tryz.prog 51 #[.agg #[.int .i64 g.f.x, .int .i64 g.f.y, .int .i64 g.f.z, .int .i64 g.st, .int .i64 g.c.x, .int .i64 g.c.y, .int .i64 g.c.z], .agg #[.int .i64 A.lo, .int .i64 A.hi, .slice a n cp], .slice aS n cs] W fun e' w' => ∃ a' k' c', e' = .returned (.slice a' k' c') ∧ Below W.heap.size W w' ∧ CelR w' a' k' (regV g A) by
    obtain ⟨hg, ha⟩ := hE_zero h0
    obtain ⟨_, hv, _, _, hss⟩ := arrE_zero ha
    rw [hl.len] at hss
    have := rRegion_any g A (List.range n) a aS n cp n cs W (hl.below hb) hS hg hss List.nodup_range (fun i hi => List.mem_range.1 hi) hv
    rwa [show regC (fun c => ansS g A c (List.range n)) (gCells g) = regV g A by
      rw [regV_ok h0]
      congr 1
      funext c
      rw [← hl.len]
      exact ansS_all g A c] at this)
  have HRC := Lib.hid (fun (h0 : hE g A = 0) (W : World) (hb : Below w.heap.size w W) => rContra_any g A a n cp W (hl.below hb) h0)
  have HD := Lib.hid (show hE g A = if griE g ≠ 0 then griE g else (arrE A).2 by unfold hE; by_cases h : griE g = 0 <;> by_cases h2 : (arrE A).2 = 0 <;> simp [firstErr, h, h2])
  have HC1 := Lib.hid (fun (h0 : hE g A = 0) (hr : regV g A ≠ []) => show (ctrV g A).1 = [] ∧ (ctrV g A).2 = 12 by rw [ctrV_no h0 hr]; exact ⟨rfl, rfl⟩)
  have HC2 := Lib.hid (fun (h0 : hE g A = 0) (hr : regV g A = []) => show (ctrV g A).2 = 0 by rw [ctrV_yes h0 hr])
  have HC3 := Lib.hid (fun (h0 : hE g A ≠ 0) => show (ctrV g A).1 = [] ∧ (ctrV g A).2 = hE g A ∧ regV g A = [] by unfold ctrV regV; rw [if_pos h0, if_pos h0]; exact ⟨rfl, rfl, rfl⟩)
  clear hl
  obtain ⟨C1, hC1⟩ : ∃ C, C = (ctrV g A).1 := ⟨_, rfl⟩
  obtain ⟨C2, hC2⟩ : ∃ C, C = (ctrV g A).2 := ⟨_, rfl⟩
  rw [← hC1] at HC1 HC3 HK HRC
  rw [← hC2] at HC1 HC2 HC3 HK
  clear hC1 hC2
  generalize hE g A = E at *
  generalize regV g A = V at *
  generalize (arrE A).2 = D2 at *
  generalize ligB g = LB at *
  generalize griE g = D1 at *
  obtain ⟨⟨fx, fy, fz⟩, st, ⟨gx, gy, gz⟩⟩ := g
  obtain ⟨vl, vh, l⟩ := A
  simp only at *
  go_enter Tryz.func7, Tryz.ntmps7
  go_wp2_with fail
  obtain ⟨w4, hW⟩ : ∃ w4, w4 = (w.alloc (Obj.cells #[.int .i64 fx, .int .i64 fy, .int .i64 fz, .int .i64 st, .int .i64 gx, .int .i64 gy, .int .i64 gz] 90)).alloc (Obj.cells #[.int .i64 vl, .int .i64 vh, .slice a n cp] 93) := ⟨_, rfl⟩
  rw [← hW]
  have hb4 : Below w.heap.size w w4 := by rw [hW]; (repeat' (first | (with_reducible exact Below.refl _ _) | (with_reducible assumption) | (with_reducible refine Below.drewN ?_ _) | (with_reducible refine Below.alloc ?_ ?_ _) | (with_reducible refine Below.drew ?_) | (with_reducible refine Below.setCell ?_ ?_ _) | (with_reducible refine Below.step (by assumption) ?_ ?_) | (with_reducible exact And.left (by assumption)) | go_size))
  have kG : w4.heap[w.heap.size]? = some (.cells #[.int .i64 fx, .int .i64 fy, .int .i64 fz, .int .i64 st, .int .i64 gx, .int .i64 gy, .int .i64 gz] 90) := by
    rw [hW, Below.heap_alloc _ _ _ (by simp)]; exact heap_alloc_new _ _
  have kA : w4.heap[w.heap.size + 1]? = some (.cells #[.int .i64 vl, .int .i64 vh, .slice a n cp] 93) := by
    rw [hW]
    have := heap_alloc_new (w.alloc (Obj.cells #[.int .i64 fx, .int .i64 fy, .int .i64 fz, .int .i64 st, .int .i64 gx, .int .i64 gy, .int .i64 gz] 90)) (Obj.cells #[.int .i64 vl, .int .i64 vh, .slice a n cp] 93)
    simpa using this
  have HB4 := Lib.hid hb4
  clear hW hb4
  have HB := Lib.hid (Below.refl w4.heap.size w4)
  have hbr := HB.out
  have kg := blk_below kG hbr
  have ka := blk_below kA hbr
  have q0 := blk_cell kg (i := 0) rfl
  have q1 := blk_cell kg (i := 1) rfl
  have q2 := blk_cell kg (i := 2) rfl
  have q3 := blk_cell kg (i := 3) rfl
  have q4 := blk_cell kg (i := 4) rfl
  have q5 := blk_cell kg (i := 5) rfl
  have q6 := blk_cell kg (i := 6) rfl
  have p0 := blk_cell ka (i := 0) rfl
  have p1 := blk_cell ka (i := 1) rfl
  have p2 := blk_cell ka (i := 2) rfl
  have lr0 := blk_lt kg
  have lr1 := blk_lt ka
  clear kg ka hbr
  refine (awake9_any _).mono ?_
  rintro e5 w5 ⟨rfl, hb5⟩
  have HB := Lib.hid (HB.out.trans (hb5.mono HB.out.size))
  clear hb5
  clear q0 q1 q2 q3 q4 q5 q6 p0 p1 p2 lr0 lr1
  have hbr := HB.out
  have kg := blk_below kG hbr
  have ka := blk_below kA hbr
  have q0 := blk_cell kg (i := 0) rfl
  have q1 := blk_cell kg (i := 1) rfl
  have q2 := blk_cell kg (i := 2) rfl
  have q3 := blk_cell kg (i := 3) rfl
  have q4 := blk_cell kg (i := 4) rfl
  have q5 := blk_cell kg (i := 5) rfl
  have q6 := blk_cell kg (i := 6) rfl
  have p0 := blk_cell ka (i := 0) rfl
  have p1 := blk_cell ka (i := 1) rfl
  have p2 := blk_cell ka (i := 2) rfl
  have lr0 := blk_lt kg
  have lr1 := blk_lt ka
  clear kg ka hbr
  go_wp2_with fail
  refine (HF.out _).mono ?_
  rintro e6 w6 ⟨rfl, hb6⟩
  have HB := Lib.hid (HB.out.trans (hb6.mono HB.out.size))
  clear hb6
  clear q0 q1 q2 q3 q4 q5 q6 p0 p1 p2 lr0 lr1
  have hbr := HB.out
  have kg := blk_below kG hbr
  have ka := blk_below kA hbr
  have q0 := blk_cell kg (i := 0) rfl
  have q1 := blk_cell kg (i := 1) rfl
  have q2 := blk_cell kg (i := 2) rfl
  have q3 := blk_cell kg (i := 3) rfl
  have q4 := blk_cell kg (i := 4) rfl
  have q5 := blk_cell kg (i := 5) rfl
  have q6 := blk_cell kg (i := 6) rfl
  have p0 := blk_cell ka (i := 0) rfl
  have p1 := blk_cell ka (i := 1) rfl
  have p2 := blk_cell ka (i := 2) rfl
  have lr0 := blk_lt kg
  have lr1 := blk_lt ka
  clear kg ka hbr
  by_cases h7 : n ≤ 7
  · rw [decide_eq_true h7]
    go_wp2_with fail
    refine (HL.out _).mono ?_
    rintro e7 w7 ⟨rfl, hb7⟩
    have HB := Lib.hid (HB.out.trans (hb7.mono HB.out.size))
    clear hb7
    clear q0 q1 q2 q3 q4 q5 q6 p0 p1 p2 lr0 lr1
    have hbr := HB.out
    have kg := blk_below kG hbr
    have ka := blk_below kA hbr
    have q0 := blk_cell kg (i := 0) rfl
    have q1 := blk_cell kg (i := 1) rfl
    have q2 := blk_cell kg (i := 2) rfl
    have q3 := blk_cell kg (i := 3) rfl
    have q4 := blk_cell kg (i := 4) rfl
    have q5 := blk_cell kg (i := 5) rfl
    have q6 := blk_cell kg (i := 6) rfl
    have p0 := blk_cell ka (i := 0) rfl
    have p1 := blk_cell ka (i := 1) rfl
    have p2 := blk_cell ka (i := 2) rfl
    have lr0 := blk_lt kg
    have lr1 := blk_lt ka
    clear kg ka hbr
    cases LB
    · go_wp2
      go_ret
      exact ⟨rfl, HB4.out.trans (HB.out.mono HB4.out.size)⟩
    · go_wp2_with fail
      refine wp_region_laterT (B := w7.heap.size) (.head 0 (.head 1 (.one 2 (.one 3 (.head 4 (.head 5 (.head 6 (.head 7 (.head 8 .done))))))))) (by kernel_rfl) (by kernel_rfl) ?_
      repeat (refine tree_head rfl ?_; (show wpQuiet _ _ _ _ (_ :: _) _; go_big_quiet_step (fail)); refine wpQuiet_nil ?_)
      refine tree_one rfl ?_; go_wp2_with fail
      have HBW := Lib.hid (HB4.out.trans (HB.out.mono HB4.out.size))
      refine (HCP.out h7 _ (HBW.out.trans ((show Below w7.heap.size w7 w7.drew by (repeat' (first | (with_reducible exact Below.refl _ _) | (with_reducible assumption) | (with_reducible refine Below.drewN ?_ _) | (with_reducible refine Below.alloc ?_ ?_ _) | (with_reducible refine Below.drew ?_) | (with_reducible refine Below.setCell ?_ ?_ _) | (with_reducible refine Below.step (by assumption) ?_ ?_) | (with_reducible exact And.left (by assumption)) | go_size))).mono HBW.out.size))).mono ?_
      rintro e8 w8 ⟨a8, c8, rfl, hb8, hs8⟩
      have HB8 := Lib.hid ((show Below w7.heap.size w7 w7.drew by (repeat' (first | (with_reducible exact Below.refl _ _) | (with_reducible assumption) | (with_reducible refine Below.drewN ?_ _) | (with_reducible refine Below.alloc ?_ ?_ _) | (with_reducible refine Below.drew ?_) | (with_reducible refine Below.setCell ?_ ?_ _) | (with_reducible refine Below.step (by assumption) ?_ ?_) | (with_reducible exact And.left (by assumption)) | go_size))).trans hb8)
      go_wp2_with fail
      refine tailL_mk HB8.out ?_
      clear hb8
      refine tree_one rfl ?_; go_wp2_with fail
      refine (HR.out a8 c8 _ hs8).mono ?_
      rintro e9 w9 ⟨al, kl, cl, rfl, hb9, hr9⟩
      have hb9 := HB8.out.trans (hb9.mono HB8.out.size)
      go_wp2_with fail
      refine tailL_mk hb9 ?_
      clear HB8 hs8 HBW HR
      repeat (refine tree_head rfl ?_; (show wpQuiet _ _ _ _ (_ :: _) _; go_big_quiet_step (fail)); refine wpQuiet_nil ?_)
      refine tree_done ?_
      have HLL := Lib.hid (ER.len hr9)
      have HRV := Lib.hid hr9
      have hkl := hr9.small
      clear hr9
      have HB := Lib.hid (HB.out.trans (hb9.mono HB.out.size))
      clear hb9
      clear q0 q1 q2 q3 q4 q5 q6 p0 p1 p2 lr0 lr1
      have hbr := HB.out
      have kg := blk_below kG hbr
      have ka := blk_below kA hbr
      have q0 := blk_cell kg (i := 0) rfl
      have q1 := blk_cell kg (i := 1) rfl
      have q2 := blk_cell kg (i := 2) rfl
      have q3 := blk_cell kg (i := 3) rfl
      have q4 := blk_cell kg (i := 4) rfl
      have q5 := blk_cell kg (i := 5) rfl
      have q6 := blk_cell kg (i := 6) rfl
      have p0 := blk_cell ka (i := 0) rfl
      have p1 := blk_cell ka (i := 1) rfl
      have p2 := blk_cell ka (i := 2) rfl
      have lr0 := blk_lt kg
      have lr1 := blk_lt ka
      clear kg ka hbr
      go_wp2_with fail
      refine wp_region_laterT (B := w9.heap.size) (.head 0 (.head 1 (.one 2 (.one 3 (.head 4 (.head 5 (.head 6 (.head 7 (.head 8 .done))))))))) (by kernel_rfl) (by kernel_rfl) ?_
      repeat (refine tree_head rfl ?_; (show wpQuiet _ _ _ _ (_ :: _) _; go_big_quiet_step (fail)); refine wpQuiet_nil ?_)
      refine tree_one rfl ?_; go_wp2_with fail
      have HBW := Lib.hid (HB4.out.trans (HB.out.mono HB4.out.size))
      refine (HCP.out h7 _ (HBW.out.trans ((show Below w9.heap.size w9 w9.drew by (repeat' (first | (with_reducible exact Below.refl _ _) | (with_reducible assumption) | (with_reducible refine Below.drewN ?_ _) | (with_reducible refine Below.alloc ?_ ?_ _) | (with_reducible refine Below.drew ?_) | (with_reducible refine Below.setCell ?_ ?_ _) | (with_reducible refine Below.step (by assumption) ?_ ?_) | (with_reducible exact And.left (by assumption)) | go_size))).mono HBW.out.size))).mono ?_
      rintro e10 w10 ⟨a10, c10, rfl, hb10, hs10⟩
      have HB8 := Lib.hid ((show Below w9.heap.size w9 w9.drew by (repeat' (first | (with_reducible exact Below.refl _ _) | (with_reducible assumption) | (with_reducible refine Below.drewN ?_ _) | (with_reducible refine Below.alloc ?_ ?_ _) | (with_reducible refine Below.drew ?_) | (with_reducible refine Below.setCell ?_ ?_ _) | (with_reducible refine Below.step (by assumption) ?_ ?_) | (with_reducible exact And.left (by assumption)) | go_size))).trans hb10)
      go_wp2_with fail
      refine tailL_mk HB8.out ?_
      clear hb10
      refine tree_one rfl ?_; go_wp2_with fail
      refine (HK.out a10 c10 _ hs10).mono ?_
      rintro e11 w11 ⟨az, ks, cs, rfl, hb11, hi11⟩
      have hb11 := HB8.out.trans (hb11.mono HB8.out.size)
      go_wp2_with fail
      refine tailL_mk hb11 ?_
      clear HB8 hs10 HBW HK HCP
      repeat (refine tree_head rfl ?_; (show wpQuiet _ _ _ _ (_ :: _) _; go_big_quiet_step (fail)); refine wpQuiet_nil ?_)
      refine tree_done ?_
      have HRV := Lib.hid (HRV.out.below hb11)
      have HIS := Lib.hid hi11
      have HKS := Lib.hid (show C1.length = ks by have := hi11.len; simpa [nats] using this)
      have hks := hi11.small
      clear hi11
      have HB := Lib.hid (HB.out.trans (hb11.mono HB.out.size))
      clear hb11
      clear q0 q1 q2 q3 q4 q5 q6 p0 p1 p2 lr0 lr1
      have hbr := HB.out
      have kg := blk_below kG hbr
      have ka := blk_below kA hbr
      have q0 := blk_cell kg (i := 0) rfl
      have q1 := blk_cell kg (i := 1) rfl
      have q2 := blk_cell kg (i := 2) rfl
      have q3 := blk_cell kg (i := 3) rfl
      have q4 := blk_cell kg (i := 4) rfl
      have q5 := blk_cell kg (i := 5) rfl
      have q6 := blk_cell kg (i := 6) rfl
      have p0 := blk_cell ka (i := 0) rfl
      have p1 := blk_cell ka (i := 1) rfl
      have p2 := blk_cell ka (i := 2) rfl
      have lr0 := blk_lt kg
      have lr1 := blk_lt ka
      clear kg ka hbr
      go_wp2_with fail
      refine (HG.out _).mono ?_
      rintro e12 w12 ⟨rfl, hb12⟩
      have HRV := Lib.hid (HRV.out.below hb12)
      have HIS := Lib.hid (HIS.out.below hb12)
      have HB := Lib.hid (HB.out.trans (hb12.mono HB.out.size))
      clear hb12
      clear q0 q1 q2 q3 q4 q5 q6 p0 p1 p2 lr0 lr1
      have hbr := HB.out
      have kg := blk_below kG hbr
      have ka := blk_below kA hbr
      have q0 := blk_cell kg (i := 0) rfl
      have q1 := blk_cell kg (i := 1) rfl
      have q2 := blk_cell kg (i := 2) rfl
      have q3 := blk_cell kg (i := 3) rfl
      have q4 := blk_cell kg (i := 4) rfl
      have q5 := blk_cell kg (i := 5) rfl
      have q6 := blk_cell kg (i := 6) rfl
      have p0 := blk_cell ka (i := 0) rfl
      have p1 := blk_cell ka (i := 1) rfl
      have p2 := blk_cell ka (i := 2) rfl
      have lr0 := blk_lt kg
      have lr1 := blk_lt ka
      clear kg ka hbr
      by_cases h1 : D1 = 0
      · subst h1
        have HD := Lib.hid (show E = D2 by rw [HD.out, if_neg (by decide)])
        go_wp2_with fail
        refine (HAE.out _ (HB4.out.trans (HB.out.mono HB4.out.size))).mono ?_
        rintro e13 w13 ⟨rfl, hb13⟩
        have HRV := Lib.hid (HRV.out.below hb13)
        have HIS := Lib.hid (HIS.out.below hb13)
        have HB := Lib.hid (HB.out.trans (hb13.mono HB.out.size))
        clear hb13
        clear q0 q1 q2 q3 q4 q5 q6 p0 p1 p2 lr0 lr1
        have hbr := HB.out
        have kg := blk_below kG hbr
        have ka := blk_below kA hbr
        have q0 := blk_cell kg (i := 0) rfl
        have q1 := blk_cell kg (i := 1) rfl
        have q2 := blk_cell kg (i := 2) rfl
        have q3 := blk_cell kg (i := 3) rfl
        have q4 := blk_cell kg (i := 4) rfl
        have q5 := blk_cell kg (i := 5) rfl
        have q6 := blk_cell kg (i := 6) rfl
        have p0 := blk_cell ka (i := 0) rfl
        have p1 := blk_cell ka (i := 1) rfl
        have p2 := blk_cell ka (i := 2) rfl
        have lr0 := blk_lt kg
        have lr1 := blk_lt ka
        clear kg ka hbr
        rw [← HD.out]
        by_cases h2 : E = 0
        · subst h2
          clear HG HAE HF HL HC3
          go_wp2_with fail
          obtain ⟨BV, hBV⟩ : ∃ b, b = decide (V = []) := ⟨_, rfl⟩
          rw [← hBV] at HRC
          refine wp_region_laterT (B := w13.heap.size) (.head 0 (.head 1 (.head 2 (.head 3 (.head 4 (.head 5 (.head 6 (.one 7 (.one 8 (.one 9 (.head 10 (.head 11 .done)))))))))))) (by kernel_rfl) (by kernel_rfl) ?_
          repeat (refine tree_head rfl ?_; (show wpQuiet _ _ _ _ (_ :: _) _; go_big_quiet_step (fail)); refine wpQuiet_nil ?_)
          refine tree_one rfl ?_; go_wp2_with fail
          refine (HAL.out h7 _).mono ?_
          rintro e14 w14 ⟨a14, c14, rfl, hb14, hi14⟩
          have hb14 := (show Below w13.heap.size w13 w13.drew by (repeat' (first | (with_reducible exact Below.refl _ _) | (with_reducible assumption) | (with_reducible refine Below.drewN ?_ _) | (with_reducible refine Below.alloc ?_ ?_ _) | (with_reducible refine Below.drew ?_) | (with_reducible refine Below.setCell ?_ ?_ _) | (with_reducible refine Below.step (by assumption) ?_ ?_) | (with_reducible exact And.left (by assumption)) | go_size))).trans hb14
          go_wp2_with fail
          refine tailL_mk hb14 ?_
          have HBW := Lib.hid (HB4.out.trans ((HB.out.trans (hb14.mono HB.out.size)).mono HB4.out.size))
          refine tree_one rfl ?_; go_wp2_with fail
          refine (HRR.out trivial a14 c14 _ HBW.out hi14).mono ?_
          rintro e15 w15 ⟨a15, k15, c15, rfl, hb15, hr15⟩
          have hb15' := hb14.trans (hb15.mono hb14.size)
          go_wp2_with fail
          refine tailL_mk hb15' ?_
          obtain rfl : k15 = kl := by rw [← ER.len hr15, HLL.out]
          have HSC := Lib.hid (sameCells_same V al a15 k15 cl c15 w15 (HRV.out.below hb15') hr15)
          have HX := Lib.hid hb15'
          clear hb15' hb15 hb14 hr15 hi14 HBW
          refine tree_one rfl ?_; go_wp2_with fail
          refine HSC.out.mono ?_
          rintro e16 w16 ⟨rfl, hb16⟩
          have hb16 := HX.out.trans (hb16.mono HX.out.size)
          go_wp2_with fail
          refine tailL_mk hb16 ?_
          repeat (refine tree_head rfl ?_; (show wpQuiet _ _ _ _ (_ :: _) _; go_big_quiet_step (fail)); refine wpQuiet_nil ?_)
          refine tree_done ?_
          have HIS := Lib.hid (HIS.out.below hb16)
          clear HX HSC
          have HB := Lib.hid (HB.out.trans (hb16.mono HB.out.size))
          clear hb16
          clear q0 q1 q2 q3 q4 q5 q6 p0 p1 p2 lr0 lr1
          have hbr := HB.out
          have kg := blk_below kG hbr
          have ka := blk_below kA hbr
          have q0 := blk_cell kg (i := 0) rfl
          have q1 := blk_cell kg (i := 1) rfl
          have q2 := blk_cell kg (i := 2) rfl
          have q3 := blk_cell kg (i := 3) rfl
          have q4 := blk_cell kg (i := 4) rfl
          have q5 := blk_cell kg (i := 5) rfl
          have q6 := blk_cell kg (i := 6) rfl
          have p0 := blk_cell ka (i := 0) rfl
          have p1 := blk_cell ka (i := 1) rfl
          have p2 := blk_cell ka (i := 2) rfl
          have lr0 := blk_lt kg
          have lr1 := blk_lt ka
          clear kg ka hbr
          go_wp2_with fail
          refine (HRC.out trivial _ (HB4.out.trans (HB.out.mono HB4.out.size))).mono ?_
          rintro e17 w17 ⟨a17, k17, c17, rfl, hb17, hi17⟩
          have HIS := Lib.hid (HIS.out.below hb17)
          have HI17 := Lib.hid hi17
          clear hi17
          have HB := Lib.hid (HB.out.trans (hb17.mono HB.out.size))
          clear hb17
          clear q0 q1 q2 q3 q4 q5 q6 p0 p1 p2 lr0 lr1
          have hbr := HB.out
          have kg := blk_below kG hbr
          have ka := blk_below kA hbr
          have q0 := blk_cell kg (i := 0) rfl
          have q1 := blk_cell kg (i := 1) rfl
          have q2 := blk_cell kg (i := 2) rfl
          have q3 := blk_cell kg (i := 3) rfl
          have q4 := blk_cell kg (i := 4) rfl
          have q5 := blk_cell kg (i := 5) rfl
          have q6 := blk_cell kg (i := 6) rfl
          have p0 := blk_cell ka (i := 0) rfl
          have p1 := blk_cell ka (i := 1) rfl
          have p2 := blk_cell ka (i := 2) rfl
          have lr0 := blk_lt kg
          have lr1 := blk_lt ka
          clear kg ka hbr
          by_cases hV : V = []
          · obtain rfl : BV = true := by rw [hBV]; exact decide_eq_true hV
            obtain rfl := HC2.out trivial hV
            have hi := HI17.out hV
            clear hBV HC1 HC2 HRC HRR HAL
            go_wp2_with fail
            have HI2 := ints_any _ _ az a17 ks cs k17 c17 w17 HIS.out hi
            rw [decide_eq_true rfl] at HI2
            refine HI2.mono ?_
            rintro e18 w18 ⟨rfl, m, hw18⟩
            have hb18 : Below w17.heap.size w17 w18 := by rw [hw18]; (repeat' (first | (with_reducible exact Below.refl _ _) | (with_reducible assumption) | (with_reducible refine Below.drewN ?_ _) | (with_reducible refine Below.alloc ?_ ?_ _) | (with_reducible refine Below.drew ?_) | (with_reducible refine Below.setCell ?_ ?_ _) | (with_reducible refine Below.step (by assumption) ?_ ?_) | (with_reducible exact And.left (by assumption)) | go_size))
            clear HI2 hi hw18
            have HB := Lib.hid (HB.out.trans (hb18.mono HB.out.size))
            clear hb18
            clear q0 q1 q2 q3 q4 q5 q6 p0 p1 p2 lr0 lr1
            have hbr := HB.out
            have kg := blk_below kG hbr
            have ka := blk_below kA hbr
            have q0 := blk_cell kg (i := 0) rfl
            have q1 := blk_cell kg (i := 1) rfl
            have q2 := blk_cell kg (i := 2) rfl
            have q3 := blk_cell kg (i := 3) rfl
            have q4 := blk_cell kg (i := 4) rfl
            have q5 := blk_cell kg (i := 5) rfl
            have q6 := blk_cell kg (i := 6) rfl
            have p0 := blk_cell ka (i := 0) rfl
            have p1 := blk_cell ka (i := 1) rfl
            have p2 := blk_cell ka (i := 2) rfl
            have lr0 := blk_lt kg
            have lr1 := blk_lt ka
            clear kg ka hbr
            go_wp2
            go_ret
            exact ⟨rfl, HB4.out.trans (HB.out.mono HB4.out.size)⟩
          · obtain rfl : BV = false := by rw [hBV]; exact decide_eq_false hV
            obtain ⟨g1, g2⟩ := HC1.out trivial hV
            have hks0 : ks = 0 := by rw [← HKS.out, g1]; rfl
            subst g2 hks0
            clear hBV HC1 HC2 HRC HRR HAL
            go_wp2_with fail
            all_goals go_ret
            all_goals refine ⟨by first | rfl | exact ret_bool (by simp) | (simp; rfl) | simp [wrap64], HB4.out.trans (HB.out.mono HB4.out.size)⟩
        · skip
          obtain ⟨g1, g2, g3⟩ := HC3.out h2
          have hks0 : ks = 0 := by rw [← HKS.out, g1]; rfl
          have hkl0 : kl = 0 := by rw [← HLL.out, g3]; rfl
          subst g2 hks0 hkl0
          have e1 := bne_iff_ne.2 h2
          have e2 := beq_eq_false_iff_ne.2 h2
          clear HC1 HC2 HC3 HRR HRC
          go_wp2_with fail
          all_goals go_ret
          all_goals refine ⟨by first | rfl | exact ret_bool (by simp) | (simp; rfl) | simp [wrap64], HB4.out.trans (HB.out.mono HB4.out.size)⟩
      · have HD := Lib.hid (show E = D1 by rw [HD.out, if_pos h1])
        have h2 : E ≠ 0 := by rw [HD.out]; exact h1
        rw [← HD.out] at h1 ⊢
        clear h1
        obtain ⟨g1, g2, g3⟩ := HC3.out h2
        have hks0 : ks = 0 := by rw [← HKS.out, g1]; rfl
        have hkl0 : kl = 0 := by rw [← HLL.out, g3]; rfl
        subst g2 hks0 hkl0
        have e1 := bne_iff_ne.2 h2
        have e2 := beq_eq_false_iff_ne.2 h2
        clear HC1 HC2 HC3 HRR HRC
        go_wp2_with fail
        all_goals go_ret
        all_goals refine ⟨by first | rfl | exact ret_bool (by simp) | (simp; rfl) | simp [wrap64], HB4.out.trans (HB.out.mono HB4.out.size)⟩
  · rw [decide_eq_false h7]
    go_wp2
    go_ret
    exact ⟨rfl, HB4.out.trans (HB.out.mono HB4.out.size)⟩
end Go.Proofs.YthkekjgdknnaiaaGreat

/- A contradiction: all of it is needed. No program in sight. -/
namespace Go.Proofs.YthkekjgdknnaiaaGreat
set_option linter.unusedVariables false

def rmv (S : List Nat) (i : Int) (k : Nat) : List Nat := ((List.range k).filter (fun j : Nat => decide ((j : Int) ≠ i))).map (fun j => S.getD j 0)
theorem rmv_yes {S : List Nat} {i : Int} {k : Nat} (h : (k : Int) ≠ i) : rmv S i (k + 1) = rmv S i k ++ [S.getD k 0] := by
  unfold rmv; rw [List.range_succ, List.filter_append, List.map_append]; simp [h]
theorem rmv_no {S : List Nat} {i : Int} {k : Nat} (h : (k : Int) = i) : rmv S i (k + 1) = rmv S i k := by
  unfold rmv; rw [List.range_succ, List.filter_append, List.map_append]; simp [h]
theorem map_getD (S : List Nat) : (List.range S.length).map (fun j => S.getD j 0) = S := by
  apply List.ext_getElem
  · simp
  · intro k h1 h2
    simp [List.getD, h2]
theorem rmv_all (S : List Nat) : rmv S (-1) S.length = S := by
  unfold rmv
  rw [List.filter_eq_self.2 (fun j _ => by first | (simp; done) | (simp; omega))]
  exact map_getD S
theorem rmv_sub (S : List Nat) (i : Int) : (rmv S i S.length).Sublist S := by
  have h : (rmv S i S.length).Sublist ((List.range S.length).map (fun j => S.getD j 0)) := List.Sublist.map _ List.filter_sublist
  rwa [map_getD] at h
theorem rmv_len_le (S : List Nat) (i : Int) (k : Nat) : (rmv S i k).length ≤ k := by
  unfold rmv
  rw [List.length_map]
  have := List.length_filter_le (fun j : Nat => decide ((j : Int) ≠ i)) (List.range k)
  rwa [List.length_range] at this
theorem rmv_lt {S : List Nat} {i : Int} (h0 : 0 ≤ i) (h1 : i < (S.length : Int)) : (rmv S i S.length).length < S.length := by
  unfold rmv
  rw [List.length_map]
  have : ((List.range S.length).filter (fun j : Nat => decide ((j : Int) ≠ i))).length < (List.range S.length).length := by
    rw [List.length_filter_lt_length_iff_exists]
    exact ⟨i.toNat, List.mem_range.2 (by omega), by simp; omega⟩
  rwa [List.length_range] at this
theorem ctr_min {g : Gri} {A : Arr} (h0 : hE g A = 0) (hc : (ctrV g A).2 = 0) : ∃ S, (ctrV g A).1 = S ∧ S.Pairwise (· < ·) ∧ (∀ x ∈ S, x < A.l.length) ∧ 2 ≤ S.length ∧ S.length ≤ A.l.length ∧ regV g A = [] ∧ emptyB g (subA A S) = true ∧
    ∀ T : List Nat, T.Pairwise (· < ·) → (∀ x ∈ T, x < A.l.length) → 2 ≤ T.length → T.length < S.length → emptyB g (subA A T) = false := by
  unfold ctrV at hc ⊢
  rw [if_neg (by rw [h0]; decide)] at hc ⊢
  cases h : ctrO g A with
  | none => rw [h] at hc; exact absurd hc (by decide)
  | some S =>
    unfold ctrO at h
    obtain ⟨j, hj1, hj2, hf, hmin⟩ := ctrS_some h
    have hS := List.mem_of_find?_eq_some hf
    obtain ⟨h1, h2, h3⟩ := (ext_mem _ _ _ _).1 hS
    obtain ⟨n1, n2, n3⟩ := ext_nd hS
    have hp : emptyB g (subA A S) = true := List.find?_some (p := fun S => emptyB g (subA A S)) hf
    refine ⟨S, rfl, h2, n3, by omega, by omega, (regV_ok h0).trans (empty_mono n1 n3 hp), hp, fun T t1 t2 t3 t4 => ?_⟩
    exact hmin T.length t3 (by omega) T ((ext_mem _ _ _ _).2 ⟨rfl, t1, fun x hx => ⟨Nat.zero_le _, t2 x hx⟩⟩)
theorem ctr_not {g : Gri} {A : Arr} (h0 : hE g A = 0) (hc : (ctrV g A).2 ≠ 0) : (ctrV g A).1 = [] ∧ (ctrV g A).2 = 12 ∧ regV g A ≠ [] := by
  have hr : regV g A ≠ [] := fun h => hc (by rw [ctrV_yes h0 h])
  rw [ctrV_no h0 hr]
  exact ⟨rfl, rfl, hr⟩
theorem regV_emp {g : Gri} {A : Arr} (h0 : hE g A = 0) : regV g A = [] ↔ emptyB g A = true := by
  rw [regV_ok h0, regC_nil]; rfl
/-- The region of all but one (or of all, for i = -1) of the contradicting sensors. -/
theorem ctr_part {g : Gri} {A : Arr} (h0 : hE g A = 0) {S : List Nat} (hp : S.Pairwise (· < ·)) (hn : ∀ x ∈ S, x < A.l.length) (hl : S.length ≤ A.l.length) (he : emptyB g (subA A S) = true)
    (hm : ∀ T : List Nat, T.Pairwise (· < ·) → (∀ x ∈ T, x < A.l.length) → 2 ≤ T.length → T.length < S.length → emptyB g (subA A T) = false) {i : Int} (h1 : -1 ≤ i) (h2 : i < (S.length : Int)) (h3 : 2 ≤ (rmv S i S.length).length) :
    hE g (subA A (rmv S i S.length)) = 0 ∧ (regV g (subA A (rmv S i S.length)) = [] ↔ i < 0) := by
  obtain ⟨hg, ha⟩ := hE_zero h0
  obtain ⟨_, _, _, hn5, _⟩ := arrE_zero ha
  have hs := rmv_sub S i
  have hlt : ∀ x ∈ rmv S i S.length, x < A.l.length := fun x hx => hn x (hs.subset hx)
  have hle := hs.length_le
  have hE0 : hE g (subA A (rmv S i S.length)) = 0 := by
    unfold hE
    rw [hg, arrE_sub ha hlt h3 (by omega)]; rfl
  refine ⟨hE0, ?_⟩
  rw [regV_emp hE0]
  by_cases hi : i < 0
  · obtain rfl : i = -1 := by omega
    rw [rmv_all]
    simp [he]
  · have := hm _ (hp.sublist hs) hlt h3 (rmv_lt (by omega) h2)
    rw [this]
    simp [hi]
end Go.Proofs.YthkekjgdknnaiaaGreat

/- A contradiction is a contradiction, and all of it is needed: the statement's function. -/
namespace Go.Proofs.YthkekjgdknnaiaaGreat
open Go.RowKit
set_option linter.unusedVariables false
set_option maxHeartbeats 8000000 in
set_option maxRecDepth 100000 in
theorem ctd_any (g : Gri) (A : Arr) (a : Option Addr) (n cp : Nat) (w : World) (hl : SenR w a n A.l) :
    Calls Tryz.prog 9 #[.agg #[.int .i64 g.f.x, .int .i64 g.f.y, .int .i64 g.f.z, .int .i64 g.st, .int .i64 g.c.x, .int .i64 g.c.y, .int .i64 g.c.z], .agg #[.int .i64 A.lo, .int .i64 A.hi, .slice a n cp]] w
      fun e' w' => e' = .returned (.bool true) ∧ Below w.heap.size w w' := by
  have HF := Lib.hid (fun w' => fewSensors_any A.lo A.hi a n cp w' hl.small)
  have HL := Lib.hid (fun w' => isLight_any g w')
  have HCP := Lib.hid (fun (hn : n ≤ 7) (W : World) (hb : Below w.heap.size w W) => copyArrivals_any A.lo A.hi A.l a n cp W (hl.below hb) (by omega))
  have HR := Lib.hid (fun (a' : Option Addr) (c' : Nat) (W : World) (h : SenR W a' n A.l) => regionOf_any g A a' n c' W h)
  have HK := Lib.hid (fun (a' : Option Addr) (c' : Nat) (W : World) (h : SenR W a' n A.l) => contradicting_any g A a' n c' W h)
  have HG := Lib.hid (fun w' => rGridErr_any g w')
  have HAE := Lib.hid (fun (W : World) (hb : Below w.heap.size w W) => arrivalsErr_any A a n cp W (hl.below hb))
  have HD := Lib.hid (fun (h1 : griE g = 0) (h2 : (arrE A).2 = 0) => show hE g A = 0 by unfold hE; rw [h1, h2]; rfl)
  have HX := Lib.hid (fun (h0 : hE g A = 0) (hc : (ctrV g A).2 ≠ 0) => show (ctrV g A).1 = [] ∧ (ctrV g A).2 = 12 ∧ regV g A ≠ [] from ctr_not h0 hc)
  have HM := Lib.hid (fun (h0 : hE g A = 0) (hc : (ctrV g A).2 = 0) => show 2 ≤ (ctrV g A).1.length ∧ (ctrV g A).1.length ≤ n ∧ (ctrV g A).1.Pairwise (· < ·) ∧ (∀ x ∈ (ctrV g A).1, x < n) ∧ regV g A = [] ∧ (∀ i : Int, -1 ≤ i → i < ((ctrV g A).1.length : Int) → 2 ≤ (rmv (ctrV g A).1 i (ctrV g A).1.length).length → ∀ (a' : Option Addr) (k' c' : Nat) (W : World), SenR W a' k' ((rmv (ctrV g A).1 i (ctrV g A).1.length).map (sAt A.l)) →
      Calls Tryz.prog 45 #[.agg #[.int .i64 g.f.x, .int .i64 g.f.y, .int .i64 g.f.z, .int .i64 g.st, .int .i64 g.c.x, .int .i64 g.c.y, .int .i64 g.c.z], .agg #[.int .i64 A.lo, .int .i64 A.hi, .slice a' k' c']] W fun e' w' => ∃ a2 k2 c2, e' = .returned (.tuple #[.slice a2 k2 c2, .int .i64 0]) ∧ Below W.heap.size W w' ∧ k2 ≤ 9223372036854775807 ∧ (k2 = 0 ↔ i < 0)) by
    obtain ⟨S, hS, g1, g2, g3, g4, g5, g6, g7⟩ := ctr_min h0 hc
    rw [hS]
    rw [hl.len] at g2 g4
    refine ⟨g3, g4, g1, g2, g5, fun i i1 i2 i3 a' k' c' W hW => ?_⟩
    obtain ⟨p1, p2⟩ := ctr_part h0 g1 (by rw [hl.len]; exact g2) (by rw [hl.len]; exact g4) g6 g7 i1 i2 i3
    refine (regionOf_any g (subA A (rmv S i S.length)) a' k' c' W hW).mono ?_
    rintro e' w' ⟨a2, k2, c2, rfl, hb, hr⟩
    rw [p1]
    refine ⟨a2, k2, c2, rfl, hb, hr.small, ?_⟩
    rw [← p2, ← ER.len hr]
    exact List.length_eq_zero_iff)
  have HSL := Lib.hid hl
  clear hl
  obtain ⟨S, hC1⟩ : ∃ C, C = (ctrV g A).1 := ⟨_, rfl⟩
  obtain ⟨C2, hC2⟩ : ∃ C, C = (ctrV g A).2 := ⟨_, rfl⟩
  rw [← hC1] at HK HX HM
  rw [← hC2] at HK HX HM
  clear hC1 hC2
  generalize hE g A = E at *
  generalize regV g A = V at *
  generalize (arrE A).2 = D2 at *
  generalize ligB g = LB at *
  generalize griE g = D1 at *
  obtain ⟨⟨fx, fy, fz⟩, st, ⟨gx, gy, gz⟩⟩ := g
  obtain ⟨vl, vh, l⟩ := A
  simp only at *
  go_enter Tryz.func9, Tryz.ntmps9
  go_wp2_with fail
  obtain ⟨w4, hW⟩ : ∃ w4, w4 = (w.alloc (Obj.cells #[.int .i64 fx, .int .i64 fy, .int .i64 fz, .int .i64 st, .int .i64 gx, .int .i64 gy, .int .i64 gz] 90)).alloc (Obj.cells #[.int .i64 vl, .int .i64 vh, .slice a n cp] 93) := ⟨_, rfl⟩
  rw [← hW]
  have hb4 : Below w.heap.size w w4 := by rw [hW]; (repeat' (first | (with_reducible exact Below.refl _ _) | (with_reducible assumption) | (with_reducible refine Below.drewN ?_ _) | (with_reducible refine Below.alloc ?_ ?_ _) | (with_reducible refine Below.drew ?_) | (with_reducible refine Below.setCell ?_ ?_ _) | (with_reducible refine Below.step (by assumption) ?_ ?_) | (with_reducible exact And.left (by assumption)) | go_size))
  have kG : w4.heap[w.heap.size]? = some (.cells #[.int .i64 fx, .int .i64 fy, .int .i64 fz, .int .i64 st, .int .i64 gx, .int .i64 gy, .int .i64 gz] 90) := by
    rw [hW, Below.heap_alloc _ _ _ (by simp)]; exact heap_alloc_new _ _
  have kA : w4.heap[w.heap.size + 1]? = some (.cells #[.int .i64 vl, .int .i64 vh, .slice a n cp] 93) := by
    rw [hW]
    have := heap_alloc_new (w.alloc (Obj.cells #[.int .i64 fx, .int .i64 fy, .int .i64 fz, .int .i64 st, .int .i64 gx, .int .i64 gy, .int .i64 gz] 90)) (Obj.cells #[.int .i64 vl, .int .i64 vh, .slice a n cp] 93)
    simpa using this
  have HB4 := Lib.hid hb4
  clear hW hb4
  have HB := Lib.hid (Below.refl w4.heap.size w4)
  have hbr := HB.out
  have kg := blk_below kG hbr
  have ka := blk_below kA hbr
  have q0 := blk_cell kg (i := 0) rfl
  have q1 := blk_cell kg (i := 1) rfl
  have q2 := blk_cell kg (i := 2) rfl
  have q3 := blk_cell kg (i := 3) rfl
  have q4 := blk_cell kg (i := 4) rfl
  have q5 := blk_cell kg (i := 5) rfl
  have q6 := blk_cell kg (i := 6) rfl
  have p0 := blk_cell ka (i := 0) rfl
  have p1 := blk_cell ka (i := 1) rfl
  have p2 := blk_cell ka (i := 2) rfl
  have lr0 := blk_lt kg
  have lr1 := blk_lt ka
  clear kg ka hbr
  refine (awake9_any _).mono ?_
  rintro e5 w5 ⟨rfl, hb5⟩
  have HB := Lib.hid (HB.out.trans (hb5.mono HB.out.size))
  clear hb5
  clear q0 q1 q2 q3 q4 q5 q6 p0 p1 p2 lr0 lr1
  have hbr := HB.out
  have kg := blk_below kG hbr
  have ka := blk_below kA hbr
  have q0 := blk_cell kg (i := 0) rfl
  have q1 := blk_cell kg (i := 1) rfl
  have q2 := blk_cell kg (i := 2) rfl
  have q3 := blk_cell kg (i := 3) rfl
  have q4 := blk_cell kg (i := 4) rfl
  have q5 := blk_cell kg (i := 5) rfl
  have q6 := blk_cell kg (i := 6) rfl
  have p0 := blk_cell ka (i := 0) rfl
  have p1 := blk_cell ka (i := 1) rfl
  have p2 := blk_cell ka (i := 2) rfl
  have lr0 := blk_lt kg
  have lr1 := blk_lt ka
  clear kg ka hbr
  go_wp2_with fail
  refine (HF.out _).mono ?_
  rintro e6 w6 ⟨rfl, hb6⟩
  have HB := Lib.hid (HB.out.trans (hb6.mono HB.out.size))
  clear hb6
  clear q0 q1 q2 q3 q4 q5 q6 p0 p1 p2 lr0 lr1
  have hbr := HB.out
  have kg := blk_below kG hbr
  have ka := blk_below kA hbr
  have q0 := blk_cell kg (i := 0) rfl
  have q1 := blk_cell kg (i := 1) rfl
  have q2 := blk_cell kg (i := 2) rfl
  have q3 := blk_cell kg (i := 3) rfl
  have q4 := blk_cell kg (i := 4) rfl
  have q5 := blk_cell kg (i := 5) rfl
  have q6 := blk_cell kg (i := 6) rfl
  have p0 := blk_cell ka (i := 0) rfl
  have p1 := blk_cell ka (i := 1) rfl
  have p2 := blk_cell ka (i := 2) rfl
  have lr0 := blk_lt kg
  have lr1 := blk_lt ka
  clear kg ka hbr
  by_cases h7 : n ≤ 7
  · rw [decide_eq_true h7]
    go_wp2_with fail
    refine (HG.out _).mono ?_
    rintro e7 w7 ⟨rfl, hb7⟩
    have HB := Lib.hid (HB.out.trans (hb7.mono HB.out.size))
    clear hb7
    clear q0 q1 q2 q3 q4 q5 q6 p0 p1 p2 lr0 lr1
    have hbr := HB.out
    have kg := blk_below kG hbr
    have ka := blk_below kA hbr
    have q0 := blk_cell kg (i := 0) rfl
    have q1 := blk_cell kg (i := 1) rfl
    have q2 := blk_cell kg (i := 2) rfl
    have q3 := blk_cell kg (i := 3) rfl
    have q4 := blk_cell kg (i := 4) rfl
    have q5 := blk_cell kg (i := 5) rfl
    have q6 := blk_cell kg (i := 6) rfl
    have p0 := blk_cell ka (i := 0) rfl
    have p1 := blk_cell ka (i := 1) rfl
    have p2 := blk_cell ka (i := 2) rfl
    have lr0 := blk_lt kg
    have lr1 := blk_lt ka
    clear kg ka hbr
    by_cases h1 : D1 = 0
    · subst h1
      go_wp2_with fail
      refine (HL.out _).mono ?_
      rintro e8 w8 ⟨rfl, hb8⟩
      have HB := Lib.hid (HB.out.trans (hb8.mono HB.out.size))
      clear hb8
      clear q0 q1 q2 q3 q4 q5 q6 p0 p1 p2 lr0 lr1
      have hbr := HB.out
      have kg := blk_below kG hbr
      have ka := blk_below kA hbr
      have q0 := blk_cell kg (i := 0) rfl
      have q1 := blk_cell kg (i := 1) rfl
      have q2 := blk_cell kg (i := 2) rfl
      have q3 := blk_cell kg (i := 3) rfl
      have q4 := blk_cell kg (i := 4) rfl
      have q5 := blk_cell kg (i := 5) rfl
      have q6 := blk_cell kg (i := 6) rfl
      have p0 := blk_cell ka (i := 0) rfl
      have p1 := blk_cell ka (i := 1) rfl
      have p2 := blk_cell ka (i := 2) rfl
      have lr0 := blk_lt kg
      have lr1 := blk_lt ka
      clear kg ka hbr
      cases LB
      · go_wp2
        go_ret
        exact ⟨rfl, HB4.out.trans (HB.out.mono HB4.out.size)⟩
      · go_wp2_with fail
        refine (HAE.out _ (HB4.out.trans (HB.out.mono HB4.out.size))).mono ?_
        rintro e9 w9 ⟨rfl, hb9⟩
        have HB := Lib.hid (HB.out.trans (hb9.mono HB.out.size))
        clear hb9
        clear q0 q1 q2 q3 q4 q5 q6 p0 p1 p2 lr0 lr1
        have hbr := HB.out
        have kg := blk_below kG hbr
        have ka := blk_below kA hbr
        have q0 := blk_cell kg (i := 0) rfl
        have q1 := blk_cell kg (i := 1) rfl
        have q2 := blk_cell kg (i := 2) rfl
        have q3 := blk_cell kg (i := 3) rfl
        have q4 := blk_cell kg (i := 4) rfl
        have q5 := blk_cell kg (i := 5) rfl
        have q6 := blk_cell kg (i := 6) rfl
        have p0 := blk_cell ka (i := 0) rfl
        have p1 := blk_cell ka (i := 1) rfl
        have p2 := blk_cell ka (i := 2) rfl
        have lr0 := blk_lt kg
        have lr1 := blk_lt ka
        clear kg ka hbr
        by_cases h2 : D2 = 0
        · subst h2
          obtain rfl : E = 0 := HD.out (by first | rfl | trivial) (by first | rfl | trivial)
          clear HG HAE HF HL HD
          go_wp2_with fail
          refine wp_region_laterT (B := w9.heap.size) (.head 0 (.head 1 (.one 2 (.one 3 (.head 4 (.head 5 (.head 6 (.head 7 (.head 8 .done))))))))) (by kernel_rfl) (by kernel_rfl) ?_
          repeat (refine tree_head rfl ?_; (show wpQuiet _ _ _ _ (_ :: _) _; go_big_quiet_step (fail)); refine wpQuiet_nil ?_)
          refine tree_one rfl ?_; go_wp2_with fail
          have HBW := Lib.hid (HB4.out.trans (HB.out.mono HB4.out.size))
          refine (HCP.out h7 _ (HBW.out.trans ((show Below w9.heap.size w9 w9.drew by (repeat' (first | (with_reducible exact Below.refl _ _) | (with_reducible assumption) | (with_reducible refine Below.drewN ?_ _) | (with_reducible refine Below.alloc ?_ ?_ _) | (with_reducible refine Below.drew ?_) | (with_reducible refine Below.setCell ?_ ?_ _) | (with_reducible refine Below.step (by assumption) ?_ ?_) | (with_reducible exact And.left (by assumption)) | go_size))).mono HBW.out.size))).mono ?_
          rintro e10 w10 ⟨a8, c8, rfl, hb8, hs8⟩
          have HB8 := Lib.hid ((show Below w9.heap.size w9 w9.drew by (repeat' (first | (with_reducible exact Below.refl _ _) | (with_reducible assumption) | (with_reducible refine Below.drewN ?_ _) | (with_reducible refine Below.alloc ?_ ?_ _) | (with_reducible refine Below.drew ?_) | (with_reducible refine Below.setCell ?_ ?_ _) | (with_reducible refine Below.step (by assumption) ?_ ?_) | (with_reducible exact And.left (by assumption)) | go_size))).trans hb8)
          go_wp2_with fail
          refine tailL_mk HB8.out ?_
          clear hb8
          refine tree_one rfl ?_; go_wp2_with fail
          refine (HR.out a8 c8 _ hs8).mono ?_
          rintro e11 w11 ⟨al, kl, cl, rfl, hb9, hr9⟩
          have hb9 := HB8.out.trans (hb9.mono HB8.out.size)
          go_wp2_with fail
          refine tailL_mk hb9 ?_
          clear HB8 hs8 HBW HR
          repeat (refine tree_head rfl ?_; (show wpQuiet _ _ _ _ (_ :: _) _; go_big_quiet_step (fail)); refine wpQuiet_nil ?_)
          refine tree_done ?_
          have HLL := Lib.hid (ER.len hr9)
          have hkl := hr9.small
          clear hr9
          have HB := Lib.hid (HB.out.trans (hb9.mono HB.out.size))
          clear hb9
          clear q0 q1 q2 q3 q4 q5 q6 p0 p1 p2 lr0 lr1
          have hbr := HB.out
          have kg := blk_below kG hbr
          have ka := blk_below kA hbr
          have q0 := blk_cell kg (i := 0) rfl
          have q1 := blk_cell kg (i := 1) rfl
          have q2 := blk_cell kg (i := 2) rfl
          have q3 := blk_cell kg (i := 3) rfl
          have q4 := blk_cell kg (i := 4) rfl
          have q5 := blk_cell kg (i := 5) rfl
          have q6 := blk_cell kg (i := 6) rfl
          have p0 := blk_cell ka (i := 0) rfl
          have p1 := blk_cell ka (i := 1) rfl
          have p2 := blk_cell ka (i := 2) rfl
          have lr0 := blk_lt kg
          have lr1 := blk_lt ka
          clear kg ka hbr
          go_wp2_with fail
          refine wp_region_laterT (B := w11.heap.size) (.head 0 (.head 1 (.one 2 (.one 3 (.head 4 (.head 5 (.head 6 (.head 7 (.head 8 .done))))))))) (by kernel_rfl) (by kernel_rfl) ?_
          repeat (refine tree_head rfl ?_; (show wpQuiet _ _ _ _ (_ :: _) _; go_big_quiet_step (fail)); refine wpQuiet_nil ?_)
          refine tree_one rfl ?_; go_wp2_with fail
          have HBW := Lib.hid (HB4.out.trans (HB.out.mono HB4.out.size))
          refine (HCP.out h7 _ (HBW.out.trans ((show Below w11.heap.size w11 w11.drew by (repeat' (first | (with_reducible exact Below.refl _ _) | (with_reducible assumption) | (with_reducible refine Below.drewN ?_ _) | (with_reducible refine Below.alloc ?_ ?_ _) | (with_reducible refine Below.drew ?_) | (with_reducible refine Below.setCell ?_ ?_ _) | (with_reducible refine Below.step (by assumption) ?_ ?_) | (with_reducible exact And.left (by assumption)) | go_size))).mono HBW.out.size))).mono ?_
          rintro e12 w12 ⟨a10, c10, rfl, hb10, hs10⟩
          have HB8 := Lib.hid ((show Below w11.heap.size w11 w11.drew by (repeat' (first | (with_reducible exact Below.refl _ _) | (with_reducible assumption) | (with_reducible refine Below.drewN ?_ _) | (with_reducible refine Below.alloc ?_ ?_ _) | (with_reducible refine Below.drew ?_) | (with_reducible refine Below.setCell ?_ ?_ _) | (with_reducible refine Below.step (by assumption) ?_ ?_) | (with_reducible exact And.left (by assumption)) | go_size))).trans hb10)
          go_wp2_with fail
          refine tailL_mk HB8.out ?_
          clear hb10
          refine tree_one rfl ?_; go_wp2_with fail
          refine (HK.out a10 c10 _ hs10).mono ?_
          rintro e13 w13 ⟨az, ks, cs, rfl, hb11, hi11⟩
          have hb11 := HB8.out.trans (hb11.mono HB8.out.size)
          go_wp2_with fail
          refine tailL_mk hb11 ?_
          clear HB8 hs10 HBW HK HCP
          repeat (refine tree_head rfl ?_; (show wpQuiet _ _ _ _ (_ :: _) _; go_big_quiet_step (fail)); refine wpQuiet_nil ?_)
          refine tree_done ?_
          have HIS := Lib.hid hi11
          have HKS := Lib.hid (show S.length = ks by have := hi11.len; simpa [nats] using this)
          have hks := hi11.small
          clear hi11
          have HB := Lib.hid (HB.out.trans (hb11.mono HB.out.size))
          clear hb11
          clear q0 q1 q2 q3 q4 q5 q6 p0 p1 p2 lr0 lr1
          have hbr := HB.out
          have kg := blk_below kG hbr
          have ka := blk_below kA hbr
          have q0 := blk_cell kg (i := 0) rfl
          have q1 := blk_cell kg (i := 1) rfl
          have q2 := blk_cell kg (i := 2) rfl
          have q3 := blk_cell kg (i := 3) rfl
          have q4 := blk_cell kg (i := 4) rfl
          have q5 := blk_cell kg (i := 5) rfl
          have q6 := blk_cell kg (i := 6) rfl
          have p0 := blk_cell ka (i := 0) rfl
          have p1 := blk_cell ka (i := 1) rfl
          have p2 := blk_cell ka (i := 2) rfl
          have lr0 := blk_lt kg
          have lr1 := blk_lt ka
          clear kg ka hbr
          by_cases hc : C2 = 0
          · obtain ⟨m1, m2, m3, m4, m5, m6⟩ := HM.out trivial hc
            subst hc
            have hkl0 : kl = 0 := by rw [← HLL.out, m5]; rfl
            subst hkl0
            rw [HKS.out] at m1 m2 m6
            have HPW := Lib.hid m3
            have HLT := Lib.hid m4
            have HMM := Lib.hid m6
            have HW2 := Lib.hid (fun w' => bwithin_any (ks : Int) 2 (n : Int) w')
            rw [show wi (ks : Int) 2 (n : Int) = true from wi_iff.2 (by omega)] at HW2
            clear HX HM m3 m4 m5 m6 HLL
            go_wp2_with fail
            refine (HW2.out _).mono ?_
            rintro e14 w14 ⟨rfl, rfl⟩
            go_wp2_with fail
            clear HW2
            have hks5 : ks ≤ 7 := by omega
            have HB13 := Lib.hid (HB.out)
            clear q0 q1 q2 q3 q4 q5 q6 p0 p1 p2 lr0 lr1
            go_loopw [9] (fun i wr => ∃ iv : Int, i = .int .i64 iv ∧ -1 ≤ iv ∧ iv ≤ (ks : Int) ∧ Hid (Below w13.heap.size w13 wr)) (fun i _ => ((ks : Int) - intOf i).toNat)
            case atStart => exact ⟨-1, rfl, Int.le_refl _, by omega, Lib.hid (Below.refl _ _)⟩
            case round =>
              clear HB
              obtain ⟨iv, rfl, i1, i2, hBr⟩ := hrel
              have HB := Lib.hid (HB13.out.trans (hBr.out.mono HB13.out.size))
              have wi1 : IntKind.i64.wrap (iv + 1) = iv + 1 := by rw [IntKind.wrap_i64]; omega
              have hbr := HB.out
              have kg := blk_below kG hbr
              have ka := blk_below kA hbr
              have q0 := blk_cell kg (i := 0) rfl
              have q1 := blk_cell kg (i := 1) rfl
              have q2 := blk_cell kg (i := 2) rfl
              have q3 := blk_cell kg (i := 3) rfl
              have q4 := blk_cell kg (i := 4) rfl
              have q5 := blk_cell kg (i := 5) rfl
              have q6 := blk_cell kg (i := 6) rfl
              have p0 := blk_cell ka (i := 0) rfl
              have p1 := blk_cell ka (i := 1) rfl
              have p2 := blk_cell ka (i := 2) rfl
              have lr0 := blk_lt kg
              have lr1 := blk_lt ka
              clear kg ka hbr
              by_cases hlt : iv < (ks : Int)
              · go_wp2_with fail
                obtain ⟨wa, hW⟩ : ∃ wa, wa = wr.alloc (Obj.cells #[.int .i64 vl, .int .i64 vh, .slice none 0 0] 93) := ⟨_, rfl⟩
                rw [← hW]
                obtain ⟨X10, hX10⟩ : ∃ X, X = wr.heap.size := ⟨_, rfl⟩
                rw [← hX10]
                have hba : Below wr.heap.size wr wa := by rw [hW]; (repeat' (first | (with_reducible exact Below.refl _ _) | (with_reducible assumption) | (with_reducible refine Below.drewN ?_ _) | (with_reducible refine Below.alloc ?_ ?_ _) | (with_reducible refine Below.drew ?_) | (with_reducible refine Below.setCell ?_ ?_ _) | (with_reducible refine Below.step (by assumption) ?_ ?_) | (with_reducible exact And.left (by assumption)) | go_size))
                have k10 : wa.heap[X10]? = some (Obj.cells #[.int .i64 vl, .int .i64 vh, .slice none 0 0] 93) := by rw [hW, hX10]; exact heap_alloc_new _ _
                have hza : X10 + 1 ≤ wa.heap.size := by rw [hW, hX10]; simp
                have hw13 : w13.heap.size ≤ X10 := by rw [hX10]; exact hBr.out.size
                have hw4 : w4.heap.size ≤ X10 := by rw [hX10]; exact HB.out.size
                have HA13 := Lib.hid (hBr.out.trans (hba.mono hBr.out.size))
                have HA4 := Lib.hid (HB.out.trans (hba.mono HB.out.size))
                clear hW hX10 hba
                clear q0 q1 q2 q3 q4 q5 q6 p0 p1 p2 lr0 lr1
                go_loopw [11] (fun i wx => ∃ (k q : Nat) (av : Option Addr) (cv : Nat), i = .int .i64 (k : Int) ∧ k ≤ ks ∧ q ≤ k ∧ Hid (wx.heap[X10]? = some (Obj.cells #[.int .i64 vl, .int .i64 vh, .slice av q cv] 93)) ∧ Hid (wx.ownsRow (X10 + 1) 114 5 (.slice av q cv) q (ecells e5 ((rmv S iv k).map (sAt l)))) ∧ Hid (Below X10 wa wx) ∧ X10 + 1 ≤ wx.heap.size) (fun i _ => ks - (intOf i).toNat)
                case atStart => exact ⟨0, 0, none, 0, rfl, Nat.zero_le _, Nat.le_refl _, Lib.hid k10, Lib.hid (World.ownsRow_nil _ _ _ _), Lib.hid (Below.refl _ _), hza⟩
                case round =>
                  clear HB
                  obtain ⟨k, q, av, cv, rfl, hk, hq, hK, hO, hB2, hzx⟩ := hrel
                  have k0 : (0 : Int) ≤ (k : Int) := by omega
                  have HX13 := Lib.hid (HA13.out.trans (hB2.out.mono hw13))
                  have HB := Lib.hid (HA4.out.trans (hB2.out.mono hw4))
                  have hbr := HB.out
                  have kg := blk_below kG hbr
                  have ka := blk_below kA hbr
                  have q0 := blk_cell kg (i := 0) rfl
                  have q1 := blk_cell kg (i := 1) rfl
                  have q2 := blk_cell kg (i := 2) rfl
                  have q3 := blk_cell kg (i := 3) rfl
                  have q4 := blk_cell kg (i := 4) rfl
                  have q5 := blk_cell kg (i := 5) rfl
                  have q6 := blk_cell kg (i := 6) rfl
                  have p0 := blk_cell ka (i := 0) rfl
                  have p1 := blk_cell ka (i := 1) rfl
                  have p2 := blk_cell ka (i := 2) rfl
                  have lr0 := blk_lt kg
                  have lr1 := blk_lt ka
                  clear kg ka hbr
                  by_cases hltk : k < ks
                  · have k1 : (k : Int) < (ks : Int) := by omega
                    obtain ⟨bS, oS, rfl, hbS, cS⟩ := nats_at (HIS.out.below HX13.out) hltk
                    have hin : S.getD k 0 < n := getD_lt HLT.out (by rw [HKS.out]; exact hltk)
                    have HRY := Lib.hid (fun (h : (k : Int) ≠ iv) => rmv_yes (S := S) h)
                    have HRN := Lib.hid (fun (h : (k : Int) = iv) => rmv_no (S := S) h)
                    have HPV := Lib.hid (fun (m : Nat) (h : m + 1 = k) => show S.getD m 0 < S.getD k 0 by
                      have e1 : m < S.length := by rw [HKS.out]; omega
                      have e2 : k < S.length := by rw [HKS.out]; exact hltk
                      have := List.pairwise_iff_getElem.1 HPW.out m k e1 e2 (by omega)
                      simpa [List.getD, e1, e2] using this)
                    obtain ⟨x, hx⟩ : ∃ x, x = S.getD k 0 := ⟨_, rfl⟩
                    rw [← hx] at cS hin HRY HPV
                    have HXG := Lib.hid hx
                    clear hx
                    have HWI := Lib.hid (fun w' => bwithin_any (x : Int) 0 ((n : Int) - 1) w')
                    rw [show wi (x : Int) 0 ((n : Int) - 1) = true from wi_iff.2 (by omega)] at HWI
                    have w0 : IntKind.i64.wrap ((n : Int) - 1) = (n : Int) - 1 := by rw [IntKind.wrap_i64]; omega
                    by_cases hk0 : k = 0
                    · have b1 : ¬ ((0 : Int) < (k : Int)) := by omega
                      have b1n : ¬ (0 < k) := by omega
                      clear hk0
                      go_wp2_with fail
                      refine later_all (by kernel_rfl) (by kernel_rfl) ?_; repeat go_big_quiet_step((with_reducible exact calls_later_same (HWI.out _)))
                      refine wpQuiet_nil ?_; intro w15 hb15
                      clear b1 b1n
                      have HB := Lib.hid (HB.out.trans (hb15.mono HB.out.size))
                      have HX13 := Lib.hid (HX13.out.trans (hb15.mono HX13.out.size))
                      have hK := Lib.hid (blk_below hK.out hb15)
                      have hO := Lib.hid (owns_below hO.out hb15 (fun z hz => (hO.out.lt z hz).2))
                      have hB2 := Lib.hid (hB2.out.trans (hb15.mono (by omega)))
                      have hzx : X10 + 1 ≤ w15.heap.size := Nat.le_trans hzx hb15.size
                      have cS : w15.cell? ⟨bS, oS + k, none⟩ = some (.int .i64 (x : Nat)) := by rw [cellB hb15 _ _ hbS]; exact cS
                      have hbS' : bS < X10 := by
                        obtain ⟨b', o', e, hb', _⟩ := nats_at HIS.out hltk
                        simp only [Option.some.injEq, Addr.mk.injEq] at e
                        omega
                      have hbS : bS < w15.heap.size := by omega
                      clear hb15 HWI w0
                      clear q0 q1 q2 q3 q4 q5 q6 p0 p1 p2 lr0 lr1
                      have hbr := HB.out
                      have kg := blk_below kG hbr
                      have ka := blk_below kA hbr
                      have q0 := blk_cell kg (i := 0) rfl
                      have q1 := blk_cell kg (i := 1) rfl
                      have q2 := blk_cell kg (i := 2) rfl
                      have q3 := blk_cell kg (i := 3) rfl
                      have q4 := blk_cell kg (i := 4) rfl
                      have q5 := blk_cell kg (i := 5) rfl
                      have q6 := blk_cell kg (i := 6) rfl
                      have p0 := blk_cell ka (i := 0) rfl
                      have p1 := blk_cell ka (i := 1) rfl
                      have p2 := blk_cell ka (i := 2) rfl
                      have lr0 := blk_lt kg
                      have lr1 := blk_lt ka
                      clear kg ka hbr
                      by_cases hki : (k : Int) = iv
                      · have e1 : ((k : Int) != iv) = false := by simp [hki]
                        have hO := Lib.hid (show w15.ownsRow (X10 + 1) 114 5 (.slice av q cv) q (ecells e5 ((rmv S iv (k + 1)).map (sAt l))) by rw [HRN.out hki]; exact hO.out)
                        clear hki HRY HRN HPV
                        go_wp2_with fail
                        go_roundw
                        case rel => exact ⟨k + 1, q, av, cv, by go_num, by omega, by omega, hK, hO, hB2, hzx⟩
                        case measure => simp [intOf]; omega
                      · have e1 : ((k : Int) != iv) = true := by simp [hki]
                        obtain ⟨b0, o0, rfl, hb0, hcs⟩ := (HSL.out.below (HB4.out.trans (HB.out.mono HB4.out.size))).addr (by omega)
                        have hb0' : b0 < X10 := by
                          obtain ⟨b1, o1, e, hb1, _⟩ := HSL.out.addr (by omega)
                          simp only [Option.some.injEq, Addr.mk.injEq] at e
                          have := HB4.out.size
                          omega
                        have hw0 : w.heap.size + 1 < X10 := by have := blk_lt kA; omega
                        have hw00 : w.heap.size < X10 := by omega
                        have hw01 : w.heap.size + 1 < X10 + 1 := by omega
                        obtain ⟨⟨sx, sy, sz', tl, th⟩, hxx⟩ := ER.get HSL.out hin
                        obtain ⟨r0, r1, r2, r3, r4⟩ := hcs x _ hxx
                        have hT := Lib.hid (show ecells e5 ((rmv S iv (k + 1)).map (sAt l)) = ecells e5 ((rmv S iv k).map (sAt l)) ++ [.int .i64 sx, .int .i64 sy, .int .i64 sz', .int .i64 tl, .int .i64 th] by rw [HRY.out hki, List.map_append, ecells_append, List.map_cons, List.map_nil, sAt_getE hxx, ecells_one]; rfl)
                        have ix0 : (0 : Int) ≤ (x : Int) := by omega
                        have ix1 : (x : Int) < (n : Int) := by omega
                        simp only at r0 r1 r2 r3 r4
                        have p2 : w15.cell? ⟨w.heap.size + 1, 2, none⟩ = some (.slice (some ⟨b0, o0, none⟩) n cp) := p2
                        have y9 : w15.cell? ⟨X10, 2, none⟩ = some (.slice av q cv) := blk_cell hK.out (i := 2) rfl
                        have g9 := blk_fz hK.out 2
                        have lb : X10 < w15.heap.size := by omega
                        clear hcs hxx hki HRY HRN HPV
                        go_wp2_with fail
                        refine wp_region_laterZ (B := X10 + 1) [0, 1, 2, 3, 4, 5, 6, 7, 8, 9] [10, 11, 12, 13] 13 (by kernel_rfl) (by kernel_rfl) ?_; simp only [List.filterMap_cons, List.filterMap_nil, List.getElem?_cons_zero, List.getElem?_cons_succ]; repeat (show wpQuiet _ _ _ _ (_ :: _) _; go_big_quiet_step (fail))
                        refine wpQuiet_nil ?_
                        refine tailZ_cons ?_
                        go_wp2_with fail
                        have HNb := Lib.hid (show Below (X10 + 1) w15 (w15.alloc (Obj.cells #[.int .i64 sx, .int .i64 sy, .int .i64 sz', .int .i64 tl, .int .i64 th] 114)).drew by (repeat' (first | (with_reducible exact Below.refl _ _) | (with_reducible assumption) | (with_reducible refine Below.drewN ?_ _) | (with_reducible refine Below.alloc ?_ ?_ _) | (with_reducible refine Below.drew ?_) | (with_reducible refine Below.setCell ?_ ?_ _) | (with_reducible refine Below.step (by assumption) ?_ ?_) | (with_reducible exact And.left (by assumption)) | go_size)))
                        refine tailL_mk (HNb.out.mono (by omega)) ?_
                        refine tailZ_cons ?_
                        go_wp2_with (at_builtin; refine wpList_append_sl _ rfl _ _ 91 rfl (X10 + 1) 114 _ 5 40 Tryz.underlying91 infoSen rfl (by omega) (.slice av q cv) q _ rfl ((hO.out.alloc _).drew) _ 1 1 [.int .i64 sx, .int .i64 sy, .int .i64 sz', .int .i64 tl, .int .i64 th] rfl (SlR.lit _ _ _ _ _ 1 5 (by rfl) (by simp) rfl (by omega)) (by simp [Value.oneCell']) (by omega) (by omega) (by simp; omega) ?_)
                        intro v2 wz hownz _ hbz
                        obtain ⟨av2, cv2, rfl, _, _⟩ := owns_slice hownz
                        rw [← hT.out] at hownz
                        have hbz' : Below (X10 + 1) w15 wz := HNb.out.trans hbz
                        have hzz := hbz'.size
                        have HKZ := Lib.hid ((hbz'.block X10 (by omega)).trans hK.out)
                        have coz : wz.cell? ⟨X10, 2, none⟩ = some (.slice av q cv) := blk_cell HKZ.out (i := 2) rfl
                        have foz := blk_fz HKZ.out 2
                        have loz : X10 < wz.heap.size := by omega
                        have HOZ := Lib.hid hownz
                        have HBZ := Lib.hid hbz'
                        clear hownz hbz hbz' y9 g9 lb hT r0 r1 r2 r3 r4 cS hb0 hbS
                        clear q0 q1 q2 q3 q4 q5 q6 p0 p1 p2 lr0 lr1
                        go_wp2_with fail
                        refine tailL_mk (HBZ.out.mono (by omega)) ?_
                        refine tailZ_cons ?_
                        go_wp2_with fail
                        refine tailL_mk (HBZ.out.mono (by omega)) ?_
                        refine tailZ_last ?_
                        go_wp2_with fail
                        refine tailZ_end ?_
                        go_wp2
                        go_roundw
                        case rel => exact ⟨k + 1, q + 1, av2, cv2, by go_num, by omega, by omega, Lib.hid (blk_set HKZ.out 2 _), Lib.hid (ownsRow_setCell_below HOZ.out (a := ⟨X10, 2, none⟩) (by show X10 < X10 + 1; omega) _), Lib.hid (Below.setCell (hB2.out.trans (HBZ.out.mono (by omega))) (by simp) _), by simp; omega⟩
                        case measure => simp [intOf]; omega
                    · obtain ⟨km, hkm⟩ : ∃ km, km + 1 = k := ⟨k - 1, by omega⟩
                      have hxy := HPV.out km hkm
                      obtain ⟨b', o', e, _, cS2⟩ := nats_at (HIS.out.below HX13.out) (show km < ks by omega)
                      simp only [Option.some.injEq, Addr.mk.injEq, and_true] at e
                      obtain ⟨rfl, rfl⟩ := e
                      generalize S.getD km 0 = y at *
                      have b1 : (0 : Int) < (k : Int) := by omega
                      have b1n : 0 < k := by omega
                      have b2n : ¬ (x ≤ y) := by omega
                      have b2 : ¬ ((x : Int) ≤ (y : Int)) := by omega
                      have km0 : (0 : Int) ≤ (km : Int) := by omega
                      have km1 : (km : Int) < (ks : Int) := by omega
                      have w1 : IntKind.i64.wrap ((k : Int) - 1) = (km : Int) := by rw [IntKind.wrap_i64]; omega
                      clear hk0 hkm hxy
                      go_wp2_with fail
                      refine later_all (by kernel_rfl) (by kernel_rfl) ?_; repeat go_big_quiet_step((with_reducible exact calls_later_same (HWI.out _)))
                      refine wpQuiet_nil ?_; intro w15 hb15
                      clear b1 b1n b2n b2 km0 km1 w1 cS2
                      have HB := Lib.hid (HB.out.trans (hb15.mono HB.out.size))
                      have HX13 := Lib.hid (HX13.out.trans (hb15.mono HX13.out.size))
                      have hK := Lib.hid (blk_below hK.out hb15)
                      have hO := Lib.hid (owns_below hO.out hb15 (fun z hz => (hO.out.lt z hz).2))
                      have hB2 := Lib.hid (hB2.out.trans (hb15.mono (by omega)))
                      have hzx : X10 + 1 ≤ w15.heap.size := Nat.le_trans hzx hb15.size
                      have cS : w15.cell? ⟨bS, oS + k, none⟩ = some (.int .i64 (x : Nat)) := by rw [cellB hb15 _ _ hbS]; exact cS
                      have hbS' : bS < X10 := by
                        obtain ⟨b', o', e, hb', _⟩ := nats_at HIS.out hltk
                        simp only [Option.some.injEq, Addr.mk.injEq] at e
                        omega
                      have hbS : bS < w15.heap.size := by omega
                      clear hb15 HWI w0
                      clear q0 q1 q2 q3 q4 q5 q6 p0 p1 p2 lr0 lr1
                      have hbr := HB.out
                      have kg := blk_below kG hbr
                      have ka := blk_below kA hbr
                      have q0 := blk_cell kg (i := 0) rfl
                      have q1 := blk_cell kg (i := 1) rfl
                      have q2 := blk_cell kg (i := 2) rfl
                      have q3 := blk_cell kg (i := 3) rfl
                      have q4 := blk_cell kg (i := 4) rfl
                      have q5 := blk_cell kg (i := 5) rfl
                      have q6 := blk_cell kg (i := 6) rfl
                      have p0 := blk_cell ka (i := 0) rfl
                      have p1 := blk_cell ka (i := 1) rfl
                      have p2 := blk_cell ka (i := 2) rfl
                      have lr0 := blk_lt kg
                      have lr1 := blk_lt ka
                      clear kg ka hbr
                      by_cases hki : (k : Int) = iv
                      · have e1 : ((k : Int) != iv) = false := by simp [hki]
                        have hO := Lib.hid (show w15.ownsRow (X10 + 1) 114 5 (.slice av q cv) q (ecells e5 ((rmv S iv (k + 1)).map (sAt l))) by rw [HRN.out hki]; exact hO.out)
                        clear hki HRY HRN HPV
                        go_wp2_with fail
                        go_roundw
                        case rel => exact ⟨k + 1, q, av, cv, by go_num, by omega, by omega, hK, hO, hB2, hzx⟩
                        case measure => simp [intOf]; omega
                      · have e1 : ((k : Int) != iv) = true := by simp [hki]
                        obtain ⟨b0, o0, rfl, hb0, hcs⟩ := (HSL.out.below (HB4.out.trans (HB.out.mono HB4.out.size))).addr (by omega)
                        have hb0' : b0 < X10 := by
                          obtain ⟨b1, o1, e, hb1, _⟩ := HSL.out.addr (by omega)
                          simp only [Option.some.injEq, Addr.mk.injEq] at e
                          have := HB4.out.size
                          omega
                        have hw0 : w.heap.size + 1 < X10 := by have := blk_lt kA; omega
                        have hw00 : w.heap.size < X10 := by omega
                        have hw01 : w.heap.size + 1 < X10 + 1 := by omega
                        obtain ⟨⟨sx, sy, sz', tl, th⟩, hxx⟩ := ER.get HSL.out hin
                        obtain ⟨r0, r1, r2, r3, r4⟩ := hcs x _ hxx
                        have hT := Lib.hid (show ecells e5 ((rmv S iv (k + 1)).map (sAt l)) = ecells e5 ((rmv S iv k).map (sAt l)) ++ [.int .i64 sx, .int .i64 sy, .int .i64 sz', .int .i64 tl, .int .i64 th] by rw [HRY.out hki, List.map_append, ecells_append, List.map_cons, List.map_nil, sAt_getE hxx, ecells_one]; rfl)
                        have ix0 : (0 : Int) ≤ (x : Int) := by omega
                        have ix1 : (x : Int) < (n : Int) := by omega
                        simp only at r0 r1 r2 r3 r4
                        have p2 : w15.cell? ⟨w.heap.size + 1, 2, none⟩ = some (.slice (some ⟨b0, o0, none⟩) n cp) := p2
                        have y9 : w15.cell? ⟨X10, 2, none⟩ = some (.slice av q cv) := blk_cell hK.out (i := 2) rfl
                        have g9 := blk_fz hK.out 2
                        have lb : X10 < w15.heap.size := by omega
                        clear hcs hxx hki HRY HRN HPV
                        go_wp2_with fail
                        refine wp_region_laterZ (B := X10 + 1) [0, 1, 2, 3, 4, 5, 6, 7, 8, 9] [10, 11, 12, 13] 13 (by kernel_rfl) (by kernel_rfl) ?_; simp only [List.filterMap_cons, List.filterMap_nil, List.getElem?_cons_zero, List.getElem?_cons_succ]; repeat (show wpQuiet _ _ _ _ (_ :: _) _; go_big_quiet_step (fail))
                        refine wpQuiet_nil ?_
                        refine tailZ_cons ?_
                        go_wp2_with fail
                        have HNb := Lib.hid (show Below (X10 + 1) w15 (w15.alloc (Obj.cells #[.int .i64 sx, .int .i64 sy, .int .i64 sz', .int .i64 tl, .int .i64 th] 114)).drew by (repeat' (first | (with_reducible exact Below.refl _ _) | (with_reducible assumption) | (with_reducible refine Below.drewN ?_ _) | (with_reducible refine Below.alloc ?_ ?_ _) | (with_reducible refine Below.drew ?_) | (with_reducible refine Below.setCell ?_ ?_ _) | (with_reducible refine Below.step (by assumption) ?_ ?_) | (with_reducible exact And.left (by assumption)) | go_size)))
                        refine tailL_mk (HNb.out.mono (by omega)) ?_
                        refine tailZ_cons ?_
                        go_wp2_with (at_builtin; refine wpList_append_sl _ rfl _ _ 91 rfl (X10 + 1) 114 _ 5 40 Tryz.underlying91 infoSen rfl (by omega) (.slice av q cv) q _ rfl ((hO.out.alloc _).drew) _ 1 1 [.int .i64 sx, .int .i64 sy, .int .i64 sz', .int .i64 tl, .int .i64 th] rfl (SlR.lit _ _ _ _ _ 1 5 (by rfl) (by simp) rfl (by omega)) (by simp [Value.oneCell']) (by omega) (by omega) (by simp; omega) ?_)
                        intro v2 wz hownz _ hbz
                        obtain ⟨av2, cv2, rfl, _, _⟩ := owns_slice hownz
                        rw [← hT.out] at hownz
                        have hbz' : Below (X10 + 1) w15 wz := HNb.out.trans hbz
                        have hzz := hbz'.size
                        have HKZ := Lib.hid ((hbz'.block X10 (by omega)).trans hK.out)
                        have coz : wz.cell? ⟨X10, 2, none⟩ = some (.slice av q cv) := blk_cell HKZ.out (i := 2) rfl
                        have foz := blk_fz HKZ.out 2
                        have loz : X10 < wz.heap.size := by omega
                        have HOZ := Lib.hid hownz
                        have HBZ := Lib.hid hbz'
                        clear hownz hbz hbz' y9 g9 lb hT r0 r1 r2 r3 r4 cS hb0 hbS
                        clear q0 q1 q2 q3 q4 q5 q6 p0 p1 p2 lr0 lr1
                        go_wp2_with fail
                        refine tailL_mk (HBZ.out.mono (by omega)) ?_
                        refine tailZ_cons ?_
                        go_wp2_with fail
                        refine tailL_mk (HBZ.out.mono (by omega)) ?_
                        refine tailZ_last ?_
                        go_wp2_with fail
                        refine tailZ_end ?_
                        go_wp2
                        go_roundw
                        case rel => exact ⟨k + 1, q + 1, av2, cv2, by go_num, by omega, by omega, Lib.hid (blk_set HKZ.out 2 _), Lib.hid (ownsRow_setCell_below HOZ.out (a := ⟨X10, 2, none⟩) (by show X10 < X10 + 1; omega) _), Lib.hid (Below.setCell (hB2.out.trans (HBZ.out.mono (by omega))) (by simp) _), by simp; omega⟩
                        case measure => simp [intOf]; omega
                  · have hkk : ks = k := by omega
                    subst hkk
                    have y0 := blk_cell hK.out (i := 0) rfl
                    have y1 := blk_cell hK.out (i := 1) rfl
                    have y2 := blk_cell hK.out (i := 2) rfl
                    have lb : X10 < wr.heap.size := by omega
                    by_cases h2 : q < 2
                    · have b1 : (q : Int) < 2 := by omega
                      clear h2
                      go_wp2_with fail
                      go_roundw
                      case rel => exact ⟨iv + 1, by go_num, by omega, by omega, HX13⟩
                      case measure => simp [intOf]; omega
                    · have b1 : ¬ ((q : Int) < 2) := by omega
                      have hlq : ((rmv S iv ks).map (sAt l)).length = q := by have := hO.out.1; rw [ecells_len e5_len] at this; omega
                      have HSR := Lib.hid (show SenR wr av q ((rmv S iv ks).map (sAt l)) from ER.of_owns hlq hO.out)
                      have HRG := Lib.hid (HMM.out iv i1 hlt (by rw [List.length_map] at hlq; omega) av q cv wr HSR.out)
                      clear h2 hlq
                      go_wp2_with fail
                      refine (HRG.out).mono ?_
                      rintro e16 w16 ⟨a2, k2, c2, rfl, hb16, hk2, hiff⟩
                      have HX13 := Lib.hid (HX13.out.trans (hb16.mono HX13.out.size))
                      clear hb16 HRG y0 y1 y2 lb
                      clear q0 q1 q2 q3 q4 q5 q6 p0 p1 p2 lr0 lr1
                      by_cases hi : iv < 0
                      · obtain rfl := hiff.2 hi
                        clear hiff
                        go_wp2_with fail
                        go_roundw
                        case rel => exact ⟨iv + 1, by go_num, by omega, by omega, HX13⟩
                        case measure => simp [intOf]; omega
                      · have e1 : ((k2 : Int) == 0) = false := by
                          have : k2 ≠ 0 := fun h => hi (hiff.1 h)
                          simp; omega
                        clear hiff
                        go_wp2_with fail
                        go_roundw
                        case rel => exact ⟨iv + 1, by go_num, by omega, by omega, HX13⟩
                        case measure => simp [intOf]; omega
              · obtain rfl : iv = (ks : Int) := by omega
                go_wp2
                go_ret
                exact ⟨rfl, HB4.out.trans (HB.out.mono HB4.out.size)⟩
          · obtain ⟨g1, g2, g3⟩ := HX.out trivial hc
            have hks0 : ks = 0 := by rw [← HKS.out, g1]; rfl
            have hkl0 : (0 : Int) < (kl : Int) := by
              have : V.length ≠ 0 := fun h => g3 (List.eq_nil_of_length_eq_zero h)
              have := HLL.out
              omega
            have hkl1 : 0 < kl := by omega
            subst g2 hks0
            clear HX HM hc
            go_wp2_with fail
            all_goals go_ret
            all_goals refine ⟨by first | rfl | exact ret_bool (by simp; omega) | exact ret_bool (by simp) | (simp; omega), HB4.out.trans (HB.out.mono HB4.out.size)⟩
        · have e1 := bne_iff_ne.2 h2
          clear h2
          go_wp2_with fail
          all_goals go_ret
          all_goals refine ⟨by first | rfl | exact ret_bool (by simp) | (simp; rfl) | simp [wrap64], HB4.out.trans (HB.out.mono HB4.out.size)⟩
    · have e1 := bne_iff_ne.2 h1
      clear h1
      go_wp2_with fail
      all_goals go_ret
      all_goals refine ⟨by first | rfl | exact ret_bool (by simp) | (simp; rfl) | simp [wrap64], HB4.out.trans (HB.out.mono HB4.out.size)⟩
  · rw [decide_eq_false h7]
    go_wp2
    go_ret
    exact ⟨rfl, HB4.out.trans (HB.out.mono HB4.out.size)⟩
end Go.Proofs.YthkekjgdknnaiaaGreat
