import Derived.Test.YthkekjgdknnaiaaGreatDAwk
import Derived.Test.YthkekjgdknnaiaaGreatMRctr
import Derived.Test.YthkekjgdknnaiaaGreatRArrv
/- Regions, and the sensors that contradict each other: the statement's function. -/
namespace Go.Proofs.YthkekjgdknnaiaaGreat
open Go.RowKit
set_option linter.unusedVariables false

set_option maxRecDepth 100000 in
theorem arrivalsErr_any (A : Arr) (a : Option Addr) (n c : Nat) (w : World) (hl : SenR w a n A.l) :
    Calls Tryz.prog 49 #[.agg #[.int .i64 A.lo, .int .i64 A.hi, .slice a n c]] w fun e' w' => e' = .returned (.int .i64 (arrE A).2) ∧ Below w.heap.size w w' := by
  have HC := Lib.hid (fun (W : World) (hb : Below w.heap.size w W) => rCheckArrivals_any A a n c W (hl.below hb))
  obtain ⟨⟨K1, K2⟩, hK⟩ : ∃ K, K = arrE A := ⟨_, rfl⟩
  rw [← hK] at HC ⊢
  clear hl hK
  go_enter Tryz.func49, Tryz.ntmps49
  go_wp2_with fail
  refine (HC.out _ (by (repeat' (first | (with_reducible exact Below.refl _ _) | (with_reducible assumption) | (with_reducible refine Below.drewN ?_ _) | (with_reducible refine Below.alloc ?_ ?_ _) | (with_reducible refine Below.drew ?_) | (with_reducible refine Below.setCell ?_ ?_ _) | (with_reducible refine Below.step (by assumption) ?_ ?_) | (with_reducible exact And.left (by assumption)) | go_size)))).mono ?_
  rintro e5 w5 ⟨rfl, hb5⟩
  have HB := Lib.hid (show Below w.heap.size w w5 from Below.trans (by (repeat' (first | (with_reducible exact Below.refl _ _) | (with_reducible assumption) | (with_reducible refine Below.drewN ?_ _) | (with_reducible refine Below.alloc ?_ ?_ _) | (with_reducible refine Below.drew ?_) | (with_reducible refine Below.setCell ?_ ?_ _) | (with_reducible refine Below.step (by assumption) ?_ ?_) | (with_reducible exact And.left (by assumption)) | go_size))) (hb5.mono (by simp)))
  clear hb5 HC
  go_wp2
  go_ret
  exact ⟨rfl, HB.out⟩
def ligB (g : Gri) : Bool := if griE g ≠ 0 then true else decide (g.c.x * g.c.y * g.c.z ≤ 64)
set_option maxHeartbeats 1000000 in
set_option maxRecDepth 100000 in
theorem isLight_any (g : Gri) (w : World) : Calls Tryz.prog 44 #[.agg #[.int .i64 g.f.x, .int .i64 g.f.y, .int .i64 g.f.z, .int .i64 g.st, .int .i64 g.c.x, .int .i64 g.c.y, .int .i64 g.c.z]] w fun e' w' => e' = .returned (.bool (ligB g)) ∧ Below w.heap.size w w' := by
  have HG := Lib.hid (fun w' => rGridErr_any g w')
  obtain ⟨V, hV⟩ : ∃ V, V = ligB g := ⟨_, rfl⟩
  rw [← hV]
  have hc : griE g = 0 → (1 ≤ g.c.x ∧ g.c.x ≤ 6) ∧ (1 ≤ g.c.y ∧ g.c.y ≤ 6) ∧ (1 ≤ g.c.z ∧ g.c.z ≤ 6) := fun h => cnt_iff.1 (griE_zero h).2.2
  have hv : V = if griE g ≠ 0 then true else decide (g.c.x * g.c.y * g.c.z ≤ 64) := hV
  clear hV
  generalize griE g = D at *
  obtain ⟨⟨fx, fy, fz⟩, st, ⟨x, y, z⟩⟩ := g
  simp only at *
  go_enter Tryz.func44, Tryz.ntmps44
  go_wp2_with fail
  refine (HG.out _).mono ?_
  rintro e5 w5 ⟨rfl, hb5⟩
  have q4 : w5.cell? ⟨w.heap.size, 4, none⟩ = some (.int .i64 x) := by { rw [cellB hb5 _ _ (by first | (simp; done) | (simp; omega) | omega)]; all_goals (first | assumption | go_simp) }; have q5 : w5.cell? ⟨w.heap.size, 5, none⟩ = some (.int .i64 y) := by { rw [cellB hb5 _ _ (by first | (simp; done) | (simp; omega) | omega)]; all_goals (first | assumption | go_simp) }; have q6 : w5.cell? ⟨w.heap.size, 6, none⟩ = some (.int .i64 z) := by { rw [cellB hb5 _ _ (by first | (simp; done) | (simp; omega) | omega)]; all_goals (first | assumption | go_simp) }
  have l5 : w.heap.size < w5.heap.size := by have := hb5.size; simp at this; omega
  have HB := Lib.hid (show Below w.heap.size w w5 from Below.trans (by (repeat' (first | (with_reducible exact Below.refl _ _) | (with_reducible assumption) | (with_reducible refine Below.drewN ?_ _) | (with_reducible refine Below.alloc ?_ ?_ _) | (with_reducible refine Below.drew ?_) | (with_reducible refine Below.setCell ?_ ?_ _) | (with_reducible refine Below.step (by assumption) ?_ ?_) | (with_reducible exact And.left (by assumption)) | go_size))) (hb5.mono (by simp)))
  clear hb5 HG
  by_cases h0 : D = 0
  · obtain ⟨⟨a1, a2⟩, ⟨b1, b2⟩, c1, c2⟩ := hc h0
    rw [if_neg (by rw [h0]; decide)] at hv
    have m1 := Int.mul_le_mul a2 b2 (by omega) (by omega)
    have m2 := Int.mul_nonneg (show 0 ≤ x by omega) (show 0 ≤ y by omega)
    have m3 := Int.mul_le_mul (show x * y ≤ 36 by omega) c2 (by omega) (by omega)
    have m4 := Int.mul_nonneg m2 (show 0 ≤ z by omega)
    have w1 : IntKind.i64.wrap (x * y) = x * y := by rw [IntKind.wrap_i64]; omega
    have w2 : IntKind.i64.wrap (x * y * z) = x * y * z := by rw [IntKind.wrap_i64]; omega
    have HV := Lib.hid hv
    subst h0
    clear hc hv m1 m2 m3 m4
    go_wp2
    go_ret
    exact ⟨ret_bool (by rw [HV.out]), HB.out⟩
  · rw [if_pos h0] at hv
    have h1 := bne_iff_ne.2 h0
    have HV := Lib.hid hv
    clear hc hv
    go_wp2
    go_ret
    exact ⟨ret_bool (by rw [HV.out]), HB.out⟩
set_option maxHeartbeats 8000000 in
set_option maxRecDepth 100000 in
theorem reg_any (g : Gri) (A : Arr) (a : Option Addr) (n cp : Nat) (w : World) (hl : SenR w a n A.l) :
    Calls Tryz.prog 7 #[.agg #[.int .i64 g.f.x, .int .i64 g.f.y, .int .i64 g.f.z, .int .i64 g.st, .int .i64 g.c.x, .int .i64 g.c.y, .int .i64 g.c.z], .agg #[.int .i64 A.lo, .int .i64 A.hi, .slice a n cp]] w
      fun e' w' => e' = .returned (.bool true) ∧ Below w.heap.size w w' := by
  have HF := Lib.hid (fun w' => fewSensors_any A.lo A.hi a n cp w' hl.small)
  have HL := Lib.hid (fun w' => isLight_any g w')
  have HCP := Lib.hid (fun (hn : n ≤ 7) (W : World) (hb : Below w.heap.size w W) => copyArrivals_any A.lo A.hi A.l a n cp W (hl.below hb) (by omega))
  have HR := Lib.hid (fun (a' : Option Addr) (c' : Nat) (W : World) (h : SenR W a' n A.l) => regionOf_any g A a' n c' W h)
  have HK := Lib.hid (fun (a' : Option Addr) (c' : Nat) (W : World) (h : SenR W a' n A.l) => contradicting_any g A a' n c' W h)
  have HG := Lib.hid (fun w' => rGridErr_any g w')
  have HAE := Lib.hid (fun (W : World) (hb : Below w.heap.size w W) => arrivalsErr_any A a n cp W (hl.below hb))
  have HAL := Lib.hid (fun (hn : n ≤ 7) w' => all_any A.lo A.hi a n cp w' (by omega))
  have HRR := Lib.hid (fun (h0 : hE g A = 0) (aS : Option Addr) (cs : Nat) (W : World) (hb : Below w.heap.size w W) (hS : IntsR W aS n (nats (List.range n))) => show Calls Tryz.prog 51 #[.agg #[.int .i64 g.f.x, .int .i64 g.f.y, .int .i64 g.f.z, .int .i64 g.st, .int .i64 g.c.x, .int .i64 g.c.y, .int .i64 g.c.z], .agg #[.int .i64 A.lo, .int .i64 A.hi, .slice a n cp], .slice aS n cs] W fun e' w' => ∃ a' k' c', e' = .returned (.slice a' k' c') ∧ Below W.heap.size W w' ∧ CelR w' a' k' (regV g A) by
    obtain ⟨hg, ha⟩ := hE_zero h0
    obtain ⟨_, hv, _, _, hss⟩ := arrE_zero ha
    rw [hl.len] at hss
    have := rRegion_any g A (List.range n) a aS n cp n cs W (hl.below hb) hS hg hss List.nodup_range (fun i hi => List.mem_range.1 hi) hv
    rwa [show regC (fun c => ansS g A c (List.range n)) (gCells g) = regV g A by
      rw [regV_ok h0]
      congr 1
      funext c
      rw [← hl.len]
      exact ansS_all g A c] at this)
  have HRC := Lib.hid (fun (h0 : hE g A = 0) (W : World) (hb : Below w.heap.size w W) => rContra_any g A a n cp W (hl.below hb) h0)
  have HD := Lib.hid (show hE g A = if griE g ≠ 0 then griE g else (arrE A).2 by unfold hE; by_cases h : griE g = 0 <;> by_cases h2 : (arrE A).2 = 0 <;> simp [firstErr, h, h2])
  have HC1 := Lib.hid (fun (h0 : hE g A = 0) (hr : regV g A ≠ []) => show (ctrV g A).1 = [] ∧ (ctrV g A).2 = 12 by rw [ctrV_no h0 hr]; exact ⟨rfl, rfl⟩)
  have HC2 := Lib.hid (fun (h0 : hE g A = 0) (hr : regV g A = []) => show (ctrV g A).2 = 0 by rw [ctrV_yes h0 hr])
  have HC3 := Lib.hid (fun (h0 : hE g A ≠ 0) => show (ctrV g A).1 = [] ∧ (ctrV g A).2 = hE g A ∧ regV g A = [] by unfold ctrV regV; rw [if_pos h0, if_pos h0]; exact ⟨rfl, rfl, rfl⟩)
  clear hl
  obtain ⟨C1, hC1⟩ : ∃ C, C = (ctrV g A).1 := ⟨_, rfl⟩
  obtain ⟨C2, hC2⟩ : ∃ C, C = (ctrV g A).2 := ⟨_, rfl⟩
  rw [← hC1] at HC1 HC3 HK HRC
  rw [← hC2] at HC1 HC2 HC3 HK
  clear hC1 hC2
  generalize hE g A = E at *
  generalize regV g A = V at *
  generalize (arrE A).2 = D2 at *
  generalize ligB g = LB at *
  generalize griE g = D1 at *
  obtain ⟨⟨fx, fy, fz⟩, st, ⟨gx, gy, gz⟩⟩ := g
  obtain ⟨vl, vh, l⟩ := A
  simp only at *
  go_enter Tryz.func7, Tryz.ntmps7
  go_wp2_with fail
  obtain ⟨w4, hW⟩ : ∃ w4, w4 = (w.alloc (Obj.cells #[.int .i64 fx, .int .i64 fy, .int .i64 fz, .int .i64 st, .int .i64 gx, .int .i64 gy, .int .i64 gz] 90)).alloc (Obj.cells #[.int .i64 vl, .int .i64 vh, .slice a n cp] 93) := ⟨_, rfl⟩
  rw [← hW]
  have hb4 : Below w.heap.size w w4 := by rw [hW]; (repeat' (first | (with_reducible exact Below.refl _ _) | (with_reducible assumption) | (with_reducible refine Below.drewN ?_ _) | (with_reducible refine Below.alloc ?_ ?_ _) | (with_reducible refine Below.drew ?_) | (with_reducible refine Below.setCell ?_ ?_ _) | (with_reducible refine Below.step (by assumption) ?_ ?_) | (with_reducible exact And.left (by assumption)) | go_size))
  have kG : w4.heap[w.heap.size]? = some (.cells #[.int .i64 fx, .int .i64 fy, .int .i64 fz, .int .i64 st, .int .i64 gx, .int .i64 gy, .int .i64 gz] 90) := by
    rw [hW, Below.heap_alloc _ _ _ (by simp)]; exact heap_alloc_new _ _
  have kA : w4.heap[w.heap.size + 1]? = some (.cells #[.int .i64 vl, .int .i64 vh, .slice a n cp] 93) := by
    rw [hW]
    have := heap_alloc_new (w.alloc (Obj.cells #[.int .i64 fx, .int .i64 fy, .int .i64 fz, .int .i64 st, .int .i64 gx, .int .i64 gy, .int .i64 gz] 90)) (Obj.cells #[.int .i64 vl, .int .i64 vh, .slice a n cp] 93)
    simpa using this
  have HB4 := Lib.hid hb4
  clear hW hb4
  have HB := Lib.hid (Below.refl w4.heap.size w4)
  have hbr := HB.out
  have kg := blk_below kG hbr
  have ka := blk_below kA hbr
  have q0 := blk_cell kg (i := 0) rfl
  have q1 := blk_cell kg (i := 1) rfl
  have q2 := blk_cell kg (i := 2) rfl
  have q3 := blk_cell kg (i := 3) rfl
  have q4 := blk_cell kg (i := 4) rfl
  have q5 := blk_cell kg (i := 5) rfl
  have q6 := blk_cell kg (i := 6) rfl
  have p0 := blk_cell ka (i := 0) rfl
  have p1 := blk_cell ka (i := 1) rfl
  have p2 := blk_cell ka (i := 2) rfl
  have lr0 := blk_lt kg
  have lr1 := blk_lt ka
  clear kg ka hbr
  refine (awake9_any _).mono ?_
  rintro e5 w5 ⟨rfl, hb5⟩
  have HB := Lib.hid (HB.out.trans (hb5.mono HB.out.size))
  clear hb5
  clear q0 q1 q2 q3 q4 q5 q6 p0 p1 p2 lr0 lr1
  have hbr := HB.out
  have kg := blk_below kG hbr
  have ka := blk_below kA hbr
  have q0 := blk_cell kg (i := 0) rfl
  have q1 := blk_cell kg (i := 1) rfl
  have q2 := blk_cell kg (i := 2) rfl
  have q3 := blk_cell kg (i := 3) rfl
  have q4 := blk_cell kg (i := 4) rfl
  have q5 := blk_cell kg (i := 5) rfl
  have q6 := blk_cell kg (i := 6) rfl
  have p0 := blk_cell ka (i := 0) rfl
  have p1 := blk_cell ka (i := 1) rfl
  have p2 := blk_cell ka (i := 2) rfl
  have lr0 := blk_lt kg
  have lr1 := blk_lt ka
  clear kg ka hbr
  go_wp2_with fail
  refine (HF.out _).mono ?_
  rintro e6 w6 ⟨rfl, hb6⟩
  have HB := Lib.hid (HB.out.trans (hb6.mono HB.out.size))
  clear hb6
  clear q0 q1 q2 q3 q4 q5 q6 p0 p1 p2 lr0 lr1
  have hbr := HB.out
  have kg := blk_below kG hbr
  have ka := blk_below kA hbr
  have q0 := blk_cell kg (i := 0) rfl
  have q1 := blk_cell kg (i := 1) rfl
  have q2 := blk_cell kg (i := 2) rfl
  have q3 := blk_cell kg (i := 3) rfl
  have q4 := blk_cell kg (i := 4) rfl
  have q5 := blk_cell kg (i := 5) rfl
  have q6 := blk_cell kg (i := 6) rfl
  have p0 := blk_cell ka (i := 0) rfl
  have p1 := blk_cell ka (i := 1) rfl
  have p2 := blk_cell ka (i := 2) rfl
  have lr0 := blk_lt kg
  have lr1 := blk_lt ka
  clear kg ka hbr
  by_cases h7 : n ≤ 7
  · rw [decide_eq_true h7]
    go_wp2_with fail
    refine (HL.out _).mono ?_
    rintro e7 w7 ⟨rfl, hb7⟩
    have HB := Lib.hid (HB.out.trans (hb7.mono HB.out.size))
    clear hb7
    clear q0 q1 q2 q3 q4 q5 q6 p0 p1 p2 lr0 lr1
    have hbr := HB.out
    have kg := blk_below kG hbr
    have ka := blk_below kA hbr
    have q0 := blk_cell kg (i := 0) rfl
    have q1 := blk_cell kg (i := 1) rfl
    have q2 := blk_cell kg (i := 2) rfl
    have q3 := blk_cell kg (i := 3) rfl
    have q4 := blk_cell kg (i := 4) rfl
    have q5 := blk_cell kg (i := 5) rfl
    have q6 := blk_cell kg (i := 6) rfl
    have p0 := blk_cell ka (i := 0) rfl
    have p1 := blk_cell ka (i := 1) rfl
    have p2 := blk_cell ka (i := 2) rfl
    have lr0 := blk_lt kg
    have lr1 := blk_lt ka
    clear kg ka hbr
    cases LB
    · go_wp2
      go_ret
      exact ⟨rfl, HB4.out.trans (HB.out.mono HB4.out.size)⟩
    · go_wp2_with fail
      refine wp_region_laterT (B := w7.heap.size) (.head 0 (.head 1 (.one 2 (.one 3 (.head 4 (.head 5 (.head 6 (.head 7 (.head 8 .done))))))))) (by kernel_rfl) (by kernel_rfl) ?_
      repeat (refine tree_head rfl ?_; (show wpQuiet _ _ _ _ (_ :: _) _; go_big_quiet_step (fail)); refine wpQuiet_nil ?_)
      refine tree_one rfl ?_; go_wp2_with fail
      have HBW := Lib.hid (HB4.out.trans (HB.out.mono HB4.out.size))
      refine (HCP.out h7 _ (HBW.out.trans ((show Below w7.heap.size w7 w7.drew by (repeat' (first | (with_reducible exact Below.refl _ _) | (with_reducible assumption) | (with_reducible refine Below.drewN ?_ _) | (with_reducible refine Below.alloc ?_ ?_ _) | (with_reducible refine Below.drew ?_) | (with_reducible refine Below.setCell ?_ ?_ _) | (with_reducible refine Below.step (by assumption) ?_ ?_) | (with_reducible exact And.left (by assumption)) | go_size))).mono HBW.out.size))).mono ?_
      rintro e8 w8 ⟨a8, c8, rfl, hb8, hs8⟩
      have HB8 := Lib.hid ((show Below w7.heap.size w7 w7.drew by (repeat' (first | (with_reducible exact Below.refl _ _) | (with_reducible assumption) | (with_reducible refine Below.drewN ?_ _) | (with_reducible refine Below.alloc ?_ ?_ _) | (with_reducible refine Below.drew ?_) | (with_reducible refine Below.setCell ?_ ?_ _) | (with_reducible refine Below.step (by assumption) ?_ ?_) | (with_reducible exact And.left (by assumption)) | go_size))).trans hb8)
      go_wp2_with fail
      refine tailL_mk HB8.out ?_
      clear hb8
      refine tree_one rfl ?_; go_wp2_with fail
      refine (HR.out a8 c8 _ hs8).mono ?_
      rintro e9 w9 ⟨al, kl, cl, rfl, hb9, hr9⟩
      have hb9 := HB8.out.trans (hb9.mono HB8.out.size)
      go_wp2_with fail
      refine tailL_mk hb9 ?_
      clear HB8 hs8 HBW HR
      repeat (refine tree_head rfl ?_; (show wpQuiet _ _ _ _ (_ :: _) _; go_big_quiet_step (fail)); refine wpQuiet_nil ?_)
      refine tree_done ?_
      have HLL := Lib.hid (ER.len hr9)
      have HRV := Lib.hid hr9
      have hkl := hr9.small
      clear hr9
      have HB := Lib.hid (HB.out.trans (hb9.mono HB.out.size))
      clear hb9
      clear q0 q1 q2 q3 q4 q5 q6 p0 p1 p2 lr0 lr1
      have hbr := HB.out
      have kg := blk_below kG hbr
      have ka := blk_below kA hbr
      have q0 := blk_cell kg (i := 0) rfl
      have q1 := blk_cell kg (i := 1) rfl
      have q2 := blk_cell kg (i := 2) rfl
      have q3 := blk_cell kg (i := 3) rfl
      have q4 := blk_cell kg (i := 4) rfl
      have q5 := blk_cell kg (i := 5) rfl
      have q6 := blk_cell kg (i := 6) rfl
      have p0 := blk_cell ka (i := 0) rfl
      have p1 := blk_cell ka (i := 1) rfl
      have p2 := blk_cell ka (i := 2) rfl
      have lr0 := blk_lt kg
      have lr1 := blk_lt ka
      clear kg ka hbr
      go_wp2_with fail
      refine wp_region_laterT (B := w9.heap.size) (.head 0 (.head 1 (.one 2 (.one 3 (.head 4 (.head 5 (.head 6 (.head 7 (.head 8 .done))))))))) (by kernel_rfl) (by kernel_rfl) ?_
      repeat (refine tree_head rfl ?_; (show wpQuiet _ _ _ _ (_ :: _) _; go_big_quiet_step (fail)); refine wpQuiet_nil ?_)
      refine tree_one rfl ?_; go_wp2_with fail
      have HBW := Lib.hid (HB4.out.trans (HB.out.mono HB4.out.size))
      refine (HCP.out h7 _ (HBW.out.trans ((show Below w9.heap.size w9 w9.drew by (repeat' (first | (with_reducible exact Below.refl _ _) | (with_reducible assumption) | (with_reducible refine Below.drewN ?_ _) | (with_reducible refine Below.alloc ?_ ?_ _) | (with_reducible refine Below.drew ?_) | (with_reducible refine Below.setCell ?_ ?_ _) | (with_reducible refine Below.step (by assumption) ?_ ?_) | (with_reducible exact And.left (by assumption)) | go_size))).mono HBW.out.size))).mono ?_
      rintro e10 w10 ⟨a10, c10, rfl, hb10, hs10⟩
      have HB8 := Lib.hid ((show Below w9.heap.size w9 w9.drew by (repeat' (first | (with_reducible exact Below.refl _ _) | (with_reducible assumption) | (with_reducible refine Below.drewN ?_ _) | (with_reducible refine Below.alloc ?_ ?_ _) | (with_reducible refine Below.drew ?_) | (with_reducible refine Below.setCell ?_ ?_ _) | (with_reducible refine Below.step (by assumption) ?_ ?_) | (with_reducible exact And.left (by assumption)) | go_size))).trans hb10)
      go_wp2_with fail
      refine tailL_mk HB8.out ?_
      clear hb10
      refine tree_one rfl ?_; go_wp2_with fail
      refine (HK.out a10 c10 _ hs10).mono ?_
      rintro e11 w11 ⟨az, ks, cs, rfl, hb11, hi11⟩
      have hb11 := HB8.out.trans (hb11.mono HB8.out.size)
      go_wp2_with fail
      refine tailL_mk hb11 ?_
      clear HB8 hs10 HBW HK HCP
      repeat (refine tree_head rfl ?_; (show wpQuiet _ _ _ _ (_ :: _) _; go_big_quiet_step (fail)); refine wpQuiet_nil ?_)
      refine tree_done ?_
      have HRV := Lib.hid (HRV.out.below hb11)
      have HIS := Lib.hid hi11
      have HKS := Lib.hid (show C1.length = ks by have := hi11.len; simpa [nats] using this)
      have hks := hi11.small
      clear hi11
      have HB := Lib.hid (HB.out.trans (hb11.mono HB.out.size))
      clear hb11
      clear q0 q1 q2 q3 q4 q5 q6 p0 p1 p2 lr0 lr1
      have hbr := HB.out
      have kg := blk_below kG hbr
      have ka := blk_below kA hbr
      have q0 := blk_cell kg (i := 0) rfl
      have q1 := blk_cell kg (i := 1) rfl
      have q2 := blk_cell kg (i := 2) rfl
      have q3 := blk_cell kg (i := 3) rfl
      have q4 := blk_cell kg (i := 4) rfl
      have q5 := blk_cell kg (i := 5) rfl
      have q6 := blk_cell kg (i := 6) rfl
      have p0 := blk_cell ka (i := 0) rfl
      have p1 := blk_cell ka (i := 1) rfl
      have p2 := blk_cell ka (i := 2) rfl
      have lr0 := blk_lt kg
      have lr1 := blk_lt ka
      clear kg ka hbr
      go_wp2_with fail
      refine (HG.out _).mono ?_
      rintro e12 w12 ⟨rfl, hb12⟩
      have HRV := Lib.hid (HRV.out.below hb12)
      have HIS := Lib.hid (HIS.out.below hb12)
      have HB := Lib.hid (HB.out.trans (hb12.mono HB.out.size))
      clear hb12
      clear q0 q1 q2 q3 q4 q5 q6 p0 p1 p2 lr0 lr1
      have hbr := HB.out
      have kg := blk_below kG hbr
      have ka := blk_below kA hbr
      have q0 := blk_cell kg (i := 0) rfl
      have q1 := blk_cell kg (i := 1) rfl
      have q2 := blk_cell kg (i := 2) rfl
      have q3 := blk_cell kg (i := 3) rfl
      have q4 := blk_cell kg (i := 4) rfl
      have q5 := blk_cell kg (i := 5) rfl
      have q6 := blk_cell kg (i := 6) rfl
      have p0 := blk_cell ka (i := 0) rfl
      have p1 := blk_cell ka (i := 1) rfl
      have p2 := blk_cell ka (i := 2) rfl
      have lr0 := blk_lt kg
      have lr1 := blk_lt ka
      clear kg ka hbr
      by_cases h1 : D1 = 0
      · subst h1
        have HD := Lib.hid (show E = D2 by rw [HD.out, if_neg (by decide)])
        go_wp2_with fail
        refine (HAE.out _ (HB4.out.trans (HB.out.mono HB4.out.size))).mono ?_
        rintro e13 w13 ⟨rfl, hb13⟩
        have HRV := Lib.hid (HRV.out.below hb13)
        have HIS := Lib.hid (HIS.out.below hb13)
        have HB := Lib.hid (HB.out.trans (hb13.mono HB.out.size))
        clear hb13
        clear q0 q1 q2 q3 q4 q5 q6 p0 p1 p2 lr0 lr1
        have hbr := HB.out
        have kg := blk_below kG hbr
        have ka := blk_below kA hbr
        have q0 := blk_cell kg (i := 0) rfl
        have q1 := blk_cell kg (i := 1) rfl
        have q2 := blk_cell kg (i := 2) rfl
        have q3 := blk_cell kg (i := 3) rfl
        have q4 := blk_cell kg (i := 4) rfl
        have q5 := blk_cell kg (i := 5) rfl
        have q6 := blk_cell kg (i := 6) rfl
        have p0 := blk_cell ka (i := 0) rfl
        have p1 := blk_cell ka (i := 1) rfl
        have p2 := blk_cell ka (i := 2) rfl
        have lr0 := blk_lt kg
        have lr1 := blk_lt ka
        clear kg ka hbr
        rw [← HD.out]
        by_cases h2 : E = 0
        · subst h2
          clear HG HAE HF HL HC3
          go_wp2_with fail
          obtain ⟨BV, hBV⟩ : ∃ b, b = decide (V = []) := ⟨_, rfl⟩
          rw [← hBV] at HRC
          refine wp_region_laterT (B := w13.heap.size) (.head 0 (.head 1 (.head 2 (.head 3 (.head 4 (.head 5 (.head 6 (.one 7 (.one 8 (.one 9 (.head 10 (.head 11 .done)))))))))))) (by kernel_rfl) (by kernel_rfl) ?_
          repeat (refine tree_head rfl ?_; (show wpQuiet _ _ _ _ (_ :: _) _; go_big_quiet_step (fail)); refine wpQuiet_nil ?_)
          refine tree_one rfl ?_; go_wp2_with fail
          refine (HAL.out h7 _).mono ?_
          rintro e14 w14 ⟨a14, c14, rfl, hb14, hi14⟩
          have hb14 := (show Below w13.heap.size w13 w13.drew by (repeat' (first | (with_reducible exact Below.refl _ _) | (with_reducible assumption) | (with_reducible refine Below.drewN ?_ _) | (with_reducible refine Below.alloc ?_ ?_ _) | (with_reducible refine Below.drew ?_) | (with_reducible refine Below.setCell ?_ ?_ _) | (with_reducible refine Below.step (by assumption) ?_ ?_) | (with_reducible exact And.left (by assumption)) | go_size))).trans hb14
          go_wp2_with fail
          refine tailL_mk hb14 ?_
          have HBW := Lib.hid (HB4.out.trans ((HB.out.trans (hb14.mono HB.out.size)).mono HB4.out.size))
          refine tree_one rfl ?_; go_wp2_with fail
          refine (HRR.out trivial a14 c14 _ HBW.out hi14).mono ?_
          rintro e15 w15 ⟨a15, k15, c15, rfl, hb15, hr15⟩
          have hb15' := hb14.trans (hb15.mono hb14.size)
          go_wp2_with fail
          refine tailL_mk hb15' ?_
          obtain rfl : k15 = kl := by rw [← ER.len hr15, HLL.out]
          have HSC := Lib.hid (sameCells_same V al a15 k15 cl c15 w15 (HRV.out.below hb15') hr15)
          have HX := Lib.hid hb15'
          clear hb15' hb15 hb14 hr15 hi14 HBW
          refine tree_one rfl ?_; go_wp2_with fail
          refine HSC.out.mono ?_
          rintro e16 w16 ⟨rfl, hb16⟩
          have hb16 := HX.out.trans (hb16.mono HX.out.size)
          go_wp2_with fail
          refine tailL_mk hb16 ?_
          repeat (refine tree_head rfl ?_; (show wpQuiet _ _ _ _ (_ :: _) _; go_big_quiet_step (fail)); refine wpQuiet_nil ?_)
          refine tree_done ?_
          have HIS := Lib.hid (HIS.out.below hb16)
          clear HX HSC
          have HB := Lib.hid (HB.out.trans (hb16.mono HB.out.size))
          clear hb16
          clear q0 q1 q2 q3 q4 q5 q6 p0 p1 p2 lr0 lr1
          have hbr := HB.out
          have kg := blk_below kG hbr
          have ka := blk_below kA hbr
          have q0 := blk_cell kg (i := 0) rfl
          have q1 := blk_cell kg (i := 1) rfl
          have q2 := blk_cell kg (i := 2) rfl
          have q3 := blk_cell kg (i := 3) rfl
          have q4 := blk_cell kg (i := 4) rfl
          have q5 := blk_cell kg (i := 5) rfl
          have q6 := blk_cell kg (i := 6) rfl
          have p0 := blk_cell ka (i := 0) rfl
          have p1 := blk_cell ka (i := 1) rfl
          have p2 := blk_cell ka (i := 2) rfl
          have lr0 := blk_lt kg
          have lr1 := blk_lt ka
          clear kg ka hbr
          go_wp2_with fail
          refine (HRC.out trivial _ (HB4.out.trans (HB.out.mono HB4.out.size))).mono ?_
          rintro e17 w17 ⟨a17, k17, c17, rfl, hb17, hi17⟩
          have HIS := Lib.hid (HIS.out.below hb17)
          have HI17 := Lib.hid hi17
          clear hi17
          have HB := Lib.hid (HB.out.trans (hb17.mono HB.out.size))
          clear hb17
          clear q0 q1 q2 q3 q4 q5 q6 p0 p1 p2 lr0 lr1
          have hbr := HB.out
          have kg := blk_below kG hbr
          have ka := blk_below kA hbr
          have q0 := blk_cell kg (i := 0) rfl
          have q1 := blk_cell kg (i := 1) rfl
          have q2 := blk_cell kg (i := 2) rfl
          have q3 := blk_cell kg (i := 3) rfl
          have q4 := blk_cell kg (i := 4) rfl
          have q5 := blk_cell kg (i := 5) rfl
          have q6 := blk_cell kg (i := 6) rfl
          have p0 := blk_cell ka (i := 0) rfl
          have p1 := blk_cell ka (i := 1) rfl
          have p2 := blk_cell ka (i := 2) rfl
          have lr0 := blk_lt kg
          have lr1 := blk_lt ka
          clear kg ka hbr
          by_cases hV : V = []
          · obtain rfl : BV = true := by rw [hBV]; exact decide_eq_true hV
            obtain rfl := HC2.out trivial hV
            have hi := HI17.out hV
            clear hBV HC1 HC2 HRC HRR HAL
            go_wp2_with fail
            have HI2 := ints_any _ _ az a17 ks cs k17 c17 w17 HIS.out hi
            rw [decide_eq_true rfl] at HI2
            refine HI2.mono ?_
            rintro e18 w18 ⟨rfl, m, hw18⟩
            have hb18 : Below w17.heap.size w17 w18 := by rw [hw18]; (repeat' (first | (with_reducible exact Below.refl _ _) | (with_reducible assumption) | (with_reducible refine Below.drewN ?_ _) | (with_reducible refine Below.alloc ?_ ?_ _) | (with_reducible refine Below.drew ?_) | (with_reducible refine Below.setCell ?_ ?_ _) | (with_reducible refine Below.step (by assumption) ?_ ?_) | (with_reducible exact And.left (by assumption)) | go_size))
            clear HI2 hi hw18
            have HB := Lib.hid (HB.out.trans (hb18.mono HB.out.size))
            clear hb18
            clear q0 q1 q2 q3 q4 q5 q6 p0 p1 p2 lr0 lr1
            have hbr := HB.out
            have kg := blk_below kG hbr
            have ka := blk_below kA hbr
            have q0 := blk_cell kg (i := 0) rfl
            have q1 := blk_cell kg (i := 1) rfl
            have q2 := blk_cell kg (i := 2) rfl
            have q3 := blk_cell kg (i := 3) rfl
            have q4 := blk_cell kg (i := 4) rfl
            have q5 := blk_cell kg (i := 5) rfl
            have q6 := blk_cell kg (i := 6) rfl
            have p0 := blk_cell ka (i := 0) rfl
            have p1 := blk_cell ka (i := 1) rfl
            have p2 := blk_cell ka (i := 2) rfl
            have lr0 := blk_lt kg
            have lr1 := blk_lt ka
            clear kg ka hbr
            go_wp2
            go_ret
            exact ⟨rfl, HB4.out.trans (HB.out.mono HB4.out.size)⟩
          · obtain rfl : BV = false := by rw [hBV]; exact decide_eq_false hV
            obtain ⟨g1, g2⟩ := HC1.out trivial hV
            have hks0 : ks = 0 := by rw [← HKS.out, g1]; rfl
            subst g2 hks0
            clear hBV HC1 HC2 HRC HRR HAL
            go_wp2_with fail
            all_goals go_ret
            all_goals refine ⟨by first | rfl | exact ret_bool (by simp) | (simp; rfl) | simp [wrap64], HB4.out.trans (HB.out.mono HB4.out.size)⟩
        · skip
          obtain ⟨g1, g2, g3⟩ := HC3.out h2
          have hks0 : ks = 0 := by rw [← HKS.out, g1]; rfl
          have hkl0 : kl = 0 := by rw [← HLL.out, g3]; rfl
          subst g2 hks0 hkl0
          have e1 := bne_iff_ne.2 h2
          have e2 := beq_eq_false_iff_ne.2 h2
          clear HC1 HC2 HC3 HRR HRC
          go_wp2_with fail
          all_goals go_ret
          all_goals refine ⟨by first | rfl | exact ret_bool (by simp) | (simp; rfl) | simp [wrap64], HB4.out.trans (HB.out.mono HB4.out.size)⟩
      · have HD := Lib.hid (show E = D1 by rw [HD.out, if_pos h1])
        have h2 : E ≠ 0 := by rw [HD.out]; exact h1
        rw [← HD.out] at h1 ⊢
        clear h1
        obtain ⟨g1, g2, g3⟩ := HC3.out h2
        have hks0 : ks = 0 := by rw [← HKS.out, g1]; rfl
        have hkl0 : kl = 0 := by rw [← HLL.out, g3]; rfl
        subst g2 hks0 hkl0
        have e1 := bne_iff_ne.2 h2
        have e2 := beq_eq_false_iff_ne.2 h2
        clear HC1 HC2 HC3 HRR HRC
        go_wp2_with fail
        all_goals go_ret
        all_goals refine ⟨by first | rfl | exact ret_bool (by simp) | (simp; rfl) | simp [wrap64], HB4.out.trans (HB.out.mono HB4.out.size)⟩
  · rw [decide_eq_false h7]
    go_wp2
    go_ret
    exact ⟨rfl, HB4.out.trans (HB.out.mono HB4.out.size)⟩
end Go.Proofs.YthkekjgdknnaiaaGreat
