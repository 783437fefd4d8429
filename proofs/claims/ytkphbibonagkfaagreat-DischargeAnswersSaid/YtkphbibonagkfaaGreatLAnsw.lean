import Derived.Test.YtkphbibonagkfaaGreatDAwk
import Derived.Test.YtkphbibonagkfaaGreatRAnsw
import Derived.Test.YtkphbibonagkfaaGreatRCopyA
/- Arrivals and answers: the statement's function. -/
namespace Go.Proofs.YtkphbibonagkfaaGreat
open Go.RowKit
set_option linter.unusedVariables false

theorem ansE_cases (g : Gri) (A : Arr) (c : T3) : ansE g A c = if griE g ≠ 0 then griE g else if (arrE A).2 ≠ 0 then (arrE A).2 else if celB g c = false then 6 else 0 := by
  unfold ansE
  by_cases h1 : griE g = 0 <;> by_cases h2 : (arrE A).2 = 0 <;> cases celB g c <;> simp [firstErr, unl, h1, h2]
set_option maxHeartbeats 2000000 in
set_option maxRecDepth 100000 in
theorem answ_few (g : Gri) (A : Arr) (c : T3) (a : Option Addr) (n cp : Nat) (w : World) (hl : SenR w a n A.l) (h7 : ¬ n ≤ 7) :
    Calls Tryz.prog 3 #[.agg #[.int .i64 g.f.x, .int .i64 g.f.y, .int .i64 g.f.z, .int .i64 g.st, .int .i64 g.c.x, .int .i64 g.c.y, .int .i64 g.c.z], .agg #[.int .i64 A.lo, .int .i64 A.hi, .slice a n cp], .agg #[.int .i64 c.x, .int .i64 c.y, .int .i64 c.z]] w
      fun e' w' => e' = .returned (.bool true) ∧ Below w.heap.size w w' := by
  have HF := Lib.hid (fun w' => fewSensors_any A.lo A.hi a n cp w' hl.small)
  rw [decide_eq_false h7] at HF
  clear hl h7
  go_enter Tryz.func3, Tryz.ntmps3
  go_wp2_with fail
  refine (awake9_any _).mono ?_
  rintro e5 w5 ⟨rfl, hb5⟩
  have p0 : w5.cell? ⟨w.heap.size + 1, 0, none⟩ = some (.int .i64 A.lo) := by { rw [cellB hb5 _ _ (by first | (simp; done) | (simp; omega) | omega)]; all_goals (first | assumption | go_simp) }; have p1 : w5.cell? ⟨w.heap.size + 1, 1, none⟩ = some (.int .i64 A.hi) := by { rw [cellB hb5 _ _ (by first | (simp; done) | (simp; omega) | omega)]; all_goals (first | assumption | go_simp) }; have p2 : w5.cell? ⟨w.heap.size + 1, 2, none⟩ = some (.slice a n cp) := by { rw [cellB hb5 _ _ (by first | (simp; done) | (simp; omega) | omega)]; all_goals (first | assumption | go_simp) }
  have HB5 := Lib.hid (show Below w.heap.size w w5 from Below.trans (by (repeat' (first | (with_reducible exact Below.refl _ _) | (with_reducible assumption) | (with_reducible refine Below.drewN ?_ _) | (with_reducible refine Below.alloc ?_ ?_ _) | (with_reducible refine Below.drew ?_) | (with_reducible refine Below.setCell ?_ ?_ _) | (with_reducible refine Below.step (by assumption) ?_ ?_) | (with_reducible exact And.left (by assumption)) | go_size))) (hb5.mono (by simp; omega)))
  clear hb5
  go_wp2_with fail
  refine (HF.out _).mono ?_
  rintro e6 w6 ⟨rfl, hb6⟩
  have HB6 := Lib.hid (HB5.out.trans (hb6.mono HB5.out.size))
  clear hb6
  go_wp2
  go_ret
  exact ⟨rfl, HB6.out⟩
set_option maxHeartbeats 4000000 in
set_option maxRecDepth 100000 in
theorem answ_main (g : Gri) (A : Arr) (c : T3) (a : Option Addr) (n cp : Nat) (w : World) (hl : SenR w a n A.l) (h7 : n ≤ 7) :
    Calls Tryz.prog 3 #[.agg #[.int .i64 g.f.x, .int .i64 g.f.y, .int .i64 g.f.z, .int .i64 g.st, .int .i64 g.c.x, .int .i64 g.c.y, .int .i64 g.c.z], .agg #[.int .i64 A.lo, .int .i64 A.hi, .slice a n cp], .agg #[.int .i64 c.x, .int .i64 c.y, .int .i64 c.z]] w
      fun e' w' => e' = .returned (.bool true) ∧ Below w.heap.size w w' := by
  have HF := Lib.hid (fun w' => fewSensors_any A.lo A.hi a n cp w' hl.small)
  rw [decide_eq_true h7] at HF
  have HL := Lib.hid hl
  have HLN := Lib.hid hl.len
  have HCP := Lib.hid (fun (W : World) (hb : Below w.heap.size w W) => copyArrivals_any A.lo A.hi A.l a n cp W (hl.below hb) (by omega))
  have HCA := Lib.hid (fun (a' : Option Addr) (c' : Nat) (W : World) (h : SenR W a' n A.l) => checkArrivals_any A a' n c' W h)
  have HAN := Lib.hid (fun (a' : Option Addr) (c' : Nat) (W : World) (h : SenR W a' n A.l) => answerAt_any g A c a' n c' W h)
  have HRC := Lib.hid (fun (W : World) (hb : Below w.heap.size w W) => rCheckArrivals_any A a n cp W (hl.below hb))
  have HG := Lib.hid (fun w' => rGridErr_any g w')
  have HI := Lib.hid (fun (h : griE g = 0) w' => rIsCell_any g c w' (griE_zero h).2.2)
  have HAL := Lib.hid (fun w' => all_any A.lo A.hi a n cp w' (by omega))
  have HRA := Lib.hid (fun (h1 : griE g = 0) (h2 : (arrE A).2 = 0) (h3 : celB g c = true) (aS : Option Addr) (cs : Nat) (W : World) (hb : Below w.heap.size w W) (hS : IntsR W aS n (nats (List.range n))) => show Calls Tryz.prog 22 _ W _ from
    (rAnswer_any g A c (List.range n) a aS n cp n cs W (hl.below hb) hS h1 h3 (by have h := (arrE_zero h2).2.2.2.2; rw [hl.len] at h; exact h) List.nodup_range (fun i hi => List.mem_range.1 hi) (arrE_zero h2).2.1))
  have hAA : ansS g A c (List.range n) = ans g A c := by rw [← hl.len]; exact ansS_all g A c
  rw [hAA] at HRA
  have HEC := Lib.hid (ansE_cases g A c)
  clear hl hAA
  obtain ⟨U, hU⟩ : ∃ U, U = if ansE g A c = 0 then ans g A c else 0 := ⟨_, rfl⟩
  rw [← hU] at HAN
  generalize ansE g A c = E at *
  generalize ans g A c = V at *
  have HU := Lib.hid hU
  clear hU
  generalize celB g c = bc at *
  obtain ⟨⟨K1, K2⟩, hK⟩ : ∃ K, K = arrE A := ⟨_, rfl⟩
  rw [← hK] at HCA HRC HRA HEC
  obtain ⟨G, hG⟩ : ∃ G, G = griE g := ⟨_, rfl⟩
  rw [← hG] at HG HI HRA HEC
  simp only at HCA HRC HRA HEC
  clear hK hG
  go_enter Tryz.func3, Tryz.ntmps3
  go_wp2_with fail
  generalize hW : World.alloc _ _ = w4
  have hb4 : Below w.heap.size w w4 := by rw [← hW]; (repeat' (first | (with_reducible exact Below.refl _ _) | (with_reducible assumption) | (with_reducible refine Below.drewN ?_ _) | (with_reducible refine Below.alloc ?_ ?_ _) | (with_reducible refine Below.drew ?_) | (with_reducible refine Below.setCell ?_ ?_ _) | (with_reducible refine Below.step (by assumption) ?_ ?_) | (with_reducible exact And.left (by assumption)) | go_size))
  have q0 : w4.cell? ⟨w.heap.size, 0, none⟩ = some (.int .i64 g.f.x) := by { rw [← hW]; clear hW; go_simp }
  have q1 : w4.cell? ⟨w.heap.size, 1, none⟩ = some (.int .i64 g.f.y) := by { rw [← hW]; clear hW; go_simp }
  have q2 : w4.cell? ⟨w.heap.size, 2, none⟩ = some (.int .i64 g.f.z) := by { rw [← hW]; clear hW; go_simp }
  have q3 : w4.cell? ⟨w.heap.size, 3, none⟩ = some (.int .i64 g.st) := by { rw [← hW]; clear hW; go_simp }
  have q4 : w4.cell? ⟨w.heap.size, 4, none⟩ = some (.int .i64 g.c.x) := by { rw [← hW]; clear hW; go_simp }
  have q5 : w4.cell? ⟨w.heap.size, 5, none⟩ = some (.int .i64 g.c.y) := by { rw [← hW]; clear hW; go_simp }
  have q6 : w4.cell? ⟨w.heap.size, 6, none⟩ = some (.int .i64 g.c.z) := by { rw [← hW]; clear hW; go_simp }
  have p0 : w4.cell? ⟨w.heap.size + 1, 0, none⟩ = some (.int .i64 A.lo) := by { rw [← hW]; clear hW; go_simp }
  have p1 : w4.cell? ⟨w.heap.size + 1, 1, none⟩ = some (.int .i64 A.hi) := by { rw [← hW]; clear hW; go_simp }
  have p2 : w4.cell? ⟨w.heap.size + 1, 2, none⟩ = some (.slice a n cp) := by { rw [← hW]; clear hW; go_simp }
  have d0 : w4.cell? ⟨w.heap.size + 1 + 1, 0, none⟩ = some (.int .i64 c.x) := by { rw [← hW]; clear hW; go_simp }
  have d1 : w4.cell? ⟨w.heap.size + 1 + 1, 1, none⟩ = some (.int .i64 c.y) := by { rw [← hW]; clear hW; go_simp }
  have d2 : w4.cell? ⟨w.heap.size + 1 + 1, 2, none⟩ = some (.int .i64 c.z) := by { rw [← hW]; clear hW; go_simp }
  have z4 : w4.heap.size = w.heap.size + 1 + 1 + 1 := by rw [← hW]; simp
  have HB4 := Lib.hid hb4
  obtain ⟨X, hX⟩ : ∃ X, X = w.heap.size := ⟨_, rfl⟩
  rw [← hX] at q0 q1 q2 q3 q4 q5 q6 p0 p1 p2 d0 d1 d2 z4
  rw [← hX]
  have HC := Lib.hid (And.intro q0 (And.intro q1 (And.intro q2 (And.intro q3 (And.intro q4 (And.intro q5 (And.intro q6 (And.intro p0 (And.intro p1 (And.intro p2 (And.intro d0 (And.intro d1 d2))))))))))))
  have x4 : X + 1 + 1 < w4.heap.size := by omega
  have hXw : Hid (X = w.heap.size) := Lib.hid hX
  clear hW hb4 z4 hX q0 q1 q2 q3 q4 q5 q6 p0 p1 p2 d0 d1 d2
  refine (awake9_any _).mono ?_
  rintro e5 w5 ⟨rfl, hb5⟩
  have HB := Lib.hid hb5
  clear hb5
  obtain ⟨q0, q1, q2, q3, q4, q5, q6, p0, p1, p2, d0, d1, d2⟩ := HC.out
  have hbx := HB.out
  have q0r : w5.cell? ⟨X, 0, none⟩ = some (.int .i64 g.f.x) := by { rw [cellB hbx _ _ (by first | (simp; done) | (simp; omega) | omega)]; all_goals (first | assumption | go_simp) }; have q1r : w5.cell? ⟨X, 1, none⟩ = some (.int .i64 g.f.y) := by { rw [cellB hbx _ _ (by first | (simp; done) | (simp; omega) | omega)]; all_goals (first | assumption | go_simp) }; have q2r : w5.cell? ⟨X, 2, none⟩ = some (.int .i64 g.f.z) := by { rw [cellB hbx _ _ (by first | (simp; done) | (simp; omega) | omega)]; all_goals (first | assumption | go_simp) }; have q3r : w5.cell? ⟨X, 3, none⟩ = some (.int .i64 g.st) := by { rw [cellB hbx _ _ (by first | (simp; done) | (simp; omega) | omega)]; all_goals (first | assumption | go_simp) }; have q4r : w5.cell? ⟨X, 4, none⟩ = some (.int .i64 g.c.x) := by { rw [cellB hbx _ _ (by first | (simp; done) | (simp; omega) | omega)]; all_goals (first | assumption | go_simp) }; have q5r : w5.cell? ⟨X, 5, none⟩ = some (.int .i64 g.c.y) := by { rw [cellB hbx _ _ (by first | (simp; done) | (simp; omega) | omega)]; all_goals (first | assumption | go_simp) }; have q6r : w5.cell? ⟨X, 6, none⟩ = some (.int .i64 g.c.z) := by { rw [cellB hbx _ _ (by first | (simp; done) | (simp; omega) | omega)]; all_goals (first | assumption | go_simp) }; have p0r : w5.cell? ⟨X + 1, 0, none⟩ = some (.int .i64 A.lo) := by { rw [cellB hbx _ _ (by first | (simp; done) | (simp; omega) | omega)]; all_goals (first | assumption | go_simp) }; have p1r : w5.cell? ⟨X + 1, 1, none⟩ = some (.int .i64 A.hi) := by { rw [cellB hbx _ _ (by first | (simp; done) | (simp; omega) | omega)]; all_goals (first | assumption | go_simp) }; have p2r : w5.cell? ⟨X + 1, 2, none⟩ = some (.slice a n cp) := by { rw [cellB hbx _ _ (by first | (simp; done) | (simp; omega) | omega)]; all_goals (first | assumption | go_simp) }; have d0r : w5.cell? ⟨X + 1 + 1, 0, none⟩ = some (.int .i64 c.x) := by { rw [cellB hbx _ _ (by first | (simp; done) | (simp; omega) | omega)]; all_goals (first | assumption | go_simp) }; have d1r : w5.cell? ⟨X + 1 + 1, 1, none⟩ = some (.int .i64 c.y) := by { rw [cellB hbx _ _ (by first | (simp; done) | (simp; omega) | omega)]; all_goals (first | assumption | go_simp) }; have d2r : w5.cell? ⟨X + 1 + 1, 2, none⟩ = some (.int .i64 c.z) := by { rw [cellB hbx _ _ (by first | (simp; done) | (simp; omega) | omega)]; all_goals (first | assumption | go_simp) }
  have hzx := hbx.size
  have y0 : X < w5.heap.size := by omega
  have y1 : X + 1 < w5.heap.size := by omega
  have y2 : X + 1 + 1 < w5.heap.size := by omega
  clear q0 q1 q2 q3 q4 q5 q6 p0 p1 p2 d0 d1 d2 hbx hzx
  go_wp2_with fail
  refine (HF.out _).mono ?_
  rintro e6 w6 ⟨rfl, hb6⟩
  have HB := Lib.hid (HB.out.trans (hb6.mono HB.out.size))
  clear hb6
  clear q0r q1r q2r q3r q4r q5r q6r p0r p1r p2r d0r d1r d2r y0 y1 y2
  obtain ⟨q0, q1, q2, q3, q4, q5, q6, p0, p1, p2, d0, d1, d2⟩ := HC.out
  have hbx := HB.out
  have q0r : w6.cell? ⟨X, 0, none⟩ = some (.int .i64 g.f.x) := by { rw [cellB hbx _ _ (by first | (simp; done) | (simp; omega) | omega)]; all_goals (first | assumption | go_simp) }; have q1r : w6.cell? ⟨X, 1, none⟩ = some (.int .i64 g.f.y) := by { rw [cellB hbx _ _ (by first | (simp; done) | (simp; omega) | omega)]; all_goals (first | assumption | go_simp) }; have q2r : w6.cell? ⟨X, 2, none⟩ = some (.int .i64 g.f.z) := by { rw [cellB hbx _ _ (by first | (simp; done) | (simp; omega) | omega)]; all_goals (first | assumption | go_simp) }; have q3r : w6.cell? ⟨X, 3, none⟩ = some (.int .i64 g.st) := by { rw [cellB hbx _ _ (by first | (simp; done) | (simp; omega) | omega)]; all_goals (first | assumption | go_simp) }; have q4r : w6.cell? ⟨X, 4, none⟩ = some (.int .i64 g.c.x) := by { rw [cellB hbx _ _ (by first | (simp; done) | (simp; omega) | omega)]; all_goals (first | assumption | go_simp) }; have q5r : w6.cell? ⟨X, 5, none⟩ = some (.int .i64 g.c.y) := by { rw [cellB hbx _ _ (by first | (simp; done) | (simp; omega) | omega)]; all_goals (first | assumption | go_simp) }; have q6r : w6.cell? ⟨X, 6, none⟩ = some (.int .i64 g.c.z) := by { rw [cellB hbx _ _ (by first | (simp; done) | (simp; omega) | omega)]; all_goals (first | assumption | go_simp) }; have p0r : w6.cell? ⟨X + 1, 0, none⟩ = some (.int .i64 A.lo) := by { rw [cellB hbx _ _ (by first | (simp; done) | (simp; omega) | omega)]; all_goals (first | assumption | go_simp) }; have p1r : w6.cell? ⟨X + 1, 1, none⟩ = some (.int .i64 A.hi) := by { rw [cellB hbx _ _ (by first | (simp; done) | (simp; omega) | omega)]; all_goals (first | assumption | go_simp) }; have p2r : w6.cell? ⟨X + 1, 2, none⟩ = some (.slice a n cp) := by { rw [cellB hbx _ _ (by first | (simp; done) | (simp; omega) | omega)]; all_goals (first | assumption | go_simp) }; have d0r : w6.cell? ⟨X + 1 + 1, 0, none⟩ = some (.int .i64 c.x) := by { rw [cellB hbx _ _ (by first | (simp; done) | (simp; omega) | omega)]; all_goals (first | assumption | go_simp) }; have d1r : w6.cell? ⟨X + 1 + 1, 1, none⟩ = some (.int .i64 c.y) := by { rw [cellB hbx _ _ (by first | (simp; done) | (simp; omega) | omega)]; all_goals (first | assumption | go_simp) }; have d2r : w6.cell? ⟨X + 1 + 1, 2, none⟩ = some (.int .i64 c.z) := by { rw [cellB hbx _ _ (by first | (simp; done) | (simp; omega) | omega)]; all_goals (first | assumption | go_simp) }
  have hzx := hbx.size
  have y0 : X < w6.heap.size := by omega
  have y1 : X + 1 < w6.heap.size := by omega
  have y2 : X + 1 + 1 < w6.heap.size := by omega
  clear q0 q1 q2 q3 q4 q5 q6 p0 p1 p2 d0 d1 d2 hbx hzx
  go_wp2_with fail
  refine (HCP.out _ (HB4.out.trans (HB.out.mono HB4.out.size))).mono ?_
  rintro e7 w7 ⟨a7, c7, rfl, hb7, hs7⟩
  have HB := Lib.hid (HB.out.trans (hb7.mono HB.out.size))
  clear hb7
  clear q0r q1r q2r q3r q4r q5r q6r p0r p1r p2r d0r d1r d2r y0 y1 y2
  obtain ⟨q0, q1, q2, q3, q4, q5, q6, p0, p1, p2, d0, d1, d2⟩ := HC.out
  have hbx := HB.out
  have q0r : w7.cell? ⟨X, 0, none⟩ = some (.int .i64 g.f.x) := by { rw [cellB hbx _ _ (by first | (simp; done) | (simp; omega) | omega)]; all_goals (first | assumption | go_simp) }; have q1r : w7.cell? ⟨X, 1, none⟩ = some (.int .i64 g.f.y) := by { rw [cellB hbx _ _ (by first | (simp; done) | (simp; omega) | omega)]; all_goals (first | assumption | go_simp) }; have q2r : w7.cell? ⟨X, 2, none⟩ = some (.int .i64 g.f.z) := by { rw [cellB hbx _ _ (by first | (simp; done) | (simp; omega) | omega)]; all_goals (first | assumption | go_simp) }; have q3r : w7.cell? ⟨X, 3, none⟩ = some (.int .i64 g.st) := by { rw [cellB hbx _ _ (by first | (simp; done) | (simp; omega) | omega)]; all_goals (first | assumption | go_simp) }; have q4r : w7.cell? ⟨X, 4, none⟩ = some (.int .i64 g.c.x) := by { rw [cellB hbx _ _ (by first | (simp; done) | (simp; omega) | omega)]; all_goals (first | assumption | go_simp) }; have q5r : w7.cell? ⟨X, 5, none⟩ = some (.int .i64 g.c.y) := by { rw [cellB hbx _ _ (by first | (simp; done) | (simp; omega) | omega)]; all_goals (first | assumption | go_simp) }; have q6r : w7.cell? ⟨X, 6, none⟩ = some (.int .i64 g.c.z) := by { rw [cellB hbx _ _ (by first | (simp; done) | (simp; omega) | omega)]; all_goals (first | assumption | go_simp) }; have p0r : w7.cell? ⟨X + 1, 0, none⟩ = some (.int .i64 A.lo) := by { rw [cellB hbx _ _ (by first | (simp; done) | (simp; omega) | omega)]; all_goals (first | assumption | go_simp) }; have p1r : w7.cell? ⟨X + 1, 1, none⟩ = some (.int .i64 A.hi) := by { rw [cellB hbx _ _ (by first | (simp; done) | (simp; omega) | omega)]; all_goals (first | assumption | go_simp) }; have p2r : w7.cell? ⟨X + 1, 2, none⟩ = some (.slice a n cp) := by { rw [cellB hbx _ _ (by first | (simp; done) | (simp; omega) | omega)]; all_goals (first | assumption | go_simp) }; have d0r : w7.cell? ⟨X + 1 + 1, 0, none⟩ = some (.int .i64 c.x) := by { rw [cellB hbx _ _ (by first | (simp; done) | (simp; omega) | omega)]; all_goals (first | assumption | go_simp) }; have d1r : w7.cell? ⟨X + 1 + 1, 1, none⟩ = some (.int .i64 c.y) := by { rw [cellB hbx _ _ (by first | (simp; done) | (simp; omega) | omega)]; all_goals (first | assumption | go_simp) }; have d2r : w7.cell? ⟨X + 1 + 1, 2, none⟩ = some (.int .i64 c.z) := by { rw [cellB hbx _ _ (by first | (simp; done) | (simp; omega) | omega)]; all_goals (first | assumption | go_simp) }
  have hzx := hbx.size
  have y0 : X < w7.heap.size := by omega
  have y1 : X + 1 < w7.heap.size := by omega
  have y2 : X + 1 + 1 < w7.heap.size := by omega
  clear q0 q1 q2 q3 q4 q5 q6 p0 p1 p2 d0 d1 d2 hbx hzx
  go_wp2_with fail
  refine (HCA.out a7 c7 _ hs7).mono ?_
  rintro e8 w8 ⟨rfl, hb8⟩
  clear hs7
  have HB := Lib.hid (HB.out.trans (hb8.mono HB.out.size))
  clear hb8
  clear q0r q1r q2r q3r q4r q5r q6r p0r p1r p2r d0r d1r d2r y0 y1 y2
  obtain ⟨q0, q1, q2, q3, q4, q5, q6, p0, p1, p2, d0, d1, d2⟩ := HC.out
  have hbx := HB.out
  have q0r : w8.cell? ⟨X, 0, none⟩ = some (.int .i64 g.f.x) := by { rw [cellB hbx _ _ (by first | (simp; done) | (simp; omega) | omega)]; all_goals (first | assumption | go_simp) }; have q1r : w8.cell? ⟨X, 1, none⟩ = some (.int .i64 g.f.y) := by { rw [cellB hbx _ _ (by first | (simp; done) | (simp; omega) | omega)]; all_goals (first | assumption | go_simp) }; have q2r : w8.cell? ⟨X, 2, none⟩ = some (.int .i64 g.f.z) := by { rw [cellB hbx _ _ (by first | (simp; done) | (simp; omega) | omega)]; all_goals (first | assumption | go_simp) }; have q3r : w8.cell? ⟨X, 3, none⟩ = some (.int .i64 g.st) := by { rw [cellB hbx _ _ (by first | (simp; done) | (simp; omega) | omega)]; all_goals (first | assumption | go_simp) }; have q4r : w8.cell? ⟨X, 4, none⟩ = some (.int .i64 g.c.x) := by { rw [cellB hbx _ _ (by first | (simp; done) | (simp; omega) | omega)]; all_goals (first | assumption | go_simp) }; have q5r : w8.cell? ⟨X, 5, none⟩ = some (.int .i64 g.c.y) := by { rw [cellB hbx _ _ (by first | (simp; done) | (simp; omega) | omega)]; all_goals (first | assumption | go_simp) }; have q6r : w8.cell? ⟨X, 6, none⟩ = some (.int .i64 g.c.z) := by { rw [cellB hbx _ _ (by first | (simp; done) | (simp; omega) | omega)]; all_goals (first | assumption | go_simp) }; have p0r : w8.cell? ⟨X + 1, 0, none⟩ = some (.int .i64 A.lo) := by { rw [cellB hbx _ _ (by first | (simp; done) | (simp; omega) | omega)]; all_goals (first | assumption | go_simp) }; have p1r : w8.cell? ⟨X + 1, 1, none⟩ = some (.int .i64 A.hi) := by { rw [cellB hbx _ _ (by first | (simp; done) | (simp; omega) | omega)]; all_goals (first | assumption | go_simp) }; have p2r : w8.cell? ⟨X + 1, 2, none⟩ = some (.slice a n cp) := by { rw [cellB hbx _ _ (by first | (simp; done) | (simp; omega) | omega)]; all_goals (first | assumption | go_simp) }; have d0r : w8.cell? ⟨X + 1 + 1, 0, none⟩ = some (.int .i64 c.x) := by { rw [cellB hbx _ _ (by first | (simp; done) | (simp; omega) | omega)]; all_goals (first | assumption | go_simp) }; have d1r : w8.cell? ⟨X + 1 + 1, 1, none⟩ = some (.int .i64 c.y) := by { rw [cellB hbx _ _ (by first | (simp; done) | (simp; omega) | omega)]; all_goals (first | assumption | go_simp) }; have d2r : w8.cell? ⟨X + 1 + 1, 2, none⟩ = some (.int .i64 c.z) := by { rw [cellB hbx _ _ (by first | (simp; done) | (simp; omega) | omega)]; all_goals (first | assumption | go_simp) }
  have hzx := hbx.size
  have y0 : X < w8.heap.size := by omega
  have y1 : X + 1 < w8.heap.size := by omega
  have y2 : X + 1 + 1 < w8.heap.size := by omega
  clear q0 q1 q2 q3 q4 q5 q6 p0 p1 p2 d0 d1 d2 hbx hzx
  go_wp2_with fail
  refine wp_region_laterM (B := w8.heap.size) [(true, 0), (true, 1), (true, 3), (false, 2), (false, 4), (true, 5), (true, 6), (true, 7), (true, 8), (true, 9)] (by kernel_rfl) (by kernel_rfl) ?_; simp only [opsOf, List.filterMap_cons, List.filterMap_nil, List.getElem?_toArray, List.getElem?_cons_zero, List.getElem?_cons_succ, Option.map_some]
  repeat (refine mix_head ?_; (show wpQuiet _ _ _ _ (_ :: _) _; go_big_quiet_step (fail)); refine wpQuiet_nil ?_)
  refine mix_tail ?_; go_wp2_with fail
  have HBd := Lib.hid (HB4.out.trans ((HB.out.trans ((Below.refl w8.heap.size w8).drew.mono HB.out.size)).mono HB4.out.size))
  refine (HCP.out _ HBd.out).mono ?_
  rintro e9 w9 ⟨a9, c9, rfl, hb9, hs9⟩
  have hb9 : Below w8.heap.size w8 w9 := (Below.refl w8.heap.size w8).drew.trans hb9
  go_wp2_with fail
  refine tailL_mk hb9 ?_
  refine mix_tail ?_; go_wp2_with fail
  refine (HAN.out a9 c9 _ hs9).mono ?_
  rintro e10 wa ⟨rfl, hba⟩
  have hba := hb9.trans (hba.mono hb9.size)
  clear hb9 hs9 HBd
  go_wp2_with fail
  refine tailL_mk hba ?_
  repeat (refine mix_head ?_; (show wpQuiet _ _ _ _ (_ :: _) _; go_big_quiet_step (fail)); refine wpQuiet_nil ?_)
  refine mix_nil ?_
  have HB := Lib.hid (HB.out.trans (hba.mono HB.out.size))
  clear hba
  clear q0r q1r q2r q3r q4r q5r q6r p0r p1r p2r d0r d1r d2r y0 y1 y2
  obtain ⟨q0, q1, q2, q3, q4, q5, q6, p0, p1, p2, d0, d1, d2⟩ := HC.out
  have hbx := HB.out
  have q0r : wa.cell? ⟨X, 0, none⟩ = some (.int .i64 g.f.x) := by { rw [cellB hbx _ _ (by first | (simp; done) | (simp; omega) | omega)]; all_goals (first | assumption | go_simp) }; have q1r : wa.cell? ⟨X, 1, none⟩ = some (.int .i64 g.f.y) := by { rw [cellB hbx _ _ (by first | (simp; done) | (simp; omega) | omega)]; all_goals (first | assumption | go_simp) }; have q2r : wa.cell? ⟨X, 2, none⟩ = some (.int .i64 g.f.z) := by { rw [cellB hbx _ _ (by first | (simp; done) | (simp; omega) | omega)]; all_goals (first | assumption | go_simp) }; have q3r : wa.cell? ⟨X, 3, none⟩ = some (.int .i64 g.st) := by { rw [cellB hbx _ _ (by first | (simp; done) | (simp; omega) | omega)]; all_goals (first | assumption | go_simp) }; have q4r : wa.cell? ⟨X, 4, none⟩ = some (.int .i64 g.c.x) := by { rw [cellB hbx _ _ (by first | (simp; done) | (simp; omega) | omega)]; all_goals (first | assumption | go_simp) }; have q5r : wa.cell? ⟨X, 5, none⟩ = some (.int .i64 g.c.y) := by { rw [cellB hbx _ _ (by first | (simp; done) | (simp; omega) | omega)]; all_goals (first | assumption | go_simp) }; have q6r : wa.cell? ⟨X, 6, none⟩ = some (.int .i64 g.c.z) := by { rw [cellB hbx _ _ (by first | (simp; done) | (simp; omega) | omega)]; all_goals (first | assumption | go_simp) }; have p0r : wa.cell? ⟨X + 1, 0, none⟩ = some (.int .i64 A.lo) := by { rw [cellB hbx _ _ (by first | (simp; done) | (simp; omega) | omega)]; all_goals (first | assumption | go_simp) }; have p1r : wa.cell? ⟨X + 1, 1, none⟩ = some (.int .i64 A.hi) := by { rw [cellB hbx _ _ (by first | (simp; done) | (simp; omega) | omega)]; all_goals (first | assumption | go_simp) }; have p2r : wa.cell? ⟨X + 1, 2, none⟩ = some (.slice a n cp) := by { rw [cellB hbx _ _ (by first | (simp; done) | (simp; omega) | omega)]; all_goals (first | assumption | go_simp) }; have d0r : wa.cell? ⟨X + 1 + 1, 0, none⟩ = some (.int .i64 c.x) := by { rw [cellB hbx _ _ (by first | (simp; done) | (simp; omega) | omega)]; all_goals (first | assumption | go_simp) }; have d1r : wa.cell? ⟨X + 1 + 1, 1, none⟩ = some (.int .i64 c.y) := by { rw [cellB hbx _ _ (by first | (simp; done) | (simp; omega) | omega)]; all_goals (first | assumption | go_simp) }; have d2r : wa.cell? ⟨X + 1 + 1, 2, none⟩ = some (.int .i64 c.z) := by { rw [cellB hbx _ _ (by first | (simp; done) | (simp; omega) | omega)]; all_goals (first | assumption | go_simp) }
  have hzx := hbx.size
  have y0 : X < wa.heap.size := by omega
  have y1 : X + 1 < wa.heap.size := by omega
  have y2 : X + 1 + 1 < wa.heap.size := by omega
  clear q0 q1 q2 q3 q4 q5 q6 p0 p1 p2 d0 d1 d2 hbx hzx
  go_wp2_with fail
  refine (HRC.out _ (HB4.out.trans (HB.out.mono HB4.out.size))).mono ?_
  rintro e11 wb ⟨rfl, hbb⟩
  have HB := Lib.hid (HB.out.trans (hbb.mono HB.out.size))
  clear hbb
  clear q0r q1r q2r q3r q4r q5r q6r p0r p1r p2r d0r d1r d2r y0 y1 y2
  obtain ⟨q0, q1, q2, q3, q4, q5, q6, p0, p1, p2, d0, d1, d2⟩ := HC.out
  have hbx := HB.out
  have q0r : wb.cell? ⟨X, 0, none⟩ = some (.int .i64 g.f.x) := by { rw [cellB hbx _ _ (by first | (simp; done) | (simp; omega) | omega)]; all_goals (first | assumption | go_simp) }; have q1r : wb.cell? ⟨X, 1, none⟩ = some (.int .i64 g.f.y) := by { rw [cellB hbx _ _ (by first | (simp; done) | (simp; omega) | omega)]; all_goals (first | assumption | go_simp) }; have q2r : wb.cell? ⟨X, 2, none⟩ = some (.int .i64 g.f.z) := by { rw [cellB hbx _ _ (by first | (simp; done) | (simp; omega) | omega)]; all_goals (first | assumption | go_simp) }; have q3r : wb.cell? ⟨X, 3, none⟩ = some (.int .i64 g.st) := by { rw [cellB hbx _ _ (by first | (simp; done) | (simp; omega) | omega)]; all_goals (first | assumption | go_simp) }; have q4r : wb.cell? ⟨X, 4, none⟩ = some (.int .i64 g.c.x) := by { rw [cellB hbx _ _ (by first | (simp; done) | (simp; omega) | omega)]; all_goals (first | assumption | go_simp) }; have q5r : wb.cell? ⟨X, 5, none⟩ = some (.int .i64 g.c.y) := by { rw [cellB hbx _ _ (by first | (simp; done) | (simp; omega) | omega)]; all_goals (first | assumption | go_simp) }; have q6r : wb.cell? ⟨X, 6, none⟩ = some (.int .i64 g.c.z) := by { rw [cellB hbx _ _ (by first | (simp; done) | (simp; omega) | omega)]; all_goals (first | assumption | go_simp) }; have p0r : wb.cell? ⟨X + 1, 0, none⟩ = some (.int .i64 A.lo) := by { rw [cellB hbx _ _ (by first | (simp; done) | (simp; omega) | omega)]; all_goals (first | assumption | go_simp) }; have p1r : wb.cell? ⟨X + 1, 1, none⟩ = some (.int .i64 A.hi) := by { rw [cellB hbx _ _ (by first | (simp; done) | (simp; omega) | omega)]; all_goals (first | assumption | go_simp) }; have p2r : wb.cell? ⟨X + 1, 2, none⟩ = some (.slice a n cp) := by { rw [cellB hbx _ _ (by first | (simp; done) | (simp; omega) | omega)]; all_goals (first | assumption | go_simp) }; have d0r : wb.cell? ⟨X + 1 + 1, 0, none⟩ = some (.int .i64 c.x) := by { rw [cellB hbx _ _ (by first | (simp; done) | (simp; omega) | omega)]; all_goals (first | assumption | go_simp) }; have d1r : wb.cell? ⟨X + 1 + 1, 1, none⟩ = some (.int .i64 c.y) := by { rw [cellB hbx _ _ (by first | (simp; done) | (simp; omega) | omega)]; all_goals (first | assumption | go_simp) }; have d2r : wb.cell? ⟨X + 1 + 1, 2, none⟩ = some (.int .i64 c.z) := by { rw [cellB hbx _ _ (by first | (simp; done) | (simp; omega) | omega)]; all_goals (first | assumption | go_simp) }
  have hzx := hbx.size
  have y0 : X < wb.heap.size := by omega
  have y1 : X + 1 < wb.heap.size := by omega
  have y2 : X + 1 + 1 < wb.heap.size := by omega
  clear q0 q1 q2 q3 q4 q5 q6 p0 p1 p2 d0 d1 d2 hbx hzx
  have hk1 : (K1 != K1) = false := by simp
  have hk2 : (K2 != K2) = false := by simp
  go_wp2_with fail
  refine (HG.out _).mono ?_
  rintro e12 wc ⟨rfl, hbc⟩
  have HB := Lib.hid (HB.out.trans (hbc.mono HB.out.size))
  clear hbc
  clear q0r q1r q2r q3r q4r q5r q6r p0r p1r p2r d0r d1r d2r y0 y1 y2
  obtain ⟨q0, q1, q2, q3, q4, q5, q6, p0, p1, p2, d0, d1, d2⟩ := HC.out
  have hbx := HB.out
  have q0r : wc.cell? ⟨X, 0, none⟩ = some (.int .i64 g.f.x) := by { rw [cellB hbx _ _ (by first | (simp; done) | (simp; omega) | omega)]; all_goals (first | assumption | go_simp) }; have q1r : wc.cell? ⟨X, 1, none⟩ = some (.int .i64 g.f.y) := by { rw [cellB hbx _ _ (by first | (simp; done) | (simp; omega) | omega)]; all_goals (first | assumption | go_simp) }; have q2r : wc.cell? ⟨X, 2, none⟩ = some (.int .i64 g.f.z) := by { rw [cellB hbx _ _ (by first | (simp; done) | (simp; omega) | omega)]; all_goals (first | assumption | go_simp) }; have q3r : wc.cell? ⟨X, 3, none⟩ = some (.int .i64 g.st) := by { rw [cellB hbx _ _ (by first | (simp; done) | (simp; omega) | omega)]; all_goals (first | assumption | go_simp) }; have q4r : wc.cell? ⟨X, 4, none⟩ = some (.int .i64 g.c.x) := by { rw [cellB hbx _ _ (by first | (simp; done) | (simp; omega) | omega)]; all_goals (first | assumption | go_simp) }; have q5r : wc.cell? ⟨X, 5, none⟩ = some (.int .i64 g.c.y) := by { rw [cellB hbx _ _ (by first | (simp; done) | (simp; omega) | omega)]; all_goals (first | assumption | go_simp) }; have q6r : wc.cell? ⟨X, 6, none⟩ = some (.int .i64 g.c.z) := by { rw [cellB hbx _ _ (by first | (simp; done) | (simp; omega) | omega)]; all_goals (first | assumption | go_simp) }; have p0r : wc.cell? ⟨X + 1, 0, none⟩ = some (.int .i64 A.lo) := by { rw [cellB hbx _ _ (by first | (simp; done) | (simp; omega) | omega)]; all_goals (first | assumption | go_simp) }; have p1r : wc.cell? ⟨X + 1, 1, none⟩ = some (.int .i64 A.hi) := by { rw [cellB hbx _ _ (by first | (simp; done) | (simp; omega) | omega)]; all_goals (first | assumption | go_simp) }; have p2r : wc.cell? ⟨X + 1, 2, none⟩ = some (.slice a n cp) := by { rw [cellB hbx _ _ (by first | (simp; done) | (simp; omega) | omega)]; all_goals (first | assumption | go_simp) }; have d0r : wc.cell? ⟨X + 1 + 1, 0, none⟩ = some (.int .i64 c.x) := by { rw [cellB hbx _ _ (by first | (simp; done) | (simp; omega) | omega)]; all_goals (first | assumption | go_simp) }; have d1r : wc.cell? ⟨X + 1 + 1, 1, none⟩ = some (.int .i64 c.y) := by { rw [cellB hbx _ _ (by first | (simp; done) | (simp; omega) | omega)]; all_goals (first | assumption | go_simp) }; have d2r : wc.cell? ⟨X + 1 + 1, 2, none⟩ = some (.int .i64 c.z) := by { rw [cellB hbx _ _ (by first | (simp; done) | (simp; omega) | omega)]; all_goals (first | assumption | go_simp) }
  have hzx := hbx.size
  have y0 : X < wc.heap.size := by omega
  have y1 : X + 1 < wc.heap.size := by omega
  have y2 : X + 1 + 1 < wc.heap.size := by omega
  clear q0 q1 q2 q3 q4 q5 q6 p0 p1 p2 d0 d1 d2 hbx hzx
  by_cases hG : G = 0
  · subst hG
    have hE := HEC.out
    rw [if_neg (by decide)] at hE
    by_cases hK : K2 = 0
    · subst hK
      rw [if_neg (by decide)] at hE
      have HII := Lib.hid (HI.out rfl)
      clear HI
      cases bc
      · rw [if_pos rfl] at hE
        subst hE
        have hU := HU.out
        rw [if_neg (by decide)] at hU
        subst hU
        clear HRA HEC HU
        go_wp2_with fail
        refine (HII.out _).mono ?_
        rintro e13 wd ⟨rfl, hbd⟩
        have HB := Lib.hid (HB.out.trans (hbd.mono HB.out.size))
        clear hbd
        clear q0r q1r q2r q3r q4r q5r q6r p0r p1r p2r d0r d1r d2r y0 y1 y2
        obtain ⟨q0, q1, q2, q3, q4, q5, q6, p0, p1, p2, d0, d1, d2⟩ := HC.out
        have hbx := HB.out
        have q0r : wd.cell? ⟨X, 0, none⟩ = some (.int .i64 g.f.x) := by { rw [cellB hbx _ _ (by first | (simp; done) | (simp; omega) | omega)]; all_goals (first | assumption | go_simp) }; have q1r : wd.cell? ⟨X, 1, none⟩ = some (.int .i64 g.f.y) := by { rw [cellB hbx _ _ (by first | (simp; done) | (simp; omega) | omega)]; all_goals (first | assumption | go_simp) }; have q2r : wd.cell? ⟨X, 2, none⟩ = some (.int .i64 g.f.z) := by { rw [cellB hbx _ _ (by first | (simp; done) | (simp; omega) | omega)]; all_goals (first | assumption | go_simp) }; have q3r : wd.cell? ⟨X, 3, none⟩ = some (.int .i64 g.st) := by { rw [cellB hbx _ _ (by first | (simp; done) | (simp; omega) | omega)]; all_goals (first | assumption | go_simp) }; have q4r : wd.cell? ⟨X, 4, none⟩ = some (.int .i64 g.c.x) := by { rw [cellB hbx _ _ (by first | (simp; done) | (simp; omega) | omega)]; all_goals (first | assumption | go_simp) }; have q5r : wd.cell? ⟨X, 5, none⟩ = some (.int .i64 g.c.y) := by { rw [cellB hbx _ _ (by first | (simp; done) | (simp; omega) | omega)]; all_goals (first | assumption | go_simp) }; have q6r : wd.cell? ⟨X, 6, none⟩ = some (.int .i64 g.c.z) := by { rw [cellB hbx _ _ (by first | (simp; done) | (simp; omega) | omega)]; all_goals (first | assumption | go_simp) }; have p0r : wd.cell? ⟨X + 1, 0, none⟩ = some (.int .i64 A.lo) := by { rw [cellB hbx _ _ (by first | (simp; done) | (simp; omega) | omega)]; all_goals (first | assumption | go_simp) }; have p1r : wd.cell? ⟨X + 1, 1, none⟩ = some (.int .i64 A.hi) := by { rw [cellB hbx _ _ (by first | (simp; done) | (simp; omega) | omega)]; all_goals (first | assumption | go_simp) }; have p2r : wd.cell? ⟨X + 1, 2, none⟩ = some (.slice a n cp) := by { rw [cellB hbx _ _ (by first | (simp; done) | (simp; omega) | omega)]; all_goals (first | assumption | go_simp) }; have d0r : wd.cell? ⟨X + 1 + 1, 0, none⟩ = some (.int .i64 c.x) := by { rw [cellB hbx _ _ (by first | (simp; done) | (simp; omega) | omega)]; all_goals (first | assumption | go_simp) }; have d1r : wd.cell? ⟨X + 1 + 1, 1, none⟩ = some (.int .i64 c.y) := by { rw [cellB hbx _ _ (by first | (simp; done) | (simp; omega) | omega)]; all_goals (first | assumption | go_simp) }; have d2r : wd.cell? ⟨X + 1 + 1, 2, none⟩ = some (.int .i64 c.z) := by { rw [cellB hbx _ _ (by first | (simp; done) | (simp; omega) | omega)]; all_goals (first | assumption | go_simp) }
        have hzx := hbx.size
        have y0 : X < wd.heap.size := by omega
        have y1 : X + 1 < wd.heap.size := by omega
        have y2 : X + 1 + 1 < wd.heap.size := by omega
        clear q0 q1 q2 q3 q4 q5 q6 p0 p1 p2 d0 d1 d2 hbx hzx
        go_wp2
        go_ret
        exact ⟨rfl, by rw [hXw.out] at *; exact HB4.out.trans (HB.out.mono HB4.out.size)⟩
      · rw [if_neg (by decide)] at hE
        subst hE
        have hU := HU.out
        rw [if_pos rfl] at hU
        subst hU
        have HRR := Lib.hid (HRA.out rfl rfl rfl)
        clear HRA HEC HU
        go_wp2_with fail
        refine (HII.out _).mono ?_
        rintro e13 wd ⟨rfl, hbd⟩
        have HB := Lib.hid (HB.out.trans (hbd.mono HB.out.size))
        clear hbd
        clear q0r q1r q2r q3r q4r q5r q6r p0r p1r p2r d0r d1r d2r y0 y1 y2
        obtain ⟨q0, q1, q2, q3, q4, q5, q6, p0, p1, p2, d0, d1, d2⟩ := HC.out
        have hbx := HB.out
        have q0r : wd.cell? ⟨X, 0, none⟩ = some (.int .i64 g.f.x) := by { rw [cellB hbx _ _ (by first | (simp; done) | (simp; omega) | omega)]; all_goals (first | assumption | go_simp) }; have q1r : wd.cell? ⟨X, 1, none⟩ = some (.int .i64 g.f.y) := by { rw [cellB hbx _ _ (by first | (simp; done) | (simp; omega) | omega)]; all_goals (first | assumption | go_simp) }; have q2r : wd.cell? ⟨X, 2, none⟩ = some (.int .i64 g.f.z) := by { rw [cellB hbx _ _ (by first | (simp; done) | (simp; omega) | omega)]; all_goals (first | assumption | go_simp) }; have q3r : wd.cell? ⟨X, 3, none⟩ = some (.int .i64 g.st) := by { rw [cellB hbx _ _ (by first | (simp; done) | (simp; omega) | omega)]; all_goals (first | assumption | go_simp) }; have q4r : wd.cell? ⟨X, 4, none⟩ = some (.int .i64 g.c.x) := by { rw [cellB hbx _ _ (by first | (simp; done) | (simp; omega) | omega)]; all_goals (first | assumption | go_simp) }; have q5r : wd.cell? ⟨X, 5, none⟩ = some (.int .i64 g.c.y) := by { rw [cellB hbx _ _ (by first | (simp; done) | (simp; omega) | omega)]; all_goals (first | assumption | go_simp) }; have q6r : wd.cell? ⟨X, 6, none⟩ = some (.int .i64 g.c.z) := by { rw [cellB hbx _ _ (by first | (simp; done) | (simp; omega) | omega)]; all_goals (first | assumption | go_simp) }; have p0r : wd.cell? ⟨X + 1, 0, none⟩ = some (.int .i64 A.lo) := by { rw [cellB hbx _ _ (by first | (simp; done) | (simp; omega) | omega)]; all_goals (first | assumption | go_simp) }; have p1r : wd.cell? ⟨X + 1, 1, none⟩ = some (.int .i64 A.hi) := by { rw [cellB hbx _ _ (by first | (simp; done) | (simp; omega) | omega)]; all_goals (first | assumption | go_simp) }; have p2r : wd.cell? ⟨X + 1, 2, none⟩ = some (.slice a n cp) := by { rw [cellB hbx _ _ (by first | (simp; done) | (simp; omega) | omega)]; all_goals (first | assumption | go_simp) }; have d0r : wd.cell? ⟨X + 1 + 1, 0, none⟩ = some (.int .i64 c.x) := by { rw [cellB hbx _ _ (by first | (simp; done) | (simp; omega) | omega)]; all_goals (first | assumption | go_simp) }; have d1r : wd.cell? ⟨X + 1 + 1, 1, none⟩ = some (.int .i64 c.y) := by { rw [cellB hbx _ _ (by first | (simp; done) | (simp; omega) | omega)]; all_goals (first | assumption | go_simp) }; have d2r : wd.cell? ⟨X + 1 + 1, 2, none⟩ = some (.int .i64 c.z) := by { rw [cellB hbx _ _ (by first | (simp; done) | (simp; omega) | omega)]; all_goals (first | assumption | go_simp) }
        have hzx := hbx.size
        have y0 : X < wd.heap.size := by omega
        have y1 : X + 1 < wd.heap.size := by omega
        have y2 : X + 1 + 1 < wd.heap.size := by omega
        clear q0 q1 q2 q3 q4 q5 q6 p0 p1 p2 d0 d1 d2 hbx hzx
        have HBW := Lib.hid (HB4.out.trans (HB.out.mono HB4.out.size))
        go_wp2_with fail
        refine wp_region_laterM (B := wd.heap.size) [(true, 0), (true, 1), (true, 2), (true, 3), (true, 4), (true, 5), (true, 6), (true, 7), (false, 8), (false, 9), (true, 10), (true, 11), (true, 12)] (by kernel_rfl) (by kernel_rfl) ?_; simp only [opsOf, List.filterMap_cons, List.filterMap_nil, List.getElem?_toArray, List.getElem?_cons_zero, List.getElem?_cons_succ, Option.map_some]
        repeat (refine mix_head ?_; (show wpQuiet _ _ _ _ (_ :: _) _; go_big_quiet_step (fail)); refine wpQuiet_nil ?_)
        refine mix_tail ?_; go_wp2_with fail
        refine (HAL.out _).mono ?_
        rintro e14 we ⟨aS, cS, rfl, hbe, hie⟩
        have hbe : Below wd.heap.size wd we := (Below.refl wd.heap.size wd).drew.trans hbe
        go_wp2_with fail
        refine tailL_mk hbe ?_
        refine mix_tail ?_; go_wp2_with fail
        refine (HRR.out aS cS _ (HBW.out.trans (hbe.mono HBW.out.size)) hie).mono ?_
        rintro e15 wf ⟨rfl, hbf⟩
        have HBF := Lib.hid (hbe.trans (hbf.mono hbe.size))
        clear hbe hbf hie
        go_wp2_with fail
        refine tailL_mk HBF.out ?_
        repeat (refine mix_head ?_; (show wpQuiet _ _ _ _ (_ :: _) _; go_big_quiet_step (fail)); refine wpQuiet_nil ?_)
        refine mix_nil ?_
        go_wp2
        go_ret
        exact ⟨ret_bool (by simp), HBW.out.trans (HBF.out.mono HBW.out.size)⟩
    · rw [if_pos hK] at hE
      subst hE
      have hU := HU.out
      rw [if_neg hK] at hU
      subst hU
      have e1 : (E == 0) = false := by simpa using hK
      have e2 : (E != 0) = true := by simpa using hK
      clear HRA HEC HU hK HI
      go_wp2
      go_ret
      exact ⟨ret_bool (by simp), HB4.out.trans (HB.out.mono HB4.out.size)⟩
  · have hE := HEC.out
    rw [if_pos hG] at hE
    subst hE
    have hU := HU.out
    rw [if_neg hG] at hU
    subst hU
    have e1 : (E == 0) = false := by simpa using hG
    have e2 : (E != 0) = true := by simpa using hG
    clear HRA HEC HU hG HI
    go_wp2
    go_ret
    exact ⟨ret_bool (by simp), HB4.out.trans (HB.out.mono HB4.out.size)⟩
theorem answ_walk (g : Gri) (A : Arr) (a : Option Addr) (n cp : Nat) (c : T3) (w : World) (hl : SenR w a n A.l) :
    Calls Tryz.prog 3 #[.agg #[.int .i64 g.f.x, .int .i64 g.f.y, .int .i64 g.f.z, .int .i64 g.st, .int .i64 g.c.x, .int .i64 g.c.y, .int .i64 g.c.z], .agg #[.int .i64 A.lo, .int .i64 A.hi, .slice a n cp], .agg #[.int .i64 c.x, .int .i64 c.y, .int .i64 c.z]] w
      fun e' w' => e' = .returned (.bool true) ∧ Below w.heap.size w w' := by
  by_cases h : n ≤ 7
  · exact answ_main g A c a n cp w hl h
  · exact answ_few g A c a n cp w hl h
end Go.Proofs.YtkphbibonagkfaaGreat
