import Derived.Test.YtdklmcicogmeaaaGreatMDDist
import Derived.Test.YtdklmcicogmeaaaGreatSchedY
/- A grid and arrivals: hear, late. -/
namespace Go.Proofs.YtdklmcicogmeaaaGreat
open Go.RowKit
set_option linter.unusedVariables false

theorem late_any (v0 v1 v2 v3 v4 v5 v6 v7 v8 : Value) (l : List Sen) (a : Option Addr) (n c i j : Nat) (w : World) (hl : SenR w a n l) (hi : i < n) (hj : j < n) (hb : ∀ k, k < n → -9000000000 ≤ (sAt l k).lo ∧ (sAt l k).lo ≤ 9000000000 ∧ -9000000000 ≤ (sAt l k).hi ∧ (sAt l k).hi ≤ 9000000000) :
    Calls Tryz.prog 113 #[.agg #[v0, v1, v2, v3, v4, v5, v6, v7, v8, .slice a n c], .int .i64 i, .int .i64 j] w fun e' w' => e' = .returned (.int .i64 (lat l i j)) ∧ Below w.heap.size w w' := by
  have hn := hl.small
  obtain ⟨b, o, rfl, hbb, hc⟩ := hl.addr (by omega)
  obtain ⟨si, hsi⟩ := ER.get hl hi
  obtain ⟨sj, hsj⟩ := ER.get hl hj
  obtain ⟨_, _, _, q3, _⟩ := hc i si hsi
  obtain ⟨_, _, _, _, r4⟩ := hc j sj hsj
  have b1 := hb i hi
  have b2 := hb j hj
  rw [sAt_get hsi] at b1
  rw [sAt_get hsj] at b2
  unfold lat
  rw [sAt_get hsi, sAt_get hsj]
  generalize si.lo = x at *
  generalize sj.hi = y at *
  have i0 : (0 : Int) ≤ (i : Int) := by omega
  have i1 : (i : Int) < (n : Int) := by omega
  have j0 : (0 : Int) ≤ (j : Int) := by omega
  have j1 : (j : Int) < (n : Int) := by omega
  have hwr : IntKind.i64.wrap (y - x) = y - x := by rw [IntKind.wrap_i64]; omega
  clear hl hc hsi hsj hb b1 b2 hi hj
  go_enter Tryz.func113, Tryz.ntmps113
  go_wp2_with fail
  go_quiet (fail)
  go_wp2
  go_ret
  exact ⟨rfl, by (repeat' (first | (with_reducible exact Below.refl _ _) | (with_reducible assumption) | (with_reducible refine Below.drewN ?_ _) | (with_reducible refine Below.alloc ?_ ?_ _) | (with_reducible refine Below.drew ?_) | (with_reducible refine Below.setCell ?_ ?_ _) | (with_reducible refine Below.step (by assumption) ?_ ?_) | (with_reducible exact And.left (by assumption)) | go_size))⟩
set_option maxHeartbeats 1000000 in
set_option maxRecDepth 100000 in
theorem hear_any (g : Gri) (A : Arr) (a : Option Addr) (n c : Nat) (w : World) (hl : SenR w a n A.l) :
    Calls Tryz.prog 60 #[.agg #[.int .i64 g.f.x, .int .i64 g.f.y, .int .i64 g.f.z, .int .i64 g.st, .int .i64 g.c.x, .int .i64 g.c.y, .int .i64 g.c.z], .agg #[.int .i64 A.lo, .int .i64 A.hi, .slice a n c]] w
      fun e' w' => e' = .returned (.tuple #[.agg #[.int .i64 g.f.x, .int .i64 g.f.y, .int .i64 g.f.z, .int .i64 g.st, .int .i64 g.c.x, .int .i64 g.c.y, .int .i64 g.c.z, .int .i64 A.lo, .int .i64 A.hi, .slice a n c], .int .i64 (firstErr [griE g, (arrE A).2])]) ∧ Below w.heap.size w w' := by
  have HC := Lib.hid (fun (w' : World) (hb : Below w.heap.size w w') => checkArrivals_any A a n c w' (hl.below hb))
  have HG := Lib.hid (fun w' => checkGrid_any g w')
  generalize arrE A = E at *
  generalize griE g = E2 at *
  obtain ⟨⟨x, y, z⟩, st, ⟨p, q, r⟩⟩ := g
  obtain ⟨lo, hi, l⟩ := A
  obtain ⟨k, e⟩ := E
  simp only at HC HG ⊢
  clear hl
  go_enter Tryz.func60, Tryz.ntmps60
  go_wp2_with fail
  refine (HC.out _ (by (repeat' (first | (with_reducible exact Below.refl _ _) | (with_reducible assumption) | (with_reducible refine Below.drewN ?_ _) | (with_reducible refine Below.alloc ?_ ?_ _) | (with_reducible refine Below.drew ?_) | (with_reducible refine Below.setCell ?_ ?_ _) | (with_reducible refine Below.step (by assumption) ?_ ?_) | (with_reducible exact And.left (by assumption)) | go_size)))).mono ?_
  rintro e5 w5 ⟨rfl, hb5⟩
  have hz5 := hb5.size
  simp only [World.size_alloc] at hz5
  have q0 : w5.cell? ⟨w.heap.size, 0, none⟩ = some (.int .i64 x) := by { rw [cellB hb5 _ _ (by first | (simp; done) | (simp; omega) | omega)]; all_goals (first | assumption | go_simp) }; have q1 : w5.cell? ⟨w.heap.size, 1, none⟩ = some (.int .i64 y) := by { rw [cellB hb5 _ _ (by first | (simp; done) | (simp; omega) | omega)]; all_goals (first | assumption | go_simp) }; have q2 : w5.cell? ⟨w.heap.size, 2, none⟩ = some (.int .i64 z) := by { rw [cellB hb5 _ _ (by first | (simp; done) | (simp; omega) | omega)]; all_goals (first | assumption | go_simp) }; have q3 : w5.cell? ⟨w.heap.size, 3, none⟩ = some (.int .i64 st) := by { rw [cellB hb5 _ _ (by first | (simp; done) | (simp; omega) | omega)]; all_goals (first | assumption | go_simp) }; have q4 : w5.cell? ⟨w.heap.size, 4, none⟩ = some (.int .i64 p) := by { rw [cellB hb5 _ _ (by first | (simp; done) | (simp; omega) | omega)]; all_goals (first | assumption | go_simp) }; have q5 : w5.cell? ⟨w.heap.size, 5, none⟩ = some (.int .i64 q) := by { rw [cellB hb5 _ _ (by first | (simp; done) | (simp; omega) | omega)]; all_goals (first | assumption | go_simp) }; have q6 : w5.cell? ⟨w.heap.size, 6, none⟩ = some (.int .i64 r) := by { rw [cellB hb5 _ _ (by first | (simp; done) | (simp; omega) | omega)]; all_goals (first | assumption | go_simp) }; have p0 : w5.cell? ⟨w.heap.size + 1, 0, none⟩ = some (.int .i64 lo) := by { rw [cellB hb5 _ _ (by first | (simp; done) | (simp; omega) | omega)]; all_goals (first | assumption | go_simp) }; have p1 : w5.cell? ⟨w.heap.size + 1, 1, none⟩ = some (.int .i64 hi) := by { rw [cellB hb5 _ _ (by first | (simp; done) | (simp; omega) | omega)]; all_goals (first | assumption | go_simp) }; have p2 : w5.cell? ⟨w.heap.size + 1, 2, none⟩ = some (.slice a n c) := by { rw [cellB hb5 _ _ (by first | (simp; done) | (simp; omega) | omega)]; all_goals (first | assumption | go_simp) }; have g0 : w5.frozen? ⟨w.heap.size + 1 + 1, 0, none⟩ = false := by { rw [frozenB hb5 _ _ (by first | (simp; done) | (simp; omega) | omega)]; all_goals (first | assumption | go_simp) }; have g1 : w5.frozen? ⟨w.heap.size + 1 + 1, 1, none⟩ = false := by { rw [frozenB hb5 _ _ (by first | (simp; done) | (simp; omega) | omega)]; all_goals (first | assumption | go_simp) }; have g2 : w5.frozen? ⟨w.heap.size + 1 + 1, 2, none⟩ = false := by { rw [frozenB hb5 _ _ (by first | (simp; done) | (simp; omega) | omega)]; all_goals (first | assumption | go_simp) }; have g3 : w5.frozen? ⟨w.heap.size + 1 + 1, 3, none⟩ = false := by { rw [frozenB hb5 _ _ (by first | (simp; done) | (simp; omega) | omega)]; all_goals (first | assumption | go_simp) }; have g4 : w5.frozen? ⟨w.heap.size + 1 + 1, 4, none⟩ = false := by { rw [frozenB hb5 _ _ (by first | (simp; done) | (simp; omega) | omega)]; all_goals (first | assumption | go_simp) }; have g5 : w5.frozen? ⟨w.heap.size + 1 + 1, 5, none⟩ = false := by { rw [frozenB hb5 _ _ (by first | (simp; done) | (simp; omega) | omega)]; all_goals (first | assumption | go_simp) }; have g6 : w5.frozen? ⟨w.heap.size + 1 + 1, 6, none⟩ = false := by { rw [frozenB hb5 _ _ (by first | (simp; done) | (simp; omega) | omega)]; all_goals (first | assumption | go_simp) }; have g7 : w5.frozen? ⟨w.heap.size + 1 + 1, 7, none⟩ = false := by { rw [frozenB hb5 _ _ (by first | (simp; done) | (simp; omega) | omega)]; all_goals (first | assumption | go_simp) }; have g8 : w5.frozen? ⟨w.heap.size + 1 + 1, 8, none⟩ = false := by { rw [frozenB hb5 _ _ (by first | (simp; done) | (simp; omega) | omega)]; all_goals (first | assumption | go_simp) }; have g9 : w5.frozen? ⟨w.heap.size + 1 + 1, 9, none⟩ = false := by { rw [frozenB hb5 _ _ (by first | (simp; done) | (simp; omega) | omega)]; all_goals (first | assumption | go_simp) }; have l0 : w.heap.size < w5.heap.size := by { omega }; have l1 : w.heap.size + 1 < w5.heap.size := by { omega }; have l2 : w.heap.size + 1 + 1 < w5.heap.size := by { omega }; have z0 : w5.cell? ⟨w.heap.size + 1 + 1, 0, none⟩ = some (.int .i64 0) := by { rw [cellB hb5 _ _ (by first | (simp; done) | (simp; omega) | omega)]; all_goals (first | assumption | go_simp) }; have z1 : w5.cell? ⟨w.heap.size + 1 + 1, 1, none⟩ = some (.int .i64 0) := by { rw [cellB hb5 _ _ (by first | (simp; done) | (simp; omega) | omega)]; all_goals (first | assumption | go_simp) }; have z2 : w5.cell? ⟨w.heap.size + 1 + 1, 2, none⟩ = some (.int .i64 0) := by { rw [cellB hb5 _ _ (by first | (simp; done) | (simp; omega) | omega)]; all_goals (first | assumption | go_simp) }; have z3 : w5.cell? ⟨w.heap.size + 1 + 1, 3, none⟩ = some (.int .i64 0) := by { rw [cellB hb5 _ _ (by first | (simp; done) | (simp; omega) | omega)]; all_goals (first | assumption | go_simp) }; have z4 : w5.cell? ⟨w.heap.size + 1 + 1, 4, none⟩ = some (.int .i64 0) := by { rw [cellB hb5 _ _ (by first | (simp; done) | (simp; omega) | omega)]; all_goals (first | assumption | go_simp) }; have z5 : w5.cell? ⟨w.heap.size + 1 + 1, 5, none⟩ = some (.int .i64 0) := by { rw [cellB hb5 _ _ (by first | (simp; done) | (simp; omega) | omega)]; all_goals (first | assumption | go_simp) }; have z6 : w5.cell? ⟨w.heap.size + 1 + 1, 6, none⟩ = some (.int .i64 0) := by { rw [cellB hb5 _ _ (by first | (simp; done) | (simp; omega) | omega)]; all_goals (first | assumption | go_simp) }; have z7 : w5.cell? ⟨w.heap.size + 1 + 1, 7, none⟩ = some (.int .i64 0) := by { rw [cellB hb5 _ _ (by first | (simp; done) | (simp; omega) | omega)]; all_goals (first | assumption | go_simp) }; have z8 : w5.cell? ⟨w.heap.size + 1 + 1, 8, none⟩ = some (.int .i64 0) := by { rw [cellB hb5 _ _ (by first | (simp; done) | (simp; omega) | omega)]; all_goals (first | assumption | go_simp) }; have z9 : w5.cell? ⟨w.heap.size + 1 + 1, 9, none⟩ = some (.slice none 0 0) := by { rw [cellB hb5 _ _ (by first | (simp; done) | (simp; omega) | omega)]; all_goals (first | assumption | go_simp) }
  have HB5 := Lib.hid (show Below w.heap.size w w5 by (repeat' (first | (with_reducible exact Below.refl _ _) | (with_reducible assumption) | (with_reducible refine Below.drewN ?_ _) | (with_reducible refine Below.alloc ?_ ?_ _) | (with_reducible refine Below.drew ?_) | (with_reducible refine Below.setCell ?_ ?_ _) | (with_reducible refine Below.step (by assumption) ?_ ?_) | (with_reducible exact And.left (by assumption)) | go_size)))
  clear hb5 HC
  go_wp2_with fail
  refine wp_region_laterB (B := w.heap.size + 1 + 1) [0, 1, 2, 3, 5] [4, 6, 7, 8, 9] (by kernel_rfl) (by kernel_rfl) ?_; simp only [List.filterMap_cons, List.filterMap_nil, List.getElem?_cons_zero, List.getElem?_cons_succ]; repeat (show wpQuiet _ _ _ _ (_ :: _) _; go_big_quiet_step (fail))
  refine wpQuiet_nil ?_
  refine wpTail_cons ?_
  go_wp2_with fail
  refine (HG.out _).mono ?_
  rintro e6 w6 ⟨rfl, hb6⟩
  have HB6 := Lib.hid (show Below w5.heap.size w5 w6 from (Below.refl w5.heap.size w5).drew.trans hb6)
  clear hb6
  go_wp2_with fail
  refine tailL_mk (HB6.out.mono (by omega)) ?_
  refine wpTail_cons ?_
  go_wp2_with fail
  refine tailL_mk ((Below.alloc HB6.out HB6.out.size _).mono (by omega)) ?_
  refine wpTail_cons ?_
  go_wp2_with fail
  refine (d_first2 _ _ _ _ _ _ (by rfl) (by simp)).mono ?_
  rintro e8 w8 ⟨rfl, hw8⟩
  have hb8 : Below w5.heap.size w5 w8 := by rw [← hw8]; exact Below.alloc HB6.out HB6.out.size _
  go_wp2_with fail
  refine tailL_mk (hb8.mono (by omega)) ?_
  have hz8 := hb8.size
  have h0 : w8.frozen? ⟨w.heap.size + 1 + 1, 0, none⟩ = false := by { rw [frozenB hb8 _ _ (by first | (simp; done) | (simp; omega) | omega)]; all_goals (first | assumption | go_simp) }; have h1 : w8.frozen? ⟨w.heap.size + 1 + 1, 1, none⟩ = false := by { rw [frozenB hb8 _ _ (by first | (simp; done) | (simp; omega) | omega)]; all_goals (first | assumption | go_simp) }; have h2 : w8.frozen? ⟨w.heap.size + 1 + 1, 2, none⟩ = false := by { rw [frozenB hb8 _ _ (by first | (simp; done) | (simp; omega) | omega)]; all_goals (first | assumption | go_simp) }; have h3 : w8.frozen? ⟨w.heap.size + 1 + 1, 3, none⟩ = false := by { rw [frozenB hb8 _ _ (by first | (simp; done) | (simp; omega) | omega)]; all_goals (first | assumption | go_simp) }; have h4 : w8.frozen? ⟨w.heap.size + 1 + 1, 4, none⟩ = false := by { rw [frozenB hb8 _ _ (by first | (simp; done) | (simp; omega) | omega)]; all_goals (first | assumption | go_simp) }; have h5 : w8.frozen? ⟨w.heap.size + 1 + 1, 5, none⟩ = false := by { rw [frozenB hb8 _ _ (by first | (simp; done) | (simp; omega) | omega)]; all_goals (first | assumption | go_simp) }; have h6 : w8.frozen? ⟨w.heap.size + 1 + 1, 6, none⟩ = false := by { rw [frozenB hb8 _ _ (by first | (simp; done) | (simp; omega) | omega)]; all_goals (first | assumption | go_simp) }; have h7 : w8.frozen? ⟨w.heap.size + 1 + 1, 7, none⟩ = false := by { rw [frozenB hb8 _ _ (by first | (simp; done) | (simp; omega) | omega)]; all_goals (first | assumption | go_simp) }; have h8 : w8.frozen? ⟨w.heap.size + 1 + 1, 8, none⟩ = false := by { rw [frozenB hb8 _ _ (by first | (simp; done) | (simp; omega) | omega)]; all_goals (first | assumption | go_simp) }; have h9 : w8.frozen? ⟨w.heap.size + 1 + 1, 9, none⟩ = false := by { rw [frozenB hb8 _ _ (by first | (simp; done) | (simp; omega) | omega)]; all_goals (first | assumption | go_simp) }; have y0 : w8.cell? ⟨w.heap.size + 1 + 1, 0, none⟩ = some (.int .i64 0) := by { rw [cellB hb8 _ _ (by first | (simp; done) | (simp; omega) | omega)]; all_goals (first | assumption | go_simp) }; have y1 : w8.cell? ⟨w.heap.size + 1 + 1, 1, none⟩ = some (.int .i64 0) := by { rw [cellB hb8 _ _ (by first | (simp; done) | (simp; omega) | omega)]; all_goals (first | assumption | go_simp) }; have y2 : w8.cell? ⟨w.heap.size + 1 + 1, 2, none⟩ = some (.int .i64 0) := by { rw [cellB hb8 _ _ (by first | (simp; done) | (simp; omega) | omega)]; all_goals (first | assumption | go_simp) }; have y3 : w8.cell? ⟨w.heap.size + 1 + 1, 3, none⟩ = some (.int .i64 0) := by { rw [cellB hb8 _ _ (by first | (simp; done) | (simp; omega) | omega)]; all_goals (first | assumption | go_simp) }; have y4 : w8.cell? ⟨w.heap.size + 1 + 1, 4, none⟩ = some (.int .i64 0) := by { rw [cellB hb8 _ _ (by first | (simp; done) | (simp; omega) | omega)]; all_goals (first | assumption | go_simp) }; have y5 : w8.cell? ⟨w.heap.size + 1 + 1, 5, none⟩ = some (.int .i64 0) := by { rw [cellB hb8 _ _ (by first | (simp; done) | (simp; omega) | omega)]; all_goals (first | assumption | go_simp) }; have y6 : w8.cell? ⟨w.heap.size + 1 + 1, 6, none⟩ = some (.int .i64 0) := by { rw [cellB hb8 _ _ (by first | (simp; done) | (simp; omega) | omega)]; all_goals (first | assumption | go_simp) }; have y7 : w8.cell? ⟨w.heap.size + 1 + 1, 7, none⟩ = some (.int .i64 0) := by { rw [cellB hb8 _ _ (by first | (simp; done) | (simp; omega) | omega)]; all_goals (first | assumption | go_simp) }; have y8 : w8.cell? ⟨w.heap.size + 1 + 1, 8, none⟩ = some (.int .i64 0) := by { rw [cellB hb8 _ _ (by first | (simp; done) | (simp; omega) | omega)]; all_goals (first | assumption | go_simp) }; have y9 : w8.cell? ⟨w.heap.size + 1 + 1, 9, none⟩ = some (.slice none 0 0) := by { rw [cellB hb8 _ _ (by first | (simp; done) | (simp; omega) | omega)]; all_goals (first | assumption | go_simp) }; have l3 : w.heap.size + 1 + 1 < w8.heap.size := by { omega }
  have HB8 := Lib.hid (HB5.out.trans (hb8.mono HB5.out.size))
  have HB58 := Lib.hid hb8
  clear hb8 hw8 HB6
  refine wpTail_cons ?_
  go_wp2_with fail
  generalize hW : World.setCell _ _ _ = w9
  have r0 : w9.cell? ⟨w.heap.size + 1 + 1, 0, none⟩ = some (.int .i64 x) := by { rw [← hW]; clear hW; go_simp }
  have r1 : w9.cell? ⟨w.heap.size + 1 + 1, 1, none⟩ = some (.int .i64 y) := by { rw [← hW]; clear hW; go_simp }
  have r2 : w9.cell? ⟨w.heap.size + 1 + 1, 2, none⟩ = some (.int .i64 z) := by { rw [← hW]; clear hW; go_simp }
  have r3 : w9.cell? ⟨w.heap.size + 1 + 1, 3, none⟩ = some (.int .i64 st) := by { rw [← hW]; clear hW; go_simp }
  have r4 : w9.cell? ⟨w.heap.size + 1 + 1, 4, none⟩ = some (.int .i64 p) := by { rw [← hW]; clear hW; go_simp }
  have r5 : w9.cell? ⟨w.heap.size + 1 + 1, 5, none⟩ = some (.int .i64 q) := by { rw [← hW]; clear hW; go_simp }
  have r6 : w9.cell? ⟨w.heap.size + 1 + 1, 6, none⟩ = some (.int .i64 r) := by { rw [← hW]; clear hW; go_simp }
  have r7 : w9.cell? ⟨w.heap.size + 1 + 1, 7, none⟩ = some (.int .i64 lo) := by { rw [← hW]; clear hW; go_simp }
  have r8 : w9.cell? ⟨w.heap.size + 1 + 1, 8, none⟩ = some (.int .i64 hi) := by { rw [← hW]; clear hW; go_simp }
  have r9 : w9.cell? ⟨w.heap.size + 1 + 1, 9, none⟩ = some (.slice a n c) := by { rw [← hW]; clear hW; go_simp }
  have hb9 : Below (w.heap.size + 1 + 1) w5 w9 := by { rw [← hW]; have := HB58.out.mono (show w.heap.size + 1 + 1 ≤ w5.heap.size by omega); (repeat' (first | (with_reducible exact Below.refl _ _) | (with_reducible assumption) | (with_reducible refine Below.drewN ?_ _) | (with_reducible refine Below.alloc ?_ ?_ _) | (with_reducible refine Below.drew ?_) | (with_reducible refine Below.setCell ?_ ?_ _) | (with_reducible refine Below.step (by assumption) ?_ ?_) | (with_reducible exact And.left (by assumption)) | go_size)) }
  have HB9 := Lib.hid (HB5.out.trans (hb9.mono (by omega)))
  clear hW
  refine tailL_mk hb9 ?_
  refine wpTail_cons ?_
  go_wp2_with fail
  refine tailL_mk hb9 ?_
  refine wpTail_nil ?_
  go_wp2
  exact bodyPost_ret (v := .tuple #[.agg #[.int .i64 x, .int .i64 y, .int .i64 z, .int .i64 st, .int .i64 p, .int .i64 q, .int .i64 r, .int .i64 lo, .int .i64 hi, .slice a n c], .int .i64 (firstErr [E2, e])]) (by simp [results, Tryz.results60, go_sem, r0, r1, r2, r3, r4, r5, r6, r7, r8, r9]) rfl ⟨rfl, HB9.out⟩
end Go.Proofs.YtdklmcicogmeaaaGreat
