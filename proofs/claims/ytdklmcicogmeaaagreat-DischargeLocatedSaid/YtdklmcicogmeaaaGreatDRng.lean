import Derived.Test.YtdklmcicogmeaaaGreatMDDist
/- The distance range of a cell from a sensor: the program's function with its errors. -/
namespace Go.Proofs.YtdklmcicogmeaaaGreat
open Go.RowKit
set_option linter.unusedVariables false

/-- The error of a cell and a sensor. -/
def drE (g : Gri) (c p : T3) : Int := if griE g ≠ 0 then griE g else firstErr [unl (celB g c) 6, unl (plc p) 2]
set_option maxHeartbeats 1000000 in
set_option maxRecDepth 100000 in
theorem distanceRange_any (g : Gri) (c p : T3) (w : World) :
    Calls Tryz.prog 54 #[.agg #[.int .i64 g.f.x, .int .i64 g.f.y, .int .i64 g.f.z, .int .i64 g.st, .int .i64 g.c.x, .int .i64 g.c.y, .int .i64 g.c.z], .agg #[.int .i64 c.x, .int .i64 c.y, .int .i64 c.z], .agg #[.int .i64 p.x, .int .i64 p.y, .int .i64 p.z]] w
      fun e' w' => e' = .returned (.tuple #[.agg #[.int .i64 (if drE g c p = 0 then (dist g c p).1 else 0), .int .i64 (if drE g c p = 0 then (dist g c p).2 else 0)], .int .i64 (drE g c p)]) ∧ Below w.heap.size w w' := by
  have HG := Lib.hid (fun w' => checkGrid_any g w')
  have HP := Lib.hid (fun w' => isPlace_any p w')
  have HU := Lib.hid (fun (b : Bool) (e : Int) w' => d_unless_any b e w')
  by_cases h0 : griE g = 0
  · have HC := Lib.hid (fun w' => cellErr_any g c w' (griE_zero h0).2.2)
    have HD := Lib.hid (fun (h1 : celB g c = true) (h2 : plc p = true) w' => distances_any g c p w' h0 h1 h2)
    have hE : drE g c p = firstErr [unl (celB g c) 6, unl (plc p) 2] := by unfold drE; rw [if_neg (by rw [h0]; exact fun h => h rfl)]
    rw [h0] at HG
    rw [hE]
    generalize celB g c = bc at *
    generalize plc p = bp at *
    obtain ⟨⟨D1, D2⟩, hD⟩ : ∃ d, d = dist g c p := ⟨_, rfl⟩
    rw [← hD] at HD ⊢
    obtain ⟨⟨fx, fy, fz⟩, st, ⟨nx, ny, nz⟩⟩ := g
    obtain ⟨cx, cy, cz⟩ := c
    obtain ⟨px, py, pz⟩ := p
    simp only at HG HP HC HD ⊢
    clear h0 hE hD
    obtain ⟨E, hE⟩ : ∃ E, E = firstErr [unl bc 6, unl bp 2] := ⟨_, rfl⟩
    rw [← hE]
    have HE := Lib.hid hE
    clear hE
    by_cases hE0 : E = 0
    · have hbb : bc = true ∧ bp = true := by
        have := HE.out
        rw [hE0] at this
        have h2 := firstErr_cons.1 this.symm
        have h3 := firstErr_cons.1 h2.2
        exact ⟨(unl_eq_zero (by omega)).1 h2.1, (unl_eq_zero (by omega)).1 h3.1⟩
      obtain ⟨rfl, rfl⟩ := hbb
      subst hE0
      have HDD := Lib.hid (fun w' => HD.out rfl rfl w')
      clear HD
      rw [if_pos rfl, if_pos rfl]
      go_enter Tryz.func54, Tryz.ntmps54
      go_wp2_with fail
      generalize hW : World.alloc _ _ = w4
      have hb4 : Below w.heap.size w w4 := by rw [← hW]; (repeat' (first | (with_reducible exact Below.refl _ _) | (with_reducible assumption) | (with_reducible refine Below.drewN ?_ _) | (with_reducible refine Below.alloc ?_ ?_ _) | (with_reducible refine Below.drew ?_) | (with_reducible refine Below.setCell ?_ ?_ _) | (with_reducible refine Below.step (by assumption) ?_ ?_) | (with_reducible exact And.left (by assumption)) | go_size))
      have q0 : w4.cell? ⟨w.heap.size, 0, none⟩ = some (.int .i64 fx) := by { rw [← hW]; clear hW; go_simp }
      have q1 : w4.cell? ⟨w.heap.size, 1, none⟩ = some (.int .i64 fy) := by { rw [← hW]; clear hW; go_simp }
      have q2 : w4.cell? ⟨w.heap.size, 2, none⟩ = some (.int .i64 fz) := by { rw [← hW]; clear hW; go_simp }
      have q3 : w4.cell? ⟨w.heap.size, 3, none⟩ = some (.int .i64 st) := by { rw [← hW]; clear hW; go_simp }
      have q4 : w4.cell? ⟨w.heap.size, 4, none⟩ = some (.int .i64 nx) := by { rw [← hW]; clear hW; go_simp }
      have q5 : w4.cell? ⟨w.heap.size, 5, none⟩ = some (.int .i64 ny) := by { rw [← hW]; clear hW; go_simp }
      have q6 : w4.cell? ⟨w.heap.size, 6, none⟩ = some (.int .i64 nz) := by { rw [← hW]; clear hW; go_simp }
      have c0 : w4.cell? ⟨w.heap.size + 1, 0, none⟩ = some (.int .i64 cx) := by { rw [← hW]; clear hW; go_simp }
      have c1 : w4.cell? ⟨w.heap.size + 1, 1, none⟩ = some (.int .i64 cy) := by { rw [← hW]; clear hW; go_simp }
      have c2 : w4.cell? ⟨w.heap.size + 1, 2, none⟩ = some (.int .i64 cz) := by { rw [← hW]; clear hW; go_simp }
      have s0 : w4.cell? ⟨w.heap.size + 1 + 1, 0, none⟩ = some (.int .i64 px) := by { rw [← hW]; clear hW; go_simp }
      have s1 : w4.cell? ⟨w.heap.size + 1 + 1, 1, none⟩ = some (.int .i64 py) := by { rw [← hW]; clear hW; go_simp }
      have s2 : w4.cell? ⟨w.heap.size + 1 + 1, 2, none⟩ = some (.int .i64 pz) := by { rw [← hW]; clear hW; go_simp }
      have r0 : w4.cell? ⟨w.heap.size + 1 + 1 + 1, 0, none⟩ = some (.int .i64 0) := by { rw [← hW]; clear hW; go_simp }
      have r1 : w4.cell? ⟨w.heap.size + 1 + 1 + 1, 1, none⟩ = some (.int .i64 0) := by { rw [← hW]; clear hW; go_simp }
      have f0 : w4.frozen? ⟨w.heap.size + 1 + 1 + 1, 0, none⟩ = false := by { rw [← hW]; clear hW; go_simp }
      have f1 : w4.frozen? ⟨w.heap.size + 1 + 1 + 1, 1, none⟩ = false := by { rw [← hW]; clear hW; go_simp }
      have l3 : w.heap.size + 1 + 1 + 1 < w4.heap.size := by { rw [← hW]; clear hW; simp }
      have HB4 := Lib.hid hb4
      clear hW hb4
      go_wp2_with fail
      refine (HG.out _).mono ?_
      rintro e5 w5 ⟨rfl, hb5⟩
      have q0d : w5.cell? ⟨w.heap.size, 0, none⟩ = some (.int .i64 fx) := by { rw [cellB hb5 _ _ (by first | (simp; done) | (simp; omega) | omega)]; all_goals (first | assumption | go_simp) }; have q1d : w5.cell? ⟨w.heap.size, 1, none⟩ = some (.int .i64 fy) := by { rw [cellB hb5 _ _ (by first | (simp; done) | (simp; omega) | omega)]; all_goals (first | assumption | go_simp) }; have q2d : w5.cell? ⟨w.heap.size, 2, none⟩ = some (.int .i64 fz) := by { rw [cellB hb5 _ _ (by first | (simp; done) | (simp; omega) | omega)]; all_goals (first | assumption | go_simp) }; have q3d : w5.cell? ⟨w.heap.size, 3, none⟩ = some (.int .i64 st) := by { rw [cellB hb5 _ _ (by first | (simp; done) | (simp; omega) | omega)]; all_goals (first | assumption | go_simp) }; have q4d : w5.cell? ⟨w.heap.size, 4, none⟩ = some (.int .i64 nx) := by { rw [cellB hb5 _ _ (by first | (simp; done) | (simp; omega) | omega)]; all_goals (first | assumption | go_simp) }; have q5d : w5.cell? ⟨w.heap.size, 5, none⟩ = some (.int .i64 ny) := by { rw [cellB hb5 _ _ (by first | (simp; done) | (simp; omega) | omega)]; all_goals (first | assumption | go_simp) }; have q6d : w5.cell? ⟨w.heap.size, 6, none⟩ = some (.int .i64 nz) := by { rw [cellB hb5 _ _ (by first | (simp; done) | (simp; omega) | omega)]; all_goals (first | assumption | go_simp) }; have c0d : w5.cell? ⟨w.heap.size + 1, 0, none⟩ = some (.int .i64 cx) := by { rw [cellB hb5 _ _ (by first | (simp; done) | (simp; omega) | omega)]; all_goals (first | assumption | go_simp) }; have c1d : w5.cell? ⟨w.heap.size + 1, 1, none⟩ = some (.int .i64 cy) := by { rw [cellB hb5 _ _ (by first | (simp; done) | (simp; omega) | omega)]; all_goals (first | assumption | go_simp) }; have c2d : w5.cell? ⟨w.heap.size + 1, 2, none⟩ = some (.int .i64 cz) := by { rw [cellB hb5 _ _ (by first | (simp; done) | (simp; omega) | omega)]; all_goals (first | assumption | go_simp) }; have s0d : w5.cell? ⟨w.heap.size + 1 + 1, 0, none⟩ = some (.int .i64 px) := by { rw [cellB hb5 _ _ (by first | (simp; done) | (simp; omega) | omega)]; all_goals (first | assumption | go_simp) }; have s1d : w5.cell? ⟨w.heap.size + 1 + 1, 1, none⟩ = some (.int .i64 py) := by { rw [cellB hb5 _ _ (by first | (simp; done) | (simp; omega) | omega)]; all_goals (first | assumption | go_simp) }; have s2d : w5.cell? ⟨w.heap.size + 1 + 1, 2, none⟩ = some (.int .i64 pz) := by { rw [cellB hb5 _ _ (by first | (simp; done) | (simp; omega) | omega)]; all_goals (first | assumption | go_simp) }; have r0d : w5.cell? ⟨w.heap.size + 1 + 1 + 1, 0, none⟩ = some (.int .i64 0) := by { rw [cellB hb5 _ _ (by first | (simp; done) | (simp; omega) | omega)]; all_goals (first | assumption | go_simp) }; have r1d : w5.cell? ⟨w.heap.size + 1 + 1 + 1, 1, none⟩ = some (.int .i64 0) := by { rw [cellB hb5 _ _ (by first | (simp; done) | (simp; omega) | omega)]; all_goals (first | assumption | go_simp) }; have f0d : w5.frozen? ⟨w.heap.size + 1 + 1 + 1, 0, none⟩ = false := by { rw [frozenB hb5 _ _ (by first | (simp; done) | (simp; omega) | omega)]; all_goals (first | assumption | go_simp) }; have f1d : w5.frozen? ⟨w.heap.size + 1 + 1 + 1, 1, none⟩ = false := by { rw [frozenB hb5 _ _ (by first | (simp; done) | (simp; omega) | omega)]; all_goals (first | assumption | go_simp) }
      have hz5 := hb5.size
      have l0 : w.heap.size < w5.heap.size := by omega
      have l1 : w.heap.size + 1 < w5.heap.size := by omega
      have l2 : w.heap.size + 1 + 1 < w5.heap.size := by omega
      have l3 : w.heap.size + 1 + 1 + 1 < w5.heap.size := by omega
      have HB5 := Lib.hid (HB4.out.trans (hb5.mono (by omega)))
      clear hb5 q0 q1 q2 q3 q4 q5 q6 c0 c1 c2 s0 s1 s2 r0 r1 f0 f1 HB4 HG
      go_wp2_with fail
      refine later_of_eq 6 (by kernel_rfl) (by kernel_rfl) ?_; simp only [List.take_succ_cons, List.take_zero, List.drop_succ_cons, List.drop_zero]; repeat go_big_quiet_step (first | (with_reducible exact calls_later (HC.out _)) | (with_reducible exact calls_later (HP.out _)) | (with_reducible exact calls_later_same (HU.out _ _ _)))
      refine wpQuiet_nil ?_; intro w6 hb6
      have hz6 := hb6.size
      go_wp2_with fail
      refine (d_first2 _ _ _ _ _ _ (by rfl) (by simp)).mono ?_
      rintro e8 w8 ⟨rfl, hw8⟩
      have hb8 : Below w5.heap.size w5 w8 := hb6.trans ((show Below w6.heap.size w6 w8 by rw [← hw8]; (repeat' (first | (with_reducible exact Below.refl _ _) | (with_reducible assumption) | (with_reducible refine Below.drewN ?_ _) | (with_reducible refine Below.alloc ?_ ?_ _) | (with_reducible refine Below.drew ?_) | (with_reducible refine Below.setCell ?_ ?_ _) | (with_reducible refine Below.step (by assumption) ?_ ?_) | (with_reducible exact And.left (by assumption)) | go_size))).mono hb6.size)
      have q0 : w8.cell? ⟨w.heap.size, 0, none⟩ = some (.int .i64 fx) := by { rw [cellB hb8 _ _ (by first | (simp; done) | (simp; omega) | omega)]; all_goals (first | assumption | go_simp) }; have q1 : w8.cell? ⟨w.heap.size, 1, none⟩ = some (.int .i64 fy) := by { rw [cellB hb8 _ _ (by first | (simp; done) | (simp; omega) | omega)]; all_goals (first | assumption | go_simp) }; have q2 : w8.cell? ⟨w.heap.size, 2, none⟩ = some (.int .i64 fz) := by { rw [cellB hb8 _ _ (by first | (simp; done) | (simp; omega) | omega)]; all_goals (first | assumption | go_simp) }; have q3 : w8.cell? ⟨w.heap.size, 3, none⟩ = some (.int .i64 st) := by { rw [cellB hb8 _ _ (by first | (simp; done) | (simp; omega) | omega)]; all_goals (first | assumption | go_simp) }; have q4 : w8.cell? ⟨w.heap.size, 4, none⟩ = some (.int .i64 nx) := by { rw [cellB hb8 _ _ (by first | (simp; done) | (simp; omega) | omega)]; all_goals (first | assumption | go_simp) }; have q5 : w8.cell? ⟨w.heap.size, 5, none⟩ = some (.int .i64 ny) := by { rw [cellB hb8 _ _ (by first | (simp; done) | (simp; omega) | omega)]; all_goals (first | assumption | go_simp) }; have q6 : w8.cell? ⟨w.heap.size, 6, none⟩ = some (.int .i64 nz) := by { rw [cellB hb8 _ _ (by first | (simp; done) | (simp; omega) | omega)]; all_goals (first | assumption | go_simp) }; have c0 : w8.cell? ⟨w.heap.size + 1, 0, none⟩ = some (.int .i64 cx) := by { rw [cellB hb8 _ _ (by first | (simp; done) | (simp; omega) | omega)]; all_goals (first | assumption | go_simp) }; have c1 : w8.cell? ⟨w.heap.size + 1, 1, none⟩ = some (.int .i64 cy) := by { rw [cellB hb8 _ _ (by first | (simp; done) | (simp; omega) | omega)]; all_goals (first | assumption | go_simp) }; have c2 : w8.cell? ⟨w.heap.size + 1, 2, none⟩ = some (.int .i64 cz) := by { rw [cellB hb8 _ _ (by first | (simp; done) | (simp; omega) | omega)]; all_goals (first | assumption | go_simp) }; have s0 : w8.cell? ⟨w.heap.size + 1 + 1, 0, none⟩ = some (.int .i64 px) := by { rw [cellB hb8 _ _ (by first | (simp; done) | (simp; omega) | omega)]; all_goals (first | assumption | go_simp) }; have s1 : w8.cell? ⟨w.heap.size + 1 + 1, 1, none⟩ = some (.int .i64 py) := by { rw [cellB hb8 _ _ (by first | (simp; done) | (simp; omega) | omega)]; all_goals (first | assumption | go_simp) }; have s2 : w8.cell? ⟨w.heap.size + 1 + 1, 2, none⟩ = some (.int .i64 pz) := by { rw [cellB hb8 _ _ (by first | (simp; done) | (simp; omega) | omega)]; all_goals (first | assumption | go_simp) }; have r0 : w8.cell? ⟨w.heap.size + 1 + 1 + 1, 0, none⟩ = some (.int .i64 0) := by { rw [cellB hb8 _ _ (by first | (simp; done) | (simp; omega) | omega)]; all_goals (first | assumption | go_simp) }; have r1 : w8.cell? ⟨w.heap.size + 1 + 1 + 1, 1, none⟩ = some (.int .i64 0) := by { rw [cellB hb8 _ _ (by first | (simp; done) | (simp; omega) | omega)]; all_goals (first | assumption | go_simp) }; have f0 : w8.frozen? ⟨w.heap.size + 1 + 1 + 1, 0, none⟩ = false := by { rw [frozenB hb8 _ _ (by first | (simp; done) | (simp; omega) | omega)]; all_goals (first | assumption | go_simp) }; have f1 : w8.frozen? ⟨w.heap.size + 1 + 1 + 1, 1, none⟩ = false := by { rw [frozenB hb8 _ _ (by first | (simp; done) | (simp; omega) | omega)]; all_goals (first | assumption | go_simp) }
      have hz8 := hb8.size
      have HB8 := Lib.hid (HB5.out.trans (hb8.mono HB5.out.size))
      have l5 : w.heap.size + 1 + 1 + 1 < w8.heap.size := by omega
      clear hw8 hb8 hb6 q0d q1d q2d q3d q4d q5d q6d c0d c1d c2d s0d s1d s2d r0d r1d f0d f1d l0 l1 l2 l3 hz5 hz6 HB5
      rw [← HE.out]
      go_wp2_with fail
      refine (HDD.out _).mono ?_
      rintro e9 w9 ⟨rfl, hb9⟩
      have r0d : w9.cell? ⟨w.heap.size + 1 + 1 + 1, 0, none⟩ = some (.int .i64 0) := by { rw [cellB hb9 _ _ (by first | (simp; done) | (simp; omega) | omega)]; all_goals (first | assumption | go_simp) }; have r1d : w9.cell? ⟨w.heap.size + 1 + 1 + 1, 1, none⟩ = some (.int .i64 0) := by { rw [cellB hb9 _ _ (by first | (simp; done) | (simp; omega) | omega)]; all_goals (first | assumption | go_simp) }; have f0d : w9.frozen? ⟨w.heap.size + 1 + 1 + 1, 0, none⟩ = false := by { rw [frozenB hb9 _ _ (by first | (simp; done) | (simp; omega) | omega)]; all_goals (first | assumption | go_simp) }; have f1d : w9.frozen? ⟨w.heap.size + 1 + 1 + 1, 1, none⟩ = false := by { rw [frozenB hb9 _ _ (by first | (simp; done) | (simp; omega) | omega)]; all_goals (first | assumption | go_simp) }
      have HB9 := Lib.hid (HB8.out.trans (hb9.mono HB8.out.size))
      have hz9 := hb9.size
      have l6 : w.heap.size + 1 + 1 + 1 < w9.heap.size := by omega
      clear hb9 q0 q1 q2 q3 q4 q5 q6 c0 c1 c2 s0 s1 s2 r0 r1 f0 f1
      go_wp2_with fail
      generalize hW : World.setCell _ _ _ = wf
      have r0' : wf.cell? ⟨w.heap.size + 1 + 1 + 1, 0, none⟩ = some (.int .i64 D1) := by { rw [← hW]; clear hW; go_simp }
      have r1' : wf.cell? ⟨w.heap.size + 1 + 1 + 1, 1, none⟩ = some (.int .i64 D2) := by { rw [← hW]; clear hW; go_simp }
      have hbf : Below w.heap.size w wf := by { rw [← hW]; have := HB9.out; (repeat' (first | (with_reducible exact Below.refl _ _) | (with_reducible assumption) | (with_reducible refine Below.drewN ?_ _) | (with_reducible refine Below.alloc ?_ ?_ _) | (with_reducible refine Below.drew ?_) | (with_reducible refine Below.setCell ?_ ?_ _) | (with_reducible refine Below.step (by assumption) ?_ ?_) | (with_reducible exact And.left (by assumption)) | go_size)) }
      clear hW
      exact bodyPost_ret (v := .tuple #[.agg #[.int .i64 D1, .int .i64 D2], .int .i64 0]) (by simp [results, Tryz.results54, go_sem, r0', r1']) rfl ⟨rfl, hbf⟩
    · rw [if_neg hE0, if_neg hE0]
      have hE1 : (E != 0) = true := by simpa using hE0
      clear hE0 HD
      go_enter Tryz.func54, Tryz.ntmps54
      go_wp2_with fail
      generalize hW : World.alloc _ _ = w4
      have hb4 : Below w.heap.size w w4 := by rw [← hW]; (repeat' (first | (with_reducible exact Below.refl _ _) | (with_reducible assumption) | (with_reducible refine Below.drewN ?_ _) | (with_reducible refine Below.alloc ?_ ?_ _) | (with_reducible refine Below.drew ?_) | (with_reducible refine Below.setCell ?_ ?_ _) | (with_reducible refine Below.step (by assumption) ?_ ?_) | (with_reducible exact And.left (by assumption)) | go_size))
      have q0 : w4.cell? ⟨w.heap.size, 0, none⟩ = some (.int .i64 fx) := by { rw [← hW]; clear hW; go_simp }
      have q1 : w4.cell? ⟨w.heap.size, 1, none⟩ = some (.int .i64 fy) := by { rw [← hW]; clear hW; go_simp }
      have q2 : w4.cell? ⟨w.heap.size, 2, none⟩ = some (.int .i64 fz) := by { rw [← hW]; clear hW; go_simp }
      have q3 : w4.cell? ⟨w.heap.size, 3, none⟩ = some (.int .i64 st) := by { rw [← hW]; clear hW; go_simp }
      have q4 : w4.cell? ⟨w.heap.size, 4, none⟩ = some (.int .i64 nx) := by { rw [← hW]; clear hW; go_simp }
      have q5 : w4.cell? ⟨w.heap.size, 5, none⟩ = some (.int .i64 ny) := by { rw [← hW]; clear hW; go_simp }
      have q6 : w4.cell? ⟨w.heap.size, 6, none⟩ = some (.int .i64 nz) := by { rw [← hW]; clear hW; go_simp }
      have c0 : w4.cell? ⟨w.heap.size + 1, 0, none⟩ = some (.int .i64 cx) := by { rw [← hW]; clear hW; go_simp }
      have c1 : w4.cell? ⟨w.heap.size + 1, 1, none⟩ = some (.int .i64 cy) := by { rw [← hW]; clear hW; go_simp }
      have c2 : w4.cell? ⟨w.heap.size + 1, 2, none⟩ = some (.int .i64 cz) := by { rw [← hW]; clear hW; go_simp }
      have s0 : w4.cell? ⟨w.heap.size + 1 + 1, 0, none⟩ = some (.int .i64 px) := by { rw [← hW]; clear hW; go_simp }
      have s1 : w4.cell? ⟨w.heap.size + 1 + 1, 1, none⟩ = some (.int .i64 py) := by { rw [← hW]; clear hW; go_simp }
      have s2 : w4.cell? ⟨w.heap.size + 1 + 1, 2, none⟩ = some (.int .i64 pz) := by { rw [← hW]; clear hW; go_simp }
      have r0 : w4.cell? ⟨w.heap.size + 1 + 1 + 1, 0, none⟩ = some (.int .i64 0) := by { rw [← hW]; clear hW; go_simp }
      have r1 : w4.cell? ⟨w.heap.size + 1 + 1 + 1, 1, none⟩ = some (.int .i64 0) := by { rw [← hW]; clear hW; go_simp }
      have f0 : w4.frozen? ⟨w.heap.size + 1 + 1 + 1, 0, none⟩ = false := by { rw [← hW]; clear hW; go_simp }
      have f1 : w4.frozen? ⟨w.heap.size + 1 + 1 + 1, 1, none⟩ = false := by { rw [← hW]; clear hW; go_simp }
      have l3 : w.heap.size + 1 + 1 + 1 < w4.heap.size := by { rw [← hW]; clear hW; simp }
      have HB4 := Lib.hid hb4
      clear hW hb4
      go_wp2_with fail
      refine (HG.out _).mono ?_
      rintro e5 w5 ⟨rfl, hb5⟩
      have q0d : w5.cell? ⟨w.heap.size, 0, none⟩ = some (.int .i64 fx) := by { rw [cellB hb5 _ _ (by first | (simp; done) | (simp; omega) | omega)]; all_goals (first | assumption | go_simp) }; have q1d : w5.cell? ⟨w.heap.size, 1, none⟩ = some (.int .i64 fy) := by { rw [cellB hb5 _ _ (by first | (simp; done) | (simp; omega) | omega)]; all_goals (first | assumption | go_simp) }; have q2d : w5.cell? ⟨w.heap.size, 2, none⟩ = some (.int .i64 fz) := by { rw [cellB hb5 _ _ (by first | (simp; done) | (simp; omega) | omega)]; all_goals (first | assumption | go_simp) }; have q3d : w5.cell? ⟨w.heap.size, 3, none⟩ = some (.int .i64 st) := by { rw [cellB hb5 _ _ (by first | (simp; done) | (simp; omega) | omega)]; all_goals (first | assumption | go_simp) }; have q4d : w5.cell? ⟨w.heap.size, 4, none⟩ = some (.int .i64 nx) := by { rw [cellB hb5 _ _ (by first | (simp; done) | (simp; omega) | omega)]; all_goals (first | assumption | go_simp) }; have q5d : w5.cell? ⟨w.heap.size, 5, none⟩ = some (.int .i64 ny) := by { rw [cellB hb5 _ _ (by first | (simp; done) | (simp; omega) | omega)]; all_goals (first | assumption | go_simp) }; have q6d : w5.cell? ⟨w.heap.size, 6, none⟩ = some (.int .i64 nz) := by { rw [cellB hb5 _ _ (by first | (simp; done) | (simp; omega) | omega)]; all_goals (first | assumption | go_simp) }; have c0d : w5.cell? ⟨w.heap.size + 1, 0, none⟩ = some (.int .i64 cx) := by { rw [cellB hb5 _ _ (by first | (simp; done) | (simp; omega) | omega)]; all_goals (first | assumption | go_simp) }; have c1d : w5.cell? ⟨w.heap.size + 1, 1, none⟩ = some (.int .i64 cy) := by { rw [cellB hb5 _ _ (by first | (simp; done) | (simp; omega) | omega)]; all_goals (first | assumption | go_simp) }; have c2d : w5.cell? ⟨w.heap.size + 1, 2, none⟩ = some (.int .i64 cz) := by { rw [cellB hb5 _ _ (by first | (simp; done) | (simp; omega) | omega)]; all_goals (first | assumption | go_simp) }; have s0d : w5.cell? ⟨w.heap.size + 1 + 1, 0, none⟩ = some (.int .i64 px) := by { rw [cellB hb5 _ _ (by first | (simp; done) | (simp; omega) | omega)]; all_goals (first | assumption | go_simp) }; have s1d : w5.cell? ⟨w.heap.size + 1 + 1, 1, none⟩ = some (.int .i64 py) := by { rw [cellB hb5 _ _ (by first | (simp; done) | (simp; omega) | omega)]; all_goals (first | assumption | go_simp) }; have s2d : w5.cell? ⟨w.heap.size + 1 + 1, 2, none⟩ = some (.int .i64 pz) := by { rw [cellB hb5 _ _ (by first | (simp; done) | (simp; omega) | omega)]; all_goals (first | assumption | go_simp) }; have r0d : w5.cell? ⟨w.heap.size + 1 + 1 + 1, 0, none⟩ = some (.int .i64 0) := by { rw [cellB hb5 _ _ (by first | (simp; done) | (simp; omega) | omega)]; all_goals (first | assumption | go_simp) }; have r1d : w5.cell? ⟨w.heap.size + 1 + 1 + 1, 1, none⟩ = some (.int .i64 0) := by { rw [cellB hb5 _ _ (by first | (simp; done) | (simp; omega) | omega)]; all_goals (first | assumption | go_simp) }; have f0d : w5.frozen? ⟨w.heap.size + 1 + 1 + 1, 0, none⟩ = false := by { rw [frozenB hb5 _ _ (by first | (simp; done) | (simp; omega) | omega)]; all_goals (first | assumption | go_simp) }; have f1d : w5.frozen? ⟨w.heap.size + 1 + 1 + 1, 1, none⟩ = false := by { rw [frozenB hb5 _ _ (by first | (simp; done) | (simp; omega) | omega)]; all_goals (first | assumption | go_simp) }
      have hz5 := hb5.size
      have l0 : w.heap.size < w5.heap.size := by omega
      have l1 : w.heap.size + 1 < w5.heap.size := by omega
      have l2 : w.heap.size + 1 + 1 < w5.heap.size := by omega
      have l3 : w.heap.size + 1 + 1 + 1 < w5.heap.size := by omega
      have HB5 := Lib.hid (HB4.out.trans (hb5.mono (by omega)))
      clear hb5 q0 q1 q2 q3 q4 q5 q6 c0 c1 c2 s0 s1 s2 r0 r1 f0 f1 HB4 HG
      go_wp2_with fail
      refine later_of_eq 6 (by kernel_rfl) (by kernel_rfl) ?_; simp only [List.take_succ_cons, List.take_zero, List.drop_succ_cons, List.drop_zero]; repeat go_big_quiet_step (first | (with_reducible exact calls_later (HC.out _)) | (with_reducible exact calls_later (HP.out _)) | (with_reducible exact calls_later_same (HU.out _ _ _)))
      refine wpQuiet_nil ?_; intro w6 hb6
      have hz6 := hb6.size
      go_wp2_with fail
      refine (d_first2 _ _ _ _ _ _ (by rfl) (by simp)).mono ?_
      rintro e8 w8 ⟨rfl, hw8⟩
      have hb8 : Below w5.heap.size w5 w8 := hb6.trans ((show Below w6.heap.size w6 w8 by rw [← hw8]; (repeat' (first | (with_reducible exact Below.refl _ _) | (with_reducible assumption) | (with_reducible refine Below.drewN ?_ _) | (with_reducible refine Below.alloc ?_ ?_ _) | (with_reducible refine Below.drew ?_) | (with_reducible refine Below.setCell ?_ ?_ _) | (with_reducible refine Below.step (by assumption) ?_ ?_) | (with_reducible exact And.left (by assumption)) | go_size))).mono hb6.size)
      have q0 : w8.cell? ⟨w.heap.size, 0, none⟩ = some (.int .i64 fx) := by { rw [cellB hb8 _ _ (by first | (simp; done) | (simp; omega) | omega)]; all_goals (first | assumption | go_simp) }; have q1 : w8.cell? ⟨w.heap.size, 1, none⟩ = some (.int .i64 fy) := by { rw [cellB hb8 _ _ (by first | (simp; done) | (simp; omega) | omega)]; all_goals (first | assumption | go_simp) }; have q2 : w8.cell? ⟨w.heap.size, 2, none⟩ = some (.int .i64 fz) := by { rw [cellB hb8 _ _ (by first | (simp; done) | (simp; omega) | omega)]; all_goals (first | assumption | go_simp) }; have q3 : w8.cell? ⟨w.heap.size, 3, none⟩ = some (.int .i64 st) := by { rw [cellB hb8 _ _ (by first | (simp; done) | (simp; omega) | omega)]; all_goals (first | assumption | go_simp) }; have q4 : w8.cell? ⟨w.heap.size, 4, none⟩ = some (.int .i64 nx) := by { rw [cellB hb8 _ _ (by first | (simp; done) | (simp; omega) | omega)]; all_goals (first | assumption | go_simp) }; have q5 : w8.cell? ⟨w.heap.size, 5, none⟩ = some (.int .i64 ny) := by { rw [cellB hb8 _ _ (by first | (simp; done) | (simp; omega) | omega)]; all_goals (first | assumption | go_simp) }; have q6 : w8.cell? ⟨w.heap.size, 6, none⟩ = some (.int .i64 nz) := by { rw [cellB hb8 _ _ (by first | (simp; done) | (simp; omega) | omega)]; all_goals (first | assumption | go_simp) }; have c0 : w8.cell? ⟨w.heap.size + 1, 0, none⟩ = some (.int .i64 cx) := by { rw [cellB hb8 _ _ (by first | (simp; done) | (simp; omega) | omega)]; all_goals (first | assumption | go_simp) }; have c1 : w8.cell? ⟨w.heap.size + 1, 1, none⟩ = some (.int .i64 cy) := by { rw [cellB hb8 _ _ (by first | (simp; done) | (simp; omega) | omega)]; all_goals (first | assumption | go_simp) }; have c2 : w8.cell? ⟨w.heap.size + 1, 2, none⟩ = some (.int .i64 cz) := by { rw [cellB hb8 _ _ (by first | (simp; done) | (simp; omega) | omega)]; all_goals (first | assumption | go_simp) }; have s0 : w8.cell? ⟨w.heap.size + 1 + 1, 0, none⟩ = some (.int .i64 px) := by { rw [cellB hb8 _ _ (by first | (simp; done) | (simp; omega) | omega)]; all_goals (first | assumption | go_simp) }; have s1 : w8.cell? ⟨w.heap.size + 1 + 1, 1, none⟩ = some (.int .i64 py) := by { rw [cellB hb8 _ _ (by first | (simp; done) | (simp; omega) | omega)]; all_goals (first | assumption | go_simp) }; have s2 : w8.cell? ⟨w.heap.size + 1 + 1, 2, none⟩ = some (.int .i64 pz) := by { rw [cellB hb8 _ _ (by first | (simp; done) | (simp; omega) | omega)]; all_goals (first | assumption | go_simp) }; have r0 : w8.cell? ⟨w.heap.size + 1 + 1 + 1, 0, none⟩ = some (.int .i64 0) := by { rw [cellB hb8 _ _ (by first | (simp; done) | (simp; omega) | omega)]; all_goals (first | assumption | go_simp) }; have r1 : w8.cell? ⟨w.heap.size + 1 + 1 + 1, 1, none⟩ = some (.int .i64 0) := by { rw [cellB hb8 _ _ (by first | (simp; done) | (simp; omega) | omega)]; all_goals (first | assumption | go_simp) }; have f0 : w8.frozen? ⟨w.heap.size + 1 + 1 + 1, 0, none⟩ = false := by { rw [frozenB hb8 _ _ (by first | (simp; done) | (simp; omega) | omega)]; all_goals (first | assumption | go_simp) }; have f1 : w8.frozen? ⟨w.heap.size + 1 + 1 + 1, 1, none⟩ = false := by { rw [frozenB hb8 _ _ (by first | (simp; done) | (simp; omega) | omega)]; all_goals (first | assumption | go_simp) }
      have hz8 := hb8.size
      have HB8 := Lib.hid (HB5.out.trans (hb8.mono HB5.out.size))
      have l5 : w.heap.size + 1 + 1 + 1 < w8.heap.size := by omega
      clear hw8 hb8 hb6 q0d q1d q2d q3d q4d q5d q6d c0d c1d c2d s0d s1d s2d r0d r1d f0d f1d l0 l1 l2 l3 hz5 hz6 HB5
      rw [← HE.out]
      clear HE
      go_wp2_with fail
      generalize hW : World.setCell _ _ _ = wf
      have r0' : wf.cell? ⟨w.heap.size + 1 + 1 + 1, 0, none⟩ = some (.int .i64 0) := by { rw [← hW]; clear hW; go_simp }
      have r1' : wf.cell? ⟨w.heap.size + 1 + 1 + 1, 1, none⟩ = some (.int .i64 0) := by { rw [← hW]; clear hW; go_simp }
      have hbf : Below w.heap.size w wf := by { rw [← hW]; have := HB8.out; (repeat' (first | (with_reducible exact Below.refl _ _) | (with_reducible assumption) | (with_reducible refine Below.drewN ?_ _) | (with_reducible refine Below.alloc ?_ ?_ _) | (with_reducible refine Below.drew ?_) | (with_reducible refine Below.setCell ?_ ?_ _) | (with_reducible refine Below.step (by assumption) ?_ ?_) | (with_reducible exact And.left (by assumption)) | go_size)) }
      clear hW
      exact bodyPost_ret (v := .tuple #[.agg #[.int .i64 0, .int .i64 0], .int .i64 E]) (by simp [results, Tryz.results54, go_sem, r0', r1']) rfl ⟨rfl, hbf⟩
  · have hE : drE g c p = griE g := by unfold drE; rw [if_pos h0]
    rw [hE, if_neg h0, if_neg h0]
    obtain ⟨E, hEE⟩ : ∃ E, E = griE g := ⟨_, rfl⟩
    rw [← hEE] at HG h0 ⊢
    obtain ⟨⟨fx, fy, fz⟩, st, ⟨nx, ny, nz⟩⟩ := g
    obtain ⟨cx, cy, cz⟩ := c
    obtain ⟨px, py, pz⟩ := p
    simp only at HG ⊢
    have hE1 : (E != 0) = true := by simpa using h0
    have hE2 : (E == 0) = false := by simpa using h0
    clear h0 hE hEE
    go_enter Tryz.func54, Tryz.ntmps54
    go_wp2_with fail
    generalize hW : World.alloc _ _ = w4
    have hb4 : Below w.heap.size w w4 := by rw [← hW]; (repeat' (first | (with_reducible exact Below.refl _ _) | (with_reducible assumption) | (with_reducible refine Below.drewN ?_ _) | (with_reducible refine Below.alloc ?_ ?_ _) | (with_reducible refine Below.drew ?_) | (with_reducible refine Below.setCell ?_ ?_ _) | (with_reducible refine Below.step (by assumption) ?_ ?_) | (with_reducible exact And.left (by assumption)) | go_size))
    have q0 : w4.cell? ⟨w.heap.size, 0, none⟩ = some (.int .i64 fx) := by { rw [← hW]; clear hW; go_simp }
    have q1 : w4.cell? ⟨w.heap.size, 1, none⟩ = some (.int .i64 fy) := by { rw [← hW]; clear hW; go_simp }
    have q2 : w4.cell? ⟨w.heap.size, 2, none⟩ = some (.int .i64 fz) := by { rw [← hW]; clear hW; go_simp }
    have q3 : w4.cell? ⟨w.heap.size, 3, none⟩ = some (.int .i64 st) := by { rw [← hW]; clear hW; go_simp }
    have q4 : w4.cell? ⟨w.heap.size, 4, none⟩ = some (.int .i64 nx) := by { rw [← hW]; clear hW; go_simp }
    have q5 : w4.cell? ⟨w.heap.size, 5, none⟩ = some (.int .i64 ny) := by { rw [← hW]; clear hW; go_simp }
    have q6 : w4.cell? ⟨w.heap.size, 6, none⟩ = some (.int .i64 nz) := by { rw [← hW]; clear hW; go_simp }
    have c0 : w4.cell? ⟨w.heap.size + 1, 0, none⟩ = some (.int .i64 cx) := by { rw [← hW]; clear hW; go_simp }
    have c1 : w4.cell? ⟨w.heap.size + 1, 1, none⟩ = some (.int .i64 cy) := by { rw [← hW]; clear hW; go_simp }
    have c2 : w4.cell? ⟨w.heap.size + 1, 2, none⟩ = some (.int .i64 cz) := by { rw [← hW]; clear hW; go_simp }
    have s0 : w4.cell? ⟨w.heap.size + 1 + 1, 0, none⟩ = some (.int .i64 px) := by { rw [← hW]; clear hW; go_simp }
    have s1 : w4.cell? ⟨w.heap.size + 1 + 1, 1, none⟩ = some (.int .i64 py) := by { rw [← hW]; clear hW; go_simp }
    have s2 : w4.cell? ⟨w.heap.size + 1 + 1, 2, none⟩ = some (.int .i64 pz) := by { rw [← hW]; clear hW; go_simp }
    have r0 : w4.cell? ⟨w.heap.size + 1 + 1 + 1, 0, none⟩ = some (.int .i64 0) := by { rw [← hW]; clear hW; go_simp }
    have r1 : w4.cell? ⟨w.heap.size + 1 + 1 + 1, 1, none⟩ = some (.int .i64 0) := by { rw [← hW]; clear hW; go_simp }
    have f0 : w4.frozen? ⟨w.heap.size + 1 + 1 + 1, 0, none⟩ = false := by { rw [← hW]; clear hW; go_simp }
    have f1 : w4.frozen? ⟨w.heap.size + 1 + 1 + 1, 1, none⟩ = false := by { rw [← hW]; clear hW; go_simp }
    have l3 : w.heap.size + 1 + 1 + 1 < w4.heap.size := by { rw [← hW]; clear hW; simp }
    have HB4 := Lib.hid hb4
    clear hW hb4
    go_wp2_with fail
    refine (HG.out _).mono ?_
    rintro e5 w5 ⟨rfl, hb5⟩
    have q0d : w5.cell? ⟨w.heap.size, 0, none⟩ = some (.int .i64 fx) := by { rw [cellB hb5 _ _ (by first | (simp; done) | (simp; omega) | omega)]; all_goals (first | assumption | go_simp) }; have q1d : w5.cell? ⟨w.heap.size, 1, none⟩ = some (.int .i64 fy) := by { rw [cellB hb5 _ _ (by first | (simp; done) | (simp; omega) | omega)]; all_goals (first | assumption | go_simp) }; have q2d : w5.cell? ⟨w.heap.size, 2, none⟩ = some (.int .i64 fz) := by { rw [cellB hb5 _ _ (by first | (simp; done) | (simp; omega) | omega)]; all_goals (first | assumption | go_simp) }; have q3d : w5.cell? ⟨w.heap.size, 3, none⟩ = some (.int .i64 st) := by { rw [cellB hb5 _ _ (by first | (simp; done) | (simp; omega) | omega)]; all_goals (first | assumption | go_simp) }; have q4d : w5.cell? ⟨w.heap.size, 4, none⟩ = some (.int .i64 nx) := by { rw [cellB hb5 _ _ (by first | (simp; done) | (simp; omega) | omega)]; all_goals (first | assumption | go_simp) }; have q5d : w5.cell? ⟨w.heap.size, 5, none⟩ = some (.int .i64 ny) := by { rw [cellB hb5 _ _ (by first | (simp; done) | (simp; omega) | omega)]; all_goals (first | assumption | go_simp) }; have q6d : w5.cell? ⟨w.heap.size, 6, none⟩ = some (.int .i64 nz) := by { rw [cellB hb5 _ _ (by first | (simp; done) | (simp; omega) | omega)]; all_goals (first | assumption | go_simp) }; have c0d : w5.cell? ⟨w.heap.size + 1, 0, none⟩ = some (.int .i64 cx) := by { rw [cellB hb5 _ _ (by first | (simp; done) | (simp; omega) | omega)]; all_goals (first | assumption | go_simp) }; have c1d : w5.cell? ⟨w.heap.size + 1, 1, none⟩ = some (.int .i64 cy) := by { rw [cellB hb5 _ _ (by first | (simp; done) | (simp; omega) | omega)]; all_goals (first | assumption | go_simp) }; have c2d : w5.cell? ⟨w.heap.size + 1, 2, none⟩ = some (.int .i64 cz) := by { rw [cellB hb5 _ _ (by first | (simp; done) | (simp; omega) | omega)]; all_goals (first | assumption | go_simp) }; have s0d : w5.cell? ⟨w.heap.size + 1 + 1, 0, none⟩ = some (.int .i64 px) := by { rw [cellB hb5 _ _ (by first | (simp; done) | (simp; omega) | omega)]; all_goals (first | assumption | go_simp) }; have s1d : w5.cell? ⟨w.heap.size + 1 + 1, 1, none⟩ = some (.int .i64 py) := by { rw [cellB hb5 _ _ (by first | (simp; done) | (simp; omega) | omega)]; all_goals (first | assumption | go_simp) }; have s2d : w5.cell? ⟨w.heap.size + 1 + 1, 2, none⟩ = some (.int .i64 pz) := by { rw [cellB hb5 _ _ (by first | (simp; done) | (simp; omega) | omega)]; all_goals (first | assumption | go_simp) }; have r0d : w5.cell? ⟨w.heap.size + 1 + 1 + 1, 0, none⟩ = some (.int .i64 0) := by { rw [cellB hb5 _ _ (by first | (simp; done) | (simp; omega) | omega)]; all_goals (first | assumption | go_simp) }; have r1d : w5.cell? ⟨w.heap.size + 1 + 1 + 1, 1, none⟩ = some (.int .i64 0) := by { rw [cellB hb5 _ _ (by first | (simp; done) | (simp; omega) | omega)]; all_goals (first | assumption | go_simp) }; have f0d : w5.frozen? ⟨w.heap.size + 1 + 1 + 1, 0, none⟩ = false := by { rw [frozenB hb5 _ _ (by first | (simp; done) | (simp; omega) | omega)]; all_goals (first | assumption | go_simp) }; have f1d : w5.frozen? ⟨w.heap.size + 1 + 1 + 1, 1, none⟩ = false := by { rw [frozenB hb5 _ _ (by first | (simp; done) | (simp; omega) | omega)]; all_goals (first | assumption | go_simp) }
    have hz5 := hb5.size
    have l0 : w.heap.size < w5.heap.size := by omega
    have l1 : w.heap.size + 1 < w5.heap.size := by omega
    have l2 : w.heap.size + 1 + 1 < w5.heap.size := by omega
    have l3 : w.heap.size + 1 + 1 + 1 < w5.heap.size := by omega
    have HB5 := Lib.hid (HB4.out.trans (hb5.mono (by omega)))
    clear hb5 q0 q1 q2 q3 q4 q5 q6 c0 c1 c2 s0 s1 s2 r0 r1 f0 f1 HB4 HG
    go_wp2_with fail
    generalize hW : World.setCell _ _ _ = wf
    have r0' : wf.cell? ⟨w.heap.size + 1 + 1 + 1, 0, none⟩ = some (.int .i64 0) := by { rw [← hW]; clear hW; go_simp }
    have r1' : wf.cell? ⟨w.heap.size + 1 + 1 + 1, 1, none⟩ = some (.int .i64 0) := by { rw [← hW]; clear hW; go_simp }
    have hbf : Below w.heap.size w wf := by { rw [← hW]; have := HB5.out; (repeat' (first | (with_reducible exact Below.refl _ _) | (with_reducible assumption) | (with_reducible refine Below.drewN ?_ _) | (with_reducible refine Below.alloc ?_ ?_ _) | (with_reducible refine Below.drew ?_) | (with_reducible refine Below.setCell ?_ ?_ _) | (with_reducible refine Below.step (by assumption) ?_ ?_) | (with_reducible exact And.left (by assumption)) | go_size)) }
    clear hW
    exact bodyPost_ret (v := .tuple #[.agg #[.int .i64 0, .int .i64 0], .int .i64 E]) (by simp [results, Tryz.results54, go_sem, r0', r1']) rfl ⟨rfl, hbf⟩
end Go.Proofs.YtdklmcicogmeaaaGreat
