import Derived.Test.YthkekjgdknnaiaaGreatDXpe
import Derived.Test.YthkekjgdknnaiaaGreatLOut
/- Nothing from outside is left: the statement's function. -/
namespace Go.Proofs.YthkekjgdknnaiaaGreat
open Go.RowKit
set_option linter.unusedVariables false

set_option maxHeartbeats 2000000 in
set_option maxRecDepth 100000 in
theorem cln_out (s o : Ser) (w0 w1 : Int) (ap bp : Option Addr) (n cp m dp : Nat) (w : World) (hs : SerW s) (ho : SerW o) (hl : T3R w ap n s.l) (hm : T3R w bp m o.l) (h : ¬ ((n ≤ 64 ∧ s.nm.size ≤ 30) ∧ (m ≤ 64 ∧ o.nm.size ≤ 30) ∧ outE s o w0 = 0 ∧ wi w1 w0 1000000 = true)) :
    Calls Tryz.prog 6 #[.agg #[.string s.nm, .int .i64 s.per, .int .i64 s.least, .int .i64 s.a, .int .i64 s.b, .int .i64 s.c, .int .i64 s.d, .slice ap n cp], .agg #[.string o.nm, .int .i64 o.per, .int .i64 o.least, .int .i64 o.a, .int .i64 o.b, .int .i64 o.c, .int .i64 o.d, .slice bp m dp], .agg #[.int .i64 w0, .int .i64 w1]] w fun e' w' => e' = .returned (.bool true) ∧ Below w.heap.size w w' := by
  have HFS := Lib.hid (fun W => few9_any s ap n cp W hl.small hs.1)
  have HFO := Lib.hid (fun W => few9_any o bp m dp W hm.small ho.1)
  have HOE := Lib.hid (fun (W : World) (hb : Below w.heap.size w W) => rOutsideErr_any s o w0 ap bp n cp m dp W hs ho (hl.below hb) (hm.below hb))
  have HX := Lib.hid (fun w' => bwithin_any w1 w0 1000000 w')
  clear hs ho hl hm
  by_cases h1 : n ≤ 64 ∧ s.nm.size ≤ 30
  · rw [few_true h1] at HFS
    by_cases h2 : m ≤ 64 ∧ o.nm.size ≤ 30
    · rw [few_true h2] at HFO
      generalize outE s o w0 = E at *
      generalize wi w1 w0 1000000 = B1 at *
      obtain ⟨snm, sper, sleast, sa, sb, sc, sd, sl⟩ := s
      obtain ⟨onm, oper, oleast, oa, ob, oc, od, ol⟩ := o
      simp only at *
      by_cases h3 : E = 0
      · obtain rfl : B1 = false := by
          cases B1
          · rfl
          · exact absurd ⟨h1, h2, h3, rfl⟩ h
        subst h3
        clear h h1 h2
        go_enter Tryz.func6, Tryz.ntmps6
        go_wp2_with fail
        generalize hW : World.alloc _ _ = w4
        have hb4 : Below w.heap.size w w4 := by rw [← hW]; (repeat' (first | (with_reducible exact Below.refl _ _) | (with_reducible assumption) | (with_reducible refine Below.drewN ?_ _) | (with_reducible refine Below.alloc ?_ ?_ _) | (with_reducible refine Below.drew ?_) | (with_reducible refine Below.setCell ?_ ?_ _) | (with_reducible refine Below.step (by assumption) ?_ ?_) | (with_reducible exact And.left (by assumption)) | go_size))
        have x0 : w4.cell? ⟨w.heap.size, 0, none⟩ = some (.string snm) := by { rw [← hW]; clear hW; go_simp }
        have x1 : w4.cell? ⟨w.heap.size, 1, none⟩ = some (.int .i64 sper) := by { rw [← hW]; clear hW; go_simp }
        have x2 : w4.cell? ⟨w.heap.size, 2, none⟩ = some (.int .i64 sleast) := by { rw [← hW]; clear hW; go_simp }
        have x3 : w4.cell? ⟨w.heap.size, 3, none⟩ = some (.int .i64 sa) := by { rw [← hW]; clear hW; go_simp }
        have x4 : w4.cell? ⟨w.heap.size, 4, none⟩ = some (.int .i64 sb) := by { rw [← hW]; clear hW; go_simp }
        have x5 : w4.cell? ⟨w.heap.size, 5, none⟩ = some (.int .i64 sc) := by { rw [← hW]; clear hW; go_simp }
        have x6 : w4.cell? ⟨w.heap.size, 6, none⟩ = some (.int .i64 sd) := by { rw [← hW]; clear hW; go_simp }
        have x7 : w4.cell? ⟨w.heap.size, 7, none⟩ = some (.slice ap n cp) := by { rw [← hW]; clear hW; go_simp }
        have y0 : w4.cell? ⟨w.heap.size + 1, 0, none⟩ = some (.string onm) := by { rw [← hW]; clear hW; go_simp }
        have y1 : w4.cell? ⟨w.heap.size + 1, 1, none⟩ = some (.int .i64 oper) := by { rw [← hW]; clear hW; go_simp }
        have y2 : w4.cell? ⟨w.heap.size + 1, 2, none⟩ = some (.int .i64 oleast) := by { rw [← hW]; clear hW; go_simp }
        have y3 : w4.cell? ⟨w.heap.size + 1, 3, none⟩ = some (.int .i64 oa) := by { rw [← hW]; clear hW; go_simp }
        have y4 : w4.cell? ⟨w.heap.size + 1, 4, none⟩ = some (.int .i64 ob) := by { rw [← hW]; clear hW; go_simp }
        have y5 : w4.cell? ⟨w.heap.size + 1, 5, none⟩ = some (.int .i64 oc) := by { rw [← hW]; clear hW; go_simp }
        have y6 : w4.cell? ⟨w.heap.size + 1, 6, none⟩ = some (.int .i64 od) := by { rw [← hW]; clear hW; go_simp }
        have y7 : w4.cell? ⟨w.heap.size + 1, 7, none⟩ = some (.slice bp m dp) := by { rw [← hW]; clear hW; go_simp }
        have r0 : w4.cell? ⟨w.heap.size + 2, 0, none⟩ = some (.int .i64 w0) := by { rw [← hW]; clear hW; go_simp }
        have r1 : w4.cell? ⟨w.heap.size + 2, 1, none⟩ = some (.int .i64 w1) := by { rw [← hW]; clear hW; go_simp }
        have lr : w.heap.size + 2 < w4.heap.size := by { rw [← hW]; clear hW; simp; done }
        have ly : w.heap.size + 1 < w4.heap.size := by omega
        have lx : w.heap.size < w4.heap.size := by omega
        have HB := Lib.hid hb4
        clear hW hb4
        refine (awake9_any _).mono ?_
        rintro e5 w5 ⟨rfl, hb5⟩
        have hzx := hb5.size
        have x0d : w5.cell? ⟨w.heap.size, 0, none⟩ = some (.string snm) := by { rw [cellB hb5 _ _ (by first | (simp; done) | (simp; omega) | omega)]; all_goals (first | assumption | go_simp) }; have x1d : w5.cell? ⟨w.heap.size, 1, none⟩ = some (.int .i64 sper) := by { rw [cellB hb5 _ _ (by first | (simp; done) | (simp; omega) | omega)]; all_goals (first | assumption | go_simp) }; have x2d : w5.cell? ⟨w.heap.size, 2, none⟩ = some (.int .i64 sleast) := by { rw [cellB hb5 _ _ (by first | (simp; done) | (simp; omega) | omega)]; all_goals (first | assumption | go_simp) }; have x3d : w5.cell? ⟨w.heap.size, 3, none⟩ = some (.int .i64 sa) := by { rw [cellB hb5 _ _ (by first | (simp; done) | (simp; omega) | omega)]; all_goals (first | assumption | go_simp) }; have x4d : w5.cell? ⟨w.heap.size, 4, none⟩ = some (.int .i64 sb) := by { rw [cellB hb5 _ _ (by first | (simp; done) | (simp; omega) | omega)]; all_goals (first | assumption | go_simp) }; have x5d : w5.cell? ⟨w.heap.size, 5, none⟩ = some (.int .i64 sc) := by { rw [cellB hb5 _ _ (by first | (simp; done) | (simp; omega) | omega)]; all_goals (first | assumption | go_simp) }; have x6d : w5.cell? ⟨w.heap.size, 6, none⟩ = some (.int .i64 sd) := by { rw [cellB hb5 _ _ (by first | (simp; done) | (simp; omega) | omega)]; all_goals (first | assumption | go_simp) }; have x7d : w5.cell? ⟨w.heap.size, 7, none⟩ = some (.slice ap n cp) := by { rw [cellB hb5 _ _ (by first | (simp; done) | (simp; omega) | omega)]; all_goals (first | assumption | go_simp) }; have y0d : w5.cell? ⟨w.heap.size + 1, 0, none⟩ = some (.string onm) := by { rw [cellB hb5 _ _ (by first | (simp; done) | (simp; omega) | omega)]; all_goals (first | assumption | go_simp) }; have y1d : w5.cell? ⟨w.heap.size + 1, 1, none⟩ = some (.int .i64 oper) := by { rw [cellB hb5 _ _ (by first | (simp; done) | (simp; omega) | omega)]; all_goals (first | assumption | go_simp) }; have y2d : w5.cell? ⟨w.heap.size + 1, 2, none⟩ = some (.int .i64 oleast) := by { rw [cellB hb5 _ _ (by first | (simp; done) | (simp; omega) | omega)]; all_goals (first | assumption | go_simp) }; have y3d : w5.cell? ⟨w.heap.size + 1, 3, none⟩ = some (.int .i64 oa) := by { rw [cellB hb5 _ _ (by first | (simp; done) | (simp; omega) | omega)]; all_goals (first | assumption | go_simp) }; have y4d : w5.cell? ⟨w.heap.size + 1, 4, none⟩ = some (.int .i64 ob) := by { rw [cellB hb5 _ _ (by first | (simp; done) | (simp; omega) | omega)]; all_goals (first | assumption | go_simp) }; have y5d : w5.cell? ⟨w.heap.size + 1, 5, none⟩ = some (.int .i64 oc) := by { rw [cellB hb5 _ _ (by first | (simp; done) | (simp; omega) | omega)]; all_goals (first | assumption | go_simp) }; have y6d : w5.cell? ⟨w.heap.size + 1, 6, none⟩ = some (.int .i64 od) := by { rw [cellB hb5 _ _ (by first | (simp; done) | (simp; omega) | omega)]; all_goals (first | assumption | go_simp) }; have y7d : w5.cell? ⟨w.heap.size + 1, 7, none⟩ = some (.slice bp m dp) := by { rw [cellB hb5 _ _ (by first | (simp; done) | (simp; omega) | omega)]; all_goals (first | assumption | go_simp) }; have r0d : w5.cell? ⟨w.heap.size + 2, 0, none⟩ = some (.int .i64 w0) := by { rw [cellB hb5 _ _ (by first | (simp; done) | (simp; omega) | omega)]; all_goals (first | assumption | go_simp) }; have r1d : w5.cell? ⟨w.heap.size + 2, 1, none⟩ = some (.int .i64 w1) := by { rw [cellB hb5 _ _ (by first | (simp; done) | (simp; omega) | omega)]; all_goals (first | assumption | go_simp) }; have lxd : w.heap.size < w5.heap.size := by { omega }; have lyd : w.heap.size + 1 < w5.heap.size := by { omega }; have lrd : w.heap.size + 2 < w5.heap.size := by { omega }
        have HB := Lib.hid (HB.out.trans (hb5.mono HB.out.size))
        clear x0 x1 x2 x3 x4 x5 x6 x7 y0 y1 y2 y3 y4 y5 y6 y7 r0 r1 lx ly lr hzx
        clear hb5
        go_wp2_with fail
        refine (HFS.out _).mono ?_
        rintro e6 w6 ⟨rfl, hb6⟩
        have hzx := hb6.size
        have x0 : w6.cell? ⟨w.heap.size, 0, none⟩ = some (.string snm) := by { rw [cellB hb6 _ _ (by first | (simp; done) | (simp; omega) | omega)]; all_goals (first | assumption | go_simp) }; have x1 : w6.cell? ⟨w.heap.size, 1, none⟩ = some (.int .i64 sper) := by { rw [cellB hb6 _ _ (by first | (simp; done) | (simp; omega) | omega)]; all_goals (first | assumption | go_simp) }; have x2 : w6.cell? ⟨w.heap.size, 2, none⟩ = some (.int .i64 sleast) := by { rw [cellB hb6 _ _ (by first | (simp; done) | (simp; omega) | omega)]; all_goals (first | assumption | go_simp) }; have x3 : w6.cell? ⟨w.heap.size, 3, none⟩ = some (.int .i64 sa) := by { rw [cellB hb6 _ _ (by first | (simp; done) | (simp; omega) | omega)]; all_goals (first | assumption | go_simp) }; have x4 : w6.cell? ⟨w.heap.size, 4, none⟩ = some (.int .i64 sb) := by { rw [cellB hb6 _ _ (by first | (simp; done) | (simp; omega) | omega)]; all_goals (first | assumption | go_simp) }; have x5 : w6.cell? ⟨w.heap.size, 5, none⟩ = some (.int .i64 sc) := by { rw [cellB hb6 _ _ (by first | (simp; done) | (simp; omega) | omega)]; all_goals (first | assumption | go_simp) }; have x6 : w6.cell? ⟨w.heap.size, 6, none⟩ = some (.int .i64 sd) := by { rw [cellB hb6 _ _ (by first | (simp; done) | (simp; omega) | omega)]; all_goals (first | assumption | go_simp) }; have x7 : w6.cell? ⟨w.heap.size, 7, none⟩ = some (.slice ap n cp) := by { rw [cellB hb6 _ _ (by first | (simp; done) | (simp; omega) | omega)]; all_goals (first | assumption | go_simp) }; have y0 : w6.cell? ⟨w.heap.size + 1, 0, none⟩ = some (.string onm) := by { rw [cellB hb6 _ _ (by first | (simp; done) | (simp; omega) | omega)]; all_goals (first | assumption | go_simp) }; have y1 : w6.cell? ⟨w.heap.size + 1, 1, none⟩ = some (.int .i64 oper) := by { rw [cellB hb6 _ _ (by first | (simp; done) | (simp; omega) | omega)]; all_goals (first | assumption | go_simp) }; have y2 : w6.cell? ⟨w.heap.size + 1, 2, none⟩ = some (.int .i64 oleast) := by { rw [cellB hb6 _ _ (by first | (simp; done) | (simp; omega) | omega)]; all_goals (first | assumption | go_simp) }; have y3 : w6.cell? ⟨w.heap.size + 1, 3, none⟩ = some (.int .i64 oa) := by { rw [cellB hb6 _ _ (by first | (simp; done) | (simp; omega) | omega)]; all_goals (first | assumption | go_simp) }; have y4 : w6.cell? ⟨w.heap.size + 1, 4, none⟩ = some (.int .i64 ob) := by { rw [cellB hb6 _ _ (by first | (simp; done) | (simp; omega) | omega)]; all_goals (first | assumption | go_simp) }; have y5 : w6.cell? ⟨w.heap.size + 1, 5, none⟩ = some (.int .i64 oc) := by { rw [cellB hb6 _ _ (by first | (simp; done) | (simp; omega) | omega)]; all_goals (first | assumption | go_simp) }; have y6 : w6.cell? ⟨w.heap.size + 1, 6, none⟩ = some (.int .i64 od) := by { rw [cellB hb6 _ _ (by first | (simp; done) | (simp; omega) | omega)]; all_goals (first | assumption | go_simp) }; have y7 : w6.cell? ⟨w.heap.size + 1, 7, none⟩ = some (.slice bp m dp) := by { rw [cellB hb6 _ _ (by first | (simp; done) | (simp; omega) | omega)]; all_goals (first | assumption | go_simp) }; have r0 : w6.cell? ⟨w.heap.size + 2, 0, none⟩ = some (.int .i64 w0) := by { rw [cellB hb6 _ _ (by first | (simp; done) | (simp; omega) | omega)]; all_goals (first | assumption | go_simp) }; have r1 : w6.cell? ⟨w.heap.size + 2, 1, none⟩ = some (.int .i64 w1) := by { rw [cellB hb6 _ _ (by first | (simp; done) | (simp; omega) | omega)]; all_goals (first | assumption | go_simp) }; have lx : w.heap.size < w6.heap.size := by { omega }; have ly : w.heap.size + 1 < w6.heap.size := by { omega }; have lr : w.heap.size + 2 < w6.heap.size := by { omega }
        have HB := Lib.hid (HB.out.trans (hb6.mono HB.out.size))
        clear x0d x1d x2d x3d x4d x5d x6d x7d y0d y1d y2d y3d y4d y5d y6d y7d r0d r1d lxd lyd lrd hzx
        clear hb6
        go_wp2_with fail
        refine (HFO.out _).mono ?_
        rintro e7 w7 ⟨rfl, hb7⟩
        have hzx := hb7.size
        have x0d : w7.cell? ⟨w.heap.size, 0, none⟩ = some (.string snm) := by { rw [cellB hb7 _ _ (by first | (simp; done) | (simp; omega) | omega)]; all_goals (first | assumption | go_simp) }; have x1d : w7.cell? ⟨w.heap.size, 1, none⟩ = some (.int .i64 sper) := by { rw [cellB hb7 _ _ (by first | (simp; done) | (simp; omega) | omega)]; all_goals (first | assumption | go_simp) }; have x2d : w7.cell? ⟨w.heap.size, 2, none⟩ = some (.int .i64 sleast) := by { rw [cellB hb7 _ _ (by first | (simp; done) | (simp; omega) | omega)]; all_goals (first | assumption | go_simp) }; have x3d : w7.cell? ⟨w.heap.size, 3, none⟩ = some (.int .i64 sa) := by { rw [cellB hb7 _ _ (by first | (simp; done) | (simp; omega) | omega)]; all_goals (first | assumption | go_simp) }; have x4d : w7.cell? ⟨w.heap.size, 4, none⟩ = some (.int .i64 sb) := by { rw [cellB hb7 _ _ (by first | (simp; done) | (simp; omega) | omega)]; all_goals (first | assumption | go_simp) }; have x5d : w7.cell? ⟨w.heap.size, 5, none⟩ = some (.int .i64 sc) := by { rw [cellB hb7 _ _ (by first | (simp; done) | (simp; omega) | omega)]; all_goals (first | assumption | go_simp) }; have x6d : w7.cell? ⟨w.heap.size, 6, none⟩ = some (.int .i64 sd) := by { rw [cellB hb7 _ _ (by first | (simp; done) | (simp; omega) | omega)]; all_goals (first | assumption | go_simp) }; have x7d : w7.cell? ⟨w.heap.size, 7, none⟩ = some (.slice ap n cp) := by { rw [cellB hb7 _ _ (by first | (simp; done) | (simp; omega) | omega)]; all_goals (first | assumption | go_simp) }; have y0d : w7.cell? ⟨w.heap.size + 1, 0, none⟩ = some (.string onm) := by { rw [cellB hb7 _ _ (by first | (simp; done) | (simp; omega) | omega)]; all_goals (first | assumption | go_simp) }; have y1d : w7.cell? ⟨w.heap.size + 1, 1, none⟩ = some (.int .i64 oper) := by { rw [cellB hb7 _ _ (by first | (simp; done) | (simp; omega) | omega)]; all_goals (first | assumption | go_simp) }; have y2d : w7.cell? ⟨w.heap.size + 1, 2, none⟩ = some (.int .i64 oleast) := by { rw [cellB hb7 _ _ (by first | (simp; done) | (simp; omega) | omega)]; all_goals (first | assumption | go_simp) }; have y3d : w7.cell? ⟨w.heap.size + 1, 3, none⟩ = some (.int .i64 oa) := by { rw [cellB hb7 _ _ (by first | (simp; done) | (simp; omega) | omega)]; all_goals (first | assumption | go_simp) }; have y4d : w7.cell? ⟨w.heap.size + 1, 4, none⟩ = some (.int .i64 ob) := by { rw [cellB hb7 _ _ (by first | (simp; done) | (simp; omega) | omega)]; all_goals (first | assumption | go_simp) }; have y5d : w7.cell? ⟨w.heap.size + 1, 5, none⟩ = some (.int .i64 oc) := by { rw [cellB hb7 _ _ (by first | (simp; done) | (simp; omega) | omega)]; all_goals (first | assumption | go_simp) }; have y6d : w7.cell? ⟨w.heap.size + 1, 6, none⟩ = some (.int .i64 od) := by { rw [cellB hb7 _ _ (by first | (simp; done) | (simp; omega) | omega)]; all_goals (first | assumption | go_simp) }; have y7d : w7.cell? ⟨w.heap.size + 1, 7, none⟩ = some (.slice bp m dp) := by { rw [cellB hb7 _ _ (by first | (simp; done) | (simp; omega) | omega)]; all_goals (first | assumption | go_simp) }; have r0d : w7.cell? ⟨w.heap.size + 2, 0, none⟩ = some (.int .i64 w0) := by { rw [cellB hb7 _ _ (by first | (simp; done) | (simp; omega) | omega)]; all_goals (first | assumption | go_simp) }; have r1d : w7.cell? ⟨w.heap.size + 2, 1, none⟩ = some (.int .i64 w1) := by { rw [cellB hb7 _ _ (by first | (simp; done) | (simp; omega) | omega)]; all_goals (first | assumption | go_simp) }; have lxd : w.heap.size < w7.heap.size := by { omega }; have lyd : w.heap.size + 1 < w7.heap.size := by { omega }; have lrd : w.heap.size + 2 < w7.heap.size := by { omega }
        have HB := Lib.hid (HB.out.trans (hb7.mono HB.out.size))
        clear x0 x1 x2 x3 x4 x5 x6 x7 y0 y1 y2 y3 y4 y5 y6 y7 r0 r1 lx ly lr hzx
        clear hb7
        go_wp2_with fail
        refine (HOE.out _ HB.out).mono ?_
        rintro e8 w8 ⟨rfl, hb8⟩
        have hzx := hb8.size
        have x0 : w8.cell? ⟨w.heap.size, 0, none⟩ = some (.string snm) := by { rw [cellB hb8 _ _ (by first | (simp; done) | (simp; omega) | omega)]; all_goals (first | assumption | go_simp) }; have x1 : w8.cell? ⟨w.heap.size, 1, none⟩ = some (.int .i64 sper) := by { rw [cellB hb8 _ _ (by first | (simp; done) | (simp; omega) | omega)]; all_goals (first | assumption | go_simp) }; have x2 : w8.cell? ⟨w.heap.size, 2, none⟩ = some (.int .i64 sleast) := by { rw [cellB hb8 _ _ (by first | (simp; done) | (simp; omega) | omega)]; all_goals (first | assumption | go_simp) }; have x3 : w8.cell? ⟨w.heap.size, 3, none⟩ = some (.int .i64 sa) := by { rw [cellB hb8 _ _ (by first | (simp; done) | (simp; omega) | omega)]; all_goals (first | assumption | go_simp) }; have x4 : w8.cell? ⟨w.heap.size, 4, none⟩ = some (.int .i64 sb) := by { rw [cellB hb8 _ _ (by first | (simp; done) | (simp; omega) | omega)]; all_goals (first | assumption | go_simp) }; have x5 : w8.cell? ⟨w.heap.size, 5, none⟩ = some (.int .i64 sc) := by { rw [cellB hb8 _ _ (by first | (simp; done) | (simp; omega) | omega)]; all_goals (first | assumption | go_simp) }; have x6 : w8.cell? ⟨w.heap.size, 6, none⟩ = some (.int .i64 sd) := by { rw [cellB hb8 _ _ (by first | (simp; done) | (simp; omega) | omega)]; all_goals (first | assumption | go_simp) }; have x7 : w8.cell? ⟨w.heap.size, 7, none⟩ = some (.slice ap n cp) := by { rw [cellB hb8 _ _ (by first | (simp; done) | (simp; omega) | omega)]; all_goals (first | assumption | go_simp) }; have y0 : w8.cell? ⟨w.heap.size + 1, 0, none⟩ = some (.string onm) := by { rw [cellB hb8 _ _ (by first | (simp; done) | (simp; omega) | omega)]; all_goals (first | assumption | go_simp) }; have y1 : w8.cell? ⟨w.heap.size + 1, 1, none⟩ = some (.int .i64 oper) := by { rw [cellB hb8 _ _ (by first | (simp; done) | (simp; omega) | omega)]; all_goals (first | assumption | go_simp) }; have y2 : w8.cell? ⟨w.heap.size + 1, 2, none⟩ = some (.int .i64 oleast) := by { rw [cellB hb8 _ _ (by first | (simp; done) | (simp; omega) | omega)]; all_goals (first | assumption | go_simp) }; have y3 : w8.cell? ⟨w.heap.size + 1, 3, none⟩ = some (.int .i64 oa) := by { rw [cellB hb8 _ _ (by first | (simp; done) | (simp; omega) | omega)]; all_goals (first | assumption | go_simp) }; have y4 : w8.cell? ⟨w.heap.size + 1, 4, none⟩ = some (.int .i64 ob) := by { rw [cellB hb8 _ _ (by first | (simp; done) | (simp; omega) | omega)]; all_goals (first | assumption | go_simp) }; have y5 : w8.cell? ⟨w.heap.size + 1, 5, none⟩ = some (.int .i64 oc) := by { rw [cellB hb8 _ _ (by first | (simp; done) | (simp; omega) | omega)]; all_goals (first | assumption | go_simp) }; have y6 : w8.cell? ⟨w.heap.size + 1, 6, none⟩ = some (.int .i64 od) := by { rw [cellB hb8 _ _ (by first | (simp; done) | (simp; omega) | omega)]; all_goals (first | assumption | go_simp) }; have y7 : w8.cell? ⟨w.heap.size + 1, 7, none⟩ = some (.slice bp m dp) := by { rw [cellB hb8 _ _ (by first | (simp; done) | (simp; omega) | omega)]; all_goals (first | assumption | go_simp) }; have r0 : w8.cell? ⟨w.heap.size + 2, 0, none⟩ = some (.int .i64 w0) := by { rw [cellB hb8 _ _ (by first | (simp; done) | (simp; omega) | omega)]; all_goals (first | assumption | go_simp) }; have r1 : w8.cell? ⟨w.heap.size + 2, 1, none⟩ = some (.int .i64 w1) := by { rw [cellB hb8 _ _ (by first | (simp; done) | (simp; omega) | omega)]; all_goals (first | assumption | go_simp) }; have lx : w.heap.size < w8.heap.size := by { omega }; have ly : w.heap.size + 1 < w8.heap.size := by { omega }; have lr : w.heap.size + 2 < w8.heap.size := by { omega }
        have HB := Lib.hid (HB.out.trans (hb8.mono HB.out.size))
        clear x0d x1d x2d x3d x4d x5d x6d x7d y0d y1d y2d y3d y4d y5d y6d y7d r0d r1d lxd lyd lrd hzx
        clear hb8
        go_wp2_with fail
        refine (HX.out _).mono ?_
        rintro e9 w9 ⟨rfl, rfl⟩
        go_wp2
        go_ret
        exact ⟨ret_bool (by simp), HB.out⟩
      · have s1 := bne_iff_ne.2 h3
        clear h h1 h2 h3
        go_enter Tryz.func6, Tryz.ntmps6
        go_wp2_with fail
        generalize hW : World.alloc _ _ = w4
        have hb4 : Below w.heap.size w w4 := by rw [← hW]; (repeat' (first | (with_reducible exact Below.refl _ _) | (with_reducible assumption) | (with_reducible refine Below.drewN ?_ _) | (with_reducible refine Below.alloc ?_ ?_ _) | (with_reducible refine Below.drew ?_) | (with_reducible refine Below.setCell ?_ ?_ _) | (with_reducible refine Below.step (by assumption) ?_ ?_) | (with_reducible exact And.left (by assumption)) | go_size))
        have x0 : w4.cell? ⟨w.heap.size, 0, none⟩ = some (.string snm) := by { rw [← hW]; clear hW; go_simp }
        have x1 : w4.cell? ⟨w.heap.size, 1, none⟩ = some (.int .i64 sper) := by { rw [← hW]; clear hW; go_simp }
        have x2 : w4.cell? ⟨w.heap.size, 2, none⟩ = some (.int .i64 sleast) := by { rw [← hW]; clear hW; go_simp }
        have x3 : w4.cell? ⟨w.heap.size, 3, none⟩ = some (.int .i64 sa) := by { rw [← hW]; clear hW; go_simp }
        have x4 : w4.cell? ⟨w.heap.size, 4, none⟩ = some (.int .i64 sb) := by { rw [← hW]; clear hW; go_simp }
        have x5 : w4.cell? ⟨w.heap.size, 5, none⟩ = some (.int .i64 sc) := by { rw [← hW]; clear hW; go_simp }
        have x6 : w4.cell? ⟨w.heap.size, 6, none⟩ = some (.int .i64 sd) := by { rw [← hW]; clear hW; go_simp }
        have x7 : w4.cell? ⟨w.heap.size, 7, none⟩ = some (.slice ap n cp) := by { rw [← hW]; clear hW; go_simp }
        have y0 : w4.cell? ⟨w.heap.size + 1, 0, none⟩ = some (.string onm) := by { rw [← hW]; clear hW; go_simp }
        have y1 : w4.cell? ⟨w.heap.size + 1, 1, none⟩ = some (.int .i64 oper) := by { rw [← hW]; clear hW; go_simp }
        have y2 : w4.cell? ⟨w.heap.size + 1, 2, none⟩ = some (.int .i64 oleast) := by { rw [← hW]; clear hW; go_simp }
        have y3 : w4.cell? ⟨w.heap.size + 1, 3, none⟩ = some (.int .i64 oa) := by { rw [← hW]; clear hW; go_simp }
        have y4 : w4.cell? ⟨w.heap.size + 1, 4, none⟩ = some (.int .i64 ob) := by { rw [← hW]; clear hW; go_simp }
        have y5 : w4.cell? ⟨w.heap.size + 1, 5, none⟩ = some (.int .i64 oc) := by { rw [← hW]; clear hW; go_simp }
        have y6 : w4.cell? ⟨w.heap.size + 1, 6, none⟩ = some (.int .i64 od) := by { rw [← hW]; clear hW; go_simp }
        have y7 : w4.cell? ⟨w.heap.size + 1, 7, none⟩ = some (.slice bp m dp) := by { rw [← hW]; clear hW; go_simp }
        have r0 : w4.cell? ⟨w.heap.size + 2, 0, none⟩ = some (.int .i64 w0) := by { rw [← hW]; clear hW; go_simp }
        have r1 : w4.cell? ⟨w.heap.size + 2, 1, none⟩ = some (.int .i64 w1) := by { rw [← hW]; clear hW; go_simp }
        have lr : w.heap.size + 2 < w4.heap.size := by { rw [← hW]; clear hW; simp; done }
        have ly : w.heap.size + 1 < w4.heap.size := by omega
        have lx : w.heap.size < w4.heap.size := by omega
        have HB := Lib.hid hb4
        clear hW hb4
        refine (awake9_any _).mono ?_
        rintro e5 w5 ⟨rfl, hb5⟩
        have hzx := hb5.size
        have x0d : w5.cell? ⟨w.heap.size, 0, none⟩ = some (.string snm) := by { rw [cellB hb5 _ _ (by first | (simp; done) | (simp; omega) | omega)]; all_goals (first | assumption | go_simp) }; have x1d : w5.cell? ⟨w.heap.size, 1, none⟩ = some (.int .i64 sper) := by { rw [cellB hb5 _ _ (by first | (simp; done) | (simp; omega) | omega)]; all_goals (first | assumption | go_simp) }; have x2d : w5.cell? ⟨w.heap.size, 2, none⟩ = some (.int .i64 sleast) := by { rw [cellB hb5 _ _ (by first | (simp; done) | (simp; omega) | omega)]; all_goals (first | assumption | go_simp) }; have x3d : w5.cell? ⟨w.heap.size, 3, none⟩ = some (.int .i64 sa) := by { rw [cellB hb5 _ _ (by first | (simp; done) | (simp; omega) | omega)]; all_goals (first | assumption | go_simp) }; have x4d : w5.cell? ⟨w.heap.size, 4, none⟩ = some (.int .i64 sb) := by { rw [cellB hb5 _ _ (by first | (simp; done) | (simp; omega) | omega)]; all_goals (first | assumption | go_simp) }; have x5d : w5.cell? ⟨w.heap.size, 5, none⟩ = some (.int .i64 sc) := by { rw [cellB hb5 _ _ (by first | (simp; done) | (simp; omega) | omega)]; all_goals (first | assumption | go_simp) }; have x6d : w5.cell? ⟨w.heap.size, 6, none⟩ = some (.int .i64 sd) := by { rw [cellB hb5 _ _ (by first | (simp; done) | (simp; omega) | omega)]; all_goals (first | assumption | go_simp) }; have x7d : w5.cell? ⟨w.heap.size, 7, none⟩ = some (.slice ap n cp) := by { rw [cellB hb5 _ _ (by first | (simp; done) | (simp; omega) | omega)]; all_goals (first | assumption | go_simp) }; have y0d : w5.cell? ⟨w.heap.size + 1, 0, none⟩ = some (.string onm) := by { rw [cellB hb5 _ _ (by first | (simp; done) | (simp; omega) | omega)]; all_goals (first | assumption | go_simp) }; have y1d : w5.cell? ⟨w.heap.size + 1, 1, none⟩ = some (.int .i64 oper) := by { rw [cellB hb5 _ _ (by first | (simp; done) | (simp; omega) | omega)]; all_goals (first | assumption | go_simp) }; have y2d : w5.cell? ⟨w.heap.size + 1, 2, none⟩ = some (.int .i64 oleast) := by { rw [cellB hb5 _ _ (by first | (simp; done) | (simp; omega) | omega)]; all_goals (first | assumption | go_simp) }; have y3d : w5.cell? ⟨w.heap.size + 1, 3, none⟩ = some (.int .i64 oa) := by { rw [cellB hb5 _ _ (by first | (simp; done) | (simp; omega) | omega)]; all_goals (first | assumption | go_simp) }; have y4d : w5.cell? ⟨w.heap.size + 1, 4, none⟩ = some (.int .i64 ob) := by { rw [cellB hb5 _ _ (by first | (simp; done) | (simp; omega) | omega)]; all_goals (first | assumption | go_simp) }; have y5d : w5.cell? ⟨w.heap.size + 1, 5, none⟩ = some (.int .i64 oc) := by { rw [cellB hb5 _ _ (by first | (simp; done) | (simp; omega) | omega)]; all_goals (first | assumption | go_simp) }; have y6d : w5.cell? ⟨w.heap.size + 1, 6, none⟩ = some (.int .i64 od) := by { rw [cellB hb5 _ _ (by first | (simp; done) | (simp; omega) | omega)]; all_goals (first | assumption | go_simp) }; have y7d : w5.cell? ⟨w.heap.size + 1, 7, none⟩ = some (.slice bp m dp) := by { rw [cellB hb5 _ _ (by first | (simp; done) | (simp; omega) | omega)]; all_goals (first | assumption | go_simp) }; have r0d : w5.cell? ⟨w.heap.size + 2, 0, none⟩ = some (.int .i64 w0) := by { rw [cellB hb5 _ _ (by first | (simp; done) | (simp; omega) | omega)]; all_goals (first | assumption | go_simp) }; have r1d : w5.cell? ⟨w.heap.size + 2, 1, none⟩ = some (.int .i64 w1) := by { rw [cellB hb5 _ _ (by first | (simp; done) | (simp; omega) | omega)]; all_goals (first | assumption | go_simp) }; have lxd : w.heap.size < w5.heap.size := by { omega }; have lyd : w.heap.size + 1 < w5.heap.size := by { omega }; have lrd : w.heap.size + 2 < w5.heap.size := by { omega }
        have HB := Lib.hid (HB.out.trans (hb5.mono HB.out.size))
        clear x0 x1 x2 x3 x4 x5 x6 x7 y0 y1 y2 y3 y4 y5 y6 y7 r0 r1 lx ly lr hzx
        clear hb5
        go_wp2_with fail
        refine (HFS.out _).mono ?_
        rintro e6 w6 ⟨rfl, hb6⟩
        have hzx := hb6.size
        have x0 : w6.cell? ⟨w.heap.size, 0, none⟩ = some (.string snm) := by { rw [cellB hb6 _ _ (by first | (simp; done) | (simp; omega) | omega)]; all_goals (first | assumption | go_simp) }; have x1 : w6.cell? ⟨w.heap.size, 1, none⟩ = some (.int .i64 sper) := by { rw [cellB hb6 _ _ (by first | (simp; done) | (simp; omega) | omega)]; all_goals (first | assumption | go_simp) }; have x2 : w6.cell? ⟨w.heap.size, 2, none⟩ = some (.int .i64 sleast) := by { rw [cellB hb6 _ _ (by first | (simp; done) | (simp; omega) | omega)]; all_goals (first | assumption | go_simp) }; have x3 : w6.cell? ⟨w.heap.size, 3, none⟩ = some (.int .i64 sa) := by { rw [cellB hb6 _ _ (by first | (simp; done) | (simp; omega) | omega)]; all_goals (first | assumption | go_simp) }; have x4 : w6.cell? ⟨w.heap.size, 4, none⟩ = some (.int .i64 sb) := by { rw [cellB hb6 _ _ (by first | (simp; done) | (simp; omega) | omega)]; all_goals (first | assumption | go_simp) }; have x5 : w6.cell? ⟨w.heap.size, 5, none⟩ = some (.int .i64 sc) := by { rw [cellB hb6 _ _ (by first | (simp; done) | (simp; omega) | omega)]; all_goals (first | assumption | go_simp) }; have x6 : w6.cell? ⟨w.heap.size, 6, none⟩ = some (.int .i64 sd) := by { rw [cellB hb6 _ _ (by first | (simp; done) | (simp; omega) | omega)]; all_goals (first | assumption | go_simp) }; have x7 : w6.cell? ⟨w.heap.size, 7, none⟩ = some (.slice ap n cp) := by { rw [cellB hb6 _ _ (by first | (simp; done) | (simp; omega) | omega)]; all_goals (first | assumption | go_simp) }; have y0 : w6.cell? ⟨w.heap.size + 1, 0, none⟩ = some (.string onm) := by { rw [cellB hb6 _ _ (by first | (simp; done) | (simp; omega) | omega)]; all_goals (first | assumption | go_simp) }; have y1 : w6.cell? ⟨w.heap.size + 1, 1, none⟩ = some (.int .i64 oper) := by { rw [cellB hb6 _ _ (by first | (simp; done) | (simp; omega) | omega)]; all_goals (first | assumption | go_simp) }; have y2 : w6.cell? ⟨w.heap.size + 1, 2, none⟩ = some (.int .i64 oleast) := by { rw [cellB hb6 _ _ (by first | (simp; done) | (simp; omega) | omega)]; all_goals (first | assumption | go_simp) }; have y3 : w6.cell? ⟨w.heap.size + 1, 3, none⟩ = some (.int .i64 oa) := by { rw [cellB hb6 _ _ (by first | (simp; done) | (simp; omega) | omega)]; all_goals (first | assumption | go_simp) }; have y4 : w6.cell? ⟨w.heap.size + 1, 4, none⟩ = some (.int .i64 ob) := by { rw [cellB hb6 _ _ (by first | (simp; done) | (simp; omega) | omega)]; all_goals (first | assumption | go_simp) }; have y5 : w6.cell? ⟨w.heap.size + 1, 5, none⟩ = some (.int .i64 oc) := by { rw [cellB hb6 _ _ (by first | (simp; done) | (simp; omega) | omega)]; all_goals (first | assumption | go_simp) }; have y6 : w6.cell? ⟨w.heap.size + 1, 6, none⟩ = some (.int .i64 od) := by { rw [cellB hb6 _ _ (by first | (simp; done) | (simp; omega) | omega)]; all_goals (first | assumption | go_simp) }; have y7 : w6.cell? ⟨w.heap.size + 1, 7, none⟩ = some (.slice bp m dp) := by { rw [cellB hb6 _ _ (by first | (simp; done) | (simp; omega) | omega)]; all_goals (first | assumption | go_simp) }; have r0 : w6.cell? ⟨w.heap.size + 2, 0, none⟩ = some (.int .i64 w0) := by { rw [cellB hb6 _ _ (by first | (simp; done) | (simp; omega) | omega)]; all_goals (first | assumption | go_simp) }; have r1 : w6.cell? ⟨w.heap.size + 2, 1, none⟩ = some (.int .i64 w1) := by { rw [cellB hb6 _ _ (by first | (simp; done) | (simp; omega) | omega)]; all_goals (first | assumption | go_simp) }; have lx : w.heap.size < w6.heap.size := by { omega }; have ly : w.heap.size + 1 < w6.heap.size := by { omega }; have lr : w.heap.size + 2 < w6.heap.size := by { omega }
        have HB := Lib.hid (HB.out.trans (hb6.mono HB.out.size))
        clear x0d x1d x2d x3d x4d x5d x6d x7d y0d y1d y2d y3d y4d y5d y6d y7d r0d r1d lxd lyd lrd hzx
        clear hb6
        go_wp2_with fail
        refine (HFO.out _).mono ?_
        rintro e7 w7 ⟨rfl, hb7⟩
        have hzx := hb7.size
        have x0d : w7.cell? ⟨w.heap.size, 0, none⟩ = some (.string snm) := by { rw [cellB hb7 _ _ (by first | (simp; done) | (simp; omega) | omega)]; all_goals (first | assumption | go_simp) }; have x1d : w7.cell? ⟨w.heap.size, 1, none⟩ = some (.int .i64 sper) := by { rw [cellB hb7 _ _ (by first | (simp; done) | (simp; omega) | omega)]; all_goals (first | assumption | go_simp) }; have x2d : w7.cell? ⟨w.heap.size, 2, none⟩ = some (.int .i64 sleast) := by { rw [cellB hb7 _ _ (by first | (simp; done) | (simp; omega) | omega)]; all_goals (first | assumption | go_simp) }; have x3d : w7.cell? ⟨w.heap.size, 3, none⟩ = some (.int .i64 sa) := by { rw [cellB hb7 _ _ (by first | (simp; done) | (simp; omega) | omega)]; all_goals (first | assumption | go_simp) }; have x4d : w7.cell? ⟨w.heap.size, 4, none⟩ = some (.int .i64 sb) := by { rw [cellB hb7 _ _ (by first | (simp; done) | (simp; omega) | omega)]; all_goals (first | assumption | go_simp) }; have x5d : w7.cell? ⟨w.heap.size, 5, none⟩ = some (.int .i64 sc) := by { rw [cellB hb7 _ _ (by first | (simp; done) | (simp; omega) | omega)]; all_goals (first | assumption | go_simp) }; have x6d : w7.cell? ⟨w.heap.size, 6, none⟩ = some (.int .i64 sd) := by { rw [cellB hb7 _ _ (by first | (simp; done) | (simp; omega) | omega)]; all_goals (first | assumption | go_simp) }; have x7d : w7.cell? ⟨w.heap.size, 7, none⟩ = some (.slice ap n cp) := by { rw [cellB hb7 _ _ (by first | (simp; done) | (simp; omega) | omega)]; all_goals (first | assumption | go_simp) }; have y0d : w7.cell? ⟨w.heap.size + 1, 0, none⟩ = some (.string onm) := by { rw [cellB hb7 _ _ (by first | (simp; done) | (simp; omega) | omega)]; all_goals (first | assumption | go_simp) }; have y1d : w7.cell? ⟨w.heap.size + 1, 1, none⟩ = some (.int .i64 oper) := by { rw [cellB hb7 _ _ (by first | (simp; done) | (simp; omega) | omega)]; all_goals (first | assumption | go_simp) }; have y2d : w7.cell? ⟨w.heap.size + 1, 2, none⟩ = some (.int .i64 oleast) := by { rw [cellB hb7 _ _ (by first | (simp; done) | (simp; omega) | omega)]; all_goals (first | assumption | go_simp) }; have y3d : w7.cell? ⟨w.heap.size + 1, 3, none⟩ = some (.int .i64 oa) := by { rw [cellB hb7 _ _ (by first | (simp; done) | (simp; omega) | omega)]; all_goals (first | assumption | go_simp) }; have y4d : w7.cell? ⟨w.heap.size + 1, 4, none⟩ = some (.int .i64 ob) := by { rw [cellB hb7 _ _ (by first | (simp; done) | (simp; omega) | omega)]; all_goals (first | assumption | go_simp) }; have y5d : w7.cell? ⟨w.heap.size + 1, 5, none⟩ = some (.int .i64 oc) := by { rw [cellB hb7 _ _ (by first | (simp; done) | (simp; omega) | omega)]; all_goals (first | assumption | go_simp) }; have y6d : w7.cell? ⟨w.heap.size + 1, 6, none⟩ = some (.int .i64 od) := by { rw [cellB hb7 _ _ (by first | (simp; done) | (simp; omega) | omega)]; all_goals (first | assumption | go_simp) }; have y7d : w7.cell? ⟨w.heap.size + 1, 7, none⟩ = some (.slice bp m dp) := by { rw [cellB hb7 _ _ (by first | (simp; done) | (simp; omega) | omega)]; all_goals (first | assumption | go_simp) }; have r0d : w7.cell? ⟨w.heap.size + 2, 0, none⟩ = some (.int .i64 w0) := by { rw [cellB hb7 _ _ (by first | (simp; done) | (simp; omega) | omega)]; all_goals (first | assumption | go_simp) }; have r1d : w7.cell? ⟨w.heap.size + 2, 1, none⟩ = some (.int .i64 w1) := by { rw [cellB hb7 _ _ (by first | (simp; done) | (simp; omega) | omega)]; all_goals (first | assumption | go_simp) }; have lxd : w.heap.size < w7.heap.size := by { omega }; have lyd : w.heap.size + 1 < w7.heap.size := by { omega }; have lrd : w.heap.size + 2 < w7.heap.size := by { omega }
        have HB := Lib.hid (HB.out.trans (hb7.mono HB.out.size))
        clear x0 x1 x2 x3 x4 x5 x6 x7 y0 y1 y2 y3 y4 y5 y6 y7 r0 r1 lx ly lr hzx
        clear hb7
        go_wp2_with fail
        refine (HOE.out _ HB.out).mono ?_
        rintro e8 w8 ⟨rfl, hb8⟩
        have hzx := hb8.size
        have x0 : w8.cell? ⟨w.heap.size, 0, none⟩ = some (.string snm) := by { rw [cellB hb8 _ _ (by first | (simp; done) | (simp; omega) | omega)]; all_goals (first | assumption | go_simp) }; have x1 : w8.cell? ⟨w.heap.size, 1, none⟩ = some (.int .i64 sper) := by { rw [cellB hb8 _ _ (by first | (simp; done) | (simp; omega) | omega)]; all_goals (first | assumption | go_simp) }; have x2 : w8.cell? ⟨w.heap.size, 2, none⟩ = some (.int .i64 sleast) := by { rw [cellB hb8 _ _ (by first | (simp; done) | (simp; omega) | omega)]; all_goals (first | assumption | go_simp) }; have x3 : w8.cell? ⟨w.heap.size, 3, none⟩ = some (.int .i64 sa) := by { rw [cellB hb8 _ _ (by first | (simp; done) | (simp; omega) | omega)]; all_goals (first | assumption | go_simp) }; have x4 : w8.cell? ⟨w.heap.size, 4, none⟩ = some (.int .i64 sb) := by { rw [cellB hb8 _ _ (by first | (simp; done) | (simp; omega) | omega)]; all_goals (first | assumption | go_simp) }; have x5 : w8.cell? ⟨w.heap.size, 5, none⟩ = some (.int .i64 sc) := by { rw [cellB hb8 _ _ (by first | (simp; done) | (simp; omega) | omega)]; all_goals (first | assumption | go_simp) }; have x6 : w8.cell? ⟨w.heap.size, 6, none⟩ = some (.int .i64 sd) := by { rw [cellB hb8 _ _ (by first | (simp; done) | (simp; omega) | omega)]; all_goals (first | assumption | go_simp) }; have x7 : w8.cell? ⟨w.heap.size, 7, none⟩ = some (.slice ap n cp) := by { rw [cellB hb8 _ _ (by first | (simp; done) | (simp; omega) | omega)]; all_goals (first | assumption | go_simp) }; have y0 : w8.cell? ⟨w.heap.size + 1, 0, none⟩ = some (.string onm) := by { rw [cellB hb8 _ _ (by first | (simp; done) | (simp; omega) | omega)]; all_goals (first | assumption | go_simp) }; have y1 : w8.cell? ⟨w.heap.size + 1, 1, none⟩ = some (.int .i64 oper) := by { rw [cellB hb8 _ _ (by first | (simp; done) | (simp; omega) | omega)]; all_goals (first | assumption | go_simp) }; have y2 : w8.cell? ⟨w.heap.size + 1, 2, none⟩ = some (.int .i64 oleast) := by { rw [cellB hb8 _ _ (by first | (simp; done) | (simp; omega) | omega)]; all_goals (first | assumption | go_simp) }; have y3 : w8.cell? ⟨w.heap.size + 1, 3, none⟩ = some (.int .i64 oa) := by { rw [cellB hb8 _ _ (by first | (simp; done) | (simp; omega) | omega)]; all_goals (first | assumption | go_simp) }; have y4 : w8.cell? ⟨w.heap.size + 1, 4, none⟩ = some (.int .i64 ob) := by { rw [cellB hb8 _ _ (by first | (simp; done) | (simp; omega) | omega)]; all_goals (first | assumption | go_simp) }; have y5 : w8.cell? ⟨w.heap.size + 1, 5, none⟩ = some (.int .i64 oc) := by { rw [cellB hb8 _ _ (by first | (simp; done) | (simp; omega) | omega)]; all_goals (first | assumption | go_simp) }; have y6 : w8.cell? ⟨w.heap.size + 1, 6, none⟩ = some (.int .i64 od) := by { rw [cellB hb8 _ _ (by first | (simp; done) | (simp; omega) | omega)]; all_goals (first | assumption | go_simp) }; have y7 : w8.cell? ⟨w.heap.size + 1, 7, none⟩ = some (.slice bp m dp) := by { rw [cellB hb8 _ _ (by first | (simp; done) | (simp; omega) | omega)]; all_goals (first | assumption | go_simp) }; have r0 : w8.cell? ⟨w.heap.size + 2, 0, none⟩ = some (.int .i64 w0) := by { rw [cellB hb8 _ _ (by first | (simp; done) | (simp; omega) | omega)]; all_goals (first | assumption | go_simp) }; have r1 : w8.cell? ⟨w.heap.size + 2, 1, none⟩ = some (.int .i64 w1) := by { rw [cellB hb8 _ _ (by first | (simp; done) | (simp; omega) | omega)]; all_goals (first | assumption | go_simp) }; have lx : w.heap.size < w8.heap.size := by { omega }; have ly : w.heap.size + 1 < w8.heap.size := by { omega }; have lr : w.heap.size + 2 < w8.heap.size := by { omega }
        have HB := Lib.hid (HB.out.trans (hb8.mono HB.out.size))
        clear x0d x1d x2d x3d x4d x5d x6d x7d y0d y1d y2d y3d y4d y5d y6d y7d r0d r1d lxd lyd lrd hzx
        clear hb8
        go_wp2
        go_ret
        exact ⟨ret_bool (by simp), HB.out⟩
    · rw [few_false h2] at HFO
      obtain ⟨snm, sper, sleast, sa, sb, sc, sd, sl⟩ := s
      obtain ⟨onm, oper, oleast, oa, ob, oc, od, ol⟩ := o
      simp only at *
      clear h h1 h2
      go_enter Tryz.func6, Tryz.ntmps6
      go_wp2_with fail
      generalize hW : World.alloc _ _ = w4
      have hb4 : Below w.heap.size w w4 := by rw [← hW]; (repeat' (first | (with_reducible exact Below.refl _ _) | (with_reducible assumption) | (with_reducible refine Below.drewN ?_ _) | (with_reducible refine Below.alloc ?_ ?_ _) | (with_reducible refine Below.drew ?_) | (with_reducible refine Below.setCell ?_ ?_ _) | (with_reducible refine Below.step (by assumption) ?_ ?_) | (with_reducible exact And.left (by assumption)) | go_size))
      have x0 : w4.cell? ⟨w.heap.size, 0, none⟩ = some (.string snm) := by { rw [← hW]; clear hW; go_simp }
      have x1 : w4.cell? ⟨w.heap.size, 1, none⟩ = some (.int .i64 sper) := by { rw [← hW]; clear hW; go_simp }
      have x2 : w4.cell? ⟨w.heap.size, 2, none⟩ = some (.int .i64 sleast) := by { rw [← hW]; clear hW; go_simp }
      have x3 : w4.cell? ⟨w.heap.size, 3, none⟩ = some (.int .i64 sa) := by { rw [← hW]; clear hW; go_simp }
      have x4 : w4.cell? ⟨w.heap.size, 4, none⟩ = some (.int .i64 sb) := by { rw [← hW]; clear hW; go_simp }
      have x5 : w4.cell? ⟨w.heap.size, 5, none⟩ = some (.int .i64 sc) := by { rw [← hW]; clear hW; go_simp }
      have x6 : w4.cell? ⟨w.heap.size, 6, none⟩ = some (.int .i64 sd) := by { rw [← hW]; clear hW; go_simp }
      have x7 : w4.cell? ⟨w.heap.size, 7, none⟩ = some (.slice ap n cp) := by { rw [← hW]; clear hW; go_simp }
      have y0 : w4.cell? ⟨w.heap.size + 1, 0, none⟩ = some (.string onm) := by { rw [← hW]; clear hW; go_simp }
      have y1 : w4.cell? ⟨w.heap.size + 1, 1, none⟩ = some (.int .i64 oper) := by { rw [← hW]; clear hW; go_simp }
      have y2 : w4.cell? ⟨w.heap.size + 1, 2, none⟩ = some (.int .i64 oleast) := by { rw [← hW]; clear hW; go_simp }
      have y3 : w4.cell? ⟨w.heap.size + 1, 3, none⟩ = some (.int .i64 oa) := by { rw [← hW]; clear hW; go_simp }
      have y4 : w4.cell? ⟨w.heap.size + 1, 4, none⟩ = some (.int .i64 ob) := by { rw [← hW]; clear hW; go_simp }
      have y5 : w4.cell? ⟨w.heap.size + 1, 5, none⟩ = some (.int .i64 oc) := by { rw [← hW]; clear hW; go_simp }
      have y6 : w4.cell? ⟨w.heap.size + 1, 6, none⟩ = some (.int .i64 od) := by { rw [← hW]; clear hW; go_simp }
      have y7 : w4.cell? ⟨w.heap.size + 1, 7, none⟩ = some (.slice bp m dp) := by { rw [← hW]; clear hW; go_simp }
      have r0 : w4.cell? ⟨w.heap.size + 2, 0, none⟩ = some (.int .i64 w0) := by { rw [← hW]; clear hW; go_simp }
      have r1 : w4.cell? ⟨w.heap.size + 2, 1, none⟩ = some (.int .i64 w1) := by { rw [← hW]; clear hW; go_simp }
      have lr : w.heap.size + 2 < w4.heap.size := by { rw [← hW]; clear hW; simp; done }
      have ly : w.heap.size + 1 < w4.heap.size := by omega
      have lx : w.heap.size < w4.heap.size := by omega
      have HB := Lib.hid hb4
      clear hW hb4
      refine (awake9_any _).mono ?_
      rintro e5 w5 ⟨rfl, hb5⟩
      have hzx := hb5.size
      have x0d : w5.cell? ⟨w.heap.size, 0, none⟩ = some (.string snm) := by { rw [cellB hb5 _ _ (by first | (simp; done) | (simp; omega) | omega)]; all_goals (first | assumption | go_simp) }; have x1d : w5.cell? ⟨w.heap.size, 1, none⟩ = some (.int .i64 sper) := by { rw [cellB hb5 _ _ (by first | (simp; done) | (simp; omega) | omega)]; all_goals (first | assumption | go_simp) }; have x2d : w5.cell? ⟨w.heap.size, 2, none⟩ = some (.int .i64 sleast) := by { rw [cellB hb5 _ _ (by first | (simp; done) | (simp; omega) | omega)]; all_goals (first | assumption | go_simp) }; have x3d : w5.cell? ⟨w.heap.size, 3, none⟩ = some (.int .i64 sa) := by { rw [cellB hb5 _ _ (by first | (simp; done) | (simp; omega) | omega)]; all_goals (first | assumption | go_simp) }; have x4d : w5.cell? ⟨w.heap.size, 4, none⟩ = some (.int .i64 sb) := by { rw [cellB hb5 _ _ (by first | (simp; done) | (simp; omega) | omega)]; all_goals (first | assumption | go_simp) }; have x5d : w5.cell? ⟨w.heap.size, 5, none⟩ = some (.int .i64 sc) := by { rw [cellB hb5 _ _ (by first | (simp; done) | (simp; omega) | omega)]; all_goals (first | assumption | go_simp) }; have x6d : w5.cell? ⟨w.heap.size, 6, none⟩ = some (.int .i64 sd) := by { rw [cellB hb5 _ _ (by first | (simp; done) | (simp; omega) | omega)]; all_goals (first | assumption | go_simp) }; have x7d : w5.cell? ⟨w.heap.size, 7, none⟩ = some (.slice ap n cp) := by { rw [cellB hb5 _ _ (by first | (simp; done) | (simp; omega) | omega)]; all_goals (first | assumption | go_simp) }; have y0d : w5.cell? ⟨w.heap.size + 1, 0, none⟩ = some (.string onm) := by { rw [cellB hb5 _ _ (by first | (simp; done) | (simp; omega) | omega)]; all_goals (first | assumption | go_simp) }; have y1d : w5.cell? ⟨w.heap.size + 1, 1, none⟩ = some (.int .i64 oper) := by { rw [cellB hb5 _ _ (by first | (simp; done) | (simp; omega) | omega)]; all_goals (first | assumption | go_simp) }; have y2d : w5.cell? ⟨w.heap.size + 1, 2, none⟩ = some (.int .i64 oleast) := by { rw [cellB hb5 _ _ (by first | (simp; done) | (simp; omega) | omega)]; all_goals (first | assumption | go_simp) }; have y3d : w5.cell? ⟨w.heap.size + 1, 3, none⟩ = some (.int .i64 oa) := by { rw [cellB hb5 _ _ (by first | (simp; done) | (simp; omega) | omega)]; all_goals (first | assumption | go_simp) }; have y4d : w5.cell? ⟨w.heap.size + 1, 4, none⟩ = some (.int .i64 ob) := by { rw [cellB hb5 _ _ (by first | (simp; done) | (simp; omega) | omega)]; all_goals (first | assumption | go_simp) }; have y5d : w5.cell? ⟨w.heap.size + 1, 5, none⟩ = some (.int .i64 oc) := by { rw [cellB hb5 _ _ (by first | (simp; done) | (simp; omega) | omega)]; all_goals (first | assumption | go_simp) }; have y6d : w5.cell? ⟨w.heap.size + 1, 6, none⟩ = some (.int .i64 od) := by { rw [cellB hb5 _ _ (by first | (simp; done) | (simp; omega) | omega)]; all_goals (first | assumption | go_simp) }; have y7d : w5.cell? ⟨w.heap.size + 1, 7, none⟩ = some (.slice bp m dp) := by { rw [cellB hb5 _ _ (by first | (simp; done) | (simp; omega) | omega)]; all_goals (first | assumption | go_simp) }; have r0d : w5.cell? ⟨w.heap.size + 2, 0, none⟩ = some (.int .i64 w0) := by { rw [cellB hb5 _ _ (by first | (simp; done) | (simp; omega) | omega)]; all_goals (first | assumption | go_simp) }; have r1d : w5.cell? ⟨w.heap.size + 2, 1, none⟩ = some (.int .i64 w1) := by { rw [cellB hb5 _ _ (by first | (simp; done) | (simp; omega) | omega)]; all_goals (first | assumption | go_simp) }; have lxd : w.heap.size < w5.heap.size := by { omega }; have lyd : w.heap.size + 1 < w5.heap.size := by { omega }; have lrd : w.heap.size + 2 < w5.heap.size := by { omega }
      have HB := Lib.hid (HB.out.trans (hb5.mono HB.out.size))
      clear x0 x1 x2 x3 x4 x5 x6 x7 y0 y1 y2 y3 y4 y5 y6 y7 r0 r1 lx ly lr hzx
      clear hb5
      go_wp2_with fail
      refine (HFS.out _).mono ?_
      rintro e6 w6 ⟨rfl, hb6⟩
      have hzx := hb6.size
      have x0 : w6.cell? ⟨w.heap.size, 0, none⟩ = some (.string snm) := by { rw [cellB hb6 _ _ (by first | (simp; done) | (simp; omega) | omega)]; all_goals (first | assumption | go_simp) }; have x1 : w6.cell? ⟨w.heap.size, 1, none⟩ = some (.int .i64 sper) := by { rw [cellB hb6 _ _ (by first | (simp; done) | (simp; omega) | omega)]; all_goals (first | assumption | go_simp) }; have x2 : w6.cell? ⟨w.heap.size, 2, none⟩ = some (.int .i64 sleast) := by { rw [cellB hb6 _ _ (by first | (simp; done) | (simp; omega) | omega)]; all_goals (first | assumption | go_simp) }; have x3 : w6.cell? ⟨w.heap.size, 3, none⟩ = some (.int .i64 sa) := by { rw [cellB hb6 _ _ (by first | (simp; done) | (simp; omega) | omega)]; all_goals (first | assumption | go_simp) }; have x4 : w6.cell? ⟨w.heap.size, 4, none⟩ = some (.int .i64 sb) := by { rw [cellB hb6 _ _ (by first | (simp; done) | (simp; omega) | omega)]; all_goals (first | assumption | go_simp) }; have x5 : w6.cell? ⟨w.heap.size, 5, none⟩ = some (.int .i64 sc) := by { rw [cellB hb6 _ _ (by first | (simp; done) | (simp; omega) | omega)]; all_goals (first | assumption | go_simp) }; have x6 : w6.cell? ⟨w.heap.size, 6, none⟩ = some (.int .i64 sd) := by { rw [cellB hb6 _ _ (by first | (simp; done) | (simp; omega) | omega)]; all_goals (first | assumption | go_simp) }; have x7 : w6.cell? ⟨w.heap.size, 7, none⟩ = some (.slice ap n cp) := by { rw [cellB hb6 _ _ (by first | (simp; done) | (simp; omega) | omega)]; all_goals (first | assumption | go_simp) }; have y0 : w6.cell? ⟨w.heap.size + 1, 0, none⟩ = some (.string onm) := by { rw [cellB hb6 _ _ (by first | (simp; done) | (simp; omega) | omega)]; all_goals (first | assumption | go_simp) }; have y1 : w6.cell? ⟨w.heap.size + 1, 1, none⟩ = some (.int .i64 oper) := by { rw [cellB hb6 _ _ (by first | (simp; done) | (simp; omega) | omega)]; all_goals (first | assumption | go_simp) }; have y2 : w6.cell? ⟨w.heap.size + 1, 2, none⟩ = some (.int .i64 oleast) := by { rw [cellB hb6 _ _ (by first | (simp; done) | (simp; omega) | omega)]; all_goals (first | assumption | go_simp) }; have y3 : w6.cell? ⟨w.heap.size + 1, 3, none⟩ = some (.int .i64 oa) := by { rw [cellB hb6 _ _ (by first | (simp; done) | (simp; omega) | omega)]; all_goals (first | assumption | go_simp) }; have y4 : w6.cell? ⟨w.heap.size + 1, 4, none⟩ = some (.int .i64 ob) := by { rw [cellB hb6 _ _ (by first | (simp; done) | (simp; omega) | omega)]; all_goals (first | assumption | go_simp) }; have y5 : w6.cell? ⟨w.heap.size + 1, 5, none⟩ = some (.int .i64 oc) := by { rw [cellB hb6 _ _ (by first | (simp; done) | (simp; omega) | omega)]; all_goals (first | assumption | go_simp) }; have y6 : w6.cell? ⟨w.heap.size + 1, 6, none⟩ = some (.int .i64 od) := by { rw [cellB hb6 _ _ (by first | (simp; done) | (simp; omega) | omega)]; all_goals (first | assumption | go_simp) }; have y7 : w6.cell? ⟨w.heap.size + 1, 7, none⟩ = some (.slice bp m dp) := by { rw [cellB hb6 _ _ (by first | (simp; done) | (simp; omega) | omega)]; all_goals (first | assumption | go_simp) }; have r0 : w6.cell? ⟨w.heap.size + 2, 0, none⟩ = some (.int .i64 w0) := by { rw [cellB hb6 _ _ (by first | (simp; done) | (simp; omega) | omega)]; all_goals (first | assumption | go_simp) }; have r1 : w6.cell? ⟨w.heap.size + 2, 1, none⟩ = some (.int .i64 w1) := by { rw [cellB hb6 _ _ (by first | (simp; done) | (simp; omega) | omega)]; all_goals (first | assumption | go_simp) }; have lx : w.heap.size < w6.heap.size := by { omega }; have ly : w.heap.size + 1 < w6.heap.size := by { omega }; have lr : w.heap.size + 2 < w6.heap.size := by { omega }
      have HB := Lib.hid (HB.out.trans (hb6.mono HB.out.size))
      clear x0d x1d x2d x3d x4d x5d x6d x7d y0d y1d y2d y3d y4d y5d y6d y7d r0d r1d lxd lyd lrd hzx
      clear hb6
      go_wp2_with fail
      refine (HFO.out _).mono ?_
      rintro e7 w7 ⟨rfl, hb7⟩
      have hzx := hb7.size
      have x0d : w7.cell? ⟨w.heap.size, 0, none⟩ = some (.string snm) := by { rw [cellB hb7 _ _ (by first | (simp; done) | (simp; omega) | omega)]; all_goals (first | assumption | go_simp) }; have x1d : w7.cell? ⟨w.heap.size, 1, none⟩ = some (.int .i64 sper) := by { rw [cellB hb7 _ _ (by first | (simp; done) | (simp; omega) | omega)]; all_goals (first | assumption | go_simp) }; have x2d : w7.cell? ⟨w.heap.size, 2, none⟩ = some (.int .i64 sleast) := by { rw [cellB hb7 _ _ (by first | (simp; done) | (simp; omega) | omega)]; all_goals (first | assumption | go_simp) }; have x3d : w7.cell? ⟨w.heap.size, 3, none⟩ = some (.int .i64 sa) := by { rw [cellB hb7 _ _ (by first | (simp; done) | (simp; omega) | omega)]; all_goals (first | assumption | go_simp) }; have x4d : w7.cell? ⟨w.heap.size, 4, none⟩ = some (.int .i64 sb) := by { rw [cellB hb7 _ _ (by first | (simp; done) | (simp; omega) | omega)]; all_goals (first | assumption | go_simp) }; have x5d : w7.cell? ⟨w.heap.size, 5, none⟩ = some (.int .i64 sc) := by { rw [cellB hb7 _ _ (by first | (simp; done) | (simp; omega) | omega)]; all_goals (first | assumption | go_simp) }; have x6d : w7.cell? ⟨w.heap.size, 6, none⟩ = some (.int .i64 sd) := by { rw [cellB hb7 _ _ (by first | (simp; done) | (simp; omega) | omega)]; all_goals (first | assumption | go_simp) }; have x7d : w7.cell? ⟨w.heap.size, 7, none⟩ = some (.slice ap n cp) := by { rw [cellB hb7 _ _ (by first | (simp; done) | (simp; omega) | omega)]; all_goals (first | assumption | go_simp) }; have y0d : w7.cell? ⟨w.heap.size + 1, 0, none⟩ = some (.string onm) := by { rw [cellB hb7 _ _ (by first | (simp; done) | (simp; omega) | omega)]; all_goals (first | assumption | go_simp) }; have y1d : w7.cell? ⟨w.heap.size + 1, 1, none⟩ = some (.int .i64 oper) := by { rw [cellB hb7 _ _ (by first | (simp; done) | (simp; omega) | omega)]; all_goals (first | assumption | go_simp) }; have y2d : w7.cell? ⟨w.heap.size + 1, 2, none⟩ = some (.int .i64 oleast) := by { rw [cellB hb7 _ _ (by first | (simp; done) | (simp; omega) | omega)]; all_goals (first | assumption | go_simp) }; have y3d : w7.cell? ⟨w.heap.size + 1, 3, none⟩ = some (.int .i64 oa) := by { rw [cellB hb7 _ _ (by first | (simp; done) | (simp; omega) | omega)]; all_goals (first | assumption | go_simp) }; have y4d : w7.cell? ⟨w.heap.size + 1, 4, none⟩ = some (.int .i64 ob) := by { rw [cellB hb7 _ _ (by first | (simp; done) | (simp; omega) | omega)]; all_goals (first | assumption | go_simp) }; have y5d : w7.cell? ⟨w.heap.size + 1, 5, none⟩ = some (.int .i64 oc) := by { rw [cellB hb7 _ _ (by first | (simp; done) | (simp; omega) | omega)]; all_goals (first | assumption | go_simp) }; have y6d : w7.cell? ⟨w.heap.size + 1, 6, none⟩ = some (.int .i64 od) := by { rw [cellB hb7 _ _ (by first | (simp; done) | (simp; omega) | omega)]; all_goals (first | assumption | go_simp) }; have y7d : w7.cell? ⟨w.heap.size + 1, 7, none⟩ = some (.slice bp m dp) := by { rw [cellB hb7 _ _ (by first | (simp; done) | (simp; omega) | omega)]; all_goals (first | assumption | go_simp) }; have r0d : w7.cell? ⟨w.heap.size + 2, 0, none⟩ = some (.int .i64 w0) := by { rw [cellB hb7 _ _ (by first | (simp; done) | (simp; omega) | omega)]; all_goals (first | assumption | go_simp) }; have r1d : w7.cell? ⟨w.heap.size + 2, 1, none⟩ = some (.int .i64 w1) := by { rw [cellB hb7 _ _ (by first | (simp; done) | (simp; omega) | omega)]; all_goals (first | assumption | go_simp) }; have lxd : w.heap.size < w7.heap.size := by { omega }; have lyd : w.heap.size + 1 < w7.heap.size := by { omega }; have lrd : w.heap.size + 2 < w7.heap.size := by { omega }
      have HB := Lib.hid (HB.out.trans (hb7.mono HB.out.size))
      clear x0 x1 x2 x3 x4 x5 x6 x7 y0 y1 y2 y3 y4 y5 y6 y7 r0 r1 lx ly lr hzx
      clear hb7
      go_wp2
      go_ret
      exact ⟨ret_bool (by simp), HB.out⟩
  · rw [few_false h1] at HFS
    obtain ⟨snm, sper, sleast, sa, sb, sc, sd, sl⟩ := s
    obtain ⟨onm, oper, oleast, oa, ob, oc, od, ol⟩ := o
    simp only at *
    clear h h1
    go_enter Tryz.func6, Tryz.ntmps6
    go_wp2_with fail
    generalize hW : World.alloc _ _ = w4
    have hb4 : Below w.heap.size w w4 := by rw [← hW]; (repeat' (first | (with_reducible exact Below.refl _ _) | (with_reducible assumption) | (with_reducible refine Below.drewN ?_ _) | (with_reducible refine Below.alloc ?_ ?_ _) | (with_reducible refine Below.drew ?_) | (with_reducible refine Below.setCell ?_ ?_ _) | (with_reducible refine Below.step (by assumption) ?_ ?_) | (with_reducible exact And.left (by assumption)) | go_size))
    have x0 : w4.cell? ⟨w.heap.size, 0, none⟩ = some (.string snm) := by { rw [← hW]; clear hW; go_simp }
    have x1 : w4.cell? ⟨w.heap.size, 1, none⟩ = some (.int .i64 sper) := by { rw [← hW]; clear hW; go_simp }
    have x2 : w4.cell? ⟨w.heap.size, 2, none⟩ = some (.int .i64 sleast) := by { rw [← hW]; clear hW; go_simp }
    have x3 : w4.cell? ⟨w.heap.size, 3, none⟩ = some (.int .i64 sa) := by { rw [← hW]; clear hW; go_simp }
    have x4 : w4.cell? ⟨w.heap.size, 4, none⟩ = some (.int .i64 sb) := by { rw [← hW]; clear hW; go_simp }
    have x5 : w4.cell? ⟨w.heap.size, 5, none⟩ = some (.int .i64 sc) := by { rw [← hW]; clear hW; go_simp }
    have x6 : w4.cell? ⟨w.heap.size, 6, none⟩ = some (.int .i64 sd) := by { rw [← hW]; clear hW; go_simp }
    have x7 : w4.cell? ⟨w.heap.size, 7, none⟩ = some (.slice ap n cp) := by { rw [← hW]; clear hW; go_simp }
    have y0 : w4.cell? ⟨w.heap.size + 1, 0, none⟩ = some (.string onm) := by { rw [← hW]; clear hW; go_simp }
    have y1 : w4.cell? ⟨w.heap.size + 1, 1, none⟩ = some (.int .i64 oper) := by { rw [← hW]; clear hW; go_simp }
    have y2 : w4.cell? ⟨w.heap.size + 1, 2, none⟩ = some (.int .i64 oleast) := by { rw [← hW]; clear hW; go_simp }
    have y3 : w4.cell? ⟨w.heap.size + 1, 3, none⟩ = some (.int .i64 oa) := by { rw [← hW]; clear hW; go_simp }
    have y4 : w4.cell? ⟨w.heap.size + 1, 4, none⟩ = some (.int .i64 ob) := by { rw [← hW]; clear hW; go_simp }
    have y5 : w4.cell? ⟨w.heap.size + 1, 5, none⟩ = some (.int .i64 oc) := by { rw [← hW]; clear hW; go_simp }
    have y6 : w4.cell? ⟨w.heap.size + 1, 6, none⟩ = some (.int .i64 od) := by { rw [← hW]; clear hW; go_simp }
    have y7 : w4.cell? ⟨w.heap.size + 1, 7, none⟩ = some (.slice bp m dp) := by { rw [← hW]; clear hW; go_simp }
    have r0 : w4.cell? ⟨w.heap.size + 2, 0, none⟩ = some (.int .i64 w0) := by { rw [← hW]; clear hW; go_simp }
    have r1 : w4.cell? ⟨w.heap.size + 2, 1, none⟩ = some (.int .i64 w1) := by { rw [← hW]; clear hW; go_simp }
    have lr : w.heap.size + 2 < w4.heap.size := by { rw [← hW]; clear hW; simp; done }
    have ly : w.heap.size + 1 < w4.heap.size := by omega
    have lx : w.heap.size < w4.heap.size := by omega
    have HB := Lib.hid hb4
    clear hW hb4
    refine (awake9_any _).mono ?_
    rintro e5 w5 ⟨rfl, hb5⟩
    have hzx := hb5.size
    have x0d : w5.cell? ⟨w.heap.size, 0, none⟩ = some (.string snm) := by { rw [cellB hb5 _ _ (by first | (simp; done) | (simp; omega) | omega)]; all_goals (first | assumption | go_simp) }; have x1d : w5.cell? ⟨w.heap.size, 1, none⟩ = some (.int .i64 sper) := by { rw [cellB hb5 _ _ (by first | (simp; done) | (simp; omega) | omega)]; all_goals (first | assumption | go_simp) }; have x2d : w5.cell? ⟨w.heap.size, 2, none⟩ = some (.int .i64 sleast) := by { rw [cellB hb5 _ _ (by first | (simp; done) | (simp; omega) | omega)]; all_goals (first | assumption | go_simp) }; have x3d : w5.cell? ⟨w.heap.size, 3, none⟩ = some (.int .i64 sa) := by { rw [cellB hb5 _ _ (by first | (simp; done) | (simp; omega) | omega)]; all_goals (first | assumption | go_simp) }; have x4d : w5.cell? ⟨w.heap.size, 4, none⟩ = some (.int .i64 sb) := by { rw [cellB hb5 _ _ (by first | (simp; done) | (simp; omega) | omega)]; all_goals (first | assumption | go_simp) }; have x5d : w5.cell? ⟨w.heap.size, 5, none⟩ = some (.int .i64 sc) := by { rw [cellB hb5 _ _ (by first | (simp; done) | (simp; omega) | omega)]; all_goals (first | assumption | go_simp) }; have x6d : w5.cell? ⟨w.heap.size, 6, none⟩ = some (.int .i64 sd) := by { rw [cellB hb5 _ _ (by first | (simp; done) | (simp; omega) | omega)]; all_goals (first | assumption | go_simp) }; have x7d : w5.cell? ⟨w.heap.size, 7, none⟩ = some (.slice ap n cp) := by { rw [cellB hb5 _ _ (by first | (simp; done) | (simp; omega) | omega)]; all_goals (first | assumption | go_simp) }; have y0d : w5.cell? ⟨w.heap.size + 1, 0, none⟩ = some (.string onm) := by { rw [cellB hb5 _ _ (by first | (simp; done) | (simp; omega) | omega)]; all_goals (first | assumption | go_simp) }; have y1d : w5.cell? ⟨w.heap.size + 1, 1, none⟩ = some (.int .i64 oper) := by { rw [cellB hb5 _ _ (by first | (simp; done) | (simp; omega) | omega)]; all_goals (first | assumption | go_simp) }; have y2d : w5.cell? ⟨w.heap.size + 1, 2, none⟩ = some (.int .i64 oleast) := by { rw [cellB hb5 _ _ (by first | (simp; done) | (simp; omega) | omega)]; all_goals (first | assumption | go_simp) }; have y3d : w5.cell? ⟨w.heap.size + 1, 3, none⟩ = some (.int .i64 oa) := by { rw [cellB hb5 _ _ (by first | (simp; done) | (simp; omega) | omega)]; all_goals (first | assumption | go_simp) }; have y4d : w5.cell? ⟨w.heap.size + 1, 4, none⟩ = some (.int .i64 ob) := by { rw [cellB hb5 _ _ (by first | (simp; done) | (simp; omega) | omega)]; all_goals (first | assumption | go_simp) }; have y5d : w5.cell? ⟨w.heap.size + 1, 5, none⟩ = some (.int .i64 oc) := by { rw [cellB hb5 _ _ (by first | (simp; done) | (simp; omega) | omega)]; all_goals (first | assumption | go_simp) }; have y6d : w5.cell? ⟨w.heap.size + 1, 6, none⟩ = some (.int .i64 od) := by { rw [cellB hb5 _ _ (by first | (simp; done) | (simp; omega) | omega)]; all_goals (first | assumption | go_simp) }; have y7d : w5.cell? ⟨w.heap.size + 1, 7, none⟩ = some (.slice bp m dp) := by { rw [cellB hb5 _ _ (by first | (simp; done) | (simp; omega) | omega)]; all_goals (first | assumption | go_simp) }; have r0d : w5.cell? ⟨w.heap.size + 2, 0, none⟩ = some (.int .i64 w0) := by { rw [cellB hb5 _ _ (by first | (simp; done) | (simp; omega) | omega)]; all_goals (first | assumption | go_simp) }; have r1d : w5.cell? ⟨w.heap.size + 2, 1, none⟩ = some (.int .i64 w1) := by { rw [cellB hb5 _ _ (by first | (simp; done) | (simp; omega) | omega)]; all_goals (first | assumption | go_simp) }; have lxd : w.heap.size < w5.heap.size := by { omega }; have lyd : w.heap.size + 1 < w5.heap.size := by { omega }; have lrd : w.heap.size + 2 < w5.heap.size := by { omega }
    have HB := Lib.hid (HB.out.trans (hb5.mono HB.out.size))
    clear x0 x1 x2 x3 x4 x5 x6 x7 y0 y1 y2 y3 y4 y5 y6 y7 r0 r1 lx ly lr hzx
    clear hb5
    go_wp2_with fail
    refine (HFS.out _).mono ?_
    rintro e6 w6 ⟨rfl, hb6⟩
    have hzx := hb6.size
    have x0 : w6.cell? ⟨w.heap.size, 0, none⟩ = some (.string snm) := by { rw [cellB hb6 _ _ (by first | (simp; done) | (simp; omega) | omega)]; all_goals (first | assumption | go_simp) }; have x1 : w6.cell? ⟨w.heap.size, 1, none⟩ = some (.int .i64 sper) := by { rw [cellB hb6 _ _ (by first | (simp; done) | (simp; omega) | omega)]; all_goals (first | assumption | go_simp) }; have x2 : w6.cell? ⟨w.heap.size, 2, none⟩ = some (.int .i64 sleast) := by { rw [cellB hb6 _ _ (by first | (simp; done) | (simp; omega) | omega)]; all_goals (first | assumption | go_simp) }; have x3 : w6.cell? ⟨w.heap.size, 3, none⟩ = some (.int .i64 sa) := by { rw [cellB hb6 _ _ (by first | (simp; done) | (simp; omega) | omega)]; all_goals (first | assumption | go_simp) }; have x4 : w6.cell? ⟨w.heap.size, 4, none⟩ = some (.int .i64 sb) := by { rw [cellB hb6 _ _ (by first | (simp; done) | (simp; omega) | omega)]; all_goals (first | assumption | go_simp) }; have x5 : w6.cell? ⟨w.heap.size, 5, none⟩ = some (.int .i64 sc) := by { rw [cellB hb6 _ _ (by first | (simp; done) | (simp; omega) | omega)]; all_goals (first | assumption | go_simp) }; have x6 : w6.cell? ⟨w.heap.size, 6, none⟩ = some (.int .i64 sd) := by { rw [cellB hb6 _ _ (by first | (simp; done) | (simp; omega) | omega)]; all_goals (first | assumption | go_simp) }; have x7 : w6.cell? ⟨w.heap.size, 7, none⟩ = some (.slice ap n cp) := by { rw [cellB hb6 _ _ (by first | (simp; done) | (simp; omega) | omega)]; all_goals (first | assumption | go_simp) }; have y0 : w6.cell? ⟨w.heap.size + 1, 0, none⟩ = some (.string onm) := by { rw [cellB hb6 _ _ (by first | (simp; done) | (simp; omega) | omega)]; all_goals (first | assumption | go_simp) }; have y1 : w6.cell? ⟨w.heap.size + 1, 1, none⟩ = some (.int .i64 oper) := by { rw [cellB hb6 _ _ (by first | (simp; done) | (simp; omega) | omega)]; all_goals (first | assumption | go_simp) }; have y2 : w6.cell? ⟨w.heap.size + 1, 2, none⟩ = some (.int .i64 oleast) := by { rw [cellB hb6 _ _ (by first | (simp; done) | (simp; omega) | omega)]; all_goals (first | assumption | go_simp) }; have y3 : w6.cell? ⟨w.heap.size + 1, 3, none⟩ = some (.int .i64 oa) := by { rw [cellB hb6 _ _ (by first | (simp; done) | (simp; omega) | omega)]; all_goals (first | assumption | go_simp) }; have y4 : w6.cell? ⟨w.heap.size + 1, 4, none⟩ = some (.int .i64 ob) := by { rw [cellB hb6 _ _ (by first | (simp; done) | (simp; omega) | omega)]; all_goals (first | assumption | go_simp) }; have y5 : w6.cell? ⟨w.heap.size + 1, 5, none⟩ = some (.int .i64 oc) := by { rw [cellB hb6 _ _ (by first | (simp; done) | (simp; omega) | omega)]; all_goals (first | assumption | go_simp) }; have y6 : w6.cell? ⟨w.heap.size + 1, 6, none⟩ = some (.int .i64 od) := by { rw [cellB hb6 _ _ (by first | (simp; done) | (simp; omega) | omega)]; all_goals (first | assumption | go_simp) }; have y7 : w6.cell? ⟨w.heap.size + 1, 7, none⟩ = some (.slice bp m dp) := by { rw [cellB hb6 _ _ (by first | (simp; done) | (simp; omega) | omega)]; all_goals (first | assumption | go_simp) }; have r0 : w6.cell? ⟨w.heap.size + 2, 0, none⟩ = some (.int .i64 w0) := by { rw [cellB hb6 _ _ (by first | (simp; done) | (simp; omega) | omega)]; all_goals (first | assumption | go_simp) }; have r1 : w6.cell? ⟨w.heap.size + 2, 1, none⟩ = some (.int .i64 w1) := by { rw [cellB hb6 _ _ (by first | (simp; done) | (simp; omega) | omega)]; all_goals (first | assumption | go_simp) }; have lx : w.heap.size < w6.heap.size := by { omega }; have ly : w.heap.size + 1 < w6.heap.size := by { omega }; have lr : w.heap.size + 2 < w6.heap.size := by { omega }
    have HB := Lib.hid (HB.out.trans (hb6.mono HB.out.size))
    clear x0d x1d x2d x3d x4d x5d x6d x7d y0d y1d y2d y3d y4d y5d y6d y7d r0d r1d lxd lyd lrd hzx
    clear hb6
    go_wp2
    go_ret
    exact ⟨ret_bool (by simp), HB.out⟩
theorem outE_mk {s o : Ser} {w : Int} (h1 : (serE s).2 = 0) (h2 : (serE o).2 = 0) (h3 : 0 ≤ w) (h4 : w ≤ 1000000) : outE s o w = 0 := by
  unfold outE
  rw [h1, h2, wi_iff.2 ⟨h3, h4⟩]; rfl
theorem outE_cl {s o : Ser} {w : Int} (h : outE s o w = 0) : outE { s with l := clO s.l o.l w } o w = 0 := by
  obtain ⟨h1, h2, h3, h4⟩ := outE_zero h
  exact outE_mk (serE_sub h1 List.filter_sublist) h2 h3 h4
theorem cleaned_ok {s o : Ser} {win : Int} {ap bp : Option Addr} {n cp m dp : Nat} {w : World} (h0 : outE s o win = 0) (hs : SerW s) (ho : SerW o) (hl : T3R w ap n s.l) (hm : T3R w bp m o.l) :
    Calls Tryz.prog 35 #[.agg #[.string s.nm, .int .i64 s.per, .int .i64 s.least, .int .i64 s.a, .int .i64 s.b, .int .i64 s.c, .int .i64 s.d, .slice ap n cp], .agg #[.string o.nm, .int .i64 o.per, .int .i64 o.least, .int .i64 o.a, .int .i64 o.b, .int .i64 o.c, .int .i64 o.d, .slice bp m dp], .int .i64 win] w fun e' w' => ∃ a' k' c', e' = .returned (.tuple #[.agg #[.string s.nm, .int .i64 s.per, .int .i64 s.least, .int .i64 s.a, .int .i64 s.b, .int .i64 s.c, .int .i64 s.d, .slice a' k' c'], .int .i64 0]) ∧ Below w.heap.size w w' ∧ w'.ownsRow w.heap.size 127 3 (.slice a' k' c') k' (ecells e3 (clO s.l o.l win)) := by
  have h := cleaned_any s o win ap bp n cp m dp w hs ho hl hm
  have hc : clS s o win = { s with l := clO s.l o.l win } := by unfold clS; rw [if_neg (by rw [h0]; decide)]
  rw [hc, h0] at h
  exact h
theorem fromOut_ok {s o : Ser} {win : Int} {ap bp : Option Addr} {n cp m dp : Nat} {w : World} (h0 : outE s o win = 0) (hs : SerW s) (ho : SerW o) (hl : T3R w ap n s.l) (hm : T3R w bp m o.l) :
    Calls Tryz.prog 34 #[.agg #[.string s.nm, .int .i64 s.per, .int .i64 s.least, .int .i64 s.a, .int .i64 s.b, .int .i64 s.c, .int .i64 s.d, .slice ap n cp], .agg #[.string o.nm, .int .i64 o.per, .int .i64 o.least, .int .i64 o.a, .int .i64 o.b, .int .i64 o.c, .int .i64 o.d, .slice bp m dp], .int .i64 win] w fun e' w' => ∃ a' k' c', e' = .returned (.tuple #[.slice a' k' c', .int .i64 0]) ∧ Below w.heap.size w w' ∧ IntsR w' a' k' (nats (frO s.l o.l win s.l.length)) := by
  have h := fromOutside_any s o win ap bp n cp m dp w hs ho hl hm
  have hc : foV s o win = frO s.l o.l win s.l.length := by unfold foV; rw [if_neg (by rw [h0]; decide)]
  rw [hc, h0] at h
  refine h.mono ?_
  rintro e' w' ⟨a', k', c', h1, h2, h3⟩
  exact ⟨a', k', c', h1, h2, h3.1⟩
set_option maxHeartbeats 40000000 in
set_option maxRecDepth 100000 in
theorem cln_main (s o : Ser) (w0 w1 : Int) (ap bp : Option Addr) (n cp m dp : Nat) (w : World) (hs : SerW s) (ho : SerW o) (hl : T3R w ap n s.l) (hm : T3R w bp m o.l) (h1 : n ≤ 64 ∧ s.nm.size ≤ 30) (h2 : m ≤ 64 ∧ o.nm.size ≤ 30) (h3 : outE s o w0 = 0) (h4 : wi w1 w0 1000000 = true) :
    Calls Tryz.prog 6 #[.agg #[.string s.nm, .int .i64 s.per, .int .i64 s.least, .int .i64 s.a, .int .i64 s.b, .int .i64 s.c, .int .i64 s.d, .slice ap n cp], .agg #[.string o.nm, .int .i64 o.per, .int .i64 o.least, .int .i64 o.a, .int .i64 o.b, .int .i64 o.c, .int .i64 o.d, .slice bp m dp], .agg #[.int .i64 w0, .int .i64 w1]] w fun e' w' => e' = .returned (.bool true) ∧ Below w.heap.size w w' := by
  have hw := wi_iff.1 h4
  obtain ⟨g1, g2, g3, g4⟩ := outE_zero h3
  have hC := outE_cl h3
  have h5 : outE s o w1 = 0 := outE_mk g1 g2 (by omega) hw.2
  have HFS := Lib.hid (fun W => few9_any s ap n cp W hl.small hs.1)
  have HFO := Lib.hid (fun W => few9_any o bp m dp W hm.small ho.1)
  rw [few_true h1] at HFS
  rw [few_true h2] at HFO
  have HOE := Lib.hid (fun (W : World) (hb : Below w.heap.size w W) => rOutsideErr_any s o w0 ap bp n cp m dp W hs ho (hl.below hb) (hm.below hb))
  rw [h3] at HOE
  have HX9 := Lib.hid (fun w' => bwithin_any w1 w0 1000000 w')
  rw [h4] at HX9
  have HCS := Lib.hid (fun (W : World) (hb : Below w.heap.size w W) => copySeries_any s ap n cp W (hl.below hb) (by omega))
  have HCO := Lib.hid (fun (W : World) (hb : Below w.heap.size w W) => copySeries_any o bp m dp W (hm.below hb) (by omega))
  have hlen : (clO s.l o.l w0).length ≤ 60 := Nat.le_trans (clO_len _ _ _) (ser_60 g1)
  have HLC := Lib.hid hlen
  have HNM := Lib.hid h1.2
  have HCX := Lib.hid (fun (a7 : Option Addr) (c7 k7 : Nat) (W : World) (g : T3R W a7 k7 (clO s.l o.l w0)) => copySeries_any { s with l := clO s.l o.l w0 } a7 k7 c7 W g (by have := ER.len g; omega))
  have HFX := Lib.hid (fun (a7 : Option Addr) (c7 k7 : Nat) (W : World) (g : T3R W a7 k7 (clO s.l o.l w0)) => few9_any { s with l := clO s.l o.l w0 } a7 k7 c7 W (by have := ER.len g; omega) hs.1)
  have HSX := Lib.hid (fun (a7 : Option Addr) (c7 k7 : Nat) (W : World) (g : T3R W a7 k7 (clO s.l o.l w0)) => rSeriesErr_any { s with l := clO s.l o.l w0 } a7 k7 c7 W hs g)
  rw [serE_sub (l' := clO s.l o.l w0) g1 List.filter_sublist] at HSX
  have HCL := Lib.hid (fun (a1 a2 : Option Addr) (c1 c2 : Nat) (W : World) (k1 : T3R W a1 n s.l) (k2 : T3R W a2 m o.l) => cleaned_ok (cp := c1) (dp := c2) h3 hs ho k1 k2)
  have HF0 := Lib.hid (fun (a1 a2 : Option Addr) (c1 c2 : Nat) (W : World) (k1 : T3R W a1 n s.l) (k2 : T3R W a2 m o.l) => fromOut_ok (cp := c1) (dp := c2) h3 hs ho k1 k2)
  have HF1 := Lib.hid (fun (a1 a2 : Option Addr) (c1 c2 : Nat) (W : World) (k1 : T3R W a1 n s.l) (k2 : T3R W a2 m o.l) => fromOut_ok (cp := c1) (dp := c2) h5 hs ho k1 k2)
  have HCY := Lib.hid (fun (k7 : Nat) (a1 a2 : Option Addr) (c1 c2 : Nat) (W : World) (k1 : T3R W a1 k7 (clO s.l o.l w0)) (k2 : T3R W a2 m o.l) => cleaned_ok (s := { s with l := clO s.l o.l w0 }) (cp := c1) (dp := c2) hC hs ho k1 k2)
  have HFY := Lib.hid (fun (k7 : Nat) (a1 a2 : Option Addr) (c1 c2 : Nat) (W : World) (k1 : T3R W a1 k7 (clO s.l o.l w0)) (k2 : T3R W a2 m o.l) => fromOut_ok (s := { s with l := clO s.l o.l w0 }) (cp := c1) (dp := c2) hC hs ho k1 k2)
  simp only [clO_clO, frO_clO] at HCY HFY
  have HSS := Lib.hid (fun (a1 a2 : Option Addr) (k c1 c2 : Nat) (W : World) (g1 : T3R W a1 k (clO s.l o.l w0)) (g2 : T3R W a2 k (clO s.l o.l w0)) => sameSeries_same { s with l := clO s.l o.l w0 } a1 a2 k c1 c2 W g1 g2)
  have HSUM := Lib.hid (show (frO s.l o.l w0 s.l.length).length + (clO s.l o.l w0).length = n by
    have := clO_fr s.l o.l w0 s.l.length (Nat.le_refl _)
    rw [List.take_length] at this
    rw [this]; exact hl.len)
  have HN1 := Lib.hid (show (frO s.l o.l w1 s.l.length).length ≤ n by have := frO_len s.l o.l w1 s.l.length; rw [hl.len] at this ⊢; exact this)
  have HSUB := Lib.hid (show ∀ x ∈ frO s.l o.l w0 s.l.length, x ∈ frO s.l o.l w1 s.l.length from fun x hx => by
    rw [frO_mem] at hx ⊢
    exact ⟨hx.1, isO_wide hw.1 hx.2⟩)
  have hn60 : n ≤ 60 := by rw [← hl.len]; exact ser_60 g1
  clear hw g1 g2 g3 g4 hC h5 hs ho hl hm h1 h2 h3 h4 hlen
  generalize clO s.l o.l w0 = CL at *
  generalize frO s.l o.l w0 s.l.length = M at *
  generalize frO s.l o.l w1 s.l.length = N at *
  obtain ⟨snm, sper, sleast, sa, sb, sc, sd, sl⟩ := s
  obtain ⟨onm, oper, oleast, oa, ob, oc, od, ol⟩ := o
  simp only at *
  go_enter Tryz.func6, Tryz.ntmps6
  go_wp2_with fail
  generalize hW : World.alloc _ _ = w4
  have hb4 : Below w.heap.size w w4 := by rw [← hW]; (repeat' (first | (with_reducible exact Below.refl _ _) | (with_reducible assumption) | (with_reducible refine Below.drewN ?_ _) | (with_reducible refine Below.alloc ?_ ?_ _) | (with_reducible refine Below.drew ?_) | (with_reducible refine Below.setCell ?_ ?_ _) | (with_reducible refine Below.step (by assumption) ?_ ?_) | (with_reducible exact And.left (by assumption)) | go_size))
  have x0 : w4.cell? ⟨w.heap.size, 0, none⟩ = some (.string snm) := by { rw [← hW]; clear hW; go_simp }
  have x1 : w4.cell? ⟨w.heap.size, 1, none⟩ = some (.int .i64 sper) := by { rw [← hW]; clear hW; go_simp }
  have x2 : w4.cell? ⟨w.heap.size, 2, none⟩ = some (.int .i64 sleast) := by { rw [← hW]; clear hW; go_simp }
  have x3 : w4.cell? ⟨w.heap.size, 3, none⟩ = some (.int .i64 sa) := by { rw [← hW]; clear hW; go_simp }
  have x4 : w4.cell? ⟨w.heap.size, 4, none⟩ = some (.int .i64 sb) := by { rw [← hW]; clear hW; go_simp }
  have x5 : w4.cell? ⟨w.heap.size, 5, none⟩ = some (.int .i64 sc) := by { rw [← hW]; clear hW; go_simp }
  have x6 : w4.cell? ⟨w.heap.size, 6, none⟩ = some (.int .i64 sd) := by { rw [← hW]; clear hW; go_simp }
  have x7 : w4.cell? ⟨w.heap.size, 7, none⟩ = some (.slice ap n cp) := by { rw [← hW]; clear hW; go_simp }
  have y0 : w4.cell? ⟨w.heap.size + 1, 0, none⟩ = some (.string onm) := by { rw [← hW]; clear hW; go_simp }
  have y1 : w4.cell? ⟨w.heap.size + 1, 1, none⟩ = some (.int .i64 oper) := by { rw [← hW]; clear hW; go_simp }
  have y2 : w4.cell? ⟨w.heap.size + 1, 2, none⟩ = some (.int .i64 oleast) := by { rw [← hW]; clear hW; go_simp }
  have y3 : w4.cell? ⟨w.heap.size + 1, 3, none⟩ = some (.int .i64 oa) := by { rw [← hW]; clear hW; go_simp }
  have y4 : w4.cell? ⟨w.heap.size + 1, 4, none⟩ = some (.int .i64 ob) := by { rw [← hW]; clear hW; go_simp }
  have y5 : w4.cell? ⟨w.heap.size + 1, 5, none⟩ = some (.int .i64 oc) := by { rw [← hW]; clear hW; go_simp }
  have y6 : w4.cell? ⟨w.heap.size + 1, 6, none⟩ = some (.int .i64 od) := by { rw [← hW]; clear hW; go_simp }
  have y7 : w4.cell? ⟨w.heap.size + 1, 7, none⟩ = some (.slice bp m dp) := by { rw [← hW]; clear hW; go_simp }
  have r0 : w4.cell? ⟨w.heap.size + 2, 0, none⟩ = some (.int .i64 w0) := by { rw [← hW]; clear hW; go_simp }
  have r1 : w4.cell? ⟨w.heap.size + 2, 1, none⟩ = some (.int .i64 w1) := by { rw [← hW]; clear hW; go_simp }
  have lr : w.heap.size + 2 < w4.heap.size := by { rw [← hW]; clear hW; simp; done }
  have ly : w.heap.size + 1 < w4.heap.size := by omega
  have lx : w.heap.size < w4.heap.size := by omega
  have HB := Lib.hid hb4
  clear hW hb4
  refine (awake9_any _).mono ?_
  rintro e5 w5 ⟨rfl, hb5⟩
  have hzx := hb5.size
  have x0d : w5.cell? ⟨w.heap.size, 0, none⟩ = some (.string snm) := by { rw [cellB hb5 _ _ (by first | (simp; done) | (simp; omega) | omega)]; all_goals (first | assumption | go_simp) }; have x1d : w5.cell? ⟨w.heap.size, 1, none⟩ = some (.int .i64 sper) := by { rw [cellB hb5 _ _ (by first | (simp; done) | (simp; omega) | omega)]; all_goals (first | assumption | go_simp) }; have x2d : w5.cell? ⟨w.heap.size, 2, none⟩ = some (.int .i64 sleast) := by { rw [cellB hb5 _ _ (by first | (simp; done) | (simp; omega) | omega)]; all_goals (first | assumption | go_simp) }; have x3d : w5.cell? ⟨w.heap.size, 3, none⟩ = some (.int .i64 sa) := by { rw [cellB hb5 _ _ (by first | (simp; done) | (simp; omega) | omega)]; all_goals (first | assumption | go_simp) }; have x4d : w5.cell? ⟨w.heap.size, 4, none⟩ = some (.int .i64 sb) := by { rw [cellB hb5 _ _ (by first | (simp; done) | (simp; omega) | omega)]; all_goals (first | assumption | go_simp) }; have x5d : w5.cell? ⟨w.heap.size, 5, none⟩ = some (.int .i64 sc) := by { rw [cellB hb5 _ _ (by first | (simp; done) | (simp; omega) | omega)]; all_goals (first | assumption | go_simp) }; have x6d : w5.cell? ⟨w.heap.size, 6, none⟩ = some (.int .i64 sd) := by { rw [cellB hb5 _ _ (by first | (simp; done) | (simp; omega) | omega)]; all_goals (first | assumption | go_simp) }; have x7d : w5.cell? ⟨w.heap.size, 7, none⟩ = some (.slice ap n cp) := by { rw [cellB hb5 _ _ (by first | (simp; done) | (simp; omega) | omega)]; all_goals (first | assumption | go_simp) }; have y0d : w5.cell? ⟨w.heap.size + 1, 0, none⟩ = some (.string onm) := by { rw [cellB hb5 _ _ (by first | (simp; done) | (simp; omega) | omega)]; all_goals (first | assumption | go_simp) }; have y1d : w5.cell? ⟨w.heap.size + 1, 1, none⟩ = some (.int .i64 oper) := by { rw [cellB hb5 _ _ (by first | (simp; done) | (simp; omega) | omega)]; all_goals (first | assumption | go_simp) }; have y2d : w5.cell? ⟨w.heap.size + 1, 2, none⟩ = some (.int .i64 oleast) := by { rw [cellB hb5 _ _ (by first | (simp; done) | (simp; omega) | omega)]; all_goals (first | assumption | go_simp) }; have y3d : w5.cell? ⟨w.heap.size + 1, 3, none⟩ = some (.int .i64 oa) := by { rw [cellB hb5 _ _ (by first | (simp; done) | (simp; omega) | omega)]; all_goals (first | assumption | go_simp) }; have y4d : w5.cell? ⟨w.heap.size + 1, 4, none⟩ = some (.int .i64 ob) := by { rw [cellB hb5 _ _ (by first | (simp; done) | (simp; omega) | omega)]; all_goals (first | assumption | go_simp) }; have y5d : w5.cell? ⟨w.heap.size + 1, 5, none⟩ = some (.int .i64 oc) := by { rw [cellB hb5 _ _ (by first | (simp; done) | (simp; omega) | omega)]; all_goals (first | assumption | go_simp) }; have y6d : w5.cell? ⟨w.heap.size + 1, 6, none⟩ = some (.int .i64 od) := by { rw [cellB hb5 _ _ (by first | (simp; done) | (simp; omega) | omega)]; all_goals (first | assumption | go_simp) }; have y7d : w5.cell? ⟨w.heap.size + 1, 7, none⟩ = some (.slice bp m dp) := by { rw [cellB hb5 _ _ (by first | (simp; done) | (simp; omega) | omega)]; all_goals (first | assumption | go_simp) }; have r0d : w5.cell? ⟨w.heap.size + 2, 0, none⟩ = some (.int .i64 w0) := by { rw [cellB hb5 _ _ (by first | (simp; done) | (simp; omega) | omega)]; all_goals (first | assumption | go_simp) }; have r1d : w5.cell? ⟨w.heap.size + 2, 1, none⟩ = some (.int .i64 w1) := by { rw [cellB hb5 _ _ (by first | (simp; done) | (simp; omega) | omega)]; all_goals (first | assumption | go_simp) }; have lxd : w.heap.size < w5.heap.size := by { omega }; have lyd : w.heap.size + 1 < w5.heap.size := by { omega }; have lrd : w.heap.size + 2 < w5.heap.size := by { omega }
  have HB := Lib.hid (HB.out.trans (hb5.mono HB.out.size))
  clear x0 x1 x2 x3 x4 x5 x6 x7 y0 y1 y2 y3 y4 y5 y6 y7 r0 r1 lx ly lr hzx
  clear hb5
  go_wp2_with fail
  refine (HFS.out _).mono ?_
  rintro e6 w6 ⟨rfl, hb6⟩
  have hzx := hb6.size
  have x0 : w6.cell? ⟨w.heap.size, 0, none⟩ = some (.string snm) := by { rw [cellB hb6 _ _ (by first | (simp; done) | (simp; omega) | omega)]; all_goals (first | assumption | go_simp) }; have x1 : w6.cell? ⟨w.heap.size, 1, none⟩ = some (.int .i64 sper) := by { rw [cellB hb6 _ _ (by first | (simp; done) | (simp; omega) | omega)]; all_goals (first | assumption | go_simp) }; have x2 : w6.cell? ⟨w.heap.size, 2, none⟩ = some (.int .i64 sleast) := by { rw [cellB hb6 _ _ (by first | (simp; done) | (simp; omega) | omega)]; all_goals (first | assumption | go_simp) }; have x3 : w6.cell? ⟨w.heap.size, 3, none⟩ = some (.int .i64 sa) := by { rw [cellB hb6 _ _ (by first | (simp; done) | (simp; omega) | omega)]; all_goals (first | assumption | go_simp) }; have x4 : w6.cell? ⟨w.heap.size, 4, none⟩ = some (.int .i64 sb) := by { rw [cellB hb6 _ _ (by first | (simp; done) | (simp; omega) | omega)]; all_goals (first | assumption | go_simp) }; have x5 : w6.cell? ⟨w.heap.size, 5, none⟩ = some (.int .i64 sc) := by { rw [cellB hb6 _ _ (by first | (simp; done) | (simp; omega) | omega)]; all_goals (first | assumption | go_simp) }; have x6 : w6.cell? ⟨w.heap.size, 6, none⟩ = some (.int .i64 sd) := by { rw [cellB hb6 _ _ (by first | (simp; done) | (simp; omega) | omega)]; all_goals (first | assumption | go_simp) }; have x7 : w6.cell? ⟨w.heap.size, 7, none⟩ = some (.slice ap n cp) := by { rw [cellB hb6 _ _ (by first | (simp; done) | (simp; omega) | omega)]; all_goals (first | assumption | go_simp) }; have y0 : w6.cell? ⟨w.heap.size + 1, 0, none⟩ = some (.string onm) := by { rw [cellB hb6 _ _ (by first | (simp; done) | (simp; omega) | omega)]; all_goals (first | assumption | go_simp) }; have y1 : w6.cell? ⟨w.heap.size + 1, 1, none⟩ = some (.int .i64 oper) := by { rw [cellB hb6 _ _ (by first | (simp; done) | (simp; omega) | omega)]; all_goals (first | assumption | go_simp) }; have y2 : w6.cell? ⟨w.heap.size + 1, 2, none⟩ = some (.int .i64 oleast) := by { rw [cellB hb6 _ _ (by first | (simp; done) | (simp; omega) | omega)]; all_goals (first | assumption | go_simp) }; have y3 : w6.cell? ⟨w.heap.size + 1, 3, none⟩ = some (.int .i64 oa) := by { rw [cellB hb6 _ _ (by first | (simp; done) | (simp; omega) | omega)]; all_goals (first | assumption | go_simp) }; have y4 : w6.cell? ⟨w.heap.size + 1, 4, none⟩ = some (.int .i64 ob) := by { rw [cellB hb6 _ _ (by first | (simp; done) | (simp; omega) | omega)]; all_goals (first | assumption | go_simp) }; have y5 : w6.cell? ⟨w.heap.size + 1, 5, none⟩ = some (.int .i64 oc) := by { rw [cellB hb6 _ _ (by first | (simp; done) | (simp; omega) | omega)]; all_goals (first | assumption | go_simp) }; have y6 : w6.cell? ⟨w.heap.size + 1, 6, none⟩ = some (.int .i64 od) := by { rw [cellB hb6 _ _ (by first | (simp; done) | (simp; omega) | omega)]; all_goals (first | assumption | go_simp) }; have y7 : w6.cell? ⟨w.heap.size + 1, 7, none⟩ = some (.slice bp m dp) := by { rw [cellB hb6 _ _ (by first | (simp; done) | (simp; omega) | omega)]; all_goals (first | assumption | go_simp) }; have r0 : w6.cell? ⟨w.heap.size + 2, 0, none⟩ = some (.int .i64 w0) := by { rw [cellB hb6 _ _ (by first | (simp; done) | (simp; omega) | omega)]; all_goals (first | assumption | go_simp) }; have r1 : w6.cell? ⟨w.heap.size + 2, 1, none⟩ = some (.int .i64 w1) := by { rw [cellB hb6 _ _ (by first | (simp; done) | (simp; omega) | omega)]; all_goals (first | assumption | go_simp) }; have lx : w.heap.size < w6.heap.size := by { omega }; have ly : w.heap.size + 1 < w6.heap.size := by { omega }; have lr : w.heap.size + 2 < w6.heap.size := by { omega }
  have HB := Lib.hid (HB.out.trans (hb6.mono HB.out.size))
  clear x0d x1d x2d x3d x4d x5d x6d x7d y0d y1d y2d y3d y4d y5d y6d y7d r0d r1d lxd lyd lrd hzx
  clear hb6
  go_wp2_with fail
  refine (HFO.out _).mono ?_
  rintro e7 w7 ⟨rfl, hb7⟩
  have hzx := hb7.size
  have x0d : w7.cell? ⟨w.heap.size, 0, none⟩ = some (.string snm) := by { rw [cellB hb7 _ _ (by first | (simp; done) | (simp; omega) | omega)]; all_goals (first | assumption | go_simp) }; have x1d : w7.cell? ⟨w.heap.size, 1, none⟩ = some (.int .i64 sper) := by { rw [cellB hb7 _ _ (by first | (simp; done) | (simp; omega) | omega)]; all_goals (first | assumption | go_simp) }; have x2d : w7.cell? ⟨w.heap.size, 2, none⟩ = some (.int .i64 sleast) := by { rw [cellB hb7 _ _ (by first | (simp; done) | (simp; omega) | omega)]; all_goals (first | assumption | go_simp) }; have x3d : w7.cell? ⟨w.heap.size, 3, none⟩ = some (.int .i64 sa) := by { rw [cellB hb7 _ _ (by first | (simp; done) | (simp; omega) | omega)]; all_goals (first | assumption | go_simp) }; have x4d : w7.cell? ⟨w.heap.size, 4, none⟩ = some (.int .i64 sb) := by { rw [cellB hb7 _ _ (by first | (simp; done) | (simp; omega) | omega)]; all_goals (first | assumption | go_simp) }; have x5d : w7.cell? ⟨w.heap.size, 5, none⟩ = some (.int .i64 sc) := by { rw [cellB hb7 _ _ (by first | (simp; done) | (simp; omega) | omega)]; all_goals (first | assumption | go_simp) }; have x6d : w7.cell? ⟨w.heap.size, 6, none⟩ = some (.int .i64 sd) := by { rw [cellB hb7 _ _ (by first | (simp; done) | (simp; omega) | omega)]; all_goals (first | assumption | go_simp) }; have x7d : w7.cell? ⟨w.heap.size, 7, none⟩ = some (.slice ap n cp) := by { rw [cellB hb7 _ _ (by first | (simp; done) | (simp; omega) | omega)]; all_goals (first | assumption | go_simp) }; have y0d : w7.cell? ⟨w.heap.size + 1, 0, none⟩ = some (.string onm) := by { rw [cellB hb7 _ _ (by first | (simp; done) | (simp; omega) | omega)]; all_goals (first | assumption | go_simp) }; have y1d : w7.cell? ⟨w.heap.size + 1, 1, none⟩ = some (.int .i64 oper) := by { rw [cellB hb7 _ _ (by first | (simp; done) | (simp; omega) | omega)]; all_goals (first | assumption | go_simp) }; have y2d : w7.cell? ⟨w.heap.size + 1, 2, none⟩ = some (.int .i64 oleast) := by { rw [cellB hb7 _ _ (by first | (simp; done) | (simp; omega) | omega)]; all_goals (first | assumption | go_simp) }; have y3d : w7.cell? ⟨w.heap.size + 1, 3, none⟩ = some (.int .i64 oa) := by { rw [cellB hb7 _ _ (by first | (simp; done) | (simp; omega) | omega)]; all_goals (first | assumption | go_simp) }; have y4d : w7.cell? ⟨w.heap.size + 1, 4, none⟩ = some (.int .i64 ob) := by { rw [cellB hb7 _ _ (by first | (simp; done) | (simp; omega) | omega)]; all_goals (first | assumption | go_simp) }; have y5d : w7.cell? ⟨w.heap.size + 1, 5, none⟩ = some (.int .i64 oc) := by { rw [cellB hb7 _ _ (by first | (simp; done) | (simp; omega) | omega)]; all_goals (first | assumption | go_simp) }; have y6d : w7.cell? ⟨w.heap.size + 1, 6, none⟩ = some (.int .i64 od) := by { rw [cellB hb7 _ _ (by first | (simp; done) | (simp; omega) | omega)]; all_goals (first | assumption | go_simp) }; have y7d : w7.cell? ⟨w.heap.size + 1, 7, none⟩ = some (.slice bp m dp) := by { rw [cellB hb7 _ _ (by first | (simp; done) | (simp; omega) | omega)]; all_goals (first | assumption | go_simp) }; have r0d : w7.cell? ⟨w.heap.size + 2, 0, none⟩ = some (.int .i64 w0) := by { rw [cellB hb7 _ _ (by first | (simp; done) | (simp; omega) | omega)]; all_goals (first | assumption | go_simp) }; have r1d : w7.cell? ⟨w.heap.size + 2, 1, none⟩ = some (.int .i64 w1) := by { rw [cellB hb7 _ _ (by first | (simp; done) | (simp; omega) | omega)]; all_goals (first | assumption | go_simp) }; have lxd : w.heap.size < w7.heap.size := by { omega }; have lyd : w.heap.size + 1 < w7.heap.size := by { omega }; have lrd : w.heap.size + 2 < w7.heap.size := by { omega }
  have HB := Lib.hid (HB.out.trans (hb7.mono HB.out.size))
  clear x0 x1 x2 x3 x4 x5 x6 x7 y0 y1 y2 y3 y4 y5 y6 y7 r0 r1 lx ly lr hzx
  clear hb7
  go_wp2_with fail
  refine (HOE.out _ HB.out).mono ?_
  rintro e8 w8 ⟨rfl, hb8⟩
  have hzx := hb8.size
  have x0 : w8.cell? ⟨w.heap.size, 0, none⟩ = some (.string snm) := by { rw [cellB hb8 _ _ (by first | (simp; done) | (simp; omega) | omega)]; all_goals (first | assumption | go_simp) }; have x1 : w8.cell? ⟨w.heap.size, 1, none⟩ = some (.int .i64 sper) := by { rw [cellB hb8 _ _ (by first | (simp; done) | (simp; omega) | omega)]; all_goals (first | assumption | go_simp) }; have x2 : w8.cell? ⟨w.heap.size, 2, none⟩ = some (.int .i64 sleast) := by { rw [cellB hb8 _ _ (by first | (simp; done) | (simp; omega) | omega)]; all_goals (first | assumption | go_simp) }; have x3 : w8.cell? ⟨w.heap.size, 3, none⟩ = some (.int .i64 sa) := by { rw [cellB hb8 _ _ (by first | (simp; done) | (simp; omega) | omega)]; all_goals (first | assumption | go_simp) }; have x4 : w8.cell? ⟨w.heap.size, 4, none⟩ = some (.int .i64 sb) := by { rw [cellB hb8 _ _ (by first | (simp; done) | (simp; omega) | omega)]; all_goals (first | assumption | go_simp) }; have x5 : w8.cell? ⟨w.heap.size, 5, none⟩ = some (.int .i64 sc) := by { rw [cellB hb8 _ _ (by first | (simp; done) | (simp; omega) | omega)]; all_goals (first | assumption | go_simp) }; have x6 : w8.cell? ⟨w.heap.size, 6, none⟩ = some (.int .i64 sd) := by { rw [cellB hb8 _ _ (by first | (simp; done) | (simp; omega) | omega)]; all_goals (first | assumption | go_simp) }; have x7 : w8.cell? ⟨w.heap.size, 7, none⟩ = some (.slice ap n cp) := by { rw [cellB hb8 _ _ (by first | (simp; done) | (simp; omega) | omega)]; all_goals (first | assumption | go_simp) }; have y0 : w8.cell? ⟨w.heap.size + 1, 0, none⟩ = some (.string onm) := by { rw [cellB hb8 _ _ (by first | (simp; done) | (simp; omega) | omega)]; all_goals (first | assumption | go_simp) }; have y1 : w8.cell? ⟨w.heap.size + 1, 1, none⟩ = some (.int .i64 oper) := by { rw [cellB hb8 _ _ (by first | (simp; done) | (simp; omega) | omega)]; all_goals (first | assumption | go_simp) }; have y2 : w8.cell? ⟨w.heap.size + 1, 2, none⟩ = some (.int .i64 oleast) := by { rw [cellB hb8 _ _ (by first | (simp; done) | (simp; omega) | omega)]; all_goals (first | assumption | go_simp) }; have y3 : w8.cell? ⟨w.heap.size + 1, 3, none⟩ = some (.int .i64 oa) := by { rw [cellB hb8 _ _ (by first | (simp; done) | (simp; omega) | omega)]; all_goals (first | assumption | go_simp) }; have y4 : w8.cell? ⟨w.heap.size + 1, 4, none⟩ = some (.int .i64 ob) := by { rw [cellB hb8 _ _ (by first | (simp; done) | (simp; omega) | omega)]; all_goals (first | assumption | go_simp) }; have y5 : w8.cell? ⟨w.heap.size + 1, 5, none⟩ = some (.int .i64 oc) := by { rw [cellB hb8 _ _ (by first | (simp; done) | (simp; omega) | omega)]; all_goals (first | assumption | go_simp) }; have y6 : w8.cell? ⟨w.heap.size + 1, 6, none⟩ = some (.int .i64 od) := by { rw [cellB hb8 _ _ (by first | (simp; done) | (simp; omega) | omega)]; all_goals (first | assumption | go_simp) }; have y7 : w8.cell? ⟨w.heap.size + 1, 7, none⟩ = some (.slice bp m dp) := by { rw [cellB hb8 _ _ (by first | (simp; done) | (simp; omega) | omega)]; all_goals (first | assumption | go_simp) }; have r0 : w8.cell? ⟨w.heap.size + 2, 0, none⟩ = some (.int .i64 w0) := by { rw [cellB hb8 _ _ (by first | (simp; done) | (simp; omega) | omega)]; all_goals (first | assumption | go_simp) }; have r1 : w8.cell? ⟨w.heap.size + 2, 1, none⟩ = some (.int .i64 w1) := by { rw [cellB hb8 _ _ (by first | (simp; done) | (simp; omega) | omega)]; all_goals (first | assumption | go_simp) }; have lx : w.heap.size < w8.heap.size := by { omega }; have ly : w.heap.size + 1 < w8.heap.size := by { omega }; have lr : w.heap.size + 2 < w8.heap.size := by { omega }
  have HB := Lib.hid (HB.out.trans (hb8.mono HB.out.size))
  clear x0d x1d x2d x3d x4d x5d x6d x7d y0d y1d y2d y3d y4d y5d y6d y7d r0d r1d lxd lyd lrd hzx
  clear hb8
  go_wp2_with fail
  refine (HX9.out _).mono ?_
  rintro e9 w9 ⟨rfl, rfl⟩
  clear HFS HFO HOE HX9
  go_wp2_with fail
  go_cut [7, 8] from 44 to 53 (fun v9 v10 wx => ∃ (X : Nat) (a7 : Option Addr) (k7 c7 : Nat), v9 = .pointer (some ⟨X, 0, none⟩) ∧ v10 = .int .i64 0 ∧ wx.cell? ⟨X, 0, none⟩ = some (.string snm) ∧ wx.cell? ⟨X, 1, none⟩ = some (.int .i64 sper) ∧ wx.cell? ⟨X, 2, none⟩ = some (.int .i64 sleast) ∧ wx.cell? ⟨X, 3, none⟩ = some (.int .i64 sa) ∧ wx.cell? ⟨X, 4, none⟩ = some (.int .i64 sb) ∧ wx.cell? ⟨X, 5, none⟩ = some (.int .i64 sc) ∧ wx.cell? ⟨X, 6, none⟩ = some (.int .i64 sd) ∧ wx.cell? ⟨X, 7, none⟩ = some (.slice a7 k7 c7) ∧ X < wx.heap.size ∧ T3R wx a7 k7 CL ∧ Hid (Below w8.heap.size w8 wx))
  case first =>
    have HN := Lib.hid (Below.refl w8.heap.size w8).drew
    refine wp_region_laterT (B := w8.heap.size) (.head 0 (.head 2 (.head 4 (.head 5 (.two 1 (.two 3 (.two 6 (.head 7 (.head 8 (.head 9 (.one 10 (.one 11 (.head 12 .done)))))) 10 (.one 6 (.head 7 (.head 8 (.head 9 (.one 11 (.head 12 .done))))))) 10 (.one 3 (.one 6 (.head 7 (.head 8 (.head 9 (.one 11 (.head 12 .done)))))))) 10 (.one 1 (.one 3 (.one 6 (.head 7 (.head 8 (.head 9 (.one 11 (.head 12 .done))))))))))))) (by kernel_rfl) (by kernel_rfl) ?_
    repeat (refine tree_head rfl ?_; (show wpQuiet _ _ _ _ (_ :: _) _; go_big_quiet_step (fail)); refine wpQuiet_nil ?_)
    clear x0 y0 x1 y1 x2 y2 x3 y3 x4 y4 x5 y5 x6 y6 x7 y7 lx ly lr r0 r1
    refine tree_two rfl rfl ?_ ?_
    · go_wp2_with fail
      refine (HCS.out _ (HB.out.trans (HN.out.mono HB.out.size))).mono ?_
      rintro ex wx1 ⟨a17, c17, rfl, hbx, htx, _⟩
      have HT1 := Lib.hid htx
      clear htx
      have hzx := hbx.size
      have HN := Lib.hid (HN.out.trans (hbx.mono HN.out.size))
      clear hbx
      go_wp2_with fail
      refine tailL_mk HN.out ?_
      repeat (refine tree_head rfl ?_; (show wpQuiet _ _ _ _ (_ :: _) _; go_big_quiet_step (fail)); refine wpQuiet_nil ?_)
      refine tree_two rfl rfl ?_ ?_
      · go_wp2_with fail
        refine (HCO.out _ (HB.out.trans (HN.out.mono HB.out.size))).mono ?_
        rintro ex wx2 ⟨a18, c18, rfl, hbx, htx, _⟩
        have HT2 := Lib.hid htx
        clear htx
        have hzx := hbx.size
        have HN := Lib.hid (HN.out.trans (hbx.mono HN.out.size))
        have HT1 := Lib.hid (HT1.out.below hbx)
        clear hbx
        go_wp2_with fail
        refine tailL_mk HN.out ?_
        repeat (refine tree_head rfl ?_; (show wpQuiet _ _ _ _ (_ :: _) _; go_big_quiet_step (fail)); refine wpQuiet_nil ?_)
        refine tree_two rfl rfl ?_ ?_
        · go_wp2_with fail
          refine (HCL.out a17 a18 c17 c18 _ HT1.out HT2.out).mono ?_
          rintro ex wx3 ⟨a19, k19, c19, rfl, hbx, htx⟩
          have HT3 := Lib.hid (show PulO wx3 a19 k19 c19 CL from ⟨_, htx⟩)
          clear htx
          have hzx := hbx.size
          have HN := Lib.hid (HN.out.trans (hbx.mono HN.out.size))
          have HT1 := Lib.hid (HT1.out.below hbx)
          have HT2 := Lib.hid (HT2.out.below hbx)
          clear hbx
          go_wp2_with fail
          refine tailL_mk HN.out ?_
          repeat (refine tree_head rfl ?_; (show wpQuiet _ _ _ _ (_ :: _) _; go_big_quiet_step (fail)); refine wpQuiet_nil ?_)
          refine tree_one rfl ?_
          go_wp2_with fail
          obtain ⟨X9, hX9⟩ : ∃ X, X = wx3.heap.size := ⟨_, rfl⟩
          have hNX : w8.heap.size ≤ X9 := by rw [hX9]; exact HN.out.size
          have hx9 : (wx3.alloc (Obj.cells #[.string ⟨#[]⟩, .int .i64 0, .int .i64 0, .int .i64 0, .int .i64 0, .int .i64 0, .int .i64 0, .slice none 0 0] 56)).heap[X9]? = some (.cells #[.string ⟨#[]⟩, .int .i64 0, .int .i64 0, .int .i64 0, .int .i64 0, .int .i64 0, .int .i64 0, .slice none 0 0] 56) := by rw [hX9]; exact heap_alloc_new _ _
          have l9 : X9 < (wx3.alloc (Obj.cells #[.string ⟨#[]⟩, .int .i64 0, .int .i64 0, .int .i64 0, .int .i64 0, .int .i64 0, .int .i64 0, .slice none 0 0] 56)).heap.size := by rw [hX9]; simp
          have hs9 : (wx3.alloc (Obj.cells #[.string ⟨#[]⟩, .int .i64 0, .int .i64 0, .int .i64 0, .int .i64 0, .int .i64 0, .int .i64 0, .slice none 0 0] 56)).heap.size = wx3.heap.size + 1 := by simp
          have hbx : Below wx3.heap.size wx3 (wx3.alloc (Obj.cells #[.string ⟨#[]⟩, .int .i64 0, .int .i64 0, .int .i64 0, .int .i64 0, .int .i64 0, .int .i64 0, .slice none 0 0] 56)) := by (repeat' (first | (with_reducible exact Below.refl _ _) | (with_reducible assumption) | (with_reducible refine Below.drewN ?_ _) | (with_reducible refine Below.alloc ?_ ?_ _) | (with_reducible refine Below.drew ?_) | (with_reducible refine Below.setCell ?_ ?_ _) | (with_reducible refine Below.step (by assumption) ?_ ?_) | (with_reducible exact And.left (by assumption)) | go_size))
          try simp only [← hX9]
          generalize (wx3.alloc (Obj.cells #[.string ⟨#[]⟩, .int .i64 0, .int .i64 0, .int .i64 0, .int .i64 0, .int .i64 0, .int .i64 0, .slice none 0 0] 56)) = wx4 at *
          have HX9 := Lib.hid (And.intro hX9 hs9)
          have HN := Lib.hid (HN.out.trans (hbx.mono HN.out.size))
          have HT1 := Lib.hid (HT1.out.below hbx)
          have HT2 := Lib.hid (HT2.out.below hbx)
          have HT3 := Lib.hid (HT3.out.below hbx)
          clear hbx hX9 hs9
          refine tailL_mk HN.out ?_
          repeat (refine tree_head rfl ?_; (show wpQuiet _ _ _ _ (_ :: _) _; go_big_quiet_step (fail)); refine wpQuiet_nil ?_)
          refine tree_one rfl ?_
          have c90 := cell_of_row _ _ 0 _ _ _ hx9
          have f90 := frozen_of_row _ _ 0 _ _ hx9
          have c91 := cell_of_row _ _ 1 _ _ _ hx9
          have f91 := frozen_of_row _ _ 1 _ _ hx9
          have c92 := cell_of_row _ _ 2 _ _ _ hx9
          have f92 := frozen_of_row _ _ 2 _ _ hx9
          have c93 := cell_of_row _ _ 3 _ _ _ hx9
          have f93 := frozen_of_row _ _ 3 _ _ hx9
          have c94 := cell_of_row _ _ 4 _ _ _ hx9
          have f94 := frozen_of_row _ _ 4 _ _ hx9
          have c95 := cell_of_row _ _ 5 _ _ _ hx9
          have f95 := frozen_of_row _ _ 5 _ _ hx9
          have c96 := cell_of_row _ _ 6 _ _ _ hx9
          have f96 := frozen_of_row _ _ 6 _ _ hx9
          have c97 := cell_of_row _ _ 7 _ _ _ hx9
          have f97 := frozen_of_row _ _ 7 _ _ hx9
          simp only [List.getElem?_toArray, List.getElem?_cons_zero, List.getElem?_cons_succ] at c90 c91 c92 c93 c94 c95 c96 c97
          go_wp2_with fail
          have HN := Lib.hid (show Below w8.heap.size w8 ((((((((wx4.setCell ⟨X9, 0, none⟩ (.string snm)).setCell ⟨X9, 1, none⟩ (.int .i64 sper)).setCell ⟨X9, 2, none⟩ (.int .i64 sleast)).setCell ⟨X9, 3, none⟩ (.int .i64 sa)).setCell ⟨X9, 4, none⟩ (.int .i64 sb)).setCell ⟨X9, 5, none⟩ (.int .i64 sc)).setCell ⟨X9, 6, none⟩ (.int .i64 sd)).setCell ⟨X9, 7, none⟩ (.slice a19 k19 c19)) from Below.setCell (Below.setCell (Below.setCell (Below.setCell (Below.setCell (Below.setCell (Below.setCell (Below.setCell (HN.out) hNX _) hNX _) hNX _) hNX _) hNX _) hNX _) hNX _) hNX _)
          have hxo := hx9
          have hx9 : ((((((((wx4.setCell ⟨X9, 0, none⟩ (.string snm)).setCell ⟨X9, 1, none⟩ (.int .i64 sper)).setCell ⟨X9, 2, none⟩ (.int .i64 sleast)).setCell ⟨X9, 3, none⟩ (.int .i64 sa)).setCell ⟨X9, 4, none⟩ (.int .i64 sb)).setCell ⟨X9, 5, none⟩ (.int .i64 sc)).setCell ⟨X9, 6, none⟩ (.int .i64 sd)).setCell ⟨X9, 7, none⟩ (.slice a19 k19 c19)).heap[X9]? = some (.cells #[.string snm, .int .i64 sper, .int .i64 sleast, .int .i64 sa, .int .i64 sb, .int .i64 sc, .int .i64 sd, .slice a19 k19 c19] 56) := blk_set (blk_set (blk_set (blk_set (blk_set (blk_set (blk_set (blk_set (hx9) 0 (.string snm)) 1 (.int .i64 sper)) 2 (.int .i64 sleast)) 3 (.int .i64 sa)) 4 (.int .i64 sb)) 5 (.int .i64 sc)) 6 (.int .i64 sd)) 7 (.slice a19 k19 c19)
          refine tailL_mk HN.out ?_
          repeat (refine tree_head rfl ?_; (show wpQuiet _ _ _ _ (_ :: _) _; go_big_quiet_step (fail)); refine wpQuiet_nil ?_)
          refine tree_done ?_
          go_wp2_with fail
          go_meet
          case rel => exact ⟨X9, a19, k19, c19, rfl, rfl, blk_cell hx9 (i := 0) rfl, blk_cell hx9 (i := 1) rfl, blk_cell hx9 (i := 2) rfl, blk_cell hx9 (i := 3) rfl, blk_cell hx9 (i := 4) rfl, blk_cell hx9 (i := 5) rfl, blk_cell hx9 (i := 6) rfl, blk_cell hx9 (i := 7) rfl, by simpa using l9, (PX.set (PX.set (PX.set (PX.set (PX.set (PX.set (PX.set (PX.set ⟨HT3.out, _, hxo⟩ 0 _) 1 _) 2 _) 3 _) 4 _) 5 _) 6 _) 7 _).1.t3, HN⟩
        · go_wp2_with fail
          obtain ⟨X9, hX9⟩ : ∃ X, X = wx2.heap.size := ⟨_, rfl⟩
          have hNX : w8.heap.size ≤ X9 := by rw [hX9]; exact HN.out.size
          have hx9 : (wx2.alloc (Obj.cells #[.string ⟨#[]⟩, .int .i64 0, .int .i64 0, .int .i64 0, .int .i64 0, .int .i64 0, .int .i64 0, .slice none 0 0] 56)).heap[X9]? = some (.cells #[.string ⟨#[]⟩, .int .i64 0, .int .i64 0, .int .i64 0, .int .i64 0, .int .i64 0, .int .i64 0, .slice none 0 0] 56) := by rw [hX9]; exact heap_alloc_new _ _
          have l9 : X9 < (wx2.alloc (Obj.cells #[.string ⟨#[]⟩, .int .i64 0, .int .i64 0, .int .i64 0, .int .i64 0, .int .i64 0, .int .i64 0, .slice none 0 0] 56)).heap.size := by rw [hX9]; simp
          have hs9 : (wx2.alloc (Obj.cells #[.string ⟨#[]⟩, .int .i64 0, .int .i64 0, .int .i64 0, .int .i64 0, .int .i64 0, .int .i64 0, .slice none 0 0] 56)).heap.size = wx2.heap.size + 1 := by simp
          have hbx : Below wx2.heap.size wx2 (wx2.alloc (Obj.cells #[.string ⟨#[]⟩, .int .i64 0, .int .i64 0, .int .i64 0, .int .i64 0, .int .i64 0, .int .i64 0, .slice none 0 0] 56)) := by (repeat' (first | (with_reducible exact Below.refl _ _) | (with_reducible assumption) | (with_reducible refine Below.drewN ?_ _) | (with_reducible refine Below.alloc ?_ ?_ _) | (with_reducible refine Below.drew ?_) | (with_reducible refine Below.setCell ?_ ?_ _) | (with_reducible refine Below.step (by assumption) ?_ ?_) | (with_reducible exact And.left (by assumption)) | go_size))
          try simp only [← hX9]
          generalize (wx2.alloc (Obj.cells #[.string ⟨#[]⟩, .int .i64 0, .int .i64 0, .int .i64 0, .int .i64 0, .int .i64 0, .int .i64 0, .slice none 0 0] 56)) = wx6 at *
          have HX9 := Lib.hid (And.intro hX9 hs9)
          have HN := Lib.hid (HN.out.trans (hbx.mono HN.out.size))
          have HT1 := Lib.hid (HT1.out.below hbx)
          have HT2 := Lib.hid (HT2.out.below hbx)
          clear hbx hX9 hs9
          refine tailL_mk HN.out ?_
          repeat (refine tree_head rfl ?_; (show wpQuiet _ _ _ _ (_ :: _) _; go_big_quiet_step (fail)); refine wpQuiet_nil ?_)
          refine tree_one rfl ?_
          go_wp2_with fail
          refine (HCL.out a17 a18 c17 c18 _ HT1.out HT2.out).mono ?_
          rintro ex wx7 ⟨a19, k19, c19, rfl, hbx, htx⟩
          have HT3 := Lib.hid (show PulO wx7 a19 k19 c19 CL from ⟨_, htx⟩)
          clear htx
          have hzx := hbx.size
          have HN := Lib.hid (HN.out.trans (hbx.mono HN.out.size))
          have HT1 := Lib.hid (HT1.out.below hbx)
          have HT2 := Lib.hid (HT2.out.below hbx)
          have hx9 := (hbx.block X9 l9).trans hx9
          have l9 := Nat.lt_of_lt_of_le l9 hbx.size
          clear hbx
          go_wp2_with fail
          refine tailL_mk HN.out ?_
          repeat (refine tree_head rfl ?_; (show wpQuiet _ _ _ _ (_ :: _) _; go_big_quiet_step (fail)); refine wpQuiet_nil ?_)
          refine tree_one rfl ?_
          have c90 := cell_of_row _ _ 0 _ _ _ hx9
          have f90 := frozen_of_row _ _ 0 _ _ hx9
          have c91 := cell_of_row _ _ 1 _ _ _ hx9
          have f91 := frozen_of_row _ _ 1 _ _ hx9
          have c92 := cell_of_row _ _ 2 _ _ _ hx9
          have f92 := frozen_of_row _ _ 2 _ _ hx9
          have c93 := cell_of_row _ _ 3 _ _ _ hx9
          have f93 := frozen_of_row _ _ 3 _ _ hx9
          have c94 := cell_of_row _ _ 4 _ _ _ hx9
          have f94 := frozen_of_row _ _ 4 _ _ hx9
          have c95 := cell_of_row _ _ 5 _ _ _ hx9
          have f95 := frozen_of_row _ _ 5 _ _ hx9
          have c96 := cell_of_row _ _ 6 _ _ _ hx9
          have f96 := frozen_of_row _ _ 6 _ _ hx9
          have c97 := cell_of_row _ _ 7 _ _ _ hx9
          have f97 := frozen_of_row _ _ 7 _ _ hx9
          simp only [List.getElem?_toArray, List.getElem?_cons_zero, List.getElem?_cons_succ] at c90 c91 c92 c93 c94 c95 c96 c97
          go_wp2_with fail
          have HN := Lib.hid (show Below w8.heap.size w8 ((((((((wx7.setCell ⟨X9, 0, none⟩ (.string snm)).setCell ⟨X9, 1, none⟩ (.int .i64 sper)).setCell ⟨X9, 2, none⟩ (.int .i64 sleast)).setCell ⟨X9, 3, none⟩ (.int .i64 sa)).setCell ⟨X9, 4, none⟩ (.int .i64 sb)).setCell ⟨X9, 5, none⟩ (.int .i64 sc)).setCell ⟨X9, 6, none⟩ (.int .i64 sd)).setCell ⟨X9, 7, none⟩ (.slice a19 k19 c19)) from Below.setCell (Below.setCell (Below.setCell (Below.setCell (Below.setCell (Below.setCell (Below.setCell (Below.setCell (HN.out) hNX _) hNX _) hNX _) hNX _) hNX _) hNX _) hNX _) hNX _)
          have hxo := hx9
          have hx9 : ((((((((wx7.setCell ⟨X9, 0, none⟩ (.string snm)).setCell ⟨X9, 1, none⟩ (.int .i64 sper)).setCell ⟨X9, 2, none⟩ (.int .i64 sleast)).setCell ⟨X9, 3, none⟩ (.int .i64 sa)).setCell ⟨X9, 4, none⟩ (.int .i64 sb)).setCell ⟨X9, 5, none⟩ (.int .i64 sc)).setCell ⟨X9, 6, none⟩ (.int .i64 sd)).setCell ⟨X9, 7, none⟩ (.slice a19 k19 c19)).heap[X9]? = some (.cells #[.string snm, .int .i64 sper, .int .i64 sleast, .int .i64 sa, .int .i64 sb, .int .i64 sc, .int .i64 sd, .slice a19 k19 c19] 56) := blk_set (blk_set (blk_set (blk_set (blk_set (blk_set (blk_set (blk_set (hx9) 0 (.string snm)) 1 (.int .i64 sper)) 2 (.int .i64 sleast)) 3 (.int .i64 sa)) 4 (.int .i64 sb)) 5 (.int .i64 sc)) 6 (.int .i64 sd)) 7 (.slice a19 k19 c19)
          refine tailL_mk HN.out ?_
          repeat (refine tree_head rfl ?_; (show wpQuiet _ _ _ _ (_ :: _) _; go_big_quiet_step (fail)); refine wpQuiet_nil ?_)
          refine tree_done ?_
          go_wp2_with fail
          go_meet
          case rel => exact ⟨X9, a19, k19, c19, rfl, rfl, blk_cell hx9 (i := 0) rfl, blk_cell hx9 (i := 1) rfl, blk_cell hx9 (i := 2) rfl, blk_cell hx9 (i := 3) rfl, blk_cell hx9 (i := 4) rfl, blk_cell hx9 (i := 5) rfl, blk_cell hx9 (i := 6) rfl, blk_cell hx9 (i := 7) rfl, by simpa using l9, (PX.set (PX.set (PX.set (PX.set (PX.set (PX.set (PX.set (PX.set ⟨HT3.out, _, hxo⟩ 0 _) 1 _) 2 _) 3 _) 4 _) 5 _) 6 _) 7 _).1.t3, HN⟩
      · go_wp2_with fail
        obtain ⟨X9, hX9⟩ : ∃ X, X = wx1.heap.size := ⟨_, rfl⟩
        have hNX : w8.heap.size ≤ X9 := by rw [hX9]; exact HN.out.size
        have hx9 : (wx1.alloc (Obj.cells #[.string ⟨#[]⟩, .int .i64 0, .int .i64 0, .int .i64 0, .int .i64 0, .int .i64 0, .int .i64 0, .slice none 0 0] 56)).heap[X9]? = some (.cells #[.string ⟨#[]⟩, .int .i64 0, .int .i64 0, .int .i64 0, .int .i64 0, .int .i64 0, .int .i64 0, .slice none 0 0] 56) := by rw [hX9]; exact heap_alloc_new _ _
        have l9 : X9 < (wx1.alloc (Obj.cells #[.string ⟨#[]⟩, .int .i64 0, .int .i64 0, .int .i64 0, .int .i64 0, .int .i64 0, .int .i64 0, .slice none 0 0] 56)).heap.size := by rw [hX9]; simp
        have hs9 : (wx1.alloc (Obj.cells #[.string ⟨#[]⟩, .int .i64 0, .int .i64 0, .int .i64 0, .int .i64 0, .int .i64 0, .int .i64 0, .slice none 0 0] 56)).heap.size = wx1.heap.size + 1 := by simp
        have hbx : Below wx1.heap.size wx1 (wx1.alloc (Obj.cells #[.string ⟨#[]⟩, .int .i64 0, .int .i64 0, .int .i64 0, .int .i64 0, .int .i64 0, .int .i64 0, .slice none 0 0] 56)) := by (repeat' (first | (with_reducible exact Below.refl _ _) | (with_reducible assumption) | (with_reducible refine Below.drewN ?_ _) | (with_reducible refine Below.alloc ?_ ?_ _) | (with_reducible refine Below.drew ?_) | (with_reducible refine Below.setCell ?_ ?_ _) | (with_reducible refine Below.step (by assumption) ?_ ?_) | (with_reducible exact And.left (by assumption)) | go_size))
        try simp only [← hX9]
        generalize (wx1.alloc (Obj.cells #[.string ⟨#[]⟩, .int .i64 0, .int .i64 0, .int .i64 0, .int .i64 0, .int .i64 0, .int .i64 0, .slice none 0 0] 56)) = wx9 at *
        have HX9 := Lib.hid (And.intro hX9 hs9)
        have HN := Lib.hid (HN.out.trans (hbx.mono HN.out.size))
        have HT1 := Lib.hid (HT1.out.below hbx)
        clear hbx hX9 hs9
        refine tailL_mk HN.out ?_
        repeat (refine tree_head rfl ?_; (show wpQuiet _ _ _ _ (_ :: _) _; go_big_quiet_step (fail)); refine wpQuiet_nil ?_)
        refine tree_one rfl ?_
        go_wp2_with fail
        refine (HCO.out _ (HB.out.trans (HN.out.mono HB.out.size))).mono ?_
        rintro ex wx10 ⟨a18, c18, rfl, hbx, htx, _⟩
        have HT2 := Lib.hid htx
        clear htx
        have hzx := hbx.size
        have HN := Lib.hid (HN.out.trans (hbx.mono HN.out.size))
        have HT1 := Lib.hid (HT1.out.below hbx)
        have hx9 := (hbx.block X9 l9).trans hx9
        have l9 := Nat.lt_of_lt_of_le l9 hbx.size
        clear hbx
        go_wp2_with fail
        refine tailL_mk HN.out ?_
        repeat (refine tree_head rfl ?_; (show wpQuiet _ _ _ _ (_ :: _) _; go_big_quiet_step (fail)); refine wpQuiet_nil ?_)
        refine tree_one rfl ?_
        go_wp2_with fail
        refine (HCL.out a17 a18 c17 c18 _ HT1.out HT2.out).mono ?_
        rintro ex wx11 ⟨a19, k19, c19, rfl, hbx, htx⟩
        have HT3 := Lib.hid (show PulO wx11 a19 k19 c19 CL from ⟨_, htx⟩)
        clear htx
        have hzx := hbx.size
        have HN := Lib.hid (HN.out.trans (hbx.mono HN.out.size))
        have HT1 := Lib.hid (HT1.out.below hbx)
        have HT2 := Lib.hid (HT2.out.below hbx)
        have hx9 := (hbx.block X9 l9).trans hx9
        have l9 := Nat.lt_of_lt_of_le l9 hbx.size
        clear hbx
        go_wp2_with fail
        refine tailL_mk HN.out ?_
        repeat (refine tree_head rfl ?_; (show wpQuiet _ _ _ _ (_ :: _) _; go_big_quiet_step (fail)); refine wpQuiet_nil ?_)
        refine tree_one rfl ?_
        have c90 := cell_of_row _ _ 0 _ _ _ hx9
        have f90 := frozen_of_row _ _ 0 _ _ hx9
        have c91 := cell_of_row _ _ 1 _ _ _ hx9
        have f91 := frozen_of_row _ _ 1 _ _ hx9
        have c92 := cell_of_row _ _ 2 _ _ _ hx9
        have f92 := frozen_of_row _ _ 2 _ _ hx9
        have c93 := cell_of_row _ _ 3 _ _ _ hx9
        have f93 := frozen_of_row _ _ 3 _ _ hx9
        have c94 := cell_of_row _ _ 4 _ _ _ hx9
        have f94 := frozen_of_row _ _ 4 _ _ hx9
        have c95 := cell_of_row _ _ 5 _ _ _ hx9
        have f95 := frozen_of_row _ _ 5 _ _ hx9
        have c96 := cell_of_row _ _ 6 _ _ _ hx9
        have f96 := frozen_of_row _ _ 6 _ _ hx9
        have c97 := cell_of_row _ _ 7 _ _ _ hx9
        have f97 := frozen_of_row _ _ 7 _ _ hx9
        simp only [List.getElem?_toArray, List.getElem?_cons_zero, List.getElem?_cons_succ] at c90 c91 c92 c93 c94 c95 c96 c97
        go_wp2_with fail
        have HN := Lib.hid (show Below w8.heap.size w8 ((((((((wx11.setCell ⟨X9, 0, none⟩ (.string snm)).setCell ⟨X9, 1, none⟩ (.int .i64 sper)).setCell ⟨X9, 2, none⟩ (.int .i64 sleast)).setCell ⟨X9, 3, none⟩ (.int .i64 sa)).setCell ⟨X9, 4, none⟩ (.int .i64 sb)).setCell ⟨X9, 5, none⟩ (.int .i64 sc)).setCell ⟨X9, 6, none⟩ (.int .i64 sd)).setCell ⟨X9, 7, none⟩ (.slice a19 k19 c19)) from Below.setCell (Below.setCell (Below.setCell (Below.setCell (Below.setCell (Below.setCell (Below.setCell (Below.setCell (HN.out) hNX _) hNX _) hNX _) hNX _) hNX _) hNX _) hNX _) hNX _)
        have hxo := hx9
        have hx9 : ((((((((wx11.setCell ⟨X9, 0, none⟩ (.string snm)).setCell ⟨X9, 1, none⟩ (.int .i64 sper)).setCell ⟨X9, 2, none⟩ (.int .i64 sleast)).setCell ⟨X9, 3, none⟩ (.int .i64 sa)).setCell ⟨X9, 4, none⟩ (.int .i64 sb)).setCell ⟨X9, 5, none⟩ (.int .i64 sc)).setCell ⟨X9, 6, none⟩ (.int .i64 sd)).setCell ⟨X9, 7, none⟩ (.slice a19 k19 c19)).heap[X9]? = some (.cells #[.string snm, .int .i64 sper, .int .i64 sleast, .int .i64 sa, .int .i64 sb, .int .i64 sc, .int .i64 sd, .slice a19 k19 c19] 56) := blk_set (blk_set (blk_set (blk_set (blk_set (blk_set (blk_set (blk_set (hx9) 0 (.string snm)) 1 (.int .i64 sper)) 2 (.int .i64 sleast)) 3 (.int .i64 sa)) 4 (.int .i64 sb)) 5 (.int .i64 sc)) 6 (.int .i64 sd)) 7 (.slice a19 k19 c19)
        refine tailL_mk HN.out ?_
        repeat (refine tree_head rfl ?_; (show wpQuiet _ _ _ _ (_ :: _) _; go_big_quiet_step (fail)); refine wpQuiet_nil ?_)
        refine tree_done ?_
        go_wp2_with fail
        go_meet
        case rel => exact ⟨X9, a19, k19, c19, rfl, rfl, blk_cell hx9 (i := 0) rfl, blk_cell hx9 (i := 1) rfl, blk_cell hx9 (i := 2) rfl, blk_cell hx9 (i := 3) rfl, blk_cell hx9 (i := 4) rfl, blk_cell hx9 (i := 5) rfl, blk_cell hx9 (i := 6) rfl, blk_cell hx9 (i := 7) rfl, by simpa using l9, (PX.set (PX.set (PX.set (PX.set (PX.set (PX.set (PX.set (PX.set ⟨HT3.out, _, hxo⟩ 0 _) 1 _) 2 _) 3 _) 4 _) 5 _) 6 _) 7 _).1.t3, HN⟩
    · go_wp2_with fail
      obtain ⟨X9, hX9⟩ : ∃ X, X = w8.heap.size := ⟨_, rfl⟩
      have hNX : w8.heap.size ≤ X9 := by rw [hX9]; exact HN.out.size
      have hx9 : (w8.alloc (Obj.cells #[.string ⟨#[]⟩, .int .i64 0, .int .i64 0, .int .i64 0, .int .i64 0, .int .i64 0, .int .i64 0, .slice none 0 0] 56)).drew.heap[X9]? = some (.cells #[.string ⟨#[]⟩, .int .i64 0, .int .i64 0, .int .i64 0, .int .i64 0, .int .i64 0, .int .i64 0, .slice none 0 0] 56) := by rw [hX9]; exact heap_alloc_new _ _
      have l9 : X9 < (w8.alloc (Obj.cells #[.string ⟨#[]⟩, .int .i64 0, .int .i64 0, .int .i64 0, .int .i64 0, .int .i64 0, .int .i64 0, .slice none 0 0] 56)).drew.heap.size := by rw [hX9]; simp
      have hs9 : (w8.alloc (Obj.cells #[.string ⟨#[]⟩, .int .i64 0, .int .i64 0, .int .i64 0, .int .i64 0, .int .i64 0, .int .i64 0, .slice none 0 0] 56)).drew.heap.size = w8.heap.size + 1 := by simp
      have hbx : Below w8.heap.size w8 (w8.alloc (Obj.cells #[.string ⟨#[]⟩, .int .i64 0, .int .i64 0, .int .i64 0, .int .i64 0, .int .i64 0, .int .i64 0, .slice none 0 0] 56)).drew := by (repeat' (first | (with_reducible exact Below.refl _ _) | (with_reducible assumption) | (with_reducible refine Below.drewN ?_ _) | (with_reducible refine Below.alloc ?_ ?_ _) | (with_reducible refine Below.drew ?_) | (with_reducible refine Below.setCell ?_ ?_ _) | (with_reducible refine Below.step (by assumption) ?_ ?_) | (with_reducible exact And.left (by assumption)) | go_size))
      try simp only [← hX9]
      generalize (w8.alloc (Obj.cells #[.string ⟨#[]⟩, .int .i64 0, .int .i64 0, .int .i64 0, .int .i64 0, .int .i64 0, .int .i64 0, .slice none 0 0] 56)).drew = wx13 at *
      have HX9 := Lib.hid (And.intro hX9 hs9)
      have HN := Lib.hid hbx
      clear hbx hX9 hs9
      refine tailL_mk HN.out ?_
      repeat (refine tree_head rfl ?_; (show wpQuiet _ _ _ _ (_ :: _) _; go_big_quiet_step (fail)); refine wpQuiet_nil ?_)
      refine tree_one rfl ?_
      go_wp2_with fail
      refine (HCS.out _ (HB.out.trans (HN.out.mono HB.out.size))).mono ?_
      rintro ex wx14 ⟨a17, c17, rfl, hbx, htx, _⟩
      have HT1 := Lib.hid htx
      clear htx
      have hzx := hbx.size
      have HN := Lib.hid (HN.out.trans (hbx.mono HN.out.size))
      have hx9 := (hbx.block X9 l9).trans hx9
      have l9 := Nat.lt_of_lt_of_le l9 hbx.size
      clear hbx
      go_wp2_with fail
      refine tailL_mk HN.out ?_
      repeat (refine tree_head rfl ?_; (show wpQuiet _ _ _ _ (_ :: _) _; go_big_quiet_step (fail)); refine wpQuiet_nil ?_)
      refine tree_one rfl ?_
      go_wp2_with fail
      refine (HCO.out _ (HB.out.trans (HN.out.mono HB.out.size))).mono ?_
      rintro ex wx15 ⟨a18, c18, rfl, hbx, htx, _⟩
      have HT2 := Lib.hid htx
      clear htx
      have hzx := hbx.size
      have HN := Lib.hid (HN.out.trans (hbx.mono HN.out.size))
      have HT1 := Lib.hid (HT1.out.below hbx)
      have hx9 := (hbx.block X9 l9).trans hx9
      have l9 := Nat.lt_of_lt_of_le l9 hbx.size
      clear hbx
      go_wp2_with fail
      refine tailL_mk HN.out ?_
      repeat (refine tree_head rfl ?_; (show wpQuiet _ _ _ _ (_ :: _) _; go_big_quiet_step (fail)); refine wpQuiet_nil ?_)
      refine tree_one rfl ?_
      go_wp2_with fail
      refine (HCL.out a17 a18 c17 c18 _ HT1.out HT2.out).mono ?_
      rintro ex wx16 ⟨a19, k19, c19, rfl, hbx, htx⟩
      have HT3 := Lib.hid (show PulO wx16 a19 k19 c19 CL from ⟨_, htx⟩)
      clear htx
      have hzx := hbx.size
      have HN := Lib.hid (HN.out.trans (hbx.mono HN.out.size))
      have HT1 := Lib.hid (HT1.out.below hbx)
      have HT2 := Lib.hid (HT2.out.below hbx)
      have hx9 := (hbx.block X9 l9).trans hx9
      have l9 := Nat.lt_of_lt_of_le l9 hbx.size
      clear hbx
      go_wp2_with fail
      refine tailL_mk HN.out ?_
      repeat (refine tree_head rfl ?_; (show wpQuiet _ _ _ _ (_ :: _) _; go_big_quiet_step (fail)); refine wpQuiet_nil ?_)
      refine tree_one rfl ?_
      have c90 := cell_of_row _ _ 0 _ _ _ hx9
      have f90 := frozen_of_row _ _ 0 _ _ hx9
      have c91 := cell_of_row _ _ 1 _ _ _ hx9
      have f91 := frozen_of_row _ _ 1 _ _ hx9
      have c92 := cell_of_row _ _ 2 _ _ _ hx9
      have f92 := frozen_of_row _ _ 2 _ _ hx9
      have c93 := cell_of_row _ _ 3 _ _ _ hx9
      have f93 := frozen_of_row _ _ 3 _ _ hx9
      have c94 := cell_of_row _ _ 4 _ _ _ hx9
      have f94 := frozen_of_row _ _ 4 _ _ hx9
      have c95 := cell_of_row _ _ 5 _ _ _ hx9
      have f95 := frozen_of_row _ _ 5 _ _ hx9
      have c96 := cell_of_row _ _ 6 _ _ _ hx9
      have f96 := frozen_of_row _ _ 6 _ _ hx9
      have c97 := cell_of_row _ _ 7 _ _ _ hx9
      have f97 := frozen_of_row _ _ 7 _ _ hx9
      simp only [List.getElem?_toArray, List.getElem?_cons_zero, List.getElem?_cons_succ] at c90 c91 c92 c93 c94 c95 c96 c97
      go_wp2_with fail
      have HN := Lib.hid (show Below w8.heap.size w8 ((((((((wx16.setCell ⟨X9, 0, none⟩ (.string snm)).setCell ⟨X9, 1, none⟩ (.int .i64 sper)).setCell ⟨X9, 2, none⟩ (.int .i64 sleast)).setCell ⟨X9, 3, none⟩ (.int .i64 sa)).setCell ⟨X9, 4, none⟩ (.int .i64 sb)).setCell ⟨X9, 5, none⟩ (.int .i64 sc)).setCell ⟨X9, 6, none⟩ (.int .i64 sd)).setCell ⟨X9, 7, none⟩ (.slice a19 k19 c19)) from Below.setCell (Below.setCell (Below.setCell (Below.setCell (Below.setCell (Below.setCell (Below.setCell (Below.setCell (HN.out) hNX _) hNX _) hNX _) hNX _) hNX _) hNX _) hNX _) hNX _)
      have hxo := hx9
      have hx9 : ((((((((wx16.setCell ⟨X9, 0, none⟩ (.string snm)).setCell ⟨X9, 1, none⟩ (.int .i64 sper)).setCell ⟨X9, 2, none⟩ (.int .i64 sleast)).setCell ⟨X9, 3, none⟩ (.int .i64 sa)).setCell ⟨X9, 4, none⟩ (.int .i64 sb)).setCell ⟨X9, 5, none⟩ (.int .i64 sc)).setCell ⟨X9, 6, none⟩ (.int .i64 sd)).setCell ⟨X9, 7, none⟩ (.slice a19 k19 c19)).heap[X9]? = some (.cells #[.string snm, .int .i64 sper, .int .i64 sleast, .int .i64 sa, .int .i64 sb, .int .i64 sc, .int .i64 sd, .slice a19 k19 c19] 56) := blk_set (blk_set (blk_set (blk_set (blk_set (blk_set (blk_set (blk_set (hx9) 0 (.string snm)) 1 (.int .i64 sper)) 2 (.int .i64 sleast)) 3 (.int .i64 sa)) 4 (.int .i64 sb)) 5 (.int .i64 sc)) 6 (.int .i64 sd)) 7 (.slice a19 k19 c19)
      refine tailL_mk HN.out ?_
      repeat (refine tree_head rfl ?_; (show wpQuiet _ _ _ _ (_ :: _) _; go_big_quiet_step (fail)); refine wpQuiet_nil ?_)
      refine tree_done ?_
      go_wp2_with fail
      go_meet
      case rel => exact ⟨X9, a19, k19, c19, rfl, rfl, blk_cell hx9 (i := 0) rfl, blk_cell hx9 (i := 1) rfl, blk_cell hx9 (i := 2) rfl, blk_cell hx9 (i := 3) rfl, blk_cell hx9 (i := 4) rfl, blk_cell hx9 (i := 5) rfl, blk_cell hx9 (i := 6) rfl, blk_cell hx9 (i := 7) rfl, by simpa using l9, (PX.set (PX.set (PX.set (PX.set (PX.set (PX.set (PX.set (PX.set ⟨HT3.out, _, hxo⟩ 0 _) 1 _) 2 _) 3 _) 4 _) 5 _) 6 _) 7 _).1.t3, HN⟩
  case rest =>
    obtain ⟨wd, rfl⟩ : ∃ w', w' = wc := ⟨wc, rfl⟩
    obtain ⟨X7, a7, k7, c7, rfl, rfl, v0d, v1d, v2d, v3d, v4d, v5d, v6d, v7d, lvd, ht7, hN⟩ := hcut
    have hbx := hN.out
    have hzx := hbx.size
    have x0d : wd.cell? ⟨w.heap.size, 0, none⟩ = some (.string snm) := by { rw [cellB hbx _ _ (by first | (simp; done) | (simp; omega) | omega)]; all_goals (first | assumption | go_simp) }; have x1d : wd.cell? ⟨w.heap.size, 1, none⟩ = some (.int .i64 sper) := by { rw [cellB hbx _ _ (by first | (simp; done) | (simp; omega) | omega)]; all_goals (first | assumption | go_simp) }; have x2d : wd.cell? ⟨w.heap.size, 2, none⟩ = some (.int .i64 sleast) := by { rw [cellB hbx _ _ (by first | (simp; done) | (simp; omega) | omega)]; all_goals (first | assumption | go_simp) }; have x3d : wd.cell? ⟨w.heap.size, 3, none⟩ = some (.int .i64 sa) := by { rw [cellB hbx _ _ (by first | (simp; done) | (simp; omega) | omega)]; all_goals (first | assumption | go_simp) }; have x4d : wd.cell? ⟨w.heap.size, 4, none⟩ = some (.int .i64 sb) := by { rw [cellB hbx _ _ (by first | (simp; done) | (simp; omega) | omega)]; all_goals (first | assumption | go_simp) }; have x5d : wd.cell? ⟨w.heap.size, 5, none⟩ = some (.int .i64 sc) := by { rw [cellB hbx _ _ (by first | (simp; done) | (simp; omega) | omega)]; all_goals (first | assumption | go_simp) }; have x6d : wd.cell? ⟨w.heap.size, 6, none⟩ = some (.int .i64 sd) := by { rw [cellB hbx _ _ (by first | (simp; done) | (simp; omega) | omega)]; all_goals (first | assumption | go_simp) }; have x7d : wd.cell? ⟨w.heap.size, 7, none⟩ = some (.slice ap n cp) := by { rw [cellB hbx _ _ (by first | (simp; done) | (simp; omega) | omega)]; all_goals (first | assumption | go_simp) }; have y0d : wd.cell? ⟨w.heap.size + 1, 0, none⟩ = some (.string onm) := by { rw [cellB hbx _ _ (by first | (simp; done) | (simp; omega) | omega)]; all_goals (first | assumption | go_simp) }; have y1d : wd.cell? ⟨w.heap.size + 1, 1, none⟩ = some (.int .i64 oper) := by { rw [cellB hbx _ _ (by first | (simp; done) | (simp; omega) | omega)]; all_goals (first | assumption | go_simp) }; have y2d : wd.cell? ⟨w.heap.size + 1, 2, none⟩ = some (.int .i64 oleast) := by { rw [cellB hbx _ _ (by first | (simp; done) | (simp; omega) | omega)]; all_goals (first | assumption | go_simp) }; have y3d : wd.cell? ⟨w.heap.size + 1, 3, none⟩ = some (.int .i64 oa) := by { rw [cellB hbx _ _ (by first | (simp; done) | (simp; omega) | omega)]; all_goals (first | assumption | go_simp) }; have y4d : wd.cell? ⟨w.heap.size + 1, 4, none⟩ = some (.int .i64 ob) := by { rw [cellB hbx _ _ (by first | (simp; done) | (simp; omega) | omega)]; all_goals (first | assumption | go_simp) }; have y5d : wd.cell? ⟨w.heap.size + 1, 5, none⟩ = some (.int .i64 oc) := by { rw [cellB hbx _ _ (by first | (simp; done) | (simp; omega) | omega)]; all_goals (first | assumption | go_simp) }; have y6d : wd.cell? ⟨w.heap.size + 1, 6, none⟩ = some (.int .i64 od) := by { rw [cellB hbx _ _ (by first | (simp; done) | (simp; omega) | omega)]; all_goals (first | assumption | go_simp) }; have y7d : wd.cell? ⟨w.heap.size + 1, 7, none⟩ = some (.slice bp m dp) := by { rw [cellB hbx _ _ (by first | (simp; done) | (simp; omega) | omega)]; all_goals (first | assumption | go_simp) }; have r0d : wd.cell? ⟨w.heap.size + 2, 0, none⟩ = some (.int .i64 w0) := by { rw [cellB hbx _ _ (by first | (simp; done) | (simp; omega) | omega)]; all_goals (first | assumption | go_simp) }; have r1d : wd.cell? ⟨w.heap.size + 2, 1, none⟩ = some (.int .i64 w1) := by { rw [cellB hbx _ _ (by first | (simp; done) | (simp; omega) | omega)]; all_goals (first | assumption | go_simp) }; have lxd : w.heap.size < wd.heap.size := by { omega }; have lyd : w.heap.size + 1 < wd.heap.size := by { omega }; have lrd : w.heap.size + 2 < wd.heap.size := by { omega }
    have HB := Lib.hid (HB.out.trans (hbx.mono HB.out.size))
    clear x0 x1 x2 x3 x4 x5 x6 x7 y0 y1 y2 y3 y4 y5 y6 y7 r0 r1 lx ly lr hzx
    have HT7 := Lib.hid ht7
    clear hbx hN ht7 HCL
    have hk7 := ER.len HT7.out
    have HK7 := Lib.hid hk7
    have HFXa := Lib.hid (HFX.out a7 c7 k7)
    rw [few_true ⟨by have := HLC.out; omega, HNM.out⟩] at HFXa
    clear HFX hk7
    go_wp2_with fail
    refine (HFXa.out _ HT7.out).mono ?_
    rintro e8 we ⟨rfl, hbx⟩
    have HT7 := Lib.hid (HT7.out.below hbx)
    have hzx := hbx.size
    have x0 : we.cell? ⟨w.heap.size, 0, none⟩ = some (.string snm) := by { rw [cellB hbx _ _ (by first | (simp; done) | (simp; omega) | omega)]; all_goals (first | assumption | go_simp) }; have x1 : we.cell? ⟨w.heap.size, 1, none⟩ = some (.int .i64 sper) := by { rw [cellB hbx _ _ (by first | (simp; done) | (simp; omega) | omega)]; all_goals (first | assumption | go_simp) }; have x2 : we.cell? ⟨w.heap.size, 2, none⟩ = some (.int .i64 sleast) := by { rw [cellB hbx _ _ (by first | (simp; done) | (simp; omega) | omega)]; all_goals (first | assumption | go_simp) }; have x3 : we.cell? ⟨w.heap.size, 3, none⟩ = some (.int .i64 sa) := by { rw [cellB hbx _ _ (by first | (simp; done) | (simp; omega) | omega)]; all_goals (first | assumption | go_simp) }; have x4 : we.cell? ⟨w.heap.size, 4, none⟩ = some (.int .i64 sb) := by { rw [cellB hbx _ _ (by first | (simp; done) | (simp; omega) | omega)]; all_goals (first | assumption | go_simp) }; have x5 : we.cell? ⟨w.heap.size, 5, none⟩ = some (.int .i64 sc) := by { rw [cellB hbx _ _ (by first | (simp; done) | (simp; omega) | omega)]; all_goals (first | assumption | go_simp) }; have x6 : we.cell? ⟨w.heap.size, 6, none⟩ = some (.int .i64 sd) := by { rw [cellB hbx _ _ (by first | (simp; done) | (simp; omega) | omega)]; all_goals (first | assumption | go_simp) }; have x7 : we.cell? ⟨w.heap.size, 7, none⟩ = some (.slice ap n cp) := by { rw [cellB hbx _ _ (by first | (simp; done) | (simp; omega) | omega)]; all_goals (first | assumption | go_simp) }; have y0 : we.cell? ⟨w.heap.size + 1, 0, none⟩ = some (.string onm) := by { rw [cellB hbx _ _ (by first | (simp; done) | (simp; omega) | omega)]; all_goals (first | assumption | go_simp) }; have y1 : we.cell? ⟨w.heap.size + 1, 1, none⟩ = some (.int .i64 oper) := by { rw [cellB hbx _ _ (by first | (simp; done) | (simp; omega) | omega)]; all_goals (first | assumption | go_simp) }; have y2 : we.cell? ⟨w.heap.size + 1, 2, none⟩ = some (.int .i64 oleast) := by { rw [cellB hbx _ _ (by first | (simp; done) | (simp; omega) | omega)]; all_goals (first | assumption | go_simp) }; have y3 : we.cell? ⟨w.heap.size + 1, 3, none⟩ = some (.int .i64 oa) := by { rw [cellB hbx _ _ (by first | (simp; done) | (simp; omega) | omega)]; all_goals (first | assumption | go_simp) }; have y4 : we.cell? ⟨w.heap.size + 1, 4, none⟩ = some (.int .i64 ob) := by { rw [cellB hbx _ _ (by first | (simp; done) | (simp; omega) | omega)]; all_goals (first | assumption | go_simp) }; have y5 : we.cell? ⟨w.heap.size + 1, 5, none⟩ = some (.int .i64 oc) := by { rw [cellB hbx _ _ (by first | (simp; done) | (simp; omega) | omega)]; all_goals (first | assumption | go_simp) }; have y6 : we.cell? ⟨w.heap.size + 1, 6, none⟩ = some (.int .i64 od) := by { rw [cellB hbx _ _ (by first | (simp; done) | (simp; omega) | omega)]; all_goals (first | assumption | go_simp) }; have y7 : we.cell? ⟨w.heap.size + 1, 7, none⟩ = some (.slice bp m dp) := by { rw [cellB hbx _ _ (by first | (simp; done) | (simp; omega) | omega)]; all_goals (first | assumption | go_simp) }; have r0 : we.cell? ⟨w.heap.size + 2, 0, none⟩ = some (.int .i64 w0) := by { rw [cellB hbx _ _ (by first | (simp; done) | (simp; omega) | omega)]; all_goals (first | assumption | go_simp) }; have r1 : we.cell? ⟨w.heap.size + 2, 1, none⟩ = some (.int .i64 w1) := by { rw [cellB hbx _ _ (by first | (simp; done) | (simp; omega) | omega)]; all_goals (first | assumption | go_simp) }; have v0 : we.cell? ⟨X7, 0, none⟩ = some (.string snm) := by { rw [cellB hbx _ _ (by first | (simp; done) | (simp; omega) | omega)]; all_goals (first | assumption | go_simp) }; have v1 : we.cell? ⟨X7, 1, none⟩ = some (.int .i64 sper) := by { rw [cellB hbx _ _ (by first | (simp; done) | (simp; omega) | omega)]; all_goals (first | assumption | go_simp) }; have v2 : we.cell? ⟨X7, 2, none⟩ = some (.int .i64 sleast) := by { rw [cellB hbx _ _ (by first | (simp; done) | (simp; omega) | omega)]; all_goals (first | assumption | go_simp) }; have v3 : we.cell? ⟨X7, 3, none⟩ = some (.int .i64 sa) := by { rw [cellB hbx _ _ (by first | (simp; done) | (simp; omega) | omega)]; all_goals (first | assumption | go_simp) }; have v4 : we.cell? ⟨X7, 4, none⟩ = some (.int .i64 sb) := by { rw [cellB hbx _ _ (by first | (simp; done) | (simp; omega) | omega)]; all_goals (first | assumption | go_simp) }; have v5 : we.cell? ⟨X7, 5, none⟩ = some (.int .i64 sc) := by { rw [cellB hbx _ _ (by first | (simp; done) | (simp; omega) | omega)]; all_goals (first | assumption | go_simp) }; have v6 : we.cell? ⟨X7, 6, none⟩ = some (.int .i64 sd) := by { rw [cellB hbx _ _ (by first | (simp; done) | (simp; omega) | omega)]; all_goals (first | assumption | go_simp) }; have v7 : we.cell? ⟨X7, 7, none⟩ = some (.slice a7 k7 c7) := by { rw [cellB hbx _ _ (by first | (simp; done) | (simp; omega) | omega)]; all_goals (first | assumption | go_simp) }; have lx : w.heap.size < we.heap.size := by { omega }; have ly : w.heap.size + 1 < we.heap.size := by { omega }; have lr : w.heap.size + 2 < we.heap.size := by { omega }; have lv : X7 < we.heap.size := by { omega }
    have HB := Lib.hid (HB.out.trans (hbx.mono HB.out.size))
    clear x0d x1d x2d x3d x4d x5d x6d x7d y0d y1d y2d y3d y4d y5d y6d y7d r0d r1d v0d v1d v2d v3d v4d v5d v6d v7d lxd lyd lrd lvd hzx
    clear hbx HFXa
    go_wp2_with fail
    refine (HSX.out a7 c7 k7 _ HT7.out).mono ?_
    rintro e8 wf ⟨rfl, hbx⟩
    have HT7 := Lib.hid (HT7.out.below hbx)
    have hzx := hbx.size
    have x0d : wf.cell? ⟨w.heap.size, 0, none⟩ = some (.string snm) := by { rw [cellB hbx _ _ (by first | (simp; done) | (simp; omega) | omega)]; all_goals (first | assumption | go_simp) }; have x1d : wf.cell? ⟨w.heap.size, 1, none⟩ = some (.int .i64 sper) := by { rw [cellB hbx _ _ (by first | (simp; done) | (simp; omega) | omega)]; all_goals (first | assumption | go_simp) }; have x2d : wf.cell? ⟨w.heap.size, 2, none⟩ = some (.int .i64 sleast) := by { rw [cellB hbx _ _ (by first | (simp; done) | (simp; omega) | omega)]; all_goals (first | assumption | go_simp) }; have x3d : wf.cell? ⟨w.heap.size, 3, none⟩ = some (.int .i64 sa) := by { rw [cellB hbx _ _ (by first | (simp; done) | (simp; omega) | omega)]; all_goals (first | assumption | go_simp) }; have x4d : wf.cell? ⟨w.heap.size, 4, none⟩ = some (.int .i64 sb) := by { rw [cellB hbx _ _ (by first | (simp; done) | (simp; omega) | omega)]; all_goals (first | assumption | go_simp) }; have x5d : wf.cell? ⟨w.heap.size, 5, none⟩ = some (.int .i64 sc) := by { rw [cellB hbx _ _ (by first | (simp; done) | (simp; omega) | omega)]; all_goals (first | assumption | go_simp) }; have x6d : wf.cell? ⟨w.heap.size, 6, none⟩ = some (.int .i64 sd) := by { rw [cellB hbx _ _ (by first | (simp; done) | (simp; omega) | omega)]; all_goals (first | assumption | go_simp) }; have x7d : wf.cell? ⟨w.heap.size, 7, none⟩ = some (.slice ap n cp) := by { rw [cellB hbx _ _ (by first | (simp; done) | (simp; omega) | omega)]; all_goals (first | assumption | go_simp) }; have y0d : wf.cell? ⟨w.heap.size + 1, 0, none⟩ = some (.string onm) := by { rw [cellB hbx _ _ (by first | (simp; done) | (simp; omega) | omega)]; all_goals (first | assumption | go_simp) }; have y1d : wf.cell? ⟨w.heap.size + 1, 1, none⟩ = some (.int .i64 oper) := by { rw [cellB hbx _ _ (by first | (simp; done) | (simp; omega) | omega)]; all_goals (first | assumption | go_simp) }; have y2d : wf.cell? ⟨w.heap.size + 1, 2, none⟩ = some (.int .i64 oleast) := by { rw [cellB hbx _ _ (by first | (simp; done) | (simp; omega) | omega)]; all_goals (first | assumption | go_simp) }; have y3d : wf.cell? ⟨w.heap.size + 1, 3, none⟩ = some (.int .i64 oa) := by { rw [cellB hbx _ _ (by first | (simp; done) | (simp; omega) | omega)]; all_goals (first | assumption | go_simp) }; have y4d : wf.cell? ⟨w.heap.size + 1, 4, none⟩ = some (.int .i64 ob) := by { rw [cellB hbx _ _ (by first | (simp; done) | (simp; omega) | omega)]; all_goals (first | assumption | go_simp) }; have y5d : wf.cell? ⟨w.heap.size + 1, 5, none⟩ = some (.int .i64 oc) := by { rw [cellB hbx _ _ (by first | (simp; done) | (simp; omega) | omega)]; all_goals (first | assumption | go_simp) }; have y6d : wf.cell? ⟨w.heap.size + 1, 6, none⟩ = some (.int .i64 od) := by { rw [cellB hbx _ _ (by first | (simp; done) | (simp; omega) | omega)]; all_goals (first | assumption | go_simp) }; have y7d : wf.cell? ⟨w.heap.size + 1, 7, none⟩ = some (.slice bp m dp) := by { rw [cellB hbx _ _ (by first | (simp; done) | (simp; omega) | omega)]; all_goals (first | assumption | go_simp) }; have r0d : wf.cell? ⟨w.heap.size + 2, 0, none⟩ = some (.int .i64 w0) := by { rw [cellB hbx _ _ (by first | (simp; done) | (simp; omega) | omega)]; all_goals (first | assumption | go_simp) }; have r1d : wf.cell? ⟨w.heap.size + 2, 1, none⟩ = some (.int .i64 w1) := by { rw [cellB hbx _ _ (by first | (simp; done) | (simp; omega) | omega)]; all_goals (first | assumption | go_simp) }; have v0d : wf.cell? ⟨X7, 0, none⟩ = some (.string snm) := by { rw [cellB hbx _ _ (by first | (simp; done) | (simp; omega) | omega)]; all_goals (first | assumption | go_simp) }; have v1d : wf.cell? ⟨X7, 1, none⟩ = some (.int .i64 sper) := by { rw [cellB hbx _ _ (by first | (simp; done) | (simp; omega) | omega)]; all_goals (first | assumption | go_simp) }; have v2d : wf.cell? ⟨X7, 2, none⟩ = some (.int .i64 sleast) := by { rw [cellB hbx _ _ (by first | (simp; done) | (simp; omega) | omega)]; all_goals (first | assumption | go_simp) }; have v3d : wf.cell? ⟨X7, 3, none⟩ = some (.int .i64 sa) := by { rw [cellB hbx _ _ (by first | (simp; done) | (simp; omega) | omega)]; all_goals (first | assumption | go_simp) }; have v4d : wf.cell? ⟨X7, 4, none⟩ = some (.int .i64 sb) := by { rw [cellB hbx _ _ (by first | (simp; done) | (simp; omega) | omega)]; all_goals (first | assumption | go_simp) }; have v5d : wf.cell? ⟨X7, 5, none⟩ = some (.int .i64 sc) := by { rw [cellB hbx _ _ (by first | (simp; done) | (simp; omega) | omega)]; all_goals (first | assumption | go_simp) }; have v6d : wf.cell? ⟨X7, 6, none⟩ = some (.int .i64 sd) := by { rw [cellB hbx _ _ (by first | (simp; done) | (simp; omega) | omega)]; all_goals (first | assumption | go_simp) }; have v7d : wf.cell? ⟨X7, 7, none⟩ = some (.slice a7 k7 c7) := by { rw [cellB hbx _ _ (by first | (simp; done) | (simp; omega) | omega)]; all_goals (first | assumption | go_simp) }; have lxd : w.heap.size < wf.heap.size := by { omega }; have lyd : w.heap.size + 1 < wf.heap.size := by { omega }; have lrd : w.heap.size + 2 < wf.heap.size := by { omega }; have lvd : X7 < wf.heap.size := by { omega }
    have HB := Lib.hid (HB.out.trans (hbx.mono HB.out.size))
    clear x0 x1 x2 x3 x4 x5 x6 x7 y0 y1 y2 y3 y4 y5 y6 y7 r0 r1 v0 v1 v2 v3 v4 v5 v6 v7 lx ly lr lv hzx
    clear hbx HSX
    go_wp2_with fail
    refine wp_region_laterM (B := wf.heap.size) [(true, 0), (true, 2), (true, 4), (true, 5), (false, 1), (false, 3), (false, 6), (true, 7), (true, 8), (true, 9), (true, 10), (true, 11)] (by kernel_rfl) (by kernel_rfl) ?_; simp only [opsOf, List.filterMap_cons, List.filterMap_nil, List.getElem?_toArray, List.getElem?_cons_zero, List.getElem?_cons_succ, Option.map_some]
    repeat (refine mix_head ?_; (show wpQuiet _ _ _ _ (_ :: _) _; go_big_quiet_step (fail)); refine wpQuiet_nil ?_)
    refine mix_tail ?_; go_wp2_with fail
    refine (HCX.out a7 c7 k7 _ (HT7.out.below (Below.refl wf.heap.size wf).drew)).mono ?_
    rintro e8 wx1 ⟨a17, c17, rfl, hbx, htx, _⟩
    have HX := Lib.hid ((Below.refl wf.heap.size wf).drew.trans hbx)
    have HT1 := Lib.hid htx
    clear hbx htx
    go_wp2_with fail
    refine tailL_mk HX.out ?_
    repeat (refine mix_head ?_; (show wpQuiet _ _ _ _ (_ :: _) _; go_big_quiet_step (fail)); refine wpQuiet_nil ?_)
    refine mix_tail ?_; go_wp2_with fail
    refine (HCO.out _ (HB.out.trans (HX.out.mono HB.out.size))).mono ?_
    rintro e8 wx2 ⟨a18, c18, rfl, hbx, htx, _⟩
    have HX := Lib.hid (HX.out.trans (hbx.mono HX.out.size))
    have HT1 := Lib.hid (HT1.out.below hbx)
    have HT2 := Lib.hid htx
    clear hbx htx
    go_wp2_with fail
    refine tailL_mk HX.out ?_
    repeat (refine mix_head ?_; (show wpQuiet _ _ _ _ (_ :: _) _; go_big_quiet_step (fail)); refine wpQuiet_nil ?_)
    refine mix_tail ?_; go_wp2_with fail
    refine (HFY.out k7 a17 a18 c17 c18 _ HT1.out HT2.out).mono ?_
    rintro e8 wg ⟨aL, kL, cL, rfl, hbx, hL⟩
    obtain rfl : kL = 0 := by have := hL.len; simpa [nats] using this.symm
    clear hL HFY
    have HX := Lib.hid (HX.out.trans (hbx.mono HX.out.size))
    clear hbx HT1 HT2
    go_wp2_with fail
    refine tailL_mk HX.out ?_
    repeat (refine mix_head ?_; (show wpQuiet _ _ _ _ (_ :: _) _; go_big_quiet_step (fail)); refine wpQuiet_nil ?_)
    refine mix_nil ?_
    have hbx := HX.out
    have HT7 := Lib.hid (HT7.out.below hbx)
    have hzx := hbx.size
    have x0 : wg.cell? ⟨w.heap.size, 0, none⟩ = some (.string snm) := by { rw [cellB hbx _ _ (by first | (simp; done) | (simp; omega) | omega)]; all_goals (first | assumption | go_simp) }; have x1 : wg.cell? ⟨w.heap.size, 1, none⟩ = some (.int .i64 sper) := by { rw [cellB hbx _ _ (by first | (simp; done) | (simp; omega) | omega)]; all_goals (first | assumption | go_simp) }; have x2 : wg.cell? ⟨w.heap.size, 2, none⟩ = some (.int .i64 sleast) := by { rw [cellB hbx _ _ (by first | (simp; done) | (simp; omega) | omega)]; all_goals (first | assumption | go_simp) }; have x3 : wg.cell? ⟨w.heap.size, 3, none⟩ = some (.int .i64 sa) := by { rw [cellB hbx _ _ (by first | (simp; done) | (simp; omega) | omega)]; all_goals (first | assumption | go_simp) }; have x4 : wg.cell? ⟨w.heap.size, 4, none⟩ = some (.int .i64 sb) := by { rw [cellB hbx _ _ (by first | (simp; done) | (simp; omega) | omega)]; all_goals (first | assumption | go_simp) }; have x5 : wg.cell? ⟨w.heap.size, 5, none⟩ = some (.int .i64 sc) := by { rw [cellB hbx _ _ (by first | (simp; done) | (simp; omega) | omega)]; all_goals (first | assumption | go_simp) }; have x6 : wg.cell? ⟨w.heap.size, 6, none⟩ = some (.int .i64 sd) := by { rw [cellB hbx _ _ (by first | (simp; done) | (simp; omega) | omega)]; all_goals (first | assumption | go_simp) }; have x7 : wg.cell? ⟨w.heap.size, 7, none⟩ = some (.slice ap n cp) := by { rw [cellB hbx _ _ (by first | (simp; done) | (simp; omega) | omega)]; all_goals (first | assumption | go_simp) }; have y0 : wg.cell? ⟨w.heap.size + 1, 0, none⟩ = some (.string onm) := by { rw [cellB hbx _ _ (by first | (simp; done) | (simp; omega) | omega)]; all_goals (first | assumption | go_simp) }; have y1 : wg.cell? ⟨w.heap.size + 1, 1, none⟩ = some (.int .i64 oper) := by { rw [cellB hbx _ _ (by first | (simp; done) | (simp; omega) | omega)]; all_goals (first | assumption | go_simp) }; have y2 : wg.cell? ⟨w.heap.size + 1, 2, none⟩ = some (.int .i64 oleast) := by { rw [cellB hbx _ _ (by first | (simp; done) | (simp; omega) | omega)]; all_goals (first | assumption | go_simp) }; have y3 : wg.cell? ⟨w.heap.size + 1, 3, none⟩ = some (.int .i64 oa) := by { rw [cellB hbx _ _ (by first | (simp; done) | (simp; omega) | omega)]; all_goals (first | assumption | go_simp) }; have y4 : wg.cell? ⟨w.heap.size + 1, 4, none⟩ = some (.int .i64 ob) := by { rw [cellB hbx _ _ (by first | (simp; done) | (simp; omega) | omega)]; all_goals (first | assumption | go_simp) }; have y5 : wg.cell? ⟨w.heap.size + 1, 5, none⟩ = some (.int .i64 oc) := by { rw [cellB hbx _ _ (by first | (simp; done) | (simp; omega) | omega)]; all_goals (first | assumption | go_simp) }; have y6 : wg.cell? ⟨w.heap.size + 1, 6, none⟩ = some (.int .i64 od) := by { rw [cellB hbx _ _ (by first | (simp; done) | (simp; omega) | omega)]; all_goals (first | assumption | go_simp) }; have y7 : wg.cell? ⟨w.heap.size + 1, 7, none⟩ = some (.slice bp m dp) := by { rw [cellB hbx _ _ (by first | (simp; done) | (simp; omega) | omega)]; all_goals (first | assumption | go_simp) }; have r0 : wg.cell? ⟨w.heap.size + 2, 0, none⟩ = some (.int .i64 w0) := by { rw [cellB hbx _ _ (by first | (simp; done) | (simp; omega) | omega)]; all_goals (first | assumption | go_simp) }; have r1 : wg.cell? ⟨w.heap.size + 2, 1, none⟩ = some (.int .i64 w1) := by { rw [cellB hbx _ _ (by first | (simp; done) | (simp; omega) | omega)]; all_goals (first | assumption | go_simp) }; have v0 : wg.cell? ⟨X7, 0, none⟩ = some (.string snm) := by { rw [cellB hbx _ _ (by first | (simp; done) | (simp; omega) | omega)]; all_goals (first | assumption | go_simp) }; have v1 : wg.cell? ⟨X7, 1, none⟩ = some (.int .i64 sper) := by { rw [cellB hbx _ _ (by first | (simp; done) | (simp; omega) | omega)]; all_goals (first | assumption | go_simp) }; have v2 : wg.cell? ⟨X7, 2, none⟩ = some (.int .i64 sleast) := by { rw [cellB hbx _ _ (by first | (simp; done) | (simp; omega) | omega)]; all_goals (first | assumption | go_simp) }; have v3 : wg.cell? ⟨X7, 3, none⟩ = some (.int .i64 sa) := by { rw [cellB hbx _ _ (by first | (simp; done) | (simp; omega) | omega)]; all_goals (first | assumption | go_simp) }; have v4 : wg.cell? ⟨X7, 4, none⟩ = some (.int .i64 sb) := by { rw [cellB hbx _ _ (by first | (simp; done) | (simp; omega) | omega)]; all_goals (first | assumption | go_simp) }; have v5 : wg.cell? ⟨X7, 5, none⟩ = some (.int .i64 sc) := by { rw [cellB hbx _ _ (by first | (simp; done) | (simp; omega) | omega)]; all_goals (first | assumption | go_simp) }; have v6 : wg.cell? ⟨X7, 6, none⟩ = some (.int .i64 sd) := by { rw [cellB hbx _ _ (by first | (simp; done) | (simp; omega) | omega)]; all_goals (first | assumption | go_simp) }; have v7 : wg.cell? ⟨X7, 7, none⟩ = some (.slice a7 k7 c7) := by { rw [cellB hbx _ _ (by first | (simp; done) | (simp; omega) | omega)]; all_goals (first | assumption | go_simp) }; have lx : w.heap.size < wg.heap.size := by { omega }; have ly : w.heap.size + 1 < wg.heap.size := by { omega }; have lr : w.heap.size + 2 < wg.heap.size := by { omega }; have lv : X7 < wg.heap.size := by { omega }
    have HB := Lib.hid (HB.out.trans (hbx.mono HB.out.size))
    clear x0d x1d x2d x3d x4d x5d x6d x7d y0d y1d y2d y3d y4d y5d y6d y7d r0d r1d v0d v1d v2d v3d v4d v5d v6d v7d lxd lyd lrd lvd hzx
    clear hbx HX
    go_wp2_with fail
    go_cut [11, 12] from 76 to 85 (fun v9 v10 wx => ∃ (X : Nat) (a9 : Option Addr) (k9 c9 : Nat), v9 = .pointer (some ⟨X, 0, none⟩) ∧ v10 = .int .i64 0 ∧ wx.cell? ⟨X, 0, none⟩ = some (.string snm) ∧ wx.cell? ⟨X, 1, none⟩ = some (.int .i64 sper) ∧ wx.cell? ⟨X, 2, none⟩ = some (.int .i64 sleast) ∧ wx.cell? ⟨X, 3, none⟩ = some (.int .i64 sa) ∧ wx.cell? ⟨X, 4, none⟩ = some (.int .i64 sb) ∧ wx.cell? ⟨X, 5, none⟩ = some (.int .i64 sc) ∧ wx.cell? ⟨X, 6, none⟩ = some (.int .i64 sd) ∧ wx.cell? ⟨X, 7, none⟩ = some (.slice a9 k9 c9) ∧ X < wx.heap.size ∧ T3R wx a9 k9 CL ∧ Hid (Below wg.heap.size wg wx))
    case first =>
      have HN := Lib.hid (Below.refl wg.heap.size wg).drew
      refine wp_region_laterT (B := wg.heap.size) (.head 0 (.head 2 (.head 4 (.head 5 (.two 1 (.two 3 (.two 6 (.head 7 (.head 8 (.head 9 (.one 10 (.one 11 (.head 12 .done)))))) 10 (.one 6 (.head 7 (.head 8 (.head 9 (.one 11 (.head 12 .done))))))) 10 (.one 3 (.one 6 (.head 7 (.head 8 (.head 9 (.one 11 (.head 12 .done)))))))) 10 (.one 1 (.one 3 (.one 6 (.head 7 (.head 8 (.head 9 (.one 11 (.head 12 .done))))))))))))) (by kernel_rfl) (by kernel_rfl) ?_
      repeat (refine tree_head rfl ?_; (show wpQuiet _ _ _ _ (_ :: _) _; go_big_quiet_step (fail)); refine wpQuiet_nil ?_)
      clear x0 y0 x1 y1 x2 y2 x3 y3 x4 y4 x5 y5 x6 y6 x7 y7 lx ly lr r0 r1 v0 v1 v2 v3 v4 v5 v6 v7 lv
      refine tree_two rfl rfl ?_ ?_
      · go_wp2_with fail
        refine (HCX.out a7 c7 k7 _ (HT7.out.below HN.out)).mono ?_
        rintro ex wx1 ⟨a17, c17, rfl, hbx, htx, _⟩
        have HT1 := Lib.hid htx
        clear htx
        have hzx := hbx.size
        have HN := Lib.hid (HN.out.trans (hbx.mono HN.out.size))
        clear hbx
        go_wp2_with fail
        refine tailL_mk HN.out ?_
        repeat (refine tree_head rfl ?_; (show wpQuiet _ _ _ _ (_ :: _) _; go_big_quiet_step (fail)); refine wpQuiet_nil ?_)
        refine tree_two rfl rfl ?_ ?_
        · go_wp2_with fail
          refine (HCO.out _ (HB.out.trans (HN.out.mono HB.out.size))).mono ?_
          rintro ex wx2 ⟨a18, c18, rfl, hbx, htx, _⟩
          have HT2 := Lib.hid htx
          clear htx
          have hzx := hbx.size
          have HN := Lib.hid (HN.out.trans (hbx.mono HN.out.size))
          have HT1 := Lib.hid (HT1.out.below hbx)
          clear hbx
          go_wp2_with fail
          refine tailL_mk HN.out ?_
          repeat (refine tree_head rfl ?_; (show wpQuiet _ _ _ _ (_ :: _) _; go_big_quiet_step (fail)); refine wpQuiet_nil ?_)
          refine tree_two rfl rfl ?_ ?_
          · go_wp2_with fail
            refine (HCY.out k7 a17 a18 c17 c18 _ HT1.out HT2.out).mono ?_
            rintro ex wx3 ⟨a19, k19, c19, rfl, hbx, htx⟩
            have HT3 := Lib.hid (show PulO wx3 a19 k19 c19 CL from ⟨_, htx⟩)
            clear htx
            have hzx := hbx.size
            have HN := Lib.hid (HN.out.trans (hbx.mono HN.out.size))
            have HT1 := Lib.hid (HT1.out.below hbx)
            have HT2 := Lib.hid (HT2.out.below hbx)
            clear hbx
            go_wp2_with fail
            refine tailL_mk HN.out ?_
            repeat (refine tree_head rfl ?_; (show wpQuiet _ _ _ _ (_ :: _) _; go_big_quiet_step (fail)); refine wpQuiet_nil ?_)
            refine tree_one rfl ?_
            go_wp2_with fail
            obtain ⟨X9, hX9⟩ : ∃ X, X = wx3.heap.size := ⟨_, rfl⟩
            have hNX : wg.heap.size ≤ X9 := by rw [hX9]; exact HN.out.size
            have hx9 : (wx3.alloc (Obj.cells #[.string ⟨#[]⟩, .int .i64 0, .int .i64 0, .int .i64 0, .int .i64 0, .int .i64 0, .int .i64 0, .slice none 0 0] 56)).heap[X9]? = some (.cells #[.string ⟨#[]⟩, .int .i64 0, .int .i64 0, .int .i64 0, .int .i64 0, .int .i64 0, .int .i64 0, .slice none 0 0] 56) := by rw [hX9]; exact heap_alloc_new _ _
            have l9 : X9 < (wx3.alloc (Obj.cells #[.string ⟨#[]⟩, .int .i64 0, .int .i64 0, .int .i64 0, .int .i64 0, .int .i64 0, .int .i64 0, .slice none 0 0] 56)).heap.size := by rw [hX9]; simp
            have hs9 : (wx3.alloc (Obj.cells #[.string ⟨#[]⟩, .int .i64 0, .int .i64 0, .int .i64 0, .int .i64 0, .int .i64 0, .int .i64 0, .slice none 0 0] 56)).heap.size = wx3.heap.size + 1 := by simp
            have hbx : Below wx3.heap.size wx3 (wx3.alloc (Obj.cells #[.string ⟨#[]⟩, .int .i64 0, .int .i64 0, .int .i64 0, .int .i64 0, .int .i64 0, .int .i64 0, .slice none 0 0] 56)) := by (repeat' (first | (with_reducible exact Below.refl _ _) | (with_reducible assumption) | (with_reducible refine Below.drewN ?_ _) | (with_reducible refine Below.alloc ?_ ?_ _) | (with_reducible refine Below.drew ?_) | (with_reducible refine Below.setCell ?_ ?_ _) | (with_reducible refine Below.step (by assumption) ?_ ?_) | (with_reducible exact And.left (by assumption)) | go_size))
            try simp only [← hX9]
            generalize (wx3.alloc (Obj.cells #[.string ⟨#[]⟩, .int .i64 0, .int .i64 0, .int .i64 0, .int .i64 0, .int .i64 0, .int .i64 0, .slice none 0 0] 56)) = wx4 at *
            have HX9 := Lib.hid (And.intro hX9 hs9)
            have HN := Lib.hid (HN.out.trans (hbx.mono HN.out.size))
            have HT1 := Lib.hid (HT1.out.below hbx)
            have HT2 := Lib.hid (HT2.out.below hbx)
            have HT3 := Lib.hid (HT3.out.below hbx)
            clear hbx hX9 hs9
            refine tailL_mk HN.out ?_
            repeat (refine tree_head rfl ?_; (show wpQuiet _ _ _ _ (_ :: _) _; go_big_quiet_step (fail)); refine wpQuiet_nil ?_)
            refine tree_one rfl ?_
            have c90 := cell_of_row _ _ 0 _ _ _ hx9
            have f90 := frozen_of_row _ _ 0 _ _ hx9
            have c91 := cell_of_row _ _ 1 _ _ _ hx9
            have f91 := frozen_of_row _ _ 1 _ _ hx9
            have c92 := cell_of_row _ _ 2 _ _ _ hx9
            have f92 := frozen_of_row _ _ 2 _ _ hx9
            have c93 := cell_of_row _ _ 3 _ _ _ hx9
            have f93 := frozen_of_row _ _ 3 _ _ hx9
            have c94 := cell_of_row _ _ 4 _ _ _ hx9
            have f94 := frozen_of_row _ _ 4 _ _ hx9
            have c95 := cell_of_row _ _ 5 _ _ _ hx9
            have f95 := frozen_of_row _ _ 5 _ _ hx9
            have c96 := cell_of_row _ _ 6 _ _ _ hx9
            have f96 := frozen_of_row _ _ 6 _ _ hx9
            have c97 := cell_of_row _ _ 7 _ _ _ hx9
            have f97 := frozen_of_row _ _ 7 _ _ hx9
            simp only [List.getElem?_toArray, List.getElem?_cons_zero, List.getElem?_cons_succ] at c90 c91 c92 c93 c94 c95 c96 c97
            go_wp2_with fail
            have HN := Lib.hid (show Below wg.heap.size wg ((((((((wx4.setCell ⟨X9, 0, none⟩ (.string snm)).setCell ⟨X9, 1, none⟩ (.int .i64 sper)).setCell ⟨X9, 2, none⟩ (.int .i64 sleast)).setCell ⟨X9, 3, none⟩ (.int .i64 sa)).setCell ⟨X9, 4, none⟩ (.int .i64 sb)).setCell ⟨X9, 5, none⟩ (.int .i64 sc)).setCell ⟨X9, 6, none⟩ (.int .i64 sd)).setCell ⟨X9, 7, none⟩ (.slice a19 k19 c19)) from Below.setCell (Below.setCell (Below.setCell (Below.setCell (Below.setCell (Below.setCell (Below.setCell (Below.setCell (HN.out) hNX _) hNX _) hNX _) hNX _) hNX _) hNX _) hNX _) hNX _)
            have hxo := hx9
            have hx9 : ((((((((wx4.setCell ⟨X9, 0, none⟩ (.string snm)).setCell ⟨X9, 1, none⟩ (.int .i64 sper)).setCell ⟨X9, 2, none⟩ (.int .i64 sleast)).setCell ⟨X9, 3, none⟩ (.int .i64 sa)).setCell ⟨X9, 4, none⟩ (.int .i64 sb)).setCell ⟨X9, 5, none⟩ (.int .i64 sc)).setCell ⟨X9, 6, none⟩ (.int .i64 sd)).setCell ⟨X9, 7, none⟩ (.slice a19 k19 c19)).heap[X9]? = some (.cells #[.string snm, .int .i64 sper, .int .i64 sleast, .int .i64 sa, .int .i64 sb, .int .i64 sc, .int .i64 sd, .slice a19 k19 c19] 56) := blk_set (blk_set (blk_set (blk_set (blk_set (blk_set (blk_set (blk_set (hx9) 0 (.string snm)) 1 (.int .i64 sper)) 2 (.int .i64 sleast)) 3 (.int .i64 sa)) 4 (.int .i64 sb)) 5 (.int .i64 sc)) 6 (.int .i64 sd)) 7 (.slice a19 k19 c19)
            refine tailL_mk HN.out ?_
            repeat (refine tree_head rfl ?_; (show wpQuiet _ _ _ _ (_ :: _) _; go_big_quiet_step (fail)); refine wpQuiet_nil ?_)
            refine tree_done ?_
            go_wp2_with fail
            go_meet
            case rel => exact ⟨X9, a19, k19, c19, rfl, rfl, blk_cell hx9 (i := 0) rfl, blk_cell hx9 (i := 1) rfl, blk_cell hx9 (i := 2) rfl, blk_cell hx9 (i := 3) rfl, blk_cell hx9 (i := 4) rfl, blk_cell hx9 (i := 5) rfl, blk_cell hx9 (i := 6) rfl, blk_cell hx9 (i := 7) rfl, by simpa using l9, (PX.set (PX.set (PX.set (PX.set (PX.set (PX.set (PX.set (PX.set ⟨HT3.out, _, hxo⟩ 0 _) 1 _) 2 _) 3 _) 4 _) 5 _) 6 _) 7 _).1.t3, HN⟩
          · go_wp2_with fail
            obtain ⟨X9, hX9⟩ : ∃ X, X = wx2.heap.size := ⟨_, rfl⟩
            have hNX : wg.heap.size ≤ X9 := by rw [hX9]; exact HN.out.size
            have hx9 : (wx2.alloc (Obj.cells #[.string ⟨#[]⟩, .int .i64 0, .int .i64 0, .int .i64 0, .int .i64 0, .int .i64 0, .int .i64 0, .slice none 0 0] 56)).heap[X9]? = some (.cells #[.string ⟨#[]⟩, .int .i64 0, .int .i64 0, .int .i64 0, .int .i64 0, .int .i64 0, .int .i64 0, .slice none 0 0] 56) := by rw [hX9]; exact heap_alloc_new _ _
            have l9 : X9 < (wx2.alloc (Obj.cells #[.string ⟨#[]⟩, .int .i64 0, .int .i64 0, .int .i64 0, .int .i64 0, .int .i64 0, .int .i64 0, .slice none 0 0] 56)).heap.size := by rw [hX9]; simp
            have hs9 : (wx2.alloc (Obj.cells #[.string ⟨#[]⟩, .int .i64 0, .int .i64 0, .int .i64 0, .int .i64 0, .int .i64 0, .int .i64 0, .slice none 0 0] 56)).heap.size = wx2.heap.size + 1 := by simp
            have hbx : Below wx2.heap.size wx2 (wx2.alloc (Obj.cells #[.string ⟨#[]⟩, .int .i64 0, .int .i64 0, .int .i64 0, .int .i64 0, .int .i64 0, .int .i64 0, .slice none 0 0] 56)) := by (repeat' (first | (with_reducible exact Below.refl _ _) | (with_reducible assumption) | (with_reducible refine Below.drewN ?_ _) | (with_reducible refine Below.alloc ?_ ?_ _) | (with_reducible refine Below.drew ?_) | (with_reducible refine Below.setCell ?_ ?_ _) | (with_reducible refine Below.step (by assumption) ?_ ?_) | (with_reducible exact And.left (by assumption)) | go_size))
            try simp only [← hX9]
            generalize (wx2.alloc (Obj.cells #[.string ⟨#[]⟩, .int .i64 0, .int .i64 0, .int .i64 0, .int .i64 0, .int .i64 0, .int .i64 0, .slice none 0 0] 56)) = wx6 at *
            have HX9 := Lib.hid (And.intro hX9 hs9)
            have HN := Lib.hid (HN.out.trans (hbx.mono HN.out.size))
            have HT1 := Lib.hid (HT1.out.below hbx)
            have HT2 := Lib.hid (HT2.out.below hbx)
            clear hbx hX9 hs9
            refine tailL_mk HN.out ?_
            repeat (refine tree_head rfl ?_; (show wpQuiet _ _ _ _ (_ :: _) _; go_big_quiet_step (fail)); refine wpQuiet_nil ?_)
            refine tree_one rfl ?_
            go_wp2_with fail
            refine (HCY.out k7 a17 a18 c17 c18 _ HT1.out HT2.out).mono ?_
            rintro ex wx7 ⟨a19, k19, c19, rfl, hbx, htx⟩
            have HT3 := Lib.hid (show PulO wx7 a19 k19 c19 CL from ⟨_, htx⟩)
            clear htx
            have hzx := hbx.size
            have HN := Lib.hid (HN.out.trans (hbx.mono HN.out.size))
            have HT1 := Lib.hid (HT1.out.below hbx)
            have HT2 := Lib.hid (HT2.out.below hbx)
            have hx9 := (hbx.block X9 l9).trans hx9
            have l9 := Nat.lt_of_lt_of_le l9 hbx.size
            clear hbx
            go_wp2_with fail
            refine tailL_mk HN.out ?_
            repeat (refine tree_head rfl ?_; (show wpQuiet _ _ _ _ (_ :: _) _; go_big_quiet_step (fail)); refine wpQuiet_nil ?_)
            refine tree_one rfl ?_
            have c90 := cell_of_row _ _ 0 _ _ _ hx9
            have f90 := frozen_of_row _ _ 0 _ _ hx9
            have c91 := cell_of_row _ _ 1 _ _ _ hx9
            have f91 := frozen_of_row _ _ 1 _ _ hx9
            have c92 := cell_of_row _ _ 2 _ _ _ hx9
            have f92 := frozen_of_row _ _ 2 _ _ hx9
            have c93 := cell_of_row _ _ 3 _ _ _ hx9
            have f93 := frozen_of_row _ _ 3 _ _ hx9
            have c94 := cell_of_row _ _ 4 _ _ _ hx9
            have f94 := frozen_of_row _ _ 4 _ _ hx9
            have c95 := cell_of_row _ _ 5 _ _ _ hx9
            have f95 := frozen_of_row _ _ 5 _ _ hx9
            have c96 := cell_of_row _ _ 6 _ _ _ hx9
            have f96 := frozen_of_row _ _ 6 _ _ hx9
            have c97 := cell_of_row _ _ 7 _ _ _ hx9
            have f97 := frozen_of_row _ _ 7 _ _ hx9
            simp only [List.getElem?_toArray, List.getElem?_cons_zero, List.getElem?_cons_succ] at c90 c91 c92 c93 c94 c95 c96 c97
            go_wp2_with fail
            have HN := Lib.hid (show Below wg.heap.size wg ((((((((wx7.setCell ⟨X9, 0, none⟩ (.string snm)).setCell ⟨X9, 1, none⟩ (.int .i64 sper)).setCell ⟨X9, 2, none⟩ (.int .i64 sleast)).setCell ⟨X9, 3, none⟩ (.int .i64 sa)).setCell ⟨X9, 4, none⟩ (.int .i64 sb)).setCell ⟨X9, 5, none⟩ (.int .i64 sc)).setCell ⟨X9, 6, none⟩ (.int .i64 sd)).setCell ⟨X9, 7, none⟩ (.slice a19 k19 c19)) from Below.setCell (Below.setCell (Below.setCell (Below.setCell (Below.setCell (Below.setCell (Below.setCell (Below.setCell (HN.out) hNX _) hNX _) hNX _) hNX _) hNX _) hNX _) hNX _) hNX _)
            have hxo := hx9
            have hx9 : ((((((((wx7.setCell ⟨X9, 0, none⟩ (.string snm)).setCell ⟨X9, 1, none⟩ (.int .i64 sper)).setCell ⟨X9, 2, none⟩ (.int .i64 sleast)).setCell ⟨X9, 3, none⟩ (.int .i64 sa)).setCell ⟨X9, 4, none⟩ (.int .i64 sb)).setCell ⟨X9, 5, none⟩ (.int .i64 sc)).setCell ⟨X9, 6, none⟩ (.int .i64 sd)).setCell ⟨X9, 7, none⟩ (.slice a19 k19 c19)).heap[X9]? = some (.cells #[.string snm, .int .i64 sper, .int .i64 sleast, .int .i64 sa, .int .i64 sb, .int .i64 sc, .int .i64 sd, .slice a19 k19 c19] 56) := blk_set (blk_set (blk_set (blk_set (blk_set (blk_set (blk_set (blk_set (hx9) 0 (.string snm)) 1 (.int .i64 sper)) 2 (.int .i64 sleast)) 3 (.int .i64 sa)) 4 (.int .i64 sb)) 5 (.int .i64 sc)) 6 (.int .i64 sd)) 7 (.slice a19 k19 c19)
            refine tailL_mk HN.out ?_
            repeat (refine tree_head rfl ?_; (show wpQuiet _ _ _ _ (_ :: _) _; go_big_quiet_step (fail)); refine wpQuiet_nil ?_)
            refine tree_done ?_
            go_wp2_with fail
            go_meet
            case rel => exact ⟨X9, a19, k19, c19, rfl, rfl, blk_cell hx9 (i := 0) rfl, blk_cell hx9 (i := 1) rfl, blk_cell hx9 (i := 2) rfl, blk_cell hx9 (i := 3) rfl, blk_cell hx9 (i := 4) rfl, blk_cell hx9 (i := 5) rfl, blk_cell hx9 (i := 6) rfl, blk_cell hx9 (i := 7) rfl, by simpa using l9, (PX.set (PX.set (PX.set (PX.set (PX.set (PX.set (PX.set (PX.set ⟨HT3.out, _, hxo⟩ 0 _) 1 _) 2 _) 3 _) 4 _) 5 _) 6 _) 7 _).1.t3, HN⟩
        · go_wp2_with fail
          obtain ⟨X9, hX9⟩ : ∃ X, X = wx1.heap.size := ⟨_, rfl⟩
          have hNX : wg.heap.size ≤ X9 := by rw [hX9]; exact HN.out.size
          have hx9 : (wx1.alloc (Obj.cells #[.string ⟨#[]⟩, .int .i64 0, .int .i64 0, .int .i64 0, .int .i64 0, .int .i64 0, .int .i64 0, .slice none 0 0] 56)).heap[X9]? = some (.cells #[.string ⟨#[]⟩, .int .i64 0, .int .i64 0, .int .i64 0, .int .i64 0, .int .i64 0, .int .i64 0, .slice none 0 0] 56) := by rw [hX9]; exact heap_alloc_new _ _
          have l9 : X9 < (wx1.alloc (Obj.cells #[.string ⟨#[]⟩, .int .i64 0, .int .i64 0, .int .i64 0, .int .i64 0, .int .i64 0, .int .i64 0, .slice none 0 0] 56)).heap.size := by rw [hX9]; simp
          have hs9 : (wx1.alloc (Obj.cells #[.string ⟨#[]⟩, .int .i64 0, .int .i64 0, .int .i64 0, .int .i64 0, .int .i64 0, .int .i64 0, .slice none 0 0] 56)).heap.size = wx1.heap.size + 1 := by simp
          have hbx : Below wx1.heap.size wx1 (wx1.alloc (Obj.cells #[.string ⟨#[]⟩, .int .i64 0, .int .i64 0, .int .i64 0, .int .i64 0, .int .i64 0, .int .i64 0, .slice none 0 0] 56)) := by (repeat' (first | (with_reducible exact Below.refl _ _) | (with_reducible assumption) | (with_reducible refine Below.drewN ?_ _) | (with_reducible refine Below.alloc ?_ ?_ _) | (with_reducible refine Below.drew ?_) | (with_reducible refine Below.setCell ?_ ?_ _) | (with_reducible refine Below.step (by assumption) ?_ ?_) | (with_reducible exact And.left (by assumption)) | go_size))
          try simp only [← hX9]
          generalize (wx1.alloc (Obj.cells #[.string ⟨#[]⟩, .int .i64 0, .int .i64 0, .int .i64 0, .int .i64 0, .int .i64 0, .int .i64 0, .slice none 0 0] 56)) = wx9 at *
          have HX9 := Lib.hid (And.intro hX9 hs9)
          have HN := Lib.hid (HN.out.trans (hbx.mono HN.out.size))
          have HT1 := Lib.hid (HT1.out.below hbx)
          clear hbx hX9 hs9
          refine tailL_mk HN.out ?_
          repeat (refine tree_head rfl ?_; (show wpQuiet _ _ _ _ (_ :: _) _; go_big_quiet_step (fail)); refine wpQuiet_nil ?_)
          refine tree_one rfl ?_
          go_wp2_with fail
          refine (HCO.out _ (HB.out.trans (HN.out.mono HB.out.size))).mono ?_
          rintro ex wx10 ⟨a18, c18, rfl, hbx, htx, _⟩
          have HT2 := Lib.hid htx
          clear htx
          have hzx := hbx.size
          have HN := Lib.hid (HN.out.trans (hbx.mono HN.out.size))
          have HT1 := Lib.hid (HT1.out.below hbx)
          have hx9 := (hbx.block X9 l9).trans hx9
          have l9 := Nat.lt_of_lt_of_le l9 hbx.size
          clear hbx
          go_wp2_with fail
          refine tailL_mk HN.out ?_
          repeat (refine tree_head rfl ?_; (show wpQuiet _ _ _ _ (_ :: _) _; go_big_quiet_step (fail)); refine wpQuiet_nil ?_)
          refine tree_one rfl ?_
          go_wp2_with fail
          refine (HCY.out k7 a17 a18 c17 c18 _ HT1.out HT2.out).mono ?_
          rintro ex wx11 ⟨a19, k19, c19, rfl, hbx, htx⟩
          have HT3 := Lib.hid (show PulO wx11 a19 k19 c19 CL from ⟨_, htx⟩)
          clear htx
          have hzx := hbx.size
          have HN := Lib.hid (HN.out.trans (hbx.mono HN.out.size))
          have HT1 := Lib.hid (HT1.out.below hbx)
          have HT2 := Lib.hid (HT2.out.below hbx)
          have hx9 := (hbx.block X9 l9).trans hx9
          have l9 := Nat.lt_of_lt_of_le l9 hbx.size
          clear hbx
          go_wp2_with fail
          refine tailL_mk HN.out ?_
          repeat (refine tree_head rfl ?_; (show wpQuiet _ _ _ _ (_ :: _) _; go_big_quiet_step (fail)); refine wpQuiet_nil ?_)
          refine tree_one rfl ?_
          have c90 := cell_of_row _ _ 0 _ _ _ hx9
          have f90 := frozen_of_row _ _ 0 _ _ hx9
          have c91 := cell_of_row _ _ 1 _ _ _ hx9
          have f91 := frozen_of_row _ _ 1 _ _ hx9
          have c92 := cell_of_row _ _ 2 _ _ _ hx9
          have f92 := frozen_of_row _ _ 2 _ _ hx9
          have c93 := cell_of_row _ _ 3 _ _ _ hx9
          have f93 := frozen_of_row _ _ 3 _ _ hx9
          have c94 := cell_of_row _ _ 4 _ _ _ hx9
          have f94 := frozen_of_row _ _ 4 _ _ hx9
          have c95 := cell_of_row _ _ 5 _ _ _ hx9
          have f95 := frozen_of_row _ _ 5 _ _ hx9
          have c96 := cell_of_row _ _ 6 _ _ _ hx9
          have f96 := frozen_of_row _ _ 6 _ _ hx9
          have c97 := cell_of_row _ _ 7 _ _ _ hx9
          have f97 := frozen_of_row _ _ 7 _ _ hx9
          simp only [List.getElem?_toArray, List.getElem?_cons_zero, List.getElem?_cons_succ] at c90 c91 c92 c93 c94 c95 c96 c97
          go_wp2_with fail
          have HN := Lib.hid (show Below wg.heap.size wg ((((((((wx11.setCell ⟨X9, 0, none⟩ (.string snm)).setCell ⟨X9, 1, none⟩ (.int .i64 sper)).setCell ⟨X9, 2, none⟩ (.int .i64 sleast)).setCell ⟨X9, 3, none⟩ (.int .i64 sa)).setCell ⟨X9, 4, none⟩ (.int .i64 sb)).setCell ⟨X9, 5, none⟩ (.int .i64 sc)).setCell ⟨X9, 6, none⟩ (.int .i64 sd)).setCell ⟨X9, 7, none⟩ (.slice a19 k19 c19)) from Below.setCell (Below.setCell (Below.setCell (Below.setCell (Below.setCell (Below.setCell (Below.setCell (Below.setCell (HN.out) hNX _) hNX _) hNX _) hNX _) hNX _) hNX _) hNX _) hNX _)
          have hxo := hx9
          have hx9 : ((((((((wx11.setCell ⟨X9, 0, none⟩ (.string snm)).setCell ⟨X9, 1, none⟩ (.int .i64 sper)).setCell ⟨X9, 2, none⟩ (.int .i64 sleast)).setCell ⟨X9, 3, none⟩ (.int .i64 sa)).setCell ⟨X9, 4, none⟩ (.int .i64 sb)).setCell ⟨X9, 5, none⟩ (.int .i64 sc)).setCell ⟨X9, 6, none⟩ (.int .i64 sd)).setCell ⟨X9, 7, none⟩ (.slice a19 k19 c19)).heap[X9]? = some (.cells #[.string snm, .int .i64 sper, .int .i64 sleast, .int .i64 sa, .int .i64 sb, .int .i64 sc, .int .i64 sd, .slice a19 k19 c19] 56) := blk_set (blk_set (blk_set (blk_set (blk_set (blk_set (blk_set (blk_set (hx9) 0 (.string snm)) 1 (.int .i64 sper)) 2 (.int .i64 sleast)) 3 (.int .i64 sa)) 4 (.int .i64 sb)) 5 (.int .i64 sc)) 6 (.int .i64 sd)) 7 (.slice a19 k19 c19)
          refine tailL_mk HN.out ?_
          repeat (refine tree_head rfl ?_; (show wpQuiet _ _ _ _ (_ :: _) _; go_big_quiet_step (fail)); refine wpQuiet_nil ?_)
          refine tree_done ?_
          go_wp2_with fail
          go_meet
          case rel => exact ⟨X9, a19, k19, c19, rfl, rfl, blk_cell hx9 (i := 0) rfl, blk_cell hx9 (i := 1) rfl, blk_cell hx9 (i := 2) rfl, blk_cell hx9 (i := 3) rfl, blk_cell hx9 (i := 4) rfl, blk_cell hx9 (i := 5) rfl, blk_cell hx9 (i := 6) rfl, blk_cell hx9 (i := 7) rfl, by simpa using l9, (PX.set (PX.set (PX.set (PX.set (PX.set (PX.set (PX.set (PX.set ⟨HT3.out, _, hxo⟩ 0 _) 1 _) 2 _) 3 _) 4 _) 5 _) 6 _) 7 _).1.t3, HN⟩
      · go_wp2_with fail
        obtain ⟨X9, hX9⟩ : ∃ X, X = wg.heap.size := ⟨_, rfl⟩
        have hNX : wg.heap.size ≤ X9 := by rw [hX9]; exact HN.out.size
        have hx9 : (wg.alloc (Obj.cells #[.string ⟨#[]⟩, .int .i64 0, .int .i64 0, .int .i64 0, .int .i64 0, .int .i64 0, .int .i64 0, .slice none 0 0] 56)).drew.heap[X9]? = some (.cells #[.string ⟨#[]⟩, .int .i64 0, .int .i64 0, .int .i64 0, .int .i64 0, .int .i64 0, .int .i64 0, .slice none 0 0] 56) := by rw [hX9]; exact heap_alloc_new _ _
        have l9 : X9 < (wg.alloc (Obj.cells #[.string ⟨#[]⟩, .int .i64 0, .int .i64 0, .int .i64 0, .int .i64 0, .int .i64 0, .int .i64 0, .slice none 0 0] 56)).drew.heap.size := by rw [hX9]; simp
        have hs9 : (wg.alloc (Obj.cells #[.string ⟨#[]⟩, .int .i64 0, .int .i64 0, .int .i64 0, .int .i64 0, .int .i64 0, .int .i64 0, .slice none 0 0] 56)).drew.heap.size = wg.heap.size + 1 := by simp
        have hbx : Below wg.heap.size wg (wg.alloc (Obj.cells #[.string ⟨#[]⟩, .int .i64 0, .int .i64 0, .int .i64 0, .int .i64 0, .int .i64 0, .int .i64 0, .slice none 0 0] 56)).drew := by (repeat' (first | (with_reducible exact Below.refl _ _) | (with_reducible assumption) | (with_reducible refine Below.drewN ?_ _) | (with_reducible refine Below.alloc ?_ ?_ _) | (with_reducible refine Below.drew ?_) | (with_reducible refine Below.setCell ?_ ?_ _) | (with_reducible refine Below.step (by assumption) ?_ ?_) | (with_reducible exact And.left (by assumption)) | go_size))
        try simp only [← hX9]
        generalize (wg.alloc (Obj.cells #[.string ⟨#[]⟩, .int .i64 0, .int .i64 0, .int .i64 0, .int .i64 0, .int .i64 0, .int .i64 0, .slice none 0 0] 56)).drew = wx13 at *
        have HX9 := Lib.hid (And.intro hX9 hs9)
        have HN := Lib.hid hbx
        clear hbx hX9 hs9
        refine tailL_mk HN.out ?_
        repeat (refine tree_head rfl ?_; (show wpQuiet _ _ _ _ (_ :: _) _; go_big_quiet_step (fail)); refine wpQuiet_nil ?_)
        refine tree_one rfl ?_
        go_wp2_with fail
        refine (HCX.out a7 c7 k7 _ (HT7.out.below HN.out)).mono ?_
        rintro ex wx14 ⟨a17, c17, rfl, hbx, htx, _⟩
        have HT1 := Lib.hid htx
        clear htx
        have hzx := hbx.size
        have HN := Lib.hid (HN.out.trans (hbx.mono HN.out.size))
        have hx9 := (hbx.block X9 l9).trans hx9
        have l9 := Nat.lt_of_lt_of_le l9 hbx.size
        clear hbx
        go_wp2_with fail
        refine tailL_mk HN.out ?_
        repeat (refine tree_head rfl ?_; (show wpQuiet _ _ _ _ (_ :: _) _; go_big_quiet_step (fail)); refine wpQuiet_nil ?_)
        refine tree_one rfl ?_
        go_wp2_with fail
        refine (HCO.out _ (HB.out.trans (HN.out.mono HB.out.size))).mono ?_
        rintro ex wx15 ⟨a18, c18, rfl, hbx, htx, _⟩
        have HT2 := Lib.hid htx
        clear htx
        have hzx := hbx.size
        have HN := Lib.hid (HN.out.trans (hbx.mono HN.out.size))
        have HT1 := Lib.hid (HT1.out.below hbx)
        have hx9 := (hbx.block X9 l9).trans hx9
        have l9 := Nat.lt_of_lt_of_le l9 hbx.size
        clear hbx
        go_wp2_with fail
        refine tailL_mk HN.out ?_
        repeat (refine tree_head rfl ?_; (show wpQuiet _ _ _ _ (_ :: _) _; go_big_quiet_step (fail)); refine wpQuiet_nil ?_)
        refine tree_one rfl ?_
        go_wp2_with fail
        refine (HCY.out k7 a17 a18 c17 c18 _ HT1.out HT2.out).mono ?_
        rintro ex wx16 ⟨a19, k19, c19, rfl, hbx, htx⟩
        have HT3 := Lib.hid (show PulO wx16 a19 k19 c19 CL from ⟨_, htx⟩)
        clear htx
        have hzx := hbx.size
        have HN := Lib.hid (HN.out.trans (hbx.mono HN.out.size))
        have HT1 := Lib.hid (HT1.out.below hbx)
        have HT2 := Lib.hid (HT2.out.below hbx)
        have hx9 := (hbx.block X9 l9).trans hx9
        have l9 := Nat.lt_of_lt_of_le l9 hbx.size
        clear hbx
        go_wp2_with fail
        refine tailL_mk HN.out ?_
        repeat (refine tree_head rfl ?_; (show wpQuiet _ _ _ _ (_ :: _) _; go_big_quiet_step (fail)); refine wpQuiet_nil ?_)
        refine tree_one rfl ?_
        have c90 := cell_of_row _ _ 0 _ _ _ hx9
        have f90 := frozen_of_row _ _ 0 _ _ hx9
        have c91 := cell_of_row _ _ 1 _ _ _ hx9
        have f91 := frozen_of_row _ _ 1 _ _ hx9
        have c92 := cell_of_row _ _ 2 _ _ _ hx9
        have f92 := frozen_of_row _ _ 2 _ _ hx9
        have c93 := cell_of_row _ _ 3 _ _ _ hx9
        have f93 := frozen_of_row _ _ 3 _ _ hx9
        have c94 := cell_of_row _ _ 4 _ _ _ hx9
        have f94 := frozen_of_row _ _ 4 _ _ hx9
        have c95 := cell_of_row _ _ 5 _ _ _ hx9
        have f95 := frozen_of_row _ _ 5 _ _ hx9
        have c96 := cell_of_row _ _ 6 _ _ _ hx9
        have f96 := frozen_of_row _ _ 6 _ _ hx9
        have c97 := cell_of_row _ _ 7 _ _ _ hx9
        have f97 := frozen_of_row _ _ 7 _ _ hx9
        simp only [List.getElem?_toArray, List.getElem?_cons_zero, List.getElem?_cons_succ] at c90 c91 c92 c93 c94 c95 c96 c97
        go_wp2_with fail
        have HN := Lib.hid (show Below wg.heap.size wg ((((((((wx16.setCell ⟨X9, 0, none⟩ (.string snm)).setCell ⟨X9, 1, none⟩ (.int .i64 sper)).setCell ⟨X9, 2, none⟩ (.int .i64 sleast)).setCell ⟨X9, 3, none⟩ (.int .i64 sa)).setCell ⟨X9, 4, none⟩ (.int .i64 sb)).setCell ⟨X9, 5, none⟩ (.int .i64 sc)).setCell ⟨X9, 6, none⟩ (.int .i64 sd)).setCell ⟨X9, 7, none⟩ (.slice a19 k19 c19)) from Below.setCell (Below.setCell (Below.setCell (Below.setCell (Below.setCell (Below.setCell (Below.setCell (Below.setCell (HN.out) hNX _) hNX _) hNX _) hNX _) hNX _) hNX _) hNX _) hNX _)
        have hxo := hx9
        have hx9 : ((((((((wx16.setCell ⟨X9, 0, none⟩ (.string snm)).setCell ⟨X9, 1, none⟩ (.int .i64 sper)).setCell ⟨X9, 2, none⟩ (.int .i64 sleast)).setCell ⟨X9, 3, none⟩ (.int .i64 sa)).setCell ⟨X9, 4, none⟩ (.int .i64 sb)).setCell ⟨X9, 5, none⟩ (.int .i64 sc)).setCell ⟨X9, 6, none⟩ (.int .i64 sd)).setCell ⟨X9, 7, none⟩ (.slice a19 k19 c19)).heap[X9]? = some (.cells #[.string snm, .int .i64 sper, .int .i64 sleast, .int .i64 sa, .int .i64 sb, .int .i64 sc, .int .i64 sd, .slice a19 k19 c19] 56) := blk_set (blk_set (blk_set (blk_set (blk_set (blk_set (blk_set (blk_set (hx9) 0 (.string snm)) 1 (.int .i64 sper)) 2 (.int .i64 sleast)) 3 (.int .i64 sa)) 4 (.int .i64 sb)) 5 (.int .i64 sc)) 6 (.int .i64 sd)) 7 (.slice a19 k19 c19)
        refine tailL_mk HN.out ?_
        repeat (refine tree_head rfl ?_; (show wpQuiet _ _ _ _ (_ :: _) _; go_big_quiet_step (fail)); refine wpQuiet_nil ?_)
        refine tree_done ?_
        go_wp2_with fail
        go_meet
        case rel => exact ⟨X9, a19, k19, c19, rfl, rfl, blk_cell hx9 (i := 0) rfl, blk_cell hx9 (i := 1) rfl, blk_cell hx9 (i := 2) rfl, blk_cell hx9 (i := 3) rfl, blk_cell hx9 (i := 4) rfl, blk_cell hx9 (i := 5) rfl, blk_cell hx9 (i := 6) rfl, blk_cell hx9 (i := 7) rfl, by simpa using l9, (PX.set (PX.set (PX.set (PX.set (PX.set (PX.set (PX.set (PX.set ⟨HT3.out, _, hxo⟩ 0 _) 1 _) 2 _) 3 _) 4 _) 5 _) 6 _) 7 _).1.t3, HN⟩
    case rest =>
      obtain ⟨wh, rfl⟩ : ∃ w', w' = wc := ⟨wc, rfl⟩
      obtain ⟨X11, aY, kY, cY, rfl, rfl, u0d, u1d, u2d, u3d, u4d, u5d, u6d, u7d, lud, htY, hN⟩ := hcut
      have hbx := hN.out
      have HT7 := Lib.hid (HT7.out.below hbx)
      have hzx := hbx.size
      have x0d : wh.cell? ⟨w.heap.size, 0, none⟩ = some (.string snm) := by { rw [cellB hbx _ _ (by first | (simp; done) | (simp; omega) | omega)]; all_goals (first | assumption | go_simp) }; have x1d : wh.cell? ⟨w.heap.size, 1, none⟩ = some (.int .i64 sper) := by { rw [cellB hbx _ _ (by first | (simp; done) | (simp; omega) | omega)]; all_goals (first | assumption | go_simp) }; have x2d : wh.cell? ⟨w.heap.size, 2, none⟩ = some (.int .i64 sleast) := by { rw [cellB hbx _ _ (by first | (simp; done) | (simp; omega) | omega)]; all_goals (first | assumption | go_simp) }; have x3d : wh.cell? ⟨w.heap.size, 3, none⟩ = some (.int .i64 sa) := by { rw [cellB hbx _ _ (by first | (simp; done) | (simp; omega) | omega)]; all_goals (first | assumption | go_simp) }; have x4d : wh.cell? ⟨w.heap.size, 4, none⟩ = some (.int .i64 sb) := by { rw [cellB hbx _ _ (by first | (simp; done) | (simp; omega) | omega)]; all_goals (first | assumption | go_simp) }; have x5d : wh.cell? ⟨w.heap.size, 5, none⟩ = some (.int .i64 sc) := by { rw [cellB hbx _ _ (by first | (simp; done) | (simp; omega) | omega)]; all_goals (first | assumption | go_simp) }; have x6d : wh.cell? ⟨w.heap.size, 6, none⟩ = some (.int .i64 sd) := by { rw [cellB hbx _ _ (by first | (simp; done) | (simp; omega) | omega)]; all_goals (first | assumption | go_simp) }; have x7d : wh.cell? ⟨w.heap.size, 7, none⟩ = some (.slice ap n cp) := by { rw [cellB hbx _ _ (by first | (simp; done) | (simp; omega) | omega)]; all_goals (first | assumption | go_simp) }; have y0d : wh.cell? ⟨w.heap.size + 1, 0, none⟩ = some (.string onm) := by { rw [cellB hbx _ _ (by first | (simp; done) | (simp; omega) | omega)]; all_goals (first | assumption | go_simp) }; have y1d : wh.cell? ⟨w.heap.size + 1, 1, none⟩ = some (.int .i64 oper) := by { rw [cellB hbx _ _ (by first | (simp; done) | (simp; omega) | omega)]; all_goals (first | assumption | go_simp) }; have y2d : wh.cell? ⟨w.heap.size + 1, 2, none⟩ = some (.int .i64 oleast) := by { rw [cellB hbx _ _ (by first | (simp; done) | (simp; omega) | omega)]; all_goals (first | assumption | go_simp) }; have y3d : wh.cell? ⟨w.heap.size + 1, 3, none⟩ = some (.int .i64 oa) := by { rw [cellB hbx _ _ (by first | (simp; done) | (simp; omega) | omega)]; all_goals (first | assumption | go_simp) }; have y4d : wh.cell? ⟨w.heap.size + 1, 4, none⟩ = some (.int .i64 ob) := by { rw [cellB hbx _ _ (by first | (simp; done) | (simp; omega) | omega)]; all_goals (first | assumption | go_simp) }; have y5d : wh.cell? ⟨w.heap.size + 1, 5, none⟩ = some (.int .i64 oc) := by { rw [cellB hbx _ _ (by first | (simp; done) | (simp; omega) | omega)]; all_goals (first | assumption | go_simp) }; have y6d : wh.cell? ⟨w.heap.size + 1, 6, none⟩ = some (.int .i64 od) := by { rw [cellB hbx _ _ (by first | (simp; done) | (simp; omega) | omega)]; all_goals (first | assumption | go_simp) }; have y7d : wh.cell? ⟨w.heap.size + 1, 7, none⟩ = some (.slice bp m dp) := by { rw [cellB hbx _ _ (by first | (simp; done) | (simp; omega) | omega)]; all_goals (first | assumption | go_simp) }; have r0d : wh.cell? ⟨w.heap.size + 2, 0, none⟩ = some (.int .i64 w0) := by { rw [cellB hbx _ _ (by first | (simp; done) | (simp; omega) | omega)]; all_goals (first | assumption | go_simp) }; have r1d : wh.cell? ⟨w.heap.size + 2, 1, none⟩ = some (.int .i64 w1) := by { rw [cellB hbx _ _ (by first | (simp; done) | (simp; omega) | omega)]; all_goals (first | assumption | go_simp) }; have v0d : wh.cell? ⟨X7, 0, none⟩ = some (.string snm) := by { rw [cellB hbx _ _ (by first | (simp; done) | (simp; omega) | omega)]; all_goals (first | assumption | go_simp) }; have v1d : wh.cell? ⟨X7, 1, none⟩ = some (.int .i64 sper) := by { rw [cellB hbx _ _ (by first | (simp; done) | (simp; omega) | omega)]; all_goals (first | assumption | go_simp) }; have v2d : wh.cell? ⟨X7, 2, none⟩ = some (.int .i64 sleast) := by { rw [cellB hbx _ _ (by first | (simp; done) | (simp; omega) | omega)]; all_goals (first | assumption | go_simp) }; have v3d : wh.cell? ⟨X7, 3, none⟩ = some (.int .i64 sa) := by { rw [cellB hbx _ _ (by first | (simp; done) | (simp; omega) | omega)]; all_goals (first | assumption | go_simp) }; have v4d : wh.cell? ⟨X7, 4, none⟩ = some (.int .i64 sb) := by { rw [cellB hbx _ _ (by first | (simp; done) | (simp; omega) | omega)]; all_goals (first | assumption | go_simp) }; have v5d : wh.cell? ⟨X7, 5, none⟩ = some (.int .i64 sc) := by { rw [cellB hbx _ _ (by first | (simp; done) | (simp; omega) | omega)]; all_goals (first | assumption | go_simp) }; have v6d : wh.cell? ⟨X7, 6, none⟩ = some (.int .i64 sd) := by { rw [cellB hbx _ _ (by first | (simp; done) | (simp; omega) | omega)]; all_goals (first | assumption | go_simp) }; have v7d : wh.cell? ⟨X7, 7, none⟩ = some (.slice a7 k7 c7) := by { rw [cellB hbx _ _ (by first | (simp; done) | (simp; omega) | omega)]; all_goals (first | assumption | go_simp) }; have lxd : w.heap.size < wh.heap.size := by { omega }; have lyd : w.heap.size + 1 < wh.heap.size := by { omega }; have lrd : w.heap.size + 2 < wh.heap.size := by { omega }; have lvd : X7 < wh.heap.size := by { omega }
      have HB := Lib.hid (HB.out.trans (hbx.mono HB.out.size))
      clear x0 x1 x2 x3 x4 x5 x6 x7 y0 y1 y2 y3 y4 y5 y6 y7 r0 r1 v0 v1 v2 v3 v4 v5 v6 v7 lx ly lr lv hzx
      obtain rfl : k7 = kY := by rw [← HK7.out]; exact ER.len htY
      have HTY := Lib.hid htY
      clear hbx hN htY HCY HCX
      go_wp2_with fail
      refine wp_region_laterM (B := wh.heap.size) [(true, 0), (true, 2), (true, 4), (true, 5), (false, 1), (false, 3), (false, 6), (true, 7), (true, 8), (true, 9), (true, 10), (true, 11)] (by kernel_rfl) (by kernel_rfl) ?_; simp only [opsOf, List.filterMap_cons, List.filterMap_nil, List.getElem?_toArray, List.getElem?_cons_zero, List.getElem?_cons_succ, Option.map_some]
      repeat (refine mix_head ?_; (show wpQuiet _ _ _ _ (_ :: _) _; go_big_quiet_step (fail)); refine wpQuiet_nil ?_)
      refine mix_tail ?_; go_wp2_with fail
      refine (HCS.out _ HB.out.drew).mono ?_
      rintro e8 wx1 ⟨a17, c17, rfl, hbx, htx, _⟩
      have HX := Lib.hid ((Below.refl wh.heap.size wh).drew.trans hbx)
      have HT1 := Lib.hid htx
      clear hbx htx
      go_wp2_with fail
      refine tailL_mk HX.out ?_
      repeat (refine mix_head ?_; (show wpQuiet _ _ _ _ (_ :: _) _; go_big_quiet_step (fail)); refine wpQuiet_nil ?_)
      refine mix_tail ?_; go_wp2_with fail
      refine (HCO.out _ (HB.out.trans (HX.out.mono HB.out.size))).mono ?_
      rintro e8 wx2 ⟨a18, c18, rfl, hbx, htx, _⟩
      have HX := Lib.hid (HX.out.trans (hbx.mono HX.out.size))
      have HT1 := Lib.hid (HT1.out.below hbx)
      have HT2 := Lib.hid htx
      clear hbx htx
      go_wp2_with fail
      refine tailL_mk HX.out ?_
      repeat (refine mix_head ?_; (show wpQuiet _ _ _ _ (_ :: _) _; go_big_quiet_step (fail)); refine wpQuiet_nil ?_)
      refine mix_tail ?_; go_wp2_with fail
      refine (HF0.out a17 a18 c17 c18 _ HT1.out HT2.out).mono ?_
      rintro e8 wi ⟨aM, kM, cM, rfl, hbx, hM⟩
      have HM := Lib.hid hM
      clear hM HF0
      have HX := Lib.hid (HX.out.trans (hbx.mono HX.out.size))
      clear hbx HT1 HT2
      go_wp2_with fail
      refine tailL_mk HX.out ?_
      repeat (refine mix_head ?_; (show wpQuiet _ _ _ _ (_ :: _) _; go_big_quiet_step (fail)); refine wpQuiet_nil ?_)
      refine mix_nil ?_
      have hbx := HX.out
      have HT7 := Lib.hid (HT7.out.below hbx)
      have HTY := Lib.hid (HTY.out.below hbx)
      have hzx := hbx.size
      have x0 : wi.cell? ⟨w.heap.size, 0, none⟩ = some (.string snm) := by { rw [cellB hbx _ _ (by first | (simp; done) | (simp; omega) | omega)]; all_goals (first | assumption | go_simp) }; have x1 : wi.cell? ⟨w.heap.size, 1, none⟩ = some (.int .i64 sper) := by { rw [cellB hbx _ _ (by first | (simp; done) | (simp; omega) | omega)]; all_goals (first | assumption | go_simp) }; have x2 : wi.cell? ⟨w.heap.size, 2, none⟩ = some (.int .i64 sleast) := by { rw [cellB hbx _ _ (by first | (simp; done) | (simp; omega) | omega)]; all_goals (first | assumption | go_simp) }; have x3 : wi.cell? ⟨w.heap.size, 3, none⟩ = some (.int .i64 sa) := by { rw [cellB hbx _ _ (by first | (simp; done) | (simp; omega) | omega)]; all_goals (first | assumption | go_simp) }; have x4 : wi.cell? ⟨w.heap.size, 4, none⟩ = some (.int .i64 sb) := by { rw [cellB hbx _ _ (by first | (simp; done) | (simp; omega) | omega)]; all_goals (first | assumption | go_simp) }; have x5 : wi.cell? ⟨w.heap.size, 5, none⟩ = some (.int .i64 sc) := by { rw [cellB hbx _ _ (by first | (simp; done) | (simp; omega) | omega)]; all_goals (first | assumption | go_simp) }; have x6 : wi.cell? ⟨w.heap.size, 6, none⟩ = some (.int .i64 sd) := by { rw [cellB hbx _ _ (by first | (simp; done) | (simp; omega) | omega)]; all_goals (first | assumption | go_simp) }; have x7 : wi.cell? ⟨w.heap.size, 7, none⟩ = some (.slice ap n cp) := by { rw [cellB hbx _ _ (by first | (simp; done) | (simp; omega) | omega)]; all_goals (first | assumption | go_simp) }; have y0 : wi.cell? ⟨w.heap.size + 1, 0, none⟩ = some (.string onm) := by { rw [cellB hbx _ _ (by first | (simp; done) | (simp; omega) | omega)]; all_goals (first | assumption | go_simp) }; have y1 : wi.cell? ⟨w.heap.size + 1, 1, none⟩ = some (.int .i64 oper) := by { rw [cellB hbx _ _ (by first | (simp; done) | (simp; omega) | omega)]; all_goals (first | assumption | go_simp) }; have y2 : wi.cell? ⟨w.heap.size + 1, 2, none⟩ = some (.int .i64 oleast) := by { rw [cellB hbx _ _ (by first | (simp; done) | (simp; omega) | omega)]; all_goals (first | assumption | go_simp) }; have y3 : wi.cell? ⟨w.heap.size + 1, 3, none⟩ = some (.int .i64 oa) := by { rw [cellB hbx _ _ (by first | (simp; done) | (simp; omega) | omega)]; all_goals (first | assumption | go_simp) }; have y4 : wi.cell? ⟨w.heap.size + 1, 4, none⟩ = some (.int .i64 ob) := by { rw [cellB hbx _ _ (by first | (simp; done) | (simp; omega) | omega)]; all_goals (first | assumption | go_simp) }; have y5 : wi.cell? ⟨w.heap.size + 1, 5, none⟩ = some (.int .i64 oc) := by { rw [cellB hbx _ _ (by first | (simp; done) | (simp; omega) | omega)]; all_goals (first | assumption | go_simp) }; have y6 : wi.cell? ⟨w.heap.size + 1, 6, none⟩ = some (.int .i64 od) := by { rw [cellB hbx _ _ (by first | (simp; done) | (simp; omega) | omega)]; all_goals (first | assumption | go_simp) }; have y7 : wi.cell? ⟨w.heap.size + 1, 7, none⟩ = some (.slice bp m dp) := by { rw [cellB hbx _ _ (by first | (simp; done) | (simp; omega) | omega)]; all_goals (first | assumption | go_simp) }; have r0 : wi.cell? ⟨w.heap.size + 2, 0, none⟩ = some (.int .i64 w0) := by { rw [cellB hbx _ _ (by first | (simp; done) | (simp; omega) | omega)]; all_goals (first | assumption | go_simp) }; have r1 : wi.cell? ⟨w.heap.size + 2, 1, none⟩ = some (.int .i64 w1) := by { rw [cellB hbx _ _ (by first | (simp; done) | (simp; omega) | omega)]; all_goals (first | assumption | go_simp) }; have v0 : wi.cell? ⟨X7, 0, none⟩ = some (.string snm) := by { rw [cellB hbx _ _ (by first | (simp; done) | (simp; omega) | omega)]; all_goals (first | assumption | go_simp) }; have v1 : wi.cell? ⟨X7, 1, none⟩ = some (.int .i64 sper) := by { rw [cellB hbx _ _ (by first | (simp; done) | (simp; omega) | omega)]; all_goals (first | assumption | go_simp) }; have v2 : wi.cell? ⟨X7, 2, none⟩ = some (.int .i64 sleast) := by { rw [cellB hbx _ _ (by first | (simp; done) | (simp; omega) | omega)]; all_goals (first | assumption | go_simp) }; have v3 : wi.cell? ⟨X7, 3, none⟩ = some (.int .i64 sa) := by { rw [cellB hbx _ _ (by first | (simp; done) | (simp; omega) | omega)]; all_goals (first | assumption | go_simp) }; have v4 : wi.cell? ⟨X7, 4, none⟩ = some (.int .i64 sb) := by { rw [cellB hbx _ _ (by first | (simp; done) | (simp; omega) | omega)]; all_goals (first | assumption | go_simp) }; have v5 : wi.cell? ⟨X7, 5, none⟩ = some (.int .i64 sc) := by { rw [cellB hbx _ _ (by first | (simp; done) | (simp; omega) | omega)]; all_goals (first | assumption | go_simp) }; have v6 : wi.cell? ⟨X7, 6, none⟩ = some (.int .i64 sd) := by { rw [cellB hbx _ _ (by first | (simp; done) | (simp; omega) | omega)]; all_goals (first | assumption | go_simp) }; have v7 : wi.cell? ⟨X7, 7, none⟩ = some (.slice a7 k7 c7) := by { rw [cellB hbx _ _ (by first | (simp; done) | (simp; omega) | omega)]; all_goals (first | assumption | go_simp) }; have u0 : wi.cell? ⟨X11, 0, none⟩ = some (.string snm) := by { rw [cellB hbx _ _ (by first | (simp; done) | (simp; omega) | omega)]; all_goals (first | assumption | go_simp) }; have u1 : wi.cell? ⟨X11, 1, none⟩ = some (.int .i64 sper) := by { rw [cellB hbx _ _ (by first | (simp; done) | (simp; omega) | omega)]; all_goals (first | assumption | go_simp) }; have u2 : wi.cell? ⟨X11, 2, none⟩ = some (.int .i64 sleast) := by { rw [cellB hbx _ _ (by first | (simp; done) | (simp; omega) | omega)]; all_goals (first | assumption | go_simp) }; have u3 : wi.cell? ⟨X11, 3, none⟩ = some (.int .i64 sa) := by { rw [cellB hbx _ _ (by first | (simp; done) | (simp; omega) | omega)]; all_goals (first | assumption | go_simp) }; have u4 : wi.cell? ⟨X11, 4, none⟩ = some (.int .i64 sb) := by { rw [cellB hbx _ _ (by first | (simp; done) | (simp; omega) | omega)]; all_goals (first | assumption | go_simp) }; have u5 : wi.cell? ⟨X11, 5, none⟩ = some (.int .i64 sc) := by { rw [cellB hbx _ _ (by first | (simp; done) | (simp; omega) | omega)]; all_goals (first | assumption | go_simp) }; have u6 : wi.cell? ⟨X11, 6, none⟩ = some (.int .i64 sd) := by { rw [cellB hbx _ _ (by first | (simp; done) | (simp; omega) | omega)]; all_goals (first | assumption | go_simp) }; have u7 : wi.cell? ⟨X11, 7, none⟩ = some (.slice aY k7 cY) := by { rw [cellB hbx _ _ (by first | (simp; done) | (simp; omega) | omega)]; all_goals (first | assumption | go_simp) }; have lx : w.heap.size < wi.heap.size := by { omega }; have ly : w.heap.size + 1 < wi.heap.size := by { omega }; have lr : w.heap.size + 2 < wi.heap.size := by { omega }; have lv : X7 < wi.heap.size := by { omega }; have lu : X11 < wi.heap.size := by { omega }
      have HB := Lib.hid (HB.out.trans (hbx.mono HB.out.size))
      clear x0d x1d x2d x3d x4d x5d x6d x7d y0d y1d y2d y3d y4d y5d y6d y7d r0d r1d v0d v1d v2d v3d v4d v5d v6d v7d u0d u1d u2d u3d u4d u5d u6d u7d lxd lyd lrd lvd lud hzx
      clear hbx HX
      go_wp2_with fail
      refine wp_region_laterM (B := wi.heap.size) [(true, 0), (true, 2), (true, 4), (true, 5), (false, 1), (false, 3), (false, 6), (true, 7), (true, 8), (true, 9), (true, 10), (true, 11)] (by kernel_rfl) (by kernel_rfl) ?_; simp only [opsOf, List.filterMap_cons, List.filterMap_nil, List.getElem?_toArray, List.getElem?_cons_zero, List.getElem?_cons_succ, Option.map_some]
      repeat (refine mix_head ?_; (show wpQuiet _ _ _ _ (_ :: _) _; go_big_quiet_step (fail)); refine wpQuiet_nil ?_)
      refine mix_tail ?_; go_wp2_with fail
      refine (HCS.out _ HB.out.drew).mono ?_
      rintro e8 wx1 ⟨a17, c17, rfl, hbx, htx, _⟩
      have HX := Lib.hid ((Below.refl wi.heap.size wi).drew.trans hbx)
      have HT1 := Lib.hid htx
      clear hbx htx
      go_wp2_with fail
      refine tailL_mk HX.out ?_
      repeat (refine mix_head ?_; (show wpQuiet _ _ _ _ (_ :: _) _; go_big_quiet_step (fail)); refine wpQuiet_nil ?_)
      refine mix_tail ?_; go_wp2_with fail
      refine (HCO.out _ (HB.out.trans (HX.out.mono HB.out.size))).mono ?_
      rintro e8 wx2 ⟨a18, c18, rfl, hbx, htx, _⟩
      have HX := Lib.hid (HX.out.trans (hbx.mono HX.out.size))
      have HT1 := Lib.hid (HT1.out.below hbx)
      have HT2 := Lib.hid htx
      clear hbx htx
      go_wp2_with fail
      refine tailL_mk HX.out ?_
      repeat (refine mix_head ?_; (show wpQuiet _ _ _ _ (_ :: _) _; go_big_quiet_step (fail)); refine wpQuiet_nil ?_)
      refine mix_tail ?_; go_wp2_with fail
      refine (HF1.out a17 a18 c17 c18 _ HT1.out HT2.out).mono ?_
      rintro e8 wj ⟨aN, kN, cN, rfl, hbx, hNN⟩
      have HNL := Lib.hid hNN
      clear hNN HF1
      have HX := Lib.hid (HX.out.trans (hbx.mono HX.out.size))
      clear hbx HT1 HT2
      go_wp2_with fail
      refine tailL_mk HX.out ?_
      repeat (refine mix_head ?_; (show wpQuiet _ _ _ _ (_ :: _) _; go_big_quiet_step (fail)); refine wpQuiet_nil ?_)
      refine mix_nil ?_
      have hbx := HX.out
      have HT7 := Lib.hid (HT7.out.below hbx)
      have HTY := Lib.hid (HTY.out.below hbx)
      have HM := Lib.hid (HM.out.below hbx)
      have hzx := hbx.size
      have x0d : wj.cell? ⟨w.heap.size, 0, none⟩ = some (.string snm) := by { rw [cellB hbx _ _ (by first | (simp; done) | (simp; omega) | omega)]; all_goals (first | assumption | go_simp) }; have x1d : wj.cell? ⟨w.heap.size, 1, none⟩ = some (.int .i64 sper) := by { rw [cellB hbx _ _ (by first | (simp; done) | (simp; omega) | omega)]; all_goals (first | assumption | go_simp) }; have x2d : wj.cell? ⟨w.heap.size, 2, none⟩ = some (.int .i64 sleast) := by { rw [cellB hbx _ _ (by first | (simp; done) | (simp; omega) | omega)]; all_goals (first | assumption | go_simp) }; have x3d : wj.cell? ⟨w.heap.size, 3, none⟩ = some (.int .i64 sa) := by { rw [cellB hbx _ _ (by first | (simp; done) | (simp; omega) | omega)]; all_goals (first | assumption | go_simp) }; have x4d : wj.cell? ⟨w.heap.size, 4, none⟩ = some (.int .i64 sb) := by { rw [cellB hbx _ _ (by first | (simp; done) | (simp; omega) | omega)]; all_goals (first | assumption | go_simp) }; have x5d : wj.cell? ⟨w.heap.size, 5, none⟩ = some (.int .i64 sc) := by { rw [cellB hbx _ _ (by first | (simp; done) | (simp; omega) | omega)]; all_goals (first | assumption | go_simp) }; have x6d : wj.cell? ⟨w.heap.size, 6, none⟩ = some (.int .i64 sd) := by { rw [cellB hbx _ _ (by first | (simp; done) | (simp; omega) | omega)]; all_goals (first | assumption | go_simp) }; have x7d : wj.cell? ⟨w.heap.size, 7, none⟩ = some (.slice ap n cp) := by { rw [cellB hbx _ _ (by first | (simp; done) | (simp; omega) | omega)]; all_goals (first | assumption | go_simp) }; have y0d : wj.cell? ⟨w.heap.size + 1, 0, none⟩ = some (.string onm) := by { rw [cellB hbx _ _ (by first | (simp; done) | (simp; omega) | omega)]; all_goals (first | assumption | go_simp) }; have y1d : wj.cell? ⟨w.heap.size + 1, 1, none⟩ = some (.int .i64 oper) := by { rw [cellB hbx _ _ (by first | (simp; done) | (simp; omega) | omega)]; all_goals (first | assumption | go_simp) }; have y2d : wj.cell? ⟨w.heap.size + 1, 2, none⟩ = some (.int .i64 oleast) := by { rw [cellB hbx _ _ (by first | (simp; done) | (simp; omega) | omega)]; all_goals (first | assumption | go_simp) }; have y3d : wj.cell? ⟨w.heap.size + 1, 3, none⟩ = some (.int .i64 oa) := by { rw [cellB hbx _ _ (by first | (simp; done) | (simp; omega) | omega)]; all_goals (first | assumption | go_simp) }; have y4d : wj.cell? ⟨w.heap.size + 1, 4, none⟩ = some (.int .i64 ob) := by { rw [cellB hbx _ _ (by first | (simp; done) | (simp; omega) | omega)]; all_goals (first | assumption | go_simp) }; have y5d : wj.cell? ⟨w.heap.size + 1, 5, none⟩ = some (.int .i64 oc) := by { rw [cellB hbx _ _ (by first | (simp; done) | (simp; omega) | omega)]; all_goals (first | assumption | go_simp) }; have y6d : wj.cell? ⟨w.heap.size + 1, 6, none⟩ = some (.int .i64 od) := by { rw [cellB hbx _ _ (by first | (simp; done) | (simp; omega) | omega)]; all_goals (first | assumption | go_simp) }; have y7d : wj.cell? ⟨w.heap.size + 1, 7, none⟩ = some (.slice bp m dp) := by { rw [cellB hbx _ _ (by first | (simp; done) | (simp; omega) | omega)]; all_goals (first | assumption | go_simp) }; have r0d : wj.cell? ⟨w.heap.size + 2, 0, none⟩ = some (.int .i64 w0) := by { rw [cellB hbx _ _ (by first | (simp; done) | (simp; omega) | omega)]; all_goals (first | assumption | go_simp) }; have r1d : wj.cell? ⟨w.heap.size + 2, 1, none⟩ = some (.int .i64 w1) := by { rw [cellB hbx _ _ (by first | (simp; done) | (simp; omega) | omega)]; all_goals (first | assumption | go_simp) }; have v0d : wj.cell? ⟨X7, 0, none⟩ = some (.string snm) := by { rw [cellB hbx _ _ (by first | (simp; done) | (simp; omega) | omega)]; all_goals (first | assumption | go_simp) }; have v1d : wj.cell? ⟨X7, 1, none⟩ = some (.int .i64 sper) := by { rw [cellB hbx _ _ (by first | (simp; done) | (simp; omega) | omega)]; all_goals (first | assumption | go_simp) }; have v2d : wj.cell? ⟨X7, 2, none⟩ = some (.int .i64 sleast) := by { rw [cellB hbx _ _ (by first | (simp; done) | (simp; omega) | omega)]; all_goals (first | assumption | go_simp) }; have v3d : wj.cell? ⟨X7, 3, none⟩ = some (.int .i64 sa) := by { rw [cellB hbx _ _ (by first | (simp; done) | (simp; omega) | omega)]; all_goals (first | assumption | go_simp) }; have v4d : wj.cell? ⟨X7, 4, none⟩ = some (.int .i64 sb) := by { rw [cellB hbx _ _ (by first | (simp; done) | (simp; omega) | omega)]; all_goals (first | assumption | go_simp) }; have v5d : wj.cell? ⟨X7, 5, none⟩ = some (.int .i64 sc) := by { rw [cellB hbx _ _ (by first | (simp; done) | (simp; omega) | omega)]; all_goals (first | assumption | go_simp) }; have v6d : wj.cell? ⟨X7, 6, none⟩ = some (.int .i64 sd) := by { rw [cellB hbx _ _ (by first | (simp; done) | (simp; omega) | omega)]; all_goals (first | assumption | go_simp) }; have v7d : wj.cell? ⟨X7, 7, none⟩ = some (.slice a7 k7 c7) := by { rw [cellB hbx _ _ (by first | (simp; done) | (simp; omega) | omega)]; all_goals (first | assumption | go_simp) }; have u0d : wj.cell? ⟨X11, 0, none⟩ = some (.string snm) := by { rw [cellB hbx _ _ (by first | (simp; done) | (simp; omega) | omega)]; all_goals (first | assumption | go_simp) }; have u1d : wj.cell? ⟨X11, 1, none⟩ = some (.int .i64 sper) := by { rw [cellB hbx _ _ (by first | (simp; done) | (simp; omega) | omega)]; all_goals (first | assumption | go_simp) }; have u2d : wj.cell? ⟨X11, 2, none⟩ = some (.int .i64 sleast) := by { rw [cellB hbx _ _ (by first | (simp; done) | (simp; omega) | omega)]; all_goals (first | assumption | go_simp) }; have u3d : wj.cell? ⟨X11, 3, none⟩ = some (.int .i64 sa) := by { rw [cellB hbx _ _ (by first | (simp; done) | (simp; omega) | omega)]; all_goals (first | assumption | go_simp) }; have u4d : wj.cell? ⟨X11, 4, none⟩ = some (.int .i64 sb) := by { rw [cellB hbx _ _ (by first | (simp; done) | (simp; omega) | omega)]; all_goals (first | assumption | go_simp) }; have u5d : wj.cell? ⟨X11, 5, none⟩ = some (.int .i64 sc) := by { rw [cellB hbx _ _ (by first | (simp; done) | (simp; omega) | omega)]; all_goals (first | assumption | go_simp) }; have u6d : wj.cell? ⟨X11, 6, none⟩ = some (.int .i64 sd) := by { rw [cellB hbx _ _ (by first | (simp; done) | (simp; omega) | omega)]; all_goals (first | assumption | go_simp) }; have u7d : wj.cell? ⟨X11, 7, none⟩ = some (.slice aY k7 cY) := by { rw [cellB hbx _ _ (by first | (simp; done) | (simp; omega) | omega)]; all_goals (first | assumption | go_simp) }; have lxd : w.heap.size < wj.heap.size := by { omega }; have lyd : w.heap.size + 1 < wj.heap.size := by { omega }; have lrd : w.heap.size + 2 < wj.heap.size := by { omega }; have lvd : X7 < wj.heap.size := by { omega }; have lud : X11 < wj.heap.size := by { omega }
      have HB := Lib.hid (HB.out.trans (hbx.mono HB.out.size))
      clear x0 x1 x2 x3 x4 x5 x6 x7 y0 y1 y2 y3 y4 y5 y6 y7 r0 r1 v0 v1 v2 v3 v4 v5 v6 v7 u0 u1 u2 u3 u4 u5 u6 u7 lx ly lr lv lu hzx
      clear hbx HX HCS HCO
      have hkM : M.length = kM := by have := HM.out.len; simpa [nats] using this
      have hkN : N.length = kN := by have := HNL.out.len; simpa [nats] using this
      have hsum := HSUM.out
      rw [hkM, HK7.out] at hsum
      have hn1 := HN1.out
      rw [hkN] at hn1
      have z1 : IntKind.i64.wrap ((kM : Int) + (k7 : Int)) = (n : Int) := by rw [IntKind.wrap_i64]; omega
      have z2 : decide ((n : Int) < (kN : Int)) = false := decide_eq_false (by omega)
      have z2' : ((n : Int) < (kN : Int)) = False := by simp; omega
      have HHAS := Lib.hid (show ∀ k, k < kM → (nats N).any (fun q => decide ((nats M).getD k 0 = q)) = true from fun k hk => by
        have hx : M[k]? = some (M[k]'(by omega)) := List.getElem?_eq_getElem _
        have hy := HSUB.out _ (List.mem_of_getElem? hx)
        rw [List.any_eq_true]
        refine ⟨((M[k]'(by omega) : Nat) : Int), List.mem_map.2 ⟨_, hy, rfl⟩, ?_⟩
        rw [decide_eq_true_eq]
        unfold nats
        rw [List.getD_eq_getElem?_getD, List.getElem?_map, hx]; rfl)
      have hkm60 : kM ≤ 60 := by omega
      clear hkM hkN hsum hn1 HSUM HN1 HSUB HLC
      go_wp2_with fail
      refine (HSS.out a7 aY k7 c7 cY _ HT7.out HTY.out).mono ?_
      rintro e8 wk ⟨rfl, hbx⟩
      have HM := Lib.hid (HM.out.below hbx)
      have HNL := Lib.hid (HNL.out.below hbx)
      have hzx := hbx.size
      have x0 : wk.cell? ⟨w.heap.size, 0, none⟩ = some (.string snm) := by { rw [cellB hbx _ _ (by first | (simp; done) | (simp; omega) | omega)]; all_goals (first | assumption | go_simp) }; have x1 : wk.cell? ⟨w.heap.size, 1, none⟩ = some (.int .i64 sper) := by { rw [cellB hbx _ _ (by first | (simp; done) | (simp; omega) | omega)]; all_goals (first | assumption | go_simp) }; have x2 : wk.cell? ⟨w.heap.size, 2, none⟩ = some (.int .i64 sleast) := by { rw [cellB hbx _ _ (by first | (simp; done) | (simp; omega) | omega)]; all_goals (first | assumption | go_simp) }; have x3 : wk.cell? ⟨w.heap.size, 3, none⟩ = some (.int .i64 sa) := by { rw [cellB hbx _ _ (by first | (simp; done) | (simp; omega) | omega)]; all_goals (first | assumption | go_simp) }; have x4 : wk.cell? ⟨w.heap.size, 4, none⟩ = some (.int .i64 sb) := by { rw [cellB hbx _ _ (by first | (simp; done) | (simp; omega) | omega)]; all_goals (first | assumption | go_simp) }; have x5 : wk.cell? ⟨w.heap.size, 5, none⟩ = some (.int .i64 sc) := by { rw [cellB hbx _ _ (by first | (simp; done) | (simp; omega) | omega)]; all_goals (first | assumption | go_simp) }; have x6 : wk.cell? ⟨w.heap.size, 6, none⟩ = some (.int .i64 sd) := by { rw [cellB hbx _ _ (by first | (simp; done) | (simp; omega) | omega)]; all_goals (first | assumption | go_simp) }; have x7 : wk.cell? ⟨w.heap.size, 7, none⟩ = some (.slice ap n cp) := by { rw [cellB hbx _ _ (by first | (simp; done) | (simp; omega) | omega)]; all_goals (first | assumption | go_simp) }; have y0 : wk.cell? ⟨w.heap.size + 1, 0, none⟩ = some (.string onm) := by { rw [cellB hbx _ _ (by first | (simp; done) | (simp; omega) | omega)]; all_goals (first | assumption | go_simp) }; have y1 : wk.cell? ⟨w.heap.size + 1, 1, none⟩ = some (.int .i64 oper) := by { rw [cellB hbx _ _ (by first | (simp; done) | (simp; omega) | omega)]; all_goals (first | assumption | go_simp) }; have y2 : wk.cell? ⟨w.heap.size + 1, 2, none⟩ = some (.int .i64 oleast) := by { rw [cellB hbx _ _ (by first | (simp; done) | (simp; omega) | omega)]; all_goals (first | assumption | go_simp) }; have y3 : wk.cell? ⟨w.heap.size + 1, 3, none⟩ = some (.int .i64 oa) := by { rw [cellB hbx _ _ (by first | (simp; done) | (simp; omega) | omega)]; all_goals (first | assumption | go_simp) }; have y4 : wk.cell? ⟨w.heap.size + 1, 4, none⟩ = some (.int .i64 ob) := by { rw [cellB hbx _ _ (by first | (simp; done) | (simp; omega) | omega)]; all_goals (first | assumption | go_simp) }; have y5 : wk.cell? ⟨w.heap.size + 1, 5, none⟩ = some (.int .i64 oc) := by { rw [cellB hbx _ _ (by first | (simp; done) | (simp; omega) | omega)]; all_goals (first | assumption | go_simp) }; have y6 : wk.cell? ⟨w.heap.size + 1, 6, none⟩ = some (.int .i64 od) := by { rw [cellB hbx _ _ (by first | (simp; done) | (simp; omega) | omega)]; all_goals (first | assumption | go_simp) }; have y7 : wk.cell? ⟨w.heap.size + 1, 7, none⟩ = some (.slice bp m dp) := by { rw [cellB hbx _ _ (by first | (simp; done) | (simp; omega) | omega)]; all_goals (first | assumption | go_simp) }; have r0 : wk.cell? ⟨w.heap.size + 2, 0, none⟩ = some (.int .i64 w0) := by { rw [cellB hbx _ _ (by first | (simp; done) | (simp; omega) | omega)]; all_goals (first | assumption | go_simp) }; have r1 : wk.cell? ⟨w.heap.size + 2, 1, none⟩ = some (.int .i64 w1) := by { rw [cellB hbx _ _ (by first | (simp; done) | (simp; omega) | omega)]; all_goals (first | assumption | go_simp) }; have v0 : wk.cell? ⟨X7, 0, none⟩ = some (.string snm) := by { rw [cellB hbx _ _ (by first | (simp; done) | (simp; omega) | omega)]; all_goals (first | assumption | go_simp) }; have v1 : wk.cell? ⟨X7, 1, none⟩ = some (.int .i64 sper) := by { rw [cellB hbx _ _ (by first | (simp; done) | (simp; omega) | omega)]; all_goals (first | assumption | go_simp) }; have v2 : wk.cell? ⟨X7, 2, none⟩ = some (.int .i64 sleast) := by { rw [cellB hbx _ _ (by first | (simp; done) | (simp; omega) | omega)]; all_goals (first | assumption | go_simp) }; have v3 : wk.cell? ⟨X7, 3, none⟩ = some (.int .i64 sa) := by { rw [cellB hbx _ _ (by first | (simp; done) | (simp; omega) | omega)]; all_goals (first | assumption | go_simp) }; have v4 : wk.cell? ⟨X7, 4, none⟩ = some (.int .i64 sb) := by { rw [cellB hbx _ _ (by first | (simp; done) | (simp; omega) | omega)]; all_goals (first | assumption | go_simp) }; have v5 : wk.cell? ⟨X7, 5, none⟩ = some (.int .i64 sc) := by { rw [cellB hbx _ _ (by first | (simp; done) | (simp; omega) | omega)]; all_goals (first | assumption | go_simp) }; have v6 : wk.cell? ⟨X7, 6, none⟩ = some (.int .i64 sd) := by { rw [cellB hbx _ _ (by first | (simp; done) | (simp; omega) | omega)]; all_goals (first | assumption | go_simp) }; have v7 : wk.cell? ⟨X7, 7, none⟩ = some (.slice a7 k7 c7) := by { rw [cellB hbx _ _ (by first | (simp; done) | (simp; omega) | omega)]; all_goals (first | assumption | go_simp) }; have u0 : wk.cell? ⟨X11, 0, none⟩ = some (.string snm) := by { rw [cellB hbx _ _ (by first | (simp; done) | (simp; omega) | omega)]; all_goals (first | assumption | go_simp) }; have u1 : wk.cell? ⟨X11, 1, none⟩ = some (.int .i64 sper) := by { rw [cellB hbx _ _ (by first | (simp; done) | (simp; omega) | omega)]; all_goals (first | assumption | go_simp) }; have u2 : wk.cell? ⟨X11, 2, none⟩ = some (.int .i64 sleast) := by { rw [cellB hbx _ _ (by first | (simp; done) | (simp; omega) | omega)]; all_goals (first | assumption | go_simp) }; have u3 : wk.cell? ⟨X11, 3, none⟩ = some (.int .i64 sa) := by { rw [cellB hbx _ _ (by first | (simp; done) | (simp; omega) | omega)]; all_goals (first | assumption | go_simp) }; have u4 : wk.cell? ⟨X11, 4, none⟩ = some (.int .i64 sb) := by { rw [cellB hbx _ _ (by first | (simp; done) | (simp; omega) | omega)]; all_goals (first | assumption | go_simp) }; have u5 : wk.cell? ⟨X11, 5, none⟩ = some (.int .i64 sc) := by { rw [cellB hbx _ _ (by first | (simp; done) | (simp; omega) | omega)]; all_goals (first | assumption | go_simp) }; have u6 : wk.cell? ⟨X11, 6, none⟩ = some (.int .i64 sd) := by { rw [cellB hbx _ _ (by first | (simp; done) | (simp; omega) | omega)]; all_goals (first | assumption | go_simp) }; have u7 : wk.cell? ⟨X11, 7, none⟩ = some (.slice aY k7 cY) := by { rw [cellB hbx _ _ (by first | (simp; done) | (simp; omega) | omega)]; all_goals (first | assumption | go_simp) }; have lx : w.heap.size < wk.heap.size := by { omega }; have ly : w.heap.size + 1 < wk.heap.size := by { omega }; have lr : w.heap.size + 2 < wk.heap.size := by { omega }; have lv : X7 < wk.heap.size := by { omega }; have lu : X11 < wk.heap.size := by { omega }
      have HB := Lib.hid (HB.out.trans (hbx.mono HB.out.size))
      clear x0d x1d x2d x3d x4d x5d x6d x7d y0d y1d y2d y3d y4d y5d y6d y7d r0d r1d v0d v1d v2d v3d v4d v5d v6d v7d u0d u1d u2d u3d u4d u5d u6d u7d lxd lyd lrd lvd lud hzx
      clear hbx HSS HT7 HTY
      go_wp2_with fail
      go_loopw [17] (fun i wr => ∃ k : Nat, i = .int .i64 (k : Int) ∧ k ≤ kM ∧ wr = wk) (fun i _ => kM - (intOf i).toNat)
      case atStart => exact ⟨0, rfl, Nat.zero_le _, rfl⟩
      case round =>
        obtain ⟨k, rfl, hk, rfl⟩ := hrel
        have i0 : (0 : Int) ≤ (k : Int) := by omega
        by_cases hlt : k < kM
        · have i1 : (k : Int) < (kM : Int) := by omega
          obtain ⟨b0, o0, rfl, hb0⟩ := HM.out.block (by omega)
          have ck := HM.out.cellI hlt
          have hh := HHAS.out k hlt
          generalize (nats M).getD k 0 = x at *
          have HH := Lib.hid hh
          clear hh
          go_wp2_with fail
          refine (has_any x _ aN kN cN _ HNL.out).mono ?_
          rintro e9 wl ⟨rfl, rfl⟩
          rw [HH.out]
          go_wp2
          go_roundw
          case rel => exact ⟨k + 1, by go_num, by omega, by first | rfl | trivial⟩
          case measure => simp [intOf]; omega
        · go_wp2
          go_ret
          exact ⟨ret_bool (by simp), HB.out⟩
theorem cln_walk (s : Ser) (ap : Option Addr) (n cp : Nat) (o : Ser) (bp : Option Addr) (m dp : Nat) (w0 w1 : Int) (w : World) (hs : SerW s) (hl : T3R w ap n s.l) (ho : SerW o) (hm : T3R w bp m o.l) :
    Calls Tryz.prog 6 #[.agg #[.string s.nm, .int .i64 s.per, .int .i64 s.least, .int .i64 s.a, .int .i64 s.b, .int .i64 s.c, .int .i64 s.d, .slice ap n cp], .agg #[.string o.nm, .int .i64 o.per, .int .i64 o.least, .int .i64 o.a, .int .i64 o.b, .int .i64 o.c, .int .i64 o.d, .slice bp m dp], .agg #[.int .i64 w0, .int .i64 w1]] w fun e' w' => e' = .returned (.bool true) ∧ Below w.heap.size w w' := by
  by_cases h : (n ≤ 64 ∧ s.nm.size ≤ 30) ∧ (m ≤ 64 ∧ o.nm.size ≤ 30) ∧ outE s o w0 = 0 ∧ wi w1 w0 1000000 = true
  · exact cln_main s o w0 w1 ap bp n cp m dp w hs ho hl hm h.1 h.2.1 h.2.2.1 h.2.2.2
  · exact cln_out s o w0 w1 ap bp n cp m dp w hs ho hl hm h
end Go.Proofs.YthkekjgdknnaiaaGreat
