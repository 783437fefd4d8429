import Derived.Test.YthkekjgdknnaiaaGreatBlk
import Derived.Test.YthkekjgdknnaiaaGreatDAwk
import Derived.Test.YthkekjgdknnaiaaGreatROut
/- The pulses that come from outside, and the series without them: the statement's function. -/
namespace Go.Proofs.YthkekjgdknnaiaaGreat
open Go.RowKit
set_option linter.unusedVariables false

theorem few_false {n z : Nat} (h : ¬ (n ≤ 64 ∧ z ≤ 30)) : (decide (n ≤ 64) && decide (z ≤ 30)) = false := by
  rw [Bool.and_eq_false_iff]
  by_cases h3 : n ≤ 64
  · right; exact decide_eq_false (fun h4 => h ⟨h3, h4⟩)
  · left; exact decide_eq_false h3
theorem few_true {n z : Nat} (h : n ≤ 64 ∧ z ≤ 30) : (decide (n ≤ 64) && decide (z ≤ 30)) = true := by
  rw [decide_eq_true h.1, decide_eq_true h.2]; rfl
set_option maxHeartbeats 2000000 in
set_option maxRecDepth 100000 in
theorem out_few (s o : Ser) (win : Int) (ap bp : Option Addr) (n cp m dp : Nat) (w : World) (hs : SerW s) (ho : SerW o) (hl : T3R w ap n s.l) (hm : T3R w bp m o.l) (h : ¬ ((n ≤ 64 ∧ s.nm.size ≤ 30) ∧ (m ≤ 64 ∧ o.nm.size ≤ 30))) :
    Calls Tryz.prog 5 #[.agg #[.string s.nm, .int .i64 s.per, .int .i64 s.least, .int .i64 s.a, .int .i64 s.b, .int .i64 s.c, .int .i64 s.d, .slice ap n cp], .agg #[.string o.nm, .int .i64 o.per, .int .i64 o.least, .int .i64 o.a, .int .i64 o.b, .int .i64 o.c, .int .i64 o.d, .slice bp m dp], .int .i64 win] w fun e' w' => e' = .returned (.bool true) ∧ Below w.heap.size w w' := by
  have HFS := Lib.hid (fun W => few9_any s ap n cp W hl.small hs.1)
  have HFO := Lib.hid (fun W => few9_any o bp m dp W hm.small ho.1)
  clear hs ho hl hm
  by_cases h1 : n ≤ 64 ∧ s.nm.size ≤ 30
  · have h2 : ¬ (m ≤ 64 ∧ o.nm.size ≤ 30) := fun h2 => h ⟨h1, h2⟩
    rw [few_true h1] at HFS
    rw [few_false h2] at HFO
    obtain ⟨snm, sper, sleast, sa, sb, sc, sd, sl⟩ := s
    obtain ⟨onm, oper, oleast, oa, ob, oc, od, ol⟩ := o
    simp only at *
    clear h h1 h2
    go_enter Tryz.func5, Tryz.ntmps5
    go_wp2_with fail
    generalize hW : World.alloc _ _ = w4
    have hb4 : Below w.heap.size w w4 := by rw [← hW]; (repeat' (first | (with_reducible exact Below.refl _ _) | (with_reducible assumption) | (with_reducible refine Below.drewN ?_ _) | (with_reducible refine Below.alloc ?_ ?_ _) | (with_reducible refine Below.drew ?_) | (with_reducible refine Below.setCell ?_ ?_ _) | (with_reducible refine Below.step (by assumption) ?_ ?_) | (with_reducible exact And.left (by assumption)) | go_size))
    have x0 : w4.cell? ⟨w.heap.size, 0, none⟩ = some (.string snm) := by { rw [← hW]; clear hW; go_simp }
    have x1 : w4.cell? ⟨w.heap.size, 1, none⟩ = some (.int .i64 sper) := by { rw [← hW]; clear hW; go_simp }
    have x2 : w4.cell? ⟨w.heap.size, 2, none⟩ = some (.int .i64 sleast) := by { rw [← hW]; clear hW; go_simp }
    have x3 : w4.cell? ⟨w.heap.size, 3, none⟩ = some (.int .i64 sa) := by { rw [← hW]; clear hW; go_simp }
    have x4 : w4.cell? ⟨w.heap.size, 4, none⟩ = some (.int .i64 sb) := by { rw [← hW]; clear hW; go_simp }
    have x5 : w4.cell? ⟨w.heap.size, 5, none⟩ = some (.int .i64 sc) := by { rw [← hW]; clear hW; go_simp }
    have x6 : w4.cell? ⟨w.heap.size, 6, none⟩ = some (.int .i64 sd) := by { rw [← hW]; clear hW; go_simp }
    have x7 : w4.cell? ⟨w.heap.size, 7, none⟩ = some (.slice ap n cp) := by { rw [← hW]; clear hW; go_simp }
    have y0 : w4.cell? ⟨w.heap.size + 1, 0, none⟩ = some (.string onm) := by { rw [← hW]; clear hW; go_simp }
    have y1 : w4.cell? ⟨w.heap.size + 1, 1, none⟩ = some (.int .i64 oper) := by { rw [← hW]; clear hW; go_simp }
    have y2 : w4.cell? ⟨w.heap.size + 1, 2, none⟩ = some (.int .i64 oleast) := by { rw [← hW]; clear hW; go_simp }
    have y3 : w4.cell? ⟨w.heap.size + 1, 3, none⟩ = some (.int .i64 oa) := by { rw [← hW]; clear hW; go_simp }
    have y4 : w4.cell? ⟨w.heap.size + 1, 4, none⟩ = some (.int .i64 ob) := by { rw [← hW]; clear hW; go_simp }
    have y5 : w4.cell? ⟨w.heap.size + 1, 5, none⟩ = some (.int .i64 oc) := by { rw [← hW]; clear hW; go_simp }
    have y6 : w4.cell? ⟨w.heap.size + 1, 6, none⟩ = some (.int .i64 od) := by { rw [← hW]; clear hW; go_simp }
    have y7 : w4.cell? ⟨w.heap.size + 1, 7, none⟩ = some (.slice bp m dp) := by { rw [← hW]; clear hW; go_simp }
    have ly : w.heap.size + 1 < w4.heap.size := by { rw [← hW]; clear hW; simp; done }
    have lx : w.heap.size < w4.heap.size := by omega
    have HB := Lib.hid hb4
    clear hW hb4
    refine (awake9_any _).mono ?_
    rintro e5 w5 ⟨rfl, hb5⟩
    have hzx := hb5.size
    have x0d : w5.cell? ⟨w.heap.size, 0, none⟩ = some (.string snm) := by { rw [cellB hb5 _ _ (by first | (simp; done) | (simp; omega) | omega)]; all_goals (first | assumption | go_simp) }; have x1d : w5.cell? ⟨w.heap.size, 1, none⟩ = some (.int .i64 sper) := by { rw [cellB hb5 _ _ (by first | (simp; done) | (simp; omega) | omega)]; all_goals (first | assumption | go_simp) }; have x2d : w5.cell? ⟨w.heap.size, 2, none⟩ = some (.int .i64 sleast) := by { rw [cellB hb5 _ _ (by first | (simp; done) | (simp; omega) | omega)]; all_goals (first | assumption | go_simp) }; have x3d : w5.cell? ⟨w.heap.size, 3, none⟩ = some (.int .i64 sa) := by { rw [cellB hb5 _ _ (by first | (simp; done) | (simp; omega) | omega)]; all_goals (first | assumption | go_simp) }; have x4d : w5.cell? ⟨w.heap.size, 4, none⟩ = some (.int .i64 sb) := by { rw [cellB hb5 _ _ (by first | (simp; done) | (simp; omega) | omega)]; all_goals (first | assumption | go_simp) }; have x5d : w5.cell? ⟨w.heap.size, 5, none⟩ = some (.int .i64 sc) := by { rw [cellB hb5 _ _ (by first | (simp; done) | (simp; omega) | omega)]; all_goals (first | assumption | go_simp) }; have x6d : w5.cell? ⟨w.heap.size, 6, none⟩ = some (.int .i64 sd) := by { rw [cellB hb5 _ _ (by first | (simp; done) | (simp; omega) | omega)]; all_goals (first | assumption | go_simp) }; have x7d : w5.cell? ⟨w.heap.size, 7, none⟩ = some (.slice ap n cp) := by { rw [cellB hb5 _ _ (by first | (simp; done) | (simp; omega) | omega)]; all_goals (first | assumption | go_simp) }; have y0d : w5.cell? ⟨w.heap.size + 1, 0, none⟩ = some (.string onm) := by { rw [cellB hb5 _ _ (by first | (simp; done) | (simp; omega) | omega)]; all_goals (first | assumption | go_simp) }; have y1d : w5.cell? ⟨w.heap.size + 1, 1, none⟩ = some (.int .i64 oper) := by { rw [cellB hb5 _ _ (by first | (simp; done) | (simp; omega) | omega)]; all_goals (first | assumption | go_simp) }; have y2d : w5.cell? ⟨w.heap.size + 1, 2, none⟩ = some (.int .i64 oleast) := by { rw [cellB hb5 _ _ (by first | (simp; done) | (simp; omega) | omega)]; all_goals (first | assumption | go_simp) }; have y3d : w5.cell? ⟨w.heap.size + 1, 3, none⟩ = some (.int .i64 oa) := by { rw [cellB hb5 _ _ (by first | (simp; done) | (simp; omega) | omega)]; all_goals (first | assumption | go_simp) }; have y4d : w5.cell? ⟨w.heap.size + 1, 4, none⟩ = some (.int .i64 ob) := by { rw [cellB hb5 _ _ (by first | (simp; done) | (simp; omega) | omega)]; all_goals (first | assumption | go_simp) }; have y5d : w5.cell? ⟨w.heap.size + 1, 5, none⟩ = some (.int .i64 oc) := by { rw [cellB hb5 _ _ (by first | (simp; done) | (simp; omega) | omega)]; all_goals (first | assumption | go_simp) }; have y6d : w5.cell? ⟨w.heap.size + 1, 6, none⟩ = some (.int .i64 od) := by { rw [cellB hb5 _ _ (by first | (simp; done) | (simp; omega) | omega)]; all_goals (first | assumption | go_simp) }; have y7d : w5.cell? ⟨w.heap.size + 1, 7, none⟩ = some (.slice bp m dp) := by { rw [cellB hb5 _ _ (by first | (simp; done) | (simp; omega) | omega)]; all_goals (first | assumption | go_simp) }; have lxd : w.heap.size < w5.heap.size := by { omega }; have lyd : w.heap.size + 1 < w5.heap.size := by { omega }
    have HB := Lib.hid (HB.out.trans (hb5.mono HB.out.size))
    clear x0 x1 x2 x3 x4 x5 x6 x7 y0 y1 y2 y3 y4 y5 y6 y7 lx ly hzx
    clear hb5
    go_wp2_with fail
    refine (HFS.out _).mono ?_
    rintro e6 w6 ⟨rfl, hb6⟩
    have hzx := hb6.size
    have x0 : w6.cell? ⟨w.heap.size, 0, none⟩ = some (.string snm) := by { rw [cellB hb6 _ _ (by first | (simp; done) | (simp; omega) | omega)]; all_goals (first | assumption | go_simp) }; have x1 : w6.cell? ⟨w.heap.size, 1, none⟩ = some (.int .i64 sper) := by { rw [cellB hb6 _ _ (by first | (simp; done) | (simp; omega) | omega)]; all_goals (first | assumption | go_simp) }; have x2 : w6.cell? ⟨w.heap.size, 2, none⟩ = some (.int .i64 sleast) := by { rw [cellB hb6 _ _ (by first | (simp; done) | (simp; omega) | omega)]; all_goals (first | assumption | go_simp) }; have x3 : w6.cell? ⟨w.heap.size, 3, none⟩ = some (.int .i64 sa) := by { rw [cellB hb6 _ _ (by first | (simp; done) | (simp; omega) | omega)]; all_goals (first | assumption | go_simp) }; have x4 : w6.cell? ⟨w.heap.size, 4, none⟩ = some (.int .i64 sb) := by { rw [cellB hb6 _ _ (by first | (simp; done) | (simp; omega) | omega)]; all_goals (first | assumption | go_simp) }; have x5 : w6.cell? ⟨w.heap.size, 5, none⟩ = some (.int .i64 sc) := by { rw [cellB hb6 _ _ (by first | (simp; done) | (simp; omega) | omega)]; all_goals (first | assumption | go_simp) }; have x6 : w6.cell? ⟨w.heap.size, 6, none⟩ = some (.int .i64 sd) := by { rw [cellB hb6 _ _ (by first | (simp; done) | (simp; omega) | omega)]; all_goals (first | assumption | go_simp) }; have x7 : w6.cell? ⟨w.heap.size, 7, none⟩ = some (.slice ap n cp) := by { rw [cellB hb6 _ _ (by first | (simp; done) | (simp; omega) | omega)]; all_goals (first | assumption | go_simp) }; have y0 : w6.cell? ⟨w.heap.size + 1, 0, none⟩ = some (.string onm) := by { rw [cellB hb6 _ _ (by first | (simp; done) | (simp; omega) | omega)]; all_goals (first | assumption | go_simp) }; have y1 : w6.cell? ⟨w.heap.size + 1, 1, none⟩ = some (.int .i64 oper) := by { rw [cellB hb6 _ _ (by first | (simp; done) | (simp; omega) | omega)]; all_goals (first | assumption | go_simp) }; have y2 : w6.cell? ⟨w.heap.size + 1, 2, none⟩ = some (.int .i64 oleast) := by { rw [cellB hb6 _ _ (by first | (simp; done) | (simp; omega) | omega)]; all_goals (first | assumption | go_simp) }; have y3 : w6.cell? ⟨w.heap.size + 1, 3, none⟩ = some (.int .i64 oa) := by { rw [cellB hb6 _ _ (by first | (simp; done) | (simp; omega) | omega)]; all_goals (first | assumption | go_simp) }; have y4 : w6.cell? ⟨w.heap.size + 1, 4, none⟩ = some (.int .i64 ob) := by { rw [cellB hb6 _ _ (by first | (simp; done) | (simp; omega) | omega)]; all_goals (first | assumption | go_simp) }; have y5 : w6.cell? ⟨w.heap.size + 1, 5, none⟩ = some (.int .i64 oc) := by { rw [cellB hb6 _ _ (by first | (simp; done) | (simp; omega) | omega)]; all_goals (first | assumption | go_simp) }; have y6 : w6.cell? ⟨w.heap.size + 1, 6, none⟩ = some (.int .i64 od) := by { rw [cellB hb6 _ _ (by first | (simp; done) | (simp; omega) | omega)]; all_goals (first | assumption | go_simp) }; have y7 : w6.cell? ⟨w.heap.size + 1, 7, none⟩ = some (.slice bp m dp) := by { rw [cellB hb6 _ _ (by first | (simp; done) | (simp; omega) | omega)]; all_goals (first | assumption | go_simp) }; have lx : w.heap.size < w6.heap.size := by { omega }; have ly : w.heap.size + 1 < w6.heap.size := by { omega }
    have HB := Lib.hid (HB.out.trans (hb6.mono HB.out.size))
    clear x0d x1d x2d x3d x4d x5d x6d x7d y0d y1d y2d y3d y4d y5d y6d y7d lxd lyd hzx
    clear hb6
    go_wp2_with fail
    refine (HFO.out _).mono ?_
    rintro e7 w7 ⟨rfl, hb7⟩
    have HB := Lib.hid (HB.out.trans (hb7.mono HB.out.size))
    go_wp2
    go_ret
    exact ⟨ret_bool (by simp), HB.out⟩
  · rw [few_false h1] at HFS
    obtain ⟨snm, sper, sleast, sa, sb, sc, sd, sl⟩ := s
    obtain ⟨onm, oper, oleast, oa, ob, oc, od, ol⟩ := o
    simp only at *
    clear h h1
    go_enter Tryz.func5, Tryz.ntmps5
    go_wp2_with fail
    generalize hW : World.alloc _ _ = w4
    have hb4 : Below w.heap.size w w4 := by rw [← hW]; (repeat' (first | (with_reducible exact Below.refl _ _) | (with_reducible assumption) | (with_reducible refine Below.drewN ?_ _) | (with_reducible refine Below.alloc ?_ ?_ _) | (with_reducible refine Below.drew ?_) | (with_reducible refine Below.setCell ?_ ?_ _) | (with_reducible refine Below.step (by assumption) ?_ ?_) | (with_reducible exact And.left (by assumption)) | go_size))
    have x0 : w4.cell? ⟨w.heap.size, 0, none⟩ = some (.string snm) := by { rw [← hW]; clear hW; go_simp }
    have x1 : w4.cell? ⟨w.heap.size, 1, none⟩ = some (.int .i64 sper) := by { rw [← hW]; clear hW; go_simp }
    have x2 : w4.cell? ⟨w.heap.size, 2, none⟩ = some (.int .i64 sleast) := by { rw [← hW]; clear hW; go_simp }
    have x3 : w4.cell? ⟨w.heap.size, 3, none⟩ = some (.int .i64 sa) := by { rw [← hW]; clear hW; go_simp }
    have x4 : w4.cell? ⟨w.heap.size, 4, none⟩ = some (.int .i64 sb) := by { rw [← hW]; clear hW; go_simp }
    have x5 : w4.cell? ⟨w.heap.size, 5, none⟩ = some (.int .i64 sc) := by { rw [← hW]; clear hW; go_simp }
    have x6 : w4.cell? ⟨w.heap.size, 6, none⟩ = some (.int .i64 sd) := by { rw [← hW]; clear hW; go_simp }
    have x7 : w4.cell? ⟨w.heap.size, 7, none⟩ = some (.slice ap n cp) := by { rw [← hW]; clear hW; go_simp }
    have y0 : w4.cell? ⟨w.heap.size + 1, 0, none⟩ = some (.string onm) := by { rw [← hW]; clear hW; go_simp }
    have y1 : w4.cell? ⟨w.heap.size + 1, 1, none⟩ = some (.int .i64 oper) := by { rw [← hW]; clear hW; go_simp }
    have y2 : w4.cell? ⟨w.heap.size + 1, 2, none⟩ = some (.int .i64 oleast) := by { rw [← hW]; clear hW; go_simp }
    have y3 : w4.cell? ⟨w.heap.size + 1, 3, none⟩ = some (.int .i64 oa) := by { rw [← hW]; clear hW; go_simp }
    have y4 : w4.cell? ⟨w.heap.size + 1, 4, none⟩ = some (.int .i64 ob) := by { rw [← hW]; clear hW; go_simp }
    have y5 : w4.cell? ⟨w.heap.size + 1, 5, none⟩ = some (.int .i64 oc) := by { rw [← hW]; clear hW; go_simp }
    have y6 : w4.cell? ⟨w.heap.size + 1, 6, none⟩ = some (.int .i64 od) := by { rw [← hW]; clear hW; go_simp }
    have y7 : w4.cell? ⟨w.heap.size + 1, 7, none⟩ = some (.slice bp m dp) := by { rw [← hW]; clear hW; go_simp }
    have ly : w.heap.size + 1 < w4.heap.size := by { rw [← hW]; clear hW; simp; done }
    have lx : w.heap.size < w4.heap.size := by omega
    have HB := Lib.hid hb4
    clear hW hb4
    refine (awake9_any _).mono ?_
    rintro e5 w5 ⟨rfl, hb5⟩
    have hzx := hb5.size
    have x0d : w5.cell? ⟨w.heap.size, 0, none⟩ = some (.string snm) := by { rw [cellB hb5 _ _ (by first | (simp; done) | (simp; omega) | omega)]; all_goals (first | assumption | go_simp) }; have x1d : w5.cell? ⟨w.heap.size, 1, none⟩ = some (.int .i64 sper) := by { rw [cellB hb5 _ _ (by first | (simp; done) | (simp; omega) | omega)]; all_goals (first | assumption | go_simp) }; have x2d : w5.cell? ⟨w.heap.size, 2, none⟩ = some (.int .i64 sleast) := by { rw [cellB hb5 _ _ (by first | (simp; done) | (simp; omega) | omega)]; all_goals (first | assumption | go_simp) }; have x3d : w5.cell? ⟨w.heap.size, 3, none⟩ = some (.int .i64 sa) := by { rw [cellB hb5 _ _ (by first | (simp; done) | (simp; omega) | omega)]; all_goals (first | assumption | go_simp) }; have x4d : w5.cell? ⟨w.heap.size, 4, none⟩ = some (.int .i64 sb) := by { rw [cellB hb5 _ _ (by first | (simp; done) | (simp; omega) | omega)]; all_goals (first | assumption | go_simp) }; have x5d : w5.cell? ⟨w.heap.size, 5, none⟩ = some (.int .i64 sc) := by { rw [cellB hb5 _ _ (by first | (simp; done) | (simp; omega) | omega)]; all_goals (first | assumption | go_simp) }; have x6d : w5.cell? ⟨w.heap.size, 6, none⟩ = some (.int .i64 sd) := by { rw [cellB hb5 _ _ (by first | (simp; done) | (simp; omega) | omega)]; all_goals (first | assumption | go_simp) }; have x7d : w5.cell? ⟨w.heap.size, 7, none⟩ = some (.slice ap n cp) := by { rw [cellB hb5 _ _ (by first | (simp; done) | (simp; omega) | omega)]; all_goals (first | assumption | go_simp) }; have y0d : w5.cell? ⟨w.heap.size + 1, 0, none⟩ = some (.string onm) := by { rw [cellB hb5 _ _ (by first | (simp; done) | (simp; omega) | omega)]; all_goals (first | assumption | go_simp) }; have y1d : w5.cell? ⟨w.heap.size + 1, 1, none⟩ = some (.int .i64 oper) := by { rw [cellB hb5 _ _ (by first | (simp; done) | (simp; omega) | omega)]; all_goals (first | assumption | go_simp) }; have y2d : w5.cell? ⟨w.heap.size + 1, 2, none⟩ = some (.int .i64 oleast) := by { rw [cellB hb5 _ _ (by first | (simp; done) | (simp; omega) | omega)]; all_goals (first | assumption | go_simp) }; have y3d : w5.cell? ⟨w.heap.size + 1, 3, none⟩ = some (.int .i64 oa) := by { rw [cellB hb5 _ _ (by first | (simp; done) | (simp; omega) | omega)]; all_goals (first | assumption | go_simp) }; have y4d : w5.cell? ⟨w.heap.size + 1, 4, none⟩ = some (.int .i64 ob) := by { rw [cellB hb5 _ _ (by first | (simp; done) | (simp; omega) | omega)]; all_goals (first | assumption | go_simp) }; have y5d : w5.cell? ⟨w.heap.size + 1, 5, none⟩ = some (.int .i64 oc) := by { rw [cellB hb5 _ _ (by first | (simp; done) | (simp; omega) | omega)]; all_goals (first | assumption | go_simp) }; have y6d : w5.cell? ⟨w.heap.size + 1, 6, none⟩ = some (.int .i64 od) := by { rw [cellB hb5 _ _ (by first | (simp; done) | (simp; omega) | omega)]; all_goals (first | assumption | go_simp) }; have y7d : w5.cell? ⟨w.heap.size + 1, 7, none⟩ = some (.slice bp m dp) := by { rw [cellB hb5 _ _ (by first | (simp; done) | (simp; omega) | omega)]; all_goals (first | assumption | go_simp) }; have lxd : w.heap.size < w5.heap.size := by { omega }; have lyd : w.heap.size + 1 < w5.heap.size := by { omega }
    have HB := Lib.hid (HB.out.trans (hb5.mono HB.out.size))
    clear x0 x1 x2 x3 x4 x5 x6 x7 y0 y1 y2 y3 y4 y5 y6 y7 lx ly hzx
    clear hb5
    go_wp2_with fail
    refine (HFS.out _).mono ?_
    rintro e6 w6 ⟨rfl, hb6⟩
    have hzx := hb6.size
    have x0 : w6.cell? ⟨w.heap.size, 0, none⟩ = some (.string snm) := by { rw [cellB hb6 _ _ (by first | (simp; done) | (simp; omega) | omega)]; all_goals (first | assumption | go_simp) }; have x1 : w6.cell? ⟨w.heap.size, 1, none⟩ = some (.int .i64 sper) := by { rw [cellB hb6 _ _ (by first | (simp; done) | (simp; omega) | omega)]; all_goals (first | assumption | go_simp) }; have x2 : w6.cell? ⟨w.heap.size, 2, none⟩ = some (.int .i64 sleast) := by { rw [cellB hb6 _ _ (by first | (simp; done) | (simp; omega) | omega)]; all_goals (first | assumption | go_simp) }; have x3 : w6.cell? ⟨w.heap.size, 3, none⟩ = some (.int .i64 sa) := by { rw [cellB hb6 _ _ (by first | (simp; done) | (simp; omega) | omega)]; all_goals (first | assumption | go_simp) }; have x4 : w6.cell? ⟨w.heap.size, 4, none⟩ = some (.int .i64 sb) := by { rw [cellB hb6 _ _ (by first | (simp; done) | (simp; omega) | omega)]; all_goals (first | assumption | go_simp) }; have x5 : w6.cell? ⟨w.heap.size, 5, none⟩ = some (.int .i64 sc) := by { rw [cellB hb6 _ _ (by first | (simp; done) | (simp; omega) | omega)]; all_goals (first | assumption | go_simp) }; have x6 : w6.cell? ⟨w.heap.size, 6, none⟩ = some (.int .i64 sd) := by { rw [cellB hb6 _ _ (by first | (simp; done) | (simp; omega) | omega)]; all_goals (first | assumption | go_simp) }; have x7 : w6.cell? ⟨w.heap.size, 7, none⟩ = some (.slice ap n cp) := by { rw [cellB hb6 _ _ (by first | (simp; done) | (simp; omega) | omega)]; all_goals (first | assumption | go_simp) }; have y0 : w6.cell? ⟨w.heap.size + 1, 0, none⟩ = some (.string onm) := by { rw [cellB hb6 _ _ (by first | (simp; done) | (simp; omega) | omega)]; all_goals (first | assumption | go_simp) }; have y1 : w6.cell? ⟨w.heap.size + 1, 1, none⟩ = some (.int .i64 oper) := by { rw [cellB hb6 _ _ (by first | (simp; done) | (simp; omega) | omega)]; all_goals (first | assumption | go_simp) }; have y2 : w6.cell? ⟨w.heap.size + 1, 2, none⟩ = some (.int .i64 oleast) := by { rw [cellB hb6 _ _ (by first | (simp; done) | (simp; omega) | omega)]; all_goals (first | assumption | go_simp) }; have y3 : w6.cell? ⟨w.heap.size + 1, 3, none⟩ = some (.int .i64 oa) := by { rw [cellB hb6 _ _ (by first | (simp; done) | (simp; omega) | omega)]; all_goals (first | assumption | go_simp) }; have y4 : w6.cell? ⟨w.heap.size + 1, 4, none⟩ = some (.int .i64 ob) := by { rw [cellB hb6 _ _ (by first | (simp; done) | (simp; omega) | omega)]; all_goals (first | assumption | go_simp) }; have y5 : w6.cell? ⟨w.heap.size + 1, 5, none⟩ = some (.int .i64 oc) := by { rw [cellB hb6 _ _ (by first | (simp; done) | (simp; omega) | omega)]; all_goals (first | assumption | go_simp) }; have y6 : w6.cell? ⟨w.heap.size + 1, 6, none⟩ = some (.int .i64 od) := by { rw [cellB hb6 _ _ (by first | (simp; done) | (simp; omega) | omega)]; all_goals (first | assumption | go_simp) }; have y7 : w6.cell? ⟨w.heap.size + 1, 7, none⟩ = some (.slice bp m dp) := by { rw [cellB hb6 _ _ (by first | (simp; done) | (simp; omega) | omega)]; all_goals (first | assumption | go_simp) }; have lx : w.heap.size < w6.heap.size := by { omega }; have ly : w.heap.size + 1 < w6.heap.size := by { omega }
    have HB := Lib.hid (HB.out.trans (hb6.mono HB.out.size))
    clear x0d x1d x2d x3d x4d x5d x6d x7d y0d y1d y2d y3d y4d y5d y6d y7d lxd lyd hzx
    clear hb6
    go_wp2
    go_ret
    exact ⟨ret_bool (by simp), HB.out⟩
/-- Pulses that a call has made. -/
def PulO (w : World) (a : Option Addr) (k c : Nat) (l : List T3) : Prop := ∃ base, w.ownsRow base 127 3 (.slice a k c) k (ecells e3 l)
theorem PulO.t3 {w : World} {a : Option Addr} {k c : Nat} {l : List T3} (h : PulO w a k c l) : T3R w a k l := by
  obtain ⟨b, h⟩ := h
  exact ER.of_owns (by have := h.1; rw [ecells_len e3_len] at this; omega) h
theorem PulO.below {w w' : World} {a : Option Addr} {k c : Nat} {l : List T3} (h : PulO w a k c l) (hb : Below w.heap.size w w') : PulO w' a k c l := by
  obtain ⟨b, h⟩ := h
  exact ⟨b, owns_below h hb (fun z hz => (h.lt z hz).2)⟩
def PX (w : World) (X : Nat) (a : Option Addr) (k c : Nat) (l : List T3) : Prop := PulO w a k c l ∧ ∃ cs, w.heap[X]? = some (.cells cs 56)
theorem PX.set {w : World} {X : Nat} {a : Option Addr} {k c : Nat} {l : List T3} (h : PX w X a k c l) (i : Nat) (v : Value) : PX (w.setCell ⟨X, i, none⟩ v) X a k c l := by
  obtain ⟨⟨b, h1⟩, cs, hx⟩ := h
  refine ⟨⟨b, h1.1, ?_⟩, _, blk_set hx i v⟩
  rcases h1.2 with hn | ⟨g, cap, cur, hv, hbase, hg, rest⟩
  · exact .inl hn
  · refine .inr ⟨g, cap, cur, hv, hbase, ?_, rest⟩
    have hne : g ≠ X := by
      rintro rfl
      rw [hx] at hg
      simp only [Option.some.injEq, Obj.cells.injEq] at hg
      exact absurd hg.2.1 (by decide)
    exact (heap_set_neO hne).trans hg
set_option maxHeartbeats 4000000 in
set_option maxRecDepth 100000 in
theorem out_main (s o : Ser) (win : Int) (ap bp : Option Addr) (n cp m dp : Nat) (w : World) (hs : SerW s) (ho : SerW o) (hl : T3R w ap n s.l) (hm : T3R w bp m o.l) (h1 : n ≤ 64 ∧ s.nm.size ≤ 30) (h2 : m ≤ 64 ∧ o.nm.size ≤ 30) :
    Calls Tryz.prog 5 #[.agg #[.string s.nm, .int .i64 s.per, .int .i64 s.least, .int .i64 s.a, .int .i64 s.b, .int .i64 s.c, .int .i64 s.d, .slice ap n cp], .agg #[.string o.nm, .int .i64 o.per, .int .i64 o.least, .int .i64 o.a, .int .i64 o.b, .int .i64 o.c, .int .i64 o.d, .slice bp m dp], .int .i64 win] w fun e' w' => e' = .returned (.bool true) ∧ Below w.heap.size w w' := by
  have HFS := Lib.hid (fun W => few9_any s ap n cp W hl.small hs.1)
  have HFO := Lib.hid (fun W => few9_any o bp m dp W hm.small ho.1)
  rw [few_true h1] at HFS
  rw [few_true h2] at HFO
  have HCS := Lib.hid (fun (W : World) (hb : Below w.heap.size w W) => copySeries_any s ap n cp W (hl.below hb) (by omega))
  have HCO := Lib.hid (fun (W : World) (hb : Below w.heap.size w W) => copySeries_any o bp m dp W (hm.below hb) (by omega))
  have HFR := Lib.hid (fun (a1 a2 : Option Addr) (c1 c2 : Nat) (W : World) (g1 : T3R W a1 n s.l) (g2 : T3R W a2 m o.l) => fromOutside_any s o win a1 a2 n c1 m c2 W hs ho g1 g2)
  have HCL := Lib.hid (fun (a1 a2 : Option Addr) (c1 c2 : Nat) (W : World) (g1 : T3R W a1 n s.l) (g2 : T3R W a2 m o.l) => cleaned_any s o win a1 a2 n c1 m c2 W hs ho g1 g2)
  have HOE := Lib.hid (fun (W : World) (hb : Below w.heap.size w W) => rOutsideErr_any s o win ap bp n cp m dp W hs ho (hl.below hb) (hm.below hb))
  have HRF := Lib.hid (fun (h0 : outE s o win = 0) (W : World) (hb : Below w.heap.size w W) => rFromOutside_any s o win ap bp n cp m dp W (hl.below hb) (hm.below hb) h0)
  have HRC := Lib.hid (fun (h0 : outE s o win = 0) (aF : Option Addr) (kF cF : Nat) (W : World) (hb : Below w.heap.size w W) (hF : IntsR W aF kF (nats (frO s.l o.l win n))) => rCleaned_any s o.l win ap aF n cp kF cF W (hl.below hb) hF (by rw [← hl.len]; exact ser_60 (outE_zero h0).1))
  have HV := Lib.hid (show foV s o win = if outE s o win ≠ 0 then [] else frO s.l o.l win n by unfold foV; rw [hl.len])
  have HC := Lib.hid (show clS s o win = if outE s o win ≠ 0 then ⟨⟨#[]⟩, 0, 0, 0, 0, 0, 0, []⟩ else { s with l := clO s.l o.l win } from rfl)
  have HSS := Lib.hid (fun (C : Ser) (a1 a2 : Option Addr) (k c1 c2 : Nat) (W : World) (g1 : T3R W a1 k C.l) (g2 : T3R W a2 k C.l) => sameSeries_same C a1 a2 k c1 c2 W g1 g2)
  clear hs ho hl hm h1 h2
  generalize outE s o win = E at *
  generalize foV s o win = FV at *
  generalize clS s o win = C at *
  obtain ⟨cnm, cper, cleast, ca, cb, cc, cd, cl⟩ := C
  obtain ⟨snm, sper, sleast, sa, sb, sc, sd, sl⟩ := s
  obtain ⟨onm, oper, oleast, oa, ob, oc, od, ol⟩ := o
  simp only at *
  go_enter Tryz.func5, Tryz.ntmps5
  go_wp2_with fail
  generalize hW : World.alloc _ _ = w4
  have hb4 : Below w.heap.size w w4 := by rw [← hW]; (repeat' (first | (with_reducible exact Below.refl _ _) | (with_reducible assumption) | (with_reducible refine Below.drewN ?_ _) | (with_reducible refine Below.alloc ?_ ?_ _) | (with_reducible refine Below.drew ?_) | (with_reducible refine Below.setCell ?_ ?_ _) | (with_reducible refine Below.step (by assumption) ?_ ?_) | (with_reducible exact And.left (by assumption)) | go_size))
  have x0 : w4.cell? ⟨w.heap.size, 0, none⟩ = some (.string snm) := by { rw [← hW]; clear hW; go_simp }
  have x1 : w4.cell? ⟨w.heap.size, 1, none⟩ = some (.int .i64 sper) := by { rw [← hW]; clear hW; go_simp }
  have x2 : w4.cell? ⟨w.heap.size, 2, none⟩ = some (.int .i64 sleast) := by { rw [← hW]; clear hW; go_simp }
  have x3 : w4.cell? ⟨w.heap.size, 3, none⟩ = some (.int .i64 sa) := by { rw [← hW]; clear hW; go_simp }
  have x4 : w4.cell? ⟨w.heap.size, 4, none⟩ = some (.int .i64 sb) := by { rw [← hW]; clear hW; go_simp }
  have x5 : w4.cell? ⟨w.heap.size, 5, none⟩ = some (.int .i64 sc) := by { rw [← hW]; clear hW; go_simp }
  have x6 : w4.cell? ⟨w.heap.size, 6, none⟩ = some (.int .i64 sd) := by { rw [← hW]; clear hW; go_simp }
  have x7 : w4.cell? ⟨w.heap.size, 7, none⟩ = some (.slice ap n cp) := by { rw [← hW]; clear hW; go_simp }
  have y0 : w4.cell? ⟨w.heap.size + 1, 0, none⟩ = some (.string onm) := by { rw [← hW]; clear hW; go_simp }
  have y1 : w4.cell? ⟨w.heap.size + 1, 1, none⟩ = some (.int .i64 oper) := by { rw [← hW]; clear hW; go_simp }
  have y2 : w4.cell? ⟨w.heap.size + 1, 2, none⟩ = some (.int .i64 oleast) := by { rw [← hW]; clear hW; go_simp }
  have y3 : w4.cell? ⟨w.heap.size + 1, 3, none⟩ = some (.int .i64 oa) := by { rw [← hW]; clear hW; go_simp }
  have y4 : w4.cell? ⟨w.heap.size + 1, 4, none⟩ = some (.int .i64 ob) := by { rw [← hW]; clear hW; go_simp }
  have y5 : w4.cell? ⟨w.heap.size + 1, 5, none⟩ = some (.int .i64 oc) := by { rw [← hW]; clear hW; go_simp }
  have y6 : w4.cell? ⟨w.heap.size + 1, 6, none⟩ = some (.int .i64 od) := by { rw [← hW]; clear hW; go_simp }
  have y7 : w4.cell? ⟨w.heap.size + 1, 7, none⟩ = some (.slice bp m dp) := by { rw [← hW]; clear hW; go_simp }
  have ly : w.heap.size + 1 < w4.heap.size := by { rw [← hW]; clear hW; simp; done }
  have lx : w.heap.size < w4.heap.size := by omega
  have HB := Lib.hid hb4
  clear hW hb4
  refine (awake9_any _).mono ?_
  rintro e5 w5 ⟨rfl, hb5⟩
  have hzx := hb5.size
  have x0d : w5.cell? ⟨w.heap.size, 0, none⟩ = some (.string snm) := by { rw [cellB hb5 _ _ (by first | (simp; done) | (simp; omega) | omega)]; all_goals (first | assumption | go_simp) }; have x1d : w5.cell? ⟨w.heap.size, 1, none⟩ = some (.int .i64 sper) := by { rw [cellB hb5 _ _ (by first | (simp; done) | (simp; omega) | omega)]; all_goals (first | assumption | go_simp) }; have x2d : w5.cell? ⟨w.heap.size, 2, none⟩ = some (.int .i64 sleast) := by { rw [cellB hb5 _ _ (by first | (simp; done) | (simp; omega) | omega)]; all_goals (first | assumption | go_simp) }; have x3d : w5.cell? ⟨w.heap.size, 3, none⟩ = some (.int .i64 sa) := by { rw [cellB hb5 _ _ (by first | (simp; done) | (simp; omega) | omega)]; all_goals (first | assumption | go_simp) }; have x4d : w5.cell? ⟨w.heap.size, 4, none⟩ = some (.int .i64 sb) := by { rw [cellB hb5 _ _ (by first | (simp; done) | (simp; omega) | omega)]; all_goals (first | assumption | go_simp) }; have x5d : w5.cell? ⟨w.heap.size, 5, none⟩ = some (.int .i64 sc) := by { rw [cellB hb5 _ _ (by first | (simp; done) | (simp; omega) | omega)]; all_goals (first | assumption | go_simp) }; have x6d : w5.cell? ⟨w.heap.size, 6, none⟩ = some (.int .i64 sd) := by { rw [cellB hb5 _ _ (by first | (simp; done) | (simp; omega) | omega)]; all_goals (first | assumption | go_simp) }; have x7d : w5.cell? ⟨w.heap.size, 7, none⟩ = some (.slice ap n cp) := by { rw [cellB hb5 _ _ (by first | (simp; done) | (simp; omega) | omega)]; all_goals (first | assumption | go_simp) }; have y0d : w5.cell? ⟨w.heap.size + 1, 0, none⟩ = some (.string onm) := by { rw [cellB hb5 _ _ (by first | (simp; done) | (simp; omega) | omega)]; all_goals (first | assumption | go_simp) }; have y1d : w5.cell? ⟨w.heap.size + 1, 1, none⟩ = some (.int .i64 oper) := by { rw [cellB hb5 _ _ (by first | (simp; done) | (simp; omega) | omega)]; all_goals (first | assumption | go_simp) }; have y2d : w5.cell? ⟨w.heap.size + 1, 2, none⟩ = some (.int .i64 oleast) := by { rw [cellB hb5 _ _ (by first | (simp; done) | (simp; omega) | omega)]; all_goals (first | assumption | go_simp) }; have y3d : w5.cell? ⟨w.heap.size + 1, 3, none⟩ = some (.int .i64 oa) := by { rw [cellB hb5 _ _ (by first | (simp; done) | (simp; omega) | omega)]; all_goals (first | assumption | go_simp) }; have y4d : w5.cell? ⟨w.heap.size + 1, 4, none⟩ = some (.int .i64 ob) := by { rw [cellB hb5 _ _ (by first | (simp; done) | (simp; omega) | omega)]; all_goals (first | assumption | go_simp) }; have y5d : w5.cell? ⟨w.heap.size + 1, 5, none⟩ = some (.int .i64 oc) := by { rw [cellB hb5 _ _ (by first | (simp; done) | (simp; omega) | omega)]; all_goals (first | assumption | go_simp) }; have y6d : w5.cell? ⟨w.heap.size + 1, 6, none⟩ = some (.int .i64 od) := by { rw [cellB hb5 _ _ (by first | (simp; done) | (simp; omega) | omega)]; all_goals (first | assumption | go_simp) }; have y7d : w5.cell? ⟨w.heap.size + 1, 7, none⟩ = some (.slice bp m dp) := by { rw [cellB hb5 _ _ (by first | (simp; done) | (simp; omega) | omega)]; all_goals (first | assumption | go_simp) }; have lxd : w.heap.size < w5.heap.size := by { omega }; have lyd : w.heap.size + 1 < w5.heap.size := by { omega }
  have HB := Lib.hid (HB.out.trans (hb5.mono HB.out.size))
  clear x0 x1 x2 x3 x4 x5 x6 x7 y0 y1 y2 y3 y4 y5 y6 y7 lx ly hzx
  clear hb5
  go_wp2_with fail
  refine (HFS.out _).mono ?_
  rintro e6 w6 ⟨rfl, hb6⟩
  have hzx := hb6.size
  have x0 : w6.cell? ⟨w.heap.size, 0, none⟩ = some (.string snm) := by { rw [cellB hb6 _ _ (by first | (simp; done) | (simp; omega) | omega)]; all_goals (first | assumption | go_simp) }; have x1 : w6.cell? ⟨w.heap.size, 1, none⟩ = some (.int .i64 sper) := by { rw [cellB hb6 _ _ (by first | (simp; done) | (simp; omega) | omega)]; all_goals (first | assumption | go_simp) }; have x2 : w6.cell? ⟨w.heap.size, 2, none⟩ = some (.int .i64 sleast) := by { rw [cellB hb6 _ _ (by first | (simp; done) | (simp; omega) | omega)]; all_goals (first | assumption | go_simp) }; have x3 : w6.cell? ⟨w.heap.size, 3, none⟩ = some (.int .i64 sa) := by { rw [cellB hb6 _ _ (by first | (simp; done) | (simp; omega) | omega)]; all_goals (first | assumption | go_simp) }; have x4 : w6.cell? ⟨w.heap.size, 4, none⟩ = some (.int .i64 sb) := by { rw [cellB hb6 _ _ (by first | (simp; done) | (simp; omega) | omega)]; all_goals (first | assumption | go_simp) }; have x5 : w6.cell? ⟨w.heap.size, 5, none⟩ = some (.int .i64 sc) := by { rw [cellB hb6 _ _ (by first | (simp; done) | (simp; omega) | omega)]; all_goals (first | assumption | go_simp) }; have x6 : w6.cell? ⟨w.heap.size, 6, none⟩ = some (.int .i64 sd) := by { rw [cellB hb6 _ _ (by first | (simp; done) | (simp; omega) | omega)]; all_goals (first | assumption | go_simp) }; have x7 : w6.cell? ⟨w.heap.size, 7, none⟩ = some (.slice ap n cp) := by { rw [cellB hb6 _ _ (by first | (simp; done) | (simp; omega) | omega)]; all_goals (first | assumption | go_simp) }; have y0 : w6.cell? ⟨w.heap.size + 1, 0, none⟩ = some (.string onm) := by { rw [cellB hb6 _ _ (by first | (simp; done) | (simp; omega) | omega)]; all_goals (first | assumption | go_simp) }; have y1 : w6.cell? ⟨w.heap.size + 1, 1, none⟩ = some (.int .i64 oper) := by { rw [cellB hb6 _ _ (by first | (simp; done) | (simp; omega) | omega)]; all_goals (first | assumption | go_simp) }; have y2 : w6.cell? ⟨w.heap.size + 1, 2, none⟩ = some (.int .i64 oleast) := by { rw [cellB hb6 _ _ (by first | (simp; done) | (simp; omega) | omega)]; all_goals (first | assumption | go_simp) }; have y3 : w6.cell? ⟨w.heap.size + 1, 3, none⟩ = some (.int .i64 oa) := by { rw [cellB hb6 _ _ (by first | (simp; done) | (simp; omega) | omega)]; all_goals (first | assumption | go_simp) }; have y4 : w6.cell? ⟨w.heap.size + 1, 4, none⟩ = some (.int .i64 ob) := by { rw [cellB hb6 _ _ (by first | (simp; done) | (simp; omega) | omega)]; all_goals (first | assumption | go_simp) }; have y5 : w6.cell? ⟨w.heap.size + 1, 5, none⟩ = some (.int .i64 oc) := by { rw [cellB hb6 _ _ (by first | (simp; done) | (simp; omega) | omega)]; all_goals (first | assumption | go_simp) }; have y6 : w6.cell? ⟨w.heap.size + 1, 6, none⟩ = some (.int .i64 od) := by { rw [cellB hb6 _ _ (by first | (simp; done) | (simp; omega) | omega)]; all_goals (first | assumption | go_simp) }; have y7 : w6.cell? ⟨w.heap.size + 1, 7, none⟩ = some (.slice bp m dp) := by { rw [cellB hb6 _ _ (by first | (simp; done) | (simp; omega) | omega)]; all_goals (first | assumption | go_simp) }; have lx : w.heap.size < w6.heap.size := by { omega }; have ly : w.heap.size + 1 < w6.heap.size := by { omega }
  have HB := Lib.hid (HB.out.trans (hb6.mono HB.out.size))
  clear x0d x1d x2d x3d x4d x5d x6d x7d y0d y1d y2d y3d y4d y5d y6d y7d lxd lyd hzx
  clear hb6
  go_wp2_with fail
  refine (HFO.out _).mono ?_
  rintro e7 w7 ⟨rfl, hb7⟩
  have hzx := hb7.size
  have x0d : w7.cell? ⟨w.heap.size, 0, none⟩ = some (.string snm) := by { rw [cellB hb7 _ _ (by first | (simp; done) | (simp; omega) | omega)]; all_goals (first | assumption | go_simp) }; have x1d : w7.cell? ⟨w.heap.size, 1, none⟩ = some (.int .i64 sper) := by { rw [cellB hb7 _ _ (by first | (simp; done) | (simp; omega) | omega)]; all_goals (first | assumption | go_simp) }; have x2d : w7.cell? ⟨w.heap.size, 2, none⟩ = some (.int .i64 sleast) := by { rw [cellB hb7 _ _ (by first | (simp; done) | (simp; omega) | omega)]; all_goals (first | assumption | go_simp) }; have x3d : w7.cell? ⟨w.heap.size, 3, none⟩ = some (.int .i64 sa) := by { rw [cellB hb7 _ _ (by first | (simp; done) | (simp; omega) | omega)]; all_goals (first | assumption | go_simp) }; have x4d : w7.cell? ⟨w.heap.size, 4, none⟩ = some (.int .i64 sb) := by { rw [cellB hb7 _ _ (by first | (simp; done) | (simp; omega) | omega)]; all_goals (first | assumption | go_simp) }; have x5d : w7.cell? ⟨w.heap.size, 5, none⟩ = some (.int .i64 sc) := by { rw [cellB hb7 _ _ (by first | (simp; done) | (simp; omega) | omega)]; all_goals (first | assumption | go_simp) }; have x6d : w7.cell? ⟨w.heap.size, 6, none⟩ = some (.int .i64 sd) := by { rw [cellB hb7 _ _ (by first | (simp; done) | (simp; omega) | omega)]; all_goals (first | assumption | go_simp) }; have x7d : w7.cell? ⟨w.heap.size, 7, none⟩ = some (.slice ap n cp) := by { rw [cellB hb7 _ _ (by first | (simp; done) | (simp; omega) | omega)]; all_goals (first | assumption | go_simp) }; have y0d : w7.cell? ⟨w.heap.size + 1, 0, none⟩ = some (.string onm) := by { rw [cellB hb7 _ _ (by first | (simp; done) | (simp; omega) | omega)]; all_goals (first | assumption | go_simp) }; have y1d : w7.cell? ⟨w.heap.size + 1, 1, none⟩ = some (.int .i64 oper) := by { rw [cellB hb7 _ _ (by first | (simp; done) | (simp; omega) | omega)]; all_goals (first | assumption | go_simp) }; have y2d : w7.cell? ⟨w.heap.size + 1, 2, none⟩ = some (.int .i64 oleast) := by { rw [cellB hb7 _ _ (by first | (simp; done) | (simp; omega) | omega)]; all_goals (first | assumption | go_simp) }; have y3d : w7.cell? ⟨w.heap.size + 1, 3, none⟩ = some (.int .i64 oa) := by { rw [cellB hb7 _ _ (by first | (simp; done) | (simp; omega) | omega)]; all_goals (first | assumption | go_simp) }; have y4d : w7.cell? ⟨w.heap.size + 1, 4, none⟩ = some (.int .i64 ob) := by { rw [cellB hb7 _ _ (by first | (simp; done) | (simp; omega) | omega)]; all_goals (first | assumption | go_simp) }; have y5d : w7.cell? ⟨w.heap.size + 1, 5, none⟩ = some (.int .i64 oc) := by { rw [cellB hb7 _ _ (by first | (simp; done) | (simp; omega) | omega)]; all_goals (first | assumption | go_simp) }; have y6d : w7.cell? ⟨w.heap.size + 1, 6, none⟩ = some (.int .i64 od) := by { rw [cellB hb7 _ _ (by first | (simp; done) | (simp; omega) | omega)]; all_goals (first | assumption | go_simp) }; have y7d : w7.cell? ⟨w.heap.size + 1, 7, none⟩ = some (.slice bp m dp) := by { rw [cellB hb7 _ _ (by first | (simp; done) | (simp; omega) | omega)]; all_goals (first | assumption | go_simp) }; have lxd : w.heap.size < w7.heap.size := by { omega }; have lyd : w.heap.size + 1 < w7.heap.size := by { omega }
  have HB := Lib.hid (HB.out.trans (hb7.mono HB.out.size))
  clear x0 x1 x2 x3 x4 x5 x6 x7 y0 y1 y2 y3 y4 y5 y6 y7 lx ly hzx
  clear hb7 HFS HFO
  go_wp2_with fail
  refine wp_region_laterM (B := w7.heap.size) [(true, 0), (true, 2), (true, 4), (false, 1), (false, 3), (false, 5), (true, 6), (true, 7), (true, 8), (true, 9), (true, 10)] (by kernel_rfl) (by kernel_rfl) ?_; simp only [opsOf, List.filterMap_cons, List.filterMap_nil, List.getElem?_toArray, List.getElem?_cons_zero, List.getElem?_cons_succ, Option.map_some]
  repeat (refine mix_head ?_; (show wpQuiet _ _ _ _ (_ :: _) _; go_big_quiet_step (fail)); refine wpQuiet_nil ?_)
  refine mix_tail ?_; go_wp2_with fail
  refine (HCS.out _ HB.out.drew).mono ?_
  rintro e8 w8 ⟨a8, c8, rfl, hb8, ht8, _⟩
  have HX := Lib.hid ((Below.refl w7.heap.size w7).drew.trans hb8)
  have HT1 := Lib.hid ht8
  clear hb8 ht8
  go_wp2_with fail
  refine tailL_mk HX.out ?_
  repeat (refine mix_head ?_; (show wpQuiet _ _ _ _ (_ :: _) _; go_big_quiet_step (fail)); refine wpQuiet_nil ?_)
  refine mix_tail ?_; go_wp2_with fail
  refine (HCO.out _ (HB.out.trans (HX.out.mono HB.out.size))).mono ?_
  rintro e8 w9 ⟨a9, c9, rfl, hb9, ht9, _⟩
  have HX := Lib.hid (HX.out.trans (hb9.mono HX.out.size))
  have HT1 := Lib.hid (HT1.out.below hb9)
  have HT2 := Lib.hid ht9
  clear hb9 ht9
  go_wp2_with fail
  refine tailL_mk HX.out ?_
  repeat (refine mix_head ?_; (show wpQuiet _ _ _ _ (_ :: _) _; go_big_quiet_step (fail)); refine wpQuiet_nil ?_)
  refine mix_tail ?_; go_wp2_with fail
  refine (HFR.out a8 a9 c8 c9 _ HT1.out HT2.out).mono ?_
  rintro e8 wa ⟨aF, kF, cF, rfl, hba, hFa⟩
  have HX := Lib.hid (HX.out.trans (hba.mono HX.out.size))
  have HIF := Lib.hid hFa
  clear hba hFa HT1 HT2 HFR
  go_wp2_with fail
  refine tailL_mk HX.out ?_
  repeat (refine mix_head ?_; (show wpQuiet _ _ _ _ (_ :: _) _; go_big_quiet_step (fail)); refine wpQuiet_nil ?_)
  refine mix_nil ?_
  have hbx := HX.out
  have hzx := hbx.size
  have x0 : wa.cell? ⟨w.heap.size, 0, none⟩ = some (.string snm) := by { rw [cellB hbx _ _ (by first | (simp; done) | (simp; omega) | omega)]; all_goals (first | assumption | go_simp) }; have x1 : wa.cell? ⟨w.heap.size, 1, none⟩ = some (.int .i64 sper) := by { rw [cellB hbx _ _ (by first | (simp; done) | (simp; omega) | omega)]; all_goals (first | assumption | go_simp) }; have x2 : wa.cell? ⟨w.heap.size, 2, none⟩ = some (.int .i64 sleast) := by { rw [cellB hbx _ _ (by first | (simp; done) | (simp; omega) | omega)]; all_goals (first | assumption | go_simp) }; have x3 : wa.cell? ⟨w.heap.size, 3, none⟩ = some (.int .i64 sa) := by { rw [cellB hbx _ _ (by first | (simp; done) | (simp; omega) | omega)]; all_goals (first | assumption | go_simp) }; have x4 : wa.cell? ⟨w.heap.size, 4, none⟩ = some (.int .i64 sb) := by { rw [cellB hbx _ _ (by first | (simp; done) | (simp; omega) | omega)]; all_goals (first | assumption | go_simp) }; have x5 : wa.cell? ⟨w.heap.size, 5, none⟩ = some (.int .i64 sc) := by { rw [cellB hbx _ _ (by first | (simp; done) | (simp; omega) | omega)]; all_goals (first | assumption | go_simp) }; have x6 : wa.cell? ⟨w.heap.size, 6, none⟩ = some (.int .i64 sd) := by { rw [cellB hbx _ _ (by first | (simp; done) | (simp; omega) | omega)]; all_goals (first | assumption | go_simp) }; have x7 : wa.cell? ⟨w.heap.size, 7, none⟩ = some (.slice ap n cp) := by { rw [cellB hbx _ _ (by first | (simp; done) | (simp; omega) | omega)]; all_goals (first | assumption | go_simp) }; have y0 : wa.cell? ⟨w.heap.size + 1, 0, none⟩ = some (.string onm) := by { rw [cellB hbx _ _ (by first | (simp; done) | (simp; omega) | omega)]; all_goals (first | assumption | go_simp) }; have y1 : wa.cell? ⟨w.heap.size + 1, 1, none⟩ = some (.int .i64 oper) := by { rw [cellB hbx _ _ (by first | (simp; done) | (simp; omega) | omega)]; all_goals (first | assumption | go_simp) }; have y2 : wa.cell? ⟨w.heap.size + 1, 2, none⟩ = some (.int .i64 oleast) := by { rw [cellB hbx _ _ (by first | (simp; done) | (simp; omega) | omega)]; all_goals (first | assumption | go_simp) }; have y3 : wa.cell? ⟨w.heap.size + 1, 3, none⟩ = some (.int .i64 oa) := by { rw [cellB hbx _ _ (by first | (simp; done) | (simp; omega) | omega)]; all_goals (first | assumption | go_simp) }; have y4 : wa.cell? ⟨w.heap.size + 1, 4, none⟩ = some (.int .i64 ob) := by { rw [cellB hbx _ _ (by first | (simp; done) | (simp; omega) | omega)]; all_goals (first | assumption | go_simp) }; have y5 : wa.cell? ⟨w.heap.size + 1, 5, none⟩ = some (.int .i64 oc) := by { rw [cellB hbx _ _ (by first | (simp; done) | (simp; omega) | omega)]; all_goals (first | assumption | go_simp) }; have y6 : wa.cell? ⟨w.heap.size + 1, 6, none⟩ = some (.int .i64 od) := by { rw [cellB hbx _ _ (by first | (simp; done) | (simp; omega) | omega)]; all_goals (first | assumption | go_simp) }; have y7 : wa.cell? ⟨w.heap.size + 1, 7, none⟩ = some (.slice bp m dp) := by { rw [cellB hbx _ _ (by first | (simp; done) | (simp; omega) | omega)]; all_goals (first | assumption | go_simp) }; have lx : w.heap.size < wa.heap.size := by { omega }; have ly : w.heap.size + 1 < wa.heap.size := by { omega }
  have HB := Lib.hid (HB.out.trans (hbx.mono HB.out.size))
  clear x0d x1d x2d x3d x4d x5d x6d x7d y0d y1d y2d y3d y4d y5d y6d y7d lxd lyd hzx
  clear hbx HX
  go_wp2_with fail
  go_cut [9, 10] from 32 to 40 (fun v9 v10 wx => ∃ (X : Nat) (a9 : Option Addr) (k9 c9 : Nat), v9 = .pointer (some ⟨X, 0, none⟩) ∧ v10 = .int .i64 E ∧ wx.cell? ⟨X, 0, none⟩ = some (.string cnm) ∧ wx.cell? ⟨X, 1, none⟩ = some (.int .i64 cper) ∧ wx.cell? ⟨X, 2, none⟩ = some (.int .i64 cleast) ∧ wx.cell? ⟨X, 3, none⟩ = some (.int .i64 ca) ∧ wx.cell? ⟨X, 4, none⟩ = some (.int .i64 cb) ∧ wx.cell? ⟨X, 5, none⟩ = some (.int .i64 cc) ∧ wx.cell? ⟨X, 6, none⟩ = some (.int .i64 cd) ∧ wx.cell? ⟨X, 7, none⟩ = some (.slice a9 k9 c9) ∧ X < wx.heap.size ∧ T3R wx a9 k9 cl ∧ Hid (Below wa.heap.size wa wx))
  case first =>
    have HN := Lib.hid (Below.refl wa.heap.size wa).drew
    refine wp_region_laterT (B := wa.heap.size) (.head 0 (.head 2 (.head 4 (.two 1 (.two 3 (.two 5 (.head 6 (.head 7 (.head 8 (.one 9 (.one 10 (.head 11 .done)))))) 9 (.one 5 (.head 6 (.head 7 (.head 8 (.one 10 (.head 11 .done))))))) 9 (.one 3 (.one 5 (.head 6 (.head 7 (.head 8 (.one 10 (.head 11 .done)))))))) 9 (.one 1 (.one 3 (.one 5 (.head 6 (.head 7 (.head 8 (.one 10 (.head 11 .done)))))))))))) (by kernel_rfl) (by kernel_rfl) ?_
    repeat (refine tree_head rfl ?_; (show wpQuiet _ _ _ _ (_ :: _) _; go_big_quiet_step (fail)); refine wpQuiet_nil ?_)
    clear x0 y0 x1 y1 x2 y2 x3 y3 x4 y4 x5 y5 x6 y6 x7 y7 lx ly
    refine tree_two rfl rfl ?_ ?_
    · go_wp2_with fail
      refine (HCS.out _ (HB.out.trans (HN.out.mono HB.out.size))).mono ?_
      rintro ex wx1 ⟨a17, c17, rfl, hbx, htx, _⟩
      have HT1 := Lib.hid htx
      clear htx
      have hzx := hbx.size
      have HN := Lib.hid (HN.out.trans (hbx.mono HN.out.size))
      clear hbx
      go_wp2_with fail
      refine tailL_mk HN.out ?_
      repeat (refine tree_head rfl ?_; (show wpQuiet _ _ _ _ (_ :: _) _; go_big_quiet_step (fail)); refine wpQuiet_nil ?_)
      refine tree_two rfl rfl ?_ ?_
      · go_wp2_with fail
        refine (HCO.out _ (HB.out.trans (HN.out.mono HB.out.size))).mono ?_
        rintro ex wx2 ⟨a18, c18, rfl, hbx, htx, _⟩
        have HT2 := Lib.hid htx
        clear htx
        have hzx := hbx.size
        have HN := Lib.hid (HN.out.trans (hbx.mono HN.out.size))
        have HT1 := Lib.hid (HT1.out.below hbx)
        clear hbx
        go_wp2_with fail
        refine tailL_mk HN.out ?_
        repeat (refine tree_head rfl ?_; (show wpQuiet _ _ _ _ (_ :: _) _; go_big_quiet_step (fail)); refine wpQuiet_nil ?_)
        refine tree_two rfl rfl ?_ ?_
        · go_wp2_with fail
          refine (HCL.out a17 a18 c17 c18 _ HT1.out HT2.out).mono ?_
          rintro ex wx3 ⟨a19, k19, c19, rfl, hbx, htx⟩
          have HT3 := Lib.hid (show PulO wx3 a19 k19 c19 cl from ⟨_, htx⟩)
          clear htx
          have hzx := hbx.size
          have HN := Lib.hid (HN.out.trans (hbx.mono HN.out.size))
          have HT1 := Lib.hid (HT1.out.below hbx)
          have HT2 := Lib.hid (HT2.out.below hbx)
          clear hbx
          go_wp2_with fail
          refine tailL_mk HN.out ?_
          repeat (refine tree_head rfl ?_; (show wpQuiet _ _ _ _ (_ :: _) _; go_big_quiet_step (fail)); refine wpQuiet_nil ?_)
          refine tree_one rfl ?_
          go_wp2_with fail
          obtain ⟨X9, hX9⟩ : ∃ X, X = wx3.heap.size := ⟨_, rfl⟩
          have hNX : wa.heap.size ≤ X9 := by rw [hX9]; exact HN.out.size
          have hx9 : (wx3.alloc (Obj.cells #[.string ⟨#[]⟩, .int .i64 0, .int .i64 0, .int .i64 0, .int .i64 0, .int .i64 0, .int .i64 0, .slice none 0 0] 56)).heap[X9]? = some (.cells #[.string ⟨#[]⟩, .int .i64 0, .int .i64 0, .int .i64 0, .int .i64 0, .int .i64 0, .int .i64 0, .slice none 0 0] 56) := by rw [hX9]; exact heap_alloc_new _ _
          have l9 : X9 < (wx3.alloc (Obj.cells #[.string ⟨#[]⟩, .int .i64 0, .int .i64 0, .int .i64 0, .int .i64 0, .int .i64 0, .int .i64 0, .slice none 0 0] 56)).heap.size := by rw [hX9]; simp
          have hs9 : (wx3.alloc (Obj.cells #[.string ⟨#[]⟩, .int .i64 0, .int .i64 0, .int .i64 0, .int .i64 0, .int .i64 0, .int .i64 0, .slice none 0 0] 56)).heap.size = wx3.heap.size + 1 := by simp
          have hbx : Below wx3.heap.size wx3 (wx3.alloc (Obj.cells #[.string ⟨#[]⟩, .int .i64 0, .int .i64 0, .int .i64 0, .int .i64 0, .int .i64 0, .int .i64 0, .slice none 0 0] 56)) := by (repeat' (first | (with_reducible exact Below.refl _ _) | (with_reducible assumption) | (with_reducible refine Below.drewN ?_ _) | (with_reducible refine Below.alloc ?_ ?_ _) | (with_reducible refine Below.drew ?_) | (with_reducible refine Below.setCell ?_ ?_ _) | (with_reducible refine Below.step (by assumption) ?_ ?_) | (with_reducible exact And.left (by assumption)) | go_size))
          try simp only [← hX9]
          generalize (wx3.alloc (Obj.cells #[.string ⟨#[]⟩, .int .i64 0, .int .i64 0, .int .i64 0, .int .i64 0, .int .i64 0, .int .i64 0, .slice none 0 0] 56)) = wx4 at *
          have HX9 := Lib.hid (And.intro hX9 hs9)
          have HN := Lib.hid (HN.out.trans (hbx.mono HN.out.size))
          have HT1 := Lib.hid (HT1.out.below hbx)
          have HT2 := Lib.hid (HT2.out.below hbx)
          have HT3 := Lib.hid (HT3.out.below hbx)
          clear hbx hX9 hs9
          refine tailL_mk HN.out ?_
          repeat (refine tree_head rfl ?_; (show wpQuiet _ _ _ _ (_ :: _) _; go_big_quiet_step (fail)); refine wpQuiet_nil ?_)
          refine tree_one rfl ?_
          have c90 := cell_of_row _ _ 0 _ _ _ hx9
          have f90 := frozen_of_row _ _ 0 _ _ hx9
          have c91 := cell_of_row _ _ 1 _ _ _ hx9
          have f91 := frozen_of_row _ _ 1 _ _ hx9
          have c92 := cell_of_row _ _ 2 _ _ _ hx9
          have f92 := frozen_of_row _ _ 2 _ _ hx9
          have c93 := cell_of_row _ _ 3 _ _ _ hx9
          have f93 := frozen_of_row _ _ 3 _ _ hx9
          have c94 := cell_of_row _ _ 4 _ _ _ hx9
          have f94 := frozen_of_row _ _ 4 _ _ hx9
          have c95 := cell_of_row _ _ 5 _ _ _ hx9
          have f95 := frozen_of_row _ _ 5 _ _ hx9
          have c96 := cell_of_row _ _ 6 _ _ _ hx9
          have f96 := frozen_of_row _ _ 6 _ _ hx9
          have c97 := cell_of_row _ _ 7 _ _ _ hx9
          have f97 := frozen_of_row _ _ 7 _ _ hx9
          simp only [List.getElem?_toArray, List.getElem?_cons_zero, List.getElem?_cons_succ] at c90 c91 c92 c93 c94 c95 c96 c97
          go_wp2_with fail
          have HN := Lib.hid (show Below wa.heap.size wa ((((((((wx4.setCell ⟨X9, 0, none⟩ (.string cnm)).setCell ⟨X9, 1, none⟩ (.int .i64 cper)).setCell ⟨X9, 2, none⟩ (.int .i64 cleast)).setCell ⟨X9, 3, none⟩ (.int .i64 ca)).setCell ⟨X9, 4, none⟩ (.int .i64 cb)).setCell ⟨X9, 5, none⟩ (.int .i64 cc)).setCell ⟨X9, 6, none⟩ (.int .i64 cd)).setCell ⟨X9, 7, none⟩ (.slice a19 k19 c19)) from Below.setCell (Below.setCell (Below.setCell (Below.setCell (Below.setCell (Below.setCell (Below.setCell (Below.setCell (HN.out) hNX _) hNX _) hNX _) hNX _) hNX _) hNX _) hNX _) hNX _)
          have hxo := hx9
          have hx9 : ((((((((wx4.setCell ⟨X9, 0, none⟩ (.string cnm)).setCell ⟨X9, 1, none⟩ (.int .i64 cper)).setCell ⟨X9, 2, none⟩ (.int .i64 cleast)).setCell ⟨X9, 3, none⟩ (.int .i64 ca)).setCell ⟨X9, 4, none⟩ (.int .i64 cb)).setCell ⟨X9, 5, none⟩ (.int .i64 cc)).setCell ⟨X9, 6, none⟩ (.int .i64 cd)).setCell ⟨X9, 7, none⟩ (.slice a19 k19 c19)).heap[X9]? = some (.cells #[.string cnm, .int .i64 cper, .int .i64 cleast, .int .i64 ca, .int .i64 cb, .int .i64 cc, .int .i64 cd, .slice a19 k19 c19] 56) := blk_set (blk_set (blk_set (blk_set (blk_set (blk_set (blk_set (blk_set (hx9) 0 (.string cnm)) 1 (.int .i64 cper)) 2 (.int .i64 cleast)) 3 (.int .i64 ca)) 4 (.int .i64 cb)) 5 (.int .i64 cc)) 6 (.int .i64 cd)) 7 (.slice a19 k19 c19)
          refine tailL_mk HN.out ?_
          repeat (refine tree_head rfl ?_; (show wpQuiet _ _ _ _ (_ :: _) _; go_big_quiet_step (fail)); refine wpQuiet_nil ?_)
          refine tree_done ?_
          go_wp2_with fail
          go_meet
          case rel => exact ⟨X9, a19, k19, c19, rfl, rfl, by go_simp, by go_simp, by go_simp, by go_simp, by go_simp, by go_simp, by go_simp, by go_simp, by simpa using l9, (PX.set (PX.set (PX.set (PX.set (PX.set (PX.set (PX.set (PX.set ⟨HT3.out, _, hxo⟩ 0 _) 1 _) 2 _) 3 _) 4 _) 5 _) 6 _) 7 _).1.t3, HN⟩
        · go_wp2_with fail
          obtain ⟨X9, hX9⟩ : ∃ X, X = wx2.heap.size := ⟨_, rfl⟩
          have hNX : wa.heap.size ≤ X9 := by rw [hX9]; exact HN.out.size
          have hx9 : (wx2.alloc (Obj.cells #[.string ⟨#[]⟩, .int .i64 0, .int .i64 0, .int .i64 0, .int .i64 0, .int .i64 0, .int .i64 0, .slice none 0 0] 56)).heap[X9]? = some (.cells #[.string ⟨#[]⟩, .int .i64 0, .int .i64 0, .int .i64 0, .int .i64 0, .int .i64 0, .int .i64 0, .slice none 0 0] 56) := by rw [hX9]; exact heap_alloc_new _ _
          have l9 : X9 < (wx2.alloc (Obj.cells #[.string ⟨#[]⟩, .int .i64 0, .int .i64 0, .int .i64 0, .int .i64 0, .int .i64 0, .int .i64 0, .slice none 0 0] 56)).heap.size := by rw [hX9]; simp
          have hs9 : (wx2.alloc (Obj.cells #[.string ⟨#[]⟩, .int .i64 0, .int .i64 0, .int .i64 0, .int .i64 0, .int .i64 0, .int .i64 0, .slice none 0 0] 56)).heap.size = wx2.heap.size + 1 := by simp
          have hbx : Below wx2.heap.size wx2 (wx2.alloc (Obj.cells #[.string ⟨#[]⟩, .int .i64 0, .int .i64 0, .int .i64 0, .int .i64 0, .int .i64 0, .int .i64 0, .slice none 0 0] 56)) := by (repeat' (first | (with_reducible exact Below.refl _ _) | (with_reducible assumption) | (with_reducible refine Below.drewN ?_ _) | (with_reducible refine Below.alloc ?_ ?_ _) | (with_reducible refine Below.drew ?_) | (with_reducible refine Below.setCell ?_ ?_ _) | (with_reducible refine Below.step (by assumption) ?_ ?_) | (with_reducible exact And.left (by assumption)) | go_size))
          try simp only [← hX9]
          generalize (wx2.alloc (Obj.cells #[.string ⟨#[]⟩, .int .i64 0, .int .i64 0, .int .i64 0, .int .i64 0, .int .i64 0, .int .i64 0, .slice none 0 0] 56)) = wx6 at *
          have HX9 := Lib.hid (And.intro hX9 hs9)
          have HN := Lib.hid (HN.out.trans (hbx.mono HN.out.size))
          have HT1 := Lib.hid (HT1.out.below hbx)
          have HT2 := Lib.hid (HT2.out.below hbx)
          clear hbx hX9 hs9
          refine tailL_mk HN.out ?_
          repeat (refine tree_head rfl ?_; (show wpQuiet _ _ _ _ (_ :: _) _; go_big_quiet_step (fail)); refine wpQuiet_nil ?_)
          refine tree_one rfl ?_
          go_wp2_with fail
          refine (HCL.out a17 a18 c17 c18 _ HT1.out HT2.out).mono ?_
          rintro ex wx7 ⟨a19, k19, c19, rfl, hbx, htx⟩
          have HT3 := Lib.hid (show PulO wx7 a19 k19 c19 cl from ⟨_, htx⟩)
          clear htx
          have hzx := hbx.size
          have HN := Lib.hid (HN.out.trans (hbx.mono HN.out.size))
          have HT1 := Lib.hid (HT1.out.below hbx)
          have HT2 := Lib.hid (HT2.out.below hbx)
          have hx9 := (hbx.block X9 l9).trans hx9
          have l9 := Nat.lt_of_lt_of_le l9 hbx.size
          clear hbx
          go_wp2_with fail
          refine tailL_mk HN.out ?_
          repeat (refine tree_head rfl ?_; (show wpQuiet _ _ _ _ (_ :: _) _; go_big_quiet_step (fail)); refine wpQuiet_nil ?_)
          refine tree_one rfl ?_
          have c90 := cell_of_row _ _ 0 _ _ _ hx9
          have f90 := frozen_of_row _ _ 0 _ _ hx9
          have c91 := cell_of_row _ _ 1 _ _ _ hx9
          have f91 := frozen_of_row _ _ 1 _ _ hx9
          have c92 := cell_of_row _ _ 2 _ _ _ hx9
          have f92 := frozen_of_row _ _ 2 _ _ hx9
          have c93 := cell_of_row _ _ 3 _ _ _ hx9
          have f93 := frozen_of_row _ _ 3 _ _ hx9
          have c94 := cell_of_row _ _ 4 _ _ _ hx9
          have f94 := frozen_of_row _ _ 4 _ _ hx9
          have c95 := cell_of_row _ _ 5 _ _ _ hx9
          have f95 := frozen_of_row _ _ 5 _ _ hx9
          have c96 := cell_of_row _ _ 6 _ _ _ hx9
          have f96 := frozen_of_row _ _ 6 _ _ hx9
          have c97 := cell_of_row _ _ 7 _ _ _ hx9
          have f97 := frozen_of_row _ _ 7 _ _ hx9
          simp only [List.getElem?_toArray, List.getElem?_cons_zero, List.getElem?_cons_succ] at c90 c91 c92 c93 c94 c95 c96 c97
          go_wp2_with fail
          have HN := Lib.hid (show Below wa.heap.size wa ((((((((wx7.setCell ⟨X9, 0, none⟩ (.string cnm)).setCell ⟨X9, 1, none⟩ (.int .i64 cper)).setCell ⟨X9, 2, none⟩ (.int .i64 cleast)).setCell ⟨X9, 3, none⟩ (.int .i64 ca)).setCell ⟨X9, 4, none⟩ (.int .i64 cb)).setCell ⟨X9, 5, none⟩ (.int .i64 cc)).setCell ⟨X9, 6, none⟩ (.int .i64 cd)).setCell ⟨X9, 7, none⟩ (.slice a19 k19 c19)) from Below.setCell (Below.setCell (Below.setCell (Below.setCell (Below.setCell (Below.setCell (Below.setCell (Below.setCell (HN.out) hNX _) hNX _) hNX _) hNX _) hNX _) hNX _) hNX _) hNX _)
          have hxo := hx9
          have hx9 : ((((((((wx7.setCell ⟨X9, 0, none⟩ (.string cnm)).setCell ⟨X9, 1, none⟩ (.int .i64 cper)).setCell ⟨X9, 2, none⟩ (.int .i64 cleast)).setCell ⟨X9, 3, none⟩ (.int .i64 ca)).setCell ⟨X9, 4, none⟩ (.int .i64 cb)).setCell ⟨X9, 5, none⟩ (.int .i64 cc)).setCell ⟨X9, 6, none⟩ (.int .i64 cd)).setCell ⟨X9, 7, none⟩ (.slice a19 k19 c19)).heap[X9]? = some (.cells #[.string cnm, .int .i64 cper, .int .i64 cleast, .int .i64 ca, .int .i64 cb, .int .i64 cc, .int .i64 cd, .slice a19 k19 c19] 56) := blk_set (blk_set (blk_set (blk_set (blk_set (blk_set (blk_set (blk_set (hx9) 0 (.string cnm)) 1 (.int .i64 cper)) 2 (.int .i64 cleast)) 3 (.int .i64 ca)) 4 (.int .i64 cb)) 5 (.int .i64 cc)) 6 (.int .i64 cd)) 7 (.slice a19 k19 c19)
          refine tailL_mk HN.out ?_
          repeat (refine tree_head rfl ?_; (show wpQuiet _ _ _ _ (_ :: _) _; go_big_quiet_step (fail)); refine wpQuiet_nil ?_)
          refine tree_done ?_
          go_wp2_with fail
          go_meet
          case rel => exact ⟨X9, a19, k19, c19, rfl, rfl, by go_simp, by go_simp, by go_simp, by go_simp, by go_simp, by go_simp, by go_simp, by go_simp, by simpa using l9, (PX.set (PX.set (PX.set (PX.set (PX.set (PX.set (PX.set (PX.set ⟨HT3.out, _, hxo⟩ 0 _) 1 _) 2 _) 3 _) 4 _) 5 _) 6 _) 7 _).1.t3, HN⟩
      · go_wp2_with fail
        obtain ⟨X9, hX9⟩ : ∃ X, X = wx1.heap.size := ⟨_, rfl⟩
        have hNX : wa.heap.size ≤ X9 := by rw [hX9]; exact HN.out.size
        have hx9 : (wx1.alloc (Obj.cells #[.string ⟨#[]⟩, .int .i64 0, .int .i64 0, .int .i64 0, .int .i64 0, .int .i64 0, .int .i64 0, .slice none 0 0] 56)).heap[X9]? = some (.cells #[.string ⟨#[]⟩, .int .i64 0, .int .i64 0, .int .i64 0, .int .i64 0, .int .i64 0, .int .i64 0, .slice none 0 0] 56) := by rw [hX9]; exact heap_alloc_new _ _
        have l9 : X9 < (wx1.alloc (Obj.cells #[.string ⟨#[]⟩, .int .i64 0, .int .i64 0, .int .i64 0, .int .i64 0, .int .i64 0, .int .i64 0, .slice none 0 0] 56)).heap.size := by rw [hX9]; simp
        have hs9 : (wx1.alloc (Obj.cells #[.string ⟨#[]⟩, .int .i64 0, .int .i64 0, .int .i64 0, .int .i64 0, .int .i64 0, .int .i64 0, .slice none 0 0] 56)).heap.size = wx1.heap.size + 1 := by simp
        have hbx : Below wx1.heap.size wx1 (wx1.alloc (Obj.cells #[.string ⟨#[]⟩, .int .i64 0, .int .i64 0, .int .i64 0, .int .i64 0, .int .i64 0, .int .i64 0, .slice none 0 0] 56)) := by (repeat' (first | (with_reducible exact Below.refl _ _) | (with_reducible assumption) | (with_reducible refine Below.drewN ?_ _) | (with_reducible refine Below.alloc ?_ ?_ _) | (with_reducible refine Below.drew ?_) | (with_reducible refine Below.setCell ?_ ?_ _) | (with_reducible refine Below.step (by assumption) ?_ ?_) | (with_reducible exact And.left (by assumption)) | go_size))
        try simp only [← hX9]
        generalize (wx1.alloc (Obj.cells #[.string ⟨#[]⟩, .int .i64 0, .int .i64 0, .int .i64 0, .int .i64 0, .int .i64 0, .int .i64 0, .slice none 0 0] 56)) = wx9 at *
        have HX9 := Lib.hid (And.intro hX9 hs9)
        have HN := Lib.hid (HN.out.trans (hbx.mono HN.out.size))
        have HT1 := Lib.hid (HT1.out.below hbx)
        clear hbx hX9 hs9
        refine tailL_mk HN.out ?_
        repeat (refine tree_head rfl ?_; (show wpQuiet _ _ _ _ (_ :: _) _; go_big_quiet_step (fail)); refine wpQuiet_nil ?_)
        refine tree_one rfl ?_
        go_wp2_with fail
        refine (HCO.out _ (HB.out.trans (HN.out.mono HB.out.size))).mono ?_
        rintro ex wx10 ⟨a18, c18, rfl, hbx, htx, _⟩
        have HT2 := Lib.hid htx
        clear htx
        have hzx := hbx.size
        have HN := Lib.hid (HN.out.trans (hbx.mono HN.out.size))
        have HT1 := Lib.hid (HT1.out.below hbx)
        have hx9 := (hbx.block X9 l9).trans hx9
        have l9 := Nat.lt_of_lt_of_le l9 hbx.size
        clear hbx
        go_wp2_with fail
        refine tailL_mk HN.out ?_
        repeat (refine tree_head rfl ?_; (show wpQuiet _ _ _ _ (_ :: _) _; go_big_quiet_step (fail)); refine wpQuiet_nil ?_)
        refine tree_one rfl ?_
        go_wp2_with fail
        refine (HCL.out a17 a18 c17 c18 _ HT1.out HT2.out).mono ?_
        rintro ex wx11 ⟨a19, k19, c19, rfl, hbx, htx⟩
        have HT3 := Lib.hid (show PulO wx11 a19 k19 c19 cl from ⟨_, htx⟩)
        clear htx
        have hzx := hbx.size
        have HN := Lib.hid (HN.out.trans (hbx.mono HN.out.size))
        have HT1 := Lib.hid (HT1.out.below hbx)
        have HT2 := Lib.hid (HT2.out.below hbx)
        have hx9 := (hbx.block X9 l9).trans hx9
        have l9 := Nat.lt_of_lt_of_le l9 hbx.size
        clear hbx
        go_wp2_with fail
        refine tailL_mk HN.out ?_
        repeat (refine tree_head rfl ?_; (show wpQuiet _ _ _ _ (_ :: _) _; go_big_quiet_step (fail)); refine wpQuiet_nil ?_)
        refine tree_one rfl ?_
        have c90 := cell_of_row _ _ 0 _ _ _ hx9
        have f90 := frozen_of_row _ _ 0 _ _ hx9
        have c91 := cell_of_row _ _ 1 _ _ _ hx9
        have f91 := frozen_of_row _ _ 1 _ _ hx9
        have c92 := cell_of_row _ _ 2 _ _ _ hx9
        have f92 := frozen_of_row _ _ 2 _ _ hx9
        have c93 := cell_of_row _ _ 3 _ _ _ hx9
        have f93 := frozen_of_row _ _ 3 _ _ hx9
        have c94 := cell_of_row _ _ 4 _ _ _ hx9
        have f94 := frozen_of_row _ _ 4 _ _ hx9
        have c95 := cell_of_row _ _ 5 _ _ _ hx9
        have f95 := frozen_of_row _ _ 5 _ _ hx9
        have c96 := cell_of_row _ _ 6 _ _ _ hx9
        have f96 := frozen_of_row _ _ 6 _ _ hx9
        have c97 := cell_of_row _ _ 7 _ _ _ hx9
        have f97 := frozen_of_row _ _ 7 _ _ hx9
        simp only [List.getElem?_toArray, List.getElem?_cons_zero, List.getElem?_cons_succ] at c90 c91 c92 c93 c94 c95 c96 c97
        go_wp2_with fail
        have HN := Lib.hid (show Below wa.heap.size wa ((((((((wx11.setCell ⟨X9, 0, none⟩ (.string cnm)).setCell ⟨X9, 1, none⟩ (.int .i64 cper)).setCell ⟨X9, 2, none⟩ (.int .i64 cleast)).setCell ⟨X9, 3, none⟩ (.int .i64 ca)).setCell ⟨X9, 4, none⟩ (.int .i64 cb)).setCell ⟨X9, 5, none⟩ (.int .i64 cc)).setCell ⟨X9, 6, none⟩ (.int .i64 cd)).setCell ⟨X9, 7, none⟩ (.slice a19 k19 c19)) from Below.setCell (Below.setCell (Below.setCell (Below.setCell (Below.setCell (Below.setCell (Below.setCell (Below.setCell (HN.out) hNX _) hNX _) hNX _) hNX _) hNX _) hNX _) hNX _) hNX _)
        have hxo := hx9
        have hx9 : ((((((((wx11.setCell ⟨X9, 0, none⟩ (.string cnm)).setCell ⟨X9, 1, none⟩ (.int .i64 cper)).setCell ⟨X9, 2, none⟩ (.int .i64 cleast)).setCell ⟨X9, 3, none⟩ (.int .i64 ca)).setCell ⟨X9, 4, none⟩ (.int .i64 cb)).setCell ⟨X9, 5, none⟩ (.int .i64 cc)).setCell ⟨X9, 6, none⟩ (.int .i64 cd)).setCell ⟨X9, 7, none⟩ (.slice a19 k19 c19)).heap[X9]? = some (.cells #[.string cnm, .int .i64 cper, .int .i64 cleast, .int .i64 ca, .int .i64 cb, .int .i64 cc, .int .i64 cd, .slice a19 k19 c19] 56) := blk_set (blk_set (blk_set (blk_set (blk_set (blk_set (blk_set (blk_set (hx9) 0 (.string cnm)) 1 (.int .i64 cper)) 2 (.int .i64 cleast)) 3 (.int .i64 ca)) 4 (.int .i64 cb)) 5 (.int .i64 cc)) 6 (.int .i64 cd)) 7 (.slice a19 k19 c19)
        refine tailL_mk HN.out ?_
        repeat (refine tree_head rfl ?_; (show wpQuiet _ _ _ _ (_ :: _) _; go_big_quiet_step (fail)); refine wpQuiet_nil ?_)
        refine tree_done ?_
        go_wp2_with fail
        go_meet
        case rel => exact ⟨X9, a19, k19, c19, rfl, rfl, by go_simp, by go_simp, by go_simp, by go_simp, by go_simp, by go_simp, by go_simp, by go_simp, by simpa using l9, (PX.set (PX.set (PX.set (PX.set (PX.set (PX.set (PX.set (PX.set ⟨HT3.out, _, hxo⟩ 0 _) 1 _) 2 _) 3 _) 4 _) 5 _) 6 _) 7 _).1.t3, HN⟩
    · go_wp2_with fail
      obtain ⟨X9, hX9⟩ : ∃ X, X = wa.heap.size := ⟨_, rfl⟩
      have hNX : wa.heap.size ≤ X9 := by rw [hX9]; exact HN.out.size
      have hx9 : (wa.alloc (Obj.cells #[.string ⟨#[]⟩, .int .i64 0, .int .i64 0, .int .i64 0, .int .i64 0, .int .i64 0, .int .i64 0, .slice none 0 0] 56)).drew.heap[X9]? = some (.cells #[.string ⟨#[]⟩, .int .i64 0, .int .i64 0, .int .i64 0, .int .i64 0, .int .i64 0, .int .i64 0, .slice none 0 0] 56) := by rw [hX9]; exact heap_alloc_new _ _
      have l9 : X9 < (wa.alloc (Obj.cells #[.string ⟨#[]⟩, .int .i64 0, .int .i64 0, .int .i64 0, .int .i64 0, .int .i64 0, .int .i64 0, .slice none 0 0] 56)).drew.heap.size := by rw [hX9]; simp
      have hs9 : (wa.alloc (Obj.cells #[.string ⟨#[]⟩, .int .i64 0, .int .i64 0, .int .i64 0, .int .i64 0, .int .i64 0, .int .i64 0, .slice none 0 0] 56)).drew.heap.size = wa.heap.size + 1 := by simp
      have hbx : Below wa.heap.size wa (wa.alloc (Obj.cells #[.string ⟨#[]⟩, .int .i64 0, .int .i64 0, .int .i64 0, .int .i64 0, .int .i64 0, .int .i64 0, .slice none 0 0] 56)).drew := by (repeat' (first | (with_reducible exact Below.refl _ _) | (with_reducible assumption) | (with_reducible refine Below.drewN ?_ _) | (with_reducible refine Below.alloc ?_ ?_ _) | (with_reducible refine Below.drew ?_) | (with_reducible refine Below.setCell ?_ ?_ _) | (with_reducible refine Below.step (by assumption) ?_ ?_) | (with_reducible exact And.left (by assumption)) | go_size))
      try simp only [← hX9]
      generalize (wa.alloc (Obj.cells #[.string ⟨#[]⟩, .int .i64 0, .int .i64 0, .int .i64 0, .int .i64 0, .int .i64 0, .int .i64 0, .slice none 0 0] 56)).drew = wx13 at *
      have HX9 := Lib.hid (And.intro hX9 hs9)
      have HN := Lib.hid hbx
      clear hbx hX9 hs9
      refine tailL_mk HN.out ?_
      repeat (refine tree_head rfl ?_; (show wpQuiet _ _ _ _ (_ :: _) _; go_big_quiet_step (fail)); refine wpQuiet_nil ?_)
      refine tree_one rfl ?_
      go_wp2_with fail
      refine (HCS.out _ (HB.out.trans (HN.out.mono HB.out.size))).mono ?_
      rintro ex wx14 ⟨a17, c17, rfl, hbx, htx, _⟩
      have HT1 := Lib.hid htx
      clear htx
      have hzx := hbx.size
      have HN := Lib.hid (HN.out.trans (hbx.mono HN.out.size))
      have hx9 := (hbx.block X9 l9).trans hx9
      have l9 := Nat.lt_of_lt_of_le l9 hbx.size
      clear hbx
      go_wp2_with fail
      refine tailL_mk HN.out ?_
      repeat (refine tree_head rfl ?_; (show wpQuiet _ _ _ _ (_ :: _) _; go_big_quiet_step (fail)); refine wpQuiet_nil ?_)
      refine tree_one rfl ?_
      go_wp2_with fail
      refine (HCO.out _ (HB.out.trans (HN.out.mono HB.out.size))).mono ?_
      rintro ex wx15 ⟨a18, c18, rfl, hbx, htx, _⟩
      have HT2 := Lib.hid htx
      clear htx
      have hzx := hbx.size
      have HN := Lib.hid (HN.out.trans (hbx.mono HN.out.size))
      have HT1 := Lib.hid (HT1.out.below hbx)
      have hx9 := (hbx.block X9 l9).trans hx9
      have l9 := Nat.lt_of_lt_of_le l9 hbx.size
      clear hbx
      go_wp2_with fail
      refine tailL_mk HN.out ?_
      repeat (refine tree_head rfl ?_; (show wpQuiet _ _ _ _ (_ :: _) _; go_big_quiet_step (fail)); refine wpQuiet_nil ?_)
      refine tree_one rfl ?_
      go_wp2_with fail
      refine (HCL.out a17 a18 c17 c18 _ HT1.out HT2.out).mono ?_
      rintro ex wx16 ⟨a19, k19, c19, rfl, hbx, htx⟩
      have HT3 := Lib.hid (show PulO wx16 a19 k19 c19 cl from ⟨_, htx⟩)
      clear htx
      have hzx := hbx.size
      have HN := Lib.hid (HN.out.trans (hbx.mono HN.out.size))
      have HT1 := Lib.hid (HT1.out.below hbx)
      have HT2 := Lib.hid (HT2.out.below hbx)
      have hx9 := (hbx.block X9 l9).trans hx9
      have l9 := Nat.lt_of_lt_of_le l9 hbx.size
      clear hbx
      go_wp2_with fail
      refine tailL_mk HN.out ?_
      repeat (refine tree_head rfl ?_; (show wpQuiet _ _ _ _ (_ :: _) _; go_big_quiet_step (fail)); refine wpQuiet_nil ?_)
      refine tree_one rfl ?_
      have c90 := cell_of_row _ _ 0 _ _ _ hx9
      have f90 := frozen_of_row _ _ 0 _ _ hx9
      have c91 := cell_of_row _ _ 1 _ _ _ hx9
      have f91 := frozen_of_row _ _ 1 _ _ hx9
      have c92 := cell_of_row _ _ 2 _ _ _ hx9
      have f92 := frozen_of_row _ _ 2 _ _ hx9
      have c93 := cell_of_row _ _ 3 _ _ _ hx9
      have f93 := frozen_of_row _ _ 3 _ _ hx9
      have c94 := cell_of_row _ _ 4 _ _ _ hx9
      have f94 := frozen_of_row _ _ 4 _ _ hx9
      have c95 := cell_of_row _ _ 5 _ _ _ hx9
      have f95 := frozen_of_row _ _ 5 _ _ hx9
      have c96 := cell_of_row _ _ 6 _ _ _ hx9
      have f96 := frozen_of_row _ _ 6 _ _ hx9
      have c97 := cell_of_row _ _ 7 _ _ _ hx9
      have f97 := frozen_of_row _ _ 7 _ _ hx9
      simp only [List.getElem?_toArray, List.getElem?_cons_zero, List.getElem?_cons_succ] at c90 c91 c92 c93 c94 c95 c96 c97
      go_wp2_with fail
      have HN := Lib.hid (show Below wa.heap.size wa ((((((((wx16.setCell ⟨X9, 0, none⟩ (.string cnm)).setCell ⟨X9, 1, none⟩ (.int .i64 cper)).setCell ⟨X9, 2, none⟩ (.int .i64 cleast)).setCell ⟨X9, 3, none⟩ (.int .i64 ca)).setCell ⟨X9, 4, none⟩ (.int .i64 cb)).setCell ⟨X9, 5, none⟩ (.int .i64 cc)).setCell ⟨X9, 6, none⟩ (.int .i64 cd)).setCell ⟨X9, 7, none⟩ (.slice a19 k19 c19)) from Below.setCell (Below.setCell (Below.setCell (Below.setCell (Below.setCell (Below.setCell (Below.setCell (Below.setCell (HN.out) hNX _) hNX _) hNX _) hNX _) hNX _) hNX _) hNX _) hNX _)
      have hxo := hx9
      have hx9 : ((((((((wx16.setCell ⟨X9, 0, none⟩ (.string cnm)).setCell ⟨X9, 1, none⟩ (.int .i64 cper)).setCell ⟨X9, 2, none⟩ (.int .i64 cleast)).setCell ⟨X9, 3, none⟩ (.int .i64 ca)).setCell ⟨X9, 4, none⟩ (.int .i64 cb)).setCell ⟨X9, 5, none⟩ (.int .i64 cc)).setCell ⟨X9, 6, none⟩ (.int .i64 cd)).setCell ⟨X9, 7, none⟩ (.slice a19 k19 c19)).heap[X9]? = some (.cells #[.string cnm, .int .i64 cper, .int .i64 cleast, .int .i64 ca, .int .i64 cb, .int .i64 cc, .int .i64 cd, .slice a19 k19 c19] 56) := blk_set (blk_set (blk_set (blk_set (blk_set (blk_set (blk_set (blk_set (hx9) 0 (.string cnm)) 1 (.int .i64 cper)) 2 (.int .i64 cleast)) 3 (.int .i64 ca)) 4 (.int .i64 cb)) 5 (.int .i64 cc)) 6 (.int .i64 cd)) 7 (.slice a19 k19 c19)
      refine tailL_mk HN.out ?_
      repeat (refine tree_head rfl ?_; (show wpQuiet _ _ _ _ (_ :: _) _; go_big_quiet_step (fail)); refine wpQuiet_nil ?_)
      refine tree_done ?_
      go_wp2_with fail
      go_meet
      case rel => exact ⟨X9, a19, k19, c19, rfl, rfl, by go_simp, by go_simp, by go_simp, by go_simp, by go_simp, by go_simp, by go_simp, by go_simp, by simpa using l9, (PX.set (PX.set (PX.set (PX.set (PX.set (PX.set (PX.set (PX.set ⟨HT3.out, _, hxo⟩ 0 _) 1 _) 2 _) 3 _) 4 _) 5 _) 6 _) 7 _).1.t3, HN⟩
  case rest =>
    obtain ⟨wd, rfl⟩ : ∃ w', w' = wc := ⟨wc, rfl⟩
    obtain ⟨X9, a9, k9, c9, rfl, rfl, v0d, v1d, v2d, v3d, v4d, v5d, v6d, v7d, lvd, ht9, hN⟩ := hcut
    have hbx := hN.out
    have hzx := hbx.size
    have x0d : wd.cell? ⟨w.heap.size, 0, none⟩ = some (.string snm) := by { rw [cellB hbx _ _ (by first | (simp; done) | (simp; omega) | omega)]; all_goals (first | assumption | go_simp) }; have x1d : wd.cell? ⟨w.heap.size, 1, none⟩ = some (.int .i64 sper) := by { rw [cellB hbx _ _ (by first | (simp; done) | (simp; omega) | omega)]; all_goals (first | assumption | go_simp) }; have x2d : wd.cell? ⟨w.heap.size, 2, none⟩ = some (.int .i64 sleast) := by { rw [cellB hbx _ _ (by first | (simp; done) | (simp; omega) | omega)]; all_goals (first | assumption | go_simp) }; have x3d : wd.cell? ⟨w.heap.size, 3, none⟩ = some (.int .i64 sa) := by { rw [cellB hbx _ _ (by first | (simp; done) | (simp; omega) | omega)]; all_goals (first | assumption | go_simp) }; have x4d : wd.cell? ⟨w.heap.size, 4, none⟩ = some (.int .i64 sb) := by { rw [cellB hbx _ _ (by first | (simp; done) | (simp; omega) | omega)]; all_goals (first | assumption | go_simp) }; have x5d : wd.cell? ⟨w.heap.size, 5, none⟩ = some (.int .i64 sc) := by { rw [cellB hbx _ _ (by first | (simp; done) | (simp; omega) | omega)]; all_goals (first | assumption | go_simp) }; have x6d : wd.cell? ⟨w.heap.size, 6, none⟩ = some (.int .i64 sd) := by { rw [cellB hbx _ _ (by first | (simp; done) | (simp; omega) | omega)]; all_goals (first | assumption | go_simp) }; have x7d : wd.cell? ⟨w.heap.size, 7, none⟩ = some (.slice ap n cp) := by { rw [cellB hbx _ _ (by first | (simp; done) | (simp; omega) | omega)]; all_goals (first | assumption | go_simp) }; have y0d : wd.cell? ⟨w.heap.size + 1, 0, none⟩ = some (.string onm) := by { rw [cellB hbx _ _ (by first | (simp; done) | (simp; omega) | omega)]; all_goals (first | assumption | go_simp) }; have y1d : wd.cell? ⟨w.heap.size + 1, 1, none⟩ = some (.int .i64 oper) := by { rw [cellB hbx _ _ (by first | (simp; done) | (simp; omega) | omega)]; all_goals (first | assumption | go_simp) }; have y2d : wd.cell? ⟨w.heap.size + 1, 2, none⟩ = some (.int .i64 oleast) := by { rw [cellB hbx _ _ (by first | (simp; done) | (simp; omega) | omega)]; all_goals (first | assumption | go_simp) }; have y3d : wd.cell? ⟨w.heap.size + 1, 3, none⟩ = some (.int .i64 oa) := by { rw [cellB hbx _ _ (by first | (simp; done) | (simp; omega) | omega)]; all_goals (first | assumption | go_simp) }; have y4d : wd.cell? ⟨w.heap.size + 1, 4, none⟩ = some (.int .i64 ob) := by { rw [cellB hbx _ _ (by first | (simp; done) | (simp; omega) | omega)]; all_goals (first | assumption | go_simp) }; have y5d : wd.cell? ⟨w.heap.size + 1, 5, none⟩ = some (.int .i64 oc) := by { rw [cellB hbx _ _ (by first | (simp; done) | (simp; omega) | omega)]; all_goals (first | assumption | go_simp) }; have y6d : wd.cell? ⟨w.heap.size + 1, 6, none⟩ = some (.int .i64 od) := by { rw [cellB hbx _ _ (by first | (simp; done) | (simp; omega) | omega)]; all_goals (first | assumption | go_simp) }; have y7d : wd.cell? ⟨w.heap.size + 1, 7, none⟩ = some (.slice bp m dp) := by { rw [cellB hbx _ _ (by first | (simp; done) | (simp; omega) | omega)]; all_goals (first | assumption | go_simp) }; have lxd : w.heap.size < wd.heap.size := by { omega }; have lyd : w.heap.size + 1 < wd.heap.size := by { omega }
    have HB := Lib.hid (HB.out.trans (hbx.mono HB.out.size))
    clear x0 x1 x2 x3 x4 x5 x6 x7 y0 y1 y2 y3 y4 y5 y6 y7 lx ly hzx
    have HT9 := Lib.hid ht9
    have HIF := Lib.hid (HIF.out.1.below hbx)
    clear hbx hN ht9 HCS HCO HCL
    go_wp2_with fail
    refine (HOE.out _ HB.out).mono ?_
    rintro e8 we ⟨rfl, hbe⟩
    have HT9 := Lib.hid (HT9.out.below hbe)
    have HIF := Lib.hid (HIF.out.below hbe)
    have hzx := hbe.size
    have x0 : we.cell? ⟨w.heap.size, 0, none⟩ = some (.string snm) := by { rw [cellB hbe _ _ (by first | (simp; done) | (simp; omega) | omega)]; all_goals (first | assumption | go_simp) }; have x1 : we.cell? ⟨w.heap.size, 1, none⟩ = some (.int .i64 sper) := by { rw [cellB hbe _ _ (by first | (simp; done) | (simp; omega) | omega)]; all_goals (first | assumption | go_simp) }; have x2 : we.cell? ⟨w.heap.size, 2, none⟩ = some (.int .i64 sleast) := by { rw [cellB hbe _ _ (by first | (simp; done) | (simp; omega) | omega)]; all_goals (first | assumption | go_simp) }; have x3 : we.cell? ⟨w.heap.size, 3, none⟩ = some (.int .i64 sa) := by { rw [cellB hbe _ _ (by first | (simp; done) | (simp; omega) | omega)]; all_goals (first | assumption | go_simp) }; have x4 : we.cell? ⟨w.heap.size, 4, none⟩ = some (.int .i64 sb) := by { rw [cellB hbe _ _ (by first | (simp; done) | (simp; omega) | omega)]; all_goals (first | assumption | go_simp) }; have x5 : we.cell? ⟨w.heap.size, 5, none⟩ = some (.int .i64 sc) := by { rw [cellB hbe _ _ (by first | (simp; done) | (simp; omega) | omega)]; all_goals (first | assumption | go_simp) }; have x6 : we.cell? ⟨w.heap.size, 6, none⟩ = some (.int .i64 sd) := by { rw [cellB hbe _ _ (by first | (simp; done) | (simp; omega) | omega)]; all_goals (first | assumption | go_simp) }; have x7 : we.cell? ⟨w.heap.size, 7, none⟩ = some (.slice ap n cp) := by { rw [cellB hbe _ _ (by first | (simp; done) | (simp; omega) | omega)]; all_goals (first | assumption | go_simp) }; have y0 : we.cell? ⟨w.heap.size + 1, 0, none⟩ = some (.string onm) := by { rw [cellB hbe _ _ (by first | (simp; done) | (simp; omega) | omega)]; all_goals (first | assumption | go_simp) }; have y1 : we.cell? ⟨w.heap.size + 1, 1, none⟩ = some (.int .i64 oper) := by { rw [cellB hbe _ _ (by first | (simp; done) | (simp; omega) | omega)]; all_goals (first | assumption | go_simp) }; have y2 : we.cell? ⟨w.heap.size + 1, 2, none⟩ = some (.int .i64 oleast) := by { rw [cellB hbe _ _ (by first | (simp; done) | (simp; omega) | omega)]; all_goals (first | assumption | go_simp) }; have y3 : we.cell? ⟨w.heap.size + 1, 3, none⟩ = some (.int .i64 oa) := by { rw [cellB hbe _ _ (by first | (simp; done) | (simp; omega) | omega)]; all_goals (first | assumption | go_simp) }; have y4 : we.cell? ⟨w.heap.size + 1, 4, none⟩ = some (.int .i64 ob) := by { rw [cellB hbe _ _ (by first | (simp; done) | (simp; omega) | omega)]; all_goals (first | assumption | go_simp) }; have y5 : we.cell? ⟨w.heap.size + 1, 5, none⟩ = some (.int .i64 oc) := by { rw [cellB hbe _ _ (by first | (simp; done) | (simp; omega) | omega)]; all_goals (first | assumption | go_simp) }; have y6 : we.cell? ⟨w.heap.size + 1, 6, none⟩ = some (.int .i64 od) := by { rw [cellB hbe _ _ (by first | (simp; done) | (simp; omega) | omega)]; all_goals (first | assumption | go_simp) }; have y7 : we.cell? ⟨w.heap.size + 1, 7, none⟩ = some (.slice bp m dp) := by { rw [cellB hbe _ _ (by first | (simp; done) | (simp; omega) | omega)]; all_goals (first | assumption | go_simp) }; have v0 : we.cell? ⟨X9, 0, none⟩ = some (.string cnm) := by { rw [cellB hbe _ _ (by first | (simp; done) | (simp; omega) | omega)]; all_goals (first | assumption | go_simp) }; have v1 : we.cell? ⟨X9, 1, none⟩ = some (.int .i64 cper) := by { rw [cellB hbe _ _ (by first | (simp; done) | (simp; omega) | omega)]; all_goals (first | assumption | go_simp) }; have v2 : we.cell? ⟨X9, 2, none⟩ = some (.int .i64 cleast) := by { rw [cellB hbe _ _ (by first | (simp; done) | (simp; omega) | omega)]; all_goals (first | assumption | go_simp) }; have v3 : we.cell? ⟨X9, 3, none⟩ = some (.int .i64 ca) := by { rw [cellB hbe _ _ (by first | (simp; done) | (simp; omega) | omega)]; all_goals (first | assumption | go_simp) }; have v4 : we.cell? ⟨X9, 4, none⟩ = some (.int .i64 cb) := by { rw [cellB hbe _ _ (by first | (simp; done) | (simp; omega) | omega)]; all_goals (first | assumption | go_simp) }; have v5 : we.cell? ⟨X9, 5, none⟩ = some (.int .i64 cc) := by { rw [cellB hbe _ _ (by first | (simp; done) | (simp; omega) | omega)]; all_goals (first | assumption | go_simp) }; have v6 : we.cell? ⟨X9, 6, none⟩ = some (.int .i64 cd) := by { rw [cellB hbe _ _ (by first | (simp; done) | (simp; omega) | omega)]; all_goals (first | assumption | go_simp) }; have v7 : we.cell? ⟨X9, 7, none⟩ = some (.slice a9 k9 c9) := by { rw [cellB hbe _ _ (by first | (simp; done) | (simp; omega) | omega)]; all_goals (first | assumption | go_simp) }; have lx : w.heap.size < we.heap.size := by { omega }; have ly : w.heap.size + 1 < we.heap.size := by { omega }; have lv : X9 < we.heap.size := by { omega }
    have HB := Lib.hid (HB.out.trans (hbe.mono HB.out.size))
    clear x0d x1d x2d x3d x4d x5d x6d x7d y0d y1d y2d y3d y4d y5d y6d y7d v0d v1d v2d v3d v4d v5d v6d v7d lxd lyd lvd hzx
    clear hbe HOE
    have hv := HV.out
    have hc := HC.out
    by_cases h0 : E = 0
    · have HRFa := Lib.hid (HRF.out h0)
      have HRCa := Lib.hid (HRC.out h0)
      subst h0
      rw [if_neg (by decide)] at hv hc
      simp only [Ser.mk.injEq] at hc
      obtain ⟨e0, e1, e2, e3', e4, e5', e6, e7⟩ := hc
      obtain rfl := e0.symm
      obtain rfl := e1.symm
      obtain rfl := e2.symm
      obtain rfl := e3'.symm
      obtain rfl := e4.symm
      obtain rfl := e5'.symm
      obtain rfl := e6.symm
      obtain rfl := e7.symm
      have HIF := Lib.hid (show IntsR we aF kF (nats (frO sl ol win n)) by rw [← hv]; exact HIF.out)
      clear HRF HRC HV HC hv
      go_wp2_with fail
      refine (HRFa.out _ HB.out).mono ?_
      rintro e9 wf ⟨a12, k12, c12, rfl, hbf, hi12⟩
      have HT9 := Lib.hid (HT9.out.below hbf)
      have HIF := Lib.hid (HIF.out.below hbf)
      have HI12 := Lib.hid hi12.1
      have hzx := hbf.size
      have x0d : wf.cell? ⟨w.heap.size, 0, none⟩ = some (.string snm) := by { rw [cellB hbf _ _ (by first | (simp; done) | (simp; omega) | omega)]; all_goals (first | assumption | go_simp) }; have x1d : wf.cell? ⟨w.heap.size, 1, none⟩ = some (.int .i64 sper) := by { rw [cellB hbf _ _ (by first | (simp; done) | (simp; omega) | omega)]; all_goals (first | assumption | go_simp) }; have x2d : wf.cell? ⟨w.heap.size, 2, none⟩ = some (.int .i64 sleast) := by { rw [cellB hbf _ _ (by first | (simp; done) | (simp; omega) | omega)]; all_goals (first | assumption | go_simp) }; have x3d : wf.cell? ⟨w.heap.size, 3, none⟩ = some (.int .i64 sa) := by { rw [cellB hbf _ _ (by first | (simp; done) | (simp; omega) | omega)]; all_goals (first | assumption | go_simp) }; have x4d : wf.cell? ⟨w.heap.size, 4, none⟩ = some (.int .i64 sb) := by { rw [cellB hbf _ _ (by first | (simp; done) | (simp; omega) | omega)]; all_goals (first | assumption | go_simp) }; have x5d : wf.cell? ⟨w.heap.size, 5, none⟩ = some (.int .i64 sc) := by { rw [cellB hbf _ _ (by first | (simp; done) | (simp; omega) | omega)]; all_goals (first | assumption | go_simp) }; have x6d : wf.cell? ⟨w.heap.size, 6, none⟩ = some (.int .i64 sd) := by { rw [cellB hbf _ _ (by first | (simp; done) | (simp; omega) | omega)]; all_goals (first | assumption | go_simp) }; have x7d : wf.cell? ⟨w.heap.size, 7, none⟩ = some (.slice ap n cp) := by { rw [cellB hbf _ _ (by first | (simp; done) | (simp; omega) | omega)]; all_goals (first | assumption | go_simp) }; have y0d : wf.cell? ⟨w.heap.size + 1, 0, none⟩ = some (.string onm) := by { rw [cellB hbf _ _ (by first | (simp; done) | (simp; omega) | omega)]; all_goals (first | assumption | go_simp) }; have y1d : wf.cell? ⟨w.heap.size + 1, 1, none⟩ = some (.int .i64 oper) := by { rw [cellB hbf _ _ (by first | (simp; done) | (simp; omega) | omega)]; all_goals (first | assumption | go_simp) }; have y2d : wf.cell? ⟨w.heap.size + 1, 2, none⟩ = some (.int .i64 oleast) := by { rw [cellB hbf _ _ (by first | (simp; done) | (simp; omega) | omega)]; all_goals (first | assumption | go_simp) }; have y3d : wf.cell? ⟨w.heap.size + 1, 3, none⟩ = some (.int .i64 oa) := by { rw [cellB hbf _ _ (by first | (simp; done) | (simp; omega) | omega)]; all_goals (first | assumption | go_simp) }; have y4d : wf.cell? ⟨w.heap.size + 1, 4, none⟩ = some (.int .i64 ob) := by { rw [cellB hbf _ _ (by first | (simp; done) | (simp; omega) | omega)]; all_goals (first | assumption | go_simp) }; have y5d : wf.cell? ⟨w.heap.size + 1, 5, none⟩ = some (.int .i64 oc) := by { rw [cellB hbf _ _ (by first | (simp; done) | (simp; omega) | omega)]; all_goals (first | assumption | go_simp) }; have y6d : wf.cell? ⟨w.heap.size + 1, 6, none⟩ = some (.int .i64 od) := by { rw [cellB hbf _ _ (by first | (simp; done) | (simp; omega) | omega)]; all_goals (first | assumption | go_simp) }; have y7d : wf.cell? ⟨w.heap.size + 1, 7, none⟩ = some (.slice bp m dp) := by { rw [cellB hbf _ _ (by first | (simp; done) | (simp; omega) | omega)]; all_goals (first | assumption | go_simp) }; have v0d : wf.cell? ⟨X9, 0, none⟩ = some (.string snm) := by { rw [cellB hbf _ _ (by first | (simp; done) | (simp; omega) | omega)]; all_goals (first | assumption | go_simp) }; have v1d : wf.cell? ⟨X9, 1, none⟩ = some (.int .i64 sper) := by { rw [cellB hbf _ _ (by first | (simp; done) | (simp; omega) | omega)]; all_goals (first | assumption | go_simp) }; have v2d : wf.cell? ⟨X9, 2, none⟩ = some (.int .i64 sleast) := by { rw [cellB hbf _ _ (by first | (simp; done) | (simp; omega) | omega)]; all_goals (first | assumption | go_simp) }; have v3d : wf.cell? ⟨X9, 3, none⟩ = some (.int .i64 sa) := by { rw [cellB hbf _ _ (by first | (simp; done) | (simp; omega) | omega)]; all_goals (first | assumption | go_simp) }; have v4d : wf.cell? ⟨X9, 4, none⟩ = some (.int .i64 sb) := by { rw [cellB hbf _ _ (by first | (simp; done) | (simp; omega) | omega)]; all_goals (first | assumption | go_simp) }; have v5d : wf.cell? ⟨X9, 5, none⟩ = some (.int .i64 sc) := by { rw [cellB hbf _ _ (by first | (simp; done) | (simp; omega) | omega)]; all_goals (first | assumption | go_simp) }; have v6d : wf.cell? ⟨X9, 6, none⟩ = some (.int .i64 sd) := by { rw [cellB hbf _ _ (by first | (simp; done) | (simp; omega) | omega)]; all_goals (first | assumption | go_simp) }; have v7d : wf.cell? ⟨X9, 7, none⟩ = some (.slice a9 k9 c9) := by { rw [cellB hbf _ _ (by first | (simp; done) | (simp; omega) | omega)]; all_goals (first | assumption | go_simp) }; have lxd : w.heap.size < wf.heap.size := by { omega }; have lyd : w.heap.size + 1 < wf.heap.size := by { omega }; have lvd : X9 < wf.heap.size := by { omega }
      have HB := Lib.hid (HB.out.trans (hbf.mono HB.out.size))
      clear x0 x1 x2 x3 x4 x5 x6 x7 y0 y1 y2 y3 y4 y5 y6 y7 v0 v1 v2 v3 v4 v5 v6 v7 lx ly lv hzx
      clear hbf hi12 HRFa
      go_wp2_with fail
      refine wp_region_laterM (B := wf.heap.size) [(true, 0), (true, 1), (true, 2), (true, 3), (true, 4), (false, 5), (true, 6), (true, 7), (true, 8), (true, 9), (true, 10), (true, 11), (true, 12), (true, 13), (true, 14), (false, 15), (false, 16), (true, 17), (true, 18)] (by kernel_rfl) (by kernel_rfl) ?_; simp only [opsOf, List.filterMap_cons, List.filterMap_nil, List.getElem?_toArray, List.getElem?_cons_zero, List.getElem?_cons_succ, Option.map_some]
      repeat (refine mix_head ?_; (show wpQuiet _ _ _ _ (_ :: _) _; go_big_quiet_step (fail)); refine wpQuiet_nil ?_)
      refine mix_tail ?_; go_wp2_with fail
      refine (ints_any _ _ _ _ _ _ _ _ _ (HIF.out.below (Below.refl wf.heap.size wf).drew) (HI12.out.below (Below.refl wf.heap.size wf).drew)).mono ?_
      rintro e10 wg ⟨rfl, nd, hwg⟩
      have HX := Lib.hid (show Below wf.heap.size wf wg by rw [hwg]; exact (Below.refl _ _).drew.drewN _)
      clear hwg
      rw [decide_eq_true rfl]
      go_wp2_with fail
      refine tailL_mk HX.out ?_
      repeat (refine mix_head ?_; (show wpQuiet _ _ _ _ (_ :: _) _; go_big_quiet_step (fail)); refine wpQuiet_nil ?_)
      refine mix_tail ?_; go_wp2_with fail
      refine (HRCa.out a12 k12 c12 _ (HB.out.trans (HX.out.mono HB.out.size)) (HI12.out.below HX.out)).mono ?_
      rintro e11 wh ⟨a15, k15, c15, rfl, hbh, ht15⟩
      have HX := Lib.hid (HX.out.trans (hbh.mono HX.out.size))
      have hk : k15 = k9 := by rw [← ER.len ht15, ← ER.len HT9.out]
      subst hk
      have HT15 := Lib.hid ht15
      clear hbh ht15 HRCa
      go_wp2_with fail
      refine tailL_mk HX.out ?_
      repeat (refine mix_head ?_; (show wpQuiet _ _ _ _ (_ :: _) _; go_big_quiet_step (fail)); refine wpQuiet_nil ?_)
      refine mix_tail ?_; go_wp2_with fail
      refine (HSS.out ⟨snm, sper, sleast, sa, sb, sc, sd, clO sl ol win⟩ a9 a15 k15 c9 c15 _ (HT9.out.below HX.out) HT15.out).mono ?_
      rintro e12 wi ⟨rfl, hbi⟩
      have HX := Lib.hid (HX.out.trans (hbi.mono HX.out.size))
      clear hbi
      go_wp2_with fail
      refine tailL_mk HX.out ?_
      repeat (refine mix_head ?_; (show wpQuiet _ _ _ _ (_ :: _) _; go_big_quiet_step (fail)); refine wpQuiet_nil ?_)
      refine mix_nil ?_
      go_wp2
      go_ret
      exact ⟨ret_bool (by simp), HB.out.trans (HX.out.mono HB.out.size)⟩
    · rw [if_pos h0] at hv hc
      simp only [Ser.mk.injEq] at hc
      obtain ⟨rfl, rfl, rfl, rfl, rfl, rfl, rfl, rfl⟩ := hc
      subst hv
      obtain rfl : kF = 0 := by have := HIF.out.len; simpa [nats] using this.symm
      obtain rfl : k9 = 0 := by have := ER.len HT9.out; simpa using this.symm
      have s1 := bne_iff_ne.2 h0
      clear HRF HRC HV HC h0
      go_wp2_with fail
      refine (HSS.out ⟨⟨#[]⟩, 0, 0, 0, 0, 0, 0, []⟩ a9 none 0 c9 0 _ HT9.out (ER.nil _ _)).mono ?_
      rintro e12 wi ⟨rfl, hbi⟩
      have HBI := Lib.hid (HB.out.trans (hbi.mono HB.out.size))
      clear hbi
      go_wp2
      go_ret
      exact ⟨ret_bool (by simp), HBI.out⟩
theorem out_walk (s : Ser) (ap : Option Addr) (n cp : Nat) (o : Ser) (bp : Option Addr) (m dp : Nat) (win : Int) (w : World) (hs : SerW s) (hl : T3R w ap n s.l) (ho : SerW o) (hm : T3R w bp m o.l) (_ : -9223372036854775808 ≤ win ∧ win ≤ 9223372036854775807) :
    Calls Tryz.prog 5 #[.agg #[.string s.nm, .int .i64 s.per, .int .i64 s.least, .int .i64 s.a, .int .i64 s.b, .int .i64 s.c, .int .i64 s.d, .slice ap n cp], .agg #[.string o.nm, .int .i64 o.per, .int .i64 o.least, .int .i64 o.a, .int .i64 o.b, .int .i64 o.c, .int .i64 o.d, .slice bp m dp], .int .i64 win] w fun e' w' => e' = .returned (.bool true) ∧ Below w.heap.size w w' := by
  by_cases h : (n ≤ 64 ∧ s.nm.size ≤ 30) ∧ (m ≤ 64 ∧ o.nm.size ≤ 30)
  · exact out_main s o win ap bp n cp m dp w hs ho hl hm h.1 h.2
  · exact out_few s o win ap bp n cp m dp w hs ho hl hm h
end Go.Proofs.YthkekjgdknnaiaaGreat
