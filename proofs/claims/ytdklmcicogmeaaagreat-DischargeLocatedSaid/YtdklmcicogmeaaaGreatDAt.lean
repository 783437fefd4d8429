import Derived.Test.YtdklmcicogmeaaaGreatDAns
/- The answer for a cell, with its errors: the program's function. -/
namespace Go.Proofs.YtdklmcicogmeaaaGreat
open Go.RowKit
set_option linter.unusedVariables false

/-- The error of a grid, arrivals and a cell. -/
def ansE (g : Gri) (A : Arr) (c : T3) : Int := if firstErr [griE g, (arrE A).2] ≠ 0 then firstErr [griE g, (arrE A).2] else unl (celB g c) 6
set_option maxHeartbeats 1000000 in
set_option maxRecDepth 100000 in
theorem answerAt_any (g : Gri) (A : Arr) (c : T3) (a : Option Addr) (n cap : Nat) (w : World) (hl : SenR w a n A.l) :
    Calls Tryz.prog 17 #[.agg #[.int .i64 g.f.x, .int .i64 g.f.y, .int .i64 g.f.z, .int .i64 g.st, .int .i64 g.c.x, .int .i64 g.c.y, .int .i64 g.c.z], .agg #[.int .i64 A.lo, .int .i64 A.hi, .slice a n cap], .agg #[.int .i64 c.x, .int .i64 c.y, .int .i64 c.z]] w
      fun e' w' => e' = .returned (.tuple #[.int .i64 (if ansE g A c = 0 then ans g A c else 0), .int .i64 (ansE g A c)]) ∧ Below w.heap.size w w' := by
  have HH := Lib.hid (fun (w' : World) (hb : Below w.heap.size w w') => hear_any g A a n cap w' (hl.below hb))
  have HCE := Lib.hid (fun (h : griE g = 0) w' => cellErr_any g c w' (griE_zero h).2.2)
  have HAN := Lib.hid (fun (h1 : griE g = 0) (h2 : (arrE A).2 = 0) (h3 : celB g c = true) (w' : World) (hb : Below w.heap.size w w') => answer_any g A c a n cap w' (hl.below hb) h1 h2 h3)
  obtain ⟨E, hE⟩ : ∃ E, E = firstErr [griE g, (arrE A).2] := ⟨_, rfl⟩
  have hEE : ansE g A c = if E ≠ 0 then E else unl (celB g c) 6 := by unfold ansE; rw [hE]
  rw [← hE] at HH
  by_cases h0 : E = 0
  · have h1 : griE g = 0 ∧ (arrE A).2 = 0 := by
      have := hE.symm.trans h0
      have h2 := firstErr_cons.1 this
      exact ⟨h2.1, (firstErr_cons.1 h2.2).1⟩
    have hA : ansE g A c = unl (celB g c) 6 := by rw [hEE, if_neg (by rw [h0]; exact fun h => h rfl)]
    rw [hA]
    have HCE := Lib.hid (HCE.out h1.1)
    have HAN := Lib.hid (HAN.out h1.1 h1.2)
    subst h0
    clear hE hEE h1 hA
    generalize celB g c = bc at *
    cases bc
    · rw [if_neg (by simp [unl]), show unl false 6 = 6 from rfl]
      rw [show unl false 6 = 6 from rfl] at HCE
      clear HAN
      obtain ⟨⟨fx, fy, fz⟩, st, ⟨nx, ny, nz⟩⟩ := g
      obtain ⟨cx, cy, cz⟩ := c
      obtain ⟨vl, vh, l⟩ := A
      simp only at *
      go_enter Tryz.func17, Tryz.ntmps17
      go_wp2_with fail
      refine (HH.out _ (by (repeat' (first | (with_reducible exact Below.refl _ _) | (with_reducible assumption) | (with_reducible refine Below.drewN ?_ _) | (with_reducible refine Below.alloc ?_ ?_ _) | (with_reducible refine Below.drew ?_) | (with_reducible refine Below.setCell ?_ ?_ _) | (with_reducible refine Below.step (by assumption) ?_ ?_) | (with_reducible exact And.left (by assumption)) | go_size)))).mono ?_
      rintro e5 w5 ⟨rfl, hb5⟩
      have q0 : w5.cell? ⟨w.heap.size, 0, none⟩ = some (.int .i64 fx) := by { rw [cellB hb5 _ _ (by first | (simp; done) | (simp; omega) | omega)]; all_goals (first | assumption | go_simp) }; have q1 : w5.cell? ⟨w.heap.size, 1, none⟩ = some (.int .i64 fy) := by { rw [cellB hb5 _ _ (by first | (simp; done) | (simp; omega) | omega)]; all_goals (first | assumption | go_simp) }; have q2 : w5.cell? ⟨w.heap.size, 2, none⟩ = some (.int .i64 fz) := by { rw [cellB hb5 _ _ (by first | (simp; done) | (simp; omega) | omega)]; all_goals (first | assumption | go_simp) }; have q3 : w5.cell? ⟨w.heap.size, 3, none⟩ = some (.int .i64 st) := by { rw [cellB hb5 _ _ (by first | (simp; done) | (simp; omega) | omega)]; all_goals (first | assumption | go_simp) }; have q4 : w5.cell? ⟨w.heap.size, 4, none⟩ = some (.int .i64 nx) := by { rw [cellB hb5 _ _ (by first | (simp; done) | (simp; omega) | omega)]; all_goals (first | assumption | go_simp) }; have q5 : w5.cell? ⟨w.heap.size, 5, none⟩ = some (.int .i64 ny) := by { rw [cellB hb5 _ _ (by first | (simp; done) | (simp; omega) | omega)]; all_goals (first | assumption | go_simp) }; have q6 : w5.cell? ⟨w.heap.size, 6, none⟩ = some (.int .i64 nz) := by { rw [cellB hb5 _ _ (by first | (simp; done) | (simp; omega) | omega)]; all_goals (first | assumption | go_simp) }; have c0 : w5.cell? ⟨w.heap.size + 1 + 1, 0, none⟩ = some (.int .i64 cx) := by { rw [cellB hb5 _ _ (by first | (simp; done) | (simp; omega) | omega)]; all_goals (first | assumption | go_simp) }; have c1 : w5.cell? ⟨w.heap.size + 1 + 1, 1, none⟩ = some (.int .i64 cy) := by { rw [cellB hb5 _ _ (by first | (simp; done) | (simp; omega) | omega)]; all_goals (first | assumption | go_simp) }; have c2 : w5.cell? ⟨w.heap.size + 1 + 1, 2, none⟩ = some (.int .i64 cz) := by { rw [cellB hb5 _ _ (by first | (simp; done) | (simp; omega) | omega)]; all_goals (first | assumption | go_simp) }
      have hz5 := hb5.size
      simp only [World.size_alloc] at hz5
      have HB5 := Lib.hid (show Below w.heap.size w w5 by (repeat' (first | (with_reducible exact Below.refl _ _) | (with_reducible assumption) | (with_reducible refine Below.drewN ?_ _) | (with_reducible refine Below.alloc ?_ ?_ _) | (with_reducible refine Below.drew ?_) | (with_reducible refine Below.setCell ?_ ?_ _) | (with_reducible refine Below.step (by assumption) ?_ ?_) | (with_reducible exact And.left (by assumption)) | go_size)))
      have l0 : w.heap.size + 1 + 1 < w5.heap.size := by omega
      have l1 : w.heap.size < w5.heap.size := by omega
      clear hb5 HH
      go_wp2_with fail
      generalize hW : World.alloc _ _ = wx
      have hbx : Below w5.heap.size w5 wx := by rw [← hW]; (repeat' (first | (with_reducible exact Below.refl _ _) | (with_reducible assumption) | (with_reducible refine Below.drewN ?_ _) | (with_reducible refine Below.alloc ?_ ?_ _) | (with_reducible refine Below.drew ?_) | (with_reducible refine Below.setCell ?_ ?_ _) | (with_reducible refine Below.step (by assumption) ?_ ?_) | (with_reducible exact And.left (by assumption)) | go_size))
      have h0 : wx.cell? ⟨w5.heap.size, 0, none⟩ = some (.int .i64 fx) := by { rw [← hW]; clear hW; go_simp }
      have h1 : wx.cell? ⟨w5.heap.size, 1, none⟩ = some (.int .i64 fy) := by { rw [← hW]; clear hW; go_simp }
      have h2 : wx.cell? ⟨w5.heap.size, 2, none⟩ = some (.int .i64 fz) := by { rw [← hW]; clear hW; go_simp }
      have h3 : wx.cell? ⟨w5.heap.size, 3, none⟩ = some (.int .i64 st) := by { rw [← hW]; clear hW; go_simp }
      have h4 : wx.cell? ⟨w5.heap.size, 4, none⟩ = some (.int .i64 nx) := by { rw [← hW]; clear hW; go_simp }
      have h5 : wx.cell? ⟨w5.heap.size, 5, none⟩ = some (.int .i64 ny) := by { rw [← hW]; clear hW; go_simp }
      have h6 : wx.cell? ⟨w5.heap.size, 6, none⟩ = some (.int .i64 nz) := by { rw [← hW]; clear hW; go_simp }
      have h7 : wx.cell? ⟨w5.heap.size, 7, none⟩ = some (.int .i64 vl) := by { rw [← hW]; clear hW; go_simp }
      have h8 : wx.cell? ⟨w5.heap.size, 8, none⟩ = some (.int .i64 vh) := by { rw [← hW]; clear hW; go_simp }
      have h9 : wx.cell? ⟨w5.heap.size, 9, none⟩ = some (.slice a n cap) := by { rw [← hW]; clear hW; go_simp }
      have l6 : w5.heap.size < wx.heap.size := by { rw [← hW]; clear hW; simp }
      have eq0 : wx.cell? ⟨w.heap.size, 0, none⟩ = some (.int .i64 fx) := by { rw [cellB hbx _ _ (by first | (simp; done) | (simp; omega) | omega)]; all_goals (first | assumption | go_simp) }; have eq1 : wx.cell? ⟨w.heap.size, 1, none⟩ = some (.int .i64 fy) := by { rw [cellB hbx _ _ (by first | (simp; done) | (simp; omega) | omega)]; all_goals (first | assumption | go_simp) }; have eq2 : wx.cell? ⟨w.heap.size, 2, none⟩ = some (.int .i64 fz) := by { rw [cellB hbx _ _ (by first | (simp; done) | (simp; omega) | omega)]; all_goals (first | assumption | go_simp) }; have eq3 : wx.cell? ⟨w.heap.size, 3, none⟩ = some (.int .i64 st) := by { rw [cellB hbx _ _ (by first | (simp; done) | (simp; omega) | omega)]; all_goals (first | assumption | go_simp) }; have eq4 : wx.cell? ⟨w.heap.size, 4, none⟩ = some (.int .i64 nx) := by { rw [cellB hbx _ _ (by first | (simp; done) | (simp; omega) | omega)]; all_goals (first | assumption | go_simp) }; have eq5 : wx.cell? ⟨w.heap.size, 5, none⟩ = some (.int .i64 ny) := by { rw [cellB hbx _ _ (by first | (simp; done) | (simp; omega) | omega)]; all_goals (first | assumption | go_simp) }; have eq6 : wx.cell? ⟨w.heap.size, 6, none⟩ = some (.int .i64 nz) := by { rw [cellB hbx _ _ (by first | (simp; done) | (simp; omega) | omega)]; all_goals (first | assumption | go_simp) }; have ec0 : wx.cell? ⟨w.heap.size + 1 + 1, 0, none⟩ = some (.int .i64 cx) := by { rw [cellB hbx _ _ (by first | (simp; done) | (simp; omega) | omega)]; all_goals (first | assumption | go_simp) }; have ec1 : wx.cell? ⟨w.heap.size + 1 + 1, 1, none⟩ = some (.int .i64 cy) := by { rw [cellB hbx _ _ (by first | (simp; done) | (simp; omega) | omega)]; all_goals (first | assumption | go_simp) }; have ec2 : wx.cell? ⟨w.heap.size + 1 + 1, 2, none⟩ = some (.int .i64 cz) := by { rw [cellB hbx _ _ (by first | (simp; done) | (simp; omega) | omega)]; all_goals (first | assumption | go_simp) }
      have l0 : w.heap.size + 1 + 1 < wx.heap.size := by omega
      have l1 : w.heap.size < wx.heap.size := by omega
      have HB5 := Lib.hid (HB5.out.trans (hbx.mono HB5.out.size))
      clear hW hbx q0 q1 q2 q3 q4 q5 q6 c0 c1 c2
      go_wp2_with fail
      refine (HCE.out _).mono ?_
      rintro e6 w6 ⟨rfl, hb6⟩
      have HB6 := Lib.hid (HB5.out.trans (hb6.mono HB5.out.size))
      clear hb6
      go_wp2
      go_ret2
      exact ⟨rfl, HB6.out⟩
    · rw [if_pos (by simp [unl]), show unl true 6 = 0 from rfl]
      rw [show unl true 6 = 0 from rfl] at HCE
      have HANX := Lib.hid (HAN.out rfl)
      clear HAN
      generalize ans g A c = R at *
      obtain ⟨⟨fx, fy, fz⟩, st, ⟨nx, ny, nz⟩⟩ := g
      obtain ⟨cx, cy, cz⟩ := c
      obtain ⟨vl, vh, l⟩ := A
      simp only at *
      go_enter Tryz.func17, Tryz.ntmps17
      go_wp2_with fail
      refine (HH.out _ (by (repeat' (first | (with_reducible exact Below.refl _ _) | (with_reducible assumption) | (with_reducible refine Below.drewN ?_ _) | (with_reducible refine Below.alloc ?_ ?_ _) | (with_reducible refine Below.drew ?_) | (with_reducible refine Below.setCell ?_ ?_ _) | (with_reducible refine Below.step (by assumption) ?_ ?_) | (with_reducible exact And.left (by assumption)) | go_size)))).mono ?_
      rintro e5 w5 ⟨rfl, hb5⟩
      have q0 : w5.cell? ⟨w.heap.size, 0, none⟩ = some (.int .i64 fx) := by { rw [cellB hb5 _ _ (by first | (simp; done) | (simp; omega) | omega)]; all_goals (first | assumption | go_simp) }; have q1 : w5.cell? ⟨w.heap.size, 1, none⟩ = some (.int .i64 fy) := by { rw [cellB hb5 _ _ (by first | (simp; done) | (simp; omega) | omega)]; all_goals (first | assumption | go_simp) }; have q2 : w5.cell? ⟨w.heap.size, 2, none⟩ = some (.int .i64 fz) := by { rw [cellB hb5 _ _ (by first | (simp; done) | (simp; omega) | omega)]; all_goals (first | assumption | go_simp) }; have q3 : w5.cell? ⟨w.heap.size, 3, none⟩ = some (.int .i64 st) := by { rw [cellB hb5 _ _ (by first | (simp; done) | (simp; omega) | omega)]; all_goals (first | assumption | go_simp) }; have q4 : w5.cell? ⟨w.heap.size, 4, none⟩ = some (.int .i64 nx) := by { rw [cellB hb5 _ _ (by first | (simp; done) | (simp; omega) | omega)]; all_goals (first | assumption | go_simp) }; have q5 : w5.cell? ⟨w.heap.size, 5, none⟩ = some (.int .i64 ny) := by { rw [cellB hb5 _ _ (by first | (simp; done) | (simp; omega) | omega)]; all_goals (first | assumption | go_simp) }; have q6 : w5.cell? ⟨w.heap.size, 6, none⟩ = some (.int .i64 nz) := by { rw [cellB hb5 _ _ (by first | (simp; done) | (simp; omega) | omega)]; all_goals (first | assumption | go_simp) }; have c0 : w5.cell? ⟨w.heap.size + 1 + 1, 0, none⟩ = some (.int .i64 cx) := by { rw [cellB hb5 _ _ (by first | (simp; done) | (simp; omega) | omega)]; all_goals (first | assumption | go_simp) }; have c1 : w5.cell? ⟨w.heap.size + 1 + 1, 1, none⟩ = some (.int .i64 cy) := by { rw [cellB hb5 _ _ (by first | (simp; done) | (simp; omega) | omega)]; all_goals (first | assumption | go_simp) }; have c2 : w5.cell? ⟨w.heap.size + 1 + 1, 2, none⟩ = some (.int .i64 cz) := by { rw [cellB hb5 _ _ (by first | (simp; done) | (simp; omega) | omega)]; all_goals (first | assumption | go_simp) }
      have hz5 := hb5.size
      simp only [World.size_alloc] at hz5
      have HB5 := Lib.hid (show Below w.heap.size w w5 by (repeat' (first | (with_reducible exact Below.refl _ _) | (with_reducible assumption) | (with_reducible refine Below.drewN ?_ _) | (with_reducible refine Below.alloc ?_ ?_ _) | (with_reducible refine Below.drew ?_) | (with_reducible refine Below.setCell ?_ ?_ _) | (with_reducible refine Below.step (by assumption) ?_ ?_) | (with_reducible exact And.left (by assumption)) | go_size)))
      have l0 : w.heap.size + 1 + 1 < w5.heap.size := by omega
      have l1 : w.heap.size < w5.heap.size := by omega
      clear hb5 HH
      go_wp2_with fail
      generalize hW : World.alloc _ _ = wx
      have hbx : Below w5.heap.size w5 wx := by rw [← hW]; (repeat' (first | (with_reducible exact Below.refl _ _) | (with_reducible assumption) | (with_reducible refine Below.drewN ?_ _) | (with_reducible refine Below.alloc ?_ ?_ _) | (with_reducible refine Below.drew ?_) | (with_reducible refine Below.setCell ?_ ?_ _) | (with_reducible refine Below.step (by assumption) ?_ ?_) | (with_reducible exact And.left (by assumption)) | go_size))
      have h0 : wx.cell? ⟨w5.heap.size, 0, none⟩ = some (.int .i64 fx) := by { rw [← hW]; clear hW; go_simp }
      have h1 : wx.cell? ⟨w5.heap.size, 1, none⟩ = some (.int .i64 fy) := by { rw [← hW]; clear hW; go_simp }
      have h2 : wx.cell? ⟨w5.heap.size, 2, none⟩ = some (.int .i64 fz) := by { rw [← hW]; clear hW; go_simp }
      have h3 : wx.cell? ⟨w5.heap.size, 3, none⟩ = some (.int .i64 st) := by { rw [← hW]; clear hW; go_simp }
      have h4 : wx.cell? ⟨w5.heap.size, 4, none⟩ = some (.int .i64 nx) := by { rw [← hW]; clear hW; go_simp }
      have h5 : wx.cell? ⟨w5.heap.size, 5, none⟩ = some (.int .i64 ny) := by { rw [← hW]; clear hW; go_simp }
      have h6 : wx.cell? ⟨w5.heap.size, 6, none⟩ = some (.int .i64 nz) := by { rw [← hW]; clear hW; go_simp }
      have h7 : wx.cell? ⟨w5.heap.size, 7, none⟩ = some (.int .i64 vl) := by { rw [← hW]; clear hW; go_simp }
      have h8 : wx.cell? ⟨w5.heap.size, 8, none⟩ = some (.int .i64 vh) := by { rw [← hW]; clear hW; go_simp }
      have h9 : wx.cell? ⟨w5.heap.size, 9, none⟩ = some (.slice a n cap) := by { rw [← hW]; clear hW; go_simp }
      have l6 : w5.heap.size < wx.heap.size := by { rw [← hW]; clear hW; simp }
      have eq0 : wx.cell? ⟨w.heap.size, 0, none⟩ = some (.int .i64 fx) := by { rw [cellB hbx _ _ (by first | (simp; done) | (simp; omega) | omega)]; all_goals (first | assumption | go_simp) }; have eq1 : wx.cell? ⟨w.heap.size, 1, none⟩ = some (.int .i64 fy) := by { rw [cellB hbx _ _ (by first | (simp; done) | (simp; omega) | omega)]; all_goals (first | assumption | go_simp) }; have eq2 : wx.cell? ⟨w.heap.size, 2, none⟩ = some (.int .i64 fz) := by { rw [cellB hbx _ _ (by first | (simp; done) | (simp; omega) | omega)]; all_goals (first | assumption | go_simp) }; have eq3 : wx.cell? ⟨w.heap.size, 3, none⟩ = some (.int .i64 st) := by { rw [cellB hbx _ _ (by first | (simp; done) | (simp; omega) | omega)]; all_goals (first | assumption | go_simp) }; have eq4 : wx.cell? ⟨w.heap.size, 4, none⟩ = some (.int .i64 nx) := by { rw [cellB hbx _ _ (by first | (simp; done) | (simp; omega) | omega)]; all_goals (first | assumption | go_simp) }; have eq5 : wx.cell? ⟨w.heap.size, 5, none⟩ = some (.int .i64 ny) := by { rw [cellB hbx _ _ (by first | (simp; done) | (simp; omega) | omega)]; all_goals (first | assumption | go_simp) }; have eq6 : wx.cell? ⟨w.heap.size, 6, none⟩ = some (.int .i64 nz) := by { rw [cellB hbx _ _ (by first | (simp; done) | (simp; omega) | omega)]; all_goals (first | assumption | go_simp) }; have ec0 : wx.cell? ⟨w.heap.size + 1 + 1, 0, none⟩ = some (.int .i64 cx) := by { rw [cellB hbx _ _ (by first | (simp; done) | (simp; omega) | omega)]; all_goals (first | assumption | go_simp) }; have ec1 : wx.cell? ⟨w.heap.size + 1 + 1, 1, none⟩ = some (.int .i64 cy) := by { rw [cellB hbx _ _ (by first | (simp; done) | (simp; omega) | omega)]; all_goals (first | assumption | go_simp) }; have ec2 : wx.cell? ⟨w.heap.size + 1 + 1, 2, none⟩ = some (.int .i64 cz) := by { rw [cellB hbx _ _ (by first | (simp; done) | (simp; omega) | omega)]; all_goals (first | assumption | go_simp) }
      have l0 : w.heap.size + 1 + 1 < wx.heap.size := by omega
      have l1 : w.heap.size < wx.heap.size := by omega
      have HB5 := Lib.hid (HB5.out.trans (hbx.mono HB5.out.size))
      clear hW hbx q0 q1 q2 q3 q4 q5 q6 c0 c1 c2
      go_wp2_with fail
      refine (HCE.out _).mono ?_
      rintro e6 w6 ⟨rfl, hb6⟩
      have d0 : w6.cell? ⟨w5.heap.size, 0, none⟩ = some (.int .i64 fx) := by { rw [cellB hb6 _ _ (by first | (simp; done) | (simp; omega) | omega)]; all_goals (first | assumption | go_simp) }; have d1 : w6.cell? ⟨w5.heap.size, 1, none⟩ = some (.int .i64 fy) := by { rw [cellB hb6 _ _ (by first | (simp; done) | (simp; omega) | omega)]; all_goals (first | assumption | go_simp) }; have d2 : w6.cell? ⟨w5.heap.size, 2, none⟩ = some (.int .i64 fz) := by { rw [cellB hb6 _ _ (by first | (simp; done) | (simp; omega) | omega)]; all_goals (first | assumption | go_simp) }; have d3 : w6.cell? ⟨w5.heap.size, 3, none⟩ = some (.int .i64 st) := by { rw [cellB hb6 _ _ (by first | (simp; done) | (simp; omega) | omega)]; all_goals (first | assumption | go_simp) }; have d4 : w6.cell? ⟨w5.heap.size, 4, none⟩ = some (.int .i64 nx) := by { rw [cellB hb6 _ _ (by first | (simp; done) | (simp; omega) | omega)]; all_goals (first | assumption | go_simp) }; have d5 : w6.cell? ⟨w5.heap.size, 5, none⟩ = some (.int .i64 ny) := by { rw [cellB hb6 _ _ (by first | (simp; done) | (simp; omega) | omega)]; all_goals (first | assumption | go_simp) }; have d6 : w6.cell? ⟨w5.heap.size, 6, none⟩ = some (.int .i64 nz) := by { rw [cellB hb6 _ _ (by first | (simp; done) | (simp; omega) | omega)]; all_goals (first | assumption | go_simp) }; have d7 : w6.cell? ⟨w5.heap.size, 7, none⟩ = some (.int .i64 vl) := by { rw [cellB hb6 _ _ (by first | (simp; done) | (simp; omega) | omega)]; all_goals (first | assumption | go_simp) }; have d8 : w6.cell? ⟨w5.heap.size, 8, none⟩ = some (.int .i64 vh) := by { rw [cellB hb6 _ _ (by first | (simp; done) | (simp; omega) | omega)]; all_goals (first | assumption | go_simp) }; have d9 : w6.cell? ⟨w5.heap.size, 9, none⟩ = some (.slice a n cap) := by { rw [cellB hb6 _ _ (by first | (simp; done) | (simp; omega) | omega)]; all_goals (first | assumption | go_simp) }; have dc0 : w6.cell? ⟨w.heap.size + 1 + 1, 0, none⟩ = some (.int .i64 cx) := by { rw [cellB hb6 _ _ (by first | (simp; done) | (simp; omega) | omega)]; all_goals (first | assumption | go_simp) }; have dc1 : w6.cell? ⟨w.heap.size + 1 + 1, 1, none⟩ = some (.int .i64 cy) := by { rw [cellB hb6 _ _ (by first | (simp; done) | (simp; omega) | omega)]; all_goals (first | assumption | go_simp) }; have dc2 : w6.cell? ⟨w.heap.size + 1 + 1, 2, none⟩ = some (.int .i64 cz) := by { rw [cellB hb6 _ _ (by first | (simp; done) | (simp; omega) | omega)]; all_goals (first | assumption | go_simp) }
      have HB6 := Lib.hid (HB5.out.trans (hb6.mono HB5.out.size))
      clear hb6
      go_wp2_with fail
      refine (HANX.out _ HB6.out).mono ?_
      rintro e7 w7 ⟨rfl, hb7⟩
      have HB7 := Lib.hid (HB6.out.trans (hb7.mono HB6.out.size))
      clear hb7
      go_wp2
      go_ret2
      exact ⟨rfl, HB7.out⟩
  · have hA : ansE g A c = E := by rw [hEE, if_pos h0]
    rw [hA, if_neg h0]
    have hE1 : (E != 0) = true := by simpa using h0
    have hE2 : (E == 0) = false := by simpa using h0
    clear h0 hE hEE HCE HAN hA
    obtain ⟨⟨fx, fy, fz⟩, st, ⟨nx, ny, nz⟩⟩ := g
    obtain ⟨cx, cy, cz⟩ := c
    obtain ⟨vl, vh, l⟩ := A
    simp only at *
    go_enter Tryz.func17, Tryz.ntmps17
    go_wp2_with fail
    refine (HH.out _ (by (repeat' (first | (with_reducible exact Below.refl _ _) | (with_reducible assumption) | (with_reducible refine Below.drewN ?_ _) | (with_reducible refine Below.alloc ?_ ?_ _) | (with_reducible refine Below.drew ?_) | (with_reducible refine Below.setCell ?_ ?_ _) | (with_reducible refine Below.step (by assumption) ?_ ?_) | (with_reducible exact And.left (by assumption)) | go_size)))).mono ?_
    rintro e5 w5 ⟨rfl, hb5⟩
    have q0 : w5.cell? ⟨w.heap.size, 0, none⟩ = some (.int .i64 fx) := by { rw [cellB hb5 _ _ (by first | (simp; done) | (simp; omega) | omega)]; all_goals (first | assumption | go_simp) }; have q1 : w5.cell? ⟨w.heap.size, 1, none⟩ = some (.int .i64 fy) := by { rw [cellB hb5 _ _ (by first | (simp; done) | (simp; omega) | omega)]; all_goals (first | assumption | go_simp) }; have q2 : w5.cell? ⟨w.heap.size, 2, none⟩ = some (.int .i64 fz) := by { rw [cellB hb5 _ _ (by first | (simp; done) | (simp; omega) | omega)]; all_goals (first | assumption | go_simp) }; have q3 : w5.cell? ⟨w.heap.size, 3, none⟩ = some (.int .i64 st) := by { rw [cellB hb5 _ _ (by first | (simp; done) | (simp; omega) | omega)]; all_goals (first | assumption | go_simp) }; have q4 : w5.cell? ⟨w.heap.size, 4, none⟩ = some (.int .i64 nx) := by { rw [cellB hb5 _ _ (by first | (simp; done) | (simp; omega) | omega)]; all_goals (first | assumption | go_simp) }; have q5 : w5.cell? ⟨w.heap.size, 5, none⟩ = some (.int .i64 ny) := by { rw [cellB hb5 _ _ (by first | (simp; done) | (simp; omega) | omega)]; all_goals (first | assumption | go_simp) }; have q6 : w5.cell? ⟨w.heap.size, 6, none⟩ = some (.int .i64 nz) := by { rw [cellB hb5 _ _ (by first | (simp; done) | (simp; omega) | omega)]; all_goals (first | assumption | go_simp) }; have c0 : w5.cell? ⟨w.heap.size + 1 + 1, 0, none⟩ = some (.int .i64 cx) := by { rw [cellB hb5 _ _ (by first | (simp; done) | (simp; omega) | omega)]; all_goals (first | assumption | go_simp) }; have c1 : w5.cell? ⟨w.heap.size + 1 + 1, 1, none⟩ = some (.int .i64 cy) := by { rw [cellB hb5 _ _ (by first | (simp; done) | (simp; omega) | omega)]; all_goals (first | assumption | go_simp) }; have c2 : w5.cell? ⟨w.heap.size + 1 + 1, 2, none⟩ = some (.int .i64 cz) := by { rw [cellB hb5 _ _ (by first | (simp; done) | (simp; omega) | omega)]; all_goals (first | assumption | go_simp) }
    have hz5 := hb5.size
    simp only [World.size_alloc] at hz5
    have HB5 := Lib.hid (show Below w.heap.size w w5 by (repeat' (first | (with_reducible exact Below.refl _ _) | (with_reducible assumption) | (with_reducible refine Below.drewN ?_ _) | (with_reducible refine Below.alloc ?_ ?_ _) | (with_reducible refine Below.drew ?_) | (with_reducible refine Below.setCell ?_ ?_ _) | (with_reducible refine Below.step (by assumption) ?_ ?_) | (with_reducible exact And.left (by assumption)) | go_size)))
    have l0 : w.heap.size + 1 + 1 < w5.heap.size := by omega
    have l1 : w.heap.size < w5.heap.size := by omega
    clear hb5 HH
    go_wp2_with fail
    generalize hW : World.alloc _ _ = wx
    have hbx : Below w5.heap.size w5 wx := by rw [← hW]; (repeat' (first | (with_reducible exact Below.refl _ _) | (with_reducible assumption) | (with_reducible refine Below.drewN ?_ _) | (with_reducible refine Below.alloc ?_ ?_ _) | (with_reducible refine Below.drew ?_) | (with_reducible refine Below.setCell ?_ ?_ _) | (with_reducible refine Below.step (by assumption) ?_ ?_) | (with_reducible exact And.left (by assumption)) | go_size))
    have h0 : wx.cell? ⟨w5.heap.size, 0, none⟩ = some (.int .i64 fx) := by { rw [← hW]; clear hW; go_simp }
    have h1 : wx.cell? ⟨w5.heap.size, 1, none⟩ = some (.int .i64 fy) := by { rw [← hW]; clear hW; go_simp }
    have h2 : wx.cell? ⟨w5.heap.size, 2, none⟩ = some (.int .i64 fz) := by { rw [← hW]; clear hW; go_simp }
    have h3 : wx.cell? ⟨w5.heap.size, 3, none⟩ = some (.int .i64 st) := by { rw [← hW]; clear hW; go_simp }
    have h4 : wx.cell? ⟨w5.heap.size, 4, none⟩ = some (.int .i64 nx) := by { rw [← hW]; clear hW; go_simp }
    have h5 : wx.cell? ⟨w5.heap.size, 5, none⟩ = some (.int .i64 ny) := by { rw [← hW]; clear hW; go_simp }
    have h6 : wx.cell? ⟨w5.heap.size, 6, none⟩ = some (.int .i64 nz) := by { rw [← hW]; clear hW; go_simp }
    have h7 : wx.cell? ⟨w5.heap.size, 7, none⟩ = some (.int .i64 vl) := by { rw [← hW]; clear hW; go_simp }
    have h8 : wx.cell? ⟨w5.heap.size, 8, none⟩ = some (.int .i64 vh) := by { rw [← hW]; clear hW; go_simp }
    have h9 : wx.cell? ⟨w5.heap.size, 9, none⟩ = some (.slice a n cap) := by { rw [← hW]; clear hW; go_simp }
    have l6 : w5.heap.size < wx.heap.size := by { rw [← hW]; clear hW; simp }
    have eq0 : wx.cell? ⟨w.heap.size, 0, none⟩ = some (.int .i64 fx) := by { rw [cellB hbx _ _ (by first | (simp; done) | (simp; omega) | omega)]; all_goals (first | assumption | go_simp) }; have eq1 : wx.cell? ⟨w.heap.size, 1, none⟩ = some (.int .i64 fy) := by { rw [cellB hbx _ _ (by first | (simp; done) | (simp; omega) | omega)]; all_goals (first | assumption | go_simp) }; have eq2 : wx.cell? ⟨w.heap.size, 2, none⟩ = some (.int .i64 fz) := by { rw [cellB hbx _ _ (by first | (simp; done) | (simp; omega) | omega)]; all_goals (first | assumption | go_simp) }; have eq3 : wx.cell? ⟨w.heap.size, 3, none⟩ = some (.int .i64 st) := by { rw [cellB hbx _ _ (by first | (simp; done) | (simp; omega) | omega)]; all_goals (first | assumption | go_simp) }; have eq4 : wx.cell? ⟨w.heap.size, 4, none⟩ = some (.int .i64 nx) := by { rw [cellB hbx _ _ (by first | (simp; done) | (simp; omega) | omega)]; all_goals (first | assumption | go_simp) }; have eq5 : wx.cell? ⟨w.heap.size, 5, none⟩ = some (.int .i64 ny) := by { rw [cellB hbx _ _ (by first | (simp; done) | (simp; omega) | omega)]; all_goals (first | assumption | go_simp) }; have eq6 : wx.cell? ⟨w.heap.size, 6, none⟩ = some (.int .i64 nz) := by { rw [cellB hbx _ _ (by first | (simp; done) | (simp; omega) | omega)]; all_goals (first | assumption | go_simp) }; have ec0 : wx.cell? ⟨w.heap.size + 1 + 1, 0, none⟩ = some (.int .i64 cx) := by { rw [cellB hbx _ _ (by first | (simp; done) | (simp; omega) | omega)]; all_goals (first | assumption | go_simp) }; have ec1 : wx.cell? ⟨w.heap.size + 1 + 1, 1, none⟩ = some (.int .i64 cy) := by { rw [cellB hbx _ _ (by first | (simp; done) | (simp; omega) | omega)]; all_goals (first | assumption | go_simp) }; have ec2 : wx.cell? ⟨w.heap.size + 1 + 1, 2, none⟩ = some (.int .i64 cz) := by { rw [cellB hbx _ _ (by first | (simp; done) | (simp; omega) | omega)]; all_goals (first | assumption | go_simp) }
    have l0 : w.heap.size + 1 + 1 < wx.heap.size := by omega
    have l1 : w.heap.size < wx.heap.size := by omega
    have HB5 := Lib.hid (HB5.out.trans (hbx.mono HB5.out.size))
    clear hW hbx q0 q1 q2 q3 q4 q5 q6 c0 c1 c2
    go_wp2
    go_ret2
    exact ⟨rfl, HB5.out⟩
end Go.Proofs.YtdklmcicogmeaaaGreat
