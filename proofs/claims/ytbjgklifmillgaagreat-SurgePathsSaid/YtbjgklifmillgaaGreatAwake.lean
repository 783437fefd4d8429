import Derived.Test.YtbjgklifmillgaaGreatFracsEq
import Derived.Test.YtbjgklifmillgaaGreatMSch
import Derived.Test.YtbjgklifmillgaaGreatStep1
/- The examples of the chapter hold. -/
namespace Go.Proofs.YtbjgklifmillgaaGreat
open Go.RowKit
set_option linter.unusedVariables false

theorem sl_alloc {w0 w : World} {cs : List Value} {t B n sz : Nat} (hB : B = w0.heap.size) (hb : Below (B + 1) (w0.alloc (.cells cs.toArray t)) w) (hl : cs.length = n * sz) (hn : n ≤ 1000) : SlR w (some ⟨B, 0, none⟩) n sz cs :=
  (SlR.lit w0 (w0.alloc (.cells cs.toArray t)) cs t B n sz rfl hB hl hn).below (by rw [World.size_alloc, ← hB]; exact hb)
set_option maxRecDepth 100000 in
theorem ladder_any (w : World) : Calls Tryz.prog 26 #[] w fun e' w' => ∃ g1 g2 g3, e' = .returned (.agg #[.slice (some ⟨g1, 0, none⟩) 2 2, .slice (some ⟨g2, 0, none⟩) 2 2, .slice (some ⟨g3, 0, none⟩) 2 2, .bool true]) ∧ Below w.heap.size w w' ∧
    IntsR w' (some ⟨g1, 0, none⟩) 2 [2, 2] ∧ IntsR w' (some ⟨g2, 0, none⟩) 2 [1, 0] ∧ IntsR w' (some ⟨g3, 0, none⟩) 2 [1, 3] := by
  go_enter Tryz.func26, Tryz.ntmps26
  go_wp2
  refine bodyPost_ret (v := .agg #[.slice (some ⟨w.heap.size + 1, 0, none⟩) 2 2, .slice (some ⟨w.heap.size + 1 + 1, 0, none⟩) 2 2, .slice (some ⟨w.heap.size + 1 + 1 + 1, 0, none⟩) 2 2, .bool true]) (by simp [results, Tryz.results26, go_sem]) rfl ⟨_, _, _, rfl, ?_, ?_, ?_, ?_⟩
  · (repeat' (first | (with_reducible exact Below.refl _ _) | (with_reducible assumption) | (with_reducible refine Below.drewN ?_ _) | (with_reducible refine Below.alloc ?_ ?_ _) | (with_reducible refine Below.drew ?_) | (with_reducible refine Below.setCell ?_ ?_ _) | (with_reducible refine Below.step (by assumption) ?_ ?_) | (with_reducible exact And.left (by assumption)) | go_size))
  · exact sl_alloc (w0 := w.alloc _) (t := 3) (cs := [.int .i64 2, .int .i64 2]) (by simp) (by (repeat' (first | (with_reducible exact Below.refl _ _) | (with_reducible assumption) | (with_reducible refine Below.drewN ?_ _) | (with_reducible refine Below.alloc ?_ ?_ _) | (with_reducible refine Below.drew ?_) | (with_reducible refine Below.setCell ?_ ?_ _) | (with_reducible refine Below.step (by assumption) ?_ ?_) | (with_reducible exact And.left (by assumption)) | go_size))) rfl (by omega)
  · exact sl_alloc (w0 := (w.alloc _).alloc _) (t := 3) (cs := [.int .i64 1, .int .i64 0]) (by simp) (by (repeat' (first | (with_reducible exact Below.refl _ _) | (with_reducible assumption) | (with_reducible refine Below.drewN ?_ _) | (with_reducible refine Below.alloc ?_ ?_ _) | (with_reducible refine Below.drew ?_) | (with_reducible refine Below.setCell ?_ ?_ _) | (with_reducible refine Below.step (by assumption) ?_ ?_) | (with_reducible exact And.left (by assumption)) | go_size))) rfl (by omega)
  · exact sl_alloc (w0 := ((w.alloc _).alloc _).alloc _) (t := 3) (cs := [.int .i64 1, .int .i64 3]) (by simp) (by (repeat' (first | (with_reducible exact Below.refl _ _) | (with_reducible assumption) | (with_reducible refine Below.drewN ?_ _) | (with_reducible refine Below.alloc ?_ ?_ _) | (with_reducible refine Below.drew ?_) | (with_reducible refine Below.setCell ?_ ?_ _) | (with_reducible refine Below.step (by assumption) ?_ ?_) | (with_reducible exact And.left (by assumption)) | go_size))) rfl (by omega)
set_option maxRecDepth 100000 in
theorem ranges_any (w : World) : Calls Tryz.prog 28 #[] w fun e' w' => ∃ g1 g2, e' = .returned (.agg #[.slice (some ⟨g1, 0, none⟩) 2 2, .slice (some ⟨g2, 0, none⟩) 2 2, .bool true]) ∧ Below w.heap.size w w' ∧
    PairsR w' (some ⟨g1, 0, none⟩) 2 [(1, 2), (2, 2)] ∧ PairsR w' (some ⟨g2, 0, none⟩) 2 [(0, 1), (0, 0)] := by
  go_enter Tryz.func28, Tryz.ntmps28
  go_wp2
  refine bodyPost_ret (v := .agg #[.slice (some ⟨w.heap.size + 1, 0, none⟩) 2 2, .slice (some ⟨w.heap.size + 1 + 1, 0, none⟩) 2 2, .bool true]) (by simp [results, Tryz.results28, go_sem]) rfl ⟨_, _, rfl, ?_, ?_, ?_⟩
  · (repeat' (first | (with_reducible exact Below.refl _ _) | (with_reducible assumption) | (with_reducible refine Below.drewN ?_ _) | (with_reducible refine Below.alloc ?_ ?_ _) | (with_reducible refine Below.drew ?_) | (with_reducible refine Below.setCell ?_ ?_ _) | (with_reducible refine Below.step (by assumption) ?_ ?_) | (with_reducible exact And.left (by assumption)) | go_size))
  · exact sl_alloc (w0 := w.alloc _) (t := 135) (cs := [.int .i64 1, .int .i64 2, .int .i64 2, .int .i64 2]) (by simp) (by (repeat' (first | (with_reducible exact Below.refl _ _) | (with_reducible assumption) | (with_reducible refine Below.drewN ?_ _) | (with_reducible refine Below.alloc ?_ ?_ _) | (with_reducible refine Below.drew ?_) | (with_reducible refine Below.setCell ?_ ?_ _) | (with_reducible refine Below.step (by assumption) ?_ ?_) | (with_reducible exact And.left (by assumption)) | go_size))) rfl (by omega)
  · exact sl_alloc (w0 := (w.alloc _).alloc _) (t := 135) (cs := [.int .i64 0, .int .i64 1, .int .i64 0, .int .i64 0]) (by simp) (by (repeat' (first | (with_reducible exact Below.refl _ _) | (with_reducible assumption) | (with_reducible refine Below.drewN ?_ _) | (with_reducible refine Below.alloc ?_ ?_ _) | (with_reducible refine Below.drew ?_) | (with_reducible refine Below.setCell ?_ ?_ _) | (with_reducible refine Below.step (by assumption) ?_ ?_) | (with_reducible exact And.left (by assumption)) | go_size))) rfl (by omega)
theorem whole_any (x : Int) (w : World) : Calls Tryz.prog 32 #[.int .i64 x] w fun e' w' => e' = .returned (.agg #[.int .i64 x, .int .i64 1]) ∧ Below w.heap.size w w' := by
  go_enter Tryz.func32, Tryz.ntmps32
  go_wp2
  refine bodyPost_ret (v := .agg #[.int .i64 x, .int .i64 1]) (by simp [results, Tryz.results32, go_sem]) rfl ⟨rfl, ?_⟩
  (repeat' (first | (with_reducible exact Below.refl _ _) | (with_reducible assumption) | (with_reducible refine Below.drewN ?_ _) | (with_reducible refine Below.alloc ?_ ?_ _) | (with_reducible refine Below.drew ?_) | (with_reducible refine Below.setCell ?_ ?_ _) | (with_reducible refine Below.step (by assumption) ?_ ?_) | (with_reducible exact And.left (by assumption)) | go_size))
theorem ex_init : initOf [2, 2] [1, 0] 2 1 = [(1, 1), (2, 5), (0, 1)] := by decide +kernel
theorem ex_lad : ladErr [2, 2] [1, 0] [1, 3] = 0 := by decide +kernel
theorem ex_rng : rngErr [(1, 2), (2, 2)] [(0, 1), (0, 0)] = 0 := by decide +kernel
theorem ex_gap1 : gapFr [(1, 2), (2, 2)] [(0, 1), (0, 0)] 2 1 0 false = (1, 2) := by decide +kernel
theorem ex_gap2 : gapFr [(1, 2), (2, 2)] [(0, 1), (0, 0)] 2 1 0 true = (3, 4) := by decide +kernel
theorem ex_st : stErr [1, 3] [8, 0] [0, 0] = 0 := by decide +kernel
theorem ex_F : outF [1, 3] [8, 0] [0, 0] 0 = [0, 4] := by decide +kernel
theorem ex_B : outB [1, 3] [8, 0] [0, 0] true = [-4, 0] := by decide +kernel
theorem ex_V : outV [1, 3] [8, 0] [0, 0] 0 true = [0, 4, 0] := by decide +kernel
theorem ex_st2 : stErr [1, 3] [0, 4] [-4, 0] = 0 := by decide +kernel
theorem ex_imp : (impErr [(0, 0), (2, 100), (50, 50)]).2 = 0 := by decide +kernel
theorem ex_val : low (valOf [(0, 0), (2, 100), (50, 50)] 26).1 (valOf [(0, 0), (2, 100), (50, 50)] 26).2 = (75, 1) := by decide +kernel

set_option maxHeartbeats 2000000 in
set_option maxRecDepth 100000 in
theorem awake_any (w : World) : Calls Tryz.prog 6 #[] w fun e' w' => e' = .returned (.bool true) ∧ Below w.heap.size w w' := by
  go_enter Tryz.func6, Tryz.ntmps6
  go_wp2_with fail
  refine (ladder_any _).mono ?_
  rintro e5 w5 ⟨g1, g2, g3, rfl, hb5, hi1, hi2, hi3⟩
  have H1 := Lib.hid (And.intro hi1 (And.intro hi2 hi3))
  have HB5 := Lib.hid hb5
  clear hi1 hi2 hi3 hb5
  go_wp2_with fail
  refine (initialOf_ok [2, 2] [1, 0] [1, 3] _ _ _ 2 2 2 2 2 2 1 true w5 H1.out.1 H1.out.2.1 H1.out.2.2 ex_lad rfl).mono ?_
  rintro e6 w6 ⟨hb6, hp⟩
  rw [ex_init] at hp
  rcases hp with ⟨h, _⟩ | ⟨_, au, cu, rfl, hu⟩
  · exact absurd h (by decide +kernel)
  have HB6 := Lib.hid (HB5.out.trans (hb6.mono HB5.out.size))
  have HU6 := Lib.hid hu
  clear hb6 hu H1 HB5
  go_wp2_with fail
  refine (ranges_any _).mono ?_
  rintro e7 w7 ⟨g4, g5, rfl, hb7, hi1, hi2⟩
  have H1 := Lib.hid (And.intro hi1 hi2)
  have HB7 := Lib.hid (HB6.out.trans (hb7.mono HB6.out.size))
  have HU7 := Lib.hid (HU6.out.below hb7)
  clear hi1 hi2 hb7 HB6 HU6
  have HG := gapSpan_ok _ _ _ _ 2 2 2 2 1 0 true 0 rfl w7 H1.out.1 H1.out.2 ex_rng rfl (by omega)
  rw [ex_gap1, ex_gap2, if_pos (by decide +kernel)] at HG
  have HG' := Lib.hid HG
  clear HG
  go_wp2_with fail
  refine HG'.out.mono ?_
  rintro e8 w8 ⟨rfl, hb8⟩
  have HB8 := Lib.hid (HB7.out.trans (hb8.mono HB7.out.size))
  have HU8 := Lib.hid (HU7.out.below hb8)
  clear hb8 HB7 HU7 HG' H1
  go_wp2_with fail
  have hy : IntsR ((((w8.alloc (Obj.cells #[.int .i64 1, .int .i64 2, .int .i64 3, .int .i64 4] 62)).alloc (Obj.cells #[.int .i64 1, .int .i64 3] 3)).alloc (Obj.cells #[.int .i64 8, .int .i64 0] 3)).alloc (Obj.cells #[.int .i64 0, .int .i64 0] 3)) (some ⟨w8.heap.size + 1, 0, none⟩) 2 [1, 3] := sl_alloc (w0 := w8.alloc _) (t := 3) (cs := [.int .i64 1, .int .i64 3]) (by simp) (by (repeat' (first | (with_reducible exact Below.refl _ _) | (with_reducible assumption) | (with_reducible refine Below.drewN ?_ _) | (with_reducible refine Below.alloc ?_ ?_ _) | (with_reducible refine Below.drew ?_) | (with_reducible refine Below.setCell ?_ ?_ _) | (with_reducible refine Below.step (by assumption) ?_ ?_) | (with_reducible exact And.left (by assumption)) | go_size))) rfl (by omega)
  have hf : IntsR ((((w8.alloc (Obj.cells #[.int .i64 1, .int .i64 2, .int .i64 3, .int .i64 4] 62)).alloc (Obj.cells #[.int .i64 1, .int .i64 3] 3)).alloc (Obj.cells #[.int .i64 8, .int .i64 0] 3)).alloc (Obj.cells #[.int .i64 0, .int .i64 0] 3)) (some ⟨w8.heap.size + 1 + 1, 0, none⟩) 2 [8, 0] := sl_alloc (w0 := (w8.alloc _).alloc _) (t := 3) (cs := [.int .i64 8, .int .i64 0]) (by simp) (by (repeat' (first | (with_reducible exact Below.refl _ _) | (with_reducible assumption) | (with_reducible refine Below.drewN ?_ _) | (with_reducible refine Below.alloc ?_ ?_ _) | (with_reducible refine Below.drew ?_) | (with_reducible refine Below.setCell ?_ ?_ _) | (with_reducible refine Below.step (by assumption) ?_ ?_) | (with_reducible exact And.left (by assumption)) | go_size))) rfl (by omega)
  have hbk : IntsR ((((w8.alloc (Obj.cells #[.int .i64 1, .int .i64 2, .int .i64 3, .int .i64 4] 62)).alloc (Obj.cells #[.int .i64 1, .int .i64 3] 3)).alloc (Obj.cells #[.int .i64 8, .int .i64 0] 3)).alloc (Obj.cells #[.int .i64 0, .int .i64 0] 3)) (some ⟨w8.heap.size + 1 + 1 + 1, 0, none⟩) 2 [0, 0] := sl_alloc (w0 := ((w8.alloc _).alloc _).alloc _) (t := 3) (cs := [.int .i64 0, .int .i64 0]) (by simp) (by (repeat' (first | (with_reducible exact Below.refl _ _) | (with_reducible assumption) | (with_reducible refine Below.drewN ?_ _) | (with_reducible refine Below.alloc ?_ ?_ _) | (with_reducible refine Below.drew ?_) | (with_reducible refine Below.setCell ?_ ?_ _) | (with_reducible refine Below.step (by assumption) ?_ ?_) | (with_reducible exact And.left (by assumption)) | go_size))) rfl (by omega)
  generalize hW : (((w8.alloc (Obj.cells #[.int .i64 1, .int .i64 2, .int .i64 3, .int .i64 4] 62)).alloc (Obj.cells #[.int .i64 1, .int .i64 3] 3)).alloc (Obj.cells #[.int .i64 8, .int .i64 0] 3)).alloc (Obj.cells #[.int .i64 0, .int .i64 0] 3) = w9 at *
  have hb9 : Below w8.heap.size w8 w9 := by rw [← hW]; (repeat' (first | (with_reducible exact Below.refl _ _) | (with_reducible assumption) | (with_reducible refine Below.drewN ?_ _) | (with_reducible refine Below.alloc ?_ ?_ _) | (with_reducible refine Below.drew ?_) | (with_reducible refine Below.setCell ?_ ?_ _) | (with_reducible refine Below.step (by assumption) ?_ ?_) | (with_reducible exact And.left (by assumption)) | go_size))
  have s0 : w9.cell? ⟨w8.heap.size, 0, none⟩ = some (.int .i64 1) := by { rw [← hW]; clear hW; go_simp }
  have s1 : w9.cell? ⟨w8.heap.size, 1, none⟩ = some (.int .i64 2) := by { rw [← hW]; clear hW; go_simp }
  have s2 : w9.cell? ⟨w8.heap.size, 2, none⟩ = some (.int .i64 3) := by { rw [← hW]; clear hW; go_simp }
  have s3 : w9.cell? ⟨w8.heap.size, 3, none⟩ = some (.int .i64 4) := by { rw [← hW]; clear hW; go_simp }
  have l9 : w8.heap.size < w9.heap.size := by { rw [← hW]; simp; omega }
  have HB9 := Lib.hid (HB8.out.trans (hb9.mono HB8.out.size))
  have HU9 := Lib.hid (HU8.out.below hb9)
  have H1 := Lib.hid (And.intro hy (And.intro hf hbk))
  clear hW hb9 HB8 HU8 hy hf hbk
  generalize w8.heap.size = X3 at *
  have hSt := step_main [1, 3] [8, 0] [0, 0] 0 _ _ _ 2 2 2 2 2 2 true w9 H1.out.1 H1.out.2.1 H1.out.2.2 ex_st (by decide +kernel)
  refine hSt.mono ?_
  clear hSt
  rintro e10 w10 ⟨hb10, hp⟩
  rw [ex_F, ex_B, ex_V] at hp
  rcases hp with ⟨h, _⟩ | ⟨_, h1, h2, av, cv, rfl, hF, hBk, hV⟩
  · exact absurd ex_st2 h
  have HS := Lib.hid (And.intro hBk hV)
  have HB10 := Lib.hid (HB9.out.trans (hb10.mono HB9.out.size))
  have HU10 := Lib.hid (HU9.out.below hb10)
  have hz10 := hb10.size
  have t0 : w10.cell? ⟨X3, 0, none⟩ = some (.int .i64 1) := by { rw [cellB hb10 _ _ (by first | (simp; done) | (simp; omega) | omega)]; all_goals (first | assumption | go_simp) }; have t1 : w10.cell? ⟨X3, 1, none⟩ = some (.int .i64 2) := by { rw [cellB hb10 _ _ (by first | (simp; done) | (simp; omega) | omega)]; all_goals (first | assumption | go_simp) }; have t2 : w10.cell? ⟨X3, 2, none⟩ = some (.int .i64 3) := by { rw [cellB hb10 _ _ (by first | (simp; done) | (simp; omega) | omega)]; all_goals (first | assumption | go_simp) }; have t3 : w10.cell? ⟨X3, 3, none⟩ = some (.int .i64 4) := by { rw [cellB hb10 _ _ (by first | (simp; done) | (simp; omega) | omega)]; all_goals (first | assumption | go_simp) }; have l10 : X3 < w10.heap.size := by { omega }
  clear hb10 HB9 HU9 H1 s0 s1 s2 s3 l9 hF hBk hV
  go_wp2_with fail
  have hpt : PairsR ((w10.alloc (Obj.cells #[.slice (some ⟨h1, 0, none⟩) 2 2, .slice (some ⟨h2, 0, none⟩) 2 2] 70)).alloc (Obj.cells #[.int .i64 0, .int .i64 0, .int .i64 2, .int .i64 100, .int .i64 50, .int .i64 50] 78)) (some ⟨w10.heap.size + 1, 0, none⟩) 3 [(0, 0), (2, 100), (50, 50)] := sl_alloc (w0 := w10.alloc _) (t := 78) (cs := [.int .i64 0, .int .i64 0, .int .i64 2, .int .i64 100, .int .i64 50, .int .i64 50]) (by simp) (by (repeat' (first | (with_reducible exact Below.refl _ _) | (with_reducible assumption) | (with_reducible refine Below.drewN ?_ _) | (with_reducible refine Below.alloc ?_ ?_ _) | (with_reducible refine Below.drew ?_) | (with_reducible refine Below.setCell ?_ ?_ _) | (with_reducible refine Below.step (by assumption) ?_ ?_) | (with_reducible exact And.left (by assumption)) | go_size))) rfl (by omega)
  generalize hW : (w10.alloc (Obj.cells #[.slice (some ⟨h1, 0, none⟩) 2 2, .slice (some ⟨h2, 0, none⟩) 2 2] 70)).alloc (Obj.cells #[.int .i64 0, .int .i64 0, .int .i64 2, .int .i64 100, .int .i64 50, .int .i64 50] 78) = w11 at *
  have hb11 : Below w10.heap.size w10 w11 := by rw [← hW]; (repeat' (first | (with_reducible exact Below.refl _ _) | (with_reducible assumption) | (with_reducible refine Below.drewN ?_ _) | (with_reducible refine Below.alloc ?_ ?_ _) | (with_reducible refine Below.drew ?_) | (with_reducible refine Below.setCell ?_ ?_ _) | (with_reducible refine Below.step (by assumption) ?_ ?_) | (with_reducible exact And.left (by assumption)) | go_size))
  have s0 : w11.cell? ⟨w10.heap.size, 0, none⟩ = some (.slice (some ⟨h1, 0, none⟩) 2 2) := by { rw [← hW]; clear hW; go_simp }
  have s1 : w11.cell? ⟨w10.heap.size, 1, none⟩ = some (.slice (some ⟨h2, 0, none⟩) 2 2) := by { rw [← hW]; clear hW; go_simp }
  have l11 : w10.heap.size < w11.heap.size := by { rw [← hW]; simp; omega }
  have HB11 := Lib.hid (HB10.out.trans (hb11.mono HB10.out.size))
  have HU11 := Lib.hid (HU10.out.below hb11)
  have HS11 := Lib.hid (And.intro (HS.out.1.below hb11) (HS.out.2.below hb11))
  have u0 : w11.cell? ⟨X3, 0, none⟩ = some (.int .i64 1) := by { rw [cellB hb11 _ _ (by first | (simp; done) | (simp; omega) | omega)]; all_goals (first | assumption | go_simp) }; have u1 : w11.cell? ⟨X3, 1, none⟩ = some (.int .i64 2) := by { rw [cellB hb11 _ _ (by first | (simp; done) | (simp; omega) | omega)]; all_goals (first | assumption | go_simp) }; have u2 : w11.cell? ⟨X3, 2, none⟩ = some (.int .i64 3) := by { rw [cellB hb11 _ _ (by first | (simp; done) | (simp; omega) | omega)]; all_goals (first | assumption | go_simp) }; have u3 : w11.cell? ⟨X3, 3, none⟩ = some (.int .i64 4) := by { rw [cellB hb11 _ _ (by first | (simp; done) | (simp; omega) | omega)]; all_goals (first | assumption | go_simp) }
  have lx : X3 < w11.heap.size := by omega
  have hne : X3 < w10.heap.size := l10
  have H1 := Lib.hid hpt
  clear hW hb11 HB10 HU10 HS t0 t1 t2 t3 l10 hz10 hpt
  generalize w10.heap.size = X5 at *
  have hv := valueAt_ok [(0, 0), (2, 100), (50, 50)] 26 _ 3 3 w11 H1.out ex_imp (by decide +kernel)
  rw [ex_val, if_pos (by decide +kernel)] at hv
  refine hv.mono ?_
  clear hv
  rintro e12 w12 ⟨rfl, hb12⟩
  have HB12 := Lib.hid (HB11.out.trans (hb12.mono HB11.out.size))
  have HU12 := Lib.hid (HU11.out.below hb12)
  have HS12 := Lib.hid (And.intro (HS11.out.1.below hb12) (HS11.out.2.below hb12))
  have hz12 := hb12.size
  have t0 : w12.cell? ⟨X3, 0, none⟩ = some (.int .i64 1) := by { rw [cellB hb12 _ _ (by first | (simp; done) | (simp; omega) | omega)]; all_goals (first | assumption | go_simp) }; have t1 : w12.cell? ⟨X3, 1, none⟩ = some (.int .i64 2) := by { rw [cellB hb12 _ _ (by first | (simp; done) | (simp; omega) | omega)]; all_goals (first | assumption | go_simp) }; have t2 : w12.cell? ⟨X3, 2, none⟩ = some (.int .i64 3) := by { rw [cellB hb12 _ _ (by first | (simp; done) | (simp; omega) | omega)]; all_goals (first | assumption | go_simp) }; have t3 : w12.cell? ⟨X3, 3, none⟩ = some (.int .i64 4) := by { rw [cellB hb12 _ _ (by first | (simp; done) | (simp; omega) | omega)]; all_goals (first | assumption | go_simp) }; have r0 : w12.cell? ⟨X5, 0, none⟩ = some (.slice (some ⟨h1, 0, none⟩) 2 2) := by { rw [cellB hb12 _ _ (by first | (simp; done) | (simp; omega) | omega)]; all_goals (first | assumption | go_simp) }; have r1 : w12.cell? ⟨X5, 1, none⟩ = some (.slice (some ⟨h2, 0, none⟩) 2 2) := by { rw [cellB hb12 _ _ (by first | (simp; done) | (simp; omega) | omega)]; all_goals (first | assumption | go_simp) }
  have lx12 : X3 < w12.heap.size := by omega
  have ly12 : X5 < w12.heap.size := by omega
  clear hb12 HB11 HU11 HS11 u0 u1 u2 u3 s0 s1 l11 lx H1
  go_wp2_with fail
  generalize hW : w12.alloc (Obj.cells #[.int .i64 75, .int .i64 1] 28) = w0 at *
  have hb0 : Below w12.heap.size w12 w0 := by rw [← hW]; (repeat' (first | (with_reducible exact Below.refl _ _) | (with_reducible assumption) | (with_reducible refine Below.drewN ?_ _) | (with_reducible refine Below.alloc ?_ ?_ _) | (with_reducible refine Below.drew ?_) | (with_reducible refine Below.setCell ?_ ?_ _) | (with_reducible refine Below.step (by assumption) ?_ ?_) | (with_reducible exact And.left (by assumption)) | go_size))
  have v0 : w0.cell? ⟨w12.heap.size, 0, none⟩ = some (.int .i64 75) := by { rw [← hW]; clear hW; go_simp }
  have v1 : w0.cell? ⟨w12.heap.size, 1, none⟩ = some (.int .i64 1) := by { rw [← hW]; clear hW; go_simp }
  have l8 : w12.heap.size < w0.heap.size := by { rw [← hW]; simp }
  have u0 : w0.cell? ⟨X3, 0, none⟩ = some (.int .i64 1) := by { rw [cellB hb0 _ _ (by first | (simp; done) | (simp; omega) | omega)]; all_goals (first | assumption | go_simp) }; have u1 : w0.cell? ⟨X3, 1, none⟩ = some (.int .i64 2) := by { rw [cellB hb0 _ _ (by first | (simp; done) | (simp; omega) | omega)]; all_goals (first | assumption | go_simp) }; have u2 : w0.cell? ⟨X3, 2, none⟩ = some (.int .i64 3) := by { rw [cellB hb0 _ _ (by first | (simp; done) | (simp; omega) | omega)]; all_goals (first | assumption | go_simp) }; have u3 : w0.cell? ⟨X3, 3, none⟩ = some (.int .i64 4) := by { rw [cellB hb0 _ _ (by first | (simp; done) | (simp; omega) | omega)]; all_goals (first | assumption | go_simp) }; have s0 : w0.cell? ⟨X5, 0, none⟩ = some (.slice (some ⟨h1, 0, none⟩) 2 2) := by { rw [cellB hb0 _ _ (by first | (simp; done) | (simp; omega) | omega)]; all_goals (first | assumption | go_simp) }; have s1 : w0.cell? ⟨X5, 1, none⟩ = some (.slice (some ⟨h2, 0, none⟩) 2 2) := by { rw [cellB hb0 _ _ (by first | (simp; done) | (simp; omega) | omega)]; all_goals (first | assumption | go_simp) }
  have HB0 := Lib.hid (HB12.out.trans (hb0.mono HB12.out.size))
  have HU0 := Lib.hid (HU12.out.below hb0)
  have HS0 := Lib.hid (And.intro (HS12.out.1.below hb0) (HS12.out.2.below hb0))
  have l3 : X3 < w0.heap.size := by omega
  have l5 : X5 < w0.heap.size := by omega
  clear hW hb0 HB12 HU12 HS12 t0 t1 t2 t3 r0 r1 hz12 lx12 ly12
  generalize w12.heap.size = X8 at *
  refine wp_region_laterM (B := w0.heap.size) [(true, 0), (true, 1), (true, 2), (true, 3), (true, 5), (false, 4), (false, 6), (false, 7), (false, 8), (true, 9), (true, 10), (true, 11), (true, 12), (true, 13), (true, 14), (true, 15), (true, 16), (true, 17), (true, 18), (false, 19), (true, 20), (true, 21), (true, 22), (true, 23), (true, 24), (true, 25), (true, 26), (true, 27), (false, 28), (false, 29), (true, 30), (true, 31), (true, 32), (false, 33), (false, 34), (true, 35), (true, 36), (true, 37), (true, 38), (true, 39), (true, 40), (true, 41), (false, 42), (false, 43), (true, 44), (true, 45)] (by kernel_rfl) (by kernel_rfl) ?_; simp only [opsOf, List.filterMap_cons, List.filterMap_nil, List.getElem?_toArray, List.getElem?_cons_zero, List.getElem?_cons_succ, Option.map_some]
  repeat (refine mix_head ?_; (show wpQuiet _ _ _ _ (_ :: _) _; go_big_quiet_step (fail)); refine wpQuiet_nil ?_)
  refine mix_tail ?_; go_wp2_with fail
  refine (whole_any 1 _).mono ?_
  rintro e13 w13 ⟨rfl, hb13⟩
  have HB13 := Lib.hid ((Below.refl w0.heap.size w0).drew.trans hb13)
  clear hb13
  go_wp2_with fail
  refine tailL_mk HB13.out ?_
  refine mix_tail ?_; go_wp2_with fail
  refine (whole_any 0 _).mono ?_
  rintro e14 w14 ⟨rfl, hb14⟩
  have HB14 := Lib.hid (HB13.out.trans (hb14.mono HB13.out.size))
  clear hb14 HB13
  go_wp2_with fail
  refine tailL_mk HB14.out ?_
  refine mix_tail ?_; go_wp2_with fail
  have HB15 := Lib.hid (show Below w0.heap.size w0 (w14.alloc (Obj.cells #[.int .i64 1, .int .i64 1, .int .i64 2, .int .i64 5, .int .i64 0, .int .i64 1] 28)) from Below.alloc HB14.out HB14.out.size _)
  refine tailL_mk HB15.out ?_
  have hlit : PairsR (w14.alloc (Obj.cells #[.int .i64 1, .int .i64 1, .int .i64 2, .int .i64 5, .int .i64 0, .int .i64 1] 28)) (some ⟨w14.heap.size, 0, none⟩) 3 [(1, 1), (2, 5), (0, 1)] := sl_alloc (w0 := w14) (t := 28) (cs := [.int .i64 1, .int .i64 1, .int .i64 2, .int .i64 5, .int .i64 0, .int .i64 1]) rfl (Below.refl _ _) rfl (by omega)
  have hfr := fracs_any _ _ _ _ _ cu _ 3 _ (HU0.out.below HB15.out) hlit
  rw [show decide (([(1, 1), (2, 5), (0, 1)] : List (Int × Int)) = [(1, 1), (2, 5), (0, 1)]) = true by decide +kernel] at hfr
  have HFR := Lib.hid hfr
  clear hfr hlit
  refine mix_tail ?_; go_wp2_with fail
  refine HFR.out.mono ?_
  rintro e16 w16 ⟨rfl, m16, rfl⟩
  clear HFR
  have HB16 := Lib.hid (HB15.out.drewN m16)
  go_wp2_with fail
  refine tailL_mk HB16.out ?_
  generalize (w14.alloc (Obj.cells #[.int .i64 1, .int .i64 1, .int .i64 2, .int .i64 5, .int .i64 0, .int .i64 1] 28)).drewN m16 = w17 at *
  clear HB15 HB14
  repeat (refine mix_head ?_; (show wpQuiet _ _ _ _ (_ :: _) _; go_big_quiet_step (fail)); refine wpQuiet_nil ?_)
  refine mix_tail ?_; go_wp2_with fail
  refine tailL_mk HB16.out ?_
  repeat (refine mix_head ?_; (show wpQuiet _ _ _ _ (_ :: _) _; go_big_quiet_step (fail)); refine wpQuiet_nil ?_)
  refine mix_tail ?_; go_wp2_with fail
  have HB18 := Lib.hid (show Below w0.heap.size w0 (w17.alloc (Obj.cells #[.int .i64 (-4), .int .i64 0] 3)) from Below.alloc HB16.out HB16.out.size _)
  refine tailL_mk HB18.out ?_
  have hl : IntsR (w17.alloc (Obj.cells #[.int .i64 (-4), .int .i64 0] 3)) (some ⟨w17.heap.size, 0, none⟩) 2 [-4, 0] := sl_alloc (w0 := w17) (t := 3) (cs := [.int .i64 (-4), .int .i64 0]) rfl (Below.refl _ _) rfl (by omega)
  have hin := ints_any [-4, 0] [-4, 0] _ _ 2 2 2 2 _ (HS0.out.1.below HB18.out) hl
  rw [show decide (([-4, 0] : List Int) = [-4, 0]) = true by decide +kernel] at hin
  have HIN := Lib.hid hin
  clear hin hl
  refine mix_tail ?_; go_wp2_with fail
  refine HIN.out.mono ?_
  rintro e19 w19 ⟨rfl, m19, rfl⟩
  clear HIN
  have HB19 := Lib.hid (HB18.out.drewN m19)
  go_wp2_with fail
  refine tailL_mk HB19.out ?_
  generalize (w17.alloc (Obj.cells #[.int .i64 (-4), .int .i64 0] 3)).drewN m19 = w20 at *
  clear HB18 HB16
  repeat (refine mix_head ?_; (show wpQuiet _ _ _ _ (_ :: _) _; go_big_quiet_step (fail)); refine wpQuiet_nil ?_)
  refine mix_tail ?_; go_wp2_with fail
  have HB21 := Lib.hid (show Below w0.heap.size w0 (w20.alloc (Obj.cells #[.int .i64 0, .int .i64 4, .int .i64 0] 3)) from Below.alloc HB19.out HB19.out.size _)
  refine tailL_mk HB21.out ?_
  have hl : IntsR (w20.alloc (Obj.cells #[.int .i64 0, .int .i64 4, .int .i64 0] 3)) (some ⟨w20.heap.size, 0, none⟩) 3 [0, 4, 0] := sl_alloc (w0 := w20) (t := 3) (cs := [.int .i64 0, .int .i64 4, .int .i64 0]) rfl (Below.refl _ _) rfl (by omega)
  have hin := ints_any [0, 4, 0] [0, 4, 0] _ _ 3 cv 3 3 _ (HS0.out.2.below HB21.out) hl
  rw [show decide (([0, 4, 0] : List Int) = [0, 4, 0]) = true by decide +kernel] at hin
  have HIN := Lib.hid hin
  clear hin hl
  refine mix_tail ?_; go_wp2_with fail
  refine HIN.out.mono ?_
  rintro e22 w22 ⟨rfl, m22, rfl⟩
  clear HIN
  have HB22 := Lib.hid (HB21.out.drewN m22)
  go_wp2_with fail
  refine tailL_mk HB22.out ?_
  generalize (w20.alloc (Obj.cells #[.int .i64 0, .int .i64 4, .int .i64 0] 3)).drewN m22 = w23 at *
  clear HB21 HB19
  repeat (refine mix_head ?_; (show wpQuiet _ _ _ _ (_ :: _) _; go_big_quiet_step (fail)); refine wpQuiet_nil ?_)
  refine mix_tail ?_; go_wp2_with fail
  refine (whole_any 75 _).mono ?_
  rintro e24 w24 ⟨rfl, hb24⟩
  have HB24 := Lib.hid (HB22.out.trans (hb24.mono HB22.out.size))
  clear hb24 HB22
  go_wp2_with fail
  refine tailL_mk HB24.out ?_
  refine mix_tail ?_; go_wp2_with fail
  refine tailL_mk HB24.out ?_
  repeat (refine mix_head ?_; (show wpQuiet _ _ _ _ (_ :: _) _; go_big_quiet_step (fail)); refine wpQuiet_nil ?_)
  refine mix_nil ?_
  go_wp2
  go_ret
  exact ⟨rfl, HB0.out.trans (HB24.out.mono HB0.out.size)⟩
end Go.Proofs.YtbjgklifmillgaaGreat
