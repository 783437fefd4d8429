import Derived.Test.YtdklmcicogmeaaaGreatMDAnsP
import Derived.Test.YtdklmcicogmeaaaGreatMDDist
import Derived.Test.YtdklmcicogmeaaaGreatMDSubs
/- The reference of grids: places, grids, cells, roots. -/
namespace Go.Proofs.YtdklmcicogmeaaaGreat
open Go.RowKit
set_option linter.unusedVariables false

theorem plc_and (p : T3) : plc p = (wi p.x (-10000) 10000 && wi p.y (-10000) 10000 && wi p.z (-10000) 10000) := by simp [plc, Bool.and_assoc]
theorem cnt_and (p : T3) : cnt p = (wi p.x 1 6 && wi p.y 1 6 && wi p.z 1 6) := by simp [cnt, Bool.and_assoc]
set_option maxRecDepth 100000 in
theorem rIsPlace_any (p : T3) (w : World) : Calls Tryz.prog 58 #[.agg #[.int .i64 p.x, .int .i64 p.y, .int .i64 p.z]] w fun e' w' => e' = .returned (.bool (plc p)) ∧ Below w.heap.size w w' := by
  rw [plc_and]
  obtain ⟨x, y, z⟩ := p
  simp only
  have HP := Lib.hid (fun w' => bwithin_any x (-10000) 10000 w')
  have HQ := Lib.hid (fun w' => bwithin_any y (-10000) 10000 w')
  have HR := Lib.hid (fun w' => bwithin_any z (-10000) 10000 w')
  generalize wi x (-10000) 10000 = x1 at *
  generalize wi y (-10000) 10000 = x2 at *
  generalize wi z (-10000) 10000 = x3 at *
  go_enter Tryz.func58, Tryz.ntmps58
  go_wp2
  go_loop [3] (fun i => i = .int .i64 0 ∨ (i = .int .i64 1 ∧ x1 = true) ∨ (i = .int .i64 2 ∧ x1 = true ∧ x2 = true) ∨ (i = .int .i64 3 ∧ x1 = true ∧ x2 = true ∧ x3 = true)) (fun i => 3 - (intOf i).toNat)
  case atStart => exact .inl rfl
  case round =>
    rcases hrel with rfl | ⟨rfl, rfl⟩ | ⟨rfl, rfl, rfl⟩ | ⟨rfl, rfl, rfl, rfl⟩
    · go_wp2_with fail
      refine (HP.out _).mono ?_
      rintro e w' ⟨rfl, rfl⟩
      cases x1
      · go_wp2
        go_ret
        exact ⟨ret_bool (by simp), by (repeat' (first | (with_reducible exact Below.refl _ _) | (with_reducible assumption) | (with_reducible refine Below.drewN ?_ _) | (with_reducible refine Below.alloc ?_ ?_ _) | (with_reducible refine Below.drew ?_) | (with_reducible refine Below.setCell ?_ ?_ _) | (with_reducible refine Below.step (by assumption) ?_ ?_) | (with_reducible exact And.left (by assumption)) | go_size))⟩
      · go_wp2
        go_round
        case rel => simp
        case measure => simp [intOf]
    · go_wp2_with fail
      refine (HQ.out _).mono ?_
      rintro e w' ⟨rfl, rfl⟩
      cases x2
      · go_wp2
        go_ret
        exact ⟨ret_bool (by simp), by (repeat' (first | (with_reducible exact Below.refl _ _) | (with_reducible assumption) | (with_reducible refine Below.drewN ?_ _) | (with_reducible refine Below.alloc ?_ ?_ _) | (with_reducible refine Below.drew ?_) | (with_reducible refine Below.setCell ?_ ?_ _) | (with_reducible refine Below.step (by assumption) ?_ ?_) | (with_reducible exact And.left (by assumption)) | go_size))⟩
      · go_wp2
        go_round
        case rel => simp
        case measure => simp [intOf]
    · go_wp2_with fail
      refine (HR.out _).mono ?_
      rintro e w' ⟨rfl, rfl⟩
      cases x3
      · go_wp2
        go_ret
        exact ⟨ret_bool (by simp), by (repeat' (first | (with_reducible exact Below.refl _ _) | (with_reducible assumption) | (with_reducible refine Below.drewN ?_ _) | (with_reducible refine Below.alloc ?_ ?_ _) | (with_reducible refine Below.drew ?_) | (with_reducible refine Below.setCell ?_ ?_ _) | (with_reducible refine Below.step (by assumption) ?_ ?_) | (with_reducible exact And.left (by assumption)) | go_size))⟩
      · go_wp2
        go_round
        case rel => simp
        case measure => simp [intOf]
    · go_wp2
      go_ret
      exact ⟨ret_bool (by simp), by (repeat' (first | (with_reducible exact Below.refl _ _) | (with_reducible assumption) | (with_reducible refine Below.drewN ?_ _) | (with_reducible refine Below.alloc ?_ ?_ _) | (with_reducible refine Below.drew ?_) | (with_reducible refine Below.setCell ?_ ?_ _) | (with_reducible refine Below.step (by assumption) ?_ ?_) | (with_reducible exact And.left (by assumption)) | go_size))⟩
set_option maxRecDepth 100000 in
theorem rGridErr_any (g : Gri) (w : World) : Calls Tryz.prog 8 #[.agg #[.int .i64 g.f.x, .int .i64 g.f.y, .int .i64 g.f.z, .int .i64 g.st, .int .i64 g.c.x, .int .i64 g.c.y, .int .i64 g.c.z]] w fun e' w' => e' = .returned (.int .i64 (griE g)) ∧ Below w.heap.size w w' := by
  have HP := Lib.hid (fun w' => rIsPlace_any g.f w')
  have HS := Lib.hid (fun w' => bwithin_any g.st 1 1000 w')
  unfold griE
  rw [cnt_and]
  obtain ⟨⟨x, y, z⟩, st, ⟨a, b, d⟩⟩ := g
  simp only at HP HS ⊢
  have HA := Lib.hid (fun w' => bwithin_any a 1 6 w')
  have HB := Lib.hid (fun w' => bwithin_any b 1 6 w')
  have HD := Lib.hid (fun w' => bwithin_any d 1 6 w')
  generalize plc ⟨x, y, z⟩ = xp at *
  generalize wi st 1 1000 = xs at *
  generalize wi a 1 6 = x1 at *
  generalize wi b 1 6 = x2 at *
  generalize wi d 1 6 = x3 at *
  go_enter Tryz.func8, Tryz.ntmps8
  go_wp2_with fail
  refine (HP.out _).mono ?_
  rintro e5 w5 ⟨rfl, hb5⟩
  have q3 : w5.cell? ⟨w.heap.size, 3, none⟩ = some (.int .i64 st) := by { rw [cellB hb5 _ _ (by first | (simp; done) | (simp; omega) | omega)]; all_goals (first | assumption | go_simp) }; have q4 : w5.cell? ⟨w.heap.size, 4, none⟩ = some (.int .i64 a) := by { rw [cellB hb5 _ _ (by first | (simp; done) | (simp; omega) | omega)]; all_goals (first | assumption | go_simp) }; have q5 : w5.cell? ⟨w.heap.size, 5, none⟩ = some (.int .i64 b) := by { rw [cellB hb5 _ _ (by first | (simp; done) | (simp; omega) | omega)]; all_goals (first | assumption | go_simp) }; have q6 : w5.cell? ⟨w.heap.size, 6, none⟩ = some (.int .i64 d) := by { rw [cellB hb5 _ _ (by first | (simp; done) | (simp; omega) | omega)]; all_goals (first | assumption | go_simp) }
  have hz5 := hb5.size
  simp only [World.size_alloc] at hz5
  have l5 : w.heap.size < w5.heap.size := by omega
  have HB5 := Lib.hid (show Below w.heap.size w w5 by (repeat' (first | (with_reducible exact Below.refl _ _) | (with_reducible assumption) | (with_reducible refine Below.drewN ?_ _) | (with_reducible refine Below.alloc ?_ ?_ _) | (with_reducible refine Below.drew ?_) | (with_reducible refine Below.setCell ?_ ?_ _) | (with_reducible refine Below.step (by assumption) ?_ ?_) | (with_reducible exact And.left (by assumption)) | go_size)))
  clear hb5
  cases xp
  · go_wp2
    go_ret
    exact ⟨ret_int (by simp [unl]), HB5.out⟩
  · go_wp2_with fail
    refine (HS.out _).mono ?_
    rintro e6 w6 ⟨rfl, rfl⟩
    cases xs
    · go_wp2
      go_ret
      exact ⟨ret_int (by simp [unl]), HB5.out⟩
    · go_wp2_with fail
      go_loop [3] (fun i => i = .int .i64 0 ∨ (i = .int .i64 1 ∧ x1 = true) ∨ (i = .int .i64 2 ∧ x1 = true ∧ x2 = true) ∨ (i = .int .i64 3 ∧ x1 = true ∧ x2 = true ∧ x3 = true)) (fun i => 3 - (intOf i).toNat)
      case atStart => exact .inl rfl
      case round =>
        rcases hrel with rfl | ⟨rfl, rfl⟩ | ⟨rfl, rfl, rfl⟩ | ⟨rfl, rfl, rfl, rfl⟩
        · go_wp2_with fail
          refine (HA.out _).mono ?_
          rintro e w' ⟨rfl, rfl⟩
          cases x1
          · go_wp2
            go_ret
            exact ⟨ret_int (by simp [unl]), HB5.out⟩
          · go_wp2
            go_round
            case rel => simp
            case measure => simp [intOf]
        · go_wp2_with fail
          refine (HB.out _).mono ?_
          rintro e w' ⟨rfl, rfl⟩
          cases x2
          · go_wp2
            go_ret
            exact ⟨ret_int (by simp [unl]), HB5.out⟩
          · go_wp2
            go_round
            case rel => simp
            case measure => simp [intOf]
        · go_wp2_with fail
          refine (HD.out _).mono ?_
          rintro e w' ⟨rfl, rfl⟩
          cases x3
          · go_wp2
            go_ret
            exact ⟨ret_int (by simp [unl]), HB5.out⟩
          · go_wp2
            go_round
            case rel => simp
            case measure => simp [intOf]
        · go_wp2
          go_ret
          exact ⟨ret_int (by simp [unl]), HB5.out⟩
set_option maxRecDepth 100000 in
theorem rIsCell_any (g : Gri) (c : T3) (w : World) (hg : cnt g.c = true) : Calls Tryz.prog 10 #[.agg #[.int .i64 g.f.x, .int .i64 g.f.y, .int .i64 g.f.z, .int .i64 g.st, .int .i64 g.c.x, .int .i64 g.c.y, .int .i64 g.c.z], .agg #[.int .i64 c.x, .int .i64 c.y, .int .i64 c.z]] w fun e' w' => e' = .returned (.bool (celB g c)) ∧ Below w.heap.size w w' := by
  obtain ⟨⟨h1, h2⟩, ⟨h3, h4⟩, h5, h6⟩ := cnt_iff.1 hg
  obtain ⟨⟨x, y, z⟩, st, ⟨a, b, d⟩⟩ := g
  obtain ⟨p, q, r⟩ := c
  simp only at h1 h2 h3 h4 h5 h6
  unfold celB
  simp only
  have HP := Lib.hid (fun w' => bwithin_any p 0 (a - 1) w')
  have HQ := Lib.hid (fun w' => bwithin_any q 0 (b - 1) w')
  have HR := Lib.hid (fun w' => bwithin_any r 0 (d - 1) w')
  generalize wi p 0 (a - 1) = x1 at *
  generalize wi q 0 (b - 1) = x2 at *
  generalize wi r 0 (d - 1) = x3 at *
  clear hg
  go_enter Tryz.func10, Tryz.ntmps10
  go_wp2
  generalize hW : World.alloc _ _ = w5
  have hb5 : Below w.heap.size w w5 := by rw [← hW]; (repeat' (first | (with_reducible exact Below.refl _ _) | (with_reducible assumption) | (with_reducible refine Below.drewN ?_ _) | (with_reducible refine Below.alloc ?_ ?_ _) | (with_reducible refine Below.drew ?_) | (with_reducible refine Below.setCell ?_ ?_ _) | (with_reducible refine Below.step (by assumption) ?_ ?_) | (with_reducible exact And.left (by assumption)) | go_size))
  have q4 : w5.cell? ⟨w.heap.size, 4, none⟩ = some (.int .i64 a) := by { rw [← hW]; clear hW; go_simp }
  have q5 : w5.cell? ⟨w.heap.size, 5, none⟩ = some (.int .i64 b) := by { rw [← hW]; clear hW; go_simp }
  have q6 : w5.cell? ⟨w.heap.size, 6, none⟩ = some (.int .i64 d) := by { rw [← hW]; clear hW; go_simp }
  have p0 : w5.cell? ⟨w.heap.size + 1, 0, none⟩ = some (.int .i64 p) := by { rw [← hW]; clear hW; go_simp }
  have p1 : w5.cell? ⟨w.heap.size + 1, 1, none⟩ = some (.int .i64 q) := by { rw [← hW]; clear hW; go_simp }
  have p2 : w5.cell? ⟨w.heap.size + 1, 2, none⟩ = some (.int .i64 r) := by { rw [← hW]; clear hW; go_simp }
  have HB5 := Lib.hid hb5
  clear hW hb5
  go_loopw [5] (fun i wr => ∃ m, wr = w5.drewN m ∧ (i = .int .i64 0 ∨ (i = .int .i64 1 ∧ x1 = true) ∨ (i = .int .i64 2 ∧ x1 = true ∧ x2 = true) ∨ (i = .int .i64 3 ∧ x1 = true ∧ x2 = true ∧ x3 = true))) (fun i _ => 3 - (intOf i).toNat)
  case atStart => exact ⟨0, rfl, .inl rfl⟩
  case round =>
    obtain ⟨m, rfl, hrel⟩ := hrel
    rcases hrel with rfl | ⟨rfl, rfl⟩ | ⟨rfl, rfl, rfl⟩ | ⟨rfl, rfl, rfl, rfl⟩
    · go_wp2_with fail
      refine drew_of_eq 8 (by kernel_rfl) (by kernel_rfl) ?_; simp only [List.take_succ_cons, List.take_zero, List.drop_succ_cons, List.drop_zero]; repeat go_big_quiet_step (fail)
      refine wpQuiet_nil ?_; intro m7
      go_wp2_with fail
      refine (HP.out _).mono ?_
      rintro e w' ⟨rfl, rfl⟩
      cases x1
      · go_wp2
        go_ret
        exact ⟨ret_bool (by simp), by have := HB5.out; (repeat' (first | (with_reducible exact Below.refl _ _) | (with_reducible assumption) | (with_reducible refine Below.drewN ?_ _) | (with_reducible refine Below.alloc ?_ ?_ _) | (with_reducible refine Below.drew ?_) | (with_reducible refine Below.setCell ?_ ?_ _) | (with_reducible refine Below.step (by assumption) ?_ ?_) | (with_reducible exact And.left (by assumption)) | go_size))⟩
      · go_wp2
        go_roundw
        case rel => exact ⟨_, by first | rfl | exact World.drewN_drewN _ _ _ | simp [World.drewN_drewN], by simp⟩
        case measure => simp [intOf]
    · go_wp2_with fail
      refine drew_of_eq 8 (by kernel_rfl) (by kernel_rfl) ?_; simp only [List.take_succ_cons, List.take_zero, List.drop_succ_cons, List.drop_zero]; repeat go_big_quiet_step (fail)
      refine wpQuiet_nil ?_; intro m7
      go_wp2_with fail
      refine (HQ.out _).mono ?_
      rintro e w' ⟨rfl, rfl⟩
      cases x2
      · go_wp2
        go_ret
        exact ⟨ret_bool (by simp), by have := HB5.out; (repeat' (first | (with_reducible exact Below.refl _ _) | (with_reducible assumption) | (with_reducible refine Below.drewN ?_ _) | (with_reducible refine Below.alloc ?_ ?_ _) | (with_reducible refine Below.drew ?_) | (with_reducible refine Below.setCell ?_ ?_ _) | (with_reducible refine Below.step (by assumption) ?_ ?_) | (with_reducible exact And.left (by assumption)) | go_size))⟩
      · go_wp2
        go_roundw
        case rel => exact ⟨_, by first | rfl | exact World.drewN_drewN _ _ _ | simp [World.drewN_drewN], by simp⟩
        case measure => simp [intOf]
    · go_wp2_with fail
      refine drew_of_eq 8 (by kernel_rfl) (by kernel_rfl) ?_; simp only [List.take_succ_cons, List.take_zero, List.drop_succ_cons, List.drop_zero]; repeat go_big_quiet_step (fail)
      refine wpQuiet_nil ?_; intro m7
      go_wp2_with fail
      refine (HR.out _).mono ?_
      rintro e w' ⟨rfl, rfl⟩
      cases x3
      · go_wp2
        go_ret
        exact ⟨ret_bool (by simp), by have := HB5.out; (repeat' (first | (with_reducible exact Below.refl _ _) | (with_reducible assumption) | (with_reducible refine Below.drewN ?_ _) | (with_reducible refine Below.alloc ?_ ?_ _) | (with_reducible refine Below.drew ?_) | (with_reducible refine Below.setCell ?_ ?_ _) | (with_reducible refine Below.step (by assumption) ?_ ?_) | (with_reducible exact And.left (by assumption)) | go_size))⟩
      · go_wp2
        go_roundw
        case rel => exact ⟨_, by first | rfl | exact World.drewN_drewN _ _ _ | simp [World.drewN_drewN], by simp⟩
        case measure => simp [intOf]
    · go_wp2
      go_ret
      exact ⟨ret_bool (by simp), by have := HB5.out; (repeat' (first | (with_reducible exact Below.refl _ _) | (with_reducible assumption) | (with_reducible refine Below.drewN ?_ _) | (with_reducible refine Below.alloc ?_ ?_ _) | (with_reducible refine Below.drew ?_) | (with_reducible refine Below.setCell ?_ ?_ _) | (with_reducible refine Below.step (by assumption) ?_ ?_) | (with_reducible exact And.left (by assumption)) | go_size))⟩
end Go.Proofs.YtdklmcicogmeaaaGreat
