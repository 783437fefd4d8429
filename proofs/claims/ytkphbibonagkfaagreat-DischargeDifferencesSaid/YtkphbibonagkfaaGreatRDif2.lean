import Derived.Test.YtkphbibonagkfaaGreatRDif
/- The reference of differences: its function. -/
namespace Go.Proofs.YtkphbibonagkfaaGreat
open Go.RowKit
set_option linter.unusedVariables false

theorem isLow_pos {a b : Int} (h : isLow a b = true) : 0 < b := by
  unfold isLow at h
  rw [Bool.and_eq_true] at h
  simpa using h.1
theorem difE_cases (a b : Int) (l m : List (Int × Int)) : difE a b l m = if respsE l ≠ 0 then respsE l else if respsE m ≠ 0 then respsE m else if (l.length : Int) ≠ m.length then 10 else if isLow a b = false then 3 else if wi a 1 100 = false then 2 else if 100 < b then 2 else if a < b then 2 else 0 := by
  unfold difE
  by_cases h1 : respsE l = 0
  · by_cases h2 : respsE m = 0
    · by_cases h3 : (l.length : Int) = m.length
      · have e3 : ((l.length : Int) == (m.length : Int)) = true := by simp [h3]
        rw [h1, h2, e3, if_neg (by simp), if_neg (by simp), if_neg (by simp [h3])]
        cases h4 : isLow a b
        · rfl
        · have hb := isLow_pos h4
          rw [if_neg (by decide)]
          unfold isPo
          cases h5 : wi a 1 100
          · rfl
          · rw [if_neg (by decide)]
            by_cases h6 : 100 < b
            · have : wi b 1 100 = false := by rw [Bool.eq_false_iff]; intro h; rw [wi_iff] at h; omega
              rw [if_pos h6, this]; rfl
            · have : wi b 1 100 = true := by rw [wi_iff]; omega
              rw [if_neg h6, this]
              by_cases h7 : a < b
              · rw [if_pos h7, decide_eq_false (by omega)]; rfl
              · rw [if_neg h7, decide_eq_true (by omega)]; rfl
      · have e3 : ((l.length : Int) == (m.length : Int)) = false := by simpa using h3
        rw [h1, h2, e3, if_neg (by simp), if_neg (by simp), if_pos h3]
        rfl
    · rw [h1, if_neg (by simp), if_pos h2]
      simp [firstErr, h2]
  · rw [if_pos h1]
    simp [firstErr, h1]
set_option maxHeartbeats 4000000 in
set_option maxRecDepth 100000 in
theorem rDifferencesOf_any (a b : Int) (l m : List (Int × Int)) (al am : Option Addr) (n cl k ck : Nat) (w : World) (hl : PairsR w al n l) (hm : PairsR w am k m) (ha : -9223372036854775808 ≤ a ∧ a ≤ 9223372036854775807) (hb : b ≤ 9223372036854775807) :
    Calls Tryz.prog 53 #[.slice al n cl, .slice am k ck, .agg #[.int .i64 a, .int .i64 b]] w fun e' w' => ∃ a' k' c', e' = .returned (.tuple #[.slice a' k' c', .int .i64 (difE a b l m)]) ∧ Below w.heap.size w w' ∧ IntsR w' a' k' (nats (if difE a b l m = 0 then difL a b l m else [])) := by
  have hn := hl.small
  have hk := hm.small
  have HL := Lib.hid hl
  have HM := Lib.hid hm
  have HR1 := Lib.hid (fun (W : World) (hb : Below w.heap.size w W) => rResponsesErr_any l al n cl W (hl.below hb))
  have HR2 := Lib.hid (fun (W : World) (hb : Below w.heap.size w W) => rResponsesErr_any m am k ck W (hm.below hb))
  have HLO := Lib.hid (fun w' => b_isLowest_any a b w' ha.1 ha.2 hb)
  have HPO := Lib.hid (fun w' => bwithin_any a 1 100 w')
  have HLP := Lib.hid (fun (h : isLow a b = true) => isLow_pos h)
  have hE := difE_cases a b l m
  rw [hl.len, hm.len] at hE
  have HGL := Lib.hid (respsE_zero (l := l))
  have HGM := Lib.hid (respsE_zero (l := m))
  have HDL := Lib.hid (show difL a b l m = (List.range n).filter (difI a b l m) by unfold difL; rw [hl.len])
  have HWA := Lib.hid (fun (h : wi a 1 100 = true) => wi_iff.1 h)
  clear hl hm ha hb
  generalize respsE l = r1 at *
  generalize respsE m = r2 at *
  generalize isLow a b = bl at *
  generalize wi a 1 100 = bp at *
  rw [HDL.out]
  obtain ⟨D, hD⟩ : ∃ D, D = difI a b l m := ⟨_, rfl⟩
  rw [← hD]
  have HD := Lib.hid hD
  clear hD
  obtain ⟨E, hEE⟩ : ∃ E, E = difE a b l m := ⟨_, rfl⟩
  rw [← hEE] at hE ⊢
  clear hEE
  obtain ⟨R, hR⟩ : ∃ R, R = if E = 0 then (List.range n).filter D else [] := ⟨_, rfl⟩
  rw [← hR]
  have HE := Lib.hid hE
  have HR := Lib.hid hR
  clear hE hR
  go_enter Tryz.func53, Tryz.ntmps53
  go_wp2_with fail
  generalize hW : World.alloc _ _ = w4
  have hb4 : Below w.heap.size w w4 := by rw [← hW]; (repeat' (first | (with_reducible exact Below.refl _ _) | (with_reducible assumption) | (with_reducible refine Below.drewN ?_ _) | (with_reducible refine Below.alloc ?_ ?_ _) | (with_reducible refine Below.drew ?_) | (with_reducible refine Below.setCell ?_ ?_ _) | (with_reducible refine Below.step (by assumption) ?_ ?_) | (with_reducible exact And.left (by assumption)) | go_size))
  have q0 : w4.cell? ⟨w.heap.size, 0, none⟩ = some (.int .i64 a) := by { rw [← hW]; clear hW; go_simp }
  have q1 : w4.cell? ⟨w.heap.size, 1, none⟩ = some (.int .i64 b) := by { rw [← hW]; clear hW; go_simp }
  have l4 : w.heap.size < w4.heap.size := by { rw [← hW]; clear hW; simp }
  have HB := Lib.hid hb4
  clear hW hb4
  refine (HR1.out _ HB.out).mono ?_
  rintro e6 w6 ⟨rfl, hb6⟩
  by_cases h1 : r1 = 0
  rotate_left
  · have hE := HE.out
    rw [if_pos h1] at hE
    have hR := HR.out
    rw [if_neg (by rw [hE]; exact h1)] at hR
    subst hE hR
    have e1 : (E != 0) = true := by simpa using h1
    clear HE HR h1
    go_wp2
    go_ret2
    exact ⟨none, 0, 0, rfl, HB.out.trans (hb6.mono HB.out.size), IntsR.nil _ _⟩
  subst h1
  have hz6 := hb6.size
  have q0d : w6.cell? ⟨w.heap.size, 0, none⟩ = some (.int .i64 a) := by { rw [cellB hb6 _ _ (by first | (simp; done) | (simp; omega) | omega)]; all_goals (first | assumption | go_simp) }; have q1d : w6.cell? ⟨w.heap.size, 1, none⟩ = some (.int .i64 b) := by { rw [cellB hb6 _ _ (by first | (simp; done) | (simp; omega) | omega)]; all_goals (first | assumption | go_simp) }; have l6 : w.heap.size < w6.heap.size := by { omega }
  have HB := Lib.hid (HB.out.trans (hb6.mono HB.out.size))
  clear hb6 hz6 q0 q1 l4
  go_wp2_with fail
  refine (HR2.out _ HB.out).mono ?_
  rintro e7 w7 ⟨rfl, hb7⟩
  by_cases h2 : r2 = 0
  rotate_left
  · have hE := HE.out
    rw [if_neg (by decide), if_pos h2] at hE
    have hR := HR.out
    rw [if_neg (by rw [hE]; exact h2)] at hR
    subst hE hR
    have e1 : (E != 0) = true := by simpa using h2
    clear HE HR h2
    go_wp2
    go_ret2
    exact ⟨none, 0, 0, rfl, HB.out.trans (hb7.mono HB.out.size), IntsR.nil _ _⟩
  subst h2
  have hz7 := hb7.size
  have q0 : w7.cell? ⟨w.heap.size, 0, none⟩ = some (.int .i64 a) := by { rw [cellB hb7 _ _ (by first | (simp; done) | (simp; omega) | omega)]; all_goals (first | assumption | go_simp) }; have q1 : w7.cell? ⟨w.heap.size, 1, none⟩ = some (.int .i64 b) := by { rw [cellB hb7 _ _ (by first | (simp; done) | (simp; omega) | omega)]; all_goals (first | assumption | go_simp) }; have l7 : w.heap.size < w7.heap.size := by { omega }
  have HB := Lib.hid (HB.out.trans (hb7.mono HB.out.size))
  clear hb7 hz7 q0d q1d l6
  by_cases h3 : (n : Int) = k
  rotate_left
  · have hE := HE.out
    rw [if_neg (by decide), if_neg (by decide), if_pos h3] at hE
    have hR := HR.out
    rw [if_neg (by rw [hE]; decide)] at hR
    subst hE hR
    have e1 : ((n : Int) != (k : Int)) = true := by simpa using h3
    clear HE HR h3
    go_wp2
    go_ret2
    exact ⟨none, 0, 0, rfl, HB.out, IntsR.nil _ _⟩
  obtain rfl : n = k := by omega
  have e3 : ((n : Int) != (n : Int)) = false := by simp
  clear h3
  go_wp2_with fail
  refine (HLO.out _).mono ?_
  rintro e8 w8 ⟨rfl, hb8⟩
  cases bl
  · have hE := HE.out
    rw [if_neg (by decide), if_neg (by decide), if_neg (by simp), if_pos rfl] at hE
    have hR := HR.out
    rw [if_neg (by rw [hE]; decide)] at hR
    subst hE hR
    clear HE HR
    go_wp2
    go_ret2
    exact ⟨none, 0, 0, rfl, HB.out.trans (hb8.mono HB.out.size), IntsR.nil _ _⟩
  have hbp := HLP.out rfl
  have hz8 := hb8.size
  have q0d : w8.cell? ⟨w.heap.size, 0, none⟩ = some (.int .i64 a) := by { rw [cellB hb8 _ _ (by first | (simp; done) | (simp; omega) | omega)]; all_goals (first | assumption | go_simp) }; have q1d : w8.cell? ⟨w.heap.size, 1, none⟩ = some (.int .i64 b) := by { rw [cellB hb8 _ _ (by first | (simp; done) | (simp; omega) | omega)]; all_goals (first | assumption | go_simp) }; have l8 : w.heap.size < w8.heap.size := by { omega }
  have HB := Lib.hid (HB.out.trans (hb8.mono HB.out.size))
  clear hb8 hz8 q0 q1 l7
  go_wp2_with fail
  refine (HPO.out _).mono ?_
  rintro e9 w9 ⟨rfl, rfl⟩
  cases bp
  · have hE := HE.out
    rw [if_neg (by decide), if_neg (by decide), if_neg (by simp), if_neg (by decide), if_pos rfl] at hE
    have hR := HR.out
    rw [if_neg (by rw [hE]; decide)] at hR
    subst hE hR
    clear HE HR
    go_wp2
    go_ret2
    exact ⟨none, 0, 0, rfl, HB.out, IntsR.nil _ _⟩
  have hE := HE.out
  rw [if_neg (by decide), if_neg (by decide), if_neg (by simp), if_neg (by decide), if_neg (by decide)] at hE
  have hab := HWA.out rfl
  by_cases h6 : 100 < b
  · rw [if_pos h6] at hE
    have hR := HR.out
    rw [if_neg (by rw [hE]; decide)] at hR
    subst hE hR
    clear HE HR
    go_wp2
    go_ret2
    exact ⟨none, 0, 0, rfl, HB.out, IntsR.nil _ _⟩
  by_cases h7 : a < b
  · rw [if_neg h6, if_pos h7] at hE
    have hR := HR.out
    rw [if_neg (by rw [hE]; decide)] at hR
    subst hE hR
    clear HE HR
    go_wp2
    go_ret2
    exact ⟨none, 0, 0, rfl, HB.out, IntsR.nil _ _⟩
  rw [if_neg h6, if_neg h7] at hE
  subst hE
  have hR := HR.out
  rw [if_pos rfl] at hR
  subst hR
  clear HE HR HR1 HR2 HLO HPO HLP HWA
  have HGL := Lib.hid (HGL.out (by first | rfl | trivial)).2
  have HGM0 := HGM.out (by first | rfl | trivial)
  have HGM := Lib.hid HGM0.2
  have hn8 := HGM0.1
  have HMn := Lib.hid HM.out.len
  rw [HMn.out] at hn8
  clear HGM0
  have hd6 : decide (100 < b) = false := decide_eq_false h6
  have hd7 : decide (a < b) = false := decide_eq_false h7
  go_wp2_with fail
  clear hd6 hd7
  have HBX := HB
  obtain ⟨w5, hw5⟩ : ∃ x : World, x = w8 := ⟨_, rfl⟩
  rw [← hw5] at HBX q0d q1d l8 ⊢
  clear hw5 HB
  go_loopw [10, 11] (fun v i wr => ∃ (j q : Nat) (av : Option Addr) (cv : Nat), i = .int .i64 j ∧ v = .slice av q cv ∧ j ≤ n ∧ q ≤ j ∧ Hid (wr.ownsRow w5.heap.size 3 1 (.slice av q cv) q (icells (nats ((List.range j).filter D)))) ∧ Hid (Below w5.heap.size w5 wr)) (fun _ i _ => n - (intOf i).toNat)
  case atStart => exact ⟨0, 0, none, 0, rfl, rfl, Nat.zero_le _, Nat.le_refl _, Lib.hid (World.ownsRow_nil _ _ _ _), Lib.hid (Below.refl _ _)⟩
  case round =>
    obtain ⟨j, q, av, cv, rfl, rfl, hj, hq, hO, hB⟩ := hrel
    have j0 : (0 : Int) ≤ (j : Int) := by omega
    have hBx := hB.out
    have hzr := hBx.size
    have q0 : wr.cell? ⟨w.heap.size, 0, none⟩ = some (.int .i64 a) := by { rw [cellB hBx _ _ (by first | (simp; done) | (simp; omega) | omega)]; all_goals (first | assumption | go_simp) }; have q1 : wr.cell? ⟨w.heap.size, 1, none⟩ = some (.int .i64 b) := by { rw [cellB hBx _ _ (by first | (simp; done) | (simp; omega) | omega)]; all_goals (first | assumption | go_simp) }; have l0 : w.heap.size < wr.heap.size := by { omega }
    rcases Nat.lt_or_ge j n with hlt | hge
    · have j1 : (j : Int) < (n : Int) := by omega
      have HBr := Lib.hid (HBX.out.trans (hBx.mono HBX.out.size))
      obtain ⟨bl', ol, rfl, hbl, hcl⟩ := (HL.out.below HBr.out).addr (by omega)
      obtain ⟨bm, om, rfl, hbm, hcm⟩ := (HM.out.below HBr.out).addr (by omega)
      obtain ⟨p0, p1⟩ := hcl j hlt
      obtain ⟨s0, s1⟩ := hcm j hlt
      have hgl := HGL.out (l.getD j (0, 0)) (getD_pair (by rw [HL.out.len]; exact hlt))
      have hgm := HGM.out (m.getD j (0, 0)) (getD_pair (by rw [HMn.out]; exact hlt))
      have HDj := Lib.hid (show D j = (decide (nrm (m.getD j (0, 0)) * a < nrm (l.getD j (0, 0)) * b) || decide (nrm (l.getD j (0, 0)) * a < nrm (m.getD j (0, 0)) * b)) by rw [HD.out]; rfl)
      generalize l.getD j (0, 0) = x at *
      generalize m.getD j (0, 0) = y at *
      obtain ⟨x1, x2⟩ := x
      obtain ⟨y1, y2⟩ := y
      simp only at p0 p1 s0 s1
      have bx := nrm_bd hgl
      have by' := nrm_bd hgm
      have HS1 := Lib.hid (fun w' => gNorm_any x1 x2 w' hgl)
      have HS2 := Lib.hid (fun w' => gNorm_any y1 y2 w' hgm)
      generalize nrm (x1, x2) = N1 at *
      generalize nrm (y1, y2) = N2 at *
      have m1 := mulb (a := N1) (b := b) 20000000000000000 100 2000000000000000000 (by omega) (by omega) (by omega) (by omega) (by omega)
      have m2 := mulb (a := a) (b := N2) 100 20000000000000000 2000000000000000000 (by omega) (by omega) (by omega) (by omega) (by omega)
      have m3 := mulb (a := N2) (b := b) 20000000000000000 100 2000000000000000000 (by omega) (by omega) (by omega) (by omega) (by omega)
      have m4 := mulb (a := a) (b := N1) 100 20000000000000000 2000000000000000000 (by omega) (by omega) (by omega) (by omega) (by omega)
      have w1 : IntKind.i64.wrap (N1 * b) = N1 * b := by rw [IntKind.wrap_i64]; omega
      have w2 : IntKind.i64.wrap (a * N2) = a * N2 := by rw [IntKind.wrap_i64]; omega
      have w3 : IntKind.i64.wrap (N2 * b) = N2 * b := by rw [IntKind.wrap_i64]; omega
      have w4 : IntKind.i64.wrap (a * N1) = a * N1 := by rw [IntKind.wrap_i64]; omega
      rw [Int.mul_comm N2 a, Int.mul_comm N1 a] at HDj
      have HO := hO
      have HBq := hB
      clear hcl hcm hgl hgm bx by' m1 m2 m3 m4 hO hB hBx
      go_wp2_with fail
      refine wp_region_laterM (B := wr.heap.size) [(true, 0), (true, 1), (true, 2), (true, 3), (true, 5), (true, 6), (true, 7), (true, 8), (false, 4), (false, 9), (true, 10), (true, 11)] (by kernel_rfl) (by kernel_rfl) ?_; simp only [opsOf, List.filterMap_cons, List.filterMap_nil, List.getElem?_toArray, List.getElem?_cons_zero, List.getElem?_cons_succ, Option.map_some]
      repeat (refine mix_head ?_; (show wpQuiet _ _ _ _ (_ :: _) _; go_big_quiet_step (fail)); refine wpQuiet_nil ?_)
      refine mix_tail ?_; go_wp2_with fail
      refine (HS1.out _).mono ?_
      rintro e6 wx ⟨rfl, hbx⟩
      have HX := Lib.hid ((Below.refl wr.heap.size wr).drew.trans hbx)
      clear hbx
      go_wp2_with fail
      refine tailL_mk HX.out ?_
      refine mix_tail ?_; go_wp2_with fail
      refine (HS2.out _).mono ?_
      rintro e7 wz ⟨rfl, hby⟩
      have HX := Lib.hid (HX.out.trans (hby.mono HX.out.size))
      clear hby
      go_wp2_with fail
      refine tailL_mk HX.out ?_
      repeat (refine mix_head ?_; (show wpQuiet _ _ _ _ (_ :: _) _; go_big_quiet_step (fail)); refine wpQuiet_nil ?_)
      refine mix_nil ?_
      have hby := HX.out
      have hzy := hby.size
      have q0r : wz.cell? ⟨w.heap.size, 0, none⟩ = some (.int .i64 a) := by { rw [cellB hby _ _ (by first | (simp; done) | (simp; omega) | omega)]; all_goals (first | assumption | go_simp) }; have q1r : wz.cell? ⟨w.heap.size, 1, none⟩ = some (.int .i64 b) := by { rw [cellB hby _ _ (by first | (simp; done) | (simp; omega) | omega)]; all_goals (first | assumption | go_simp) }; have ly : w.heap.size < wz.heap.size := by { omega }
      have HBz := Lib.hid (HBq.out.trans (hby.mono HBq.out.size))
      have HOz := Lib.hid (owns_below HO.out hby (fun z hz => (HO.out.lt z hz).2))
      clear hby hzy HX HBq HO q0 q1 p0 p1 s0 s1 l0 hbl hbm HBr HS1 HS2 hzr
      by_cases c1 : a * N2 < N1 * b
      · have hd1 : decide (a * N2 < N1 * b) = true := decide_eq_true c1
        rw [hd1, Bool.true_or] at HDj
        have HK := Lib.hid (show icells (nats ((List.range (j + 1)).filter D)) = icells (nats ((List.range j).filter D)) ++ [.int .i64 (j : Int)] by rw [List.range_succ, List.filter_append]; simp [HDj.out, nats, icells])
        go_wp2_with (at_builtin; refine wpList_append_sl _ rfl _ _ 42 rfl w5.heap.size 3 _ 1 8 Tryz.underlying42 infoInt rfl (by omega) (.slice av q cv) q _ rfl (HOz.out.alloc _) _ 1 1 [.int .i64 (j : Int)] rfl (SlR.lit _ _ _ _ _ 1 1 (by rfl) (by simp) rfl (by omega)) (by simp [Value.oneCell']) (by omega) (by omega) (by have := HBz.out.size; simp; omega) ?_)
        intro v2 w2 hown2 hgr2 hb2
        obtain ⟨av2, cv2, rfl, _, _⟩ := owns_slice hown2
        rw [← HK.out] at hown2
        have HO2 := Lib.hid hown2
        have HB2 := Lib.hid ((HBz.out.alloc HBz.out.size _).trans hb2)
        clear hown2 hgr2 hb2 HOz HBz HK
        go_wp2
        go_roundw
        case rel => exact ⟨j + 1, q + 1, av2, cv2, by go_num, rfl, by omega, by omega, HO2, HB2⟩
        case measure => simp [intOf]; omega
      · have hd1 : decide (a * N2 < N1 * b) = false := decide_eq_false c1
        have hd1' : (a * N2 < N1 * b) = False := by simp; omega
        rw [hd1, Bool.false_or] at HDj
        by_cases c2 : a * N1 < N2 * b
        · have hd2 : decide (a * N1 < N2 * b) = true := decide_eq_true c2
          rw [hd2] at HDj
          have HK := Lib.hid (show icells (nats ((List.range (j + 1)).filter D)) = icells (nats ((List.range j).filter D)) ++ [.int .i64 (j : Int)] by rw [List.range_succ, List.filter_append]; simp [HDj.out, nats, icells])
          go_wp2_with (at_builtin; refine wpList_append_sl _ rfl _ _ 42 rfl w5.heap.size 3 _ 1 8 Tryz.underlying42 infoInt rfl (by omega) (.slice av q cv) q _ rfl (HOz.out.alloc _) _ 1 1 [.int .i64 (j : Int)] rfl (SlR.lit _ _ _ _ _ 1 1 (by rfl) (by simp) rfl (by omega)) (by simp [Value.oneCell']) (by omega) (by omega) (by have := HBz.out.size; simp; omega) ?_)
          intro v2 w2 hown2 hgr2 hb2
          obtain ⟨av2, cv2, rfl, _, _⟩ := owns_slice hown2
          rw [← HK.out] at hown2
          have HO2 := Lib.hid hown2
          have HB2 := Lib.hid ((HBz.out.alloc HBz.out.size _).trans hb2)
          clear hown2 hgr2 hb2 HOz HBz HK
          go_wp2
          go_roundw
          case rel => exact ⟨j + 1, q + 1, av2, cv2, by go_num, rfl, by omega, by omega, HO2, HB2⟩
          case measure => simp [intOf]; omega
        · have hd2 : decide (a * N1 < N2 * b) = false := decide_eq_false c2
          have hd2' : (a * N1 < N2 * b) = False := by simp; omega
          rw [hd2] at HDj
          have HK := Lib.hid (show icells (nats ((List.range (j + 1)).filter D)) = icells (nats ((List.range j).filter D)) by rw [List.range_succ, List.filter_append]; simp [HDj.out])
          have HO2 := HOz.out
          rw [← HK.out] at HO2
          have HO2 := Lib.hid HO2
          clear HOz HK
          go_wp2
          go_roundw
          case rel => exact ⟨j + 1, q, av, cv, by go_num, rfl, by omega, by omega, HO2, HBz⟩
          case measure => simp [intOf]; omega
    · obtain rfl : j = n := by omega
      go_wp2
      go_ret2
      exact ⟨av, q, cv, rfl, HBX.out.trans (hB.out.mono HBX.out.size), SlR.of_owns hO.out⟩
end Go.Proofs.YtkphbibonagkfaaGreat
