import Derived.Test.YthkekjgdknnaiaaGreatMRDist
/- The reference of answers: whether a speed keeps a cell. -/
namespace Go.Proofs.YthkekjgdknnaiaaGreat
open Go.RowKit
set_option linter.unusedVariables false

theorem allP_false {n : Nat} {p : Nat → Nat → Bool} {i j : Nat} (hi : i < n) (hj : j < n) (hne : i ≠ j) (h : p i j = false) : allP n p = false := by
  rw [Bool.eq_false_iff]
  intro h'
  rw [allP_iff.1 h' i j hi hj hne] at h
  cases h
set_option maxHeartbeats 4000000 in
set_option maxRecDepth 100000 in
theorem rKeeps_any (g : Gri) (A : Arr) (c : T3) (S : List Nat) (v : Int) (a aS : Option Addr) (n cp k cs : Nat) (w : World) (hl : SenR w a n A.l) (hS : IntsR w aS k (nats S)) (hg : griE g = 0) (hc : celB g c = true)
    (hss : ∀ i, i < n → plc ⟨(sAt A.l i).x, (sAt A.l i).y, (sAt A.l i).z⟩ = true ∧ 0 ≤ (sAt A.l i).lo ∧ (sAt A.l i).lo ≤ (sAt A.l i).hi ∧ (sAt A.l i).hi ≤ 1000000) (hnd : S.Nodup) (hlt : ∀ i ∈ S, i < n) (hv : 1 ≤ v ∧ v ≤ 10000) :
    Calls Tryz.prog 162 #[.agg #[.int .i64 g.f.x, .int .i64 g.f.y, .int .i64 g.f.z, .int .i64 g.st, .int .i64 g.c.x, .int .i64 g.c.y, .int .i64 g.c.z], .agg #[.int .i64 A.lo, .int .i64 A.hi, .slice a n cp], .agg #[.int .i64 c.x, .int .i64 c.y, .int .i64 c.z], .slice aS k cs, .int .i64 v] w
      fun e' w' => e' = .returned (.bool (allP k (kpS g A c v S))) ∧ Below w.heap.size w w' := by
  have HL := Lib.hid hl
  have HSI := Lib.hid hS
  have HSL := Lib.hid (nats_len hS)
  have HSS := Lib.hid hss
  have HND := Lib.hid hnd
  have HLT := Lib.hid hlt
  have HD := Lib.hid (fun (s : Sen) (hs : plc ⟨s.x, s.y, s.z⟩ = true) w' => rDistance_any g c ⟨s.x, s.y, s.z⟩ w' hg hc hs)
  have hks := hS.small
  clear hl hS hg hc hss hnd hlt
  obtain ⟨V, hV⟩ : ∃ V, V = allP k (kpS g A c v S) := ⟨_, rfl⟩
  rw [← hV]
  have HV := Lib.hid hV
  clear hV
  go_enter Tryz.func162, Tryz.ntmps162
  go_wp2_with fail
  generalize hW : World.alloc _ _ = w5
  have hb5 : Below w.heap.size w w5 := by rw [← hW]; (repeat' (first | (with_reducible exact Below.refl _ _) | (with_reducible assumption) | (with_reducible refine Below.drewN ?_ _) | (with_reducible refine Below.alloc ?_ ?_ _) | (with_reducible refine Below.drew ?_) | (with_reducible refine Below.setCell ?_ ?_ _) | (with_reducible refine Below.step (by assumption) ?_ ?_) | (with_reducible exact And.left (by assumption)) | go_size))
  have q0 : w5.cell? ⟨w.heap.size, 0, none⟩ = some (.int .i64 g.f.x) := by { rw [← hW]; clear hW; go_simp }
  have q1 : w5.cell? ⟨w.heap.size, 1, none⟩ = some (.int .i64 g.f.y) := by { rw [← hW]; clear hW; go_simp }
  have q2 : w5.cell? ⟨w.heap.size, 2, none⟩ = some (.int .i64 g.f.z) := by { rw [← hW]; clear hW; go_simp }
  have q3 : w5.cell? ⟨w.heap.size, 3, none⟩ = some (.int .i64 g.st) := by { rw [← hW]; clear hW; go_simp }
  have q4 : w5.cell? ⟨w.heap.size, 4, none⟩ = some (.int .i64 g.c.x) := by { rw [← hW]; clear hW; go_simp }
  have q5 : w5.cell? ⟨w.heap.size, 5, none⟩ = some (.int .i64 g.c.y) := by { rw [← hW]; clear hW; go_simp }
  have q6 : w5.cell? ⟨w.heap.size, 6, none⟩ = some (.int .i64 g.c.z) := by { rw [← hW]; clear hW; go_simp }
  have p0 : w5.cell? ⟨w.heap.size + 1, 0, none⟩ = some (.int .i64 A.lo) := by { rw [← hW]; clear hW; go_simp }
  have p1 : w5.cell? ⟨w.heap.size + 1, 1, none⟩ = some (.int .i64 A.hi) := by { rw [← hW]; clear hW; go_simp }
  have p2 : w5.cell? ⟨w.heap.size + 1, 2, none⟩ = some (.slice a n cp) := by { rw [← hW]; clear hW; go_simp }
  have d0 : w5.cell? ⟨w.heap.size + 1 + 1, 0, none⟩ = some (.int .i64 c.x) := by { rw [← hW]; clear hW; go_simp }
  have d1 : w5.cell? ⟨w.heap.size + 1 + 1, 1, none⟩ = some (.int .i64 c.y) := by { rw [← hW]; clear hW; go_simp }
  have d2 : w5.cell? ⟨w.heap.size + 1 + 1, 2, none⟩ = some (.int .i64 c.z) := by { rw [← hW]; clear hW; go_simp }
  have z5 : w5.heap.size = w.heap.size + 1 + 1 + 1 := by rw [← hW]; simp
  have HB5 := Lib.hid hb5
  have HL5 := Lib.hid (HL.out.below hb5)
  have HS5 := Lib.hid (HSI.out.below hb5)
  obtain ⟨X, hX⟩ : ∃ X, X = w.heap.size := ⟨_, rfl⟩
  rw [← hX] at q0 q1 q2 q3 q4 q5 q6 p0 p1 p2 d0 d1 d2 z5
  rw [← hX]
  have HC5 := Lib.hid (And.intro q0 (And.intro q1 (And.intro q2 (And.intro q3 (And.intro q4 (And.intro q5 (And.intro q6 (And.intro p0 (And.intro p1 (And.intro p2 (And.intro d0 (And.intro d1 d2))))))))))))
  have x5 : X + 1 + 1 < w5.heap.size := by omega
  have xw : w.heap.size ≤ X := by omega
  clear hW hb5 z5 hX q0 q1 q2 q3 q4 q5 q6 p0 p1 p2 d0 d1 d2
  go_loopw [11] (fun x wr => ∃ i : Nat, x = .int .i64 i ∧ i ≤ k ∧ Hid (∀ x y, x < i → y < k → x ≠ y → kpS g A c v S x y = true) ∧ Hid (Below w5.heap.size w5 wr)) (fun x _ => k - (intOf x).toNat)
  case atStart => exact ⟨0, rfl, Nat.zero_le _, Lib.hid (fun x y h => absurd h (by omega)), Lib.hid (Below.refl _ _)⟩
  case round =>
    obtain ⟨x, rfl, hxk, hK, hB⟩ := hrel
    have x0 : (0 : Int) ≤ (x : Int) := by omega
    rcases Nat.lt_or_ge x k with hx | hx
    · have x1 : (x : Int) < (k : Int) := by omega
      go_wp2_with fail
      go_loopw [12] (fun y wr => ∃ j : Nat, y = .int .i64 j ∧ j ≤ k ∧ Hid (∀ y, y < j → x ≠ y → kpS g A c v S x y = true) ∧ Hid (Below w5.heap.size w5 wr)) (fun x _ => k - (intOf x).toNat)
      case atStart => exact ⟨0, rfl, Nat.zero_le _, Lib.hid (fun y h => absurd h (by omega)), hB⟩
      case round =>
        clear hB
        obtain ⟨y, rfl, hyk, hKy, hB⟩ := hrel
        have y0 : (0 : Int) ≤ (y : Int) := by omega
        rcases Nat.lt_or_ge y k with hy | hy
        · have y1 : (y : Int) < (k : Int) := by omega
          by_cases hxy : x = y
          · subst hxy
            obtain ⟨bs, os, rfl, hbs, hcx⟩ := nats_at (HS5.out.below hB.out) hx
            generalize S.getD x 0 = i at hcx
            have hne : ((i : Int) != (i : Int)) = false := by simp
            go_wp2_with fail
            go_quiet (fail)
            go_wp2_with fail
            refine later_of_eq 31 (by kernel_rfl) (by kernel_rfl) ?_; simp only [List.take_succ_cons, List.take_zero, List.drop_succ_cons, List.drop_zero]; repeat go_big_quiet_step (fail)
            refine wpQuiet_nil ?_; intro w7 hb7
            have HB7 := Lib.hid (show Below w5.heap.size w5 w7 from hB.out.trans ((show Below wr.heap.size wr w7 by (repeat' (first | (with_reducible exact Below.refl _ _) | (with_reducible assumption) | (with_reducible refine Below.drewN ?_ _) | (with_reducible refine Below.alloc ?_ ?_ _) | (with_reducible refine Below.drew ?_) | (with_reducible refine Below.setCell ?_ ?_ _) | (with_reducible refine Below.step (by assumption) ?_ ?_) | (with_reducible exact And.left (by assumption)) | go_size))).mono hB.out.size))
            have HK2 := Lib.hid (show ∀ y, y < x + 1 → x ≠ y → kpS g A c v S x y = true from fun y h1 h2 => hKy.out y (by omega) h2)
            clear hb7 hB hK hKy
            go_wp2
            go_roundw
            case rel => exact ⟨x + 1, by go_num, by omega, HK2, HB7⟩
            case measure => simp [intOf]; omega
          · skip
            obtain ⟨q0, q1, q2, q3, q4, q5, q6, p0, p1, p2, d0, d1, d2⟩ := HC5.out
            have hBx := hB.out
            have q0r : wr.cell? ⟨X, 0, none⟩ = some (.int .i64 g.f.x) := by { rw [cellB hBx _ _ (by first | (simp; done) | (simp; omega) | omega)]; all_goals (first | assumption | go_simp) }; have q1r : wr.cell? ⟨X, 1, none⟩ = some (.int .i64 g.f.y) := by { rw [cellB hBx _ _ (by first | (simp; done) | (simp; omega) | omega)]; all_goals (first | assumption | go_simp) }; have q2r : wr.cell? ⟨X, 2, none⟩ = some (.int .i64 g.f.z) := by { rw [cellB hBx _ _ (by first | (simp; done) | (simp; omega) | omega)]; all_goals (first | assumption | go_simp) }; have q3r : wr.cell? ⟨X, 3, none⟩ = some (.int .i64 g.st) := by { rw [cellB hBx _ _ (by first | (simp; done) | (simp; omega) | omega)]; all_goals (first | assumption | go_simp) }; have q4r : wr.cell? ⟨X, 4, none⟩ = some (.int .i64 g.c.x) := by { rw [cellB hBx _ _ (by first | (simp; done) | (simp; omega) | omega)]; all_goals (first | assumption | go_simp) }; have q5r : wr.cell? ⟨X, 5, none⟩ = some (.int .i64 g.c.y) := by { rw [cellB hBx _ _ (by first | (simp; done) | (simp; omega) | omega)]; all_goals (first | assumption | go_simp) }; have q6r : wr.cell? ⟨X, 6, none⟩ = some (.int .i64 g.c.z) := by { rw [cellB hBx _ _ (by first | (simp; done) | (simp; omega) | omega)]; all_goals (first | assumption | go_simp) }; have p0r : wr.cell? ⟨X + 1, 0, none⟩ = some (.int .i64 A.lo) := by { rw [cellB hBx _ _ (by first | (simp; done) | (simp; omega) | omega)]; all_goals (first | assumption | go_simp) }; have p1r : wr.cell? ⟨X + 1, 1, none⟩ = some (.int .i64 A.hi) := by { rw [cellB hBx _ _ (by first | (simp; done) | (simp; omega) | omega)]; all_goals (first | assumption | go_simp) }; have p2r : wr.cell? ⟨X + 1, 2, none⟩ = some (.slice a n cp) := by { rw [cellB hBx _ _ (by first | (simp; done) | (simp; omega) | omega)]; all_goals (first | assumption | go_simp) }; have d0r : wr.cell? ⟨X + 1 + 1, 0, none⟩ = some (.int .i64 c.x) := by { rw [cellB hBx _ _ (by first | (simp; done) | (simp; omega) | omega)]; all_goals (first | assumption | go_simp) }; have d1r : wr.cell? ⟨X + 1 + 1, 1, none⟩ = some (.int .i64 c.y) := by { rw [cellB hBx _ _ (by first | (simp; done) | (simp; omega) | omega)]; all_goals (first | assumption | go_simp) }; have d2r : wr.cell? ⟨X + 1 + 1, 2, none⟩ = some (.int .i64 c.z) := by { rw [cellB hBx _ _ (by first | (simp; done) | (simp; omega) | omega)]; all_goals (first | assumption | go_simp) }
            have hzr := hBx.size
            have lr0 : X < wr.heap.size := by omega
            have lr1 : X + 1 < wr.heap.size := by omega
            have lr2 : X + 1 + 1 < wr.heap.size := by omega
            clear q0 q1 q2 q3 q4 q5 q6 p0 p1 p2 d0 d1 d2 hBx
            obtain ⟨bs, os, rfl, hbs, hcx⟩ := nats_at (HS5.out.below hB.out) hx
            obtain ⟨bs', os', he, _, hcy⟩ := nats_at (HS5.out.below hB.out) hy
            obtain ⟨rfl, rfl⟩ : bs = bs' ∧ os = os' := by simpa using he
            clear he
            have hin : S.getD x 0 < n := getD_lt HLT.out (by rw [HSL.out]; exact hx)
            have hjn : S.getD y 0 < n := getD_lt HLT.out (by rw [HSL.out]; exact hy)
            obtain ⟨b, o, rfl, hbb, hcs⟩ := (HL5.out.below hB.out).addr (by omega)
            obtain ⟨si, hsi⟩ := ER.get HL.out hin
            obtain ⟨sj, hsj⟩ := ER.get HL.out hjn
            obtain ⟨u0, u1, u2, _, _⟩ := hcs _ si hsi
            obtain ⟨v0, v1, v2, _, _⟩ := hcs _ sj hsj
            have hLA := fun (W : World) (hW : Below wr.heap.size wr W) => rLate_any A.lo A.hi A.l (some ⟨b, o, none⟩) n cp (S.getD x 0) (S.getD y 0) W ((HL5.out.below hB.out).below hW) hin hjn (fun k hk => by have := HSS.out k hk; omega)
            have hDi := fun w' => HD.out si (by have := (HSS.out _ hin).1; rwa [sAt_get hsi] at this) w'
            have hDj := fun w' => HD.out sj (by have := (HSS.out _ hjn).1; rwa [sAt_get hsj] at this) w'
            have hdi : dAt g c A.l (S.getD x 0) = dOf g c si := by unfold dAt; rw [sAt_get hsi]
            have hdj : dAt g c A.l (S.getD y 0) = dOf g c sj := by unfold dAt; rw [sAt_get hsj]
            have bt : -1000000 ≤ lat A.l (S.getD x 0) (S.getD y 0) ∧ lat A.l (S.getD x 0) (S.getD y 0) ≤ 1000000 := by
              have h1 := HSS.out _ hin
              have h2 := HSS.out _ hjn
              unfold lat; omega
            obtain ⟨T, hT⟩ : ∃ T, T = lat A.l (S.getD x 0) (S.getD y 0) := ⟨_, rfl⟩
            have bdi := dOf_bd g c si
            have bdj := dOf_bd g c sj
            obtain ⟨⟨a1, a2⟩, hA1⟩ : ∃ p, p = dOf g c si := ⟨_, rfl⟩
            obtain ⟨⟨b1, b2⟩, hA2⟩ : ∃ p, p = dOf g c sj := ⟨_, rfl⟩
            rw [show dist g c ⟨si.x, si.y, si.z⟩ = (a1, a2) from hA1.symm] at hDi
            rw [show dist g c ⟨sj.x, sj.y, sj.z⟩ = (b1, b2) from hA2.symm] at hDj
            rw [← hA1] at bdi hdi
            rw [← hA2] at bdj hdj
            rw [← hT] at hLA bt
            obtain ⟨sx, sy, sz, _, _⟩ := si
            obtain ⟨tx, ty, tz, _, _⟩ := sj
            simp only at u0 u1 u2 v0 v1 v2 hDi hDj bdi bdj
            have hkk : kpS g A c v S x y = decide (b2 - a1 ≤ v * T) := by unfold kpS keep; rw [hdi, hdj, hT]
            have hij : S.getD x 0 ≠ S.getD y 0 := fun h => hxy (nodup_getD HND.out (by rw [HSL.out]; exact hx) (by rw [HSL.out]; exact hy) h)
            have m1 := mulb (a := v) (b := T) 10000 1000000 10000000000 (by omega) (by omega) bt.1 bt.2 (by omega)
            have w1 : IntKind.i64.wrap (b2 - a1) = b2 - a1 := by rw [IntKind.wrap_i64]; omega
            have w2 : IntKind.i64.wrap (v * T) = v * T := by rw [IntKind.wrap_i64]; omega
            obtain ⟨i, hi⟩ : ∃ i, i = S.getD x 0 := ⟨_, rfl⟩
            obtain ⟨j, hj⟩ : ∃ j, j = S.getD y 0 := ⟨_, rfl⟩
            rw [← hi] at hcx hin u0 u1 u2 hLA hij
            rw [← hj] at hcy hjn v0 v1 v2 hLA hij
            have HDi := Lib.hid hDi
            have HDj := Lib.hid hDj
            have HLA := Lib.hid hLA
            have i0 : (0 : Int) ≤ (i : Int) := by omega
            have i1 : (i : Int) < (n : Int) := by omega
            have j0 : (0 : Int) ≤ (j : Int) := by omega
            have j1 : (j : Int) < (n : Int) := by omega
            have x0 : (0 : Int) ≤ (x : Int) := by omega
            have x1 : (x : Int) < (k : Int) := by omega
            have y0 : (0 : Int) ≤ (y : Int) := by omega
            have y1 : (y : Int) < (k : Int) := by omega
            clear hcs hsi hsj hA1 hA2 hdi hdj hDi hDj hLA hi hj hT
            have hne : ((i : Int) != (j : Int)) = true := by simp; omega
            have HKK := Lib.hid hkk
            clear hkk hij
            by_cases hkp : b2 - a1 ≤ v * T
            · have HK2 := Lib.hid (show ∀ z, z < y + 1 → x ≠ z → kpS g A c v S x z = true from fun z h1 h2 => by
                by_cases he : z = y
                · subst he; rw [HKK.out]; exact decide_eq_true hkp
                · exact hKy.out z (by omega) h2)
              clear hKy
              go_wp2_with fail
              go_quiet (fail)
              go_wp2_with fail
              refine later_of_eq 31 (by kernel_rfl) (by kernel_rfl) ?_; simp only [List.take_succ_cons, List.take_zero, List.drop_succ_cons, List.drop_zero]; repeat go_big_quiet_step (first | (with_reducible exact calls_later (HDi.out _)) | (with_reducible exact calls_later (HDj.out _)) | (with_reducible exact calls_later (HLA.out _ (Below.trans (by (repeat' (first | (with_reducible exact Below.refl _ _) | (with_reducible assumption) | (with_reducible refine Below.drewN ?_ _) | (with_reducible refine Below.alloc ?_ ?_ _) | (with_reducible refine Below.drew ?_) | (with_reducible refine Below.setCell ?_ ?_ _) | (with_reducible refine Below.step (by assumption) ?_ ?_) | (with_reducible exact And.left (by assumption)) | go_size))) (Below.mono (Later.below _) (by simp))))))
              refine wpQuiet_nil ?_; intro w7 hb7
              have HB7 := Lib.hid (show Below w5.heap.size w5 w7 from hB.out.trans ((show Below wr.heap.size wr w7 by (repeat' (first | (with_reducible exact Below.refl _ _) | (with_reducible assumption) | (with_reducible refine Below.drewN ?_ _) | (with_reducible refine Below.alloc ?_ ?_ _) | (with_reducible refine Below.drew ?_) | (with_reducible refine Below.setCell ?_ ?_ _) | (with_reducible refine Below.step (by assumption) ?_ ?_) | (with_reducible exact And.left (by assumption)) | go_size))).mono hB.out.size))
              clear hb7 hB w1 w2
              go_wp2
              go_roundw
              case rel => exact ⟨y + 1, by go_num, by omega, HK2, HB7⟩
              case measure => simp [intOf]; omega
            · have hVf : V = false := by rw [HV.out]; exact allP_false hx hy hxy (by rw [HKK.out]; exact decide_eq_false hkp)
              subst hVf
              clear hKy HKK HV
              go_wp2_with fail
              go_quiet (fail)
              go_wp2_with fail
              refine later_of_eq 31 (by kernel_rfl) (by kernel_rfl) ?_; simp only [List.take_succ_cons, List.take_zero, List.drop_succ_cons, List.drop_zero]; repeat go_big_quiet_step (first | (with_reducible exact calls_later (HDi.out _)) | (with_reducible exact calls_later (HDj.out _)) | (with_reducible exact calls_later (HLA.out _ (Below.trans (by (repeat' (first | (with_reducible exact Below.refl _ _) | (with_reducible assumption) | (with_reducible refine Below.drewN ?_ _) | (with_reducible refine Below.alloc ?_ ?_ _) | (with_reducible refine Below.drew ?_) | (with_reducible refine Below.setCell ?_ ?_ _) | (with_reducible refine Below.step (by assumption) ?_ ?_) | (with_reducible exact And.left (by assumption)) | go_size))) (Below.mono (Later.below _) (by simp))))))
              refine wpQuiet_nil ?_; intro w7 hb7
              have HB7 := Lib.hid (show Below w5.heap.size w5 w7 from hB.out.trans ((show Below wr.heap.size wr w7 by (repeat' (first | (with_reducible exact Below.refl _ _) | (with_reducible assumption) | (with_reducible refine Below.drewN ?_ _) | (with_reducible refine Below.alloc ?_ ?_ _) | (with_reducible refine Below.drew ?_) | (with_reducible refine Below.setCell ?_ ?_ _) | (with_reducible refine Below.step (by assumption) ?_ ?_) | (with_reducible exact And.left (by assumption)) | go_size))).mono hB.out.size))
              clear hb7 hB w1 w2
              go_wp2
              go_ret
              exact ⟨rfl, HB5.out.trans (HB7.out.mono HB5.out.size)⟩
        · obtain rfl : y = k := by omega
          have HK2 := Lib.hid (show ∀ x' y', x' < x + 1 → y' < y → x' ≠ y' → kpS g A c v S x' y' = true from fun x' y' h1 h2 h3 => by
            by_cases he : x' = x
            · subst he; exact hKy.out y' h2 h3
            · exact hK.out x' y' (by omega) h2 h3)
          clear hK hKy
          go_wp2
          go_roundw
          case rel => exact ⟨x + 1, by go_num, by omega, HK2, hB⟩
          case measure => simp [intOf]; omega
    · obtain rfl : x = k := by omega
      have hV : V = true := by rw [HV.out, allP_iff]; exact fun i j hi hj hne => hK.out i j hi hj hne
      subst hV
      clear HV hK
      go_wp2
      go_ret
      exact ⟨rfl, HB5.out.trans (hB.out.mono HB5.out.size)⟩
end Go.Proofs.YthkekjgdknnaiaaGreat

/- The reference of answers: the answer for a cell by some sensors. -/
namespace Go.Proofs.YthkekjgdknnaiaaGreat
open Go.RowKit
set_option linter.unusedVariables false

set_option maxHeartbeats 4000000 in
set_option maxRecDepth 100000 in
theorem rAnswer_any (g : Gri) (A : Arr) (c : T3) (S : List Nat) (a aS : Option Addr) (n cp k cs : Nat) (w : World) (hl : SenR w a n A.l) (hS : IntsR w aS k (nats S)) (hg : griE g = 0) (hc : celB g c = true)
    (hss : ∀ i, i < n → plc ⟨(sAt A.l i).x, (sAt A.l i).y, (sAt A.l i).z⟩ = true ∧ 0 ≤ (sAt A.l i).lo ∧ (sAt A.l i).lo ≤ (sAt A.l i).hi ∧ (sAt A.l i).hi ≤ 1000000) (hnd : S.Nodup) (hlt : ∀ i ∈ S, i < n) (hv : 1 ≤ A.lo ∧ A.lo ≤ A.hi ∧ A.hi ≤ 10000) :
    Calls Tryz.prog 114 #[.agg #[.int .i64 g.f.x, .int .i64 g.f.y, .int .i64 g.f.z, .int .i64 g.st, .int .i64 g.c.x, .int .i64 g.c.y, .int .i64 g.c.z], .agg #[.int .i64 A.lo, .int .i64 A.hi, .slice a n cp], .agg #[.int .i64 c.x, .int .i64 c.y, .int .i64 c.z], .slice aS k cs] w
      fun e' w' => e' = .returned (.int .i64 (ansS g A c S)) ∧ Below w.heap.size w w' := by
  have HK1 := Lib.hid (fun (W : World) (hb : Below w.heap.size w W) => rKeeps_any g A c S A.lo a aS n cp k cs W (hl.below hb) (hS.below hb) hg hc hss hnd hlt (by omega))
  have HK2 := Lib.hid (fun (W : World) (hb : Below w.heap.size w W) => rKeeps_any g A c S A.hi a aS n cp k cs W (hl.below hb) (hS.below hb) hg hc hss hnd hlt (by omega))
  have HL := Lib.hid hl
  have HSI := Lib.hid hS
  have HSL := Lib.hid (nats_len hS)
  have HSS := Lib.hid hss
  have HND := Lib.hid hnd
  have HLT := Lib.hid hlt
  have HD := Lib.hid (fun (s : Sen) (hs : plc ⟨s.x, s.y, s.z⟩ = true) w' => rDistance_any g c ⟨s.x, s.y, s.z⟩ w' hg hc hs)
  have hks := hS.small
  obtain ⟨V, hV⟩ : ∃ V, V = ansS g A c S := ⟨_, rfl⟩
  rw [← hV]
  unfold ansS at hV
  rw [nats_len hS] at hV
  clear hl hS hg hc hss hnd hlt
  have HV := Lib.hid hV
  clear hV
  go_enter Tryz.func114, Tryz.ntmps114
  go_wp2_with fail
  generalize hW : World.alloc _ _ = w5
  have hb5 : Below w.heap.size w w5 := by rw [← hW]; (repeat' (first | (with_reducible exact Below.refl _ _) | (with_reducible assumption) | (with_reducible refine Below.drewN ?_ _) | (with_reducible refine Below.alloc ?_ ?_ _) | (with_reducible refine Below.drew ?_) | (with_reducible refine Below.setCell ?_ ?_ _) | (with_reducible refine Below.step (by assumption) ?_ ?_) | (with_reducible exact And.left (by assumption)) | go_size))
  have q0 : w5.cell? ⟨w.heap.size, 0, none⟩ = some (.int .i64 g.f.x) := by { rw [← hW]; clear hW; go_simp }
  have q1 : w5.cell? ⟨w.heap.size, 1, none⟩ = some (.int .i64 g.f.y) := by { rw [← hW]; clear hW; go_simp }
  have q2 : w5.cell? ⟨w.heap.size, 2, none⟩ = some (.int .i64 g.f.z) := by { rw [← hW]; clear hW; go_simp }
  have q3 : w5.cell? ⟨w.heap.size, 3, none⟩ = some (.int .i64 g.st) := by { rw [← hW]; clear hW; go_simp }
  have q4 : w5.cell? ⟨w.heap.size, 4, none⟩ = some (.int .i64 g.c.x) := by { rw [← hW]; clear hW; go_simp }
  have q5 : w5.cell? ⟨w.heap.size, 5, none⟩ = some (.int .i64 g.c.y) := by { rw [← hW]; clear hW; go_simp }
  have q6 : w5.cell? ⟨w.heap.size, 6, none⟩ = some (.int .i64 g.c.z) := by { rw [← hW]; clear hW; go_simp }
  have p0 : w5.cell? ⟨w.heap.size + 1, 0, none⟩ = some (.int .i64 A.lo) := by { rw [← hW]; clear hW; go_simp }
  have p1 : w5.cell? ⟨w.heap.size + 1, 1, none⟩ = some (.int .i64 A.hi) := by { rw [← hW]; clear hW; go_simp }
  have p2 : w5.cell? ⟨w.heap.size + 1, 2, none⟩ = some (.slice a n cp) := by { rw [← hW]; clear hW; go_simp }
  have d0 : w5.cell? ⟨w.heap.size + 1 + 1, 0, none⟩ = some (.int .i64 c.x) := by { rw [← hW]; clear hW; go_simp }
  have d1 : w5.cell? ⟨w.heap.size + 1 + 1, 1, none⟩ = some (.int .i64 c.y) := by { rw [← hW]; clear hW; go_simp }
  have d2 : w5.cell? ⟨w.heap.size + 1 + 1, 2, none⟩ = some (.int .i64 c.z) := by { rw [← hW]; clear hW; go_simp }
  have z5 : w5.heap.size = w.heap.size + 1 + 1 + 1 := by rw [← hW]; simp
  have HB5 := Lib.hid hb5
  have HL5 := Lib.hid (HL.out.below hb5)
  have HS5 := Lib.hid (HSI.out.below hb5)
  obtain ⟨X, hX⟩ : ∃ X, X = w.heap.size := ⟨_, rfl⟩
  rw [← hX] at q0 q1 q2 q3 q4 q5 q6 p0 p1 p2 d0 d1 d2 z5
  rw [← hX]
  have HC5 := Lib.hid (And.intro q0 (And.intro q1 (And.intro q2 (And.intro q3 (And.intro q4 (And.intro q5 (And.intro q6 (And.intro p0 (And.intro p1 (And.intro p2 (And.intro d0 (And.intro d1 d2))))))))))))
  have x5 : X + 1 + 1 < w5.heap.size := by omega
  have xw : w.heap.size ≤ X := by omega
  clear hW hb5 z5 hX q0 q1 q2 q3 q4 q5 q6 p0 p1 p2 d0 d1 d2
  go_loopw [9] (fun x wr => ∃ i : Nat, x = .int .i64 i ∧ i ≤ k ∧ Hid (∀ x y, x < i → y < k → x ≠ y → exS g A c S x y = false) ∧ Hid (Below w5.heap.size w5 wr)) (fun x _ => k - (intOf x).toNat)
  case atStart => exact ⟨0, rfl, Nat.zero_le _, Lib.hid (fun x y h => absurd h (by omega)), Lib.hid (Below.refl _ _)⟩
  case round =>
    obtain ⟨x, rfl, hxk, hK, hB⟩ := hrel
    have x0 : (0 : Int) ≤ (x : Int) := by omega
    rcases Nat.lt_or_ge x k with hx | hx
    · have x1 : (x : Int) < (k : Int) := by omega
      go_wp2_with fail
      go_loopw [10] (fun y wr => ∃ j : Nat, y = .int .i64 j ∧ j ≤ k ∧ Hid (∀ y, y < j → x ≠ y → exS g A c S x y = false) ∧ Hid (Below w5.heap.size w5 wr)) (fun x _ => k - (intOf x).toNat)
      case atStart => exact ⟨0, rfl, Nat.zero_le _, Lib.hid (fun y h => absurd h (by omega)), hB⟩
      case round =>
        clear hB
        obtain ⟨y, rfl, hyk, hKy, hB⟩ := hrel
        have y0 : (0 : Int) ≤ (y : Int) := by omega
        rcases Nat.lt_or_ge y k with hy | hy
        · have y1 : (y : Int) < (k : Int) := by omega
          by_cases hxy : x = y
          · subst hxy
            obtain ⟨bs, os, rfl, hbs, hcx⟩ := nats_at (HS5.out.below hB.out) hx
            generalize S.getD x 0 = i at hcx
            have hne : ((i : Int) == (i : Int)) = true := by simp
            have HK2' := Lib.hid (show ∀ y, y < x + 1 → x ≠ y → exS g A c S x y = false from fun y h1 h2 => hKy.out y (by omega) h2)
            clear hK hKy
            go_wp2_with fail
            go_quiet (fail)
            go_wp2
            go_roundw
            case rel => exact ⟨x + 1, by go_num, by omega, HK2', Lib.hid (by have := hB.out; (repeat' (first | (with_reducible exact Below.refl _ _) | (with_reducible assumption) | (with_reducible refine Below.drewN ?_ _) | (with_reducible refine Below.alloc ?_ ?_ _) | (with_reducible refine Below.drew ?_) | (with_reducible refine Below.setCell ?_ ?_ _) | (with_reducible refine Below.step (by assumption) ?_ ?_) | (with_reducible exact And.left (by assumption)) | go_size)))⟩
            case measure => simp [intOf]; omega
          · skip
            obtain ⟨q0, q1, q2, q3, q4, q5, q6, p0, p1, p2, d0, d1, d2⟩ := HC5.out
            have hBx := hB.out
            have q0r : wr.cell? ⟨X, 0, none⟩ = some (.int .i64 g.f.x) := by { rw [cellB hBx _ _ (by first | (simp; done) | (simp; omega) | omega)]; all_goals (first | assumption | go_simp) }; have q1r : wr.cell? ⟨X, 1, none⟩ = some (.int .i64 g.f.y) := by { rw [cellB hBx _ _ (by first | (simp; done) | (simp; omega) | omega)]; all_goals (first | assumption | go_simp) }; have q2r : wr.cell? ⟨X, 2, none⟩ = some (.int .i64 g.f.z) := by { rw [cellB hBx _ _ (by first | (simp; done) | (simp; omega) | omega)]; all_goals (first | assumption | go_simp) }; have q3r : wr.cell? ⟨X, 3, none⟩ = some (.int .i64 g.st) := by { rw [cellB hBx _ _ (by first | (simp; done) | (simp; omega) | omega)]; all_goals (first | assumption | go_simp) }; have q4r : wr.cell? ⟨X, 4, none⟩ = some (.int .i64 g.c.x) := by { rw [cellB hBx _ _ (by first | (simp; done) | (simp; omega) | omega)]; all_goals (first | assumption | go_simp) }; have q5r : wr.cell? ⟨X, 5, none⟩ = some (.int .i64 g.c.y) := by { rw [cellB hBx _ _ (by first | (simp; done) | (simp; omega) | omega)]; all_goals (first | assumption | go_simp) }; have q6r : wr.cell? ⟨X, 6, none⟩ = some (.int .i64 g.c.z) := by { rw [cellB hBx _ _ (by first | (simp; done) | (simp; omega) | omega)]; all_goals (first | assumption | go_simp) }; have p0r : wr.cell? ⟨X + 1, 0, none⟩ = some (.int .i64 A.lo) := by { rw [cellB hBx _ _ (by first | (simp; done) | (simp; omega) | omega)]; all_goals (first | assumption | go_simp) }; have p1r : wr.cell? ⟨X + 1, 1, none⟩ = some (.int .i64 A.hi) := by { rw [cellB hBx _ _ (by first | (simp; done) | (simp; omega) | omega)]; all_goals (first | assumption | go_simp) }; have p2r : wr.cell? ⟨X + 1, 2, none⟩ = some (.slice a n cp) := by { rw [cellB hBx _ _ (by first | (simp; done) | (simp; omega) | omega)]; all_goals (first | assumption | go_simp) }; have d0r : wr.cell? ⟨X + 1 + 1, 0, none⟩ = some (.int .i64 c.x) := by { rw [cellB hBx _ _ (by first | (simp; done) | (simp; omega) | omega)]; all_goals (first | assumption | go_simp) }; have d1r : wr.cell? ⟨X + 1 + 1, 1, none⟩ = some (.int .i64 c.y) := by { rw [cellB hBx _ _ (by first | (simp; done) | (simp; omega) | omega)]; all_goals (first | assumption | go_simp) }; have d2r : wr.cell? ⟨X + 1 + 1, 2, none⟩ = some (.int .i64 c.z) := by { rw [cellB hBx _ _ (by first | (simp; done) | (simp; omega) | omega)]; all_goals (first | assumption | go_simp) }
            have hzr := hBx.size
            have lr0 : X < wr.heap.size := by omega
            have lr1 : X + 1 < wr.heap.size := by omega
            have lr2 : X + 1 + 1 < wr.heap.size := by omega
            clear q0 q1 q2 q3 q4 q5 q6 p0 p1 p2 d0 d1 d2 hBx
            obtain ⟨bs, os, rfl, hbs, hcx⟩ := nats_at (HS5.out.below hB.out) hx
            obtain ⟨bs', os', he, _, hcy⟩ := nats_at (HS5.out.below hB.out) hy
            obtain ⟨rfl, rfl⟩ : bs = bs' ∧ os = os' := by simpa using he
            clear he
            have hin : S.getD x 0 < n := getD_lt HLT.out (by rw [HSL.out]; exact hx)
            have hjn : S.getD y 0 < n := getD_lt HLT.out (by rw [HSL.out]; exact hy)
            obtain ⟨b, o, rfl, hbb, hcs⟩ := (HL5.out.below hB.out).addr (by omega)
            obtain ⟨si, hsi⟩ := ER.get HL.out hin
            obtain ⟨sj, hsj⟩ := ER.get HL.out hjn
            obtain ⟨u0, u1, u2, _, _⟩ := hcs _ si hsi
            obtain ⟨v0, v1, v2, _, _⟩ := hcs _ sj hsj
            have hLA := fun (W : World) (hW : Below wr.heap.size wr W) => rLate_any A.lo A.hi A.l (some ⟨b, o, none⟩) n cp (S.getD x 0) (S.getD y 0) W ((HL5.out.below hB.out).below hW) hin hjn (fun k hk => by have := HSS.out k hk; omega)
            have hDi := fun w' => HD.out si (by have := (HSS.out _ hin).1; rwa [sAt_get hsi] at this) w'
            have hDj := fun w' => HD.out sj (by have := (HSS.out _ hjn).1; rwa [sAt_get hsj] at this) w'
            have hdi : dAt g c A.l (S.getD x 0) = dOf g c si := by unfold dAt; rw [sAt_get hsi]
            have hdj : dAt g c A.l (S.getD y 0) = dOf g c sj := by unfold dAt; rw [sAt_get hsj]
            have bt : -1000000 ≤ lat A.l (S.getD x 0) (S.getD y 0) ∧ lat A.l (S.getD x 0) (S.getD y 0) ≤ 1000000 := by
              have h1 := HSS.out _ hin
              have h2 := HSS.out _ hjn
              unfold lat; omega
            obtain ⟨T, hT⟩ : ∃ T, T = lat A.l (S.getD x 0) (S.getD y 0) := ⟨_, rfl⟩
            have bdi := dOf_bd g c si
            have bdj := dOf_bd g c sj
            obtain ⟨⟨a1, a2⟩, hA1⟩ : ∃ p, p = dOf g c si := ⟨_, rfl⟩
            obtain ⟨⟨b1, b2⟩, hA2⟩ : ∃ p, p = dOf g c sj := ⟨_, rfl⟩
            rw [show dist g c ⟨si.x, si.y, si.z⟩ = (a1, a2) from hA1.symm] at hDi
            rw [show dist g c ⟨sj.x, sj.y, sj.z⟩ = (b1, b2) from hA2.symm] at hDj
            rw [← hA1] at bdi hdi
            rw [← hA2] at bdj hdj
            rw [← hT] at hLA bt
            obtain ⟨sx, sy, sz, _, _⟩ := si
            obtain ⟨tx, ty, tz, _, _⟩ := sj
            simp only at u0 u1 u2 v0 v1 v2 hDi hDj bdi bdj
            have hkk : exS g A c S x y = decide (b1 - a2 > max (A.lo * T) (A.hi * T)) := by unfold exS excl; rw [hdi, hdj, hT]
            have hij : S.getD x 0 ≠ S.getD y 0 := fun h => hxy (nodup_getD HND.out (by rw [HSL.out]; exact hx) (by rw [HSL.out]; exact hy) h)
            have m1 := mulb (a := A.lo) (b := T) 10000 1000000 10000000000 (by omega) (by omega) bt.1 bt.2 (by omega)
            have m2 := mulb (a := A.hi) (b := T) 10000 1000000 10000000000 (by omega) (by omega) bt.1 bt.2 (by omega)
            have w1 : IntKind.i64.wrap (b1 - a2) = b1 - a2 := by rw [IntKind.wrap_i64]; omega
            have w2 : IntKind.i64.wrap (A.lo * T) = A.lo * T := by rw [IntKind.wrap_i64]; omega
            have w3 : IntKind.i64.wrap (A.hi * T) = A.hi * T := by rw [IntKind.wrap_i64]; omega
            obtain ⟨i, hi⟩ : ∃ i, i = S.getD x 0 := ⟨_, rfl⟩
            obtain ⟨j, hj⟩ : ∃ j, j = S.getD y 0 := ⟨_, rfl⟩
            rw [← hi] at hcx hin u0 u1 u2 hLA hij
            rw [← hj] at hcy hjn v0 v1 v2 hLA hij
            have HDi := Lib.hid hDi
            have HDj := Lib.hid hDj
            have HLA := Lib.hid hLA
            have i0 : (0 : Int) ≤ (i : Int) := by omega
            have i1 : (i : Int) < (n : Int) := by omega
            have j0 : (0 : Int) ≤ (j : Int) := by omega
            have j1 : (j : Int) < (n : Int) := by omega
            have x0 : (0 : Int) ≤ (x : Int) := by omega
            have x1 : (x : Int) < (k : Int) := by omega
            have y0 : (0 : Int) ≤ (y : Int) := by omega
            have y1 : (y : Int) < (k : Int) := by omega
            clear hcs hsi hsj hA1 hA2 hdi hdj hDi hDj hLA hi hj hT
            have hne : ((i : Int) == (j : Int)) = false := by simp; omega
            have HKK := Lib.hid hkk
            clear hkk hij
            by_cases hp1 : A.lo * T < b1 - a2
            · by_cases hp2 : A.hi * T < b1 - a2
              · have hV0 : V = 0 := by
                  rw [HV.out, if_neg]
                  rw [Bool.not_eq_true]
                  exact allP_false hx hy hxy (by rw [HKK.out]; simp; omega)
                subst hV0
                clear hK hKy HKK HV
                go_wp2_with fail
                go_quiet (fail)
                go_wp2_with fail
                refine later_of_eq 20 (by kernel_rfl) (by kernel_rfl) ?_; simp only [List.take_succ_cons, List.take_zero, List.drop_succ_cons, List.drop_zero]; repeat go_big_quiet_step (first | (with_reducible exact calls_later (HDi.out _)) | (with_reducible exact calls_later (HDj.out _)))
                refine wpQuiet_nil ?_; intro w7 hb7
                have HB7 := Lib.hid (show Below w5.heap.size w5 w7 from hB.out.trans ((show Below wr.heap.size wr w7 by (repeat' (first | (with_reducible exact Below.refl _ _) | (with_reducible assumption) | (with_reducible refine Below.drewN ?_ _) | (with_reducible refine Below.alloc ?_ ?_ _) | (with_reducible refine Below.drew ?_) | (with_reducible refine Below.setCell ?_ ?_ _) | (with_reducible refine Below.step (by assumption) ?_ ?_) | (with_reducible exact And.left (by assumption)) | go_size))).mono hB.out.size))
                have hbr7 : Below wr.heap.size wr w7 := by (repeat' (first | (with_reducible exact Below.refl _ _) | (with_reducible assumption) | (with_reducible refine Below.drewN ?_ _) | (with_reducible refine Below.alloc ?_ ?_ _) | (with_reducible refine Below.drew ?_) | (with_reducible refine Below.setCell ?_ ?_ _) | (with_reducible refine Below.step (by assumption) ?_ ?_) | (with_reducible exact And.left (by assumption)) | go_size))
                have hz7 := hbr7.size
                have p0 : w7.cell? ⟨X + 1, 0, none⟩ = some (.int .i64 A.lo) := by { rw [cellB hbr7 _ _ (by first | (simp; done) | (simp; omega) | omega)]; all_goals (first | assumption | go_simp) }; have p1 : w7.cell? ⟨X + 1, 1, none⟩ = some (.int .i64 A.hi) := by { rw [cellB hbr7 _ _ (by first | (simp; done) | (simp; omega) | omega)]; all_goals (first | assumption | go_simp) }; have p2 : w7.cell? ⟨X + 1, 2, none⟩ = some (.slice (some ⟨b, o, none⟩) n cp) := by { rw [cellB hbr7 _ _ (by first | (simp; done) | (simp; omega) | omega)]; all_goals (first | assumption | go_simp) }
                have l70 : X + 1 < w7.heap.size := by omega
                have HL7 := Lib.hid (fun (W : World) (hW : Below w7.heap.size w7 W) => HLA.out W (hbr7.trans (hW.mono hbr7.size)))
                clear hb7 hbr7 HLA HDi HDj q0r q1r q2r q3r q4r q5r q6r p0r p1r p2r d0r d1r d2r hcx hcy u0 u1 u2 v0 v1 v2 lr0 lr1 lr2
                go_wp2_with fail
                refine later_of_eq 20 (by kernel_rfl) (by kernel_rfl) ?_; simp only [List.take_succ_cons, List.take_zero, List.drop_succ_cons, List.drop_zero]; repeat go_big_quiet_step (first | (with_reducible exact calls_later (HL7.out _ (Below.trans (by (repeat' (first | (with_reducible exact Below.refl _ _) | (with_reducible assumption) | (with_reducible refine Below.drewN ?_ _) | (with_reducible refine Below.alloc ?_ ?_ _) | (with_reducible refine Below.drew ?_) | (with_reducible refine Below.setCell ?_ ?_ _) | (with_reducible refine Below.step (by assumption) ?_ ?_) | (with_reducible exact And.left (by assumption)) | go_size))) (Below.mono (Later.below _) (by simp))))))
                refine wpQuiet_nil ?_; intro w8 hb8
                have HB8 := Lib.hid (show Below w5.heap.size w5 w8 from HB7.out.trans ((show Below w7.heap.size w7 w8 by (repeat' (first | (with_reducible exact Below.refl _ _) | (with_reducible assumption) | (with_reducible refine Below.drewN ?_ _) | (with_reducible refine Below.alloc ?_ ?_ _) | (with_reducible refine Below.drew ?_) | (with_reducible refine Below.setCell ?_ ?_ _) | (with_reducible refine Below.step (by assumption) ?_ ?_) | (with_reducible exact And.left (by assumption)) | go_size))).mono HB7.out.size))
                clear hb8 HB7 hB
                go_wp2_with fail
                go_ret
                exact ⟨rfl, HB5.out.trans (HB8.out.mono HB5.out.size)⟩
              · have HK2' := Lib.hid (show ∀ z, z < y + 1 → x ≠ z → exS g A c S x z = false from fun z h1 h2 => by
                  by_cases he : z = y
                  · subst he; rw [HKK.out]; simp; omega
                  · exact hKy.out z (by omega) h2)
                clear hKy
                go_wp2_with fail
                go_quiet (fail)
                go_wp2_with fail
                refine later_of_eq 20 (by kernel_rfl) (by kernel_rfl) ?_; simp only [List.take_succ_cons, List.take_zero, List.drop_succ_cons, List.drop_zero]; repeat go_big_quiet_step (first | (with_reducible exact calls_later (HDi.out _)) | (with_reducible exact calls_later (HDj.out _)))
                refine wpQuiet_nil ?_; intro w7 hb7
                have HB7 := Lib.hid (show Below w5.heap.size w5 w7 from hB.out.trans ((show Below wr.heap.size wr w7 by (repeat' (first | (with_reducible exact Below.refl _ _) | (with_reducible assumption) | (with_reducible refine Below.drewN ?_ _) | (with_reducible refine Below.alloc ?_ ?_ _) | (with_reducible refine Below.drew ?_) | (with_reducible refine Below.setCell ?_ ?_ _) | (with_reducible refine Below.step (by assumption) ?_ ?_) | (with_reducible exact And.left (by assumption)) | go_size))).mono hB.out.size))
                have hbr7 : Below wr.heap.size wr w7 := by (repeat' (first | (with_reducible exact Below.refl _ _) | (with_reducible assumption) | (with_reducible refine Below.drewN ?_ _) | (with_reducible refine Below.alloc ?_ ?_ _) | (with_reducible refine Below.drew ?_) | (with_reducible refine Below.setCell ?_ ?_ _) | (with_reducible refine Below.step (by assumption) ?_ ?_) | (with_reducible exact And.left (by assumption)) | go_size))
                have hz7 := hbr7.size
                have p0 : w7.cell? ⟨X + 1, 0, none⟩ = some (.int .i64 A.lo) := by { rw [cellB hbr7 _ _ (by first | (simp; done) | (simp; omega) | omega)]; all_goals (first | assumption | go_simp) }; have p1 : w7.cell? ⟨X + 1, 1, none⟩ = some (.int .i64 A.hi) := by { rw [cellB hbr7 _ _ (by first | (simp; done) | (simp; omega) | omega)]; all_goals (first | assumption | go_simp) }; have p2 : w7.cell? ⟨X + 1, 2, none⟩ = some (.slice (some ⟨b, o, none⟩) n cp) := by { rw [cellB hbr7 _ _ (by first | (simp; done) | (simp; omega) | omega)]; all_goals (first | assumption | go_simp) }
                have l70 : X + 1 < w7.heap.size := by omega
                have HL7 := Lib.hid (fun (W : World) (hW : Below w7.heap.size w7 W) => HLA.out W (hbr7.trans (hW.mono hbr7.size)))
                clear hb7 hbr7 HLA HDi HDj q0r q1r q2r q3r q4r q5r q6r p0r p1r p2r d0r d1r d2r hcx hcy u0 u1 u2 v0 v1 v2 lr0 lr1 lr2
                go_wp2_with fail
                refine later_of_eq 20 (by kernel_rfl) (by kernel_rfl) ?_; simp only [List.take_succ_cons, List.take_zero, List.drop_succ_cons, List.drop_zero]; repeat go_big_quiet_step (first | (with_reducible exact calls_later (HL7.out _ (Below.trans (by (repeat' (first | (with_reducible exact Below.refl _ _) | (with_reducible assumption) | (with_reducible refine Below.drewN ?_ _) | (with_reducible refine Below.alloc ?_ ?_ _) | (with_reducible refine Below.drew ?_) | (with_reducible refine Below.setCell ?_ ?_ _) | (with_reducible refine Below.step (by assumption) ?_ ?_) | (with_reducible exact And.left (by assumption)) | go_size))) (Below.mono (Later.below _) (by simp))))))
                refine wpQuiet_nil ?_; intro w8 hb8
                have HB8 := Lib.hid (show Below w5.heap.size w5 w8 from HB7.out.trans ((show Below w7.heap.size w7 w8 by (repeat' (first | (with_reducible exact Below.refl _ _) | (with_reducible assumption) | (with_reducible refine Below.drewN ?_ _) | (with_reducible refine Below.alloc ?_ ?_ _) | (with_reducible refine Below.drew ?_) | (with_reducible refine Below.setCell ?_ ?_ _) | (with_reducible refine Below.step (by assumption) ?_ ?_) | (with_reducible exact And.left (by assumption)) | go_size))).mono HB7.out.size))
                clear hb8 HB7 hB
                go_wp2_with fail
                go_roundw
                case rel => exact ⟨y + 1, by go_num, by omega, HK2', HB8⟩
                case measure => simp [intOf]; omega
            · have hd1 : decide (A.lo * T < b1 - a2) = false := decide_eq_false (by omega)
              have hd2 : (A.lo * T < b1 - a2) = False := by simp; omega
              have HK2' := Lib.hid (show ∀ z, z < y + 1 → x ≠ z → exS g A c S x z = false from fun z h1 h2 => by
                by_cases he : z = y
                · subst he; rw [HKK.out]; simp; omega
                · exact hKy.out z (by omega) h2)
              clear hKy
              go_wp2_with fail
              go_quiet (fail)
              go_wp2_with fail
              refine later_of_eq 20 (by kernel_rfl) (by kernel_rfl) ?_; simp only [List.take_succ_cons, List.take_zero, List.drop_succ_cons, List.drop_zero]; repeat go_big_quiet_step (first | (with_reducible exact calls_later (HDi.out _)) | (with_reducible exact calls_later (HDj.out _)))
              refine wpQuiet_nil ?_; intro w7 hb7
              have HB7 := Lib.hid (show Below w5.heap.size w5 w7 from hB.out.trans ((show Below wr.heap.size wr w7 by (repeat' (first | (with_reducible exact Below.refl _ _) | (with_reducible assumption) | (with_reducible refine Below.drewN ?_ _) | (with_reducible refine Below.alloc ?_ ?_ _) | (with_reducible refine Below.drew ?_) | (with_reducible refine Below.setCell ?_ ?_ _) | (with_reducible refine Below.step (by assumption) ?_ ?_) | (with_reducible exact And.left (by assumption)) | go_size))).mono hB.out.size))
              have hbr7 : Below wr.heap.size wr w7 := by (repeat' (first | (with_reducible exact Below.refl _ _) | (with_reducible assumption) | (with_reducible refine Below.drewN ?_ _) | (with_reducible refine Below.alloc ?_ ?_ _) | (with_reducible refine Below.drew ?_) | (with_reducible refine Below.setCell ?_ ?_ _) | (with_reducible refine Below.step (by assumption) ?_ ?_) | (with_reducible exact And.left (by assumption)) | go_size))
              have hz7 := hbr7.size
              have p0 : w7.cell? ⟨X + 1, 0, none⟩ = some (.int .i64 A.lo) := by { rw [cellB hbr7 _ _ (by first | (simp; done) | (simp; omega) | omega)]; all_goals (first | assumption | go_simp) }; have p1 : w7.cell? ⟨X + 1, 1, none⟩ = some (.int .i64 A.hi) := by { rw [cellB hbr7 _ _ (by first | (simp; done) | (simp; omega) | omega)]; all_goals (first | assumption | go_simp) }; have p2 : w7.cell? ⟨X + 1, 2, none⟩ = some (.slice (some ⟨b, o, none⟩) n cp) := by { rw [cellB hbr7 _ _ (by first | (simp; done) | (simp; omega) | omega)]; all_goals (first | assumption | go_simp) }
              have l70 : X + 1 < w7.heap.size := by omega
              have HL7 := Lib.hid (fun (W : World) (hW : Below w7.heap.size w7 W) => HLA.out W (hbr7.trans (hW.mono hbr7.size)))
              clear hb7 hbr7 HLA HDi HDj q0r q1r q2r q3r q4r q5r q6r p0r p1r p2r d0r d1r d2r hcx hcy u0 u1 u2 v0 v1 v2 lr0 lr1 lr2
              go_wp2_with fail
              refine later_of_eq 20 (by kernel_rfl) (by kernel_rfl) ?_; simp only [List.take_succ_cons, List.take_zero, List.drop_succ_cons, List.drop_zero]; repeat go_big_quiet_step (first | (with_reducible exact calls_later (HL7.out _ (Below.trans (by (repeat' (first | (with_reducible exact Below.refl _ _) | (with_reducible assumption) | (with_reducible refine Below.drewN ?_ _) | (with_reducible refine Below.alloc ?_ ?_ _) | (with_reducible refine Below.drew ?_) | (with_reducible refine Below.setCell ?_ ?_ _) | (with_reducible refine Below.step (by assumption) ?_ ?_) | (with_reducible exact And.left (by assumption)) | go_size))) (Below.mono (Later.below _) (by simp))))))
              refine wpQuiet_nil ?_; intro w8 hb8
              have HB8 := Lib.hid (show Below w5.heap.size w5 w8 from HB7.out.trans ((show Below w7.heap.size w7 w8 by (repeat' (first | (with_reducible exact Below.refl _ _) | (with_reducible assumption) | (with_reducible refine Below.drewN ?_ _) | (with_reducible refine Below.alloc ?_ ?_ _) | (with_reducible refine Below.drew ?_) | (with_reducible refine Below.setCell ?_ ?_ _) | (with_reducible refine Below.step (by assumption) ?_ ?_) | (with_reducible exact And.left (by assumption)) | go_size))).mono HB7.out.size))
              clear hb8 HB7 hB
              go_wp2_with fail
              go_roundw
              case rel => exact ⟨y + 1, by go_num, by omega, HK2', HB8⟩
              case measure => simp [intOf]; omega
        · obtain rfl : y = k := by omega
          have HK2' := Lib.hid (show ∀ x' y', x' < x + 1 → y' < y → x' ≠ y' → exS g A c S x' y' = false from fun x' y' h1 h2 h3 => by
            by_cases he : x' = x
            · subst he; exact hKy.out y' h2 h3
            · exact hK.out x' y' (by omega) h2 h3)
          clear hK hKy
          go_wp2
          go_roundw
          case rel => exact ⟨x + 1, by go_num, by omega, HK2', hB⟩
          case measure => simp [intOf]; omega
    · obtain rfl : x = k := by omega
      have hAll : allP x (fun x y => !exS g A c S x y) = true := by
        rw [allP_iff]
        exact fun i j hi hj hne => by rw [hK.out i j hi hj hne]; rfl
      have hV := HV.out
      rw [if_pos hAll] at hV
      have HV := Lib.hid hV
      obtain ⟨q0, q1, q2, q3, q4, q5, q6, p0, p1, p2, d0, d1, d2⟩ := HC5.out
      have hBx := hB.out
      have q0r : wr.cell? ⟨X, 0, none⟩ = some (.int .i64 g.f.x) := by { rw [cellB hBx _ _ (by first | (simp; done) | (simp; omega) | omega)]; all_goals (first | assumption | go_simp) }; have q1r : wr.cell? ⟨X, 1, none⟩ = some (.int .i64 g.f.y) := by { rw [cellB hBx _ _ (by first | (simp; done) | (simp; omega) | omega)]; all_goals (first | assumption | go_simp) }; have q2r : wr.cell? ⟨X, 2, none⟩ = some (.int .i64 g.f.z) := by { rw [cellB hBx _ _ (by first | (simp; done) | (simp; omega) | omega)]; all_goals (first | assumption | go_simp) }; have q3r : wr.cell? ⟨X, 3, none⟩ = some (.int .i64 g.st) := by { rw [cellB hBx _ _ (by first | (simp; done) | (simp; omega) | omega)]; all_goals (first | assumption | go_simp) }; have q4r : wr.cell? ⟨X, 4, none⟩ = some (.int .i64 g.c.x) := by { rw [cellB hBx _ _ (by first | (simp; done) | (simp; omega) | omega)]; all_goals (first | assumption | go_simp) }; have q5r : wr.cell? ⟨X, 5, none⟩ = some (.int .i64 g.c.y) := by { rw [cellB hBx _ _ (by first | (simp; done) | (simp; omega) | omega)]; all_goals (first | assumption | go_simp) }; have q6r : wr.cell? ⟨X, 6, none⟩ = some (.int .i64 g.c.z) := by { rw [cellB hBx _ _ (by first | (simp; done) | (simp; omega) | omega)]; all_goals (first | assumption | go_simp) }; have p0r : wr.cell? ⟨X + 1, 0, none⟩ = some (.int .i64 A.lo) := by { rw [cellB hBx _ _ (by first | (simp; done) | (simp; omega) | omega)]; all_goals (first | assumption | go_simp) }; have p1r : wr.cell? ⟨X + 1, 1, none⟩ = some (.int .i64 A.hi) := by { rw [cellB hBx _ _ (by first | (simp; done) | (simp; omega) | omega)]; all_goals (first | assumption | go_simp) }; have p2r : wr.cell? ⟨X + 1, 2, none⟩ = some (.slice a n cp) := by { rw [cellB hBx _ _ (by first | (simp; done) | (simp; omega) | omega)]; all_goals (first | assumption | go_simp) }; have d0r : wr.cell? ⟨X + 1 + 1, 0, none⟩ = some (.int .i64 c.x) := by { rw [cellB hBx _ _ (by first | (simp; done) | (simp; omega) | omega)]; all_goals (first | assumption | go_simp) }; have d1r : wr.cell? ⟨X + 1 + 1, 1, none⟩ = some (.int .i64 c.y) := by { rw [cellB hBx _ _ (by first | (simp; done) | (simp; omega) | omega)]; all_goals (first | assumption | go_simp) }; have d2r : wr.cell? ⟨X + 1 + 1, 2, none⟩ = some (.int .i64 c.z) := by { rw [cellB hBx _ _ (by first | (simp; done) | (simp; omega) | omega)]; all_goals (first | assumption | go_simp) }
      have hzr := hBx.size
      have HBW := Lib.hid (HB5.out.trans (hBx.mono HB5.out.size))
      clear q0 q1 q2 q3 q4 q5 q6 p0 p1 p2 d0 d1 d2 hBx hK hAll hV
      have l0 : X < wr.heap.size := by omega
      have l1 : X + 1 < wr.heap.size := by omega
      have l2 : X + 1 + 1 < wr.heap.size := by omega
      go_wp2_with fail
      refine (HK1.out _ HBW.out).mono ?_
      generalize allP x (kpS g A c A.lo S) = B1 at *
      rintro e7 w7 ⟨rfl, hb7⟩
      cases B1
      · have hz7 := hb7.size
        have q0 : w7.cell? ⟨X, 0, none⟩ = some (.int .i64 g.f.x) := by { rw [cellB hb7 _ _ (by first | (simp; done) | (simp; omega) | omega)]; all_goals (first | assumption | go_simp) }; have q1 : w7.cell? ⟨X, 1, none⟩ = some (.int .i64 g.f.y) := by { rw [cellB hb7 _ _ (by first | (simp; done) | (simp; omega) | omega)]; all_goals (first | assumption | go_simp) }; have q2 : w7.cell? ⟨X, 2, none⟩ = some (.int .i64 g.f.z) := by { rw [cellB hb7 _ _ (by first | (simp; done) | (simp; omega) | omega)]; all_goals (first | assumption | go_simp) }; have q3 : w7.cell? ⟨X, 3, none⟩ = some (.int .i64 g.st) := by { rw [cellB hb7 _ _ (by first | (simp; done) | (simp; omega) | omega)]; all_goals (first | assumption | go_simp) }; have q4 : w7.cell? ⟨X, 4, none⟩ = some (.int .i64 g.c.x) := by { rw [cellB hb7 _ _ (by first | (simp; done) | (simp; omega) | omega)]; all_goals (first | assumption | go_simp) }; have q5 : w7.cell? ⟨X, 5, none⟩ = some (.int .i64 g.c.y) := by { rw [cellB hb7 _ _ (by first | (simp; done) | (simp; omega) | omega)]; all_goals (first | assumption | go_simp) }; have q6 : w7.cell? ⟨X, 6, none⟩ = some (.int .i64 g.c.z) := by { rw [cellB hb7 _ _ (by first | (simp; done) | (simp; omega) | omega)]; all_goals (first | assumption | go_simp) }; have p0 : w7.cell? ⟨X + 1, 0, none⟩ = some (.int .i64 A.lo) := by { rw [cellB hb7 _ _ (by first | (simp; done) | (simp; omega) | omega)]; all_goals (first | assumption | go_simp) }; have p1 : w7.cell? ⟨X + 1, 1, none⟩ = some (.int .i64 A.hi) := by { rw [cellB hb7 _ _ (by first | (simp; done) | (simp; omega) | omega)]; all_goals (first | assumption | go_simp) }; have p2 : w7.cell? ⟨X + 1, 2, none⟩ = some (.slice a n cp) := by { rw [cellB hb7 _ _ (by first | (simp; done) | (simp; omega) | omega)]; all_goals (first | assumption | go_simp) }; have d0 : w7.cell? ⟨X + 1 + 1, 0, none⟩ = some (.int .i64 c.x) := by { rw [cellB hb7 _ _ (by first | (simp; done) | (simp; omega) | omega)]; all_goals (first | assumption | go_simp) }; have d1 : w7.cell? ⟨X + 1 + 1, 1, none⟩ = some (.int .i64 c.y) := by { rw [cellB hb7 _ _ (by first | (simp; done) | (simp; omega) | omega)]; all_goals (first | assumption | go_simp) }; have d2 : w7.cell? ⟨X + 1 + 1, 2, none⟩ = some (.int .i64 c.z) := by { rw [cellB hb7 _ _ (by first | (simp; done) | (simp; omega) | omega)]; all_goals (first | assumption | go_simp) }; have m0 : X < w7.heap.size := by { omega }; have m1 : X + 1 < w7.heap.size := by { omega }; have m2 : X + 1 + 1 < w7.heap.size := by { omega }
        have HB7 := Lib.hid (HBW.out.trans (hb7.mono HBW.out.size))
        clear hb7 q0r q1r q2r q3r q4r q5r q6r p0r p1r p2r d0r d1r d2r
        go_wp2_with fail
        refine (HK2.out _ HB7.out).mono ?_
        generalize allP x (kpS g A c A.hi S) = B2 at *
        rintro e8 w8 ⟨rfl, hb8⟩
        have HB8 := Lib.hid (HB7.out.trans (hb8.mono HB7.out.size))
        clear hb8 q0 q1 q2 q3 q4 q5 q6 p0 p1 p2 d0 d1 d2
        cases B2
        · have hV : V = 1 := by rw [HV.out]; rfl
          subst hV
          clear HV
          go_wp2
          go_ret
          exact ⟨rfl, HB8.out⟩
        · have hV : V = 2 := by rw [HV.out]; rfl
          subst hV
          clear HV
          go_wp2
          go_ret
          exact ⟨rfl, HB8.out⟩
      · have hV : V = 2 := by rw [HV.out, if_pos (.inl rfl)]
        subst hV
        have HB7 := Lib.hid (HBW.out.trans (hb7.mono HBW.out.size))
        clear hb7 HV
        go_wp2
        go_ret
        exact ⟨rfl, HB7.out⟩
end Go.Proofs.YthkekjgdknnaiaaGreat
