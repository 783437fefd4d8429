import Derived.Test.YthkekjgdknnaiaaGreatMRNet
/- The reference of responses: the response at a frequency. -/
namespace Go.Proofs.YthkekjgdknnaiaaGreat
open Go.RowKit
set_option linter.unusedVariables false

set_option maxHeartbeats 4000000 in
set_option maxRecDepth 100000 in
theorem rResponse_any (l : List T3) (f : Int) (a : Option Addr) (n c : Nat) (w : World) (hl : T3R w a n l) (hn : n ≤ 3) (hs : ∀ p ∈ l, secB p = true) (hf : 0 ≤ f ∧ f ≤ 6) :
    Calls Tryz.prog 149 #[.agg #[.slice a n c], .int .i64 f] w fun e' w' => e' = .returned (.agg #[.int .i64 (gPr l f).1, .int .i64 (gPr l f).2]) ∧ Below w.heap.size w w' := by
  have HL := Lib.hid hl
  have HLN := Lib.hid hl.len
  have HBD := Lib.hid (fun j => cAt_bd (w := f) (l := l) hf hs (by rw [hl.len]; exact hn) j)
  have HSB := Lib.hid (show ∀ p ∈ l, nG ((sOf p).z f) ≤ 23 ∧ nG ((sOf p).y f) ≤ 18 from fun p hp => ⟨z_bd hf (sec_ok (hs p hp)), y_bd hf (sec_ok (hs p hp))⟩)
  have HSV := Lib.hid (show ∀ p ∈ l, (0 ≤ p.x ∧ p.x ≤ 5) ∧ (0 ≤ p.y ∧ p.y ≤ 3) ∧ (0 ≤ p.z ∧ p.z ≤ 3) from fun p hp => by
    have := hs p hp
    simp only [secB, Bool.and_eq_true, wi_iff] at this
    exact ⟨this.1.1, this.1.2, this.2⟩)
  have HR0 := Lib.hid (show (gPr l f).1 = (cAt f l 0).1.re ∧ (gPr l f).2 = (cAt f l 0).1.im by rw [cAt_resp]; exact ⟨rfl, rfl⟩)
  rw [HR0.out.1, HR0.out.2]
  have HEND := Lib.hid (cAt_end (w := f) (l := l) (j := n) (by rw [HLN.out]; exact Nat.le_refl _))
  clear hl hs HR0
  go_enter Tryz.func149, Tryz.ntmps149
  go_wp2_with fail
  generalize hW : World.alloc _ _ = w5
  have hb5 : Below w.heap.size w w5 := by rw [← hW]; (repeat' (first | (with_reducible exact Below.refl _ _) | (with_reducible assumption) | (with_reducible refine Below.drewN ?_ _) | (with_reducible refine Below.alloc ?_ ?_ _) | (with_reducible refine Below.drew ?_) | (with_reducible refine Below.setCell ?_ ?_ _) | (with_reducible refine Below.step (by assumption) ?_ ?_) | (with_reducible exact And.left (by assumption)) | go_size))
  have q0 : w5.cell? ⟨w.heap.size, 0, none⟩ = some (.slice a n c) := by { rw [← hW]; clear hW; go_simp }
  have r0 : w5.cell? ⟨w.heap.size + 1, 0, none⟩ = some (.int .i64 0) := by { rw [← hW]; clear hW; go_simp }
  have r1 : w5.cell? ⟨w.heap.size + 1, 1, none⟩ = some (.int .i64 0) := by { rw [← hW]; clear hW; go_simp }
  have g0 : w5.frozen? ⟨w.heap.size + 1, 0, none⟩ = false := by { rw [← hW]; clear hW; go_simp }
  have g1 : w5.frozen? ⟨w.heap.size + 1, 1, none⟩ = false := by { rw [← hW]; clear hW; go_simp }
  have v0 : w5.cell? ⟨w.heap.size + 1 + 1, 0, none⟩ = some (.int .i64 1) := by { rw [← hW]; clear hW; go_simp }
  have v1 : w5.cell? ⟨w.heap.size + 1 + 1, 1, none⟩ = some (.int .i64 0) := by { rw [← hW]; clear hW; go_simp }
  have fv0 : w5.frozen? ⟨w.heap.size + 1 + 1, 0, none⟩ = false := by { rw [← hW]; clear hW; go_simp }
  have fv1 : w5.frozen? ⟨w.heap.size + 1 + 1, 1, none⟩ = false := by { rw [← hW]; clear hW; go_simp }
  have u0 : w5.cell? ⟨w.heap.size + 1 + 1 + 1, 0, none⟩ = some (.int .i64 0) := by { rw [← hW]; clear hW; go_simp }
  have u1 : w5.cell? ⟨w.heap.size + 1 + 1 + 1, 1, none⟩ = some (.int .i64 0) := by { rw [← hW]; clear hW; go_simp }
  have fu0 : w5.frozen? ⟨w.heap.size + 1 + 1 + 1, 0, none⟩ = false := by { rw [← hW]; clear hW; go_simp }
  have fu1 : w5.frozen? ⟨w.heap.size + 1 + 1 + 1, 1, none⟩ = false := by { rw [← hW]; clear hW; go_simp }
  have z5 : w5.heap.size = w.heap.size + 1 + 1 + 1 + 1 := by { rw [← hW]; clear hW; simp }
  have HB5 := Lib.hid hb5
  obtain ⟨X, hX⟩ : ∃ X, X = w.heap.size := ⟨_, rfl⟩
  rw [← hX] at q0 r0 r1 g0 g1 v0 v1 fv0 fv1 u0 u1 fu0 fu1 z5
  rw [← hX]
  have x5 : X + 1 + 1 + 1 < w5.heap.size := by omega
  have HX := Lib.hid hX
  clear hW hb5 z5 hX
  go_loopw [7] (fun k wr => ∃ j : Nat, k = .int .i64 ((j : Int) - 1) ∧ j ≤ n ∧ wr.cell? ⟨X, 0, none⟩ = some (.slice a n c) ∧ wr.cell? ⟨X + 1, 0, none⟩ = some (.int .i64 0) ∧ wr.cell? ⟨X + 1, 1, none⟩ = some (.int .i64 0) ∧ wr.frozen? ⟨X + 1, 0, none⟩ = false ∧ wr.frozen? ⟨X + 1, 1, none⟩ = false
    ∧ wr.cell? ⟨X + 1 + 1, 0, none⟩ = some (.int .i64 (cAt f l j).1.re) ∧ wr.cell? ⟨X + 1 + 1, 1, none⟩ = some (.int .i64 (cAt f l j).1.im) ∧ wr.frozen? ⟨X + 1 + 1, 0, none⟩ = false ∧ wr.frozen? ⟨X + 1 + 1, 1, none⟩ = false
    ∧ wr.cell? ⟨X + 1 + 1 + 1, 0, none⟩ = some (.int .i64 (cAt f l j).2.re) ∧ wr.cell? ⟨X + 1 + 1 + 1, 1, none⟩ = some (.int .i64 (cAt f l j).2.im) ∧ wr.frozen? ⟨X + 1 + 1 + 1, 0, none⟩ = false ∧ wr.frozen? ⟨X + 1 + 1 + 1, 1, none⟩ = false ∧ X + 1 + 1 + 1 < wr.heap.size ∧ Hid (Below w.heap.size w wr)) (fun k _ => (intOf k + 1).toNat)
  case atStart => exact ⟨n, by first | rfl | go_num, Nat.le_refl _, q0, r0, r1, g0, g1, by rw [HEND.out]; exact v0, by rw [HEND.out]; exact v1, fv0, fv1, by rw [HEND.out]; exact u0, by rw [HEND.out]; exact u1, fu0, fu1, x5, HB5⟩
  case round =>
    clear q0 r0 r1 g0 g1 v0 v1 fv0 fv1 u0 u1 fu0 fu1 x5
    obtain ⟨j, rfl, hj, q0, r0, r1, g0, g1, v0, v1, fv0, fv1, u0, u1, fu0, fu1, x5, hB⟩ := hrel
    rcases j with _ | t
    · have e0 : ((0 : Nat) : Int) - 1 = -1 := by omega
      rw [e0] 
      have l1 : X + 1 < wr.heap.size := by omega
      have l2 : X + 1 + 1 < wr.heap.size := by omega
      obtain ⟨V, hV⟩ : ∃ V, V = (cAt f l 0).1 := ⟨_, rfl⟩
      rw [← hV] at v0 v1
      have HV := Lib.hid hV
      clear hV
      go_wp2_with fail
      generalize hW : World.setCell _ _ _ = wz
      have rz0 : wz.cell? ⟨X + 1, 0, none⟩ = some (.int .i64 V.re) := by { rw [← hW]; clear hW; go_simp }
      have rz1 : wz.cell? ⟨X + 1, 1, none⟩ = some (.int .i64 V.im) := by { rw [← hW]; clear hW; go_simp }
      have hbz : Below w.heap.size w wz := by { rw [← hW]; have := hB.out; have hx := HX.out; (repeat' (first | (with_reducible exact Below.refl _ _) | (with_reducible assumption) | (with_reducible refine Below.drewN ?_ _) | (with_reducible refine Below.alloc ?_ ?_ _) | (with_reducible refine Below.drew ?_) | (with_reducible refine Below.setCell ?_ ?_ _) | (with_reducible refine Below.step (by assumption) ?_ ?_) | (with_reducible exact And.left (by assumption)) | go_size)) }
      clear hW
      exact bodyPost_ret (v := .agg #[.int .i64 V.re, .int .i64 V.im]) (by simp [results, Tryz.results149, go_sem, rz0, rz1]) rfl ⟨by rw [HV.out], hbz⟩
    · have htn : t < n := by omega
      obtain ⟨b, o, rfl, hb, hc⟩ := (HL.out.below hB.out).addr (by omega)
      obtain ⟨⟨p1, p2, p3⟩, hp⟩ := ER.get HL.out htn
      obtain ⟨c0, c1, c2⟩ := hc t _ hp
      have hsv := HSV.out _ (List.mem_of_getElem? hp)
      have hzy := HSB.out _ (List.mem_of_getElem? hp)
      have hst := cAt_step (w := f) hp
      have hbd := HBD.out (t + 1)
      simp only at c0 c1 c2 hsv
      obtain ⟨⟨V, I⟩, hP⟩ : ∃ P, P = cAt f l (t + 1) := ⟨_, rfl⟩
      rw [← hP] at hst hbd v0 v1 u0 u1
      simp only at hbd v0 v1 u0 u1
      obtain ⟨Y, hY⟩ : ∃ Y, Y = (sOf ⟨p1, p2, p3⟩).y f := ⟨_, rfl⟩
      obtain ⟨Z, hZ⟩ : ∃ Z, Z = (sOf ⟨p1, p2, p3⟩).z f := ⟨_, rfl⟩
      rw [← hY, ← hZ] at hzy
      have hst' : cAt f l t = (V.add (Z.mul (I.add (Y.mul V))), I.add (Y.mul V)) := by rw [hst, hY, hZ]; rfl
      have hYv : Y.re = 0 ∧ Y.im = f * p3 := by rw [hY]; exact ⟨rfl, rfl⟩
      have hZv : Z.re = p1 ∧ Z.im = f * p2 := by rw [hZ]; exact ⟨rfl, rfl⟩
      have hM1 := fun w' => gMul_any Y V w' 18 84027672 hzy.2 (by omega) (by omega)
      have k1 := nG_mul Y V
      have k1' : nG Y * nG V ≤ 18 * 84027672 := Nat.mul_le_mul hzy.2 (by omega)
      have hA1 := fun w' => gAdd_any I (Y.mul V) w' (by omega) (by omega)
      have k2 := nG_add I (Y.mul V)
      obtain ⟨I', hI'⟩ : ∃ x, x = I.add (Y.mul V) := ⟨_, rfl⟩
      rw [← hI'] at hst' hA1 k2
      have hM2 := fun w' => gMul_any Z I' w' 23 1600000000 hzy.1 (by omega) (by omega)
      have k3 := nG_mul Z I'
      have k3' : nG Z * nG I' ≤ 23 * 1600000000 := Nat.mul_le_mul hzy.1 (by omega)
      have hA2 := fun w' => gAdd_any V (Z.mul I') w' (by omega) (by omega)
      obtain ⟨V', hV'⟩ : ∃ x, x = V.add (Z.mul I') := ⟨_, rfl⟩
      rw [← hV'] at hst' hA2
      obtain ⟨M1, hM1d⟩ : ∃ x, x = Y.mul V := ⟨_, rfl⟩
      obtain ⟨M2, hM2d⟩ : ∃ x, x = Z.mul I' := ⟨_, rfl⟩
      rw [← hM1d] at hM1 hA1
      rw [← hM2d] at hM2 hA2
      rw [hYv.1, hYv.2] at hM1
      rw [hZv.1, hZv.2] at hM2
      have HM1 := Lib.hid hM1
      have HM2 := Lib.hid hM2
      have HA1 := Lib.hid hA1
      have HA2 := Lib.hid hA2
      have HST := Lib.hid hst'
      have m1 := mulb (a := f) (b := p3) 6 3 18 (by omega) (by omega) (by omega) (by omega) (by omega)
      have m2 := mulb (a := f) (b := p2) 6 3 18 (by omega) (by omega) (by omega) (by omega) (by omega)
      have w1 : IntKind.i64.wrap (f * p3) = f * p3 := by rw [IntKind.wrap_i64]; omega
      have w2 : IntKind.i64.wrap (f * p2) = f * p2 := by rw [IntKind.wrap_i64]; omega
      have e0 : ((t + 1 : Nat) : Int) - 1 = (t : Int) := by omega
      have t0 : (0 : Int) ≤ (t : Int) := by omega
      have t1 : (t : Int) < (n : Int) := by omega
      have l1 : X + 1 < wr.heap.size := by omega
      have l0 : X < wr.heap.size := by omega
      have l2 : X + 1 + 1 < wr.heap.size := by omega
      rw [e0]
      clear hc hp hsv hzy hst hbd hP hY hZ hst' hYv hZv hM1 hM2 hA1 hA2 k1 k1' k2 k3 k3' hI' hV' hM1d hM2d m1 m2 e0
      go_wp2_with fail
      generalize hW : World.alloc _ _ = wd
      have hbd : Below wr.heap.size wr wd := by rw [← hW]; (repeat' (first | (with_reducible exact Below.refl _ _) | (with_reducible assumption) | (with_reducible refine Below.drewN ?_ _) | (with_reducible refine Below.alloc ?_ ?_ _) | (with_reducible refine Below.drew ?_) | (with_reducible refine Below.setCell ?_ ?_ _) | (with_reducible refine Below.step (by assumption) ?_ ?_) | (with_reducible exact And.left (by assumption)) | go_size))
      have y0 : wd.cell? ⟨wr.heap.size, 0, none⟩ = some (.int .i64 p1) := by { rw [← hW]; clear hW; go_simp }
      have y1 : wd.cell? ⟨wr.heap.size, 1, none⟩ = some (.int .i64 p2) := by { rw [← hW]; clear hW; go_simp }
      have y2 : wd.cell? ⟨wr.heap.size, 2, none⟩ = some (.int .i64 p3) := by { rw [← hW]; clear hW; go_simp }
      have ly : wr.heap.size < wd.heap.size := by { rw [← hW]; clear hW; simp }
      obtain ⟨XS, hXS⟩ : ∃ X, X = wr.heap.size := ⟨_, rfl⟩
      rw [← hXS] at y0 y1 y2 ly ⊢
      have xs : X + 1 + 1 + 1 < XS := by omega
      have q0d : wd.cell? ⟨X, 0, none⟩ = some (.slice (some ⟨b, o, none⟩) n c) := by { rw [cellB hbd _ _ (by first | (simp; done) | (simp; omega) | omega)]; all_goals (first | assumption | go_simp) }; have r0d : wd.cell? ⟨X + 1, 0, none⟩ = some (.int .i64 0) := by { rw [cellB hbd _ _ (by first | (simp; done) | (simp; omega) | omega)]; all_goals (first | assumption | go_simp) }; have r1d : wd.cell? ⟨X + 1, 1, none⟩ = some (.int .i64 0) := by { rw [cellB hbd _ _ (by first | (simp; done) | (simp; omega) | omega)]; all_goals (first | assumption | go_simp) }; have g0d : wd.frozen? ⟨X + 1, 0, none⟩ = false := by { rw [frozenB hbd _ _ (by first | (simp; done) | (simp; omega) | omega)]; all_goals (first | assumption | go_simp) }; have g1d : wd.frozen? ⟨X + 1, 1, none⟩ = false := by { rw [frozenB hbd _ _ (by first | (simp; done) | (simp; omega) | omega)]; all_goals (first | assumption | go_simp) }; have v0d : wd.cell? ⟨X + 1 + 1, 0, none⟩ = some (.int .i64 V.re) := by { rw [cellB hbd _ _ (by first | (simp; done) | (simp; omega) | omega)]; all_goals (first | assumption | go_simp) }; have v1d : wd.cell? ⟨X + 1 + 1, 1, none⟩ = some (.int .i64 V.im) := by { rw [cellB hbd _ _ (by first | (simp; done) | (simp; omega) | omega)]; all_goals (first | assumption | go_simp) }; have fv0d : wd.frozen? ⟨X + 1 + 1, 0, none⟩ = false := by { rw [frozenB hbd _ _ (by first | (simp; done) | (simp; omega) | omega)]; all_goals (first | assumption | go_simp) }; have fv1d : wd.frozen? ⟨X + 1 + 1, 1, none⟩ = false := by { rw [frozenB hbd _ _ (by first | (simp; done) | (simp; omega) | omega)]; all_goals (first | assumption | go_simp) }; have u0d : wd.cell? ⟨X + 1 + 1 + 1, 0, none⟩ = some (.int .i64 I.re) := by { rw [cellB hbd _ _ (by first | (simp; done) | (simp; omega) | omega)]; all_goals (first | assumption | go_simp) }; have u1d : wd.cell? ⟨X + 1 + 1 + 1, 1, none⟩ = some (.int .i64 I.im) := by { rw [cellB hbd _ _ (by first | (simp; done) | (simp; omega) | omega)]; all_goals (first | assumption | go_simp) }; have fu0d : wd.frozen? ⟨X + 1 + 1 + 1, 0, none⟩ = false := by { rw [frozenB hbd _ _ (by first | (simp; done) | (simp; omega) | omega)]; all_goals (first | assumption | go_simp) }; have fu1d : wd.frozen? ⟨X + 1 + 1 + 1, 1, none⟩ = false := by { rw [frozenB hbd _ _ (by first | (simp; done) | (simp; omega) | omega)]; all_goals (first | assumption | go_simp) }; have m0 : X < wd.heap.size := by { omega }; have m1 : X + 1 < wd.heap.size := by { omega }; have m2 : X + 1 + 1 < wd.heap.size := by { omega }; have m3 : X + 1 + 1 + 1 < wd.heap.size := by { omega }
      have HBd := Lib.hid (hB.out.trans (hbd.mono hB.out.size))
      clear hW hbd hXS q0 r0 r1 g0 g1 v0 v1 fv0 fv1 u0 u1 fu0 fu1 c0 c1 c2 x5 l0 l1 l2 hb hB
      refine later_of_eq 8 (by kernel_rfl) (by kernel_rfl) ?_; simp only [List.take_succ_cons, List.take_zero, List.drop_succ_cons, List.drop_zero]; repeat go_big_quiet_step (with_reducible exact calls_later (HM1.out _))
      refine wpQuiet_nil ?_; intro we hbe
      have hbe : Below wd.heap.size wd we := by (repeat' (first | (with_reducible exact Below.refl _ _) | (with_reducible assumption) | (with_reducible refine Below.drewN ?_ _) | (with_reducible refine Below.alloc ?_ ?_ _) | (with_reducible refine Below.drew ?_) | (with_reducible refine Below.setCell ?_ ?_ _) | (with_reducible refine Below.step (by assumption) ?_ ?_) | (with_reducible exact And.left (by assumption)) | go_size))
      have hze := hbe.size
      have q0 : we.cell? ⟨X, 0, none⟩ = some (.slice (some ⟨b, o, none⟩) n c) := by { rw [cellB hbe _ _ (by first | (simp; done) | (simp; omega) | omega)]; all_goals (first | assumption | go_simp) }; have r0 : we.cell? ⟨X + 1, 0, none⟩ = some (.int .i64 0) := by { rw [cellB hbe _ _ (by first | (simp; done) | (simp; omega) | omega)]; all_goals (first | assumption | go_simp) }; have r1 : we.cell? ⟨X + 1, 1, none⟩ = some (.int .i64 0) := by { rw [cellB hbe _ _ (by first | (simp; done) | (simp; omega) | omega)]; all_goals (first | assumption | go_simp) }; have g0 : we.frozen? ⟨X + 1, 0, none⟩ = false := by { rw [frozenB hbe _ _ (by first | (simp; done) | (simp; omega) | omega)]; all_goals (first | assumption | go_simp) }; have g1 : we.frozen? ⟨X + 1, 1, none⟩ = false := by { rw [frozenB hbe _ _ (by first | (simp; done) | (simp; omega) | omega)]; all_goals (first | assumption | go_simp) }; have v0 : we.cell? ⟨X + 1 + 1, 0, none⟩ = some (.int .i64 V.re) := by { rw [cellB hbe _ _ (by first | (simp; done) | (simp; omega) | omega)]; all_goals (first | assumption | go_simp) }; have v1 : we.cell? ⟨X + 1 + 1, 1, none⟩ = some (.int .i64 V.im) := by { rw [cellB hbe _ _ (by first | (simp; done) | (simp; omega) | omega)]; all_goals (first | assumption | go_simp) }; have fv0 : we.frozen? ⟨X + 1 + 1, 0, none⟩ = false := by { rw [frozenB hbe _ _ (by first | (simp; done) | (simp; omega) | omega)]; all_goals (first | assumption | go_simp) }; have fv1 : we.frozen? ⟨X + 1 + 1, 1, none⟩ = false := by { rw [frozenB hbe _ _ (by first | (simp; done) | (simp; omega) | omega)]; all_goals (first | assumption | go_simp) }; have u0 : we.cell? ⟨X + 1 + 1 + 1, 0, none⟩ = some (.int .i64 I.re) := by { rw [cellB hbe _ _ (by first | (simp; done) | (simp; omega) | omega)]; all_goals (first | assumption | go_simp) }; have u1 : we.cell? ⟨X + 1 + 1 + 1, 1, none⟩ = some (.int .i64 I.im) := by { rw [cellB hbe _ _ (by first | (simp; done) | (simp; omega) | omega)]; all_goals (first | assumption | go_simp) }; have fu0 : we.frozen? ⟨X + 1 + 1 + 1, 0, none⟩ = false := by { rw [frozenB hbe _ _ (by first | (simp; done) | (simp; omega) | omega)]; all_goals (first | assumption | go_simp) }; have fu1 : we.frozen? ⟨X + 1 + 1 + 1, 1, none⟩ = false := by { rw [frozenB hbe _ _ (by first | (simp; done) | (simp; omega) | omega)]; all_goals (first | assumption | go_simp) }; have y0e : we.cell? ⟨XS, 0, none⟩ = some (.int .i64 p1) := by { rw [cellB hbe _ _ (by first | (simp; done) | (simp; omega) | omega)]; all_goals (first | assumption | go_simp) }; have y1e : we.cell? ⟨XS, 1, none⟩ = some (.int .i64 p2) := by { rw [cellB hbe _ _ (by first | (simp; done) | (simp; omega) | omega)]; all_goals (first | assumption | go_simp) }; have k0 : X < we.heap.size := by { omega }; have k1 : X + 1 < we.heap.size := by { omega }; have k2 : X + 1 + 1 < we.heap.size := by { omega }; have k3 : X + 1 + 1 + 1 < we.heap.size := by { omega }; have ks : XS < we.heap.size := by { omega }
      have HBe := Lib.hid (HBd.out.trans (hbe.mono HBd.out.size))
      clear hbe hze HBd q0d r0d r1d g0d g1d v0d v1d fv0d fv1d u0d u1d fu0d fu1d y0 y1 y2 m0 m1 m2 m3 ly
      go_wp2_with fail
      refine (HA1.out _).mono ?_
      rintro e6 wf ⟨rfl, hbf⟩
      have hzf := hbf.size
      have q0d : wf.cell? ⟨X, 0, none⟩ = some (.slice (some ⟨b, o, none⟩) n c) := by { rw [cellB hbf _ _ (by first | (simp; done) | (simp; omega) | omega)]; all_goals (first | assumption | go_simp) }; have r0d : wf.cell? ⟨X + 1, 0, none⟩ = some (.int .i64 0) := by { rw [cellB hbf _ _ (by first | (simp; done) | (simp; omega) | omega)]; all_goals (first | assumption | go_simp) }; have r1d : wf.cell? ⟨X + 1, 1, none⟩ = some (.int .i64 0) := by { rw [cellB hbf _ _ (by first | (simp; done) | (simp; omega) | omega)]; all_goals (first | assumption | go_simp) }; have g0d : wf.frozen? ⟨X + 1, 0, none⟩ = false := by { rw [frozenB hbf _ _ (by first | (simp; done) | (simp; omega) | omega)]; all_goals (first | assumption | go_simp) }; have g1d : wf.frozen? ⟨X + 1, 1, none⟩ = false := by { rw [frozenB hbf _ _ (by first | (simp; done) | (simp; omega) | omega)]; all_goals (first | assumption | go_simp) }; have v0d : wf.cell? ⟨X + 1 + 1, 0, none⟩ = some (.int .i64 V.re) := by { rw [cellB hbf _ _ (by first | (simp; done) | (simp; omega) | omega)]; all_goals (first | assumption | go_simp) }; have v1d : wf.cell? ⟨X + 1 + 1, 1, none⟩ = some (.int .i64 V.im) := by { rw [cellB hbf _ _ (by first | (simp; done) | (simp; omega) | omega)]; all_goals (first | assumption | go_simp) }; have fv0d : wf.frozen? ⟨X + 1 + 1, 0, none⟩ = false := by { rw [frozenB hbf _ _ (by first | (simp; done) | (simp; omega) | omega)]; all_goals (first | assumption | go_simp) }; have fv1d : wf.frozen? ⟨X + 1 + 1, 1, none⟩ = false := by { rw [frozenB hbf _ _ (by first | (simp; done) | (simp; omega) | omega)]; all_goals (first | assumption | go_simp) }; have u0d : wf.cell? ⟨X + 1 + 1 + 1, 0, none⟩ = some (.int .i64 I.re) := by { rw [cellB hbf _ _ (by first | (simp; done) | (simp; omega) | omega)]; all_goals (first | assumption | go_simp) }; have u1d : wf.cell? ⟨X + 1 + 1 + 1, 1, none⟩ = some (.int .i64 I.im) := by { rw [cellB hbf _ _ (by first | (simp; done) | (simp; omega) | omega)]; all_goals (first | assumption | go_simp) }; have fu0d : wf.frozen? ⟨X + 1 + 1 + 1, 0, none⟩ = false := by { rw [frozenB hbf _ _ (by first | (simp; done) | (simp; omega) | omega)]; all_goals (first | assumption | go_simp) }; have fu1d : wf.frozen? ⟨X + 1 + 1 + 1, 1, none⟩ = false := by { rw [frozenB hbf _ _ (by first | (simp; done) | (simp; omega) | omega)]; all_goals (first | assumption | go_simp) }; have y0 : wf.cell? ⟨XS, 0, none⟩ = some (.int .i64 p1) := by { rw [cellB hbf _ _ (by first | (simp; done) | (simp; omega) | omega)]; all_goals (first | assumption | go_simp) }; have y1 : wf.cell? ⟨XS, 1, none⟩ = some (.int .i64 p2) := by { rw [cellB hbf _ _ (by first | (simp; done) | (simp; omega) | omega)]; all_goals (first | assumption | go_simp) }; have m0 : X < wf.heap.size := by { omega }; have m1 : X + 1 < wf.heap.size := by { omega }; have m2 : X + 1 + 1 < wf.heap.size := by { omega }; have m3 : X + 1 + 1 + 1 < wf.heap.size := by { omega }; have ms : XS < wf.heap.size := by { omega }
      have HBf := Lib.hid (HBe.out.trans (hbf.mono HBe.out.size))
      clear hbf hzf HBe q0 r0 r1 g0 g1 v0 v1 fv0 fv1 u0 u1 fu0 fu1 y0e y1e k0 k1 k2 k3 ks
      go_wp2_with fail
      generalize hW : World.setCell _ _ _ = wg
      have q0 : wg.cell? ⟨X, 0, none⟩ = some (.slice (some ⟨b, o, none⟩) n c) := by { rw [← hW]; clear hW; go_simp }
      have r0 : wg.cell? ⟨X + 1, 0, none⟩ = some (.int .i64 0) := by { rw [← hW]; clear hW; go_simp }
      have r1 : wg.cell? ⟨X + 1, 1, none⟩ = some (.int .i64 0) := by { rw [← hW]; clear hW; go_simp }
      have g0 : wg.frozen? ⟨X + 1, 0, none⟩ = false := by { rw [← hW]; clear hW; go_simp }
      have g1 : wg.frozen? ⟨X + 1, 1, none⟩ = false := by { rw [← hW]; clear hW; go_simp }
      have v0 : wg.cell? ⟨X + 1 + 1, 0, none⟩ = some (.int .i64 V.re) := by { rw [← hW]; clear hW; go_simp }
      have v1 : wg.cell? ⟨X + 1 + 1, 1, none⟩ = some (.int .i64 V.im) := by { rw [← hW]; clear hW; go_simp }
      have fv0 : wg.frozen? ⟨X + 1 + 1, 0, none⟩ = false := by { rw [← hW]; clear hW; go_simp }
      have fv1 : wg.frozen? ⟨X + 1 + 1, 1, none⟩ = false := by { rw [← hW]; clear hW; go_simp }
      have u0 : wg.cell? ⟨X + 1 + 1 + 1, 0, none⟩ = some (.int .i64 I'.re) := by { rw [← hW]; clear hW; go_simp }
      have u1 : wg.cell? ⟨X + 1 + 1 + 1, 1, none⟩ = some (.int .i64 I'.im) := by { rw [← hW]; clear hW; go_simp }
      have fu0 : wg.frozen? ⟨X + 1 + 1 + 1, 0, none⟩ = false := by { rw [← hW]; clear hW; go_simp }
      have fu1 : wg.frozen? ⟨X + 1 + 1 + 1, 1, none⟩ = false := by { rw [← hW]; clear hW; go_simp }
      have y0g : wg.cell? ⟨XS, 0, none⟩ = some (.int .i64 p1) := by { rw [← hW]; clear hW; go_simp }
      have y1g : wg.cell? ⟨XS, 1, none⟩ = some (.int .i64 p2) := by { rw [← hW]; clear hW; go_simp }
      have zg : wg.heap.size = wf.heap.size := by { rw [← hW]; simp }
      have HBg := Lib.hid (show Below w.heap.size w wg by { rw [← hW]; have := HBf.out; have hx := HX.out; (repeat' (first | (with_reducible exact Below.refl _ _) | (with_reducible assumption) | (with_reducible refine Below.drewN ?_ _) | (with_reducible refine Below.alloc ?_ ?_ _) | (with_reducible refine Below.drew ?_) | (with_reducible refine Below.setCell ?_ ?_ _) | (with_reducible refine Below.step (by assumption) ?_ ?_) | (with_reducible exact And.left (by assumption)) | go_size)) })
      have k0 : X < wg.heap.size := by omega
      have k1 : X + 1 < wg.heap.size := by omega
      have k2 : X + 1 + 1 < wg.heap.size := by omega
      have k3 : X + 1 + 1 + 1 < wg.heap.size := by omega
      have ks : XS < wg.heap.size := by omega
      clear hW HBf q0d r0d r1d g0d g1d v0d v1d fv0d fv1d u0d u1d fu0d fu1d y0 y1 m0 m1 m2 m3 ms zg
      refine later_of_eq 10 (by kernel_rfl) (by kernel_rfl) ?_; simp only [List.take_succ_cons, List.take_zero, List.drop_succ_cons, List.drop_zero]; repeat go_big_quiet_step (with_reducible exact calls_later (HM2.out _))
      refine wpQuiet_nil ?_; intro wh hbh
      have hbh : Below wg.heap.size wg wh := by (repeat' (first | (with_reducible exact Below.refl _ _) | (with_reducible assumption) | (with_reducible refine Below.drewN ?_ _) | (with_reducible refine Below.alloc ?_ ?_ _) | (with_reducible refine Below.drew ?_) | (with_reducible refine Below.setCell ?_ ?_ _) | (with_reducible refine Below.step (by assumption) ?_ ?_) | (with_reducible exact And.left (by assumption)) | go_size))
      have hzh := hbh.size
      have q0d : wh.cell? ⟨X, 0, none⟩ = some (.slice (some ⟨b, o, none⟩) n c) := by { rw [cellB hbh _ _ (by first | (simp; done) | (simp; omega) | omega)]; all_goals (first | assumption | go_simp) }; have r0d : wh.cell? ⟨X + 1, 0, none⟩ = some (.int .i64 0) := by { rw [cellB hbh _ _ (by first | (simp; done) | (simp; omega) | omega)]; all_goals (first | assumption | go_simp) }; have r1d : wh.cell? ⟨X + 1, 1, none⟩ = some (.int .i64 0) := by { rw [cellB hbh _ _ (by first | (simp; done) | (simp; omega) | omega)]; all_goals (first | assumption | go_simp) }; have g0d : wh.frozen? ⟨X + 1, 0, none⟩ = false := by { rw [frozenB hbh _ _ (by first | (simp; done) | (simp; omega) | omega)]; all_goals (first | assumption | go_simp) }; have g1d : wh.frozen? ⟨X + 1, 1, none⟩ = false := by { rw [frozenB hbh _ _ (by first | (simp; done) | (simp; omega) | omega)]; all_goals (first | assumption | go_simp) }; have v0d : wh.cell? ⟨X + 1 + 1, 0, none⟩ = some (.int .i64 V.re) := by { rw [cellB hbh _ _ (by first | (simp; done) | (simp; omega) | omega)]; all_goals (first | assumption | go_simp) }; have v1d : wh.cell? ⟨X + 1 + 1, 1, none⟩ = some (.int .i64 V.im) := by { rw [cellB hbh _ _ (by first | (simp; done) | (simp; omega) | omega)]; all_goals (first | assumption | go_simp) }; have fv0d : wh.frozen? ⟨X + 1 + 1, 0, none⟩ = false := by { rw [frozenB hbh _ _ (by first | (simp; done) | (simp; omega) | omega)]; all_goals (first | assumption | go_simp) }; have fv1d : wh.frozen? ⟨X + 1 + 1, 1, none⟩ = false := by { rw [frozenB hbh _ _ (by first | (simp; done) | (simp; omega) | omega)]; all_goals (first | assumption | go_simp) }; have u0d : wh.cell? ⟨X + 1 + 1 + 1, 0, none⟩ = some (.int .i64 I'.re) := by { rw [cellB hbh _ _ (by first | (simp; done) | (simp; omega) | omega)]; all_goals (first | assumption | go_simp) }; have u1d : wh.cell? ⟨X + 1 + 1 + 1, 1, none⟩ = some (.int .i64 I'.im) := by { rw [cellB hbh _ _ (by first | (simp; done) | (simp; omega) | omega)]; all_goals (first | assumption | go_simp) }; have fu0d : wh.frozen? ⟨X + 1 + 1 + 1, 0, none⟩ = false := by { rw [frozenB hbh _ _ (by first | (simp; done) | (simp; omega) | omega)]; all_goals (first | assumption | go_simp) }; have fu1d : wh.frozen? ⟨X + 1 + 1 + 1, 1, none⟩ = false := by { rw [frozenB hbh _ _ (by first | (simp; done) | (simp; omega) | omega)]; all_goals (first | assumption | go_simp) }; have m0 : X < wh.heap.size := by { omega }; have m1 : X + 1 < wh.heap.size := by { omega }; have m2 : X + 1 + 1 < wh.heap.size := by { omega }; have m3 : X + 1 + 1 + 1 < wh.heap.size := by { omega }
      have HBh := Lib.hid (HBg.out.trans (hbh.mono HBg.out.size))
      clear hbh hzh HBg q0 r0 r1 g0 g1 v0 v1 fv0 fv1 u0 u1 fu0 fu1 y0g y1g k0 k1 k2 k3 ks
      go_wp2_with fail
      refine (HA2.out _).mono ?_
      rintro e7 wi ⟨rfl, hbi⟩
      have hzi := hbi.size
      have q0 : wi.cell? ⟨X, 0, none⟩ = some (.slice (some ⟨b, o, none⟩) n c) := by { rw [cellB hbi _ _ (by first | (simp; done) | (simp; omega) | omega)]; all_goals (first | assumption | go_simp) }; have r0 : wi.cell? ⟨X + 1, 0, none⟩ = some (.int .i64 0) := by { rw [cellB hbi _ _ (by first | (simp; done) | (simp; omega) | omega)]; all_goals (first | assumption | go_simp) }; have r1 : wi.cell? ⟨X + 1, 1, none⟩ = some (.int .i64 0) := by { rw [cellB hbi _ _ (by first | (simp; done) | (simp; omega) | omega)]; all_goals (first | assumption | go_simp) }; have g0 : wi.frozen? ⟨X + 1, 0, none⟩ = false := by { rw [frozenB hbi _ _ (by first | (simp; done) | (simp; omega) | omega)]; all_goals (first | assumption | go_simp) }; have g1 : wi.frozen? ⟨X + 1, 1, none⟩ = false := by { rw [frozenB hbi _ _ (by first | (simp; done) | (simp; omega) | omega)]; all_goals (first | assumption | go_simp) }; have v0 : wi.cell? ⟨X + 1 + 1, 0, none⟩ = some (.int .i64 V.re) := by { rw [cellB hbi _ _ (by first | (simp; done) | (simp; omega) | omega)]; all_goals (first | assumption | go_simp) }; have v1 : wi.cell? ⟨X + 1 + 1, 1, none⟩ = some (.int .i64 V.im) := by { rw [cellB hbi _ _ (by first | (simp; done) | (simp; omega) | omega)]; all_goals (first | assumption | go_simp) }; have fv0 : wi.frozen? ⟨X + 1 + 1, 0, none⟩ = false := by { rw [frozenB hbi _ _ (by first | (simp; done) | (simp; omega) | omega)]; all_goals (first | assumption | go_simp) }; have fv1 : wi.frozen? ⟨X + 1 + 1, 1, none⟩ = false := by { rw [frozenB hbi _ _ (by first | (simp; done) | (simp; omega) | omega)]; all_goals (first | assumption | go_simp) }; have u0 : wi.cell? ⟨X + 1 + 1 + 1, 0, none⟩ = some (.int .i64 I'.re) := by { rw [cellB hbi _ _ (by first | (simp; done) | (simp; omega) | omega)]; all_goals (first | assumption | go_simp) }; have u1 : wi.cell? ⟨X + 1 + 1 + 1, 1, none⟩ = some (.int .i64 I'.im) := by { rw [cellB hbi _ _ (by first | (simp; done) | (simp; omega) | omega)]; all_goals (first | assumption | go_simp) }; have fu0 : wi.frozen? ⟨X + 1 + 1 + 1, 0, none⟩ = false := by { rw [frozenB hbi _ _ (by first | (simp; done) | (simp; omega) | omega)]; all_goals (first | assumption | go_simp) }; have fu1 : wi.frozen? ⟨X + 1 + 1 + 1, 1, none⟩ = false := by { rw [frozenB hbi _ _ (by first | (simp; done) | (simp; omega) | omega)]; all_goals (first | assumption | go_simp) }; have k0 : X < wi.heap.size := by { omega }; have k1 : X + 1 < wi.heap.size := by { omega }; have k2 : X + 1 + 1 < wi.heap.size := by { omega }; have k3 : X + 1 + 1 + 1 < wi.heap.size := by { omega }
      have HBi := Lib.hid (HBh.out.trans (hbi.mono HBh.out.size))
      clear hbi hzi HBh q0d r0d r1d g0d g1d v0d v1d fv0d fv1d u0d u1d fu0d fu1d m0 m1 m2 m3
      go_wp2_with fail
      generalize hW : World.setCell _ _ _ = wj
      have q0d : wj.cell? ⟨X, 0, none⟩ = some (.slice (some ⟨b, o, none⟩) n c) := by { rw [← hW]; clear hW; go_simp }
      have r0d : wj.cell? ⟨X + 1, 0, none⟩ = some (.int .i64 0) := by { rw [← hW]; clear hW; go_simp }
      have r1d : wj.cell? ⟨X + 1, 1, none⟩ = some (.int .i64 0) := by { rw [← hW]; clear hW; go_simp }
      have g0d : wj.frozen? ⟨X + 1, 0, none⟩ = false := by { rw [← hW]; clear hW; go_simp }
      have g1d : wj.frozen? ⟨X + 1, 1, none⟩ = false := by { rw [← hW]; clear hW; go_simp }
      have v0d : wj.cell? ⟨X + 1 + 1, 0, none⟩ = some (.int .i64 V'.re) := by { rw [← hW]; clear hW; go_simp }
      have v1d : wj.cell? ⟨X + 1 + 1, 1, none⟩ = some (.int .i64 V'.im) := by { rw [← hW]; clear hW; go_simp }
      have fv0d : wj.frozen? ⟨X + 1 + 1, 0, none⟩ = false := by { rw [← hW]; clear hW; go_simp }
      have fv1d : wj.frozen? ⟨X + 1 + 1, 1, none⟩ = false := by { rw [← hW]; clear hW; go_simp }
      have u0d : wj.cell? ⟨X + 1 + 1 + 1, 0, none⟩ = some (.int .i64 I'.re) := by { rw [← hW]; clear hW; go_simp }
      have u1d : wj.cell? ⟨X + 1 + 1 + 1, 1, none⟩ = some (.int .i64 I'.im) := by { rw [← hW]; clear hW; go_simp }
      have fu0d : wj.frozen? ⟨X + 1 + 1 + 1, 0, none⟩ = false := by { rw [← hW]; clear hW; go_simp }
      have fu1d : wj.frozen? ⟨X + 1 + 1 + 1, 1, none⟩ = false := by { rw [← hW]; clear hW; go_simp }
      have zj : wj.heap.size = wi.heap.size := by { rw [← hW]; simp }
      have HBj := Lib.hid (show Below w.heap.size w wj by { rw [← hW]; have := HBi.out; have hx := HX.out; (repeat' (first | (with_reducible exact Below.refl _ _) | (with_reducible assumption) | (with_reducible refine Below.drewN ?_ _) | (with_reducible refine Below.alloc ?_ ?_ _) | (with_reducible refine Below.drew ?_) | (with_reducible refine Below.setCell ?_ ?_ _) | (with_reducible refine Below.step (by assumption) ?_ ?_) | (with_reducible exact And.left (by assumption)) | go_size)) })
      have x5 : X + 1 + 1 + 1 < wj.heap.size := by omega
      clear hW HBi q0 r0 r1 g0 g1 v0 v1 fv0 fv1 u0 u1 fu0 fu1 k0 k1 k2 k3 zj
      go_roundw
      case rel => exact ⟨t, by go_num, by omega, q0d, r0d, r1d, g0d, g1d, by rw [HST.out]; exact v0d, by rw [HST.out]; exact v1d, fv0d, fv1d, by rw [HST.out]; exact u0d, by rw [HST.out]; exact u1d, fu0d, fu1d, x5, HBj⟩
      case measure => simp [intOf]
end Go.Proofs.YthkekjgdknnaiaaGreat
