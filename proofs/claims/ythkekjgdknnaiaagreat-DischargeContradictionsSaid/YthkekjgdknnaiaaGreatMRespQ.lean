import Derived.Test.YthkekjgdknnaiaaGreatMDSub
import Derived.Test.YthkekjgdknnaiaaGreatMRGcd
import Derived.Test.YthkekjgdknnaiaaGreatMRNet
/- The reference of responses: the response at a frequency. -/
namespace Go.Proofs.YthkekjgdknnaiaaGreat
open Go.RowKit
set_option linter.unusedVariables false

set_option maxHeartbeats 4000000 in
set_option maxRecDepth 100000 in
theorem rResponse_any (l : List T3) (f : Int) (a : Option Addr) (n c : Nat) (w : World) (hl : T3R w a n l) (hn : n ≤ 3) (hs : ∀ p ∈ l, secB p = true) (hf : 0 ≤ f ∧ f ≤ 6) :
    Calls Tryz.prog 149 #[.agg #[.slice a n c], .int .i64 f] w fun e' w' => e' = .returned (.agg #[.int .i64 (gPr l f).1, .int .i64 (gPr l f).2]) ∧ Below w.heap.size w w' := by
  have HL := Lib.hid hl
  have HLN := Lib.hid hl.len
  have HBD := Lib.hid (fun j => cAt_bd (w := f) (l := l) hf hs (by rw [hl.len]; exact hn) j)
  have HSB := Lib.hid (show ∀ p ∈ l, nG ((sOf p).z f) ≤ 23 ∧ nG ((sOf p).y f) ≤ 18 from fun p hp => ⟨z_bd hf (sec_ok (hs p hp)), y_bd hf (sec_ok (hs p hp))⟩)
  have HSV := Lib.hid (show ∀ p ∈ l, (0 ≤ p.x ∧ p.x ≤ 5) ∧ (0 ≤ p.y ∧ p.y ≤ 3) ∧ (0 ≤ p.z ∧ p.z ≤ 3) from fun p hp => by
    have := hs p hp
    simp only [secB, Bool.and_eq_true, wi_iff] at this
    exact ⟨this.1.1, this.1.2, this.2⟩)
  have HR0 := Lib.hid (show (gPr l f).1 = (cAt f l 0).1.re ∧ (gPr l f).2 = (cAt f l 0).1.im by rw [cAt_resp]; exact ⟨rfl, rfl⟩)
  rw [HR0.out.1, HR0.out.2]
  have HEND := Lib.hid (cAt_end (w := f) (l := l) (j := n) (by rw [HLN.out]; exact Nat.le_refl _))
  clear hl hs HR0
  go_enter Tryz.func149, Tryz.ntmps149
  go_wp2_with fail
  generalize hW : World.alloc _ _ = w5
  have hb5 : Below w.heap.size w w5 := by rw [← hW]; (repeat' (first | (with_reducible exact Below.refl _ _) | (with_reducible assumption) | (with_reducible refine Below.drewN ?_ _) | (with_reducible refine Below.alloc ?_ ?_ _) | (with_reducible refine Below.drew ?_) | (with_reducible refine Below.setCell ?_ ?_ _) | (with_reducible refine Below.step (by assumption) ?_ ?_) | (with_reducible exact And.left (by assumption)) | go_size))
  have q0 : w5.cell? ⟨w.heap.size, 0, none⟩ = some (.slice a n c) := by { rw [← hW]; clear hW; go_simp }
  have r0 : w5.cell? ⟨w.heap.size + 1, 0, none⟩ = some (.int .i64 0) := by { rw [← hW]; clear hW; go_simp }
  have r1 : w5.cell? ⟨w.heap.size + 1, 1, none⟩ = some (.int .i64 0) := by { rw [← hW]; clear hW; go_simp }
  have g0 : w5.frozen? ⟨w.heap.size + 1, 0, none⟩ = false := by { rw [← hW]; clear hW; go_simp }
  have g1 : w5.frozen? ⟨w.heap.size + 1, 1, none⟩ = false := by { rw [← hW]; clear hW; go_simp }
  have v0 : w5.cell? ⟨w.heap.size + 1 + 1, 0, none⟩ = some (.int .i64 1) := by { rw [← hW]; clear hW; go_simp }
  have v1 : w5.cell? ⟨w.heap.size + 1 + 1, 1, none⟩ = some (.int .i64 0) := by { rw [← hW]; clear hW; go_simp }
  have fv0 : w5.frozen? ⟨w.heap.size + 1 + 1, 0, none⟩ = false := by { rw [← hW]; clear hW; go_simp }
  have fv1 : w5.frozen? ⟨w.heap.size + 1 + 1, 1, none⟩ = false := by { rw [← hW]; clear hW; go_simp }
  have u0 : w5.cell? ⟨w.heap.size + 1 + 1 + 1, 0, none⟩ = some (.int .i64 0) := by { rw [← hW]; clear hW; go_simp }
  have u1 : w5.cell? ⟨w.heap.size + 1 + 1 + 1, 1, none⟩ = some (.int .i64 0) := by { rw [← hW]; clear hW; go_simp }
  have fu0 : w5.frozen? ⟨w.heap.size + 1 + 1 + 1, 0, none⟩ = false := by { rw [← hW]; clear hW; go_simp }
  have fu1 : w5.frozen? ⟨w.heap.size + 1 + 1 + 1, 1, none⟩ = false := by { rw [← hW]; clear hW; go_simp }
  have z5 : w5.heap.size = w.heap.size + 1 + 1 + 1 + 1 := by { rw [← hW]; clear hW; simp }
  have HB5 := Lib.hid hb5
  obtain ⟨X, hX⟩ : ∃ X, X = w.heap.size := ⟨_, rfl⟩
  rw [← hX] at q0 r0 r1 g0 g1 v0 v1 fv0 fv1 u0 u1 fu0 fu1 z5
  rw [← hX]
  have x5 : X + 1 + 1 + 1 < w5.heap.size := by omega
  have HX := Lib.hid hX
  clear hW hb5 z5 hX
  go_loopw [7] (fun k wr => ∃ j : Nat, k = .int .i64 ((j : Int) - 1) ∧ j ≤ n ∧ wr.cell? ⟨X, 0, none⟩ = some (.slice a n c) ∧ wr.cell? ⟨X + 1, 0, none⟩ = some (.int .i64 0) ∧ wr.cell? ⟨X + 1, 1, none⟩ = some (.int .i64 0) ∧ wr.frozen? ⟨X + 1, 0, none⟩ = false ∧ wr.frozen? ⟨X + 1, 1, none⟩ = false
    ∧ wr.cell? ⟨X + 1 + 1, 0, none⟩ = some (.int .i64 (cAt f l j).1.re) ∧ wr.cell? ⟨X + 1 + 1, 1, none⟩ = some (.int .i64 (cAt f l j).1.im) ∧ wr.frozen? ⟨X + 1 + 1, 0, none⟩ = false ∧ wr.frozen? ⟨X + 1 + 1, 1, none⟩ = false
    ∧ wr.cell? ⟨X + 1 + 1 + 1, 0, none⟩ = some (.int .i64 (cAt f l j).2.re) ∧ wr.cell? ⟨X + 1 + 1 + 1, 1, none⟩ = some (.int .i64 (cAt f l j).2.im) ∧ wr.frozen? ⟨X + 1 + 1 + 1, 0, none⟩ = false ∧ wr.frozen? ⟨X + 1 + 1 + 1, 1, none⟩ = false ∧ X + 1 + 1 + 1 < wr.heap.size ∧ Hid (Below w.heap.size w wr)) (fun k _ => (intOf k + 1).toNat)
  case atStart => exact ⟨n, by first | rfl | go_num, Nat.le_refl _, q0, r0, r1, g0, g1, by rw [HEND.out]; exact v0, by rw [HEND.out]; exact v1, fv0, fv1, by rw [HEND.out]; exact u0, by rw [HEND.out]; exact u1, fu0, fu1, x5, HB5⟩
  case round =>
    clear q0 r0 r1 g0 g1 v0 v1 fv0 fv1 u0 u1 fu0 fu1 x5
    obtain ⟨j, rfl, hj, q0, r0, r1, g0, g1, v0, v1, fv0, fv1, u0, u1, fu0, fu1, x5, hB⟩ := hrel
    rcases j with _ | t
    · have e0 : ((0 : Nat) : Int) - 1 = -1 := by omega
      rw [e0] 
      have l1 : X + 1 < wr.heap.size := by omega
      have l2 : X + 1 + 1 < wr.heap.size := by omega
      obtain ⟨V, hV⟩ : ∃ V, V = (cAt f l 0).1 := ⟨_, rfl⟩
      rw [← hV] at v0 v1
      have HV := Lib.hid hV
      clear hV
      go_wp2_with fail
      generalize hW : World.setCell _ _ _ = wz
      have rz0 : wz.cell? ⟨X + 1, 0, none⟩ = some (.int .i64 V.re) := by { rw [← hW]; clear hW; go_simp }
      have rz1 : wz.cell? ⟨X + 1, 1, none⟩ = some (.int .i64 V.im) := by { rw [← hW]; clear hW; go_simp }
      have hbz : Below w.heap.size w wz := by { rw [← hW]; have := hB.out; have hx := HX.out; (repeat' (first | (with_reducible exact Below.refl _ _) | (with_reducible assumption) | (with_reducible refine Below.drewN ?_ _) | (with_reducible refine Below.alloc ?_ ?_ _) | (with_reducible refine Below.drew ?_) | (with_reducible refine Below.setCell ?_ ?_ _) | (with_reducible refine Below.step (by assumption) ?_ ?_) | (with_reducible exact And.left (by assumption)) | go_size)) }
      clear hW
      exact bodyPost_ret (v := .agg #[.int .i64 V.re, .int .i64 V.im]) (by simp [results, Tryz.results149, go_sem, rz0, rz1]) rfl ⟨by rw [HV.out], hbz⟩
    · have htn : t < n := by omega
      obtain ⟨b, o, rfl, hb, hc⟩ := (HL.out.below hB.out).addr (by omega)
      obtain ⟨⟨p1, p2, p3⟩, hp⟩ := ER.get HL.out htn
      obtain ⟨c0, c1, c2⟩ := hc t _ hp
      have hsv := HSV.out _ (List.mem_of_getElem? hp)
      have hzy := HSB.out _ (List.mem_of_getElem? hp)
      have hst := cAt_step (w := f) hp
      have hbd := HBD.out (t + 1)
      simp only at c0 c1 c2 hsv
      obtain ⟨⟨V, I⟩, hP⟩ : ∃ P, P = cAt f l (t + 1) := ⟨_, rfl⟩
      rw [← hP] at hst hbd v0 v1 u0 u1
      simp only at hbd v0 v1 u0 u1
      obtain ⟨Y, hY⟩ : ∃ Y, Y = (sOf ⟨p1, p2, p3⟩).y f := ⟨_, rfl⟩
      obtain ⟨Z, hZ⟩ : ∃ Z, Z = (sOf ⟨p1, p2, p3⟩).z f := ⟨_, rfl⟩
      rw [← hY, ← hZ] at hzy
      have hst' : cAt f l t = (V.add (Z.mul (I.add (Y.mul V))), I.add (Y.mul V)) := by rw [hst, hY, hZ]; rfl
      have hYv : Y.re = 0 ∧ Y.im = f * p3 := by rw [hY]; exact ⟨rfl, rfl⟩
      have hZv : Z.re = p1 ∧ Z.im = f * p2 := by rw [hZ]; exact ⟨rfl, rfl⟩
      have hM1 := fun w' => gMul_any Y V w' 18 84027672 hzy.2 (by omega) (by omega)
      have k1 := nG_mul Y V
      have k1' : nG Y * nG V ≤ 18 * 84027672 := Nat.mul_le_mul hzy.2 (by omega)
      have hA1 := fun w' => gAdd_any I (Y.mul V) w' (by omega) (by omega)
      have k2 := nG_add I (Y.mul V)
      obtain ⟨I', hI'⟩ : ∃ x, x = I.add (Y.mul V) := ⟨_, rfl⟩
      rw [← hI'] at hst' hA1 k2
      have hM2 := fun w' => gMul_any Z I' w' 23 1600000000 hzy.1 (by omega) (by omega)
      have k3 := nG_mul Z I'
      have k3' : nG Z * nG I' ≤ 23 * 1600000000 := Nat.mul_le_mul hzy.1 (by omega)
      have hA2 := fun w' => gAdd_any V (Z.mul I') w' (by omega) (by omega)
      obtain ⟨V', hV'⟩ : ∃ x, x = V.add (Z.mul I') := ⟨_, rfl⟩
      rw [← hV'] at hst' hA2
      obtain ⟨M1, hM1d⟩ : ∃ x, x = Y.mul V := ⟨_, rfl⟩
      obtain ⟨M2, hM2d⟩ : ∃ x, x = Z.mul I' := ⟨_, rfl⟩
      rw [← hM1d] at hM1 hA1
      rw [← hM2d] at hM2 hA2
      rw [hYv.1, hYv.2] at hM1
      rw [hZv.1, hZv.2] at hM2
      have HM1 := Lib.hid hM1
      have HM2 := Lib.hid hM2
      have HA1 := Lib.hid hA1
      have HA2 := Lib.hid hA2
      have HST := Lib.hid hst'
      have m1 := mulb (a := f) (b := p3) 6 3 18 (by omega) (by omega) (by omega) (by omega) (by omega)
      have m2 := mulb (a := f) (b := p2) 6 3 18 (by omega) (by omega) (by omega) (by omega) (by omega)
      have w1 : IntKind.i64.wrap (f * p3) = f * p3 := by rw [IntKind.wrap_i64]; omega
      have w2 : IntKind.i64.wrap (f * p2) = f * p2 := by rw [IntKind.wrap_i64]; omega
      have e0 : ((t + 1 : Nat) : Int) - 1 = (t : Int) := by omega
      have t0 : (0 : Int) ≤ (t : Int) := by omega
      have t1 : (t : Int) < (n : Int) := by omega
      have l1 : X + 1 < wr.heap.size := by omega
      have l0 : X < wr.heap.size := by omega
      have l2 : X + 1 + 1 < wr.heap.size := by omega
      rw [e0]
      clear hc hp hsv hzy hst hbd hP hY hZ hst' hYv hZv hM1 hM2 hA1 hA2 k1 k1' k2 k3 k3' hI' hV' hM1d hM2d m1 m2 e0
      go_wp2_with fail
      generalize hW : World.alloc _ _ = wd
      have hbd : Below wr.heap.size wr wd := by rw [← hW]; (repeat' (first | (with_reducible exact Below.refl _ _) | (with_reducible assumption) | (with_reducible refine Below.drewN ?_ _) | (with_reducible refine Below.alloc ?_ ?_ _) | (with_reducible refine Below.drew ?_) | (with_reducible refine Below.setCell ?_ ?_ _) | (with_reducible refine Below.step (by assumption) ?_ ?_) | (with_reducible exact And.left (by assumption)) | go_size))
      have y0 : wd.cell? ⟨wr.heap.size, 0, none⟩ = some (.int .i64 p1) := by { rw [← hW]; clear hW; go_simp }
      have y1 : wd.cell? ⟨wr.heap.size, 1, none⟩ = some (.int .i64 p2) := by { rw [← hW]; clear hW; go_simp }
      have y2 : wd.cell? ⟨wr.heap.size, 2, none⟩ = some (.int .i64 p3) := by { rw [← hW]; clear hW; go_simp }
      have ly : wr.heap.size < wd.heap.size := by { rw [← hW]; clear hW; simp }
      obtain ⟨XS, hXS⟩ : ∃ X, X = wr.heap.size := ⟨_, rfl⟩
      rw [← hXS] at y0 y1 y2 ly ⊢
      have xs : X + 1 + 1 + 1 < XS := by omega
      have q0d : wd.cell? ⟨X, 0, none⟩ = some (.slice (some ⟨b, o, none⟩) n c) := by { rw [cellB hbd _ _ (by first | (simp; done) | (simp; omega) | omega)]; all_goals (first | assumption | go_simp) }; have r0d : wd.cell? ⟨X + 1, 0, none⟩ = some (.int .i64 0) := by { rw [cellB hbd _ _ (by first | (simp; done) | (simp; omega) | omega)]; all_goals (first | assumption | go_simp) }; have r1d : wd.cell? ⟨X + 1, 1, none⟩ = some (.int .i64 0) := by { rw [cellB hbd _ _ (by first | (simp; done) | (simp; omega) | omega)]; all_goals (first | assumption | go_simp) }; have g0d : wd.frozen? ⟨X + 1, 0, none⟩ = false := by { rw [frozenB hbd _ _ (by first | (simp; done) | (simp; omega) | omega)]; all_goals (first | assumption | go_simp) }; have g1d : wd.frozen? ⟨X + 1, 1, none⟩ = false := by { rw [frozenB hbd _ _ (by first | (simp; done) | (simp; omega) | omega)]; all_goals (first | assumption | go_simp) }; have v0d : wd.cell? ⟨X + 1 + 1, 0, none⟩ = some (.int .i64 V.re) := by { rw [cellB hbd _ _ (by first | (simp; done) | (simp; omega) | omega)]; all_goals (first | assumption | go_simp) }; have v1d : wd.cell? ⟨X + 1 + 1, 1, none⟩ = some (.int .i64 V.im) := by { rw [cellB hbd _ _ (by first | (simp; done) | (simp; omega) | omega)]; all_goals (first | assumption | go_simp) }; have fv0d : wd.frozen? ⟨X + 1 + 1, 0, none⟩ = false := by { rw [frozenB hbd _ _ (by first | (simp; done) | (simp; omega) | omega)]; all_goals (first | assumption | go_simp) }; have fv1d : wd.frozen? ⟨X + 1 + 1, 1, none⟩ = false := by { rw [frozenB hbd _ _ (by first | (simp; done) | (simp; omega) | omega)]; all_goals (first | assumption | go_simp) }; have u0d : wd.cell? ⟨X + 1 + 1 + 1, 0, none⟩ = some (.int .i64 I.re) := by { rw [cellB hbd _ _ (by first | (simp; done) | (simp; omega) | omega)]; all_goals (first | assumption | go_simp) }; have u1d : wd.cell? ⟨X + 1 + 1 + 1, 1, none⟩ = some (.int .i64 I.im) := by { rw [cellB hbd _ _ (by first | (simp; done) | (simp; omega) | omega)]; all_goals (first | assumption | go_simp) }; have fu0d : wd.frozen? ⟨X + 1 + 1 + 1, 0, none⟩ = false := by { rw [frozenB hbd _ _ (by first | (simp; done) | (simp; omega) | omega)]; all_goals (first | assumption | go_simp) }; have fu1d : wd.frozen? ⟨X + 1 + 1 + 1, 1, none⟩ = false := by { rw [frozenB hbd _ _ (by first | (simp; done) | (simp; omega) | omega)]; all_goals (first | assumption | go_simp) }; have m0 : X < wd.heap.size := by { omega }; have m1 : X + 1 < wd.heap.size := by { omega }; have m2 : X + 1 + 1 < wd.heap.size := by { omega }; have m3 : X + 1 + 1 + 1 < wd.heap.size := by { omega }
      have HBd := Lib.hid (hB.out.trans (hbd.mono hB.out.size))
      clear hW hbd hXS q0 r0 r1 g0 g1 v0 v1 fv0 fv1 u0 u1 fu0 fu1 c0 c1 c2 x5 l0 l1 l2 hb hB
      refine later_of_eq 8 (by kernel_rfl) (by kernel_rfl) ?_; simp only [List.take_succ_cons, List.take_zero, List.drop_succ_cons, List.drop_zero]; repeat go_big_quiet_step (with_reducible exact calls_later (HM1.out _))
      refine wpQuiet_nil ?_; intro we hbe
      have hbe : Below wd.heap.size wd we := by (repeat' (first | (with_reducible exact Below.refl _ _) | (with_reducible assumption) | (with_reducible refine Below.drewN ?_ _) | (with_reducible refine Below.alloc ?_ ?_ _) | (with_reducible refine Below.drew ?_) | (with_reducible refine Below.setCell ?_ ?_ _) | (with_reducible refine Below.step (by assumption) ?_ ?_) | (with_reducible exact And.left (by assumption)) | go_size))
      have hze := hbe.size
      have q0 : we.cell? ⟨X, 0, none⟩ = some (.slice (some ⟨b, o, none⟩) n c) := by { rw [cellB hbe _ _ (by first | (simp; done) | (simp; omega) | omega)]; all_goals (first | assumption | go_simp) }; have r0 : we.cell? ⟨X + 1, 0, none⟩ = some (.int .i64 0) := by { rw [cellB hbe _ _ (by first | (simp; done) | (simp; omega) | omega)]; all_goals (first | assumption | go_simp) }; have r1 : we.cell? ⟨X + 1, 1, none⟩ = some (.int .i64 0) := by { rw [cellB hbe _ _ (by first | (simp; done) | (simp; omega) | omega)]; all_goals (first | assumption | go_simp) }; have g0 : we.frozen? ⟨X + 1, 0, none⟩ = false := by { rw [frozenB hbe _ _ (by first | (simp; done) | (simp; omega) | omega)]; all_goals (first | assumption | go_simp) }; have g1 : we.frozen? ⟨X + 1, 1, none⟩ = false := by { rw [frozenB hbe _ _ (by first | (simp; done) | (simp; omega) | omega)]; all_goals (first | assumption | go_simp) }; have v0 : we.cell? ⟨X + 1 + 1, 0, none⟩ = some (.int .i64 V.re) := by { rw [cellB hbe _ _ (by first | (simp; done) | (simp; omega) | omega)]; all_goals (first | assumption | go_simp) }; have v1 : we.cell? ⟨X + 1 + 1, 1, none⟩ = some (.int .i64 V.im) := by { rw [cellB hbe _ _ (by first | (simp; done) | (simp; omega) | omega)]; all_goals (first | assumption | go_simp) }; have fv0 : we.frozen? ⟨X + 1 + 1, 0, none⟩ = false := by { rw [frozenB hbe _ _ (by first | (simp; done) | (simp; omega) | omega)]; all_goals (first | assumption | go_simp) }; have fv1 : we.frozen? ⟨X + 1 + 1, 1, none⟩ = false := by { rw [frozenB hbe _ _ (by first | (simp; done) | (simp; omega) | omega)]; all_goals (first | assumption | go_simp) }; have u0 : we.cell? ⟨X + 1 + 1 + 1, 0, none⟩ = some (.int .i64 I.re) := by { rw [cellB hbe _ _ (by first | (simp; done) | (simp; omega) | omega)]; all_goals (first | assumption | go_simp) }; have u1 : we.cell? ⟨X + 1 + 1 + 1, 1, none⟩ = some (.int .i64 I.im) := by { rw [cellB hbe _ _ (by first | (simp; done) | (simp; omega) | omega)]; all_goals (first | assumption | go_simp) }; have fu0 : we.frozen? ⟨X + 1 + 1 + 1, 0, none⟩ = false := by { rw [frozenB hbe _ _ (by first | (simp; done) | (simp; omega) | omega)]; all_goals (first | assumption | go_simp) }; have fu1 : we.frozen? ⟨X + 1 + 1 + 1, 1, none⟩ = false := by { rw [frozenB hbe _ _ (by first | (simp; done) | (simp; omega) | omega)]; all_goals (first | assumption | go_simp) }; have y0e : we.cell? ⟨XS, 0, none⟩ = some (.int .i64 p1) := by { rw [cellB hbe _ _ (by first | (simp; done) | (simp; omega) | omega)]; all_goals (first | assumption | go_simp) }; have y1e : we.cell? ⟨XS, 1, none⟩ = some (.int .i64 p2) := by { rw [cellB hbe _ _ (by first | (simp; done) | (simp; omega) | omega)]; all_goals (first | assumption | go_simp) }; have k0 : X < we.heap.size := by { omega }; have k1 : X + 1 < we.heap.size := by { omega }; have k2 : X + 1 + 1 < we.heap.size := by { omega }; have k3 : X + 1 + 1 + 1 < we.heap.size := by { omega }; have ks : XS < we.heap.size := by { omega }
      have HBe := Lib.hid (HBd.out.trans (hbe.mono HBd.out.size))
      clear hbe hze HBd q0d r0d r1d g0d g1d v0d v1d fv0d fv1d u0d u1d fu0d fu1d y0 y1 y2 m0 m1 m2 m3 ly
      go_wp2_with fail
      refine (HA1.out _).mono ?_
      rintro e6 wf ⟨rfl, hbf⟩
      have hzf := hbf.size
      have q0d : wf.cell? ⟨X, 0, none⟩ = some (.slice (some ⟨b, o, none⟩) n c) := by { rw [cellB hbf _ _ (by first | (simp; done) | (simp; omega) | omega)]; all_goals (first | assumption | go_simp) }; have r0d : wf.cell? ⟨X + 1, 0, none⟩ = some (.int .i64 0) := by { rw [cellB hbf _ _ (by first | (simp; done) | (simp; omega) | omega)]; all_goals (first | assumption | go_simp) }; have r1d : wf.cell? ⟨X + 1, 1, none⟩ = some (.int .i64 0) := by { rw [cellB hbf _ _ (by first | (simp; done) | (simp; omega) | omega)]; all_goals (first | assumption | go_simp) }; have g0d : wf.frozen? ⟨X + 1, 0, none⟩ = false := by { rw [frozenB hbf _ _ (by first | (simp; done) | (simp; omega) | omega)]; all_goals (first | assumption | go_simp) }; have g1d : wf.frozen? ⟨X + 1, 1, none⟩ = false := by { rw [frozenB hbf _ _ (by first | (simp; done) | (simp; omega) | omega)]; all_goals (first | assumption | go_simp) }; have v0d : wf.cell? ⟨X + 1 + 1, 0, none⟩ = some (.int .i64 V.re) := by { rw [cellB hbf _ _ (by first | (simp; done) | (simp; omega) | omega)]; all_goals (first | assumption | go_simp) }; have v1d : wf.cell? ⟨X + 1 + 1, 1, none⟩ = some (.int .i64 V.im) := by { rw [cellB hbf _ _ (by first | (simp; done) | (simp; omega) | omega)]; all_goals (first | assumption | go_simp) }; have fv0d : wf.frozen? ⟨X + 1 + 1, 0, none⟩ = false := by { rw [frozenB hbf _ _ (by first | (simp; done) | (simp; omega) | omega)]; all_goals (first | assumption | go_simp) }; have fv1d : wf.frozen? ⟨X + 1 + 1, 1, none⟩ = false := by { rw [frozenB hbf _ _ (by first | (simp; done) | (simp; omega) | omega)]; all_goals (first | assumption | go_simp) }; have u0d : wf.cell? ⟨X + 1 + 1 + 1, 0, none⟩ = some (.int .i64 I.re) := by { rw [cellB hbf _ _ (by first | (simp; done) | (simp; omega) | omega)]; all_goals (first | assumption | go_simp) }; have u1d : wf.cell? ⟨X + 1 + 1 + 1, 1, none⟩ = some (.int .i64 I.im) := by { rw [cellB hbf _ _ (by first | (simp; done) | (simp; omega) | omega)]; all_goals (first | assumption | go_simp) }; have fu0d : wf.frozen? ⟨X + 1 + 1 + 1, 0, none⟩ = false := by { rw [frozenB hbf _ _ (by first | (simp; done) | (simp; omega) | omega)]; all_goals (first | assumption | go_simp) }; have fu1d : wf.frozen? ⟨X + 1 + 1 + 1, 1, none⟩ = false := by { rw [frozenB hbf _ _ (by first | (simp; done) | (simp; omega) | omega)]; all_goals (first | assumption | go_simp) }; have y0 : wf.cell? ⟨XS, 0, none⟩ = some (.int .i64 p1) := by { rw [cellB hbf _ _ (by first | (simp; done) | (simp; omega) | omega)]; all_goals (first | assumption | go_simp) }; have y1 : wf.cell? ⟨XS, 1, none⟩ = some (.int .i64 p2) := by { rw [cellB hbf _ _ (by first | (simp; done) | (simp; omega) | omega)]; all_goals (first | assumption | go_simp) }; have m0 : X < wf.heap.size := by { omega }; have m1 : X + 1 < wf.heap.size := by { omega }; have m2 : X + 1 + 1 < wf.heap.size := by { omega }; have m3 : X + 1 + 1 + 1 < wf.heap.size := by { omega }; have ms : XS < wf.heap.size := by { omega }
      have HBf := Lib.hid (HBe.out.trans (hbf.mono HBe.out.size))
      clear hbf hzf HBe q0 r0 r1 g0 g1 v0 v1 fv0 fv1 u0 u1 fu0 fu1 y0e y1e k0 k1 k2 k3 ks
      go_wp2_with fail
      generalize hW : World.setCell _ _ _ = wg
      have q0 : wg.cell? ⟨X, 0, none⟩ = some (.slice (some ⟨b, o, none⟩) n c) := by { rw [← hW]; clear hW; go_simp }
      have r0 : wg.cell? ⟨X + 1, 0, none⟩ = some (.int .i64 0) := by { rw [← hW]; clear hW; go_simp }
      have r1 : wg.cell? ⟨X + 1, 1, none⟩ = some (.int .i64 0) := by { rw [← hW]; clear hW; go_simp }
      have g0 : wg.frozen? ⟨X + 1, 0, none⟩ = false := by { rw [← hW]; clear hW; go_simp }
      have g1 : wg.frozen? ⟨X + 1, 1, none⟩ = false := by { rw [← hW]; clear hW; go_simp }
      have v0 : wg.cell? ⟨X + 1 + 1, 0, none⟩ = some (.int .i64 V.re) := by { rw [← hW]; clear hW; go_simp }
      have v1 : wg.cell? ⟨X + 1 + 1, 1, none⟩ = some (.int .i64 V.im) := by { rw [← hW]; clear hW; go_simp }
      have fv0 : wg.frozen? ⟨X + 1 + 1, 0, none⟩ = false := by { rw [← hW]; clear hW; go_simp }
      have fv1 : wg.frozen? ⟨X + 1 + 1, 1, none⟩ = false := by { rw [← hW]; clear hW; go_simp }
      have u0 : wg.cell? ⟨X + 1 + 1 + 1, 0, none⟩ = some (.int .i64 I'.re) := by { rw [← hW]; clear hW; go_simp }
      have u1 : wg.cell? ⟨X + 1 + 1 + 1, 1, none⟩ = some (.int .i64 I'.im) := by { rw [← hW]; clear hW; go_simp }
      have fu0 : wg.frozen? ⟨X + 1 + 1 + 1, 0, none⟩ = false := by { rw [← hW]; clear hW; go_simp }
      have fu1 : wg.frozen? ⟨X + 1 + 1 + 1, 1, none⟩ = false := by { rw [← hW]; clear hW; go_simp }
      have y0g : wg.cell? ⟨XS, 0, none⟩ = some (.int .i64 p1) := by { rw [← hW]; clear hW; go_simp }
      have y1g : wg.cell? ⟨XS, 1, none⟩ = some (.int .i64 p2) := by { rw [← hW]; clear hW; go_simp }
      have zg : wg.heap.size = wf.heap.size := by { rw [← hW]; simp }
      have HBg := Lib.hid (show Below w.heap.size w wg by { rw [← hW]; have := HBf.out; have hx := HX.out; (repeat' (first | (with_reducible exact Below.refl _ _) | (with_reducible assumption) | (with_reducible refine Below.drewN ?_ _) | (with_reducible refine Below.alloc ?_ ?_ _) | (with_reducible refine Below.drew ?_) | (with_reducible refine Below.setCell ?_ ?_ _) | (with_reducible refine Below.step (by assumption) ?_ ?_) | (with_reducible exact And.left (by assumption)) | go_size)) })
      have k0 : X < wg.heap.size := by omega
      have k1 : X + 1 < wg.heap.size := by omega
      have k2 : X + 1 + 1 < wg.heap.size := by omega
      have k3 : X + 1 + 1 + 1 < wg.heap.size := by omega
      have ks : XS < wg.heap.size := by omega
      clear hW HBf q0d r0d r1d g0d g1d v0d v1d fv0d fv1d u0d u1d fu0d fu1d y0 y1 m0 m1 m2 m3 ms zg
      refine later_of_eq 10 (by kernel_rfl) (by kernel_rfl) ?_; simp only [List.take_succ_cons, List.take_zero, List.drop_succ_cons, List.drop_zero]; repeat go_big_quiet_step (with_reducible exact calls_later (HM2.out _))
      refine wpQuiet_nil ?_; intro wh hbh
      have hbh : Below wg.heap.size wg wh := by (repeat' (first | (with_reducible exact Below.refl _ _) | (with_reducible assumption) | (with_reducible refine Below.drewN ?_ _) | (with_reducible refine Below.alloc ?_ ?_ _) | (with_reducible refine Below.drew ?_) | (with_reducible refine Below.setCell ?_ ?_ _) | (with_reducible refine Below.step (by assumption) ?_ ?_) | (with_reducible exact And.left (by assumption)) | go_size))
      have hzh := hbh.size
      have q0d : wh.cell? ⟨X, 0, none⟩ = some (.slice (some ⟨b, o, none⟩) n c) := by { rw [cellB hbh _ _ (by first | (simp; done) | (simp; omega) | omega)]; all_goals (first | assumption | go_simp) }; have r0d : wh.cell? ⟨X + 1, 0, none⟩ = some (.int .i64 0) := by { rw [cellB hbh _ _ (by first | (simp; done) | (simp; omega) | omega)]; all_goals (first | assumption | go_simp) }; have r1d : wh.cell? ⟨X + 1, 1, none⟩ = some (.int .i64 0) := by { rw [cellB hbh _ _ (by first | (simp; done) | (simp; omega) | omega)]; all_goals (first | assumption | go_simp) }; have g0d : wh.frozen? ⟨X + 1, 0, none⟩ = false := by { rw [frozenB hbh _ _ (by first | (simp; done) | (simp; omega) | omega)]; all_goals (first | assumption | go_simp) }; have g1d : wh.frozen? ⟨X + 1, 1, none⟩ = false := by { rw [frozenB hbh _ _ (by first | (simp; done) | (simp; omega) | omega)]; all_goals (first | assumption | go_simp) }; have v0d : wh.cell? ⟨X + 1 + 1, 0, none⟩ = some (.int .i64 V.re) := by { rw [cellB hbh _ _ (by first | (simp; done) | (simp; omega) | omega)]; all_goals (first | assumption | go_simp) }; have v1d : wh.cell? ⟨X + 1 + 1, 1, none⟩ = some (.int .i64 V.im) := by { rw [cellB hbh _ _ (by first | (simp; done) | (simp; omega) | omega)]; all_goals (first | assumption | go_simp) }; have fv0d : wh.frozen? ⟨X + 1 + 1, 0, none⟩ = false := by { rw [frozenB hbh _ _ (by first | (simp; done) | (simp; omega) | omega)]; all_goals (first | assumption | go_simp) }; have fv1d : wh.frozen? ⟨X + 1 + 1, 1, none⟩ = false := by { rw [frozenB hbh _ _ (by first | (simp; done) | (simp; omega) | omega)]; all_goals (first | assumption | go_simp) }; have u0d : wh.cell? ⟨X + 1 + 1 + 1, 0, none⟩ = some (.int .i64 I'.re) := by { rw [cellB hbh _ _ (by first | (simp; done) | (simp; omega) | omega)]; all_goals (first | assumption | go_simp) }; have u1d : wh.cell? ⟨X + 1 + 1 + 1, 1, none⟩ = some (.int .i64 I'.im) := by { rw [cellB hbh _ _ (by first | (simp; done) | (simp; omega) | omega)]; all_goals (first | assumption | go_simp) }; have fu0d : wh.frozen? ⟨X + 1 + 1 + 1, 0, none⟩ = false := by { rw [frozenB hbh _ _ (by first | (simp; done) | (simp; omega) | omega)]; all_goals (first | assumption | go_simp) }; have fu1d : wh.frozen? ⟨X + 1 + 1 + 1, 1, none⟩ = false := by { rw [frozenB hbh _ _ (by first | (simp; done) | (simp; omega) | omega)]; all_goals (first | assumption | go_simp) }; have m0 : X < wh.heap.size := by { omega }; have m1 : X + 1 < wh.heap.size := by { omega }; have m2 : X + 1 + 1 < wh.heap.size := by { omega }; have m3 : X + 1 + 1 + 1 < wh.heap.size := by { omega }
      have HBh := Lib.hid (HBg.out.trans (hbh.mono HBg.out.size))
      clear hbh hzh HBg q0 r0 r1 g0 g1 v0 v1 fv0 fv1 u0 u1 fu0 fu1 y0g y1g k0 k1 k2 k3 ks
      go_wp2_with fail
      refine (HA2.out _).mono ?_
      rintro e7 wi ⟨rfl, hbi⟩
      have hzi := hbi.size
      have q0 : wi.cell? ⟨X, 0, none⟩ = some (.slice (some ⟨b, o, none⟩) n c) := by { rw [cellB hbi _ _ (by first | (simp; done) | (simp; omega) | omega)]; all_goals (first | assumption | go_simp) }; have r0 : wi.cell? ⟨X + 1, 0, none⟩ = some (.int .i64 0) := by { rw [cellB hbi _ _ (by first | (simp; done) | (simp; omega) | omega)]; all_goals (first | assumption | go_simp) }; have r1 : wi.cell? ⟨X + 1, 1, none⟩ = some (.int .i64 0) := by { rw [cellB hbi _ _ (by first | (simp; done) | (simp; omega) | omega)]; all_goals (first | assumption | go_simp) }; have g0 : wi.frozen? ⟨X + 1, 0, none⟩ = false := by { rw [frozenB hbi _ _ (by first | (simp; done) | (simp; omega) | omega)]; all_goals (first | assumption | go_simp) }; have g1 : wi.frozen? ⟨X + 1, 1, none⟩ = false := by { rw [frozenB hbi _ _ (by first | (simp; done) | (simp; omega) | omega)]; all_goals (first | assumption | go_simp) }; have v0 : wi.cell? ⟨X + 1 + 1, 0, none⟩ = some (.int .i64 V.re) := by { rw [cellB hbi _ _ (by first | (simp; done) | (simp; omega) | omega)]; all_goals (first | assumption | go_simp) }; have v1 : wi.cell? ⟨X + 1 + 1, 1, none⟩ = some (.int .i64 V.im) := by { rw [cellB hbi _ _ (by first | (simp; done) | (simp; omega) | omega)]; all_goals (first | assumption | go_simp) }; have fv0 : wi.frozen? ⟨X + 1 + 1, 0, none⟩ = false := by { rw [frozenB hbi _ _ (by first | (simp; done) | (simp; omega) | omega)]; all_goals (first | assumption | go_simp) }; have fv1 : wi.frozen? ⟨X + 1 + 1, 1, none⟩ = false := by { rw [frozenB hbi _ _ (by first | (simp; done) | (simp; omega) | omega)]; all_goals (first | assumption | go_simp) }; have u0 : wi.cell? ⟨X + 1 + 1 + 1, 0, none⟩ = some (.int .i64 I'.re) := by { rw [cellB hbi _ _ (by first | (simp; done) | (simp; omega) | omega)]; all_goals (first | assumption | go_simp) }; have u1 : wi.cell? ⟨X + 1 + 1 + 1, 1, none⟩ = some (.int .i64 I'.im) := by { rw [cellB hbi _ _ (by first | (simp; done) | (simp; omega) | omega)]; all_goals (first | assumption | go_simp) }; have fu0 : wi.frozen? ⟨X + 1 + 1 + 1, 0, none⟩ = false := by { rw [frozenB hbi _ _ (by first | (simp; done) | (simp; omega) | omega)]; all_goals (first | assumption | go_simp) }; have fu1 : wi.frozen? ⟨X + 1 + 1 + 1, 1, none⟩ = false := by { rw [frozenB hbi _ _ (by first | (simp; done) | (simp; omega) | omega)]; all_goals (first | assumption | go_simp) }; have k0 : X < wi.heap.size := by { omega }; have k1 : X + 1 < wi.heap.size := by { omega }; have k2 : X + 1 + 1 < wi.heap.size := by { omega }; have k3 : X + 1 + 1 + 1 < wi.heap.size := by { omega }
      have HBi := Lib.hid (HBh.out.trans (hbi.mono HBh.out.size))
      clear hbi hzi HBh q0d r0d r1d g0d g1d v0d v1d fv0d fv1d u0d u1d fu0d fu1d m0 m1 m2 m3
      go_wp2_with fail
      generalize hW : World.setCell _ _ _ = wj
      have q0d : wj.cell? ⟨X, 0, none⟩ = some (.slice (some ⟨b, o, none⟩) n c) := by { rw [← hW]; clear hW; go_simp }
      have r0d : wj.cell? ⟨X + 1, 0, none⟩ = some (.int .i64 0) := by { rw [← hW]; clear hW; go_simp }
      have r1d : wj.cell? ⟨X + 1, 1, none⟩ = some (.int .i64 0) := by { rw [← hW]; clear hW; go_simp }
      have g0d : wj.frozen? ⟨X + 1, 0, none⟩ = false := by { rw [← hW]; clear hW; go_simp }
      have g1d : wj.frozen? ⟨X + 1, 1, none⟩ = false := by { rw [← hW]; clear hW; go_simp }
      have v0d : wj.cell? ⟨X + 1 + 1, 0, none⟩ = some (.int .i64 V'.re) := by { rw [← hW]; clear hW; go_simp }
      have v1d : wj.cell? ⟨X + 1 + 1, 1, none⟩ = some (.int .i64 V'.im) := by { rw [← hW]; clear hW; go_simp }
      have fv0d : wj.frozen? ⟨X + 1 + 1, 0, none⟩ = false := by { rw [← hW]; clear hW; go_simp }
      have fv1d : wj.frozen? ⟨X + 1 + 1, 1, none⟩ = false := by { rw [← hW]; clear hW; go_simp }
      have u0d : wj.cell? ⟨X + 1 + 1 + 1, 0, none⟩ = some (.int .i64 I'.re) := by { rw [← hW]; clear hW; go_simp }
      have u1d : wj.cell? ⟨X + 1 + 1 + 1, 1, none⟩ = some (.int .i64 I'.im) := by { rw [← hW]; clear hW; go_simp }
      have fu0d : wj.frozen? ⟨X + 1 + 1 + 1, 0, none⟩ = false := by { rw [← hW]; clear hW; go_simp }
      have fu1d : wj.frozen? ⟨X + 1 + 1 + 1, 1, none⟩ = false := by { rw [← hW]; clear hW; go_simp }
      have zj : wj.heap.size = wi.heap.size := by { rw [← hW]; simp }
      have HBj := Lib.hid (show Below w.heap.size w wj by { rw [← hW]; have := HBi.out; have hx := HX.out; (repeat' (first | (with_reducible exact Below.refl _ _) | (with_reducible assumption) | (with_reducible refine Below.drewN ?_ _) | (with_reducible refine Below.alloc ?_ ?_ _) | (with_reducible refine Below.drew ?_) | (with_reducible refine Below.setCell ?_ ?_ _) | (with_reducible refine Below.step (by assumption) ?_ ?_) | (with_reducible exact And.left (by assumption)) | go_size)) })
      have x5 : X + 1 + 1 + 1 < wj.heap.size := by omega
      clear hW HBi q0 r0 r1 g0 g1 v0 v1 fv0 fv1 u0 u1 fu0 fu1 k0 k1 k2 k3 zj
      go_roundw
      case rel => exact ⟨t, by go_num, by omega, q0d, r0d, r1d, g0d, g1d, by rw [HST.out]; exact v0d, by rw [HST.out]; exact v1d, fv0d, fv1d, by rw [HST.out]; exact u0d, by rw [HST.out]; exact u1d, fu0d, fu1d, x5, HBj⟩
      case measure => simp [intOf]
end Go.Proofs.YthkekjgdknnaiaaGreat

/- The reference of responses: frequencies, responses, equality. -/
namespace Go.Proofs.YthkekjgdknnaiaaGreat
open Go.RowKit
set_option linter.unusedVariables false

theorem rIsFrequency_any (n : Int) (w : World) : Calls Tryz.prog 132 #[.int .i64 n] w fun e' w' => e' = .returned (.bool (wi n 0 6)) ∧ w = w' := by
  go_enter Tryz.func132, Tryz.ntmps132
  go_wp2_with (go_at_call 24; refine (bwithin_any _ _ _ _).mono ?_; rintro e w' ⟨rfl, rfl⟩)
  go_ret
  exact ⟨rfl, rfl⟩
theorem freE_cases (l : List Int) : freE l = if 8 < (l.length : Int) then 8 else if l.any (fun x => !wi x 0 6) = true then 2 else 0 := by
  unfold freE
  by_cases h : 8 < (l.length : Int)
  · have : ¬ (l.length : Int) ≤ 8 := by omega
    rw [if_pos h, decide_eq_false this]; rfl
  · have : (l.length : Int) ≤ 8 := by omega
    rw [if_neg h, decide_eq_true this]
    cases l.any (fun x => !wi x 0 6) <;> rfl
set_option maxRecDepth 100000 in
theorem rFrequenciesErr_any (l : List Int) (a : Option Addr) (n c : Nat) (w : World) (hl : IntsR w a n l) : Calls Tryz.prog 69 #[.slice a n c] w fun e' w' => e' = .returned (.int .i64 (freE l)) ∧ Below w.heap.size w w' := by
  have hn := hl.small
  have HL := Lib.hid hl
  have HLN := Lib.hid hl.len
  have hE := freE_cases l
  rw [hl.len] at hE
  obtain ⟨E, hEE⟩ : ∃ E, E = freE l := ⟨_, rfl⟩
  rw [← hEE] at hE ⊢
  clear hl hEE
  by_cases h8 : 8 < (n : Int)
  · rw [if_pos h8] at hE
    subst hE
    go_enter Tryz.func69, Tryz.ntmps69
    go_wp2
    go_ret
    exact ⟨rfl, by (repeat' (first | (with_reducible exact Below.refl _ _) | (with_reducible assumption) | (with_reducible refine Below.drewN ?_ _) | (with_reducible refine Below.alloc ?_ ?_ _) | (with_reducible refine Below.drew ?_) | (with_reducible refine Below.setCell ?_ ?_ _) | (with_reducible refine Below.step (by assumption) ?_ ?_) | (with_reducible exact And.left (by assumption)) | go_size))⟩
  · rw [if_neg h8] at hE
    have HE := Lib.hid hE
    clear hE
    go_enter Tryz.func69, Tryz.ntmps69
    go_wp2_with fail
    go_loopw [3] (fun i wr => ∃ k : Nat, i = .int .i64 k ∧ k ≤ n ∧ Hid ((l.drop k).any (fun x => !wi x 0 6) = l.any (fun x => !wi x 0 6)) ∧ wr = w) (fun i _ => n - (intOf i).toNat)
    case atStart => exact ⟨0, rfl, Nat.zero_le _, Lib.hid rfl, rfl⟩
    case round =>
      obtain ⟨k, rfl, hk, hG, rfl⟩ := hrel
      have i0 : (0 : Int) ≤ (k : Int) := by omega
      rcases Nat.lt_or_ge k n with hlt | hge
      · have i1 : (k : Int) < (n : Int) := by omega
        obtain ⟨b, o, rfl, hb, hc⟩ := HL.out.addr (by omega)
        have p0 := hc k hlt
        have hG' := hG.out
        rw [drop_any (p := fun x => !wi x 0 6) l k (by rw [HLN.out]; exact hlt)] at hG'
        generalize l.getD k 0 = x at *
        have HB1 := Lib.hid (fun w' => rIsFrequency_any x w')
        generalize wi x 0 6 = b1 at *
        have HG := Lib.hid hG'
        clear hc hG hG'
        go_wp2_with fail
        refine (HB1.out _).mono ?_
        rintro e6 w6 ⟨rfl, rfl⟩
        cases b1
        · have hE := HE.out
          rw [← HG.out] at hE
          have hE2 : E = 2 := by rw [hE]; simp
          clear hE
          subst hE2
          clear HE HG
          go_wp2
          go_ret
          exact ⟨rfl, by (repeat' (first | (with_reducible exact Below.refl _ _) | (with_reducible assumption) | (with_reducible refine Below.drewN ?_ _) | (with_reducible refine Below.alloc ?_ ?_ _) | (with_reducible refine Below.drew ?_) | (with_reducible refine Below.setCell ?_ ?_ _) | (with_reducible refine Below.step (by assumption) ?_ ?_) | (with_reducible exact And.left (by assumption)) | go_size))⟩
        have HG2 := Lib.hid (show (l.drop (k + 1)).any (fun x => !wi x 0 6) = l.any (fun x => !wi x 0 6) by rw [← HG.out]; rfl)
        clear HG
        go_wp2
        go_roundw
        case rel => exact ⟨k + 1, by go_num, by omega, HG2, by first | rfl | trivial⟩
        case measure => simp [intOf]; omega
      · obtain rfl : k = n := by omega
        have hE := HE.out
        rw [← hG.out, drop_end l k (by rw [HLN.out]; exact Nat.le_refl _)] at hE
        rw [if_neg (by simp)] at hE
        subst hE
        clear HE hG
        go_wp2
        go_ret
        exact ⟨rfl, by (repeat' (first | (with_reducible exact Below.refl _ _) | (with_reducible assumption) | (with_reducible refine Below.drewN ?_ _) | (with_reducible refine Below.alloc ?_ ?_ _) | (with_reducible refine Below.drew ?_) | (with_reducible refine Below.setCell ?_ ?_ _) | (with_reducible refine Below.step (by assumption) ?_ ?_) | (with_reducible exact And.left (by assumption)) | go_size))⟩
set_option maxHeartbeats 1000000 in
set_option maxRecDepth 100000 in
theorem rResponses_any (l : List T3) (fs : List Int) (a af : Option Addr) (n c m cm : Nat) (w : World) (hl : T3R w a n l) (hfs : IntsR w af m fs) (hn : n ≤ 3) (hs : ∀ p ∈ l, secB p = true) (hf : ∀ f ∈ fs, 0 ≤ f ∧ f ≤ 6) (hm : m ≤ 100) :
    Calls Tryz.prog 93 #[.agg #[.slice a n c], .slice af m cm] w fun e' w' => ∃ a' c', e' = .returned (.slice a' m c') ∧ Below w.heap.size w w' ∧ PairsR w' a' m (fs.map (gPr l)) := by
  have HF := Lib.hid hfs
  have HFN := Lib.hid hfs.len
  have HFB := Lib.hid hf
  have HR := Lib.hid (fun (f : Int) (hf : 0 ≤ f ∧ f ≤ 6) (W : World) (hb : Below w.heap.size w W) => rResponse_any l f a n c W (hl.below hb) hn hs hf)
  obtain ⟨L, hL⟩ : ∃ L, L = fs.map (gPr l) := ⟨_, rfl⟩
  have HLL := Lib.hid (And.intro hL (show L.length = m by rw [hL, List.length_map]; exact hfs.len))
  rw [← hL]
  clear hl hfs hs hf hL
  go_enter Tryz.func93, Tryz.ntmps93
  go_wp2_with fail
  generalize hW : World.alloc _ _ = w5
  have hb5 : Below w.heap.size w w5 := by rw [← hW]; (repeat' (first | (with_reducible exact Below.refl _ _) | (with_reducible assumption) | (with_reducible refine Below.drewN ?_ _) | (with_reducible refine Below.alloc ?_ ?_ _) | (with_reducible refine Below.drew ?_) | (with_reducible refine Below.setCell ?_ ?_ _) | (with_reducible refine Below.step (by assumption) ?_ ?_) | (with_reducible exact And.left (by assumption)) | go_size))
  have q0 : w5.cell? ⟨w.heap.size, 0, none⟩ = some (.slice a n c) := by { rw [← hW]; clear hW; go_simp }
  have l0 : w.heap.size < w5.heap.size := by { rw [← hW]; clear hW; simp }
  have HB5 := Lib.hid hb5
  clear hW hb5
  go_loopw [5, 6] (fun v i wr => ∃ (k : Nat) (av : Option Addr) (cv : Nat), i = .int .i64 k ∧ v = .slice av k cv ∧ k ≤ m ∧ Hid (wr.ownsRow w5.heap.size 144 2 (.slice av k cv) k (pcells (L.take k))) ∧ Hid (Below w5.heap.size w5 wr)) (fun _ i _ => m - (intOf i).toNat)
  case atStart => exact ⟨0, none, 0, rfl, rfl, Nat.zero_le _, Lib.hid (World.ownsRow_nil _ _ _ _), Lib.hid (Below.refl _ _)⟩
  case round =>
    obtain ⟨k, av, cv, rfl, rfl, hk, hO, hB⟩ := hrel
    have i0 : (0 : Int) ≤ (k : Int) := by omega
    have hBx := hB.out
    have hzr := hBx.size
    have q0r : wr.cell? ⟨w.heap.size, 0, none⟩ = some (.slice a n c) := by { rw [cellB hBx _ _ (by first | (simp; done) | (simp; omega) | omega)]; all_goals (first | assumption | go_simp) }; have lr : w.heap.size < wr.heap.size := by { omega }
    clear hBx
    rcases Nat.lt_or_ge k m with hlt | hge
    · have i1 : (k : Int) < (m : Int) := by omega
      have HBr := Lib.hid (HB5.out.trans (hB.out.mono HB5.out.size))
      obtain ⟨b, o, rfl, hb, hc⟩ := HF.out.addr (by omega)
      have p0 : wr.cell? ⟨b, o + k, none⟩ = some (.int .i64 (fs.getD k 0)) := by rw [cellB HBr.out _ _ hb]; exact hc k hlt
      have lb : b < w5.heap.size := by omega
      have hfk := HFB.out _ (getD_mem (show k < fs.length by rw [HFN.out]; exact hlt))
      have HT := Lib.hid (show pcells (L.take (k + 1)) = pcells (L.take k) ++ pcells [gPr l (fs.getD k 0)] by rw [HLL.out.1, ← List.map_take, ← List.map_take, take_snocI (by rw [HFN.out]; exact hlt), pcells_append])
      generalize fs.getD k 0 = f at *
      have HRK := Lib.hid (HR.out f hfk)
      obtain ⟨⟨g1, g2⟩, hg⟩ : ∃ g, g = gPr l f := ⟨_, rfl⟩
      rw [← hg] at HT HRK
      have HO := Lib.hid hO.out
      clear hc hg hfk hO
      go_wp2_with fail
      refine wp_region_laterM (B := w5.heap.size) [(true, 0), (true, 1), (true, 2), (true, 3), (true, 4), (true, 5), (false, 6), (false, 7), (false, 8), (true, 9)] (by kernel_rfl) (by kernel_rfl) ?_; simp only [opsOf, List.filterMap_cons, List.filterMap_nil, List.getElem?_toArray, List.getElem?_cons_zero, List.getElem?_cons_succ, Option.map_some]
      repeat (refine mix_head ?_; (show wpQuiet _ _ _ _ (_ :: _) _; go_big_quiet_step (fail)); refine wpQuiet_nil ?_)
      refine mix_tail ?_; go_wp2_with fail
      refine (HRK.out _ HBr.out.drew).mono ?_
      rintro e6 wx ⟨rfl, hbx⟩
      have hbx : Below wr.heap.size wr wx := (Below.refl wr.heap.size wr).drew.trans hbx
      go_wp2_with fail
      refine tailL_mk (hbx.mono hzr) ?_
      refine mix_tail ?_; go_wp2_with fail
      have hba : Below wr.heap.size wr (wx.alloc (Obj.cells #[.int .i64 g1, .int .i64 g2] 144)) := hbx.alloc hbx.size _
      have HSL := Lib.hid (show SlR (wx.alloc (Obj.cells #[.int .i64 g1, .int .i64 g2] 144)) (some ⟨wx.heap.size, 0, none⟩) 1 2 (pcells [(g1, g2)]) from SlR.lit wx _ [.int .i64 g1, .int .i64 g2] _ _ 1 2 rfl rfl rfl (by omega))
      refine tailL_mk (hba.mono hzr) ?_
      refine mix_tail ?_
      have hza := hba.size
      have HOA := Lib.hid (owns_below HO.out hba (fun z hz => (HO.out.lt z hz).2))
      have HBA := Lib.hid (hB.out.trans (hba.mono hB.out.size))
      go_wp2_with (at_builtin; refine wpList_append_sl _ rfl _ _ 27 rfl w5.heap.size 144 _ 2 16 Tryz.underlying27 infoGauss rfl (by omega) _ _ _ rfl HOA.out _ 1 1 (pcells [(g1, g2)]) rfl HSL.out (by intro u hu; simp [pcells] at hu; rcases hu with rfl | rfl <;> rfl) (by omega) (by omega) (by omega) ?_)
      intro v2 w2 hown2 hgr2 hb2
      obtain ⟨av2, cv2, rfl, _, _⟩ := owns_slice hown2
      rw [← HT.out] at hown2
      have HO2 := Lib.hid hown2
      have hb3 : Below w5.heap.size wr w2 := (hba.mono hzr).trans hb2
      have HB2 := Lib.hid (hB.out.trans hb3)
      go_wp2_with fail
      refine tailL_mk hb3 ?_
      clear hown2 hgr2 hb2 hb3 hba hbx HSL HOA HBA HO hB
      repeat (refine mix_head ?_; (show wpQuiet _ _ _ _ (_ :: _) _; go_big_quiet_step (fail)); refine wpQuiet_nil ?_)
      refine mix_nil ?_
      go_wp2
      go_roundw
      case rel => exact ⟨k + 1, av2, cv2, by go_num, rfl, by omega, HO2, HB2⟩
      case measure => simp [intOf]; omega
    · obtain rfl : k = m := by omega
      go_wp2
      go_ret
      exact ⟨av, cv, rfl, HB5.out.trans (hB.out.mono HB5.out.size), by have h := SlR.of_owns hO.out; rw [List.take_of_length_le (by rw [HLL.out.2]; exact Nat.le_refl _)] at h; exact h⟩
set_option maxRecDepth 100000 in
theorem gausses_any (l1 l2 : List (Int × Int)) (a1 a2 : Option Addr) (n1 c1 n2 c2 : Nat) (w : World) (h1 : PairsR w a1 n1 l1) (h2 : PairsR w a2 n2 l2) :
    Calls Tryz.prog 92 #[.slice a1 n1 c1, .slice a2 n2 c2] w fun e' w' => e' = .returned (.bool (decide (l1 = l2))) ∧ ∃ m, w' = w.drewN m := by
  have H1 := Lib.hid h1
  have H2 := Lib.hid h2
  have hn1 := h1.small
  have hn2 := h2.small
  clear h1 h2
  by_cases hne : n1 = n2
  · subst hne
    have hbb : ((n1 : Int) != (n1 : Int)) = false := by simp
    go_enter Tryz.func92, Tryz.ntmps92
    go_wp2
    go_loopw [5] (fun i wr => ∃ k : Nat, i = .int .i64 k ∧ k ≤ n1 ∧ Hid (decide (l1.drop k = l2.drop k) = decide (l1 = l2)) ∧ ∃ m, wr = w.drewN m) (fun i _ => n1 - (intOf i).toNat)
    case atStart => exact ⟨0, rfl, Nat.zero_le _, rfl, 0, rfl⟩
    case round =>
      obtain ⟨k, rfl, hk, hF, m, rfl⟩ := hrel
      by_cases hlt : k < n1
      · obtain ⟨b1, o1, rfl, hb1, hc1⟩ := H1.out.addr (by omega)
        obtain ⟨b2, o2, rfl, hb2, hc2⟩ := H2.out.addr (by omega)
        obtain ⟨p0, p1⟩ := hc1 k hlt
        obtain ⟨s0, s1⟩ := hc2 k hlt
        clear hc1 hc2
        have hF' := hF.out
        rw [drop_at l1 k (0, 0) (by rw [H1.out.len]; exact hlt), drop_at l2 k (0, 0) (by rw [H2.out.len]; exact hlt)] at hF'
        generalize l1.getD k (0, 0) = x at *
        generalize l2.getD k (0, 0) = y at *
        obtain ⟨x1, x2⟩ := x
        obtain ⟨y1, y2⟩ := y
        simp only at p0 p1 s0 s1
        have HF := Lib.hid hF'
        have hk0 : (0 : Int) ≤ (k : Int) := by omega
        have hk1 : (k : Int) < (n1 : Int) := by omega
        clear hF' hF
        by_cases hx : x1 = y1
        · subst hx
          by_cases hy : x2 = y2
          · subst hy
            go_wp2
            go_quiet (fail)
            go_wp2
            go_roundw
            case rel => exact ⟨k + 1, by go_num, by omega, Lib.hid (by simpa using HF.out), _, rfl⟩
            case measure => simp [intOf]; omega
          · have e1 : (x2 == y2) = false := by simpa using hy
            go_wp2
            go_quiet (fail)
            go_wp2
            go_ret
            exact ⟨ret_bool (by rw [← HF.out]; simp [hy]), _, World.drewN_drewN _ _ _⟩
        · have e1 : (x1 == y1) = false := by simpa using hx
          go_wp2
          go_quiet (fail)
          go_wp2
          go_ret
          exact ⟨ret_bool (by rw [← HF.out]; simp [hx]), _, World.drewN_drewN _ _ _⟩
      · go_wp2
        go_ret
        exact ⟨ret_bool (by rw [← hF.out, drop_end l1 k (by rw [H1.out.len]; omega), drop_end l2 k (by rw [H2.out.len]; omega)]; rfl), m, rfl⟩
  · have hbb : ((n1 : Int) != (n2 : Int)) = true := by simp; omega
    go_enter Tryz.func92, Tryz.ntmps92
    go_wp2
    go_ret
    refine ⟨ret_bool ?_, 0, rfl⟩
    have : ¬ l1 = l2 := by intro h; apply hne; rw [← H1.out.len, ← H2.out.len, h]
    simp [this]
end Go.Proofs.YthkekjgdknnaiaaGreat
