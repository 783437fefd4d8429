import Derived.Test.YtdklmcicogmeaaaGreatMDAnsP
import Derived.Test.YtdklmcicogmeaaaGreatMDRErr
import Derived.Test.YtdklmcicogmeaaaGreatMDRec
import Derived.Test.YtdklmcicogmeaaaGreatMDSub
/- Differences of responses: the program's function. -/
namespace Go.Proofs.YtdklmcicogmeaaaGreat
open Go.RowKit
set_option linter.unusedVariables false

def nrm (p : Int × Int) : Int := p.1 * p.1 + p.2 * p.2
/-- Responses differ at a place by a ratio a : b. -/
def difB (a b : Int) (p q : Int × Int) : Bool := decide (nrm q * a < nrm p * b) || decide (nrm p * a < nrm q * b)
def difI (a b : Int) (l m : List (Int × Int)) (i : Nat) : Bool := difB a b (l.getD i (0, 0)) (m.getD i (0, 0))
def difE (a b : Int) (l m : List (Int × Int)) : Int := firstErr [respsE l, respsE m, unl ((l.length : Int) == (m.length : Int)) 10, unl (isLow a b) 3, unl (isPo a b 100 && decide (b ≤ a)) 2]
def difL (a b : Int) (l m : List (Int × Int)) : List Nat := (List.range l.length).filter (difI a b l m)
theorem nrm_bd {p : Int × Int} (h : gB p = true) : 0 ≤ nrm p ∧ nrm p ≤ 20000000000000000 := by
  unfold gB at h
  rw [Bool.and_eq_true, wi_iff, wi_iff] at h
  obtain ⟨⟨h1, h2⟩, h3, h4⟩ := h
  have a1 := mulb (a := p.1) (b := p.1) 100000000 100000000 10000000000000000 h1 h2 h1 h2 (by omega)
  have a2 := mulb (a := p.2) (b := p.2) 100000000 100000000 10000000000000000 h3 h4 h3 h4 (by omega)
  have b1 := mul_self_nonneg' p.1
  have b2 := mul_self_nonneg' p.2
  unfold nrm
  omega
theorem respsE_zero {l : List (Int × Int)} (h : respsE l = 0) : l.length ≤ 8 ∧ ∀ p ∈ l, gB p = true := by
  unfold respsE at h
  obtain ⟨h1, h2⟩ := firstErr_cons.1 h
  obtain ⟨h3, _⟩ := firstErr_cons.1 h2
  rw [unl_eq_zero (by omega)] at h1 h3
  rw [decide_eq_true_eq] at h1
  rw [Bool.not_eq_true', List.any_eq_false] at h3
  exact ⟨by omega, fun p hp => by simpa using h3 p hp⟩
theorem square_any (x y : Int) (w : World) (h : gB (x, y) = true) : Calls Tryz.prog 102 #[.agg #[.int .i64 x, .int .i64 y]] w fun e' w' => e' = .returned (.int .i64 (nrm (x, y))) ∧ Below w.heap.size w w' := by
  unfold gB at h
  rw [Bool.and_eq_true, wi_iff, wi_iff] at h
  obtain ⟨⟨h1, h2⟩, h3, h4⟩ := h
  simp only at h1 h2 h3 h4
  have a1 := mulb (a := x) (b := x) 100000000 100000000 10000000000000000 h1 h2 h1 h2 (by omega)
  have a2 := mulb (a := y) (b := y) 100000000 100000000 10000000000000000 h3 h4 h3 h4 (by omega)
  have w1 : IntKind.i64.wrap (x * x) = x * x := by rw [IntKind.wrap_i64]; omega
  have w2 : IntKind.i64.wrap (y * y) = y * y := by rw [IntKind.wrap_i64]; omega
  have w3 : IntKind.i64.wrap (x * x + y * y) = x * x + y * y := by rw [IntKind.wrap_i64]; omega
  go_enter Tryz.func102, Tryz.ntmps102
  go_wp2
  go_ret
  exact ⟨ret_int rfl, by (repeat' (first | (with_reducible exact Below.refl _ _) | (with_reducible assumption) | (with_reducible refine Below.drewN ?_ _) | (with_reducible refine Below.alloc ?_ ?_ _) | (with_reducible refine Below.drew ?_) | (with_reducible refine Below.setCell ?_ ?_ _) | (with_reducible refine Below.step (by assumption) ?_ ?_) | (with_reducible exact And.left (by assumption)) | go_size))⟩
theorem cf_sq (args : Array Value) (w : World) : (callFunc 102 args).run Tryz.prog w = .ok (.enter 102 args) w := by kernel_rfl
theorem greater_any (u v a b : Int) (X : Nat) (w : World) (ha : w.cell? ⟨X, 0, none⟩ = some (.int .i64 a)) (hb : w.cell? ⟨X, 1, none⟩ = some (.int .i64 b)) (h1 : IntKind.i64.wrap (u * b) = u * b) (h2 : IntKind.i64.wrap (v * a) = v * a) :
    Calls Tryz.prog 103 #[.int .i64 u, .int .i64 v, .pointer (some ⟨X, 0, none⟩)] w fun e' w' => e' = .returned (.bool (decide (v * a < u * b))) ∧ Below w.heap.size w w' := by
  go_enter Tryz.func103, Tryz.ntmps103
  go_wp2
  go_ret
  exact ⟨rfl, by (repeat' (first | (with_reducible exact Below.refl _ _) | (with_reducible assumption) | (with_reducible refine Below.drewN ?_ _) | (with_reducible refine Below.alloc ?_ ?_ _) | (with_reducible refine Below.drew ?_) | (with_reducible refine Below.setCell ?_ ?_ _) | (with_reducible refine Below.step (by assumption) ?_ ?_) | (with_reducible exact And.left (by assumption)) | go_size))⟩
theorem cf_gr (args : Array Value) (w : World) : (callFunc 103 args).run Tryz.prog w = .ok (.enter 103 args) w := by kernel_rfl
end Go.Proofs.YtdklmcicogmeaaaGreat

/- Differences of responses, with the errors: the program's function. -/
namespace Go.Proofs.YtdklmcicogmeaaaGreat
open Go.RowKit
set_option linter.unusedVariables false

theorem getD_pair {l : List (Int × Int)} {j : Nat} (h : j < l.length) : l.getD j (0, 0) ∈ l := by
  rw [List.getD_eq_getElem?_getD, List.getElem?_eq_getElem h]; exact List.getElem_mem h
set_option maxHeartbeats 4000000 in
set_option maxRecDepth 100000 in
theorem differencesOf_any (a b : Int) (l m : List (Int × Int)) (al am : Option Addr) (n cl k ck : Nat) (w : World) (hl : PairsR w al n l) (hm : PairsR w am k m) (ha : -9223372036854775808 ≤ a ∧ a ≤ 9223372036854775807) (hb : b ≤ 9223372036854775807) :
    Calls Tryz.prog 41 #[.slice al n cl, .slice am k ck, .agg #[.int .i64 a, .int .i64 b]] w fun e' w' => ∃ a' k' c', e' = .returned (.tuple #[.slice a' k' c', .int .i64 (difE a b l m)]) ∧ Below w.heap.size w w' ∧ IntsR w' a' k' (nats (if difE a b l m = 0 then difL a b l m else [])) := by
  have hn := hl.small
  have hk := hm.small
  have HL := Lib.hid hl
  have HM := Lib.hid hm
  have HR1 := Lib.hid (fun (W : World) (hb : Below w.heap.size w W) => responsesErr_any l al n cl W (hl.below hb))
  have HR2 := Lib.hid (fun (W : World) (hb : Below w.heap.size w W) => responsesErr_any m am k ck W (hm.below hb))
  have HLO := Lib.hid (fun w' => d_isLowest_any a b w' ha.1 ha.2 hb)
  have HPO := Lib.hid (fun w' => d_isPositive_any a b 100 w')
  have HE := Lib.hid (show difE a b l m = firstErr [respsE l, respsE m, unl ((n : Int) == (k : Int)) 10, unl (isLow a b) 3, unl (isPo a b 100 && decide (b ≤ a)) 2] by unfold difE; rw [hl.len, hm.len])
  have HZ := Lib.hid (show difE a b l m = 0 → respsE l = 0 ∧ respsE m = 0 ∧ n = k ∧ (1 ≤ a ∧ a ≤ 100) ∧ (1 ≤ b ∧ b ≤ 100) from fun h => by
    rw [HE.out] at h
    obtain ⟨h1, h⟩ := firstErr_cons.1 h
    obtain ⟨h2, h⟩ := firstErr_cons.1 h
    obtain ⟨h3, h⟩ := firstErr_cons.1 h
    obtain ⟨_, h⟩ := firstErr_cons.1 h
    obtain ⟨h5, _⟩ := firstErr_cons.1 h
    rw [unl_eq_zero (by omega)] at h3 h5
    unfold isPo at h5
    simp only [Bool.and_eq_true, wi_iff] at h5
    simp only [beq_iff_eq] at h3
    exact ⟨h1, h2, by omega, h5.1.1, h5.1.2⟩)
  have HDL := Lib.hid (show difL a b l m = (List.range n).filter (difI a b l m) by unfold difL; rw [hl.len])
  have HGL := Lib.hid (respsE_zero (l := l))
  have HGM := Lib.hid (respsE_zero (l := m))
  clear hl hm ha hb
  generalize respsE l = r1 at *
  generalize respsE m = r2 at *
  generalize isLow a b = bl at *
  generalize isPo a b 100 = bp at *
  obtain ⟨E, hE⟩ : ∃ E, E = difE a b l m := ⟨_, rfl⟩
  rw [← hE] at HE HZ ⊢
  clear hE
  cases bp
  · have hE0 : E ≠ 0 := fun h => by
      rw [HE.out] at h
      obtain ⟨_, h⟩ := firstErr_cons.1 h
      obtain ⟨_, h⟩ := firstErr_cons.1 h
      obtain ⟨_, h⟩ := firstErr_cons.1 h
      obtain ⟨_, h⟩ := firstErr_cons.1 h
      obtain ⟨h5, _⟩ := firstErr_cons.1 h
      simp [unl] at h5
    rw [if_neg hE0]
    go_enter Tryz.func41, Tryz.ntmps41
    go_wp2_with fail
    generalize hW : World.alloc _ _ = w5
    have hb5 : Below w.heap.size w w5 := by rw [← hW]; (repeat' (first | (with_reducible exact Below.refl _ _) | (with_reducible assumption) | (with_reducible refine Below.drewN ?_ _) | (with_reducible refine Below.alloc ?_ ?_ _) | (with_reducible refine Below.drew ?_) | (with_reducible refine Below.setCell ?_ ?_ _) | (with_reducible refine Below.step (by assumption) ?_ ?_) | (with_reducible exact And.left (by assumption)) | go_size))
    have q0 : w5.cell? ⟨w.heap.size, 0, none⟩ = some (.int .i64 a) := by { rw [← hW]; clear hW; go_simp }
    have q1 : w5.cell? ⟨w.heap.size, 1, none⟩ = some (.int .i64 b) := by { rw [← hW]; clear hW; go_simp }
    have l5 : w.heap.size < w5.heap.size := by { rw [← hW]; clear hW; simp }
    have HB5 := Lib.hid hb5
    clear hW hb5
    refine wp_region_laterM (B := w5.heap.size) [(true, 0), (true, 2), (true, 4), (true, 5), (true, 6), (true, 7), (true, 8), (true, 10), (true, 13), (false, 1), (false, 3), (false, 9), (false, 11), (false, 12), (false, 14), (true, 15), (true, 16), (true, 17), (true, 18), (true, 19), (true, 20), (true, 21), (false, 22), (false, 23), (false, 24), (true, 25)] (by kernel_rfl) (by kernel_rfl) ?_; simp only [opsOf, List.filterMap_cons, List.filterMap_nil, List.getElem?_toArray, List.getElem?_cons_zero, List.getElem?_cons_succ, Option.map_some]
    repeat (refine mix_head ?_; (show wpQuiet _ _ _ _ (_ :: _) _; go_big_quiet_step (fail)); refine wpQuiet_nil ?_)
    refine mix_tail ?_; go_wp2_with fail
    refine (HR1.out _ HB5.out.drew).mono ?_
    rintro e6 w6 ⟨rfl, hb6⟩
    have HX := Lib.hid ((Below.refl w5.heap.size w5).drew.trans hb6)
    clear hb6
    go_wp2_with fail
    refine tailL_mk HX.out ?_
    refine mix_tail ?_; go_wp2_with fail
    refine (HR2.out _ (HB5.out.trans (HX.out.mono HB5.out.size))).mono ?_
    rintro e7 w7 ⟨rfl, hb7⟩
    have HX := Lib.hid (HX.out.trans (hb7.mono HX.out.size))
    clear hb7
    go_wp2_with fail
    refine tailL_mk HX.out ?_
    refine mix_tail ?_; go_wp2_with fail
    refine (d_unless_any _ _ _).mono ?_
    rintro e8 w8 ⟨rfl, rfl⟩
    go_wp2_with fail
    refine tailL_mk HX.out ?_
    refine mix_tail ?_; go_wp2_with fail
    refine (HLO.out _).mono ?_
    rintro e9 w9 ⟨rfl, hb9⟩
    have HX := Lib.hid (HX.out.trans (hb9.mono HX.out.size))
    clear hb9
    go_wp2_with fail
    refine tailL_mk HX.out ?_
    refine mix_tail ?_; go_wp2_with fail
    refine (d_unless_any _ _ _).mono ?_
    rintro e10 w10 ⟨rfl, rfl⟩
    go_wp2_with fail
    refine tailL_mk HX.out ?_
    refine mix_tail ?_; go_wp2_with fail
    refine (HPO.out _).mono ?_
    rintro e11 w11 ⟨rfl, hb11⟩
    have HX := Lib.hid (HX.out.trans (hb11.mono HX.out.size))
    clear hb11
    go_wp2_with fail
    refine tailL_mk HX.out ?_
    rw [Bool.false_and] at HE
    repeat (refine mix_head ?_; (show wpQuiet _ _ _ _ (_ :: _) _; go_big_quiet_step (fail)); refine wpQuiet_nil ?_)
    refine mix_tail ?_; go_wp2_with fail
    refine (d_unless_any _ _ _).mono ?_
    rintro e12 w12 ⟨rfl, rfl⟩
    go_wp2_with fail
    refine tailL_mk HX.out ?_
    refine mix_tail ?_; go_wp2_with fail
    refine tailL_mk (HX.out.alloc HX.out.size _) ?_
    refine mix_tail ?_; go_wp2_with fail
    have HX := Lib.hid (HX.out.alloc HX.out.size (Obj.cells #[.int .i64 r1, .int .i64 r2, .int .i64 (unl ((n : Int) == (k : Int)) 10), .int .i64 (unl bl 3), .int .i64 (unl (false) 2)] 43))
    refine (d_first5 _ _ _ _ _ _ _ _ _ (by rfl) (by simp)).mono ?_
    rintro e13 w13 ⟨rfl, hw13⟩
    rw [hw13] at HX
    rw [← HE.out]
    clear hw13
    go_wp2_with fail
    refine tailL_mk HX.out ?_
    repeat (refine mix_head ?_; (show wpQuiet _ _ _ _ (_ :: _) _; go_big_quiet_step (fail)); refine wpQuiet_nil ?_)
    refine mix_nil ?_
    have HBX := Lib.hid (HB5.out.trans (HX.out.mono HB5.out.size))
    have hE1 : (E != 0) = true := by simpa using hE0
    go_wp2
    go_ret2
    exact ⟨none, 0, 0, rfl, HBX.out, IntsR.nil _ _⟩
  · rw [Bool.true_and] at HE
    by_cases hE0 : E = 0
    · rw [if_pos hE0, HDL.out]
      obtain ⟨D, hD⟩ : ∃ D, D = difI a b l m := ⟨_, rfl⟩
      rw [← hD]
      have HD := Lib.hid hD
      clear hD
      subst hE0
      have HZ0 := Lib.hid (HZ.out rfl)
      clear HZ HDL
      go_enter Tryz.func41, Tryz.ntmps41
      go_wp2_with fail
      generalize hW : World.alloc _ _ = w5
      have hb5 : Below w.heap.size w w5 := by rw [← hW]; (repeat' (first | (with_reducible exact Below.refl _ _) | (with_reducible assumption) | (with_reducible refine Below.drewN ?_ _) | (with_reducible refine Below.alloc ?_ ?_ _) | (with_reducible refine Below.drew ?_) | (with_reducible refine Below.setCell ?_ ?_ _) | (with_reducible refine Below.step (by assumption) ?_ ?_) | (with_reducible exact And.left (by assumption)) | go_size))
      have q0 : w5.cell? ⟨w.heap.size, 0, none⟩ = some (.int .i64 a) := by { rw [← hW]; clear hW; go_simp }
      have q1 : w5.cell? ⟨w.heap.size, 1, none⟩ = some (.int .i64 b) := by { rw [← hW]; clear hW; go_simp }
      have l5 : w.heap.size < w5.heap.size := by { rw [← hW]; clear hW; simp }
      have HB5 := Lib.hid hb5
      clear hW hb5
      refine wp_region_laterM (B := w5.heap.size) [(true, 0), (true, 2), (true, 4), (true, 5), (true, 6), (true, 7), (true, 8), (true, 10), (true, 13), (false, 1), (false, 3), (false, 9), (false, 11), (false, 12), (false, 14), (true, 15), (true, 16), (true, 17), (true, 18), (true, 19), (true, 20), (true, 21), (false, 22), (false, 23), (false, 24), (true, 25)] (by kernel_rfl) (by kernel_rfl) ?_; simp only [opsOf, List.filterMap_cons, List.filterMap_nil, List.getElem?_toArray, List.getElem?_cons_zero, List.getElem?_cons_succ, Option.map_some]
      repeat (refine mix_head ?_; (show wpQuiet _ _ _ _ (_ :: _) _; go_big_quiet_step (fail)); refine wpQuiet_nil ?_)
      refine mix_tail ?_; go_wp2_with fail
      refine (HR1.out _ HB5.out.drew).mono ?_
      rintro e6 w6 ⟨rfl, hb6⟩
      have HX := Lib.hid ((Below.refl w5.heap.size w5).drew.trans hb6)
      clear hb6
      go_wp2_with fail
      refine tailL_mk HX.out ?_
      refine mix_tail ?_; go_wp2_with fail
      refine (HR2.out _ (HB5.out.trans (HX.out.mono HB5.out.size))).mono ?_
      rintro e7 w7 ⟨rfl, hb7⟩
      have HX := Lib.hid (HX.out.trans (hb7.mono HX.out.size))
      clear hb7
      go_wp2_with fail
      refine tailL_mk HX.out ?_
      refine mix_tail ?_; go_wp2_with fail
      refine (d_unless_any _ _ _).mono ?_
      rintro e8 w8 ⟨rfl, rfl⟩
      go_wp2_with fail
      refine tailL_mk HX.out ?_
      refine mix_tail ?_; go_wp2_with fail
      refine (HLO.out _).mono ?_
      rintro e9 w9 ⟨rfl, hb9⟩
      have HX := Lib.hid (HX.out.trans (hb9.mono HX.out.size))
      clear hb9
      go_wp2_with fail
      refine tailL_mk HX.out ?_
      refine mix_tail ?_; go_wp2_with fail
      refine (d_unless_any _ _ _).mono ?_
      rintro e10 w10 ⟨rfl, rfl⟩
      go_wp2_with fail
      refine tailL_mk HX.out ?_
      refine mix_tail ?_; go_wp2_with fail
      refine (HPO.out _).mono ?_
      rintro e11 w11 ⟨rfl, hb11⟩
      have HX := Lib.hid (HX.out.trans (hb11.mono HX.out.size))
      clear hb11
      go_wp2_with fail
      refine tailL_mk HX.out ?_
      repeat (refine mix_head ?_; (show wpQuiet _ _ _ _ (_ :: _) _; go_big_quiet_step (fail)); refine wpQuiet_nil ?_)
      refine mix_tail ?_; go_wp2_with fail
      refine (d_unless_any _ _ _).mono ?_
      rintro e12 w12 ⟨rfl, rfl⟩
      go_wp2_with fail
      refine tailL_mk HX.out ?_
      refine mix_tail ?_; go_wp2_with fail
      refine tailL_mk (HX.out.alloc HX.out.size _) ?_
      refine mix_tail ?_; go_wp2_with fail
      have HX := Lib.hid (HX.out.alloc HX.out.size (Obj.cells #[.int .i64 r1, .int .i64 r2, .int .i64 (unl ((n : Int) == (k : Int)) 10), .int .i64 (unl bl 3), .int .i64 (unl (decide (b ≤ a)) 2)] 43))
      refine (d_first5 _ _ _ _ _ _ _ _ _ (by rfl) (by simp)).mono ?_
      rintro e13 w13 ⟨rfl, hw13⟩
      rw [hw13] at HX
      rw [← HE.out]
      clear hw13
      go_wp2_with fail
      refine tailL_mk HX.out ?_
      repeat (refine mix_head ?_; (show wpQuiet _ _ _ _ (_ :: _) _; go_big_quiet_step (fail)); refine wpQuiet_nil ?_)
      refine mix_nil ?_
      have HBX := Lib.hid (HB5.out.trans (HX.out.mono HB5.out.size))
      have hbx := HX.out
      have hzx := hbx.size
      have q0r : w13.cell? ⟨w.heap.size, 0, none⟩ = some (.int .i64 a) := by { rw [cellB hbx _ _ (by first | (simp; done) | (simp; omega) | omega)]; all_goals (first | assumption | go_simp) }; have q1r : w13.cell? ⟨w.heap.size, 1, none⟩ = some (.int .i64 b) := by { rw [cellB hbx _ _ (by first | (simp; done) | (simp; omega) | omega)]; all_goals (first | assumption | go_simp) }; have lr : w.heap.size < w13.heap.size := by { omega }
      obtain ⟨hr1, hr2, hnk, ha, hb⟩ := HZ0.out
      subst hnk
      have hnn : ((n : Int) == (n : Int)) = true := by simp
      simp only [hnn]
      clear hnn
      have hn8 := (HGL.out hr1).1
      have HGL := Lib.hid (HGL.out hr1).2
      have HGM := Lib.hid (HGM.out hr2).2
      have HLn := Lib.hid HL.out.len
      rw [HLn.out] at hn8
      clear hbx hzx HZ0 HR1 HR2 HLO HPO HE HX HB5 hr1 hr2 q0 q1 l5
      go_wp2_with fail
      go_loopw [11, 47] (fun v i wr => ∃ (j q : Nat) (av : Option Addr) (cv : Nat), i = .int .i64 j ∧ v = .slice av q cv ∧ j ≤ n ∧ q ≤ j ∧ Hid (wr.ownsRow w13.heap.size 3 1 (.slice av q cv) q (icells (nats ((List.range j).filter D)))) ∧ Hid (Below w13.heap.size w13 wr)) (fun _ i _ => n - (intOf i).toNat)
      case atStart => exact ⟨0, 0, none, 0, rfl, rfl, Nat.zero_le _, Nat.le_refl _, Lib.hid (World.ownsRow_nil _ _ _ _), Lib.hid (Below.refl _ _)⟩
      case round =>
        obtain ⟨j, q, av, cv, rfl, rfl, hj, hq, hO, hB⟩ := hrel
        have j0 : (0 : Int) ≤ (j : Int) := by omega
        have hBx := hB.out
        have hzr := hBx.size
        have q0 : wr.cell? ⟨w.heap.size, 0, none⟩ = some (.int .i64 a) := by { rw [cellB hBx _ _ (by first | (simp; done) | (simp; omega) | omega)]; all_goals (first | assumption | go_simp) }; have q1 : wr.cell? ⟨w.heap.size, 1, none⟩ = some (.int .i64 b) := by { rw [cellB hBx _ _ (by first | (simp; done) | (simp; omega) | omega)]; all_goals (first | assumption | go_simp) }; have l0 : w.heap.size < wr.heap.size := by { omega }
        rcases Nat.lt_or_ge j n with hlt | hge
        · have j1 : (j : Int) < (n : Int) := by omega
          have HBr := Lib.hid (HBX.out.trans (hBx.mono HBX.out.size))
          obtain ⟨bl', ol, rfl, hbl, hcl⟩ := (HL.out.below HBr.out).addr (by omega)
          obtain ⟨bm, om, rfl, hbm, hcm⟩ := (HM.out.below HBr.out).addr (by omega)
          obtain ⟨p0, p1⟩ := hcl j hlt
          obtain ⟨s0, s1⟩ := hcm j hlt
          have hgl := HGL.out (l.getD j (0, 0)) (getD_pair (by rw [HLn.out]; exact hlt))
          have hgm := HGM.out (m.getD j (0, 0)) (getD_pair (by rw [HM.out.len]; exact hlt))
          have HDj := Lib.hid (show D j = (decide (nrm (m.getD j (0, 0)) * a < nrm (l.getD j (0, 0)) * b) || decide (nrm (l.getD j (0, 0)) * a < nrm (m.getD j (0, 0)) * b)) by rw [HD.out]; rfl)
          generalize l.getD j (0, 0) = x at *
          generalize m.getD j (0, 0) = y at *
          obtain ⟨x1, x2⟩ := x
          obtain ⟨y1, y2⟩ := y
          simp only at p0 p1 s0 s1
          have bx := nrm_bd hgl
          have by' := nrm_bd hgm
          have HS1 := Lib.hid (fun w' => square_any x1 x2 w' hgl)
          have HS2 := Lib.hid (fun w' => square_any y1 y2 w' hgm)
          generalize nrm (x1, x2) = N1 at *
          generalize nrm (y1, y2) = N2 at *
          have m1 := mulb (a := N1) (b := b) 20000000000000000 100 2000000000000000000 (by omega) (by omega) (by omega) (by omega) (by omega)
          have m2 := mulb (a := N2) (b := a) 20000000000000000 100 2000000000000000000 (by omega) (by omega) (by omega) (by omega) (by omega)
          have m3 := mulb (a := N2) (b := b) 20000000000000000 100 2000000000000000000 (by omega) (by omega) (by omega) (by omega) (by omega)
          have m4 := mulb (a := N1) (b := a) 20000000000000000 100 2000000000000000000 (by omega) (by omega) (by omega) (by omega) (by omega)
          have HW := Lib.hid (show (IntKind.i64.wrap (N1 * b) = N1 * b ∧ IntKind.i64.wrap (N2 * a) = N2 * a) ∧ IntKind.i64.wrap (N2 * b) = N2 * b ∧ IntKind.i64.wrap (N1 * a) = N1 * a by
            refine ⟨⟨?_, ?_⟩, ?_, ?_⟩ <;> (rw [IntKind.wrap_i64]; omega))
          clear hcl hcm hgl hgm bx by' m1 m2 m3 m4
          go_wp2_with fail
          generalize hW : World.alloc _ _ = wd
          have hbd : Below wr.heap.size wr wd := by rw [← hW]; (repeat' (first | (with_reducible exact Below.refl _ _) | (with_reducible assumption) | (with_reducible refine Below.drewN ?_ _) | (with_reducible refine Below.alloc ?_ ?_ _) | (with_reducible refine Below.drew ?_) | (with_reducible refine Below.setCell ?_ ?_ _) | (with_reducible refine Below.step (by assumption) ?_ ?_) | (with_reducible exact And.left (by assumption)) | go_size))
          have t0 : wd.cell? ⟨wr.heap.size, 0, none⟩ = some (.int .i64 x1) := by { rw [← hW]; clear hW; go_simp }
          have t1 : wd.cell? ⟨wr.heap.size, 1, none⟩ = some (.int .i64 x2) := by { rw [← hW]; clear hW; go_simp }
          have ld : wr.heap.size < wd.heap.size := by { rw [← hW]; clear hW; simp }
          obtain ⟨XG, hXG⟩ : ∃ X, X = wr.heap.size := ⟨_, rfl⟩
          rw [← hXG] at t0 t1 ld ⊢
          have lbm : bm < wd.heap.size := by omega
          have lx : w.heap.size < wd.heap.size := by omega
          have q0d : wd.cell? ⟨w.heap.size, 0, none⟩ = some (.int .i64 a) := by { rw [cellB hbd _ _ (by first | (simp; done) | (simp; omega) | omega)]; all_goals (first | assumption | go_simp) }; have q1d : wd.cell? ⟨w.heap.size, 1, none⟩ = some (.int .i64 b) := by { rw [cellB hbd _ _ (by first | (simp; done) | (simp; omega) | omega)]; all_goals (first | assumption | go_simp) }; have s0d : wd.cell? ⟨bm, om + j * 2, none⟩ = some (.int .i64 y1) := by { rw [cellB hbd _ _ (by first | (simp; done) | (simp; omega) | omega)]; all_goals (first | assumption | go_simp) }; have s1d : wd.cell? ⟨bm, om + j * 2 + 1, none⟩ = some (.int .i64 y2) := by { rw [cellB hbd _ _ (by first | (simp; done) | (simp; omega) | omega)]; all_goals (first | assumption | go_simp) }
          have HBd := Lib.hid (hB.out.trans (hbd.mono hzr))
          have HO := Lib.hid (owns_below hO.out hbd (fun z hz => (hO.out.lt z hz).2))
          clear hW hbd hXG p0 p1 s0 s1 q0 q1 hB hO hBx hzr l0 hbl hbm HBr
          refine wp_region_laterM (B := wd.heap.size) [(true, 0), (true, 1), (true, 3), (true, 4), (true, 5), (true, 6), (true, 7), (false, 2), (false, 8), (true, 9), (true, 10)] (by kernel_rfl) (by kernel_rfl) ?_; simp only [opsOf, List.filterMap_cons, List.filterMap_nil, List.getElem?_toArray, List.getElem?_cons_zero, List.getElem?_cons_succ, Option.map_some]
          repeat (refine mix_head ?_; (show wpQuiet _ _ _ _ (_ :: _) _; go_big_quiet_step (fail)); refine wpQuiet_nil ?_)
          refine mix_tail ?_; go_wp2_with fail
          refine (HS1.out _).mono ?_
          rintro e6 wx ⟨rfl, hbx⟩
          have HX := Lib.hid ((Below.refl wd.heap.size wd).drew.trans hbx)
          clear hbx
          go_wp2_with fail
          refine tailL_mk HX.out ?_
          refine mix_tail ?_; go_wp2_with fail
          refine (HS2.out _).mono ?_
          rintro e7 wy ⟨rfl, hby⟩
          have HX := Lib.hid (HX.out.trans (hby.mono HX.out.size))
          clear hby
          go_wp2_with fail
          refine tailL_mk HX.out ?_
          repeat (refine mix_head ?_; (show wpQuiet _ _ _ _ (_ :: _) _; go_big_quiet_step (fail)); refine wpQuiet_nil ?_)
          refine mix_nil ?_
          have hby := HX.out
          have hzy := hby.size
          have q0 : wy.cell? ⟨w.heap.size, 0, none⟩ = some (.int .i64 a) := by { rw [cellB hby _ _ (by first | (simp; done) | (simp; omega) | omega)]; all_goals (first | assumption | go_simp) }; have q1 : wy.cell? ⟨w.heap.size, 1, none⟩ = some (.int .i64 b) := by { rw [cellB hby _ _ (by first | (simp; done) | (simp; omega) | omega)]; all_goals (first | assumption | go_simp) }; have ly : w.heap.size < wy.heap.size := by { omega }
          have HBy := Lib.hid (HBd.out.trans (hby.mono HBd.out.size))
          have HO := Lib.hid (owns_below HO.out hby (fun z hz => (HO.out.lt z hz).2))
          clear hby hzy HX HBd q0d q1d s0d s1d t0 t1 ld lbm lx HS1 HS2
          go_wp2_with fail
          refine (greater_any N1 N2 a b w.heap.size wy q0 q1 HW.out.1.1 HW.out.1.2).mono ?_
          rintro e8 wz ⟨rfl, hbz⟩
          by_cases c1 : N2 * a < N1 * b
          · rw [decide_eq_true c1] at HDj ⊢
            rw [Bool.true_or] at HDj
            have HBz := Lib.hid (HBy.out.trans (hbz.mono HBy.out.size))
            have HOz := Lib.hid (owns_below HO.out hbz (fun z hz => (HO.out.lt z hz).2))
            clear hbz HBy HO q0 q1 ly c1
            have HK := Lib.hid (show icells (nats ((List.range (j + 1)).filter D)) = icells (nats ((List.range j).filter D)) ++ [.int .i64 (j : Int)] by rw [List.range_succ, List.filter_append]; simp [HDj.out, nats, icells])
            go_wp2_with (at_builtin; refine wpList_append_sl _ rfl _ _ 27 rfl w13.heap.size 3 _ 1 8 Tryz.underlying27 infoInt rfl (by omega) (.slice av q cv) q _ rfl (HOz.out.alloc _) _ 1 1 [.int .i64 (j : Int)] rfl (SlR.lit _ _ _ _ _ 1 1 (by rfl) (by simp) rfl (by omega)) (by simp [Value.oneCell']) (by omega) (by omega) (by have := HBz.out.size; simp; omega) ?_)
            intro v2 w2 hown2 hgr2 hb2
            obtain ⟨av2, cv2, rfl, _, _⟩ := owns_slice hown2
            rw [← HK.out] at hown2
            have HO2 := Lib.hid hown2
            have HB2 := Lib.hid ((HBz.out.alloc HBz.out.size _).trans hb2)
            clear hown2 hgr2 hb2 HOz HBz HK
            go_wp2
            go_roundw
            case rel => exact ⟨j + 1, q + 1, av2, cv2, by go_num, rfl, by omega, by omega, HO2, HB2⟩
            case measure => simp [intOf]; omega
          · rw [decide_eq_false c1] at HDj ⊢
            rw [Bool.false_or] at HDj
            have hzz := hbz.size
            have q0d : wz.cell? ⟨w.heap.size, 0, none⟩ = some (.int .i64 a) := by { rw [cellB hbz _ _ (by first | (simp; done) | (simp; omega) | omega)]; all_goals (first | assumption | go_simp) }; have q1d : wz.cell? ⟨w.heap.size, 1, none⟩ = some (.int .i64 b) := by { rw [cellB hbz _ _ (by first | (simp; done) | (simp; omega) | omega)]; all_goals (first | assumption | go_simp) }; have lz : w.heap.size < wz.heap.size := by { omega }
            have HBz := Lib.hid (HBy.out.trans (hbz.mono HBy.out.size))
            have HOz := Lib.hid (owns_below HO.out hbz (fun z hz => (HO.out.lt z hz).2))
            clear hbz hzz HBy HO q0 q1 ly c1
            go_wp2_with fail
            refine (greater_any N2 N1 a b w.heap.size wz q0d q1d HW.out.2.1 HW.out.2.2).mono ?_
            rintro e9 wv ⟨rfl, hbv⟩
            have HBv := Lib.hid (HBz.out.trans (hbv.mono HBz.out.size))
            have HOv := Lib.hid (owns_below HOz.out hbv (fun z hz => (HOz.out.lt z hz).2))
            clear hbv q0d q1d lz
            by_cases c2 : N1 * a < N2 * b
            · rw [decide_eq_true c2] at HDj ⊢
              clear HBz HOz c2
              have HBz := HBv
              have HOz := HOv
              have HK := Lib.hid (show icells (nats ((List.range (j + 1)).filter D)) = icells (nats ((List.range j).filter D)) ++ [.int .i64 (j : Int)] by rw [List.range_succ, List.filter_append]; simp [HDj.out, nats, icells])
              go_wp2_with (at_builtin; refine wpList_append_sl _ rfl _ _ 27 rfl w13.heap.size 3 _ 1 8 Tryz.underlying27 infoInt rfl (by omega) (.slice av q cv) q _ rfl (HOz.out.alloc _) _ 1 1 [.int .i64 (j : Int)] rfl (SlR.lit _ _ _ _ _ 1 1 (by rfl) (by simp) rfl (by omega)) (by simp [Value.oneCell']) (by omega) (by omega) (by have := HBz.out.size; simp; omega) ?_)
              intro v2 w2 hown2 hgr2 hb2
              obtain ⟨av2, cv2, rfl, _, _⟩ := owns_slice hown2
              rw [← HK.out] at hown2
              have HO2 := Lib.hid hown2
              have HB2 := Lib.hid ((HBz.out.alloc HBz.out.size _).trans hb2)
              clear hown2 hgr2 hb2 HOz HBz HK
              go_wp2
              go_roundw
              case rel => exact ⟨j + 1, q + 1, av2, cv2, by go_num, rfl, by omega, by omega, HO2, HB2⟩
              case measure => simp [intOf]; omega
            · rw [decide_eq_false c2] at HDj ⊢
              have HK := Lib.hid (show icells (nats ((List.range (j + 1)).filter D)) = icells (nats ((List.range j).filter D)) by rw [List.range_succ, List.filter_append]; simp [HDj.out])
              have HO2 := HOv.out
              rw [← HK.out] at HO2
              have HO2 := Lib.hid HO2
              clear c2 HOv HOz HBz HK
              go_wp2
              go_roundw
              case rel => exact ⟨j + 1, q, av, cv, by go_num, rfl, by omega, by omega, HO2, HBv⟩
              case measure => simp [intOf]; omega
        · obtain rfl : j = n := by omega
          go_wp2
          go_ret2
          exact ⟨av, q, cv, rfl, HBX.out.trans (hB.out.mono HBX.out.size), SlR.of_owns hO.out⟩
    · rw [if_neg hE0]
      have hE1 : (E != 0) = true := by simpa using hE0
      go_enter Tryz.func41, Tryz.ntmps41
      go_wp2_with fail
      generalize hW : World.alloc _ _ = w5
      have hb5 : Below w.heap.size w w5 := by rw [← hW]; (repeat' (first | (with_reducible exact Below.refl _ _) | (with_reducible assumption) | (with_reducible refine Below.drewN ?_ _) | (with_reducible refine Below.alloc ?_ ?_ _) | (with_reducible refine Below.drew ?_) | (with_reducible refine Below.setCell ?_ ?_ _) | (with_reducible refine Below.step (by assumption) ?_ ?_) | (with_reducible exact And.left (by assumption)) | go_size))
      have q0 : w5.cell? ⟨w.heap.size, 0, none⟩ = some (.int .i64 a) := by { rw [← hW]; clear hW; go_simp }
      have q1 : w5.cell? ⟨w.heap.size, 1, none⟩ = some (.int .i64 b) := by { rw [← hW]; clear hW; go_simp }
      have l5 : w.heap.size < w5.heap.size := by { rw [← hW]; clear hW; simp }
      have HB5 := Lib.hid hb5
      clear hW hb5
      refine wp_region_laterM (B := w5.heap.size) [(true, 0), (true, 2), (true, 4), (true, 5), (true, 6), (true, 7), (true, 8), (true, 10), (true, 13), (false, 1), (false, 3), (false, 9), (false, 11), (false, 12), (false, 14), (true, 15), (true, 16), (true, 17), (true, 18), (true, 19), (true, 20), (true, 21), (false, 22), (false, 23), (false, 24), (true, 25)] (by kernel_rfl) (by kernel_rfl) ?_; simp only [opsOf, List.filterMap_cons, List.filterMap_nil, List.getElem?_toArray, List.getElem?_cons_zero, List.getElem?_cons_succ, Option.map_some]
      repeat (refine mix_head ?_; (show wpQuiet _ _ _ _ (_ :: _) _; go_big_quiet_step (fail)); refine wpQuiet_nil ?_)
      refine mix_tail ?_; go_wp2_with fail
      refine (HR1.out _ HB5.out.drew).mono ?_
      rintro e6 w6 ⟨rfl, hb6⟩
      have HX := Lib.hid ((Below.refl w5.heap.size w5).drew.trans hb6)
      clear hb6
      go_wp2_with fail
      refine tailL_mk HX.out ?_
      refine mix_tail ?_; go_wp2_with fail
      refine (HR2.out _ (HB5.out.trans (HX.out.mono HB5.out.size))).mono ?_
      rintro e7 w7 ⟨rfl, hb7⟩
      have HX := Lib.hid (HX.out.trans (hb7.mono HX.out.size))
      clear hb7
      go_wp2_with fail
      refine tailL_mk HX.out ?_
      refine mix_tail ?_; go_wp2_with fail
      refine (d_unless_any _ _ _).mono ?_
      rintro e8 w8 ⟨rfl, rfl⟩
      go_wp2_with fail
      refine tailL_mk HX.out ?_
      refine mix_tail ?_; go_wp2_with fail
      refine (HLO.out _).mono ?_
      rintro e9 w9 ⟨rfl, hb9⟩
      have HX := Lib.hid (HX.out.trans (hb9.mono HX.out.size))
      clear hb9
      go_wp2_with fail
      refine tailL_mk HX.out ?_
      refine mix_tail ?_; go_wp2_with fail
      refine (d_unless_any _ _ _).mono ?_
      rintro e10 w10 ⟨rfl, rfl⟩
      go_wp2_with fail
      refine tailL_mk HX.out ?_
      refine mix_tail ?_; go_wp2_with fail
      refine (HPO.out _).mono ?_
      rintro e11 w11 ⟨rfl, hb11⟩
      have HX := Lib.hid (HX.out.trans (hb11.mono HX.out.size))
      clear hb11
      go_wp2_with fail
      refine tailL_mk HX.out ?_
      repeat (refine mix_head ?_; (show wpQuiet _ _ _ _ (_ :: _) _; go_big_quiet_step (fail)); refine wpQuiet_nil ?_)
      refine mix_tail ?_; go_wp2_with fail
      refine (d_unless_any _ _ _).mono ?_
      rintro e12 w12 ⟨rfl, rfl⟩
      go_wp2_with fail
      refine tailL_mk HX.out ?_
      refine mix_tail ?_; go_wp2_with fail
      refine tailL_mk (HX.out.alloc HX.out.size _) ?_
      refine mix_tail ?_; go_wp2_with fail
      have HX := Lib.hid (HX.out.alloc HX.out.size (Obj.cells #[.int .i64 r1, .int .i64 r2, .int .i64 (unl ((n : Int) == (k : Int)) 10), .int .i64 (unl bl 3), .int .i64 (unl (decide (b ≤ a)) 2)] 43))
      refine (d_first5 _ _ _ _ _ _ _ _ _ (by rfl) (by simp)).mono ?_
      rintro e13 w13 ⟨rfl, hw13⟩
      rw [hw13] at HX
      rw [← HE.out]
      clear hw13
      go_wp2_with fail
      refine tailL_mk HX.out ?_
      repeat (refine mix_head ?_; (show wpQuiet _ _ _ _ (_ :: _) _; go_big_quiet_step (fail)); refine wpQuiet_nil ?_)
      refine mix_nil ?_
      have HBX := Lib.hid (HB5.out.trans (HX.out.mono HB5.out.size))
      go_wp2
      go_ret2
      exact ⟨none, 0, 0, rfl, HBX.out, IntsR.nil _ _⟩
end Go.Proofs.YtdklmcicogmeaaaGreat
