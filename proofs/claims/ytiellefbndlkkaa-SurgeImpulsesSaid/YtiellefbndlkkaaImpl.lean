/- The statement SurgeImpulses: the walk. -/
import Derived.Test.YtiellefbndlkkaaStp
import Derived.Test.YtiellefbndlkkaaRSteep
import Derived.Test.YtiellefbndlkkaaRVal2
import Derived.Test.YtiellefbndlkkaaRChop
import Derived.Test.YtiellefbndlkkaaValueAt
import Derived.Test.YtiellefbndlkkaaAwake
namespace Go.Proofs.Ytiellefbndlkkaa
open Go.RowKit
set_option linter.unusedVariables false

theorem low_den {a b : Int} (h : 0 < b) : 1 ≤ (low a b).2 := by
  have h1 := gc_pos (a := a) h
  have h2 := gc_le (a := a) h
  show 1 ≤ b / gc a b
  exact (Int.le_ediv_iff_mul_le (by omega)).2 (by omega)
/-- What ValueAt says, in all its cases. -/
theorem va_any (l : List (Int × Int)) (tm : Int) (n : Nat) (hn : l.length = n) : ∃ V1 V2 FE : Int,
    (∀ (al : Option Addr) (cl : Nat) (v : World), PairsR v al n l → Calls Try.prog 52 #[.agg #[.slice al n cl], .int .i64 tm] v fun e' w' => e' = .returned (.tuple #[.agg #[.int .i64 V1, .int .i64 V2], .int .i64 FE]) ∧ Below v.heap.size v w') ∧
    (((impErr l).2 ≠ 0 ∧ V1 = 0 ∧ V2 = 0 ∧ FE = (impErr l).2) ∨ ((impErr l).2 = 0 ∧ wi tm 0 1000000 = false ∧ V1 = 0 ∧ V2 = 0 ∧ FE = 2) ∨
     ((impErr l).2 = 0 ∧ wi tm 0 1000000 = true ∧ smallF (low (valOf l tm).1 (valOf l tm).2) = true ∧ (V1, V2) = low (valOf l tm).1 (valOf l tm).2 ∧ FE = 0) ∨
     ((impErr l).2 = 0 ∧ wi tm 0 1000000 = true ∧ smallF (low (valOf l tm).1 (valOf l tm).2) = false ∧ V1 = 0 ∧ V2 = 0 ∧ FE = 8)) := by
  by_cases h0 : (impErr l).2 = 0
  · cases hw : wi tm 0 1000000
    · exact ⟨0, 0, 2, fun al cl v hl => valueAt_bad l tm 2 al n cl v hl (by rw [h0, hw]; rfl) (by omega), .inr (.inl ⟨h0, rfl, rfl, rfl, rfl⟩)⟩
    · cases hs : smallF (low (valOf l tm).1 (valOf l tm).2)
      · refine ⟨0, 0, 8, fun al cl v hl => ?_, .inr (.inr (.inr ⟨h0, rfl, rfl, rfl, rfl, rfl⟩))⟩
        have := valueAt_ok l tm al n cl v hl h0 hw
        rw [hs] at this
        simpa using this
      · refine ⟨(low (valOf l tm).1 (valOf l tm).2).1, (low (valOf l tm).1 (valOf l tm).2).2, 0, fun al cl v hl => ?_, .inr (.inr (.inl ⟨h0, rfl, rfl, rfl, rfl⟩))⟩
        have := valueAt_ok l tm al n cl v hl h0 hw
        rw [hs] at this
        simpa using this
  · exact ⟨0, 0, (impErr l).2, fun al cl v hl => valueAt_bad l tm _ al n cl v hl (by simp [firstErr, h0]) h0, .inl ⟨h0, rfl, rfl, rfl⟩⟩
theorem st_any (l : List (Int × Int)) (n : Nat) (hn : l.length = n) : ∃ NI S1 S2 : Int,
    (∀ (al : Option Addr) (cl : Nat) (v : World), PairsR v al n l → Calls Try.prog 53 #[.agg #[.slice al n cl]] v fun e' w' => e' = .returned (.tuple #[.int .i64 NI, .agg #[.int .i64 S1, .int .i64 S2], .int .i64 (impErr l).2]) ∧ Below v.heap.size v w') ∧
    ((impErr l).2 ≠ 0 → NI = 0 ∧ S1 = 0 ∧ S2 = 0) ∧ ((impErr l).2 = 0 → NI = (stB l (n - 2) : Nat) ∧ S1 = (slOf l (stB l (n - 2))).1 ∧ S2 = (slOf l (stB l (n - 2))).2) := by
  by_cases h0 : (impErr l).2 = 0
  · refine ⟨(stI l (n - 1)).1, (stI l (n - 1)).2.1, (stI l (n - 1)).2.2, fun al cl v hl => ?_, fun h => absurd h0 h, fun _ => ?_⟩
    · rw [h0]; exact steepest_ok l al n cl v hl h0
    · have := (impErr_zero h0).1
      rw [show n - 1 = (n - 2) + 1 by omega]
      exact ⟨rfl, rfl, rfl⟩
  · exact ⟨0, 0, 0, fun al cl v hl => steepest_bad l _ al n cl v hl rfl h0, fun _ => ⟨rfl, rfl, rfl⟩, fun h => absurd h h0⟩
set_option maxRecDepth 100000 in
theorem impl_few (tm : Int) (a : Option Addr) (n c : Nat) (w : World) (hn : n ≤ 9223372036854775807) (h : ¬ (n ≤ 14)) :
    Calls Try.prog 7 #[.agg #[.slice a n c], .int .i64 tm] w fun e' w' => e' = .returned (.bool true) ∧ Below w.heap.size w w' := by
  have HFS := Lib.hid (fun w' => fewPoints_any a n c w' hn)
  rw [show decide ((n : Int) ≤ 14) = false by simp; omega] at HFS
  clear h
  go_enter Try.func7, Try.ntmps7
  go_wp2_with fail
  refine (awake_any _).mono ?_
  rintro e5 w5 ⟨rfl, hb5⟩
  have hz5 := hb5.size
  simp only [World.size_alloc] at hz5
  have q0 : w5.cell? ⟨w.heap.size, 0, none⟩ = some (.slice a n c) := by { rw [cellB hb5 _ _ (by first | (simp; done) | (simp; omega) | omega)]; all_goals (first | assumption | go_simp) }; have l0 : w.heap.size < w5.heap.size := by { omega }
  have HB5 := Lib.hid (show Below w.heap.size w w5 by (repeat' (first | (with_reducible exact Below.refl _ _) | (with_reducible assumption) | (with_reducible refine Below.drewN ?_ _) | (with_reducible refine Below.alloc ?_ ?_ _) | (with_reducible refine Below.drew ?_) | (with_reducible refine Below.setCell ?_ ?_ _) | (with_reducible refine Below.step (by assumption) ?_ ?_) | (with_reducible exact And.left (by assumption)) | go_size)))
  clear hb5
  go_wp2_with fail
  refine (HFS.out _).mono ?_
  rintro e6 w6 ⟨rfl, hb6⟩
  have HB6 := Lib.hid (HB5.out.trans (hb6.mono HB5.out.size))
  clear hb6 HB5
  go_wp2
  go_ret
  exact ⟨rfl, HB6.out⟩
set_option maxHeartbeats 4000000 in
set_option maxRecDepth 100000 in
theorem impl_main (l : List (Int × Int)) (tm : Int) (a : Option Addr) (n c : Nat) (w : World) (hl : PairsR w a n l) (h14 : n ≤ 14) :
    Calls Try.prog 7 #[.agg #[.slice a n c], .int .i64 tm] w fun e' w' => e' = .returned (.bool true) ∧ Below w.heap.size w w' := by
  have hlen := hl.len
  have HL := Lib.hid hl
  have i1 : (n : Int) ≤ 14 := by omega
  have HFS := Lib.hid (fun w' => fewPoints_any a n c w' (by omega))
  rw [show decide ((n : Int) ≤ 14) = true by simpa using i1] at HFS
  obtain ⟨V1, V2, FE, hVA, hVC⟩ := va_any l tm n hlen
  obtain ⟨NI, S1, S2, hST, hS1, hS2⟩ := st_any l n hlen
  obtain ⟨K, hK⟩ : ∃ K, K = (impErr l).1 := ⟨_, rfl⟩
  obtain ⟨E, hE⟩ : ∃ K, K = (impErr l).2 := ⟨_, rfl⟩
  have HCK := Lib.hid (fun (al : Option Addr) (cl : Nat) (v : World) (h : PairsR v al n l) => checkImpulse_any l al n cl v h)
  have HRK := Lib.hid (fun (v : World) (hv : Below w.heap.size w v) => rcheckImpulse_any l a n c v (hl.below hv))
  rw [← hK, ← hE] at HCK HRK
  rw [← hE] at hVC hST hS1 hS2
  have HVA := Lib.hid hVA
  have HVC := Lib.hid hVC
  have HST := Lib.hid hST
  have HS1 := Lib.hid hS1
  have HS2 := Lib.hid hS2
  have HE := Lib.hid hE
  have hee : (E != E) = false := by simp
  have hkk : (K != K) = false := by simp
  clear hVA hVC hST hS1 hS2 hK hE hl
  go_enter Try.func7, Try.ntmps7
  go_wp2_with fail
  refine (awake_any _).mono ?_
  rintro e5 w5 ⟨rfl, hb5⟩
  have hz5 := hb5.size
  simp only [World.size_alloc] at hz5
  have q0 : w5.cell? ⟨w.heap.size, 0, none⟩ = some (.slice a n c) := by { rw [cellB hb5 _ _ (by first | (simp; done) | (simp; omega) | omega)]; all_goals (first | assumption | go_simp) }; have l0 : w.heap.size < w5.heap.size := by { omega }
  have HBv := Lib.hid (show Below w.heap.size w w5 by (repeat' (first | (with_reducible exact Below.refl _ _) | (with_reducible assumption) | (with_reducible refine Below.drewN ?_ _) | (with_reducible refine Below.alloc ?_ ?_ _) | (with_reducible refine Below.drew ?_) | (with_reducible refine Below.setCell ?_ ?_ _) | (with_reducible refine Below.step (by assumption) ?_ ?_) | (with_reducible exact And.left (by assumption)) | go_size)))
  clear hb5 hz5
  go_wp2_with fail
  refine (HFS.out _).mono ?_
  rintro e6 w6 ⟨rfl, hbx⟩
  have hzx := hbx.size
  have q0c : w6.cell? ⟨w.heap.size, 0, none⟩ = some (.slice a n c) := by { rw [cellB hbx _ _ (by first | (simp; done) | (simp; omega) | omega)]; all_goals (first | assumption | go_simp) }; have l0c : w.heap.size < w6.heap.size := by { omega }
  have HBv := Lib.hid (HBv.out.trans (hbx.mono HBv.out.size))
  clear hbx hzx q0 l0 
  go_wp2_with fail
  refine (copyImpulse_any l _ n c _ (HL.out.below HBv.out) (by omega)).mono ?_
  rintro e7 w7 ⟨al, cl, rfl, hbx, hl⟩
  have HLn := Lib.hid hl
  clear hl
  have hzx := hbx.size
  have q0 : w7.cell? ⟨w.heap.size, 0, none⟩ = some (.slice a n c) := by { rw [cellB hbx _ _ (by first | (simp; done) | (simp; omega) | omega)]; all_goals (first | assumption | go_simp) }; have l0 : w.heap.size < w7.heap.size := by { omega }
  have HBv := Lib.hid (HBv.out.trans (hbx.mono HBv.out.size))
  clear hbx hzx q0c l0c 
  go_wp2_with fail
  refine (HCK.out _ _ _ HLn.out).mono ?_
  rintro e8 w8 ⟨rfl, hbx⟩
  have hzx := hbx.size
  have q0c : w8.cell? ⟨w.heap.size, 0, none⟩ = some (.slice a n c) := by { rw [cellB hbx _ _ (by first | (simp; done) | (simp; omega) | omega)]; all_goals (first | assumption | go_simp) }; have l0c : w.heap.size < w8.heap.size := by { omega }
  have HBv := Lib.hid (HBv.out.trans (hbx.mono HBv.out.size))
  clear hbx hzx q0 l0 HLn
  go_wp2_with fail
  refine (copyImpulse_any l _ n c _ (HL.out.below HBv.out) (by omega)).mono ?_
  rintro e9 w9 ⟨al, cl, rfl, hbx, hl⟩
  have HLn := Lib.hid hl
  clear hl
  have hzx := hbx.size
  have q0 : w9.cell? ⟨w.heap.size, 0, none⟩ = some (.slice a n c) := by { rw [cellB hbx _ _ (by first | (simp; done) | (simp; omega) | omega)]; all_goals (first | assumption | go_simp) }; have l0 : w.heap.size < w9.heap.size := by { omega }
  have HBv := Lib.hid (HBv.out.trans (hbx.mono HBv.out.size))
  clear hbx hzx q0c l0c 
  go_wp2_with fail
  refine (HVA.out _ _ _ HLn.out).mono ?_
  rintro e10 wa ⟨rfl, hbx⟩
  have hzx := hbx.size
  have q0c : wa.cell? ⟨w.heap.size, 0, none⟩ = some (.slice a n c) := by { rw [cellB hbx _ _ (by first | (simp; done) | (simp; omega) | omega)]; all_goals (first | assumption | go_simp) }; have l0c : w.heap.size < wa.heap.size := by { omega }
  have HBv := Lib.hid (HBv.out.trans (hbx.mono HBv.out.size))
  clear hbx hzx q0 l0 HLn
  go_wp2_with fail
  generalize hW : wa.alloc (Obj.cells #[.int .i64 V1, .int .i64 V2] 45) = wb
  have hbx : Below wa.heap.size wa wb := by rw [← hW]; (repeat' (first | (with_reducible exact Below.refl _ _) | (with_reducible assumption) | (with_reducible refine Below.drewN ?_ _) | (with_reducible refine Below.alloc ?_ ?_ _) | (with_reducible refine Below.drew ?_) | (with_reducible refine Below.setCell ?_ ?_ _) | (with_reducible refine Below.step (by assumption) ?_ ?_) | (with_reducible exact And.left (by assumption)) | go_size))
  have t0 : wb.cell? ⟨wa.heap.size, 0, none⟩ = some (.int .i64 V1) := by { rw [← hW]; clear hW; go_simp }
  have t1 : wb.cell? ⟨wa.heap.size, 1, none⟩ = some (.int .i64 V2) := by { rw [← hW]; clear hW; go_simp }
  have lt : wa.heap.size < wb.heap.size := by { rw [← hW]; simp }
  have hzx := hbx.size
  have q0 : wb.cell? ⟨w.heap.size, 0, none⟩ = some (.slice a n c) := by { rw [cellB hbx _ _ (by first | (simp; done) | (simp; omega) | omega)]; all_goals (first | assumption | go_simp) }; have l0 : w.heap.size < wb.heap.size := by { omega }
  have HBv := Lib.hid (HBv.out.trans (hbx.mono HBv.out.size))
  clear hbx hzx q0c l0c hW
  generalize wa.heap.size = X7 at *
  have x0 := t0
  have x1 := t1
  have lx := lt
  clear t0 t1 lt
  go_wp2_with fail
  refine (copyImpulse_any l _ n c _ (HL.out.below HBv.out) (by omega)).mono ?_
  rintro e11 wd ⟨al, cl, rfl, hbx, hl⟩
  have HLn := Lib.hid hl
  clear hl
  have hzx := hbx.size
  have q0c : wd.cell? ⟨w.heap.size, 0, none⟩ = some (.slice a n c) := by { rw [cellB hbx _ _ (by first | (simp; done) | (simp; omega) | omega)]; all_goals (first | assumption | go_simp) }; have l0c : w.heap.size < wd.heap.size := by { omega }; have x0c : wd.cell? ⟨X7, 0, none⟩ = some (.int .i64 V1) := by { rw [cellB hbx _ _ (by first | (simp; done) | (simp; omega) | omega)]; all_goals (first | assumption | go_simp) }; have x1c : wd.cell? ⟨X7, 1, none⟩ = some (.int .i64 V2) := by { rw [cellB hbx _ _ (by first | (simp; done) | (simp; omega) | omega)]; all_goals (first | assumption | go_simp) }; have lxc : X7 < wd.heap.size := by { omega }
  have HBv := Lib.hid (HBv.out.trans (hbx.mono HBv.out.size))
  clear hbx hzx q0 l0 x0 x1 lx 
  go_wp2_with fail
  refine (HST.out _ _ _ HLn.out).mono ?_
  rintro e12 we ⟨rfl, hbx⟩
  have hzx := hbx.size
  have q0 : we.cell? ⟨w.heap.size, 0, none⟩ = some (.slice a n c) := by { rw [cellB hbx _ _ (by first | (simp; done) | (simp; omega) | omega)]; all_goals (first | assumption | go_simp) }; have l0 : w.heap.size < we.heap.size := by { omega }; have x0 : we.cell? ⟨X7, 0, none⟩ = some (.int .i64 V1) := by { rw [cellB hbx _ _ (by first | (simp; done) | (simp; omega) | omega)]; all_goals (first | assumption | go_simp) }; have x1 : we.cell? ⟨X7, 1, none⟩ = some (.int .i64 V2) := by { rw [cellB hbx _ _ (by first | (simp; done) | (simp; omega) | omega)]; all_goals (first | assumption | go_simp) }; have lx : X7 < we.heap.size := by { omega }
  have HBv := Lib.hid (HBv.out.trans (hbx.mono HBv.out.size))
  clear hbx hzx q0c l0c x0c x1c lxc HLn
  go_wp2_with fail
  generalize hW : we.alloc (Obj.cells #[.int .i64 S1, .int .i64 S2] 45) = wf
  have hbx : Below we.heap.size we wf := by rw [← hW]; (repeat' (first | (with_reducible exact Below.refl _ _) | (with_reducible assumption) | (with_reducible refine Below.drewN ?_ _) | (with_reducible refine Below.alloc ?_ ?_ _) | (with_reducible refine Below.drew ?_) | (with_reducible refine Below.setCell ?_ ?_ _) | (with_reducible refine Below.step (by assumption) ?_ ?_) | (with_reducible exact And.left (by assumption)) | go_size))
  have t0 : wf.cell? ⟨we.heap.size, 0, none⟩ = some (.int .i64 S1) := by { rw [← hW]; clear hW; go_simp }
  have t1 : wf.cell? ⟨we.heap.size, 1, none⟩ = some (.int .i64 S2) := by { rw [← hW]; clear hW; go_simp }
  have lt : we.heap.size < wf.heap.size := by { rw [← hW]; simp }
  have hzx := hbx.size
  have q0c : wf.cell? ⟨w.heap.size, 0, none⟩ = some (.slice a n c) := by { rw [cellB hbx _ _ (by first | (simp; done) | (simp; omega) | omega)]; all_goals (first | assumption | go_simp) }; have l0c : w.heap.size < wf.heap.size := by { omega }; have x0c : wf.cell? ⟨X7, 0, none⟩ = some (.int .i64 V1) := by { rw [cellB hbx _ _ (by first | (simp; done) | (simp; omega) | omega)]; all_goals (first | assumption | go_simp) }; have x1c : wf.cell? ⟨X7, 1, none⟩ = some (.int .i64 V2) := by { rw [cellB hbx _ _ (by first | (simp; done) | (simp; omega) | omega)]; all_goals (first | assumption | go_simp) }; have lxc : X7 < wf.heap.size := by { omega }
  have HBv := Lib.hid (HBv.out.trans (hbx.mono HBv.out.size))
  clear hbx hzx q0 l0 x0 x1 lx hW
  generalize we.heap.size = X10 at *
  have y0c := t0
  have y1c := t1
  have lyc := lt
  clear t0 t1 lt
  go_wp2_with fail
  refine (HRK.out _ HBv.out).mono ?_
  rintro e13 wg ⟨rfl, hbx⟩
  have hzx := hbx.size
  have q0 : wg.cell? ⟨w.heap.size, 0, none⟩ = some (.slice a n c) := by { rw [cellB hbx _ _ (by first | (simp; done) | (simp; omega) | omega)]; all_goals (first | assumption | go_simp) }; have l0 : w.heap.size < wg.heap.size := by { omega }; have x0 : wg.cell? ⟨X7, 0, none⟩ = some (.int .i64 V1) := by { rw [cellB hbx _ _ (by first | (simp; done) | (simp; omega) | omega)]; all_goals (first | assumption | go_simp) }; have x1 : wg.cell? ⟨X7, 1, none⟩ = some (.int .i64 V2) := by { rw [cellB hbx _ _ (by first | (simp; done) | (simp; omega) | omega)]; all_goals (first | assumption | go_simp) }; have lx : X7 < wg.heap.size := by { omega }; have y0 : wg.cell? ⟨X10, 0, none⟩ = some (.int .i64 S1) := by { rw [cellB hbx _ _ (by first | (simp; done) | (simp; omega) | omega)]; all_goals (first | assumption | go_simp) }; have y1 : wg.cell? ⟨X10, 1, none⟩ = some (.int .i64 S2) := by { rw [cellB hbx _ _ (by first | (simp; done) | (simp; omega) | omega)]; all_goals (first | assumption | go_simp) }; have ly : X10 < wg.heap.size := by { omega }
  have HBv := Lib.hid (HBv.out.trans (hbx.mono HBv.out.size))
  clear hbx hzx q0c l0c x0c x1c lxc y0c y1c lyc 
  by_cases hE0 : E = 0
  · subst hE0
    obtain ⟨e1, e2, e3⟩ := HS2.out rfl
    have HEQ := Lib.hid (And.intro e1 (And.intro e2 e3))
    clear e1 e2 e3
    have hyn : (impErr l).2 = 0 := HE.out.symm
    have HYN := Lib.hid hyn
    have hn2 := (impErr_zero hyn).1
    clear hyn
    have hnn : (NI != NI) = false := by simp
    have hs1 : (S1 != S1) = false := by simp
    have hs2 : (S2 != S2) = false := by simp
    have hs3 : (S1 == S1) = true := by simp
    have hs4 : (S2 == S2) = true := by simp
    have hrs := fun (v : World) (hv : Below w.heap.size w v) => rsteep_any l a n c v (HL.out.below hv) HYN.out
    rw [← HEQ.out.1, ← HEQ.out.2.1, ← HEQ.out.2.2] at hrs
    have HRS := Lib.hid hrs
    clear hrs
    go_wp2_with fail
    refine (HRS.out _ HBv.out).mono ?_
    rintro e14 wh ⟨rfl, hbx⟩
    have hzx := hbx.size
    have q0c : wh.cell? ⟨w.heap.size, 0, none⟩ = some (.slice a n c) := by { rw [cellB hbx _ _ (by first | (simp; done) | (simp; omega) | omega)]; all_goals (first | assumption | go_simp) }; have l0c : w.heap.size < wh.heap.size := by { omega }; have x0c : wh.cell? ⟨X7, 0, none⟩ = some (.int .i64 V1) := by { rw [cellB hbx _ _ (by first | (simp; done) | (simp; omega) | omega)]; all_goals (first | assumption | go_simp) }; have x1c : wh.cell? ⟨X7, 1, none⟩ = some (.int .i64 V2) := by { rw [cellB hbx _ _ (by first | (simp; done) | (simp; omega) | omega)]; all_goals (first | assumption | go_simp) }; have lxc : X7 < wh.heap.size := by { omega }; have y0c : wh.cell? ⟨X10, 0, none⟩ = some (.int .i64 S1) := by { rw [cellB hbx _ _ (by first | (simp; done) | (simp; omega) | omega)]; all_goals (first | assumption | go_simp) }; have y1c : wh.cell? ⟨X10, 1, none⟩ = some (.int .i64 S2) := by { rw [cellB hbx _ _ (by first | (simp; done) | (simp; omega) | omega)]; all_goals (first | assumption | go_simp) }; have lyc : X10 < wh.heap.size := by { omega }
    have HBv := Lib.hid (HBv.out.trans (hbx.mono HBv.out.size))
    clear hbx hzx q0 l0 x0 x1 lx y0 y1 ly 
    go_wp2_with fail
    generalize hW : wh.alloc (Obj.cells #[.int .i64 S1, .int .i64 S2] 45) = wi0
    have hbx : Below wh.heap.size wh wi0 := by rw [← hW]; (repeat' (first | (with_reducible exact Below.refl _ _) | (with_reducible assumption) | (with_reducible refine Below.drewN ?_ _) | (with_reducible refine Below.alloc ?_ ?_ _) | (with_reducible refine Below.drew ?_) | (with_reducible refine Below.setCell ?_ ?_ _) | (with_reducible refine Below.step (by assumption) ?_ ?_) | (with_reducible exact And.left (by assumption)) | go_size))
    have t0 : wi0.cell? ⟨wh.heap.size, 0, none⟩ = some (.int .i64 S1) := by { rw [← hW]; clear hW; go_simp }
    have t1 : wi0.cell? ⟨wh.heap.size, 1, none⟩ = some (.int .i64 S2) := by { rw [← hW]; clear hW; go_simp }
    have lt : wh.heap.size < wi0.heap.size := by { rw [← hW]; simp }
    have hzx := hbx.size
    have q0 : wi0.cell? ⟨w.heap.size, 0, none⟩ = some (.slice a n c) := by { rw [cellB hbx _ _ (by first | (simp; done) | (simp; omega) | omega)]; all_goals (first | assumption | go_simp) }; have l0 : w.heap.size < wi0.heap.size := by { omega }; have x0 : wi0.cell? ⟨X7, 0, none⟩ = some (.int .i64 V1) := by { rw [cellB hbx _ _ (by first | (simp; done) | (simp; omega) | omega)]; all_goals (first | assumption | go_simp) }; have x1 : wi0.cell? ⟨X7, 1, none⟩ = some (.int .i64 V2) := by { rw [cellB hbx _ _ (by first | (simp; done) | (simp; omega) | omega)]; all_goals (first | assumption | go_simp) }; have lx : X7 < wi0.heap.size := by { omega }; have y0 : wi0.cell? ⟨X10, 0, none⟩ = some (.int .i64 S1) := by { rw [cellB hbx _ _ (by first | (simp; done) | (simp; omega) | omega)]; all_goals (first | assumption | go_simp) }; have y1 : wi0.cell? ⟨X10, 1, none⟩ = some (.int .i64 S2) := by { rw [cellB hbx _ _ (by first | (simp; done) | (simp; omega) | omega)]; all_goals (first | assumption | go_simp) }; have ly : X10 < wi0.heap.size := by { omega }
    have HBv := Lib.hid (HBv.out.trans (hbx.mono HBv.out.size))
    clear hbx hzx q0c l0c x0c x1c lxc y0c y1c lyc hW
    generalize wh.heap.size = X15 at *
    have z0 := t0
    have z1 := t1
    have lz := lt
    clear t0 t1 lt
    go_wp2_with fail
    refine (bwithin_any _ _ _ _).mono ?_
    rintro e15 _ ⟨rfl, rfl⟩
    rcases HVC.out with ⟨h, _⟩ | ⟨_, hw, rfl, rfl, rfl⟩ | ⟨_, hw, hsm, hlo, rfl⟩ | ⟨_, hw, hsm, rfl, rfl, rfl⟩
    · exact absurd rfl h
    · rw [hw]
      clear hw
      go_wp2
      go_ret
      exact ⟨rfl, HBv.out⟩
    ·
      rw [hw]
      have htm := wi_iff.1 hw
      clear hw
      have HSM := Lib.hid hsm
      clear hsm
      have HLO := Lib.hid hlo
      clear hlo
      go_wp2_with fail
      refine (rvalue_any l tm a n c wi0 (HL.out.below HBv.out) HYN.out htm.1 htm.2).mono ?_
      rintro e16 wj ⟨num, den, rfl, hbx, hrv⟩
      have hbd := rv_bd HYN.out htm.1 htm.2 hrv
      obtain ⟨C, hC, hnum, hden⟩ := rv_val HYN.out hrv
      have hvb := valOf_bd HYN.out htm.1 htm.2
      obtain ⟨⟨L1, L2⟩, hL⟩ : ∃ s, s = low num den := ⟨_, rfl⟩
      have hL' : (L1, L2) = low (valOf l tm).1 (valOf l tm).2 := by rw [hL, hnum, hden]; exact low_scale _ _ _ hC hvb.2.2.1
      have hL2 : 1 ≤ L2 := by have := low_den (a := num) hbd.2.2.1; rw [← hL] at this; exact this
      have hlow := fun w' => blowest_any num den w' (by omega) (by omega) (by omega) (by omega)
      rw [show num.tdiv (gc num den) = L1 from (congrArg Prod.fst hL).symm, show den / gc num den = L2 from (congrArg Prod.snd hL).symm] at hlow
      have HLOW := Lib.hid hlow
      rw [← hL'] at HSM
      rw [← hL'] at HLO
      obtain ⟨rfl, rfl⟩ : V1 = L1 ∧ V2 = L2 := by have := HLO.out; simpa using this
      have hv1 : (V1 == V1) = true := by simp
      have hv2 : (V2 == V2) = true := by simp
      have hsm2 : (wi V1 (-1000000000) 1000000000 && wi V2 1 1000000000) = true := by
        have := HSM.out
        unfold smallF at this
        rw [← this]
        congr 1
        unfold wi
        rw [decide_eq_true hL2, Bool.true_and]
      have his := fun w' => bisSmall_any V1 V2 w'
      rw [hsm2] at his
      have HIS := Lib.hid his
      clear hL hL' hlow hnum hden hvb hC his hsm2 hrv
      have hzx := hbx.size
      have q0c : wj.cell? ⟨w.heap.size, 0, none⟩ = some (.slice a n c) := by { rw [cellB hbx _ _ (by first | (simp; done) | (simp; omega) | omega)]; all_goals (first | assumption | go_simp) }; have l0c : w.heap.size < wj.heap.size := by { omega }; have x0c : wj.cell? ⟨X7, 0, none⟩ = some (.int .i64 V1) := by { rw [cellB hbx _ _ (by first | (simp; done) | (simp; omega) | omega)]; all_goals (first | assumption | go_simp) }; have x1c : wj.cell? ⟨X7, 1, none⟩ = some (.int .i64 V2) := by { rw [cellB hbx _ _ (by first | (simp; done) | (simp; omega) | omega)]; all_goals (first | assumption | go_simp) }; have lxc : X7 < wj.heap.size := by { omega }; have y0c : wj.cell? ⟨X10, 0, none⟩ = some (.int .i64 S1) := by { rw [cellB hbx _ _ (by first | (simp; done) | (simp; omega) | omega)]; all_goals (first | assumption | go_simp) }; have y1c : wj.cell? ⟨X10, 1, none⟩ = some (.int .i64 S2) := by { rw [cellB hbx _ _ (by first | (simp; done) | (simp; omega) | omega)]; all_goals (first | assumption | go_simp) }; have lyc : X10 < wj.heap.size := by { omega }; have z0c : wj.cell? ⟨X15, 0, none⟩ = some (.int .i64 S1) := by { rw [cellB hbx _ _ (by first | (simp; done) | (simp; omega) | omega)]; all_goals (first | assumption | go_simp) }; have z1c : wj.cell? ⟨X15, 1, none⟩ = some (.int .i64 S2) := by { rw [cellB hbx _ _ (by first | (simp; done) | (simp; omega) | omega)]; all_goals (first | assumption | go_simp) }; have lzc : X15 < wj.heap.size := by { omega }
      have HBv := Lib.hid (HBv.out.trans (hbx.mono HBv.out.size))
      clear hbx hzx q0 l0 x0 x1 lx y0 y1 ly z0 z1 lz 
      go_wp2_with fail
      refine (HLOW.out _).mono ?_
      rintro e17 wk ⟨rfl, hbx⟩
      have hzx := hbx.size
      have q0 : wk.cell? ⟨w.heap.size, 0, none⟩ = some (.slice a n c) := by { rw [cellB hbx _ _ (by first | (simp; done) | (simp; omega) | omega)]; all_goals (first | assumption | go_simp) }; have l0 : w.heap.size < wk.heap.size := by { omega }; have x0 : wk.cell? ⟨X7, 0, none⟩ = some (.int .i64 V1) := by { rw [cellB hbx _ _ (by first | (simp; done) | (simp; omega) | omega)]; all_goals (first | assumption | go_simp) }; have x1 : wk.cell? ⟨X7, 1, none⟩ = some (.int .i64 V2) := by { rw [cellB hbx _ _ (by first | (simp; done) | (simp; omega) | omega)]; all_goals (first | assumption | go_simp) }; have lx : X7 < wk.heap.size := by { omega }; have y0 : wk.cell? ⟨X10, 0, none⟩ = some (.int .i64 S1) := by { rw [cellB hbx _ _ (by first | (simp; done) | (simp; omega) | omega)]; all_goals (first | assumption | go_simp) }; have y1 : wk.cell? ⟨X10, 1, none⟩ = some (.int .i64 S2) := by { rw [cellB hbx _ _ (by first | (simp; done) | (simp; omega) | omega)]; all_goals (first | assumption | go_simp) }; have ly : X10 < wk.heap.size := by { omega }; have z0 : wk.cell? ⟨X15, 0, none⟩ = some (.int .i64 S1) := by { rw [cellB hbx _ _ (by first | (simp; done) | (simp; omega) | omega)]; all_goals (first | assumption | go_simp) }; have z1 : wk.cell? ⟨X15, 1, none⟩ = some (.int .i64 S2) := by { rw [cellB hbx _ _ (by first | (simp; done) | (simp; omega) | omega)]; all_goals (first | assumption | go_simp) }; have lz : X15 < wk.heap.size := by { omega }
      have HBv := Lib.hid (HBv.out.trans (hbx.mono HBv.out.size))
      clear hbx hzx q0c l0c x0c x1c lxc y0c y1c lyc z0c z1c lzc 
      go_wp2_with fail
      generalize hW : wk.alloc (Obj.cells #[.int .i64 V1, .int .i64 V2] 45) = wl
      have hbx : Below wk.heap.size wk wl := by rw [← hW]; (repeat' (first | (with_reducible exact Below.refl _ _) | (with_reducible assumption) | (with_reducible refine Below.drewN ?_ _) | (with_reducible refine Below.alloc ?_ ?_ _) | (with_reducible refine Below.drew ?_) | (with_reducible refine Below.setCell ?_ ?_ _) | (with_reducible refine Below.step (by assumption) ?_ ?_) | (with_reducible exact And.left (by assumption)) | go_size))
      have t0 : wl.cell? ⟨wk.heap.size, 0, none⟩ = some (.int .i64 V1) := by { rw [← hW]; clear hW; go_simp }
      have t1 : wl.cell? ⟨wk.heap.size, 1, none⟩ = some (.int .i64 V2) := by { rw [← hW]; clear hW; go_simp }
      have lt : wk.heap.size < wl.heap.size := by { rw [← hW]; simp }
      have hzx := hbx.size
      have q0c : wl.cell? ⟨w.heap.size, 0, none⟩ = some (.slice a n c) := by { rw [cellB hbx _ _ (by first | (simp; done) | (simp; omega) | omega)]; all_goals (first | assumption | go_simp) }; have l0c : w.heap.size < wl.heap.size := by { omega }; have x0c : wl.cell? ⟨X7, 0, none⟩ = some (.int .i64 V1) := by { rw [cellB hbx _ _ (by first | (simp; done) | (simp; omega) | omega)]; all_goals (first | assumption | go_simp) }; have x1c : wl.cell? ⟨X7, 1, none⟩ = some (.int .i64 V2) := by { rw [cellB hbx _ _ (by first | (simp; done) | (simp; omega) | omega)]; all_goals (first | assumption | go_simp) }; have lxc : X7 < wl.heap.size := by { omega }; have y0c : wl.cell? ⟨X10, 0, none⟩ = some (.int .i64 S1) := by { rw [cellB hbx _ _ (by first | (simp; done) | (simp; omega) | omega)]; all_goals (first | assumption | go_simp) }; have y1c : wl.cell? ⟨X10, 1, none⟩ = some (.int .i64 S2) := by { rw [cellB hbx _ _ (by first | (simp; done) | (simp; omega) | omega)]; all_goals (first | assumption | go_simp) }; have lyc : X10 < wl.heap.size := by { omega }; have z0c : wl.cell? ⟨X15, 0, none⟩ = some (.int .i64 S1) := by { rw [cellB hbx _ _ (by first | (simp; done) | (simp; omega) | omega)]; all_goals (first | assumption | go_simp) }; have z1c : wl.cell? ⟨X15, 1, none⟩ = some (.int .i64 S2) := by { rw [cellB hbx _ _ (by first | (simp; done) | (simp; omega) | omega)]; all_goals (first | assumption | go_simp) }; have lzc : X15 < wl.heap.size := by { omega }
      have HBv := Lib.hid (HBv.out.trans (hbx.mono HBv.out.size))
      clear hbx hzx q0 l0 x0 x1 lx y0 y1 ly z0 z1 lz hW
      generalize wk.heap.size = X18 at *
      have u0_c := t0
      have u1_c := t1
      have luc := lt
      clear t0 t1 lt
      go_wp2_with fail
      refine (HIS.out _).mono ?_
      rintro e18 wm ⟨rfl, hbx⟩
      have hzx := hbx.size
      have q0 : wm.cell? ⟨w.heap.size, 0, none⟩ = some (.slice a n c) := by { rw [cellB hbx _ _ (by first | (simp; done) | (simp; omega) | omega)]; all_goals (first | assumption | go_simp) }; have l0 : w.heap.size < wm.heap.size := by { omega }; have x0 : wm.cell? ⟨X7, 0, none⟩ = some (.int .i64 V1) := by { rw [cellB hbx _ _ (by first | (simp; done) | (simp; omega) | omega)]; all_goals (first | assumption | go_simp) }; have x1 : wm.cell? ⟨X7, 1, none⟩ = some (.int .i64 V2) := by { rw [cellB hbx _ _ (by first | (simp; done) | (simp; omega) | omega)]; all_goals (first | assumption | go_simp) }; have lx : X7 < wm.heap.size := by { omega }; have y0 : wm.cell? ⟨X10, 0, none⟩ = some (.int .i64 S1) := by { rw [cellB hbx _ _ (by first | (simp; done) | (simp; omega) | omega)]; all_goals (first | assumption | go_simp) }; have y1 : wm.cell? ⟨X10, 1, none⟩ = some (.int .i64 S2) := by { rw [cellB hbx _ _ (by first | (simp; done) | (simp; omega) | omega)]; all_goals (first | assumption | go_simp) }; have ly : X10 < wm.heap.size := by { omega }; have z0 : wm.cell? ⟨X15, 0, none⟩ = some (.int .i64 S1) := by { rw [cellB hbx _ _ (by first | (simp; done) | (simp; omega) | omega)]; all_goals (first | assumption | go_simp) }; have z1 : wm.cell? ⟨X15, 1, none⟩ = some (.int .i64 S2) := by { rw [cellB hbx _ _ (by first | (simp; done) | (simp; omega) | omega)]; all_goals (first | assumption | go_simp) }; have lz : X15 < wm.heap.size := by { omega }; have u0_ : wm.cell? ⟨X18, 0, none⟩ = some (.int .i64 V1) := by { rw [cellB hbx _ _ (by first | (simp; done) | (simp; omega) | omega)]; all_goals (first | assumption | go_simp) }; have u1_ : wm.cell? ⟨X18, 1, none⟩ = some (.int .i64 V2) := by { rw [cellB hbx _ _ (by first | (simp; done) | (simp; omega) | omega)]; all_goals (first | assumption | go_simp) }; have lu : X18 < wm.heap.size := by { omega }
      have HBv := Lib.hid (HBv.out.trans (hbx.mono HBv.out.size))
      clear hbx hzx q0c l0c x0c x1c lxc y0c y1c lyc z0c z1c lzc u0_c u1_c luc 
      go_wp2
      go_ret
      exact ⟨rfl, HBv.out⟩
    ·
      rw [hw]
      have htm := wi_iff.1 hw
      clear hw
      have HSM := Lib.hid hsm
      clear hsm
      go_wp2_with fail
      refine (rvalue_any l tm a n c wi0 (HL.out.below HBv.out) HYN.out htm.1 htm.2).mono ?_
      rintro e16 wj ⟨num, den, rfl, hbx, hrv⟩
      have hbd := rv_bd HYN.out htm.1 htm.2 hrv
      obtain ⟨C, hC, hnum, hden⟩ := rv_val HYN.out hrv
      have hvb := valOf_bd HYN.out htm.1 htm.2
      obtain ⟨⟨L1, L2⟩, hL⟩ : ∃ s, s = low num den := ⟨_, rfl⟩
      have hL' : (L1, L2) = low (valOf l tm).1 (valOf l tm).2 := by rw [hL, hnum, hden]; exact low_scale _ _ _ hC hvb.2.2.1
      have hL2 : 1 ≤ L2 := by have := low_den (a := num) hbd.2.2.1; rw [← hL] at this; exact this
      have hlow := fun w' => blowest_any num den w' (by omega) (by omega) (by omega) (by omega)
      rw [show num.tdiv (gc num den) = L1 from (congrArg Prod.fst hL).symm, show den / gc num den = L2 from (congrArg Prod.snd hL).symm] at hlow
      have HLOW := Lib.hid hlow
      rw [← hL'] at HSM
      have hsm2 : (wi L1 (-1000000000) 1000000000 && wi L2 1 1000000000) = false := by
        have := HSM.out
        unfold smallF at this
        rw [← this]
        congr 1
        unfold wi
        rw [decide_eq_true hL2, Bool.true_and]
      have his := fun w' => bisSmall_any L1 L2 w'
      rw [hsm2] at his
      have HIS := Lib.hid his
      clear hL hL' hlow hnum hden hvb hC his hsm2 hrv
      have hzx := hbx.size
      have q0c : wj.cell? ⟨w.heap.size, 0, none⟩ = some (.slice a n c) := by { rw [cellB hbx _ _ (by first | (simp; done) | (simp; omega) | omega)]; all_goals (first | assumption | go_simp) }; have l0c : w.heap.size < wj.heap.size := by { omega }; have x0c : wj.cell? ⟨X7, 0, none⟩ = some (.int .i64 0) := by { rw [cellB hbx _ _ (by first | (simp; done) | (simp; omega) | omega)]; all_goals (first | assumption | go_simp) }; have x1c : wj.cell? ⟨X7, 1, none⟩ = some (.int .i64 0) := by { rw [cellB hbx _ _ (by first | (simp; done) | (simp; omega) | omega)]; all_goals (first | assumption | go_simp) }; have lxc : X7 < wj.heap.size := by { omega }; have y0c : wj.cell? ⟨X10, 0, none⟩ = some (.int .i64 S1) := by { rw [cellB hbx _ _ (by first | (simp; done) | (simp; omega) | omega)]; all_goals (first | assumption | go_simp) }; have y1c : wj.cell? ⟨X10, 1, none⟩ = some (.int .i64 S2) := by { rw [cellB hbx _ _ (by first | (simp; done) | (simp; omega) | omega)]; all_goals (first | assumption | go_simp) }; have lyc : X10 < wj.heap.size := by { omega }; have z0c : wj.cell? ⟨X15, 0, none⟩ = some (.int .i64 S1) := by { rw [cellB hbx _ _ (by first | (simp; done) | (simp; omega) | omega)]; all_goals (first | assumption | go_simp) }; have z1c : wj.cell? ⟨X15, 1, none⟩ = some (.int .i64 S2) := by { rw [cellB hbx _ _ (by first | (simp; done) | (simp; omega) | omega)]; all_goals (first | assumption | go_simp) }; have lzc : X15 < wj.heap.size := by { omega }
      have HBv := Lib.hid (HBv.out.trans (hbx.mono HBv.out.size))
      clear hbx hzx q0 l0 x0 x1 lx y0 y1 ly z0 z1 lz 
      go_wp2_with fail
      refine (HLOW.out _).mono ?_
      rintro e17 wk ⟨rfl, hbx⟩
      have hzx := hbx.size
      have q0 : wk.cell? ⟨w.heap.size, 0, none⟩ = some (.slice a n c) := by { rw [cellB hbx _ _ (by first | (simp; done) | (simp; omega) | omega)]; all_goals (first | assumption | go_simp) }; have l0 : w.heap.size < wk.heap.size := by { omega }; have x0 : wk.cell? ⟨X7, 0, none⟩ = some (.int .i64 0) := by { rw [cellB hbx _ _ (by first | (simp; done) | (simp; omega) | omega)]; all_goals (first | assumption | go_simp) }; have x1 : wk.cell? ⟨X7, 1, none⟩ = some (.int .i64 0) := by { rw [cellB hbx _ _ (by first | (simp; done) | (simp; omega) | omega)]; all_goals (first | assumption | go_simp) }; have lx : X7 < wk.heap.size := by { omega }; have y0 : wk.cell? ⟨X10, 0, none⟩ = some (.int .i64 S1) := by { rw [cellB hbx _ _ (by first | (simp; done) | (simp; omega) | omega)]; all_goals (first | assumption | go_simp) }; have y1 : wk.cell? ⟨X10, 1, none⟩ = some (.int .i64 S2) := by { rw [cellB hbx _ _ (by first | (simp; done) | (simp; omega) | omega)]; all_goals (first | assumption | go_simp) }; have ly : X10 < wk.heap.size := by { omega }; have z0 : wk.cell? ⟨X15, 0, none⟩ = some (.int .i64 S1) := by { rw [cellB hbx _ _ (by first | (simp; done) | (simp; omega) | omega)]; all_goals (first | assumption | go_simp) }; have z1 : wk.cell? ⟨X15, 1, none⟩ = some (.int .i64 S2) := by { rw [cellB hbx _ _ (by first | (simp; done) | (simp; omega) | omega)]; all_goals (first | assumption | go_simp) }; have lz : X15 < wk.heap.size := by { omega }
      have HBv := Lib.hid (HBv.out.trans (hbx.mono HBv.out.size))
      clear hbx hzx q0c l0c x0c x1c lxc y0c y1c lyc z0c z1c lzc 
      go_wp2_with fail
      generalize hW : wk.alloc (Obj.cells #[.int .i64 L1, .int .i64 L2] 45) = wl
      have hbx : Below wk.heap.size wk wl := by rw [← hW]; (repeat' (first | (with_reducible exact Below.refl _ _) | (with_reducible assumption) | (with_reducible refine Below.drewN ?_ _) | (with_reducible refine Below.alloc ?_ ?_ _) | (with_reducible refine Below.drew ?_) | (with_reducible refine Below.setCell ?_ ?_ _) | (with_reducible refine Below.step (by assumption) ?_ ?_) | (with_reducible exact And.left (by assumption)) | go_size))
      have t0 : wl.cell? ⟨wk.heap.size, 0, none⟩ = some (.int .i64 L1) := by { rw [← hW]; clear hW; go_simp }
      have t1 : wl.cell? ⟨wk.heap.size, 1, none⟩ = some (.int .i64 L2) := by { rw [← hW]; clear hW; go_simp }
      have lt : wk.heap.size < wl.heap.size := by { rw [← hW]; simp }
      have hzx := hbx.size
      have q0c : wl.cell? ⟨w.heap.size, 0, none⟩ = some (.slice a n c) := by { rw [cellB hbx _ _ (by first | (simp; done) | (simp; omega) | omega)]; all_goals (first | assumption | go_simp) }; have l0c : w.heap.size < wl.heap.size := by { omega }; have x0c : wl.cell? ⟨X7, 0, none⟩ = some (.int .i64 0) := by { rw [cellB hbx _ _ (by first | (simp; done) | (simp; omega) | omega)]; all_goals (first | assumption | go_simp) }; have x1c : wl.cell? ⟨X7, 1, none⟩ = some (.int .i64 0) := by { rw [cellB hbx _ _ (by first | (simp; done) | (simp; omega) | omega)]; all_goals (first | assumption | go_simp) }; have lxc : X7 < wl.heap.size := by { omega }; have y0c : wl.cell? ⟨X10, 0, none⟩ = some (.int .i64 S1) := by { rw [cellB hbx _ _ (by first | (simp; done) | (simp; omega) | omega)]; all_goals (first | assumption | go_simp) }; have y1c : wl.cell? ⟨X10, 1, none⟩ = some (.int .i64 S2) := by { rw [cellB hbx _ _ (by first | (simp; done) | (simp; omega) | omega)]; all_goals (first | assumption | go_simp) }; have lyc : X10 < wl.heap.size := by { omega }; have z0c : wl.cell? ⟨X15, 0, none⟩ = some (.int .i64 S1) := by { rw [cellB hbx _ _ (by first | (simp; done) | (simp; omega) | omega)]; all_goals (first | assumption | go_simp) }; have z1c : wl.cell? ⟨X15, 1, none⟩ = some (.int .i64 S2) := by { rw [cellB hbx _ _ (by first | (simp; done) | (simp; omega) | omega)]; all_goals (first | assumption | go_simp) }; have lzc : X15 < wl.heap.size := by { omega }
      have HBv := Lib.hid (HBv.out.trans (hbx.mono HBv.out.size))
      clear hbx hzx q0 l0 x0 x1 lx y0 y1 ly z0 z1 lz hW
      generalize wk.heap.size = X18 at *
      have u0_c := t0
      have u1_c := t1
      have luc := lt
      clear t0 t1 lt
      go_wp2_with fail
      refine (HIS.out _).mono ?_
      rintro e18 wm ⟨rfl, hbx⟩
      have hzx := hbx.size
      have q0 : wm.cell? ⟨w.heap.size, 0, none⟩ = some (.slice a n c) := by { rw [cellB hbx _ _ (by first | (simp; done) | (simp; omega) | omega)]; all_goals (first | assumption | go_simp) }; have l0 : w.heap.size < wm.heap.size := by { omega }; have x0 : wm.cell? ⟨X7, 0, none⟩ = some (.int .i64 0) := by { rw [cellB hbx _ _ (by first | (simp; done) | (simp; omega) | omega)]; all_goals (first | assumption | go_simp) }; have x1 : wm.cell? ⟨X7, 1, none⟩ = some (.int .i64 0) := by { rw [cellB hbx _ _ (by first | (simp; done) | (simp; omega) | omega)]; all_goals (first | assumption | go_simp) }; have lx : X7 < wm.heap.size := by { omega }; have y0 : wm.cell? ⟨X10, 0, none⟩ = some (.int .i64 S1) := by { rw [cellB hbx _ _ (by first | (simp; done) | (simp; omega) | omega)]; all_goals (first | assumption | go_simp) }; have y1 : wm.cell? ⟨X10, 1, none⟩ = some (.int .i64 S2) := by { rw [cellB hbx _ _ (by first | (simp; done) | (simp; omega) | omega)]; all_goals (first | assumption | go_simp) }; have ly : X10 < wm.heap.size := by { omega }; have z0 : wm.cell? ⟨X15, 0, none⟩ = some (.int .i64 S1) := by { rw [cellB hbx _ _ (by first | (simp; done) | (simp; omega) | omega)]; all_goals (first | assumption | go_simp) }; have z1 : wm.cell? ⟨X15, 1, none⟩ = some (.int .i64 S2) := by { rw [cellB hbx _ _ (by first | (simp; done) | (simp; omega) | omega)]; all_goals (first | assumption | go_simp) }; have lz : X15 < wm.heap.size := by { omega }; have u0_ : wm.cell? ⟨X18, 0, none⟩ = some (.int .i64 L1) := by { rw [cellB hbx _ _ (by first | (simp; done) | (simp; omega) | omega)]; all_goals (first | assumption | go_simp) }; have u1_ : wm.cell? ⟨X18, 1, none⟩ = some (.int .i64 L2) := by { rw [cellB hbx _ _ (by first | (simp; done) | (simp; omega) | omega)]; all_goals (first | assumption | go_simp) }; have lu : X18 < wm.heap.size := by { omega }
      have HBv := Lib.hid (HBv.out.trans (hbx.mono HBv.out.size))
      clear hbx hzx q0c l0c x0c x1c lxc y0c y1c lyc z0c z1c lzc u0_c u1_c luc 
      go_wp2
      go_ret
      exact ⟨rfl, HBv.out⟩
  · have hE1 : (E != 0) = true := by simpa using hE0
    have hE3 : (E == E) = true := by simp
    obtain ⟨rfl, rfl, rfl⟩ := HS1.out hE0
    obtain ⟨rfl, rfl, rfl⟩ : V1 = 0 ∧ V2 = 0 ∧ FE = E := by
      rcases HVC.out with ⟨_, h1, h2, h3⟩ | ⟨h, _⟩ | ⟨h, _⟩ | ⟨h, _⟩
      · exact ⟨h1, h2, h3⟩
      · exact absurd h hE0
      · exact absurd h hE0
      · exact absurd h hE0
    clear hE0
    go_wp2
    go_ret
    exact ⟨rfl, HBv.out⟩
theorem impl_walk (l : List (Int × Int)) (tm : Int) (a : Option Addr) (n c : Nat) (w : World) (hl : PairsR w a n l) :
    Calls Try.prog 7 #[.agg #[.slice a n c], .int .i64 tm] w fun e' w' => e' = .returned (.bool true) ∧ Below w.heap.size w w' := by
  by_cases h : n ≤ 14
  · exact impl_main l tm a n c w hl h
  · exact impl_few tm a n c w hl.small h
end Go.Proofs.Ytiellefbndlkkaa
