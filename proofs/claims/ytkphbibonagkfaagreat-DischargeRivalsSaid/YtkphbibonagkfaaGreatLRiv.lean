import Derived.Test.YtkphbibonagkfaaGreatDAwk
import Derived.Test.YtkphbibonagkfaaGreatMDXpe
/- Rivals: the statement's function. -/
namespace Go.Proofs.YtkphbibonagkfaaGreat
open Go.RowKit
set_option linter.unusedVariables false

set_option maxHeartbeats 2000000 in
set_option maxRecDepth 100000 in
theorem riv_out (n c m cm nf cf nr cr q cq : Nat) (a ap af ar aq : Option Addr) (s l : List T3) (fs S : List Int) (w : World) (hs : T3R w a n s) (hl : T3R w ap m l) (hf : IntsR w af nf fs) (hS : IntsR w aq q S)
    (h : ¬ ((netE s).2 = 0 ∧ defsE n l = 0 ∧ freE fs = 0 ∧ q ≤ 8)) :
    Calls Tryz.prog 8 #[.agg #[.slice a n c], .slice ap m cm, .agg #[.slice af nf cf, .slice ar nr cr, .slice aq q cq]] w fun e' w' => e' = .returned (.bool true) ∧ Below w.heap.size w w' := by
  have hn := hs.small
  have hq := hS.small
  have HNE := Lib.hid (fun (W : World) (hb : Below w.heap.size w W) => rNetworkErr_any s a n c W (hs.below hb))
  have HDE := Lib.hid (fun (W : World) (hb : Below w.heap.size w W) => rDeformationsErr_any n c m cm a ap l W hn (hl.below hb))
  have HFE := Lib.hid (fun (W : World) (hb : Below w.heap.size w W) => rFrequenciesErr_any fs af nf cf W (hf.below hb))
  clear hs hl hf hS hn
  generalize (netE s).2 = e1 at *
  generalize defsE n l = e2 at *
  generalize freE fs = e3 at *
  by_cases h1 : e1 = 0
  · by_cases h2 : e2 = 0
    · by_cases h3 : e3 = 0
      · have h8 : ¬ q ≤ 8 := fun h8 => h ⟨h1, h2, h3, h8⟩
        have e8 : decide (8 < (q : Int)) = true := decide_eq_true (by omega)
        have e8' : (8 < (q : Int)) = True := by simp; omega
        subst h1 h2 h3
        clear h h8
        go_enter Tryz.func8, Tryz.ntmps8
        go_wp2_with fail
        generalize hW : World.alloc _ _ = w4
        have hb4 : Below w.heap.size w w4 := by rw [← hW]; (repeat' (first | (with_reducible exact Below.refl _ _) | (with_reducible assumption) | (with_reducible refine Below.drewN ?_ _) | (with_reducible refine Below.alloc ?_ ?_ _) | (with_reducible refine Below.drew ?_) | (with_reducible refine Below.setCell ?_ ?_ _) | (with_reducible refine Below.step (by assumption) ?_ ?_) | (with_reducible exact And.left (by assumption)) | go_size))
        have q0 : w4.cell? ⟨w.heap.size, 0, none⟩ = some (.slice a n c) := by { rw [← hW]; clear hW; go_simp }
        have p0 : w4.cell? ⟨w.heap.size + 1, 0, none⟩ = some (.slice af nf cf) := by { rw [← hW]; clear hW; go_simp }
        have v0 : w4.cell? ⟨w.heap.size + 1, 2, none⟩ = some (.slice aq q cq) := by { rw [← hW]; clear hW; go_simp }
        have l0 : w.heap.size + 1 < w4.heap.size := by { rw [← hW]; clear hW; simp }
        have j0 : w.heap.size < w4.heap.size := by omega
        have HB := Lib.hid hb4
        clear hW hb4
        refine (awake9_any _).mono ?_
        rintro e5 w5 ⟨rfl, hb5⟩
        have hzx := hb5.size
        have q1 : w5.cell? ⟨w.heap.size, 0, none⟩ = some (.slice a n c) := by { rw [cellB hb5 _ _ (by first | (simp; done) | (simp; omega) | omega)]; all_goals (first | assumption | go_simp) }; have p1 : w5.cell? ⟨w.heap.size + 1, 0, none⟩ = some (.slice af nf cf) := by { rw [cellB hb5 _ _ (by first | (simp; done) | (simp; omega) | omega)]; all_goals (first | assumption | go_simp) }; have v1 : w5.cell? ⟨w.heap.size + 1, 2, none⟩ = some (.slice aq q cq) := by { rw [cellB hb5 _ _ (by first | (simp; done) | (simp; omega) | omega)]; all_goals (first | assumption | go_simp) }; have l1 : w.heap.size + 1 < w5.heap.size := by { omega }; have j1 : w.heap.size < w5.heap.size := by { omega }
        have HB := Lib.hid (HB.out.trans (hb5.mono HB.out.size))
        clear q0 p0 v0 l0 j0 hzx
        clear hb5
        go_wp2_with fail
        refine (HNE.out _ HB.out).mono ?_
        rintro e6 w6 ⟨rfl, hb6⟩
        have hzx := hb6.size
        have q0 : w6.cell? ⟨w.heap.size, 0, none⟩ = some (.slice a n c) := by { rw [cellB hb6 _ _ (by first | (simp; done) | (simp; omega) | omega)]; all_goals (first | assumption | go_simp) }; have p0 : w6.cell? ⟨w.heap.size + 1, 0, none⟩ = some (.slice af nf cf) := by { rw [cellB hb6 _ _ (by first | (simp; done) | (simp; omega) | omega)]; all_goals (first | assumption | go_simp) }; have v0 : w6.cell? ⟨w.heap.size + 1, 2, none⟩ = some (.slice aq q cq) := by { rw [cellB hb6 _ _ (by first | (simp; done) | (simp; omega) | omega)]; all_goals (first | assumption | go_simp) }; have l0 : w.heap.size + 1 < w6.heap.size := by { omega }; have j0 : w.heap.size < w6.heap.size := by { omega }
        have HB := Lib.hid (HB.out.trans (hb6.mono HB.out.size))
        clear q1 p1 v1 l1 j1 hzx
        clear hb6
        go_wp2_with fail
        refine (HDE.out _ HB.out).mono ?_
        rintro e7 w7 ⟨rfl, hb7⟩
        have hzx := hb7.size
        have q1 : w7.cell? ⟨w.heap.size, 0, none⟩ = some (.slice a n c) := by { rw [cellB hb7 _ _ (by first | (simp; done) | (simp; omega) | omega)]; all_goals (first | assumption | go_simp) }; have p1 : w7.cell? ⟨w.heap.size + 1, 0, none⟩ = some (.slice af nf cf) := by { rw [cellB hb7 _ _ (by first | (simp; done) | (simp; omega) | omega)]; all_goals (first | assumption | go_simp) }; have v1 : w7.cell? ⟨w.heap.size + 1, 2, none⟩ = some (.slice aq q cq) := by { rw [cellB hb7 _ _ (by first | (simp; done) | (simp; omega) | omega)]; all_goals (first | assumption | go_simp) }; have l1 : w.heap.size + 1 < w7.heap.size := by { omega }; have j1 : w.heap.size < w7.heap.size := by { omega }
        have HB := Lib.hid (HB.out.trans (hb7.mono HB.out.size))
        clear q0 p0 v0 l0 j0 hzx
        clear hb7
        go_wp2_with fail
        refine (HFE.out _ HB.out).mono ?_
        rintro e8 w8 ⟨rfl, hb8⟩
        have hzx := hb8.size
        have q0 : w8.cell? ⟨w.heap.size, 0, none⟩ = some (.slice a n c) := by { rw [cellB hb8 _ _ (by first | (simp; done) | (simp; omega) | omega)]; all_goals (first | assumption | go_simp) }; have p0 : w8.cell? ⟨w.heap.size + 1, 0, none⟩ = some (.slice af nf cf) := by { rw [cellB hb8 _ _ (by first | (simp; done) | (simp; omega) | omega)]; all_goals (first | assumption | go_simp) }; have v0 : w8.cell? ⟨w.heap.size + 1, 2, none⟩ = some (.slice aq q cq) := by { rw [cellB hb8 _ _ (by first | (simp; done) | (simp; omega) | omega)]; all_goals (first | assumption | go_simp) }; have l0 : w.heap.size + 1 < w8.heap.size := by { omega }; have j0 : w.heap.size < w8.heap.size := by { omega }
        have HB := Lib.hid (HB.out.trans (hb8.mono HB.out.size))
        clear q1 p1 v1 l1 j1 hzx
        clear hb8
        go_wp2
        go_ret
        exact ⟨ret_bool (by simp), HB.out⟩
      · have g1 : (e3 != 0) = true := by simpa using h3
        subst h1 h2
        clear h h3
        go_enter Tryz.func8, Tryz.ntmps8
        go_wp2_with fail
        generalize hW : World.alloc _ _ = w4
        have hb4 : Below w.heap.size w w4 := by rw [← hW]; (repeat' (first | (with_reducible exact Below.refl _ _) | (with_reducible assumption) | (with_reducible refine Below.drewN ?_ _) | (with_reducible refine Below.alloc ?_ ?_ _) | (with_reducible refine Below.drew ?_) | (with_reducible refine Below.setCell ?_ ?_ _) | (with_reducible refine Below.step (by assumption) ?_ ?_) | (with_reducible exact And.left (by assumption)) | go_size))
        have q0 : w4.cell? ⟨w.heap.size, 0, none⟩ = some (.slice a n c) := by { rw [← hW]; clear hW; go_simp }
        have p0 : w4.cell? ⟨w.heap.size + 1, 0, none⟩ = some (.slice af nf cf) := by { rw [← hW]; clear hW; go_simp }
        have v0 : w4.cell? ⟨w.heap.size + 1, 2, none⟩ = some (.slice aq q cq) := by { rw [← hW]; clear hW; go_simp }
        have l0 : w.heap.size + 1 < w4.heap.size := by { rw [← hW]; clear hW; simp }
        have j0 : w.heap.size < w4.heap.size := by omega
        have HB := Lib.hid hb4
        clear hW hb4
        refine (awake9_any _).mono ?_
        rintro e5 w5 ⟨rfl, hb5⟩
        have hzx := hb5.size
        have q1 : w5.cell? ⟨w.heap.size, 0, none⟩ = some (.slice a n c) := by { rw [cellB hb5 _ _ (by first | (simp; done) | (simp; omega) | omega)]; all_goals (first | assumption | go_simp) }; have p1 : w5.cell? ⟨w.heap.size + 1, 0, none⟩ = some (.slice af nf cf) := by { rw [cellB hb5 _ _ (by first | (simp; done) | (simp; omega) | omega)]; all_goals (first | assumption | go_simp) }; have v1 : w5.cell? ⟨w.heap.size + 1, 2, none⟩ = some (.slice aq q cq) := by { rw [cellB hb5 _ _ (by first | (simp; done) | (simp; omega) | omega)]; all_goals (first | assumption | go_simp) }; have l1 : w.heap.size + 1 < w5.heap.size := by { omega }; have j1 : w.heap.size < w5.heap.size := by { omega }
        have HB := Lib.hid (HB.out.trans (hb5.mono HB.out.size))
        clear q0 p0 v0 l0 j0 hzx
        clear hb5
        go_wp2_with fail
        refine (HNE.out _ HB.out).mono ?_
        rintro e6 w6 ⟨rfl, hb6⟩
        have hzx := hb6.size
        have q0 : w6.cell? ⟨w.heap.size, 0, none⟩ = some (.slice a n c) := by { rw [cellB hb6 _ _ (by first | (simp; done) | (simp; omega) | omega)]; all_goals (first | assumption | go_simp) }; have p0 : w6.cell? ⟨w.heap.size + 1, 0, none⟩ = some (.slice af nf cf) := by { rw [cellB hb6 _ _ (by first | (simp; done) | (simp; omega) | omega)]; all_goals (first | assumption | go_simp) }; have v0 : w6.cell? ⟨w.heap.size + 1, 2, none⟩ = some (.slice aq q cq) := by { rw [cellB hb6 _ _ (by first | (simp; done) | (simp; omega) | omega)]; all_goals (first | assumption | go_simp) }; have l0 : w.heap.size + 1 < w6.heap.size := by { omega }; have j0 : w.heap.size < w6.heap.size := by { omega }
        have HB := Lib.hid (HB.out.trans (hb6.mono HB.out.size))
        clear q1 p1 v1 l1 j1 hzx
        clear hb6
        go_wp2_with fail
        refine (HDE.out _ HB.out).mono ?_
        rintro e7 w7 ⟨rfl, hb7⟩
        have hzx := hb7.size
        have q1 : w7.cell? ⟨w.heap.size, 0, none⟩ = some (.slice a n c) := by { rw [cellB hb7 _ _ (by first | (simp; done) | (simp; omega) | omega)]; all_goals (first | assumption | go_simp) }; have p1 : w7.cell? ⟨w.heap.size + 1, 0, none⟩ = some (.slice af nf cf) := by { rw [cellB hb7 _ _ (by first | (simp; done) | (simp; omega) | omega)]; all_goals (first | assumption | go_simp) }; have v1 : w7.cell? ⟨w.heap.size + 1, 2, none⟩ = some (.slice aq q cq) := by { rw [cellB hb7 _ _ (by first | (simp; done) | (simp; omega) | omega)]; all_goals (first | assumption | go_simp) }; have l1 : w.heap.size + 1 < w7.heap.size := by { omega }; have j1 : w.heap.size < w7.heap.size := by { omega }
        have HB := Lib.hid (HB.out.trans (hb7.mono HB.out.size))
        clear q0 p0 v0 l0 j0 hzx
        clear hb7
        go_wp2_with fail
        refine (HFE.out _ HB.out).mono ?_
        rintro e8 w8 ⟨rfl, hb8⟩
        have hzx := hb8.size
        have q0 : w8.cell? ⟨w.heap.size, 0, none⟩ = some (.slice a n c) := by { rw [cellB hb8 _ _ (by first | (simp; done) | (simp; omega) | omega)]; all_goals (first | assumption | go_simp) }; have p0 : w8.cell? ⟨w.heap.size + 1, 0, none⟩ = some (.slice af nf cf) := by { rw [cellB hb8 _ _ (by first | (simp; done) | (simp; omega) | omega)]; all_goals (first | assumption | go_simp) }; have v0 : w8.cell? ⟨w.heap.size + 1, 2, none⟩ = some (.slice aq q cq) := by { rw [cellB hb8 _ _ (by first | (simp; done) | (simp; omega) | omega)]; all_goals (first | assumption | go_simp) }; have l0 : w.heap.size + 1 < w8.heap.size := by { omega }; have j0 : w.heap.size < w8.heap.size := by { omega }
        have HB := Lib.hid (HB.out.trans (hb8.mono HB.out.size))
        clear q1 p1 v1 l1 j1 hzx
        clear hb8
        go_wp2
        go_ret
        exact ⟨ret_bool (by simp), HB.out⟩
    · have g1 : (e2 != 0) = true := by simpa using h2
      subst h1
      clear h h2
      go_enter Tryz.func8, Tryz.ntmps8
      go_wp2_with fail
      generalize hW : World.alloc _ _ = w4
      have hb4 : Below w.heap.size w w4 := by rw [← hW]; (repeat' (first | (with_reducible exact Below.refl _ _) | (with_reducible assumption) | (with_reducible refine Below.drewN ?_ _) | (with_reducible refine Below.alloc ?_ ?_ _) | (with_reducible refine Below.drew ?_) | (with_reducible refine Below.setCell ?_ ?_ _) | (with_reducible refine Below.step (by assumption) ?_ ?_) | (with_reducible exact And.left (by assumption)) | go_size))
      have q0 : w4.cell? ⟨w.heap.size, 0, none⟩ = some (.slice a n c) := by { rw [← hW]; clear hW; go_simp }
      have p0 : w4.cell? ⟨w.heap.size + 1, 0, none⟩ = some (.slice af nf cf) := by { rw [← hW]; clear hW; go_simp }
      have v0 : w4.cell? ⟨w.heap.size + 1, 2, none⟩ = some (.slice aq q cq) := by { rw [← hW]; clear hW; go_simp }
      have l0 : w.heap.size + 1 < w4.heap.size := by { rw [← hW]; clear hW; simp }
      have j0 : w.heap.size < w4.heap.size := by omega
      have HB := Lib.hid hb4
      clear hW hb4
      refine (awake9_any _).mono ?_
      rintro e5 w5 ⟨rfl, hb5⟩
      have hzx := hb5.size
      have q1 : w5.cell? ⟨w.heap.size, 0, none⟩ = some (.slice a n c) := by { rw [cellB hb5 _ _ (by first | (simp; done) | (simp; omega) | omega)]; all_goals (first | assumption | go_simp) }; have p1 : w5.cell? ⟨w.heap.size + 1, 0, none⟩ = some (.slice af nf cf) := by { rw [cellB hb5 _ _ (by first | (simp; done) | (simp; omega) | omega)]; all_goals (first | assumption | go_simp) }; have v1 : w5.cell? ⟨w.heap.size + 1, 2, none⟩ = some (.slice aq q cq) := by { rw [cellB hb5 _ _ (by first | (simp; done) | (simp; omega) | omega)]; all_goals (first | assumption | go_simp) }; have l1 : w.heap.size + 1 < w5.heap.size := by { omega }; have j1 : w.heap.size < w5.heap.size := by { omega }
      have HB := Lib.hid (HB.out.trans (hb5.mono HB.out.size))
      clear q0 p0 v0 l0 j0 hzx
      clear hb5
      go_wp2_with fail
      refine (HNE.out _ HB.out).mono ?_
      rintro e6 w6 ⟨rfl, hb6⟩
      have hzx := hb6.size
      have q0 : w6.cell? ⟨w.heap.size, 0, none⟩ = some (.slice a n c) := by { rw [cellB hb6 _ _ (by first | (simp; done) | (simp; omega) | omega)]; all_goals (first | assumption | go_simp) }; have p0 : w6.cell? ⟨w.heap.size + 1, 0, none⟩ = some (.slice af nf cf) := by { rw [cellB hb6 _ _ (by first | (simp; done) | (simp; omega) | omega)]; all_goals (first | assumption | go_simp) }; have v0 : w6.cell? ⟨w.heap.size + 1, 2, none⟩ = some (.slice aq q cq) := by { rw [cellB hb6 _ _ (by first | (simp; done) | (simp; omega) | omega)]; all_goals (first | assumption | go_simp) }; have l0 : w.heap.size + 1 < w6.heap.size := by { omega }; have j0 : w.heap.size < w6.heap.size := by { omega }
      have HB := Lib.hid (HB.out.trans (hb6.mono HB.out.size))
      clear q1 p1 v1 l1 j1 hzx
      clear hb6
      go_wp2_with fail
      refine (HDE.out _ HB.out).mono ?_
      rintro e7 w7 ⟨rfl, hb7⟩
      have hzx := hb7.size
      have q1 : w7.cell? ⟨w.heap.size, 0, none⟩ = some (.slice a n c) := by { rw [cellB hb7 _ _ (by first | (simp; done) | (simp; omega) | omega)]; all_goals (first | assumption | go_simp) }; have p1 : w7.cell? ⟨w.heap.size + 1, 0, none⟩ = some (.slice af nf cf) := by { rw [cellB hb7 _ _ (by first | (simp; done) | (simp; omega) | omega)]; all_goals (first | assumption | go_simp) }; have v1 : w7.cell? ⟨w.heap.size + 1, 2, none⟩ = some (.slice aq q cq) := by { rw [cellB hb7 _ _ (by first | (simp; done) | (simp; omega) | omega)]; all_goals (first | assumption | go_simp) }; have l1 : w.heap.size + 1 < w7.heap.size := by { omega }; have j1 : w.heap.size < w7.heap.size := by { omega }
      have HB := Lib.hid (HB.out.trans (hb7.mono HB.out.size))
      clear q0 p0 v0 l0 j0 hzx
      clear hb7
      go_wp2
      go_ret
      exact ⟨ret_bool (by simp), HB.out⟩
  · have g1 : (e1 != 0) = true := by simpa using h1
    clear h h1
    go_enter Tryz.func8, Tryz.ntmps8
    go_wp2_with fail
    generalize hW : World.alloc _ _ = w4
    have hb4 : Below w.heap.size w w4 := by rw [← hW]; (repeat' (first | (with_reducible exact Below.refl _ _) | (with_reducible assumption) | (with_reducible refine Below.drewN ?_ _) | (with_reducible refine Below.alloc ?_ ?_ _) | (with_reducible refine Below.drew ?_) | (with_reducible refine Below.setCell ?_ ?_ _) | (with_reducible refine Below.step (by assumption) ?_ ?_) | (with_reducible exact And.left (by assumption)) | go_size))
    have q0 : w4.cell? ⟨w.heap.size, 0, none⟩ = some (.slice a n c) := by { rw [← hW]; clear hW; go_simp }
    have p0 : w4.cell? ⟨w.heap.size + 1, 0, none⟩ = some (.slice af nf cf) := by { rw [← hW]; clear hW; go_simp }
    have v0 : w4.cell? ⟨w.heap.size + 1, 2, none⟩ = some (.slice aq q cq) := by { rw [← hW]; clear hW; go_simp }
    have l0 : w.heap.size + 1 < w4.heap.size := by { rw [← hW]; clear hW; simp }
    have j0 : w.heap.size < w4.heap.size := by omega
    have HB := Lib.hid hb4
    clear hW hb4
    refine (awake9_any _).mono ?_
    rintro e5 w5 ⟨rfl, hb5⟩
    have hzx := hb5.size
    have q1 : w5.cell? ⟨w.heap.size, 0, none⟩ = some (.slice a n c) := by { rw [cellB hb5 _ _ (by first | (simp; done) | (simp; omega) | omega)]; all_goals (first | assumption | go_simp) }; have p1 : w5.cell? ⟨w.heap.size + 1, 0, none⟩ = some (.slice af nf cf) := by { rw [cellB hb5 _ _ (by first | (simp; done) | (simp; omega) | omega)]; all_goals (first | assumption | go_simp) }; have v1 : w5.cell? ⟨w.heap.size + 1, 2, none⟩ = some (.slice aq q cq) := by { rw [cellB hb5 _ _ (by first | (simp; done) | (simp; omega) | omega)]; all_goals (first | assumption | go_simp) }; have l1 : w.heap.size + 1 < w5.heap.size := by { omega }; have j1 : w.heap.size < w5.heap.size := by { omega }
    have HB := Lib.hid (HB.out.trans (hb5.mono HB.out.size))
    clear q0 p0 v0 l0 j0 hzx
    clear hb5
    go_wp2_with fail
    refine (HNE.out _ HB.out).mono ?_
    rintro e6 w6 ⟨rfl, hb6⟩
    have hzx := hb6.size
    have q0 : w6.cell? ⟨w.heap.size, 0, none⟩ = some (.slice a n c) := by { rw [cellB hb6 _ _ (by first | (simp; done) | (simp; omega) | omega)]; all_goals (first | assumption | go_simp) }; have p0 : w6.cell? ⟨w.heap.size + 1, 0, none⟩ = some (.slice af nf cf) := by { rw [cellB hb6 _ _ (by first | (simp; done) | (simp; omega) | omega)]; all_goals (first | assumption | go_simp) }; have v0 : w6.cell? ⟨w.heap.size + 1, 2, none⟩ = some (.slice aq q cq) := by { rw [cellB hb6 _ _ (by first | (simp; done) | (simp; omega) | omega)]; all_goals (first | assumption | go_simp) }; have l0 : w.heap.size + 1 < w6.heap.size := by { omega }; have j0 : w.heap.size < w6.heap.size := by { omega }
    have HB := Lib.hid (HB.out.trans (hb6.mono HB.out.size))
    clear q1 p1 v1 l1 j1 hzx
    clear hb6
    go_wp2
    go_ret
    exact ⟨ret_bool (by simp), HB.out⟩
set_option maxHeartbeats 4000000 in
set_option maxRecDepth 100000 in
theorem riv_main (n c m cm nf cf nr cr q cq : Nat) (a ap af ar aq : Option Addr) (s l : List T3) (fs S : List Int) (w : World) (hs : T3R w a n s) (hl : T3R w ap m l) (hf : IntsR w af nf fs) (hS : IntsR w aq q S)
    (h1 : (netE s).2 = 0) (h2 : defsE n l = 0) (h3 : freE fs = 0) (h8 : q ≤ 8) :
    Calls Tryz.prog 8 #[.agg #[.slice a n c], .slice ap m cm, .agg #[.slice af nf cf, .slice ar nr cr, .slice aq q cq]] w fun e' w' => e' = .returned (.bool true) ∧ Below w.heap.size w w' := by
  have k1 := netE_pos h1
  rw [hs.len] at k1
  have k2 := (defsE_zero h2).1
  rw [hl.len] at k2
  have k3 := (freE_ok9 h3).1
  rw [hf.len] at k3
  have hn3 := k1.2.1
  have e8 : decide (8 < (q : Int)) = false := decide_eq_false (by omega)
  have e8' : (8 < (q : Int)) = False := by simp; omega
  have HNE := Lib.hid (fun (W : World) (hb : Below w.heap.size w W) => rNetworkErr_any s a n c W (hs.below hb))
  have HDE := Lib.hid (fun (W : World) (hb : Below w.heap.size w W) => rDeformationsErr_any n c m cm a ap l W (by omega) (hl.below hb))
  have HFE := Lib.hid (fun (W : World) (hb : Below w.heap.size w W) => rFrequenciesErr_any fs af nf cf W (hf.below hb))
  rw [h1] at HNE
  rw [h2] at HDE
  rw [h3] at HFE
  have HSR := Lib.hid hs
  have HL := Lib.hid hl
  have HF := Lib.hid hf
  have HS := Lib.hid hS
  have HSN := Lib.hid hS.len
  have HLN := Lib.hid hl.len
  have HH := Lib.hid (And.intro h1 (And.intro h2 h3))
  have HX := Lib.hid (fun (x a b : Int) w' => bwithin_any x a b w')
  have w1 : IntKind.i64.wrap ((m : Int) - 1) = (m : Int) - 1 := by rw [IntKind.wrap_i64]; omega
  clear hs hl hf hS h1 h2 h3 k1
  go_enter Tryz.func8, Tryz.ntmps8
  go_wp2_with fail
  generalize hW : World.alloc _ _ = w4
  have hb4 : Below w.heap.size w w4 := by rw [← hW]; (repeat' (first | (with_reducible exact Below.refl _ _) | (with_reducible assumption) | (with_reducible refine Below.drewN ?_ _) | (with_reducible refine Below.alloc ?_ ?_ _) | (with_reducible refine Below.drew ?_) | (with_reducible refine Below.setCell ?_ ?_ _) | (with_reducible refine Below.step (by assumption) ?_ ?_) | (with_reducible exact And.left (by assumption)) | go_size))
  have q0 : w4.cell? ⟨w.heap.size, 0, none⟩ = some (.slice a n c) := by { rw [← hW]; clear hW; go_simp }
  have p0 : w4.cell? ⟨w.heap.size + 1, 0, none⟩ = some (.slice af nf cf) := by { rw [← hW]; clear hW; go_simp }
  have v0 : w4.cell? ⟨w.heap.size + 1, 2, none⟩ = some (.slice aq q cq) := by { rw [← hW]; clear hW; go_simp }
  have l0 : w.heap.size + 1 < w4.heap.size := by { rw [← hW]; clear hW; simp }
  have j0 : w.heap.size < w4.heap.size := by omega
  have HB := Lib.hid hb4
  clear hW hb4
  refine (awake9_any _).mono ?_
  rintro e5 w5 ⟨rfl, hb5⟩
  have hzx := hb5.size
  have q1 : w5.cell? ⟨w.heap.size, 0, none⟩ = some (.slice a n c) := by { rw [cellB hb5 _ _ (by first | (simp; done) | (simp; omega) | omega)]; all_goals (first | assumption | go_simp) }; have p1 : w5.cell? ⟨w.heap.size + 1, 0, none⟩ = some (.slice af nf cf) := by { rw [cellB hb5 _ _ (by first | (simp; done) | (simp; omega) | omega)]; all_goals (first | assumption | go_simp) }; have v1 : w5.cell? ⟨w.heap.size + 1, 2, none⟩ = some (.slice aq q cq) := by { rw [cellB hb5 _ _ (by first | (simp; done) | (simp; omega) | omega)]; all_goals (first | assumption | go_simp) }; have l1 : w.heap.size + 1 < w5.heap.size := by { omega }; have j1 : w.heap.size < w5.heap.size := by { omega }
  have HB := Lib.hid (HB.out.trans (hb5.mono HB.out.size))
  clear q0 p0 v0 l0 j0 hzx
  clear hb5
  go_wp2_with fail
  refine (HNE.out _ HB.out).mono ?_
  rintro e6 w6 ⟨rfl, hb6⟩
  have hzx := hb6.size
  have q0 : w6.cell? ⟨w.heap.size, 0, none⟩ = some (.slice a n c) := by { rw [cellB hb6 _ _ (by first | (simp; done) | (simp; omega) | omega)]; all_goals (first | assumption | go_simp) }; have p0 : w6.cell? ⟨w.heap.size + 1, 0, none⟩ = some (.slice af nf cf) := by { rw [cellB hb6 _ _ (by first | (simp; done) | (simp; omega) | omega)]; all_goals (first | assumption | go_simp) }; have v0 : w6.cell? ⟨w.heap.size + 1, 2, none⟩ = some (.slice aq q cq) := by { rw [cellB hb6 _ _ (by first | (simp; done) | (simp; omega) | omega)]; all_goals (first | assumption | go_simp) }; have l0 : w.heap.size + 1 < w6.heap.size := by { omega }; have j0 : w.heap.size < w6.heap.size := by { omega }
  have HB := Lib.hid (HB.out.trans (hb6.mono HB.out.size))
  clear q1 p1 v1 l1 j1 hzx
  clear hb6
  go_wp2_with fail
  refine (HDE.out _ HB.out).mono ?_
  rintro e7 w7 ⟨rfl, hb7⟩
  have hzx := hb7.size
  have q1 : w7.cell? ⟨w.heap.size, 0, none⟩ = some (.slice a n c) := by { rw [cellB hb7 _ _ (by first | (simp; done) | (simp; omega) | omega)]; all_goals (first | assumption | go_simp) }; have p1 : w7.cell? ⟨w.heap.size + 1, 0, none⟩ = some (.slice af nf cf) := by { rw [cellB hb7 _ _ (by first | (simp; done) | (simp; omega) | omega)]; all_goals (first | assumption | go_simp) }; have v1 : w7.cell? ⟨w.heap.size + 1, 2, none⟩ = some (.slice aq q cq) := by { rw [cellB hb7 _ _ (by first | (simp; done) | (simp; omega) | omega)]; all_goals (first | assumption | go_simp) }; have l1 : w.heap.size + 1 < w7.heap.size := by { omega }; have j1 : w.heap.size < w7.heap.size := by { omega }
  have HB := Lib.hid (HB.out.trans (hb7.mono HB.out.size))
  clear q0 p0 v0 l0 j0 hzx
  clear hb7
  go_wp2_with fail
  refine (HFE.out _ HB.out).mono ?_
  rintro e8 w8 ⟨rfl, hb8⟩
  have hzx := hb8.size
  have q0 : w8.cell? ⟨w.heap.size, 0, none⟩ = some (.slice a n c) := by { rw [cellB hb8 _ _ (by first | (simp; done) | (simp; omega) | omega)]; all_goals (first | assumption | go_simp) }; have p0 : w8.cell? ⟨w.heap.size + 1, 0, none⟩ = some (.slice af nf cf) := by { rw [cellB hb8 _ _ (by first | (simp; done) | (simp; omega) | omega)]; all_goals (first | assumption | go_simp) }; have v0 : w8.cell? ⟨w.heap.size + 1, 2, none⟩ = some (.slice aq q cq) := by { rw [cellB hb8 _ _ (by first | (simp; done) | (simp; omega) | omega)]; all_goals (first | assumption | go_simp) }; have l0 : w.heap.size + 1 < w8.heap.size := by { omega }; have j0 : w.heap.size < w8.heap.size := by { omega }
  have HB := Lib.hid (HB.out.trans (hb8.mono HB.out.size))
  clear q1 p1 v1 l1 j1 hzx
  clear hb8 HNE HDE HFE
  go_wp2_with fail
  go_loopw [7, 8] (fun v i wr => ∃ (k : Nat) (av : Option Addr) (cv : Nat), i = .int .i64 k ∧ v = .slice av k cv ∧ k ≤ q ∧ Hid (∀ j, j < k → clE m S j = 0) ∧ Hid (wr.ownsRow w8.heap.size 104 3 (.slice av k cv) k (ecells e3 (pick l (S.take k)))) ∧ Hid (Below w8.heap.size w8 wr)) (fun _ i _ => q - (intOf i).toNat)
  case atStart => exact ⟨0, none, 0, rfl, rfl, Nat.zero_le _, Lib.hid (fun j hj => absurd hj (by omega)), Lib.hid (World.ownsRow_nil _ _ _ _), Lib.hid (Below.refl _ _)⟩
  case round =>
    obtain ⟨k, av, cv, rfl, rfl, hk, hC, hO, hB⟩ := hrel
    have i0 : (0 : Int) ≤ (k : Int) := by omega
    have hbr := hB.out
    have hzr := hbr.size
    have HBW := Lib.hid (HB.out.trans (hbr.mono HB.out.size))
    have q1 : wr.cell? ⟨w.heap.size, 0, none⟩ = some (.slice a n c) := by { rw [cellB hbr _ _ (by first | (simp; done) | (simp; omega) | omega)]; all_goals (first | assumption | go_simp) }; have p1 : wr.cell? ⟨w.heap.size + 1, 0, none⟩ = some (.slice af nf cf) := by { rw [cellB hbr _ _ (by first | (simp; done) | (simp; omega) | omega)]; all_goals (first | assumption | go_simp) }; have v1 : wr.cell? ⟨w.heap.size + 1, 2, none⟩ = some (.slice aq q cq) := by { rw [cellB hbr _ _ (by first | (simp; done) | (simp; omega) | omega)]; all_goals (first | assumption | go_simp) }; have l1 : w.heap.size + 1 < wr.heap.size := by { omega }; have j1 : w.heap.size < wr.heap.size := by { omega }
    by_cases hlt : k < q
    · have i1 : (k : Int) < (q : Int) := by omega
      have hSW := HS.out.below HBW.out
      obtain ⟨b0, o0, rfl, hb0⟩ := hSW.block (by omega)
      have c0 := hSW.cellI hlt
      have hks : k < S.length := by rw [HSN.out]; exact hlt
      have hpt := fun p => pick_take (p := p) (l := l) hks
      obtain ⟨wb, hwb⟩ : ∃ b, b = wi (S.getD k 0) 0 ((m : Int) - 1) := ⟨_, rfl⟩
      have HXX := Lib.hid (fun w' => bwithin_any (S.getD k 0) 0 ((m : Int) - 1) w')
      rw [← hwb] at HXX
      have hcl : clE m S k = firstErr [unl wb 6, unl (decide (k = 0) || decide (S.getD (k - 1) 0 < S.getD k 0)) 9] := by rw [hwb]; rfl
      by_cases hw0 : wb = true
      · subst hw0
        have hwx := wi_iff.1 hwb.symm
        generalize hxg : S.getD k 0 = x at *
        obtain ⟨x, rfl⟩ : ∃ y : Nat, x = y := ⟨x.toNat, by omega⟩
        have hxm : x < m := by omega
        rw [Int.toNat_natCast] at hpt
        obtain ⟨b1, o1, rfl, hb1, hc1⟩ := (HL.out.below HBW.out).addr (by omega)
        obtain ⟨⟨x1, x2, x3⟩, hx⟩ := ER.get HL.out hxm
        obtain ⟨d0, d1, d2⟩ := hc1 x _ hx
        have HT := Lib.hid (show ecells e3 (pick l (S.take (k + 1))) = ecells e3 (pick l (S.take k)) ++ [.int .i64 x1, .int .i64 x2, .int .i64 x3] by rw [hpt _ hx, ecells_append, ecells_one]; rfl)
        have ix0 : (0 : Int) ≤ (x : Int) := by omega
        have ix1 : (x : Int) < (m : Int) := by omega
        simp only at d0 d1 d2
        by_cases hk0 : k = 0
        · subst hk0
          have HC2 := Lib.hid (show ∀ j, j < 0 + 1 → clE m S j = 0 from fun j hj => by
            obtain rfl : j = 0 := by omega
            rw [hcl]; rfl)
          rw [Nat.add_zero] at c0
          clear hcl hpt hx hc1 hks hxg hwb hwx hC hSW
          go_wp2_with fail
          refine later_all (by kernel_rfl) (by kernel_rfl) ?_; repeat go_big_quiet_step((with_reducible exact calls_later_same (HXX.out _)))
          refine wpQuiet_nil ?_; intro w9 hb9
          have hz9 := hb9.size
          have v2 : w9.cell? ⟨w.heap.size + 1, 2, none⟩ = some (.slice (some ⟨b0, o0, none⟩) q cq) := by { rw [cellB hb9 _ _ (by first | (simp; done) | (simp; omega) | omega)]; all_goals (first | assumption | go_simp) }; have y0 : w9.cell? ⟨b0, o0, none⟩ = some (.int .i64 x) := by { rw [cellB hb9 _ _ (by first | (simp; done) | (simp; omega) | omega)]; all_goals (first | assumption | go_simp) }; have g0 : w9.cell? ⟨b1, o1 + x * 3, none⟩ = some (.int .i64 x1) := by { rw [cellB hb9 _ _ (by first | (simp; done) | (simp; omega) | omega)]; all_goals (first | assumption | go_simp) }; have g1 : w9.cell? ⟨b1, o1 + x * 3 + 1, none⟩ = some (.int .i64 x2) := by { rw [cellB hb9 _ _ (by first | (simp; done) | (simp; omega) | omega)]; all_goals (first | assumption | go_simp) }; have g2 : w9.cell? ⟨b1, o1 + x * 3 + 2, none⟩ = some (.int .i64 x3) := by { rw [cellB hb9 _ _ (by first | (simp; done) | (simp; omega) | omega)]; all_goals (first | assumption | go_simp) }
          have HO9 := Lib.hid (owns_below hO.out hb9 (fun z hz => (hO.out.lt z hz).2))
          have HB9 := Lib.hid (hB.out.trans (hb9.mono hB.out.size))
          have HBX := Lib.hid (HBW.out.trans (hb9.mono HBW.out.size))
          clear hb9 hO v1 p1 q1 c0 d0 d1 d2
          go_wp2_with (at_builtin; refine wpList_append_sl _ rfl _ _ 48 rfl w8.heap.size 104 _ 3 24 Tryz.underlying48 infoDef rfl (by omega) (.slice av 0 cv) 0 _ rfl (HO9.out.alloc _) _ 1 1 [.int .i64 x1, .int .i64 x2, .int .i64 x3] rfl (SlR.lit _ _ _ _ _ 1 3 (by rfl) (by simp) rfl (by omega)) (by simp [Value.oneCell']) (by omega) (by omega) (by simp; omega) ?_)
          intro v2' w2' hown2 hgr2 hb2
          obtain ⟨av2, cv2, rfl, _, _⟩ := owns_slice hown2
          have HO2 := Lib.hid (show w2'.ownsRow w8.heap.size 104 3 (.slice av2 (0 + 1) cv2) (0 + 1) (ecells e3 (pick l (S.take (0 + 1)))) by { rw [HT.out]; exact hown2 })
          have HB2 := Lib.hid ((HB9.out.alloc (by omega) _).trans hb2)
          clear hown2 hgr2 hb2 hB HT HO9 HB9
          go_wp2
          go_roundw
          case rel => exact ⟨0 + 1, av2, cv2, by go_num, rfl, by omega, HC2, HO2, HB2⟩
          case measure => simp [intOf]; omega
        · have c1 := hSW.cellI (show k - 1 < q by omega)
          have hkb : 0 < k := by omega
          have w1' : IntKind.i64.wrap ((k : Int) - 1) = (k : Int) - 1 := by rw [IntKind.wrap_i64]; omega
          have w2 : ((k : Int) - 1).toNat = k - 1 := by omega
          have w4 : (0 : Int) ≤ (k : Int) - 1 := by omega
          have w5' : (k : Int) - 1 < (q : Int) := by omega
          generalize S.getD (k - 1) 0 = y at *
          by_cases hlx : y < (x : Int)
          · have HC2 := Lib.hid (show ∀ j, j < k + 1 → clE m S j = 0 from fun j hj => by
              rcases Nat.lt_or_ge j k with h | h
              · exact hC.out j h
              · obtain rfl : j = k := by omega
                rw [hcl, decide_eq_true hlx]; simp [firstErr, unl])
            have g3 : decide ((x : Int) ≤ y) = false := decide_eq_false (by omega)
            have g3' : ((x : Int) ≤ y) = False := by simp; omega
            clear hcl hpt hx hc1 hks hxg hwb hwx hC hSW hk0 hlx
            go_wp2_with fail
            refine later_all (by kernel_rfl) (by kernel_rfl) ?_; repeat go_big_quiet_step((with_reducible exact calls_later_same (HXX.out _)))
            refine wpQuiet_nil ?_; intro w9 hb9
            have hz9 := hb9.size
            have v2 : w9.cell? ⟨w.heap.size + 1, 2, none⟩ = some (.slice (some ⟨b0, o0, none⟩) q cq) := by { rw [cellB hb9 _ _ (by first | (simp; done) | (simp; omega) | omega)]; all_goals (first | assumption | go_simp) }; have y0 : w9.cell? ⟨b0, o0 + k, none⟩ = some (.int .i64 x) := by { rw [cellB hb9 _ _ (by first | (simp; done) | (simp; omega) | omega)]; all_goals (first | assumption | go_simp) }; have g0 : w9.cell? ⟨b1, o1 + x * 3, none⟩ = some (.int .i64 x1) := by { rw [cellB hb9 _ _ (by first | (simp; done) | (simp; omega) | omega)]; all_goals (first | assumption | go_simp) }; have g1 : w9.cell? ⟨b1, o1 + x * 3 + 1, none⟩ = some (.int .i64 x2) := by { rw [cellB hb9 _ _ (by first | (simp; done) | (simp; omega) | omega)]; all_goals (first | assumption | go_simp) }; have g2 : w9.cell? ⟨b1, o1 + x * 3 + 2, none⟩ = some (.int .i64 x3) := by { rw [cellB hb9 _ _ (by first | (simp; done) | (simp; omega) | omega)]; all_goals (first | assumption | go_simp) }
            have HO9 := Lib.hid (owns_below hO.out hb9 (fun z hz => (hO.out.lt z hz).2))
            have HB9 := Lib.hid (hB.out.trans (hb9.mono hB.out.size))
            have HBX := Lib.hid (HBW.out.trans (hb9.mono HBW.out.size))
            clear hb9 hO v1 p1 q1 c0 d0 d1 d2
            go_wp2_with (at_builtin; refine wpList_append_sl _ rfl _ _ 48 rfl w8.heap.size 104 _ 3 24 Tryz.underlying48 infoDef rfl (by omega) (.slice av k cv) k _ rfl (HO9.out.alloc _) _ 1 1 [.int .i64 x1, .int .i64 x2, .int .i64 x3] rfl (SlR.lit _ _ _ _ _ 1 3 (by rfl) (by simp) rfl (by omega)) (by simp [Value.oneCell']) (by omega) (by omega) (by simp; omega) ?_)
            intro v2' w2' hown2 hgr2 hb2
            obtain ⟨av2, cv2, rfl, _, _⟩ := owns_slice hown2
            have HO2 := Lib.hid (show w2'.ownsRow w8.heap.size 104 3 (.slice av2 (k + 1) cv2) (k + 1) (ecells e3 (pick l (S.take (k + 1)))) by { rw [HT.out]; exact hown2 })
            have HB2 := Lib.hid ((HB9.out.alloc (by omega) _).trans hb2)
            clear hown2 hgr2 hb2 hB HT HO9 HB9
            go_wp2
            go_roundw
            case rel => exact ⟨k + 1, av2, cv2, by go_num, rfl, by omega, HC2, HO2, HB2⟩
            case measure => simp [intOf]; omega
          · have g3 : decide ((x : Int) ≤ y) = true := decide_eq_true (by omega)
            have g3' : ((x : Int) ≤ y) = True := by simp; omega
            clear hcl hpt hx hc1 hks hxg hwb hwx hC hSW hk0 hlx HT
            go_wp2_with fail
            refine later_all (by kernel_rfl) (by kernel_rfl) ?_; repeat go_big_quiet_step((with_reducible exact calls_later_same (HXX.out _)))
            refine wpQuiet_nil ?_; intro w9 hb9
            have HB9 := Lib.hid (HBW.out.trans (hb9.mono HBW.out.size))
            clear hb9
            go_wp2
            go_ret
            exact ⟨ret_bool (by simp), HB9.out⟩
      · have hw1 : wb = false := by simpa using hw0
        subst hw1
        clear hcl hpt hks hw0 hC hSW hwb
        generalize S.getD k 0 = x at *
        go_wp2_with fail
        refine later_all (by kernel_rfl) (by kernel_rfl) ?_; repeat go_big_quiet_step((with_reducible exact calls_later_same (HXX.out _)))
        refine wpQuiet_nil ?_; intro w9 hb9
        have HB9 := Lib.hid (HBW.out.trans (hb9.mono HBW.out.size))
        clear hb9
        go_wp2
        go_ret
        exact ⟨ret_bool (by simp), HB9.out⟩
    · obtain rfl : q = k := by omega
      have hO' := hO.out
      rw [List.take_of_length_le (by rw [HSN.out]; omega)] at hO'
      have hSE : setE m S = 0 := by
        unfold setE
        rw [firstAt_all]
        intro j _ hj
        exact hC.out j (by have := HSN.out; omega)
      obtain ⟨h1, h2, h3⟩ := HH.out
      have hPE : defsE n (pick l S) = 0 := defsE_pick h2 HLN.out hSE
      have hDE : defoE s (pick l S) = if (netE (dfm s (pick l S))).2 ≠ 0 then 22 else 0 := by
        rw [defoE, h1, HSR.out.len, hPE]; simp [firstErr]
      have HO := Lib.hid (show T3R wr av q (pick l S) from ER.of_owns (by rw [pick_len]; exact HSN.out) hO')
      have HPE := Lib.hid hPE
      have HSE := Lib.hid hSE
      have HDE := Lib.hid hDE
      have HCN := Lib.hid (fun (W : World) (hb : Below w.heap.size w W) => copyNetwork_any s a n c W (HSR.out.below hb) (by omega))
      have HDX := Lib.hid (fun (a1 a2 : Option Addr) (c1 c2 : Nat) (W : World) (g1 : T3R W a1 n s) (g2 : T3R W a2 q (pick l S)) => deformedX_any n c1 q c2 a1 a2 s (pick l S) W g1 (by omega) g2)
      have HDN := Lib.hid (show (dfm s (pick l S)).length = n by rw [dfm_len]; exact HSR.out.len)
      clear hO hO' hC hSE hPE hDE h1 h2 h3 hlt
      generalize hDD : dfm s (pick l S) = D at *
      have HDD := Lib.hid hDD
      clear hDD
      generalize defoE s (pick l S) = EO at *
      go_wp2_with fail
      refine (HCN.out _ HBW.out).mono ?_
      rintro e10 wa ⟨a10, c10, rfl, hba, ho10⟩
      have HO := Lib.hid (HO.out.below hba)
      have ht10 : T3R wa a10 n s := ER.of_owns HSR.out.len ho10
      have HB := HBW
      have hzx := hba.size
      have q0 : wa.cell? ⟨w.heap.size, 0, none⟩ = some (.slice a n c) := by { rw [cellB hba _ _ (by first | (simp; done) | (simp; omega) | omega)]; all_goals (first | assumption | go_simp) }; have p0 : wa.cell? ⟨w.heap.size + 1, 0, none⟩ = some (.slice af nf cf) := by { rw [cellB hba _ _ (by first | (simp; done) | (simp; omega) | omega)]; all_goals (first | assumption | go_simp) }; have v0 : wa.cell? ⟨w.heap.size + 1, 2, none⟩ = some (.slice aq q cq) := by { rw [cellB hba _ _ (by first | (simp; done) | (simp; omega) | omega)]; all_goals (first | assumption | go_simp) }; have l0 : w.heap.size + 1 < wa.heap.size := by { omega }; have j0 : w.heap.size < wa.heap.size := by { omega }
      have HB := Lib.hid (HB.out.trans (hba.mono HB.out.size))
      clear q1 p1 v1 l1 j1 hzx
      clear hba ho10
      go_wp2_with fail
      refine (HDX.out a10 av c10 cv _ ht10 HO.out).mono ?_
      rintro e11 wb ⟨a11, n11, c11, rfl, hbb, ht11⟩
      have hzx := hbb.size
      have q1 : wb.cell? ⟨w.heap.size, 0, none⟩ = some (.slice a n c) := by { rw [cellB hbb _ _ (by first | (simp; done) | (simp; omega) | omega)]; all_goals (first | assumption | go_simp) }; have p1 : wb.cell? ⟨w.heap.size + 1, 0, none⟩ = some (.slice af nf cf) := by { rw [cellB hbb _ _ (by first | (simp; done) | (simp; omega) | omega)]; all_goals (first | assumption | go_simp) }; have v1 : wb.cell? ⟨w.heap.size + 1, 2, none⟩ = some (.slice aq q cq) := by { rw [cellB hbb _ _ (by first | (simp; done) | (simp; omega) | omega)]; all_goals (first | assumption | go_simp) }; have l1 : w.heap.size + 1 < wb.heap.size := by { omega }; have j1 : w.heap.size < wb.heap.size := by { omega }
      have HB := Lib.hid (HB.out.trans (hbb.mono HB.out.size))
      clear q0 p0 v0 l0 j0 hzx
      clear hbb ht10
      by_cases hD0 : (netE D).2 = 0
      · have hEO := HDE.out
        rw [if_neg (by rw [hD0]; decide)] at hEO
        rw [if_pos hEO] at ht11
        subst hEO
        obtain rfl : n = n11 := by rw [← ht11.len]; exact HDN.out.symm
        have HD0 := Lib.hid hD0
        have HND := Lib.hid (fun (a' : Option Addr) (c' : Nat) (W : World) (h : T3R W a' n D) => show Calls Tryz.prog 28 #[.agg #[.slice a' n c']] W fun e' w' => e' = .returned (.int .i64 0) ∧ Below W.heap.size W w' by
          have := rNetworkErr_any D a' n c' W h
          rwa [hD0] at this)
        have HCD := Lib.hid (fun (a' : Option Addr) (c' : Nat) (W : World) (h : T3R W a' n D) => copyNetwork_any D a' n c' W h (by omega))
        have HCI := Lib.hid (fun (W : World) (hb : Below w.heap.size w W) => copyInts_any fs af nf cf W (HF.out.below hb) (by omega))
        have hRO : rsoE D fs = 0 := by unfold rsoE; rw [hD0, HH.out.2.2]; rfl
        have HRO := Lib.hid (fun (a' b' : Option Addr) (c' d' : Nat) (W : World) (g1 : T3R W a' n D) (g2 : IntsR W b' nf fs) => show Calls Tryz.prog 35 #[.agg #[.slice a' n c'], .slice b' nf d'] W fun e' w' => ∃ a' k' c', e' = .returned (.tuple #[.slice a' k' c', .int .i64 0]) ∧ Below W.heap.size W w' ∧ PairsR w' a' k' (fs.map (gPr D)) by
          have := responsesOf_any D fs a' b' n c' nf d' W g1 g2
          rw [hRO, if_pos rfl] at this
          exact this)
        have HRE := Lib.hid (show respsE (fs.map (gPr D)) = 0 from respsE_gPr hD0 HH.out.2.2)
        have HLR := Lib.hid (show (fs.map (gPr D)).length = nf by rw [List.length_map]; exact HF.out.len)
        have HT := Lib.hid ht11
        clear hD0 ht11 hRO HDE HDX
        generalize hR : fs.map (gPr D) = R at *
        have HR := Lib.hid hR
        clear hR
        go_wp2_with fail
        generalize hW : World.alloc _ _ = wc
        have hbc : Below wb.heap.size wb wc := by rw [← hW]; (repeat' (first | (with_reducible exact Below.refl _ _) | (with_reducible assumption) | (with_reducible refine Below.drewN ?_ _) | (with_reducible refine Below.alloc ?_ ?_ _) | (with_reducible refine Below.drew ?_) | (with_reducible refine Below.setCell ?_ ?_ _) | (with_reducible refine Below.step (by assumption) ?_ ?_) | (with_reducible exact And.left (by assumption)) | go_size))
        have y0 : wc.cell? ⟨wb.heap.size, 0, none⟩ = some (.slice a11 n c11) := by { rw [← hW]; clear hW; go_simp }
        have ly : wb.heap.size < wc.heap.size := by { rw [← hW]; clear hW; simp }
        obtain ⟨X9, hX9⟩ : ∃ X, X = wb.heap.size := ⟨_, rfl⟩
        have hzx := hbc.size
        have q0 : wc.cell? ⟨w.heap.size, 0, none⟩ = some (.slice a n c) := by { rw [cellB hbc _ _ (by first | (simp; done) | (simp; omega) | omega)]; all_goals (first | assumption | go_simp) }; have p0 : wc.cell? ⟨w.heap.size + 1, 0, none⟩ = some (.slice af nf cf) := by { rw [cellB hbc _ _ (by first | (simp; done) | (simp; omega) | omega)]; all_goals (first | assumption | go_simp) }; have v0 : wc.cell? ⟨w.heap.size + 1, 2, none⟩ = some (.slice aq q cq) := by { rw [cellB hbc _ _ (by first | (simp; done) | (simp; omega) | omega)]; all_goals (first | assumption | go_simp) }; have l0 : w.heap.size + 1 < wc.heap.size := by { omega }; have j0 : w.heap.size < wc.heap.size := by { omega }
        have HB := Lib.hid (HB.out.trans (hbc.mono HB.out.size))
        clear q1 p1 v1 l1 j1 hzx
        have HT := Lib.hid (HT.out.below hbc)
        rw [← hX9] at y0 ly ⊢
        clear hW hbc hX9
        refine (HND.out a11 c11 _ HT.out).mono ?_
        rintro e12 wd ⟨rfl, hbd⟩
        have hzd := hbd.size
        have y1 : wd.cell? ⟨X9, 0, none⟩ = some (.slice a11 n c11) := by { rw [cellB hbd _ _ (by first | (simp; done) | (simp; omega) | omega)]; all_goals (first | assumption | go_simp) }; have ly1 : X9 < wd.heap.size := by { omega }
        have hzx := hbd.size
        have q1 : wd.cell? ⟨w.heap.size, 0, none⟩ = some (.slice a n c) := by { rw [cellB hbd _ _ (by first | (simp; done) | (simp; omega) | omega)]; all_goals (first | assumption | go_simp) }; have p1 : wd.cell? ⟨w.heap.size + 1, 0, none⟩ = some (.slice af nf cf) := by { rw [cellB hbd _ _ (by first | (simp; done) | (simp; omega) | omega)]; all_goals (first | assumption | go_simp) }; have v1 : wd.cell? ⟨w.heap.size + 1, 2, none⟩ = some (.slice aq q cq) := by { rw [cellB hbd _ _ (by first | (simp; done) | (simp; omega) | omega)]; all_goals (first | assumption | go_simp) }; have l1 : w.heap.size + 1 < wd.heap.size := by { omega }; have j1 : w.heap.size < wd.heap.size := by { omega }
        have HB := Lib.hid (HB.out.trans (hbd.mono HB.out.size))
        clear q0 p0 v0 l0 j0 hzx
        have HT := Lib.hid (HT.out.below hbd)
        clear hbd y0 ly
        go_wp2_with fail
        refine wp_region_laterM (B := wd.heap.size) [(true, 0), (true, 2), (true, 3), (true, 4), (false, 1), (false, 5), (false, 6), (true, 7), (true, 8), (true, 9), (true, 10), (true, 11)] (by kernel_rfl) (by kernel_rfl) ?_; simp only [opsOf, List.filterMap_cons, List.filterMap_nil, List.getElem?_toArray, List.getElem?_cons_zero, List.getElem?_cons_succ, Option.map_some]
        repeat (refine mix_head ?_; (show wpQuiet _ _ _ _ (_ :: _) _; go_big_quiet_step (fail)); refine wpQuiet_nil ?_)
        refine mix_tail ?_; go_wp2_with fail
        refine (HCD.out a11 c11 _ (HT.out.below (Below.refl wd.heap.size wd).drew)).mono ?_
        rintro e13 we ⟨a13, c13, rfl, hbe, hoe⟩
        have HX := Lib.hid ((Below.refl wd.heap.size wd).drew.trans hbe)
        have HT13 := Lib.hid (show T3R we a13 n D from ER.of_owns HDN.out hoe)
        clear hbe hoe
        go_wp2_with fail
        refine tailL_mk HX.out ?_
        refine mix_tail ?_; go_wp2_with fail
        refine (HCI.out _ (HB.out.trans (HX.out.mono HB.out.size))).mono ?_
        rintro e14 wf ⟨a14, c14, rfl, hbf, hof⟩
        have HX := Lib.hid (HX.out.trans (hbf.mono HX.out.size))
        have HT13 := Lib.hid (HT13.out.below hbf)
        have HT14 := Lib.hid (show IntsR wf a14 nf fs from SlR.of_owns hof)
        clear hbf hof
        go_wp2_with fail
        refine tailL_mk HX.out ?_
        refine mix_tail ?_; go_wp2_with fail
        refine (HRO.out a13 a14 c13 c14 _ HT13.out HT14.out).mono ?_
        rintro e15 wg ⟨a15, k15, c15, rfl, hbg, hpg⟩
        have HX := Lib.hid (HX.out.trans (hbg.mono HX.out.size))
        obtain rfl : nf = k15 := by rw [← hpg.len]; exact HLR.out.symm
        have HP := Lib.hid hpg
        clear hbg hpg HT13 HT14
        go_wp2_with fail
        refine tailL_mk HX.out ?_
        repeat (refine mix_head ?_; (show wpQuiet _ _ _ _ (_ :: _) _; go_big_quiet_step (fail)); refine wpQuiet_nil ?_)
        refine mix_nil ?_
        have hbx := HX.out
        have hzx := hbx.size
        have q0 : wg.cell? ⟨w.heap.size, 0, none⟩ = some (.slice a n c) := by { rw [cellB hbx _ _ (by first | (simp; done) | (simp; omega) | omega)]; all_goals (first | assumption | go_simp) }; have p0 : wg.cell? ⟨w.heap.size + 1, 0, none⟩ = some (.slice af nf cf) := by { rw [cellB hbx _ _ (by first | (simp; done) | (simp; omega) | omega)]; all_goals (first | assumption | go_simp) }; have v0 : wg.cell? ⟨w.heap.size + 1, 2, none⟩ = some (.slice aq q cq) := by { rw [cellB hbx _ _ (by first | (simp; done) | (simp; omega) | omega)]; all_goals (first | assumption | go_simp) }; have l0 : w.heap.size + 1 < wg.heap.size := by { omega }; have j0 : w.heap.size < wg.heap.size := by { omega }
        have HB := Lib.hid (HB.out.trans (hbx.mono HB.out.size))
        clear q1 p1 v1 l1 j1 hzx
        clear hbx HX HRO HCI HCD HND
        go_wp2_with fail
        refine (rResponsesErr_any R a15 nf c15 _ HP.out).mono ?_
        rintro e16 wh ⟨rfl, hbh⟩
        have HP := Lib.hid (HP.out.below hbh)
        rw [HRE.out]
        have hzx := hbh.size
        have q1 : wh.cell? ⟨w.heap.size, 0, none⟩ = some (.slice a n c) := by { rw [cellB hbh _ _ (by first | (simp; done) | (simp; omega) | omega)]; all_goals (first | assumption | go_simp) }; have p1 : wh.cell? ⟨w.heap.size + 1, 0, none⟩ = some (.slice af nf cf) := by { rw [cellB hbh _ _ (by first | (simp; done) | (simp; omega) | omega)]; all_goals (first | assumption | go_simp) }; have v1 : wh.cell? ⟨w.heap.size + 1, 2, none⟩ = some (.slice aq q cq) := by { rw [cellB hbh _ _ (by first | (simp; done) | (simp; omega) | omega)]; all_goals (first | assumption | go_simp) }; have l1 : w.heap.size + 1 < wh.heap.size := by { omega }; have j1 : w.heap.size < wh.heap.size := by { omega }
        have HB := Lib.hid (HB.out.trans (hbh.mono HB.out.size))
        clear q0 p0 v0 l0 j0 hzx
        clear hbh
        go_wp2_with fail
        generalize hW : World.alloc _ _ = wi
        have hbi : Below wh.heap.size wh wi := by rw [← hW]; (repeat' (first | (with_reducible exact Below.refl _ _) | (with_reducible assumption) | (with_reducible refine Below.drewN ?_ _) | (with_reducible refine Below.alloc ?_ ?_ _) | (with_reducible refine Below.drew ?_) | (with_reducible refine Below.setCell ?_ ?_ _) | (with_reducible refine Below.step (by assumption) ?_ ?_) | (with_reducible exact And.left (by assumption)) | go_size))
        have y0 : wi.cell? ⟨wh.heap.size, 0, none⟩ = some (.slice af nf cf) := by { rw [← hW]; clear hW; go_simp }
        have z0 : wi.cell? ⟨wh.heap.size, 1, none⟩ = some (.slice a15 nf c15) := by { rw [← hW]; clear hW; go_simp }
        have ly : wh.heap.size < wi.heap.size := by { rw [← hW]; clear hW; simp }
        obtain ⟨XM, hXM⟩ : ∃ X, X = wh.heap.size := ⟨_, rfl⟩
        have hzx := hbi.size
        have q0 : wi.cell? ⟨w.heap.size, 0, none⟩ = some (.slice a n c) := by { rw [cellB hbi _ _ (by first | (simp; done) | (simp; omega) | omega)]; all_goals (first | assumption | go_simp) }; have p0 : wi.cell? ⟨w.heap.size + 1, 0, none⟩ = some (.slice af nf cf) := by { rw [cellB hbi _ _ (by first | (simp; done) | (simp; omega) | omega)]; all_goals (first | assumption | go_simp) }; have v0 : wi.cell? ⟨w.heap.size + 1, 2, none⟩ = some (.slice aq q cq) := by { rw [cellB hbi _ _ (by first | (simp; done) | (simp; omega) | omega)]; all_goals (first | assumption | go_simp) }; have l0 : w.heap.size + 1 < wi.heap.size := by { omega }; have j0 : w.heap.size < wi.heap.size := by { omega }
        have HB := Lib.hid (HB.out.trans (hbi.mono HB.out.size))
        clear q1 p1 v1 l1 j1 hzx
        have HP := Lib.hid (HP.out.below hbi)
        rw [← hXM] at y0 z0 ly ⊢
        clear hW hbi hXM y1 ly1
        obtain ⟨TS, hTS, hTm⟩ := setE_nats HSE.out
        have hASK : askE s l fs R = 0 := by
          rw [askE_cases, HH.out.1, HSR.out.len, HH.out.2.1, HH.out.2.2, HRE.out, HF.out.len, HLR.out]; simp
        have hpT : expB s l fs R (nats TS) = true := by
          rw [hTS]; unfold expB; rw [HDD.out, HR.out, HD0.out]; simp
        rw [HSN.out] at hTm
        obtain ⟨jj, hj0, hjq, hxs, hne⟩ := xpS_found (p := fun X => expB s l fs R (nats X)) (m + 1) 0 q TS hTm hpT (Nat.zero_le _) (by have := setE_few HSE.out; have := HSN.out; omega)
        obtain ⟨LL, hLL⟩ : ∃ LL, LL = (ext m jj 0).filter (fun X => expB s l fs R (nats X)) := ⟨_, rfl⟩
        rw [← hLL] at hxs hne
        have HXS := Lib.hid (show xplE s l fs R = (LL, 0) by unfold xplE; rw [if_neg (by rw [hASK]; decide), HLN.out]; exact hxs)
        have HNE := Lib.hid hne
        have HEV := Lib.hid (show ∀ X ∈ LL, X.length = jj ∧ expE s l fs R (nats X) = (true, 0) from fun X hX => by
          rw [hLL] at hX
          obtain ⟨h1, h2⟩ := List.mem_filter.1 hX
          refine ⟨(ext_mem _ _ _ _).1 h1 |>.1, ?_⟩
          unfold expE
          rw [if_neg (by rw [hASK]; decide), HLN.out, ext_setE h1, if_neg (by decide)]
          exact congrArg (fun b => (b, (0 : Int))) h2)
        have HL64 := Lib.hid (show LL.length ≤ 64 by
          rw [hLL]
          exact Nat.le_trans (List.length_filter_le _ _) (ext_le m k2 jj (by have := setE_few HSE.out; have := HSN.out; omega)))
        have HJQ := Lib.hid hjq
        have HCNN := Lib.hid (fun (W : World) (hb : Below w.heap.size w W) => copyDeformations_any l ap m cm W (HL.out.below hb) (by omega))
        have HCM := Lib.hid (fun (W : World) (hb : Below w.heap.size w W) (h2 : PairsR W a15 nf R) => copyMeasured_any fs R af a15 nf cf nf c15 W (HF.out.below hb) h2 (by omega) (by omega))
        have HXP := Lib.hid (fun (a1 a2 a3 a4 : Option Addr) (c1 c2 c3 c4 : Nat) (W : World) (g1 : T3R W a1 n s) (g2 : T3R W a2 m l) (g3 : IntsR W a3 nf fs) (g4 : PairsR W a4 nf R) => show Calls Tryz.prog 43 #[.agg #[.slice a1 n c1], .slice a2 m c2, .agg #[.slice a3 nf c3, .slice a4 nf c4]] W fun e' w' => ∃ a' k' c', e' = .returned (.tuple #[.slice a' k' c', .int .i64 0]) ∧ Below W.heap.size W w' ∧ RowsI w' a' k' LL by
          have := explanationsOf_any n c1 m c2 nf c3 nf c4 a1 a2 a3 a4 s l fs R W g1 g2 g3 g4
          rw [HXS.out] at this
          exact this)
        clear hTS hTm hASK hpT hj0 hjq hxs hne hLL
        go_wp2_with fail
        refine wp_region_laterM (B := wi.heap.size) [(true, 0), (true, 2), (true, 4), (false, 1), (false, 3), (false, 5), (false, 6), (true, 7), (true, 8), (true, 9), (true, 10), (true, 11)] (by kernel_rfl) (by kernel_rfl) ?_; simp only [opsOf, List.filterMap_cons, List.filterMap_nil, List.getElem?_toArray, List.getElem?_cons_zero, List.getElem?_cons_succ, Option.map_some]
        repeat (refine mix_head ?_; (show wpQuiet _ _ _ _ (_ :: _) _; go_big_quiet_step (fail)); refine wpQuiet_nil ?_)
        refine mix_tail ?_; go_wp2_with fail
        refine (HCN.out _ (HB.out.trans (Below.mono (show Below wi.heap.size wi _ by (repeat' (first | (with_reducible exact Below.refl _ _) | (with_reducible assumption) | (with_reducible refine Below.drewN ?_ _) | (with_reducible refine Below.alloc ?_ ?_ _) | (with_reducible refine Below.drew ?_) | (with_reducible refine Below.setCell ?_ ?_ _) | (with_reducible refine Below.step (by assumption) ?_ ?_) | (with_reducible exact And.left (by assumption)) | go_size))) HB.out.size))).mono ?_
        rintro e17 wj ⟨a17, c17, rfl, hbx, hox⟩
        have HX := Lib.hid ((Below.refl wi.heap.size wi).drew.trans hbx)
        have HT1 := Lib.hid (show T3R wj a17 n s from ER.of_owns HSR.out.len hox)
        clear hbx hox
        go_wp2_with fail
        refine tailL_mk HX.out ?_
        refine mix_tail ?_; go_wp2_with fail
        refine (HCNN.out _ (HB.out.trans (HX.out.mono HB.out.size))).mono ?_
        rintro e18 wk ⟨a18, c18, rfl, hbx, htx⟩
        have HX := Lib.hid (HX.out.trans (hbx.mono HX.out.size))
        have HT1 := Lib.hid (HT1.out.below hbx)
        have HT2 := Lib.hid htx
        clear hbx htx
        go_wp2_with fail
        refine tailL_mk HX.out ?_
        refine mix_tail ?_; go_wp2_with fail
        refine (HCM.out _ (HB.out.trans (HX.out.mono HB.out.size)) (HP.out.below HX.out)).mono ?_
        rintro e19 wm ⟨a19, c19, a20, c20, rfl, hbx, hix, hpx⟩
        have HX := Lib.hid (HX.out.trans (hbx.mono HX.out.size))
        have HT1 := Lib.hid (HT1.out.below hbx)
        have HT2 := Lib.hid (HT2.out.below hbx)
        have HT3 := Lib.hid hix
        have HT4 := Lib.hid hpx
        clear hbx hix hpx
        go_wp2_with fail
        refine tailL_mk HX.out ?_
        refine mix_tail ?_; go_wp2_with fail
        refine (HXP.out a17 a18 a19 a20 c17 c18 c19 c20 _ HT1.out HT2.out HT3.out HT4.out).mono ?_
        rintro e21 wn ⟨a21, k21, c21, rfl, hbn, hrn⟩
        have HX := Lib.hid (HX.out.trans (hbn.mono HX.out.size))
        have HLN2 := Lib.hid hrn.len
        have HRW := Lib.hid hrn
        clear hbn hrn HT1 HT2 HT3 HT4
        go_wp2_with fail
        refine tailL_mk HX.out ?_
        repeat (refine mix_head ?_; (show wpQuiet _ _ _ _ (_ :: _) _; go_big_quiet_step (fail)); refine wpQuiet_nil ?_)
        refine mix_nil ?_
        have hbx := HX.out
        have hzx := hbx.size
        have y1 : wn.cell? ⟨XM, 0, none⟩ = some (.slice af nf cf) := by { rw [cellB hbx _ _ (by first | (simp; done) | (simp; omega) | omega)]; all_goals (first | assumption | go_simp) }; have z1 : wn.cell? ⟨XM, 1, none⟩ = some (.slice a15 nf c15) := by { rw [cellB hbx _ _ (by first | (simp; done) | (simp; omega) | omega)]; all_goals (first | assumption | go_simp) }; have ly1 : XM < wn.heap.size := by { omega }
        have HP := Lib.hid (HP.out.below hbx)
        clear hzx y0 z0 ly
        have hzx := hbx.size
        have q1 : wn.cell? ⟨w.heap.size, 0, none⟩ = some (.slice a n c) := by { rw [cellB hbx _ _ (by first | (simp; done) | (simp; omega) | omega)]; all_goals (first | assumption | go_simp) }; have p1 : wn.cell? ⟨w.heap.size + 1, 0, none⟩ = some (.slice af nf cf) := by { rw [cellB hbx _ _ (by first | (simp; done) | (simp; omega) | omega)]; all_goals (first | assumption | go_simp) }; have v1 : wn.cell? ⟨w.heap.size + 1, 2, none⟩ = some (.slice aq q cq) := by { rw [cellB hbx _ _ (by first | (simp; done) | (simp; omega) | omega)]; all_goals (first | assumption | go_simp) }; have l1 : w.heap.size + 1 < wn.heap.size := by { omega }; have j1 : w.heap.size < wn.heap.size := by { omega }
        have HB := Lib.hid (HB.out.trans (hbx.mono HB.out.size))
        clear q0 p0 v0 l0 j0 hzx
        clear hbx HX HXP HD0 HDD HR HRE HSE
        have hk64 : k21 ≤ 64 := by rw [← HLN2.out]; exact HL64.out
        have hk0 : 0 < k21 := by rw [← HLN2.out]; exact List.length_pos_iff.2 HNE.out
        have g1 : ((k21 : Int) == 0) = false := by simp; omega
        have g2 : decide (64 < (k21 : Int)) = false := decide_eq_false (by omega)
        have g2' : (64 < (k21 : Int)) = False := by simp; omega
        go_wp2_with fail
        go_loopw [16] (fun i wr => ∃ k : Nat, i = .int .i64 k ∧ k ≤ k21 ∧ Hid (Below wn.heap.size wn wr)) (fun i _ => k21 - (intOf i).toNat)
        case atStart => exact ⟨0, rfl, Nat.zero_le _, Lib.hid (Below.refl _ _)⟩
        case round =>
          obtain ⟨k, rfl, hk, hB2⟩ := hrel
          have i0 : (0 : Int) ≤ (k : Int) := by omega
          have hb2 := hB2.out
          have hz2 := hb2.size
          have y0 : wr.cell? ⟨XM, 0, none⟩ = some (.slice af nf cf) := by { rw [cellB hb2 _ _ (by first | (simp; done) | (simp; omega) | omega)]; all_goals (first | assumption | go_simp) }; have z0 : wr.cell? ⟨XM, 1, none⟩ = some (.slice a15 nf c15) := by { rw [cellB hb2 _ _ (by first | (simp; done) | (simp; omega) | omega)]; all_goals (first | assumption | go_simp) }; have ly : XM < wr.heap.size := by { omega }
          have HP := Lib.hid (HP.out.below hb2)
          have HRY := Lib.hid (HRW.out.below hb2)
          have hzx := hb2.size
          have q0 : wr.cell? ⟨w.heap.size, 0, none⟩ = some (.slice a n c) := by { rw [cellB hb2 _ _ (by first | (simp; done) | (simp; omega) | omega)]; all_goals (first | assumption | go_simp) }; have p0 : wr.cell? ⟨w.heap.size + 1, 0, none⟩ = some (.slice af nf cf) := by { rw [cellB hb2 _ _ (by first | (simp; done) | (simp; omega) | omega)]; all_goals (first | assumption | go_simp) }; have v0 : wr.cell? ⟨w.heap.size + 1, 2, none⟩ = some (.slice aq q cq) := by { rw [cellB hb2 _ _ (by first | (simp; done) | (simp; omega) | omega)]; all_goals (first | assumption | go_simp) }; have l0 : w.heap.size + 1 < wr.heap.size := by { omega }; have j0 : w.heap.size < wr.heap.size := by { omega }
          have HB := Lib.hid (HB.out.trans (hb2.mono HB.out.size))
          clear q1 p1 v1 l1 j1 hzx
          clear hz2 hb2
          by_cases hlt : k < k21
          · have i1 : (k : Int) < (k21 : Int) := by omega
            have i2 : (0 : Int) < (k21 : Int) := by omega
            obtain ⟨b, o, X, pX, mX, cX, rfl, hX, hc, hi⟩ := HRY.out.at hlt
            obtain ⟨b', o', X0, pX0, m0, cX0, ea, hX0, hc0, hi0⟩ := HRY.out.at hk0
            simp only [Option.some.injEq, Addr.mk.injEq] at ea
            obtain ⟨rfl, rfl, _⟩ := ea
            have hbk := World.block_lt_of_cell? wr _ hc
            have h1 := HEV.out X (List.mem_of_getElem? hX)
            have h2 := HEV.out X0 (List.mem_of_getElem? hX0)
            obtain rfl : jj = mX := by have := hi.len; unfold nats at this; simp at this; omega
            obtain rfl : jj = m0 := by have := hi0.len; unfold nats at this; simp at this; omega
            have h5 := HJQ.out
            have g3 : decide ((q : Int) < (jj : Int)) = false := decide_eq_false (by omega)
            have g3' : ((q : Int) < (jj : Int)) = False := by simp; omega
            have hq8 : jj ≤ 8 := by omega
            rw [Nat.add_zero] at hc0
            have HIX := Lib.hid hi
            have HEX := Lib.hid h1.2
            clear h1 h2 h5 hi hi0 hX hX0
            simp only at hbk
            go_wp2_with fail
            refine later_all (by kernel_rfl) (by kernel_rfl) ?_; repeat go_big_quiet_step(fail)
            refine wpQuiet_nil ?_; intro w9 hb9
            have hz9 := hb9.size
            have hb9 : Below wr.heap.size wr w9 := hb9
            have y1 : w9.cell? ⟨XM, 0, none⟩ = some (.slice af nf cf) := by { rw [cellB hb9 _ _ (by first | (simp; done) | (simp; omega) | omega)]; all_goals (first | assumption | go_simp) }; have z1 : w9.cell? ⟨XM, 1, none⟩ = some (.slice a15 nf c15) := by { rw [cellB hb9 _ _ (by first | (simp; done) | (simp; omega) | omega)]; all_goals (first | assumption | go_simp) }; have hc1 : w9.cell? ⟨b, o + k, none⟩ = some (.slice pX jj cX) := by { rw [cellB hb9 _ _ (by first | (simp; done) | (simp; omega) | omega)]; all_goals (first | assumption | go_simp) }; have ly1 : XM < w9.heap.size := by { omega }; have hbk1 : b < w9.heap.size := by { omega }
            have HP := Lib.hid (HP.out.below hb9)
            have HB9 := Lib.hid (hB2.out.trans (hb9.mono hB2.out.size))
            have HIX := Lib.hid (HIX.out.below hb9)
            have hzx := hb9.size
            have q1 : w9.cell? ⟨w.heap.size, 0, none⟩ = some (.slice a n c) := by { rw [cellB hb9 _ _ (by first | (simp; done) | (simp; omega) | omega)]; all_goals (first | assumption | go_simp) }; have p1 : w9.cell? ⟨w.heap.size + 1, 0, none⟩ = some (.slice af nf cf) := by { rw [cellB hb9 _ _ (by first | (simp; done) | (simp; omega) | omega)]; all_goals (first | assumption | go_simp) }; have v1 : w9.cell? ⟨w.heap.size + 1, 2, none⟩ = some (.slice aq q cq) := by { rw [cellB hb9 _ _ (by first | (simp; done) | (simp; omega) | omega)]; all_goals (first | assumption | go_simp) }; have l1 : w.heap.size + 1 < w9.heap.size := by { omega }; have j1 : w.heap.size < w9.heap.size := by { omega }
            have HB := Lib.hid (HB.out.trans (hb9.mono HB.out.size))
            clear q0 p0 v0 l0 j0 hzx
            clear hb9 hz9 y0 z0 ly hc hc0 hbk
            go_wp2_with fail
            refine wp_region_laterM (B := w9.heap.size) [(true, 0), (true, 2), (true, 4), (true, 6), (true, 7), (true, 8), (true, 9), (false, 1), (false, 3), (false, 5), (false, 10), (true, 11), (false, 12), (true, 13), (true, 14), (true, 15), (true, 16), (true, 17)] (by kernel_rfl) (by kernel_rfl) ?_; simp only [opsOf, List.filterMap_cons, List.filterMap_nil, List.getElem?_toArray, List.getElem?_cons_zero, List.getElem?_cons_succ, Option.map_some]
            repeat (refine mix_head ?_; (show wpQuiet _ _ _ _ (_ :: _) _; go_big_quiet_step (fail)); refine wpQuiet_nil ?_)
            refine mix_tail ?_; go_wp2_with fail
            refine (HCN.out _ (HB.out.trans (Below.mono (show Below w9.heap.size w9 _ by (repeat' (first | (with_reducible exact Below.refl _ _) | (with_reducible assumption) | (with_reducible refine Below.drewN ?_ _) | (with_reducible refine Below.alloc ?_ ?_ _) | (with_reducible refine Below.drew ?_) | (with_reducible refine Below.setCell ?_ ?_ _) | (with_reducible refine Below.step (by assumption) ?_ ?_) | (with_reducible exact And.left (by assumption)) | go_size))) HB.out.size))).mono ?_
            rintro e17 wj ⟨a17, c17, rfl, hbx, hox⟩
            have HX := Lib.hid ((Below.refl w9.heap.size w9).drew.trans hbx)
            have HT1 := Lib.hid (show T3R wj a17 n s from ER.of_owns HSR.out.len hox)
            clear hbx hox
            go_wp2_with fail
            refine tailL_mk HX.out ?_
            refine mix_tail ?_; go_wp2_with fail
            refine (HCNN.out _ (HB.out.trans (HX.out.mono HB.out.size))).mono ?_
            rintro e18 wk ⟨a18, c18, rfl, hbx, htx⟩
            have HX := Lib.hid (HX.out.trans (hbx.mono HX.out.size))
            have HT1 := Lib.hid (HT1.out.below hbx)
            have HT2 := Lib.hid htx
            clear hbx htx
            go_wp2_with fail
            refine tailL_mk HX.out ?_
            refine mix_tail ?_; go_wp2_with fail
            refine (HCM.out _ (HB.out.trans (HX.out.mono HB.out.size)) (HP.out.below HX.out)).mono ?_
            rintro e19 wm ⟨a19, c19, a20, c20, rfl, hbx, hix, hpx⟩
            have HX := Lib.hid (HX.out.trans (hbx.mono HX.out.size))
            have HT1 := Lib.hid (HT1.out.below hbx)
            have HT2 := Lib.hid (HT2.out.below hbx)
            have HT3 := Lib.hid hix
            have HT4 := Lib.hid hpx
            clear hbx hix hpx
            go_wp2_with fail
            refine tailL_mk HX.out ?_
            refine mix_tail ?_; go_wp2_with fail
            refine (copyInts_any (nats X) pX jj cX _ (HIX.out.below HX.out) (by omega)).mono ?_
            rintro e20 wo ⟨a22, c22, rfl, hbo, hoo⟩
            have HX := Lib.hid (HX.out.trans (hbo.mono HX.out.size))
            have HT1 := Lib.hid (HT1.out.below hbo)
            have HT2 := Lib.hid (HT2.out.below hbo)
            have HT3 := Lib.hid (HT3.out.below hbo)
            have HT4 := Lib.hid (HT4.out.below hbo)
            have HT5 := Lib.hid (show IntsR wo a22 jj (nats X) from SlR.of_owns hoo)
            clear hbo hoo
            go_wp2_with fail
            refine tailL_mk HX.out ?_
            repeat (refine mix_head ?_; (show wpQuiet _ _ _ _ (_ :: _) _; go_big_quiet_step (fail)); refine wpQuiet_nil ?_)
            refine mix_tail ?_; go_wp2_with fail
            refine (explainsX_any n c17 m c18 nf c19 nf c20 jj c22 a17 a18 a19 a20 a22 s l fs R (nats X) _ HT1.out HT2.out HT3.out HT4.out HT5.out).mono ?_
            rintro e21 wq ⟨rfl, hbq⟩
            have HX := Lib.hid (HX.out.trans (hbq.mono HX.out.size))
            rw [HEX.out]
            clear hbq HT1 HT2 HT3 HT4 HT5
            go_wp2_with fail
            refine tailL_mk HX.out ?_
            repeat (refine mix_head ?_; (show wpQuiet _ _ _ _ (_ :: _) _; go_big_quiet_step (fail)); refine wpQuiet_nil ?_)
            refine mix_nil ?_
            go_wp2
            go_roundw
            case rel => exact ⟨k + 1, by go_num, by omega, Lib.hid (HB9.out.trans (HX.out.mono HB9.out.size))⟩
            case measure => simp [intOf]; omega
          · go_wp2
            go_ret
            exact ⟨ret_bool (by simp), HB.out⟩
      · have hEO := HDE.out
        rw [if_pos hD0] at hEO
        rw [if_neg (by rw [hEO]; decide)] at ht11
        obtain rfl : n11 = 0 := by have := ht11.len; simpa using this.symm
        subst hEO
        clear hD0 ht11 HDE HDX
        go_wp2
        go_ret
        exact ⟨ret_bool (by simp), HB.out.alloc HB.out.size _⟩
theorem riv_walk (s : List T3) (a : Option Addr) (n c : Nat) (l : List T3) (ap : Option Addr) (m cm : Nat) (fs : List Int) (af : Option Addr) (nf cf : Nat) (rs : List (Int × Int)) (ar : Option Addr) (nr cr : Nat) (S : List Int) (aq : Option Addr) (q cq : Nat) (w : World) (hs : T3R w a n s) (hl : T3R w ap m l) (hf : IntsR w af nf fs) (_ : PairsR w ar nr rs) (hS : IntsR w aq q S) :
    Calls Tryz.prog 8 #[.agg #[.slice a n c], .slice ap m cm, .agg #[.slice af nf cf, .slice ar nr cr, .slice aq q cq]] w fun e' w' => e' = .returned (.bool true) ∧ Below w.heap.size w w' := by
  by_cases h : (netE s).2 = 0 ∧ defsE n l = 0 ∧ freE fs = 0 ∧ q ≤ 8
  · exact riv_main n c m cm nf cf nr cr q cq a ap af ar aq s l fs S w hs hl hf hS h.1 h.2.1 h.2.2.1 h.2.2.2
  · exact riv_out n c m cm nf cf nr cr q cq a ap af ar aq s l fs S w hs hl hf hS h
end Go.Proofs.YtkphbibonagkfaaGreat
