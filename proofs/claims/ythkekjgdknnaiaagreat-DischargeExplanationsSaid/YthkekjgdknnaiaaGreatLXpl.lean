import Derived.Test.YthkekjgdknnaiaaGreatDAwk
import Derived.Test.YthkekjgdknnaiaaGreatDXpe
import Derived.Test.YthkekjgdknnaiaaGreatMDRespX
import Derived.Test.YthkekjgdknnaiaaGreatXplP
/- The explanations of measured responses: the statement's function. -/
namespace Go.Proofs.YthkekjgdknnaiaaGreat
open Go.RowKit
set_option linter.unusedVariables false

theorem firstAt_at {f : Nat → Int} {k : Nat} (hf : f k ≠ 0) : ∀ m j, j ≤ k → k < j + m → (∀ i, j ≤ i → i < k → f i = 0) → firstAt f m j = ((k : Int), f k)
  | 0, j, h1, h2, _ => by omega
  | m + 1, j, h1, h2, h => by
    unfold firstAt
    by_cases hj : j = k
    · subst hj; rw [if_pos hf]
    · rw [if_neg (by rw [h j (Nat.le_refl _) (by omega)]; exact fun h => h rfl)]
      exact firstAt_at hf m (j + 1) (by omega) (by omega) (fun i h3 h4 => h i (by omega) h4)
theorem setE_at {m : Nat} {S : List Int} {k : Nat} (hk : k < S.length) (h : ∀ j, j < k → clE m S j = 0) (hf : clE m S k ≠ 0) : setE m S = clE m S k := by
  unfold setE
  rw [firstAt_at hf _ _ (Nat.zero_le _) (by omega) (fun i _ hi => h i hi)]
set_option maxHeartbeats 2000000 in
set_option maxRecDepth 100000 in
theorem xpl_few (n c m cm nf cf nr cr q cq : Nat) (a ap af ar aq : Option Addr) (s l : List T3) (fs S : List Int) (rs : List (Int × Int)) (w : World) (hs : T3R w a n s) (hl : T3R w ap m l) (hf : IntsR w af nf fs) (hr : PairsR w ar nr rs) (hS : IntsR w aq q S)
    (h : ¬ (n ≤ 5 ∧ m ≤ 8 ∧ nf ≤ 10 ∧ nr ≤ 10 ∧ q ≤ 8)) :
    Calls Tryz.prog 3 #[.agg #[.slice a n c], .slice ap m cm, .agg #[.slice af nf cf, .slice ar nr cr, .slice aq q cq]] w fun e' w' => e' = .returned (.bool true) ∧ Below w.heap.size w w' := by
  have hn := hs.small
  have hm := hl.small
  have hnf := hf.small
  have hnr := hr.small
  have hq := hS.small
  have HFS := Lib.hid (fun (W : World) => fewSections9_any a n c W hn)
  clear hs hl hf hr hS
  by_cases h1 : n ≤ 5
  · rw [decide_eq_true h1] at HFS
    by_cases h2 : m ≤ 8
    · have g2 : decide (8 < (m : Int)) = false := decide_eq_false (by omega)
      have g2' : (8 < (m : Int)) = False := by simp; omega
      by_cases h3 : nf ≤ 10
      · have g3 : decide (10 < (nf : Int)) = false := decide_eq_false (by omega)
        have g3' : (10 < (nf : Int)) = False := by simp; omega
        by_cases h4 : nr ≤ 10
        · have g4 : decide (10 < (nr : Int)) = false := decide_eq_false (by omega)
          have g4' : (10 < (nr : Int)) = False := by simp; omega
          have h5 : ¬ q ≤ 8 := fun h5 => h ⟨h1, h2, h3, h4, h5⟩
          have g5 : decide (8 < (q : Int)) = true := decide_eq_true (by omega)
          have g5' : (8 < (q : Int)) = True := by simp; omega
          clear h
          go_enter Tryz.func3, Tryz.ntmps3
          go_wp2_with fail
          generalize hW : World.alloc _ _ = w4
          have hb4 : Below w.heap.size w w4 := by rw [← hW]; (repeat' (first | (with_reducible exact Below.refl _ _) | (with_reducible assumption) | (with_reducible refine Below.drewN ?_ _) | (with_reducible refine Below.alloc ?_ ?_ _) | (with_reducible refine Below.drew ?_) | (with_reducible refine Below.setCell ?_ ?_ _) | (with_reducible refine Below.step (by assumption) ?_ ?_) | (with_reducible exact And.left (by assumption)) | go_size))
          have q0 : w4.cell? ⟨w.heap.size, 0, none⟩ = some (.slice a n c) := by { rw [← hW]; clear hW; go_simp }
          have p0 : w4.cell? ⟨w.heap.size + 1, 0, none⟩ = some (.slice af nf cf) := by { rw [← hW]; clear hW; go_simp }
          have r0 : w4.cell? ⟨w.heap.size + 1, 1, none⟩ = some (.slice ar nr cr) := by { rw [← hW]; clear hW; go_simp }
          have v0 : w4.cell? ⟨w.heap.size + 1, 2, none⟩ = some (.slice aq q cq) := by { rw [← hW]; clear hW; go_simp }
          have l0 : w.heap.size + 1 < w4.heap.size := by { rw [← hW]; clear hW; simp }
          have j0 : w.heap.size < w4.heap.size := by omega
          have HB := Lib.hid hb4
          clear hW hb4
          refine (awake9_any _).mono ?_
          rintro e5 w5 ⟨rfl, hb5⟩
          have hzx := hb5.size
          have q1 : w5.cell? ⟨w.heap.size, 0, none⟩ = some (.slice a n c) := by { rw [cellB hb5 _ _ (by first | (simp; done) | (simp; omega) | omega)]; all_goals (first | assumption | go_simp) }; have p1 : w5.cell? ⟨w.heap.size + 1, 0, none⟩ = some (.slice af nf cf) := by { rw [cellB hb5 _ _ (by first | (simp; done) | (simp; omega) | omega)]; all_goals (first | assumption | go_simp) }; have r1 : w5.cell? ⟨w.heap.size + 1, 1, none⟩ = some (.slice ar nr cr) := by { rw [cellB hb5 _ _ (by first | (simp; done) | (simp; omega) | omega)]; all_goals (first | assumption | go_simp) }; have v1 : w5.cell? ⟨w.heap.size + 1, 2, none⟩ = some (.slice aq q cq) := by { rw [cellB hb5 _ _ (by first | (simp; done) | (simp; omega) | omega)]; all_goals (first | assumption | go_simp) }; have l1 : w.heap.size + 1 < w5.heap.size := by { omega }; have j1 : w.heap.size < w5.heap.size := by { omega }
          have HB := Lib.hid (HB.out.trans (hb5.mono HB.out.size))
          clear q0 p0 r0 v0 l0 j0 hzx
          clear hb5
          go_wp2_with fail
          generalize hW : World.alloc _ _ = w6
          have hb6 : Below w5.heap.size w5 w6 := by rw [← hW]; (repeat' (first | (with_reducible exact Below.refl _ _) | (with_reducible assumption) | (with_reducible refine Below.drewN ?_ _) | (with_reducible refine Below.alloc ?_ ?_ _) | (with_reducible refine Below.drew ?_) | (with_reducible refine Below.setCell ?_ ?_ _) | (with_reducible refine Below.step (by assumption) ?_ ?_) | (with_reducible exact And.left (by assumption)) | go_size))
          have y0 : w6.cell? ⟨w5.heap.size, 0, none⟩ = some (.slice af nf cf) := by { rw [← hW]; clear hW; go_simp }
          have z0 : w6.cell? ⟨w5.heap.size, 1, none⟩ = some (.slice ar nr cr) := by { rw [← hW]; clear hW; go_simp }
          have x0 : w5.heap.size < w6.heap.size := by { rw [← hW]; clear hW; simp }
          have hzx := hb6.size
          have q0 : w6.cell? ⟨w.heap.size, 0, none⟩ = some (.slice a n c) := by { rw [cellB hb6 _ _ (by first | (simp; done) | (simp; omega) | omega)]; all_goals (first | assumption | go_simp) }; have p0 : w6.cell? ⟨w.heap.size + 1, 0, none⟩ = some (.slice af nf cf) := by { rw [cellB hb6 _ _ (by first | (simp; done) | (simp; omega) | omega)]; all_goals (first | assumption | go_simp) }; have r0 : w6.cell? ⟨w.heap.size + 1, 1, none⟩ = some (.slice ar nr cr) := by { rw [cellB hb6 _ _ (by first | (simp; done) | (simp; omega) | omega)]; all_goals (first | assumption | go_simp) }; have v0 : w6.cell? ⟨w.heap.size + 1, 2, none⟩ = some (.slice aq q cq) := by { rw [cellB hb6 _ _ (by first | (simp; done) | (simp; omega) | omega)]; all_goals (first | assumption | go_simp) }; have l0 : w.heap.size + 1 < w6.heap.size := by { omega }; have j0 : w.heap.size < w6.heap.size := by { omega }
          have HB := Lib.hid (HB.out.trans (hb6.mono HB.out.size))
          clear q1 p1 r1 v1 l1 j1 hzx
          obtain ⟨X7, hX7⟩ : ∃ X, X = w5.heap.size := ⟨_, rfl⟩
          rw [← hX7] at y0 z0 x0 ⊢
          clear hW hb6 hX7 p0 r0
          refine (HFS.out _).mono ?_
          rintro e7 w7 ⟨rfl, hb7⟩
          have hzx := hb7.size
          have q1 : w7.cell? ⟨w.heap.size, 0, none⟩ = some (.slice a n c) := by { rw [cellB hb7 _ _ (by first | (simp; done) | (simp; omega) | omega)]; all_goals (first | assumption | go_simp) }; have v1 : w7.cell? ⟨w.heap.size + 1, 2, none⟩ = some (.slice aq q cq) := by { rw [cellB hb7 _ _ (by first | (simp; done) | (simp; omega) | omega)]; all_goals (first | assumption | go_simp) }; have y1 : w7.cell? ⟨X7, 0, none⟩ = some (.slice af nf cf) := by { rw [cellB hb7 _ _ (by first | (simp; done) | (simp; omega) | omega)]; all_goals (first | assumption | go_simp) }; have z1 : w7.cell? ⟨X7, 1, none⟩ = some (.slice ar nr cr) := by { rw [cellB hb7 _ _ (by first | (simp; done) | (simp; omega) | omega)]; all_goals (first | assumption | go_simp) }; have l1 : w.heap.size + 1 < w7.heap.size := by { omega }; have j1 : w.heap.size < w7.heap.size := by { omega }; have x1 : X7 < w7.heap.size := by { omega }
          have HB := Lib.hid (HB.out.trans (hb7.mono HB.out.size))
          clear q0 v0 y0 z0 l0 j0 x0 hzx
          clear hb7
          go_wp2
          go_ret
          exact ⟨ret_bool (by simp), HB.out⟩
        · have g4 : decide (10 < (nr : Int)) = true := decide_eq_true (by omega)
          have g4' : (10 < (nr : Int)) = True := by simp; omega
          clear h
          go_enter Tryz.func3, Tryz.ntmps3
          go_wp2_with fail
          generalize hW : World.alloc _ _ = w4
          have hb4 : Below w.heap.size w w4 := by rw [← hW]; (repeat' (first | (with_reducible exact Below.refl _ _) | (with_reducible assumption) | (with_reducible refine Below.drewN ?_ _) | (with_reducible refine Below.alloc ?_ ?_ _) | (with_reducible refine Below.drew ?_) | (with_reducible refine Below.setCell ?_ ?_ _) | (with_reducible refine Below.step (by assumption) ?_ ?_) | (with_reducible exact And.left (by assumption)) | go_size))
          have q0 : w4.cell? ⟨w.heap.size, 0, none⟩ = some (.slice a n c) := by { rw [← hW]; clear hW; go_simp }
          have p0 : w4.cell? ⟨w.heap.size + 1, 0, none⟩ = some (.slice af nf cf) := by { rw [← hW]; clear hW; go_simp }
          have r0 : w4.cell? ⟨w.heap.size + 1, 1, none⟩ = some (.slice ar nr cr) := by { rw [← hW]; clear hW; go_simp }
          have v0 : w4.cell? ⟨w.heap.size + 1, 2, none⟩ = some (.slice aq q cq) := by { rw [← hW]; clear hW; go_simp }
          have l0 : w.heap.size + 1 < w4.heap.size := by { rw [← hW]; clear hW; simp }
          have j0 : w.heap.size < w4.heap.size := by omega
          have HB := Lib.hid hb4
          clear hW hb4
          refine (awake9_any _).mono ?_
          rintro e5 w5 ⟨rfl, hb5⟩
          have hzx := hb5.size
          have q1 : w5.cell? ⟨w.heap.size, 0, none⟩ = some (.slice a n c) := by { rw [cellB hb5 _ _ (by first | (simp; done) | (simp; omega) | omega)]; all_goals (first | assumption | go_simp) }; have p1 : w5.cell? ⟨w.heap.size + 1, 0, none⟩ = some (.slice af nf cf) := by { rw [cellB hb5 _ _ (by first | (simp; done) | (simp; omega) | omega)]; all_goals (first | assumption | go_simp) }; have r1 : w5.cell? ⟨w.heap.size + 1, 1, none⟩ = some (.slice ar nr cr) := by { rw [cellB hb5 _ _ (by first | (simp; done) | (simp; omega) | omega)]; all_goals (first | assumption | go_simp) }; have v1 : w5.cell? ⟨w.heap.size + 1, 2, none⟩ = some (.slice aq q cq) := by { rw [cellB hb5 _ _ (by first | (simp; done) | (simp; omega) | omega)]; all_goals (first | assumption | go_simp) }; have l1 : w.heap.size + 1 < w5.heap.size := by { omega }; have j1 : w.heap.size < w5.heap.size := by { omega }
          have HB := Lib.hid (HB.out.trans (hb5.mono HB.out.size))
          clear q0 p0 r0 v0 l0 j0 hzx
          clear hb5
          go_wp2_with fail
          generalize hW : World.alloc _ _ = w6
          have hb6 : Below w5.heap.size w5 w6 := by rw [← hW]; (repeat' (first | (with_reducible exact Below.refl _ _) | (with_reducible assumption) | (with_reducible refine Below.drewN ?_ _) | (with_reducible refine Below.alloc ?_ ?_ _) | (with_reducible refine Below.drew ?_) | (with_reducible refine Below.setCell ?_ ?_ _) | (with_reducible refine Below.step (by assumption) ?_ ?_) | (with_reducible exact And.left (by assumption)) | go_size))
          have y0 : w6.cell? ⟨w5.heap.size, 0, none⟩ = some (.slice af nf cf) := by { rw [← hW]; clear hW; go_simp }
          have z0 : w6.cell? ⟨w5.heap.size, 1, none⟩ = some (.slice ar nr cr) := by { rw [← hW]; clear hW; go_simp }
          have x0 : w5.heap.size < w6.heap.size := by { rw [← hW]; clear hW; simp }
          have hzx := hb6.size
          have q0 : w6.cell? ⟨w.heap.size, 0, none⟩ = some (.slice a n c) := by { rw [cellB hb6 _ _ (by first | (simp; done) | (simp; omega) | omega)]; all_goals (first | assumption | go_simp) }; have p0 : w6.cell? ⟨w.heap.size + 1, 0, none⟩ = some (.slice af nf cf) := by { rw [cellB hb6 _ _ (by first | (simp; done) | (simp; omega) | omega)]; all_goals (first | assumption | go_simp) }; have r0 : w6.cell? ⟨w.heap.size + 1, 1, none⟩ = some (.slice ar nr cr) := by { rw [cellB hb6 _ _ (by first | (simp; done) | (simp; omega) | omega)]; all_goals (first | assumption | go_simp) }; have v0 : w6.cell? ⟨w.heap.size + 1, 2, none⟩ = some (.slice aq q cq) := by { rw [cellB hb6 _ _ (by first | (simp; done) | (simp; omega) | omega)]; all_goals (first | assumption | go_simp) }; have l0 : w.heap.size + 1 < w6.heap.size := by { omega }; have j0 : w.heap.size < w6.heap.size := by { omega }
          have HB := Lib.hid (HB.out.trans (hb6.mono HB.out.size))
          clear q1 p1 r1 v1 l1 j1 hzx
          obtain ⟨X7, hX7⟩ : ∃ X, X = w5.heap.size := ⟨_, rfl⟩
          rw [← hX7] at y0 z0 x0 ⊢
          clear hW hb6 hX7 p0 r0
          refine (HFS.out _).mono ?_
          rintro e7 w7 ⟨rfl, hb7⟩
          have hzx := hb7.size
          have q1 : w7.cell? ⟨w.heap.size, 0, none⟩ = some (.slice a n c) := by { rw [cellB hb7 _ _ (by first | (simp; done) | (simp; omega) | omega)]; all_goals (first | assumption | go_simp) }; have v1 : w7.cell? ⟨w.heap.size + 1, 2, none⟩ = some (.slice aq q cq) := by { rw [cellB hb7 _ _ (by first | (simp; done) | (simp; omega) | omega)]; all_goals (first | assumption | go_simp) }; have y1 : w7.cell? ⟨X7, 0, none⟩ = some (.slice af nf cf) := by { rw [cellB hb7 _ _ (by first | (simp; done) | (simp; omega) | omega)]; all_goals (first | assumption | go_simp) }; have z1 : w7.cell? ⟨X7, 1, none⟩ = some (.slice ar nr cr) := by { rw [cellB hb7 _ _ (by first | (simp; done) | (simp; omega) | omega)]; all_goals (first | assumption | go_simp) }; have l1 : w.heap.size + 1 < w7.heap.size := by { omega }; have j1 : w.heap.size < w7.heap.size := by { omega }; have x1 : X7 < w7.heap.size := by { omega }
          have HB := Lib.hid (HB.out.trans (hb7.mono HB.out.size))
          clear q0 v0 y0 z0 l0 j0 x0 hzx
          clear hb7
          go_wp2
          go_ret
          exact ⟨ret_bool (by simp), HB.out⟩
      · have g3 : decide (10 < (nf : Int)) = true := decide_eq_true (by omega)
        have g3' : (10 < (nf : Int)) = True := by simp; omega
        clear h
        go_enter Tryz.func3, Tryz.ntmps3
        go_wp2_with fail
        generalize hW : World.alloc _ _ = w4
        have hb4 : Below w.heap.size w w4 := by rw [← hW]; (repeat' (first | (with_reducible exact Below.refl _ _) | (with_reducible assumption) | (with_reducible refine Below.drewN ?_ _) | (with_reducible refine Below.alloc ?_ ?_ _) | (with_reducible refine Below.drew ?_) | (with_reducible refine Below.setCell ?_ ?_ _) | (with_reducible refine Below.step (by assumption) ?_ ?_) | (with_reducible exact And.left (by assumption)) | go_size))
        have q0 : w4.cell? ⟨w.heap.size, 0, none⟩ = some (.slice a n c) := by { rw [← hW]; clear hW; go_simp }
        have p0 : w4.cell? ⟨w.heap.size + 1, 0, none⟩ = some (.slice af nf cf) := by { rw [← hW]; clear hW; go_simp }
        have r0 : w4.cell? ⟨w.heap.size + 1, 1, none⟩ = some (.slice ar nr cr) := by { rw [← hW]; clear hW; go_simp }
        have v0 : w4.cell? ⟨w.heap.size + 1, 2, none⟩ = some (.slice aq q cq) := by { rw [← hW]; clear hW; go_simp }
        have l0 : w.heap.size + 1 < w4.heap.size := by { rw [← hW]; clear hW; simp }
        have j0 : w.heap.size < w4.heap.size := by omega
        have HB := Lib.hid hb4
        clear hW hb4
        refine (awake9_any _).mono ?_
        rintro e5 w5 ⟨rfl, hb5⟩
        have hzx := hb5.size
        have q1 : w5.cell? ⟨w.heap.size, 0, none⟩ = some (.slice a n c) := by { rw [cellB hb5 _ _ (by first | (simp; done) | (simp; omega) | omega)]; all_goals (first | assumption | go_simp) }; have p1 : w5.cell? ⟨w.heap.size + 1, 0, none⟩ = some (.slice af nf cf) := by { rw [cellB hb5 _ _ (by first | (simp; done) | (simp; omega) | omega)]; all_goals (first | assumption | go_simp) }; have r1 : w5.cell? ⟨w.heap.size + 1, 1, none⟩ = some (.slice ar nr cr) := by { rw [cellB hb5 _ _ (by first | (simp; done) | (simp; omega) | omega)]; all_goals (first | assumption | go_simp) }; have v1 : w5.cell? ⟨w.heap.size + 1, 2, none⟩ = some (.slice aq q cq) := by { rw [cellB hb5 _ _ (by first | (simp; done) | (simp; omega) | omega)]; all_goals (first | assumption | go_simp) }; have l1 : w.heap.size + 1 < w5.heap.size := by { omega }; have j1 : w.heap.size < w5.heap.size := by { omega }
        have HB := Lib.hid (HB.out.trans (hb5.mono HB.out.size))
        clear q0 p0 r0 v0 l0 j0 hzx
        clear hb5
        go_wp2_with fail
        generalize hW : World.alloc _ _ = w6
        have hb6 : Below w5.heap.size w5 w6 := by rw [← hW]; (repeat' (first | (with_reducible exact Below.refl _ _) | (with_reducible assumption) | (with_reducible refine Below.drewN ?_ _) | (with_reducible refine Below.alloc ?_ ?_ _) | (with_reducible refine Below.drew ?_) | (with_reducible refine Below.setCell ?_ ?_ _) | (with_reducible refine Below.step (by assumption) ?_ ?_) | (with_reducible exact And.left (by assumption)) | go_size))
        have y0 : w6.cell? ⟨w5.heap.size, 0, none⟩ = some (.slice af nf cf) := by { rw [← hW]; clear hW; go_simp }
        have z0 : w6.cell? ⟨w5.heap.size, 1, none⟩ = some (.slice ar nr cr) := by { rw [← hW]; clear hW; go_simp }
        have x0 : w5.heap.size < w6.heap.size := by { rw [← hW]; clear hW; simp }
        have hzx := hb6.size
        have q0 : w6.cell? ⟨w.heap.size, 0, none⟩ = some (.slice a n c) := by { rw [cellB hb6 _ _ (by first | (simp; done) | (simp; omega) | omega)]; all_goals (first | assumption | go_simp) }; have p0 : w6.cell? ⟨w.heap.size + 1, 0, none⟩ = some (.slice af nf cf) := by { rw [cellB hb6 _ _ (by first | (simp; done) | (simp; omega) | omega)]; all_goals (first | assumption | go_simp) }; have r0 : w6.cell? ⟨w.heap.size + 1, 1, none⟩ = some (.slice ar nr cr) := by { rw [cellB hb6 _ _ (by first | (simp; done) | (simp; omega) | omega)]; all_goals (first | assumption | go_simp) }; have v0 : w6.cell? ⟨w.heap.size + 1, 2, none⟩ = some (.slice aq q cq) := by { rw [cellB hb6 _ _ (by first | (simp; done) | (simp; omega) | omega)]; all_goals (first | assumption | go_simp) }; have l0 : w.heap.size + 1 < w6.heap.size := by { omega }; have j0 : w.heap.size < w6.heap.size := by { omega }
        have HB := Lib.hid (HB.out.trans (hb6.mono HB.out.size))
        clear q1 p1 r1 v1 l1 j1 hzx
        obtain ⟨X7, hX7⟩ : ∃ X, X = w5.heap.size := ⟨_, rfl⟩
        rw [← hX7] at y0 z0 x0 ⊢
        clear hW hb6 hX7 p0 r0
        refine (HFS.out _).mono ?_
        rintro e7 w7 ⟨rfl, hb7⟩
        have hzx := hb7.size
        have q1 : w7.cell? ⟨w.heap.size, 0, none⟩ = some (.slice a n c) := by { rw [cellB hb7 _ _ (by first | (simp; done) | (simp; omega) | omega)]; all_goals (first | assumption | go_simp) }; have v1 : w7.cell? ⟨w.heap.size + 1, 2, none⟩ = some (.slice aq q cq) := by { rw [cellB hb7 _ _ (by first | (simp; done) | (simp; omega) | omega)]; all_goals (first | assumption | go_simp) }; have y1 : w7.cell? ⟨X7, 0, none⟩ = some (.slice af nf cf) := by { rw [cellB hb7 _ _ (by first | (simp; done) | (simp; omega) | omega)]; all_goals (first | assumption | go_simp) }; have z1 : w7.cell? ⟨X7, 1, none⟩ = some (.slice ar nr cr) := by { rw [cellB hb7 _ _ (by first | (simp; done) | (simp; omega) | omega)]; all_goals (first | assumption | go_simp) }; have l1 : w.heap.size + 1 < w7.heap.size := by { omega }; have j1 : w.heap.size < w7.heap.size := by { omega }; have x1 : X7 < w7.heap.size := by { omega }
        have HB := Lib.hid (HB.out.trans (hb7.mono HB.out.size))
        clear q0 v0 y0 z0 l0 j0 x0 hzx
        clear hb7
        go_wp2
        go_ret
        exact ⟨ret_bool (by simp), HB.out⟩
    · have g2 : decide (8 < (m : Int)) = true := decide_eq_true (by omega)
      have g2' : (8 < (m : Int)) = True := by simp; omega
      clear h
      go_enter Tryz.func3, Tryz.ntmps3
      go_wp2_with fail
      generalize hW : World.alloc _ _ = w4
      have hb4 : Below w.heap.size w w4 := by rw [← hW]; (repeat' (first | (with_reducible exact Below.refl _ _) | (with_reducible assumption) | (with_reducible refine Below.drewN ?_ _) | (with_reducible refine Below.alloc ?_ ?_ _) | (with_reducible refine Below.drew ?_) | (with_reducible refine Below.setCell ?_ ?_ _) | (with_reducible refine Below.step (by assumption) ?_ ?_) | (with_reducible exact And.left (by assumption)) | go_size))
      have q0 : w4.cell? ⟨w.heap.size, 0, none⟩ = some (.slice a n c) := by { rw [← hW]; clear hW; go_simp }
      have p0 : w4.cell? ⟨w.heap.size + 1, 0, none⟩ = some (.slice af nf cf) := by { rw [← hW]; clear hW; go_simp }
      have r0 : w4.cell? ⟨w.heap.size + 1, 1, none⟩ = some (.slice ar nr cr) := by { rw [← hW]; clear hW; go_simp }
      have v0 : w4.cell? ⟨w.heap.size + 1, 2, none⟩ = some (.slice aq q cq) := by { rw [← hW]; clear hW; go_simp }
      have l0 : w.heap.size + 1 < w4.heap.size := by { rw [← hW]; clear hW; simp }
      have j0 : w.heap.size < w4.heap.size := by omega
      have HB := Lib.hid hb4
      clear hW hb4
      refine (awake9_any _).mono ?_
      rintro e5 w5 ⟨rfl, hb5⟩
      have hzx := hb5.size
      have q1 : w5.cell? ⟨w.heap.size, 0, none⟩ = some (.slice a n c) := by { rw [cellB hb5 _ _ (by first | (simp; done) | (simp; omega) | omega)]; all_goals (first | assumption | go_simp) }; have p1 : w5.cell? ⟨w.heap.size + 1, 0, none⟩ = some (.slice af nf cf) := by { rw [cellB hb5 _ _ (by first | (simp; done) | (simp; omega) | omega)]; all_goals (first | assumption | go_simp) }; have r1 : w5.cell? ⟨w.heap.size + 1, 1, none⟩ = some (.slice ar nr cr) := by { rw [cellB hb5 _ _ (by first | (simp; done) | (simp; omega) | omega)]; all_goals (first | assumption | go_simp) }; have v1 : w5.cell? ⟨w.heap.size + 1, 2, none⟩ = some (.slice aq q cq) := by { rw [cellB hb5 _ _ (by first | (simp; done) | (simp; omega) | omega)]; all_goals (first | assumption | go_simp) }; have l1 : w.heap.size + 1 < w5.heap.size := by { omega }; have j1 : w.heap.size < w5.heap.size := by { omega }
      have HB := Lib.hid (HB.out.trans (hb5.mono HB.out.size))
      clear q0 p0 r0 v0 l0 j0 hzx
      clear hb5
      go_wp2_with fail
      generalize hW : World.alloc _ _ = w6
      have hb6 : Below w5.heap.size w5 w6 := by rw [← hW]; (repeat' (first | (with_reducible exact Below.refl _ _) | (with_reducible assumption) | (with_reducible refine Below.drewN ?_ _) | (with_reducible refine Below.alloc ?_ ?_ _) | (with_reducible refine Below.drew ?_) | (with_reducible refine Below.setCell ?_ ?_ _) | (with_reducible refine Below.step (by assumption) ?_ ?_) | (with_reducible exact And.left (by assumption)) | go_size))
      have y0 : w6.cell? ⟨w5.heap.size, 0, none⟩ = some (.slice af nf cf) := by { rw [← hW]; clear hW; go_simp }
      have z0 : w6.cell? ⟨w5.heap.size, 1, none⟩ = some (.slice ar nr cr) := by { rw [← hW]; clear hW; go_simp }
      have x0 : w5.heap.size < w6.heap.size := by { rw [← hW]; clear hW; simp }
      have hzx := hb6.size
      have q0 : w6.cell? ⟨w.heap.size, 0, none⟩ = some (.slice a n c) := by { rw [cellB hb6 _ _ (by first | (simp; done) | (simp; omega) | omega)]; all_goals (first | assumption | go_simp) }; have p0 : w6.cell? ⟨w.heap.size + 1, 0, none⟩ = some (.slice af nf cf) := by { rw [cellB hb6 _ _ (by first | (simp; done) | (simp; omega) | omega)]; all_goals (first | assumption | go_simp) }; have r0 : w6.cell? ⟨w.heap.size + 1, 1, none⟩ = some (.slice ar nr cr) := by { rw [cellB hb6 _ _ (by first | (simp; done) | (simp; omega) | omega)]; all_goals (first | assumption | go_simp) }; have v0 : w6.cell? ⟨w.heap.size + 1, 2, none⟩ = some (.slice aq q cq) := by { rw [cellB hb6 _ _ (by first | (simp; done) | (simp; omega) | omega)]; all_goals (first | assumption | go_simp) }; have l0 : w.heap.size + 1 < w6.heap.size := by { omega }; have j0 : w.heap.size < w6.heap.size := by { omega }
      have HB := Lib.hid (HB.out.trans (hb6.mono HB.out.size))
      clear q1 p1 r1 v1 l1 j1 hzx
      obtain ⟨X7, hX7⟩ : ∃ X, X = w5.heap.size := ⟨_, rfl⟩
      rw [← hX7] at y0 z0 x0 ⊢
      clear hW hb6 hX7 p0 r0
      refine (HFS.out _).mono ?_
      rintro e7 w7 ⟨rfl, hb7⟩
      have hzx := hb7.size
      have q1 : w7.cell? ⟨w.heap.size, 0, none⟩ = some (.slice a n c) := by { rw [cellB hb7 _ _ (by first | (simp; done) | (simp; omega) | omega)]; all_goals (first | assumption | go_simp) }; have v1 : w7.cell? ⟨w.heap.size + 1, 2, none⟩ = some (.slice aq q cq) := by { rw [cellB hb7 _ _ (by first | (simp; done) | (simp; omega) | omega)]; all_goals (first | assumption | go_simp) }; have y1 : w7.cell? ⟨X7, 0, none⟩ = some (.slice af nf cf) := by { rw [cellB hb7 _ _ (by first | (simp; done) | (simp; omega) | omega)]; all_goals (first | assumption | go_simp) }; have z1 : w7.cell? ⟨X7, 1, none⟩ = some (.slice ar nr cr) := by { rw [cellB hb7 _ _ (by first | (simp; done) | (simp; omega) | omega)]; all_goals (first | assumption | go_simp) }; have l1 : w.heap.size + 1 < w7.heap.size := by { omega }; have j1 : w.heap.size < w7.heap.size := by { omega }; have x1 : X7 < w7.heap.size := by { omega }
      have HB := Lib.hid (HB.out.trans (hb7.mono HB.out.size))
      clear q0 v0 y0 z0 l0 j0 x0 hzx
      clear hb7
      go_wp2
      go_ret
      exact ⟨ret_bool (by simp), HB.out⟩
  · rw [decide_eq_false h1] at HFS
    clear h
    go_enter Tryz.func3, Tryz.ntmps3
    go_wp2_with fail
    generalize hW : World.alloc _ _ = w4
    have hb4 : Below w.heap.size w w4 := by rw [← hW]; (repeat' (first | (with_reducible exact Below.refl _ _) | (with_reducible assumption) | (with_reducible refine Below.drewN ?_ _) | (with_reducible refine Below.alloc ?_ ?_ _) | (with_reducible refine Below.drew ?_) | (with_reducible refine Below.setCell ?_ ?_ _) | (with_reducible refine Below.step (by assumption) ?_ ?_) | (with_reducible exact And.left (by assumption)) | go_size))
    have q0 : w4.cell? ⟨w.heap.size, 0, none⟩ = some (.slice a n c) := by { rw [← hW]; clear hW; go_simp }
    have p0 : w4.cell? ⟨w.heap.size + 1, 0, none⟩ = some (.slice af nf cf) := by { rw [← hW]; clear hW; go_simp }
    have r0 : w4.cell? ⟨w.heap.size + 1, 1, none⟩ = some (.slice ar nr cr) := by { rw [← hW]; clear hW; go_simp }
    have v0 : w4.cell? ⟨w.heap.size + 1, 2, none⟩ = some (.slice aq q cq) := by { rw [← hW]; clear hW; go_simp }
    have l0 : w.heap.size + 1 < w4.heap.size := by { rw [← hW]; clear hW; simp }
    have j0 : w.heap.size < w4.heap.size := by omega
    have HB := Lib.hid hb4
    clear hW hb4
    refine (awake9_any _).mono ?_
    rintro e5 w5 ⟨rfl, hb5⟩
    have hzx := hb5.size
    have q1 : w5.cell? ⟨w.heap.size, 0, none⟩ = some (.slice a n c) := by { rw [cellB hb5 _ _ (by first | (simp; done) | (simp; omega) | omega)]; all_goals (first | assumption | go_simp) }; have p1 : w5.cell? ⟨w.heap.size + 1, 0, none⟩ = some (.slice af nf cf) := by { rw [cellB hb5 _ _ (by first | (simp; done) | (simp; omega) | omega)]; all_goals (first | assumption | go_simp) }; have r1 : w5.cell? ⟨w.heap.size + 1, 1, none⟩ = some (.slice ar nr cr) := by { rw [cellB hb5 _ _ (by first | (simp; done) | (simp; omega) | omega)]; all_goals (first | assumption | go_simp) }; have v1 : w5.cell? ⟨w.heap.size + 1, 2, none⟩ = some (.slice aq q cq) := by { rw [cellB hb5 _ _ (by first | (simp; done) | (simp; omega) | omega)]; all_goals (first | assumption | go_simp) }; have l1 : w.heap.size + 1 < w5.heap.size := by { omega }; have j1 : w.heap.size < w5.heap.size := by { omega }
    have HB := Lib.hid (HB.out.trans (hb5.mono HB.out.size))
    clear q0 p0 r0 v0 l0 j0 hzx
    clear hb5
    go_wp2_with fail
    generalize hW : World.alloc _ _ = w6
    have hb6 : Below w5.heap.size w5 w6 := by rw [← hW]; (repeat' (first | (with_reducible exact Below.refl _ _) | (with_reducible assumption) | (with_reducible refine Below.drewN ?_ _) | (with_reducible refine Below.alloc ?_ ?_ _) | (with_reducible refine Below.drew ?_) | (with_reducible refine Below.setCell ?_ ?_ _) | (with_reducible refine Below.step (by assumption) ?_ ?_) | (with_reducible exact And.left (by assumption)) | go_size))
    have y0 : w6.cell? ⟨w5.heap.size, 0, none⟩ = some (.slice af nf cf) := by { rw [← hW]; clear hW; go_simp }
    have z0 : w6.cell? ⟨w5.heap.size, 1, none⟩ = some (.slice ar nr cr) := by { rw [← hW]; clear hW; go_simp }
    have x0 : w5.heap.size < w6.heap.size := by { rw [← hW]; clear hW; simp }
    have hzx := hb6.size
    have q0 : w6.cell? ⟨w.heap.size, 0, none⟩ = some (.slice a n c) := by { rw [cellB hb6 _ _ (by first | (simp; done) | (simp; omega) | omega)]; all_goals (first | assumption | go_simp) }; have p0 : w6.cell? ⟨w.heap.size + 1, 0, none⟩ = some (.slice af nf cf) := by { rw [cellB hb6 _ _ (by first | (simp; done) | (simp; omega) | omega)]; all_goals (first | assumption | go_simp) }; have r0 : w6.cell? ⟨w.heap.size + 1, 1, none⟩ = some (.slice ar nr cr) := by { rw [cellB hb6 _ _ (by first | (simp; done) | (simp; omega) | omega)]; all_goals (first | assumption | go_simp) }; have v0 : w6.cell? ⟨w.heap.size + 1, 2, none⟩ = some (.slice aq q cq) := by { rw [cellB hb6 _ _ (by first | (simp; done) | (simp; omega) | omega)]; all_goals (first | assumption | go_simp) }; have l0 : w.heap.size + 1 < w6.heap.size := by { omega }; have j0 : w.heap.size < w6.heap.size := by { omega }
    have HB := Lib.hid (HB.out.trans (hb6.mono HB.out.size))
    clear q1 p1 r1 v1 l1 j1 hzx
    obtain ⟨X7, hX7⟩ : ∃ X, X = w5.heap.size := ⟨_, rfl⟩
    rw [← hX7] at y0 z0 x0 ⊢
    clear hW hb6 hX7 p0 r0
    refine (HFS.out _).mono ?_
    rintro e7 w7 ⟨rfl, hb7⟩
    have hzx := hb7.size
    have q1 : w7.cell? ⟨w.heap.size, 0, none⟩ = some (.slice a n c) := by { rw [cellB hb7 _ _ (by first | (simp; done) | (simp; omega) | omega)]; all_goals (first | assumption | go_simp) }; have v1 : w7.cell? ⟨w.heap.size + 1, 2, none⟩ = some (.slice aq q cq) := by { rw [cellB hb7 _ _ (by first | (simp; done) | (simp; omega) | omega)]; all_goals (first | assumption | go_simp) }; have y1 : w7.cell? ⟨X7, 0, none⟩ = some (.slice af nf cf) := by { rw [cellB hb7 _ _ (by first | (simp; done) | (simp; omega) | omega)]; all_goals (first | assumption | go_simp) }; have z1 : w7.cell? ⟨X7, 1, none⟩ = some (.slice ar nr cr) := by { rw [cellB hb7 _ _ (by first | (simp; done) | (simp; omega) | omega)]; all_goals (first | assumption | go_simp) }; have l1 : w.heap.size + 1 < w7.heap.size := by { omega }; have j1 : w.heap.size < w7.heap.size := by { omega }; have x1 : X7 < w7.heap.size := by { omega }
    have HB := Lib.hid (HB.out.trans (hb7.mono HB.out.size))
    clear q0 v0 y0 z0 l0 j0 x0 hzx
    clear hb7
    go_wp2
    go_ret
    exact ⟨ret_bool (by simp), HB.out⟩
set_option maxHeartbeats 4000000 in
set_option maxRecDepth 100000 in
theorem xpl_main (n c m cm nf cf nr cr q cq : Nat) (a ap af ar aq : Option Addr) (s l : List T3) (fs S : List Int) (rs : List (Int × Int)) (w : World) (hs : T3R w a n s) (hl : T3R w ap m l) (hf : IntsR w af nf fs) (hr : PairsR w ar nr rs) (hS : IntsR w aq q S)
    (h1 : n ≤ 5) (h2 : m ≤ 8) (h3 : nf ≤ 10) (h4 : nr ≤ 10) (h5 : q ≤ 8) :
    Calls Tryz.prog 3 #[.agg #[.slice a n c], .slice ap m cm, .agg #[.slice af nf cf, .slice ar nr cr, .slice aq q cq]] w fun e' w' => e' = .returned (.bool true) ∧ Below w.heap.size w w' := by
  have HFS := Lib.hid (fun (W : World) => fewSections9_any a n c W (by omega))
  rw [decide_eq_true h1] at HFS
  have g2 : decide (8 < (m : Int)) = false := decide_eq_false (by omega)
  have g2' : (8 < (m : Int)) = False := by simp; omega
  have g3 : decide (10 < (nf : Int)) = false := decide_eq_false (by omega)
  have g3' : (10 < (nf : Int)) = False := by simp; omega
  have g4 : decide (10 < (nr : Int)) = false := decide_eq_false (by omega)
  have g4' : (10 < (nr : Int)) = False := by simp; omega
  have g5 : decide (8 < (q : Int)) = false := decide_eq_false (by omega)
  have g5' : (8 < (q : Int)) = False := by simp; omega
  have HSR := Lib.hid hs
  have HLN := Lib.hid hl.len
  have HSN := Lib.hid hS.len
  have HS := Lib.hid hS
  have HCN := Lib.hid (fun (W : World) (hb : Below w.heap.size w W) => copyNetwork_any s a n c W (hs.below hb) (by omega))
  have HCNN := Lib.hid (fun (W : World) (hb : Below w.heap.size w W) => copyDeformations_any l ap m cm W (hl.below hb) (by omega))
  have HCM := Lib.hid (fun (W : World) (hb : Below w.heap.size w W) => copyMeasured_any fs rs af ar nf cf nr cr W (hf.below hb) (hr.below hb) (by omega) (by omega))
  have HXP := Lib.hid (fun (a1 a2 a3 a4 : Option Addr) (c1 c2 c3 c4 : Nat) (W : World) (g1 : T3R W a1 n s) (g2 : T3R W a2 m l) (g3 : IntsR W a3 nf fs) (g4 : PairsR W a4 nr rs) => explanationsOf_any n c1 m c2 nf c3 nr c4 a1 a2 a3 a4 s l fs rs W g1 g2 g3 g4)
  have HXE := Lib.hid (fun (a1 a2 a3 a4 a5 : Option Addr) (c1 c2 c3 c4 c5 : Nat) (W : World) (g1 : T3R W a1 n s) (g2 : T3R W a2 m l) (g3 : IntsR W a3 nf fs) (g4 : PairsR W a4 nr rs) (g5 : IntsR W a5 q S) => explainsX_any n c1 m c2 nf c3 nr c4 q c5 a1 a2 a3 a4 a5 s l fs rs S W g1 g2 g3 g4 g5)
  have HME := Lib.hid (fun (W : World) (hb : Below w.heap.size w W) => measuredErr_any n c m cm nf cf nr cr a ap af ar s l fs rs W (hs.below hb) (hl.below hb) (hf.below hb) (hr.below hb))
  have HRX := Lib.hid (fun (h0 : askE s l fs rs = 0) (W : World) (hb : Below w.heap.size w W) => rExplanations_any n c m cm nf cf nr cr a ap af ar s l fs rs W (hs.below hb) (hl.below hb) (hf.below hb) (hr.below hb) h0)
  have HRE := Lib.hid (fun (h0 : askE s l fs rs = 0) (T : List Nat) (hT : nats T = S) (hlt : ∀ i ∈ T, i < m) (W : World) (hb : Below w.heap.size w W) => rExplains_any n c m cm nf cf nr cr q cq a ap af ar aq s l fs rs T W (hs.below hb) (hl.below hb) (hf.below hb) (hr.below hb) (by rw [hT]; exact hS.below hb) h0 (by omega) hlt)
  have HX9 := Lib.hid (fun (x a b : Int) w' => bwithin_any x a b w')
  have w1 : IntKind.i64.wrap ((m : Int) - 1) = (m : Int) - 1 := by rw [IntKind.wrap_i64]; omega
  clear hs hl hf hr hS
  obtain ⟨E, hE⟩ : ∃ E, E = askE s l fs rs := ⟨_, rfl⟩
  obtain ⟨XL, hXL⟩ : ∃ X, X = xplE s l fs rs := ⟨_, rfl⟩
  obtain ⟨EB, hEB⟩ : ∃ X, X = expE s l fs rs S := ⟨_, rfl⟩
  have HXL := Lib.hid hXL
  have HEB := Lib.hid hEB
  rw [← hXL] at HXP
  rw [← hEB] at HXE
  rw [← hE] at HME HRX HRE
  have HE := Lib.hid hE
  clear hE hXL hEB
  obtain ⟨XL, XE⟩ := XL
  obtain ⟨B, F⟩ := EB
  simp only at HXP HXE
  go_enter Tryz.func3, Tryz.ntmps3
  go_wp2_with fail
  generalize hW : World.alloc _ _ = w4
  have hb4 : Below w.heap.size w w4 := by rw [← hW]; (repeat' (first | (with_reducible exact Below.refl _ _) | (with_reducible assumption) | (with_reducible refine Below.drewN ?_ _) | (with_reducible refine Below.alloc ?_ ?_ _) | (with_reducible refine Below.drew ?_) | (with_reducible refine Below.setCell ?_ ?_ _) | (with_reducible refine Below.step (by assumption) ?_ ?_) | (with_reducible exact And.left (by assumption)) | go_size))
  have q0 : w4.cell? ⟨w.heap.size, 0, none⟩ = some (.slice a n c) := by { rw [← hW]; clear hW; go_simp }
  have p0 : w4.cell? ⟨w.heap.size + 1, 0, none⟩ = some (.slice af nf cf) := by { rw [← hW]; clear hW; go_simp }
  have r0 : w4.cell? ⟨w.heap.size + 1, 1, none⟩ = some (.slice ar nr cr) := by { rw [← hW]; clear hW; go_simp }
  have v0 : w4.cell? ⟨w.heap.size + 1, 2, none⟩ = some (.slice aq q cq) := by { rw [← hW]; clear hW; go_simp }
  have l0 : w.heap.size + 1 < w4.heap.size := by { rw [← hW]; clear hW; simp }
  have j0 : w.heap.size < w4.heap.size := by omega
  have HB := Lib.hid hb4
  clear hW hb4
  refine (awake9_any _).mono ?_
  rintro e5 w5 ⟨rfl, hb5⟩
  have hzx := hb5.size
  have q1 : w5.cell? ⟨w.heap.size, 0, none⟩ = some (.slice a n c) := by { rw [cellB hb5 _ _ (by first | (simp; done) | (simp; omega) | omega)]; all_goals (first | assumption | go_simp) }; have p1 : w5.cell? ⟨w.heap.size + 1, 0, none⟩ = some (.slice af nf cf) := by { rw [cellB hb5 _ _ (by first | (simp; done) | (simp; omega) | omega)]; all_goals (first | assumption | go_simp) }; have r1 : w5.cell? ⟨w.heap.size + 1, 1, none⟩ = some (.slice ar nr cr) := by { rw [cellB hb5 _ _ (by first | (simp; done) | (simp; omega) | omega)]; all_goals (first | assumption | go_simp) }; have v1 : w5.cell? ⟨w.heap.size + 1, 2, none⟩ = some (.slice aq q cq) := by { rw [cellB hb5 _ _ (by first | (simp; done) | (simp; omega) | omega)]; all_goals (first | assumption | go_simp) }; have l1 : w.heap.size + 1 < w5.heap.size := by { omega }; have j1 : w.heap.size < w5.heap.size := by { omega }
  have HB := Lib.hid (HB.out.trans (hb5.mono HB.out.size))
  clear q0 p0 r0 v0 l0 j0 hzx
  clear hb5
  go_wp2_with fail
  generalize hW : World.alloc _ _ = w6
  have hb6 : Below w5.heap.size w5 w6 := by rw [← hW]; (repeat' (first | (with_reducible exact Below.refl _ _) | (with_reducible assumption) | (with_reducible refine Below.drewN ?_ _) | (with_reducible refine Below.alloc ?_ ?_ _) | (with_reducible refine Below.drew ?_) | (with_reducible refine Below.setCell ?_ ?_ _) | (with_reducible refine Below.step (by assumption) ?_ ?_) | (with_reducible exact And.left (by assumption)) | go_size))
  have y0 : w6.cell? ⟨w5.heap.size, 0, none⟩ = some (.slice af nf cf) := by { rw [← hW]; clear hW; go_simp }
  have z0 : w6.cell? ⟨w5.heap.size, 1, none⟩ = some (.slice ar nr cr) := by { rw [← hW]; clear hW; go_simp }
  have x0 : w5.heap.size < w6.heap.size := by { rw [← hW]; clear hW; simp }
  have hzx := hb6.size
  have q0 : w6.cell? ⟨w.heap.size, 0, none⟩ = some (.slice a n c) := by { rw [cellB hb6 _ _ (by first | (simp; done) | (simp; omega) | omega)]; all_goals (first | assumption | go_simp) }; have p0 : w6.cell? ⟨w.heap.size + 1, 0, none⟩ = some (.slice af nf cf) := by { rw [cellB hb6 _ _ (by first | (simp; done) | (simp; omega) | omega)]; all_goals (first | assumption | go_simp) }; have r0 : w6.cell? ⟨w.heap.size + 1, 1, none⟩ = some (.slice ar nr cr) := by { rw [cellB hb6 _ _ (by first | (simp; done) | (simp; omega) | omega)]; all_goals (first | assumption | go_simp) }; have v0 : w6.cell? ⟨w.heap.size + 1, 2, none⟩ = some (.slice aq q cq) := by { rw [cellB hb6 _ _ (by first | (simp; done) | (simp; omega) | omega)]; all_goals (first | assumption | go_simp) }; have l0 : w.heap.size + 1 < w6.heap.size := by { omega }; have j0 : w.heap.size < w6.heap.size := by { omega }
  have HB := Lib.hid (HB.out.trans (hb6.mono HB.out.size))
  clear q1 p1 r1 v1 l1 j1 hzx
  obtain ⟨X7, hX7⟩ : ∃ X, X = w5.heap.size := ⟨_, rfl⟩
  rw [← hX7] at y0 z0 x0 ⊢
  clear hW hb6 hX7 p0 r0
  refine (HFS.out _).mono ?_
  rintro e7 w7 ⟨rfl, hb7⟩
  have hzx := hb7.size
  have q1 : w7.cell? ⟨w.heap.size, 0, none⟩ = some (.slice a n c) := by { rw [cellB hb7 _ _ (by first | (simp; done) | (simp; omega) | omega)]; all_goals (first | assumption | go_simp) }; have v1 : w7.cell? ⟨w.heap.size + 1, 2, none⟩ = some (.slice aq q cq) := by { rw [cellB hb7 _ _ (by first | (simp; done) | (simp; omega) | omega)]; all_goals (first | assumption | go_simp) }; have y1 : w7.cell? ⟨X7, 0, none⟩ = some (.slice af nf cf) := by { rw [cellB hb7 _ _ (by first | (simp; done) | (simp; omega) | omega)]; all_goals (first | assumption | go_simp) }; have z1 : w7.cell? ⟨X7, 1, none⟩ = some (.slice ar nr cr) := by { rw [cellB hb7 _ _ (by first | (simp; done) | (simp; omega) | omega)]; all_goals (first | assumption | go_simp) }; have l1 : w.heap.size + 1 < w7.heap.size := by { omega }; have j1 : w.heap.size < w7.heap.size := by { omega }; have x1 : X7 < w7.heap.size := by { omega }
  have HB := Lib.hid (HB.out.trans (hb7.mono HB.out.size))
  clear q0 v0 y0 z0 l0 j0 x0 hzx
  clear hb7
  go_wp2_with fail
  refine wp_region_laterM (B := w7.heap.size) [(true, 0), (true, 2), (true, 4), (false, 1), (false, 3), (false, 5), (false, 6), (true, 7), (true, 8), (true, 9), (true, 10), (true, 11)] (by kernel_rfl) (by kernel_rfl) ?_; simp only [opsOf, List.filterMap_cons, List.filterMap_nil, List.getElem?_toArray, List.getElem?_cons_zero, List.getElem?_cons_succ, Option.map_some]
  repeat (refine mix_head ?_; (show wpQuiet _ _ _ _ (_ :: _) _; go_big_quiet_step (fail)); refine wpQuiet_nil ?_)
  refine mix_tail ?_; go_wp2_with fail
  refine (HCN.out _ (HB.out.trans (Below.mono (show Below w7.heap.size w7 _ by (repeat' (first | (with_reducible exact Below.refl _ _) | (with_reducible assumption) | (with_reducible refine Below.drewN ?_ _) | (with_reducible refine Below.alloc ?_ ?_ _) | (with_reducible refine Below.drew ?_) | (with_reducible refine Below.setCell ?_ ?_ _) | (with_reducible refine Below.step (by assumption) ?_ ?_) | (with_reducible exact And.left (by assumption)) | go_size))) HB.out.size))).mono ?_
  rintro e17 wj ⟨a17, c17, rfl, hbx, hox⟩
  have HX := Lib.hid ((Below.refl w7.heap.size w7).drew.trans hbx)
  have HT1 := Lib.hid (show T3R wj a17 n s from ER.of_owns HSR.out.len hox)
  clear hbx hox
  go_wp2_with fail
  refine tailL_mk HX.out ?_
  refine mix_tail ?_; go_wp2_with fail
  refine (HCNN.out _ (HB.out.trans (HX.out.mono HB.out.size))).mono ?_
  rintro e18 wk ⟨a18, c18, rfl, hbx, htx⟩
  have HX := Lib.hid (HX.out.trans (hbx.mono HX.out.size))
  have HT1 := Lib.hid (HT1.out.below hbx)
  have HT2 := Lib.hid htx
  clear hbx htx
  go_wp2_with fail
  refine tailL_mk HX.out ?_
  refine mix_tail ?_; go_wp2_with fail
  refine (HCM.out _ (HB.out.trans (HX.out.mono HB.out.size))).mono ?_
  rintro e19 wm ⟨a19, c19, a20, c20, rfl, hbx, hix, hpx⟩
  have HX := Lib.hid (HX.out.trans (hbx.mono HX.out.size))
  have HT1 := Lib.hid (HT1.out.below hbx)
  have HT2 := Lib.hid (HT2.out.below hbx)
  have HT3 := Lib.hid hix
  have HT4 := Lib.hid hpx
  clear hbx hix hpx
  go_wp2_with fail
  refine tailL_mk HX.out ?_
  refine mix_tail ?_; go_wp2_with fail
  refine (HXP.out a17 a18 a19 a20 c17 c18 c19 c20 _ HT1.out HT2.out HT3.out HT4.out).mono ?_
  rintro e21 w8 ⟨a21, k21, c21, rfl, hb8, hr8⟩
  have HX := Lib.hid (HX.out.trans (hb8.mono HX.out.size))
  have HLN1 := Lib.hid hr8.len
  have HRA := Lib.hid hr8
  clear hb8 hr8 HT1 HT2 HT3 HT4 HXP
  go_wp2_with fail
  refine tailL_mk HX.out ?_
  repeat (refine mix_head ?_; (show wpQuiet _ _ _ _ (_ :: _) _; go_big_quiet_step (fail)); refine wpQuiet_nil ?_)
  refine mix_nil ?_
  have hbx := HX.out
  have hzx := hbx.size
  have q0 : w8.cell? ⟨w.heap.size, 0, none⟩ = some (.slice a n c) := by { rw [cellB hbx _ _ (by first | (simp; done) | (simp; omega) | omega)]; all_goals (first | assumption | go_simp) }; have v0 : w8.cell? ⟨w.heap.size + 1, 2, none⟩ = some (.slice aq q cq) := by { rw [cellB hbx _ _ (by first | (simp; done) | (simp; omega) | omega)]; all_goals (first | assumption | go_simp) }; have y0 : w8.cell? ⟨X7, 0, none⟩ = some (.slice af nf cf) := by { rw [cellB hbx _ _ (by first | (simp; done) | (simp; omega) | omega)]; all_goals (first | assumption | go_simp) }; have z0 : w8.cell? ⟨X7, 1, none⟩ = some (.slice ar nr cr) := by { rw [cellB hbx _ _ (by first | (simp; done) | (simp; omega) | omega)]; all_goals (first | assumption | go_simp) }; have l0 : w.heap.size + 1 < w8.heap.size := by { omega }; have j0 : w.heap.size < w8.heap.size := by { omega }; have x0 : X7 < w8.heap.size := by { omega }
  have HB := Lib.hid (HB.out.trans (hbx.mono HB.out.size))
  clear q1 v1 y1 z1 l1 j1 x1 hzx
  clear hbx HX
  go_wp2_with fail
  refine wp_region_laterM (B := w8.heap.size) [(true, 0), (true, 2), (true, 4), (true, 6), (true, 7), (false, 1), (false, 3), (false, 5), (false, 8), (true, 9), (false, 10), (true, 11), (true, 12), (true, 13), (true, 14), (true, 15)] (by kernel_rfl) (by kernel_rfl) ?_; simp only [opsOf, List.filterMap_cons, List.filterMap_nil, List.getElem?_toArray, List.getElem?_cons_zero, List.getElem?_cons_succ, Option.map_some]
  repeat (refine mix_head ?_; (show wpQuiet _ _ _ _ (_ :: _) _; go_big_quiet_step (fail)); refine wpQuiet_nil ?_)
  refine mix_tail ?_; go_wp2_with fail
  refine (HCN.out _ (HB.out.trans (Below.mono (show Below w8.heap.size w8 _ by (repeat' (first | (with_reducible exact Below.refl _ _) | (with_reducible assumption) | (with_reducible refine Below.drewN ?_ _) | (with_reducible refine Below.alloc ?_ ?_ _) | (with_reducible refine Below.drew ?_) | (with_reducible refine Below.setCell ?_ ?_ _) | (with_reducible refine Below.step (by assumption) ?_ ?_) | (with_reducible exact And.left (by assumption)) | go_size))) HB.out.size))).mono ?_
  rintro e17 wj ⟨a17, c17, rfl, hbx, hox⟩
  have HX := Lib.hid ((Below.refl w8.heap.size w8).drew.trans hbx)
  have HT1 := Lib.hid (show T3R wj a17 n s from ER.of_owns HSR.out.len hox)
  clear hbx hox
  go_wp2_with fail
  refine tailL_mk HX.out ?_
  refine mix_tail ?_; go_wp2_with fail
  refine (HCNN.out _ (HB.out.trans (HX.out.mono HB.out.size))).mono ?_
  rintro e18 wk ⟨a18, c18, rfl, hbx, htx⟩
  have HX := Lib.hid (HX.out.trans (hbx.mono HX.out.size))
  have HT1 := Lib.hid (HT1.out.below hbx)
  have HT2 := Lib.hid htx
  clear hbx htx
  go_wp2_with fail
  refine tailL_mk HX.out ?_
  refine mix_tail ?_; go_wp2_with fail
  refine (HCM.out _ (HB.out.trans (HX.out.mono HB.out.size))).mono ?_
  rintro e19 wm ⟨a19, c19, a20, c20, rfl, hbx, hix, hpx⟩
  have HX := Lib.hid (HX.out.trans (hbx.mono HX.out.size))
  have HT1 := Lib.hid (HT1.out.below hbx)
  have HT2 := Lib.hid (HT2.out.below hbx)
  have HT3 := Lib.hid hix
  have HT4 := Lib.hid hpx
  clear hbx hix hpx
  go_wp2_with fail
  refine tailL_mk HX.out ?_
  refine mix_tail ?_; go_wp2_with fail
  refine (copyInts_any S aq q cq _ (HS.out.below (HB.out.trans (HX.out.mono HB.out.size))) (by omega)).mono ?_
  rintro e20 wo ⟨a22, c22, rfl, hbo, hoo⟩
  have HX := Lib.hid (HX.out.trans (hbo.mono HX.out.size))
  have HT1 := Lib.hid (HT1.out.below hbo)
  have HT2 := Lib.hid (HT2.out.below hbo)
  have HT3 := Lib.hid (HT3.out.below hbo)
  have HT4 := Lib.hid (HT4.out.below hbo)
  have HT5 := Lib.hid (show IntsR wo a22 q S from SlR.of_owns hoo)
  clear hbo hoo
  go_wp2_with fail
  refine tailL_mk HX.out ?_
  repeat (refine mix_head ?_; (show wpQuiet _ _ _ _ (_ :: _) _; go_big_quiet_step (fail)); refine wpQuiet_nil ?_)
  refine mix_tail ?_; go_wp2_with fail
  refine (HXE.out a17 a18 a19 a20 a22 c17 c18 c19 c20 c22 _ HT1.out HT2.out HT3.out HT4.out HT5.out).mono ?_
  rintro e23 w9 ⟨rfl, hb9⟩
  have HX := Lib.hid (HX.out.trans (hb9.mono HX.out.size))
  clear hb9 HT1 HT2 HT3 HT4 HT5 HXE
  go_wp2_with fail
  refine tailL_mk HX.out ?_
  repeat (refine mix_head ?_; (show wpQuiet _ _ _ _ (_ :: _) _; go_big_quiet_step (fail)); refine wpQuiet_nil ?_)
  refine mix_nil ?_
  have hbx := HX.out
  have HRA := Lib.hid (HRA.out.below hbx)
  have hzx := hbx.size
  have q1 : w9.cell? ⟨w.heap.size, 0, none⟩ = some (.slice a n c) := by { rw [cellB hbx _ _ (by first | (simp; done) | (simp; omega) | omega)]; all_goals (first | assumption | go_simp) }; have v1 : w9.cell? ⟨w.heap.size + 1, 2, none⟩ = some (.slice aq q cq) := by { rw [cellB hbx _ _ (by first | (simp; done) | (simp; omega) | omega)]; all_goals (first | assumption | go_simp) }; have y1 : w9.cell? ⟨X7, 0, none⟩ = some (.slice af nf cf) := by { rw [cellB hbx _ _ (by first | (simp; done) | (simp; omega) | omega)]; all_goals (first | assumption | go_simp) }; have z1 : w9.cell? ⟨X7, 1, none⟩ = some (.slice ar nr cr) := by { rw [cellB hbx _ _ (by first | (simp; done) | (simp; omega) | omega)]; all_goals (first | assumption | go_simp) }; have l1 : w.heap.size + 1 < w9.heap.size := by { omega }; have j1 : w.heap.size < w9.heap.size := by { omega }; have x1 : X7 < w9.heap.size := by { omega }
  have HB := Lib.hid (HB.out.trans (hbx.mono HB.out.size))
  clear q0 v0 y0 z0 l0 j0 x0 hzx
  clear hbx HX
  go_wp2_with fail
  refine (HME.out _ HB.out).mono ?_
  rintro e24 w10 ⟨rfl, hb10⟩
  have HRA := Lib.hid (HRA.out.below hb10)
  have hzx := hb10.size
  have q0 : w10.cell? ⟨w.heap.size, 0, none⟩ = some (.slice a n c) := by { rw [cellB hb10 _ _ (by first | (simp; done) | (simp; omega) | omega)]; all_goals (first | assumption | go_simp) }; have v0 : w10.cell? ⟨w.heap.size + 1, 2, none⟩ = some (.slice aq q cq) := by { rw [cellB hb10 _ _ (by first | (simp; done) | (simp; omega) | omega)]; all_goals (first | assumption | go_simp) }; have y0 : w10.cell? ⟨X7, 0, none⟩ = some (.slice af nf cf) := by { rw [cellB hb10 _ _ (by first | (simp; done) | (simp; omega) | omega)]; all_goals (first | assumption | go_simp) }; have z0 : w10.cell? ⟨X7, 1, none⟩ = some (.slice ar nr cr) := by { rw [cellB hb10 _ _ (by first | (simp; done) | (simp; omega) | omega)]; all_goals (first | assumption | go_simp) }; have l0 : w.heap.size + 1 < w10.heap.size := by { omega }; have j0 : w.heap.size < w10.heap.size := by { omega }; have x0 : X7 < w10.heap.size := by { omega }
  have HB := Lib.hid (HB.out.trans (hb10.mono HB.out.size))
  clear q1 v1 y1 z1 l1 j1 x1 hzx
  clear hb10 HME HCN HCNN HCM HFS
  by_cases h0 : E = 0
  · subst h0
    have HXL := Lib.hid (HXL.out.trans (xplE_out HE.out.symm))
    have HRXa := Lib.hid (HRX.out rfl)
    have HREa := Lib.hid (HRE.out rfl)
    have HEBa := Lib.hid (show (B, F) = if setE m S ≠ 0 then (false, setE m S) else (expB s l fs rs S, 0) by rw [HEB.out]; unfold expE; rw [if_neg (by rw [← HE.out]; decide), HLN.out])
    rw [HLN.out] at HXL
    clear HRX HRE HEB HE
    go_wp2_with fail
    refine (HRXa.out _ HB.out).mono ?_
    rintro e25 w11 ⟨a25, k25, c25, rfl, hb11, hr11⟩
    have HLN2 := Lib.hid hr11.len
    have HRA := Lib.hid (HRA.out.below hb11)
    have HRB := Lib.hid hr11
    have hzx := hb11.size
    have q1 : w11.cell? ⟨w.heap.size, 0, none⟩ = some (.slice a n c) := by { rw [cellB hb11 _ _ (by first | (simp; done) | (simp; omega) | omega)]; all_goals (first | assumption | go_simp) }; have v1 : w11.cell? ⟨w.heap.size + 1, 2, none⟩ = some (.slice aq q cq) := by { rw [cellB hb11 _ _ (by first | (simp; done) | (simp; omega) | omega)]; all_goals (first | assumption | go_simp) }; have y1 : w11.cell? ⟨X7, 0, none⟩ = some (.slice af nf cf) := by { rw [cellB hb11 _ _ (by first | (simp; done) | (simp; omega) | omega)]; all_goals (first | assumption | go_simp) }; have z1 : w11.cell? ⟨X7, 1, none⟩ = some (.slice ar nr cr) := by { rw [cellB hb11 _ _ (by first | (simp; done) | (simp; omega) | omega)]; all_goals (first | assumption | go_simp) }; have l1 : w.heap.size + 1 < w11.heap.size := by { omega }; have j1 : w.heap.size < w11.heap.size := by { omega }; have x1 : X7 < w11.heap.size := by { omega }
    have HB := Lib.hid (HB.out.trans (hb11.mono HB.out.size))
    clear q0 v0 y0 z0 l0 j0 x0 hzx
    clear hb11 hr11 HRXa
    generalize outX (fun S => expB s l fs rs (nats S)) m (2 ^ m) = OX at *
    have hXL := HXL.out
    rw [Prod.mk.injEq] at hXL
    obtain ⟨rfl, hXE⟩ := hXL
    obtain rfl : k21 = k25 := by rw [← HLN1.out, ← HLN2.out]
    clear HXL
    by_cases hk : k21 = 0
    · subst hk
      have hX0 : XL = [] := List.length_eq_zero_iff.1 HLN1.out
      rw [if_pos hX0] at hXE
      subst hXE
      clear hX0
      go_wp2_with fail
      go_loopw [14] (fun i wr => ∃ k : Nat, i = .int .i64 k ∧ k ≤ q ∧ Hid (∀ j, j < k → clE m S j = 0) ∧ Hid (Below w11.heap.size w11 wr)) (fun i _ => q - (intOf i).toNat)
      case atStart => exact ⟨0, rfl, Nat.zero_le _, Lib.hid (fun j hj => absurd hj (by omega)), Lib.hid (Below.refl _ _)⟩
      case round =>
        obtain ⟨k, rfl, hk, hC, hB⟩ := hrel
        have i0 : (0 : Int) ≤ (k : Int) := by omega
        have hbr := hB.out
        have hzx := hbr.size
        have q9 : wr.cell? ⟨w.heap.size, 0, none⟩ = some (.slice a n c) := by { rw [cellB hbr _ _ (by first | (simp; done) | (simp; omega) | omega)]; all_goals (first | assumption | go_simp) }; have v9 : wr.cell? ⟨w.heap.size + 1, 2, none⟩ = some (.slice aq q cq) := by { rw [cellB hbr _ _ (by first | (simp; done) | (simp; omega) | omega)]; all_goals (first | assumption | go_simp) }; have y9 : wr.cell? ⟨X7, 0, none⟩ = some (.slice af nf cf) := by { rw [cellB hbr _ _ (by first | (simp; done) | (simp; omega) | omega)]; all_goals (first | assumption | go_simp) }; have z9 : wr.cell? ⟨X7, 1, none⟩ = some (.slice ar nr cr) := by { rw [cellB hbr _ _ (by first | (simp; done) | (simp; omega) | omega)]; all_goals (first | assumption | go_simp) }; have l9 : w.heap.size + 1 < wr.heap.size := by { omega }; have j9 : w.heap.size < wr.heap.size := by { omega }; have x9 : X7 < wr.heap.size := by { omega }
        have HB := Lib.hid (HB.out.trans (hbr.mono HB.out.size))
        clear q1 v1 y1 z1 l1 j1 x1 hzx
        clear hbr
        by_cases hlt : k < q
        · have i1 : (k : Int) < (q : Int) := by omega
          have hSW := HS.out.below HB.out
          obtain ⟨b0, o0, rfl, hb0⟩ := hSW.block (by omega)
          have c0 := hSW.cellI hlt
          have hks : k < S.length := by rw [HSN.out]; exact hlt
          obtain ⟨wb, hwb⟩ : ∃ b, b = wi (S.getD k 0) 0 ((m : Int) - 1) := ⟨_, rfl⟩
          have HXX := Lib.hid (fun w' => bwithin_any (S.getD k 0) 0 ((m : Int) - 1) w')
          rw [← hwb] at HXX
          have HCL := Lib.hid (show clE m S k = firstErr [unl wb 6, unl (decide (k = 0) || decide (S.getD (k - 1) 0 < S.getD k 0)) 9] by rw [hwb]; rfl)
          have HAT := Lib.hid (show clE m S k ≠ 0 → (B, F) = (false, clE m S k) from fun h => by rw [HEBa.out, setE_at hks hC.out h, if_pos h])
          clear hwb hks
          cases wb
          · generalize S.getD k 0 = x at *
            have hcl : clE m S k = 6 := by rw [HCL.out]; simp [firstErr, unl]
            have hat := HAT.out (by rw [hcl]; decide)
            rw [hcl, Prod.mk.injEq] at hat
            obtain ⟨rfl, rfl⟩ := hat
            clear hcl hSW
            go_wp2_with fail
            refine (HXX.out _).mono ?_
            rintro e27 w27 ⟨rfl, rfl⟩
            go_wp2
            go_ret
            exact ⟨ret_bool (by simp), HB.out⟩
          · by_cases hk0 : k = 0
            · subst hk0
              have HC2 := Lib.hid (show ∀ j, j < 0 + 1 → clE m S j = 0 from fun j hj => by
                obtain rfl : j = 0 := by omega
                rw [HCL.out]; simp [firstErr, unl])
              rw [Nat.add_zero] at c0
              generalize S.getD 0 0 = x at *
              clear hSW HCL HAT
              go_wp2_with fail
              refine (HXX.out _).mono ?_
              rintro e27 w27 ⟨rfl, rfl⟩
              go_wp2_with fail
              go_quiet (fail)
              go_wp2
              go_roundw
              case rel => exact ⟨0 + 1, by go_num, by omega, HC2, Lib.hid (hB.out.drewN _)⟩
              case measure => simp [intOf]; omega
            · have c1 := hSW.cellI (show k - 1 < q by omega)
              have hkb : 0 < k := by omega
              have w1' : IntKind.i64.wrap ((k : Int) - 1) = (k : Int) - 1 := by rw [IntKind.wrap_i64]; omega
              have w2 : ((k : Int) - 1).toNat = k - 1 := by omega
              have w3 : (0 : Int) < (k : Int) := by omega
              have w4' : (0 : Int) ≤ (k : Int) - 1 := by omega
              have w5' : (k : Int) - 1 < (q : Int) := by omega
              generalize S.getD k 0 = x at *
              generalize S.getD (k - 1) 0 = y at *
              by_cases hlx : y < x
              · have HC2 := Lib.hid (show ∀ j, j < k + 1 → clE m S j = 0 from fun j hj => by
                  rcases Nat.lt_or_ge j k with h | h
                  · exact hC.out j h
                  · obtain rfl : j = k := by omega
                    rw [HCL.out, decide_eq_true hlx]; simp [firstErr, unl])
                have g7 : decide (x ≤ y) = false := decide_eq_false (by omega)
                have g7' : (x ≤ y) = False := by simp; omega
                clear hSW HCL HAT hlx hk0
                go_wp2_with fail
                refine (HXX.out _).mono ?_
                rintro e27 w27 ⟨rfl, rfl⟩
                go_wp2_with fail
                go_quiet (fail)
                go_wp2
                go_roundw
                case rel => exact ⟨k + 1, by go_num, by omega, HC2, Lib.hid (hB.out.drewN _)⟩
                case measure => simp [intOf]; omega
              · have hcl : clE m S k = 9 := by rw [HCL.out, decide_eq_false hlx, decide_eq_false hk0]; simp [firstErr, unl]
                have hat := HAT.out (by rw [hcl]; decide)
                rw [hcl, Prod.mk.injEq] at hat
                obtain ⟨rfl, rfl⟩ := hat
                have g7 : decide (x ≤ y) = true := decide_eq_true (by omega)
                have g7' : (x ≤ y) = True := by simp; omega
                clear hSW hcl hlx hk0
                go_wp2_with fail
                refine (HXX.out _).mono ?_
                rintro e27 w27 ⟨rfl, rfl⟩
                go_wp2_with fail
                go_quiet (fail)
                go_wp2
                go_ret
                exact ⟨ret_bool (by simp), HB.out.drewN _⟩
        · obtain rfl : q = k := by omega
          have hSE : setE m S = 0 := by
            unfold setE
            rw [firstAt_all]
            intro j _ hj
            exact hC.out j (by have := HSN.out; omega)
          have hat := HEBa.out
          rw [hSE, if_neg (by decide), Prod.mk.injEq] at hat
          obtain ⟨hbv, rfl⟩ := hat
          obtain ⟨T, hT, hTm⟩ := setE_nats hSE
          have HBV := Lib.hid (show expB s l fs rs (nats T) = B by rw [hT, hbv])
          have HRT := Lib.hid (HREa.out T hT (fun i hi => ((ext_mem _ _ _ _).1 hTm).2.2 i hi |>.2))
          rw [HBV.out] at HRT
          clear hSE hbv hTm hT HREa
          go_wp2_with fail
          refine (HRT.out _ HB.out).mono ?_
          rintro e28 w28 ⟨rfl, hb28⟩
          have HB := Lib.hid (HB.out.trans (hb28.mono HB.out.size))
          clear hb28
          go_wp2
          go_ret
          exact ⟨ret_bool (by cases B <;> rfl), HB.out⟩
    · have hX0 : XL ≠ [] := fun e => by have := HLN1.out; rw [e] at this; simp at this; omega
      rw [if_neg hX0] at hXE
      subst hXE
      have u1 : ((k21 : Int) == 0) = false := by simp; omega
      have u2 : (0 < (k21 : Int)) = True := by simp; omega
      have u2' : decide (0 < (k21 : Int)) = true := decide_eq_true (by omega)
      have HLS := Lib.hid (fun (W : World) (hb : Below w11.heap.size w11 W) => show Calls Tryz.prog 23 #[.slice a21 k21 c21, .slice a25 k21 c25] W fun e' w' => e' = .returned (.bool true) ∧ ∃ m, w' = W.drewN m by
        have h := lists_any XL XL a21 a25 k21 c21 k21 c25 W (HRA.out.below hb) (HRB.out.below hb)
        rw [decide_eq_true rfl] at h
        exact h)
      clear hX0
      go_wp2_with fail
      refine (HLS.out _ (Below.refl _ _)).mono ?_
      rintro e26 w12 ⟨rfl, n26, hw12⟩
      have hb12 : Below w11.heap.size w11 w12 := by rw [hw12]; exact (Below.refl _ _).drewN _
      have hzx := hb12.size
      have q0 : w12.cell? ⟨w.heap.size, 0, none⟩ = some (.slice a n c) := by { rw [cellB hb12 _ _ (by first | (simp; done) | (simp; omega) | omega)]; all_goals (first | assumption | go_simp) }; have v0 : w12.cell? ⟨w.heap.size + 1, 2, none⟩ = some (.slice aq q cq) := by { rw [cellB hb12 _ _ (by first | (simp; done) | (simp; omega) | omega)]; all_goals (first | assumption | go_simp) }; have y0 : w12.cell? ⟨X7, 0, none⟩ = some (.slice af nf cf) := by { rw [cellB hb12 _ _ (by first | (simp; done) | (simp; omega) | omega)]; all_goals (first | assumption | go_simp) }; have z0 : w12.cell? ⟨X7, 1, none⟩ = some (.slice ar nr cr) := by { rw [cellB hb12 _ _ (by first | (simp; done) | (simp; omega) | omega)]; all_goals (first | assumption | go_simp) }; have l0 : w.heap.size + 1 < w12.heap.size := by { omega }; have j0 : w.heap.size < w12.heap.size := by { omega }; have x0 : X7 < w12.heap.size := by { omega }
      have HB := Lib.hid (HB.out.trans (hb12.mono HB.out.size))
      clear q1 v1 y1 z1 l1 j1 x1 hzx
      clear hw12 hb12 HLS
      go_wp2_with fail
      go_loopw [14] (fun i wr => ∃ k : Nat, i = .int .i64 k ∧ k ≤ q ∧ Hid (∀ j, j < k → clE m S j = 0) ∧ Hid (Below w12.heap.size w12 wr)) (fun i _ => q - (intOf i).toNat)
      case atStart => exact ⟨0, rfl, Nat.zero_le _, Lib.hid (fun j hj => absurd hj (by omega)), Lib.hid (Below.refl _ _)⟩
      case round =>
        obtain ⟨k, rfl, hk, hC, hB⟩ := hrel
        have i0 : (0 : Int) ≤ (k : Int) := by omega
        have hbr := hB.out
        have hzx := hbr.size
        have q9 : wr.cell? ⟨w.heap.size, 0, none⟩ = some (.slice a n c) := by { rw [cellB hbr _ _ (by first | (simp; done) | (simp; omega) | omega)]; all_goals (first | assumption | go_simp) }; have v9 : wr.cell? ⟨w.heap.size + 1, 2, none⟩ = some (.slice aq q cq) := by { rw [cellB hbr _ _ (by first | (simp; done) | (simp; omega) | omega)]; all_goals (first | assumption | go_simp) }; have y9 : wr.cell? ⟨X7, 0, none⟩ = some (.slice af nf cf) := by { rw [cellB hbr _ _ (by first | (simp; done) | (simp; omega) | omega)]; all_goals (first | assumption | go_simp) }; have z9 : wr.cell? ⟨X7, 1, none⟩ = some (.slice ar nr cr) := by { rw [cellB hbr _ _ (by first | (simp; done) | (simp; omega) | omega)]; all_goals (first | assumption | go_simp) }; have l9 : w.heap.size + 1 < wr.heap.size := by { omega }; have j9 : w.heap.size < wr.heap.size := by { omega }; have x9 : X7 < wr.heap.size := by { omega }
        have HB := Lib.hid (HB.out.trans (hbr.mono HB.out.size))
        clear q0 v0 y0 z0 l0 j0 x0 hzx
        clear hbr
        by_cases hlt : k < q
        · have i1 : (k : Int) < (q : Int) := by omega
          have hSW := HS.out.below HB.out
          obtain ⟨b0, o0, rfl, hb0⟩ := hSW.block (by omega)
          have c0 := hSW.cellI hlt
          have hks : k < S.length := by rw [HSN.out]; exact hlt
          obtain ⟨wb, hwb⟩ : ∃ b, b = wi (S.getD k 0) 0 ((m : Int) - 1) := ⟨_, rfl⟩
          have HXX := Lib.hid (fun w' => bwithin_any (S.getD k 0) 0 ((m : Int) - 1) w')
          rw [← hwb] at HXX
          have HCL := Lib.hid (show clE m S k = firstErr [unl wb 6, unl (decide (k = 0) || decide (S.getD (k - 1) 0 < S.getD k 0)) 9] by rw [hwb]; rfl)
          have HAT := Lib.hid (show clE m S k ≠ 0 → (B, F) = (false, clE m S k) from fun h => by rw [HEBa.out, setE_at hks hC.out h, if_pos h])
          clear hwb hks
          cases wb
          · generalize S.getD k 0 = x at *
            have hcl : clE m S k = 6 := by rw [HCL.out]; simp [firstErr, unl]
            have hat := HAT.out (by rw [hcl]; decide)
            rw [hcl, Prod.mk.injEq] at hat
            obtain ⟨rfl, rfl⟩ := hat
            clear hcl hSW
            go_wp2_with fail
            refine (HXX.out _).mono ?_
            rintro e27 w27 ⟨rfl, rfl⟩
            go_wp2
            go_ret
            exact ⟨ret_bool (by simp), HB.out⟩
          · by_cases hk0 : k = 0
            · subst hk0
              have HC2 := Lib.hid (show ∀ j, j < 0 + 1 → clE m S j = 0 from fun j hj => by
                obtain rfl : j = 0 := by omega
                rw [HCL.out]; simp [firstErr, unl])
              rw [Nat.add_zero] at c0
              generalize S.getD 0 0 = x at *
              clear hSW HCL HAT
              go_wp2_with fail
              refine (HXX.out _).mono ?_
              rintro e27 w27 ⟨rfl, rfl⟩
              go_wp2_with fail
              go_quiet (fail)
              go_wp2
              go_roundw
              case rel => exact ⟨0 + 1, by go_num, by omega, HC2, Lib.hid (hB.out.drewN _)⟩
              case measure => simp [intOf]; omega
            · have c1 := hSW.cellI (show k - 1 < q by omega)
              have hkb : 0 < k := by omega
              have w1' : IntKind.i64.wrap ((k : Int) - 1) = (k : Int) - 1 := by rw [IntKind.wrap_i64]; omega
              have w2 : ((k : Int) - 1).toNat = k - 1 := by omega
              have w3 : (0 : Int) < (k : Int) := by omega
              have w4' : (0 : Int) ≤ (k : Int) - 1 := by omega
              have w5' : (k : Int) - 1 < (q : Int) := by omega
              generalize S.getD k 0 = x at *
              generalize S.getD (k - 1) 0 = y at *
              by_cases hlx : y < x
              · have HC2 := Lib.hid (show ∀ j, j < k + 1 → clE m S j = 0 from fun j hj => by
                  rcases Nat.lt_or_ge j k with h | h
                  · exact hC.out j h
                  · obtain rfl : j = k := by omega
                    rw [HCL.out, decide_eq_true hlx]; simp [firstErr, unl])
                have g7 : decide (x ≤ y) = false := decide_eq_false (by omega)
                have g7' : (x ≤ y) = False := by simp; omega
                clear hSW HCL HAT hlx hk0
                go_wp2_with fail
                refine (HXX.out _).mono ?_
                rintro e27 w27 ⟨rfl, rfl⟩
                go_wp2_with fail
                go_quiet (fail)
                go_wp2
                go_roundw
                case rel => exact ⟨k + 1, by go_num, by omega, HC2, Lib.hid (hB.out.drewN _)⟩
                case measure => simp [intOf]; omega
              · have hcl : clE m S k = 9 := by rw [HCL.out, decide_eq_false hlx, decide_eq_false hk0]; simp [firstErr, unl]
                have hat := HAT.out (by rw [hcl]; decide)
                rw [hcl, Prod.mk.injEq] at hat
                obtain ⟨rfl, rfl⟩ := hat
                have g7 : decide (x ≤ y) = true := decide_eq_true (by omega)
                have g7' : (x ≤ y) = True := by simp; omega
                clear hSW hcl hlx hk0
                go_wp2_with fail
                refine (HXX.out _).mono ?_
                rintro e27 w27 ⟨rfl, rfl⟩
                go_wp2_with fail
                go_quiet (fail)
                go_wp2
                go_ret
                exact ⟨ret_bool (by simp), HB.out.drewN _⟩
        · obtain rfl : q = k := by omega
          have hSE : setE m S = 0 := by
            unfold setE
            rw [firstAt_all]
            intro j _ hj
            exact hC.out j (by have := HSN.out; omega)
          have hat := HEBa.out
          rw [hSE, if_neg (by decide), Prod.mk.injEq] at hat
          obtain ⟨hbv, rfl⟩ := hat
          obtain ⟨T, hT, hTm⟩ := setE_nats hSE
          have HBV := Lib.hid (show expB s l fs rs (nats T) = B by rw [hT, hbv])
          have HRT := Lib.hid (HREa.out T hT (fun i hi => ((ext_mem _ _ _ _).1 hTm).2.2 i hi |>.2))
          rw [HBV.out] at HRT
          clear hSE hbv hTm hT HREa
          go_wp2_with fail
          refine (HRT.out _ HB.out).mono ?_
          rintro e28 w28 ⟨rfl, hb28⟩
          have HB := Lib.hid (HB.out.trans (hb28.mono HB.out.size))
          clear hb28
          go_wp2
          go_ret
          exact ⟨ret_bool (by cases B <;> rfl), HB.out⟩
  · have hXL := HXL.out
    rw [xplE_bad (by rw [← HE.out]; exact h0), ← HE.out, Prod.mk.injEq] at hXL
    obtain ⟨rfl, hx2⟩ := hXL
    have hEB := HEB.out
    unfold expE at hEB
    rw [if_pos (by rw [← HE.out]; exact h0), ← HE.out, Prod.mk.injEq] at hEB
    obtain ⟨rfl, hf2⟩ := hEB
    obtain rfl : 0 = k21 := HLN1.out
    have u1 := bne_iff_ne.2 h0
    clear h0 HRX HRE HEB HE HXL
    subst hx2 hf2
    go_wp2
    go_ret
    exact ⟨ret_bool (by simp), HB.out⟩
theorem xpl_walk (s : List T3) (a : Option Addr) (n c : Nat) (l : List T3) (ap : Option Addr) (m cm : Nat) (fs : List Int) (af : Option Addr) (nf cf : Nat) (rs : List (Int × Int)) (ar : Option Addr) (nr cr : Nat) (S : List Int) (aq : Option Addr) (q cq : Nat) (w : World) (hs : T3R w a n s) (hl : T3R w ap m l) (hf : IntsR w af nf fs) (hr : PairsR w ar nr rs) (hS : IntsR w aq q S) :
    Calls Tryz.prog 3 #[.agg #[.slice a n c], .slice ap m cm, .agg #[.slice af nf cf, .slice ar nr cr, .slice aq q cq]] w fun e' w' => e' = .returned (.bool true) ∧ Below w.heap.size w w' := by
  by_cases h : n ≤ 5 ∧ m ≤ 8 ∧ nf ≤ 10 ∧ nr ≤ 10 ∧ q ≤ 8
  · exact xpl_main n c m cm nf cf nr cr q cq a ap af ar aq s l fs S rs w hs hl hf hr hS h.1 h.2.1 h.2.2.1 h.2.2.2.1 h.2.2.2.2
  · exact xpl_few n c m cm nf cf nr cr q cq a ap af ar aq s l fs S rs w hs hl hf hr hS h
end Go.Proofs.YthkekjgdknnaiaaGreat
