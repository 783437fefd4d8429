import Derived.Test.YtbjgklifmillgaaGreatRSteep
import Derived.Test.YtbjgklifmillgaaGreatRat2
/- Quotients in memory: RatioFrac. -/
namespace Go.Proofs.YtbjgklifmillgaaGreat
open Go.RowKit
set_option linter.unusedVariables false

/-- The parts of a quotient are small. -/
def smallQ (q : Rat) : Bool := wi q.num (-1000000000) 1000000000 && wi (q.den : Int) 1 1000000000
set_option maxHeartbeats 1000000 in
set_option maxRecDepth 100000 in
theorem ratioFrac_any (p : Nat → Prop) (v : Value) (q : Rat) (w : World) (h : RatioR p w v q) :
    Calls Tryz.prog 45 #[v] w fun e' w' => e' = .returned (if smallQ q = true then .tuple #[.agg #[.int .i64 q.num, .int .i64 q.den], .bool true] else .tuple #[.agg #[.int .i64 0, .int .i64 0], .bool false]) ∧ Below w.heap.size w w' := by
  have HR := Lib.hid h
  obtain ⟨s, a, n, c, t, a2, n2, c2, rfl, _, _⟩ := h
  have HI1 := Lib.hid (fun (w' : World) (hb : Below w.heap.size w w') => wideInt_any p _ q.num w' (HR.out.below hb).parts.1)
  have HI2 := Lib.hid (fun (w' : World) (hb : Below w.heap.size w w') => wideInt_any p _ (q.den : Int) w' (HR.out.below hb).parts.2)
  clear HR
  obtain ⟨x, hx⟩ : ∃ x, x = q.num := ⟨_, rfl⟩
  obtain ⟨y, hy⟩ : ∃ y : Int, y = (q.den : Int) := ⟨_, rfl⟩
  obtain ⟨b1, hb1⟩ : ∃ b, b = decide ((x.natAbs : Int) < 1000000000000000000) := ⟨_, rfl⟩
  obtain ⟨b2, hb2⟩ : ∃ b, b = decide ((y.natAbs : Int) < 1000000000000000000) := ⟨_, rfl⟩
  obtain ⟨b3, hb3⟩ : ∃ b, b = (wi x (-1000000000) 1000000000 && wi y 1 1000000000) := ⟨_, rfl⟩
  have hS : smallQ q = b3 := by rw [hb3]; unfold smallQ; rw [hx, hy]
  rw [← hx] at HI1
  rw [← hy] at HI2
  rw [hS, ← hx, ← hy]
  have hbd1 : b1 = true → -999999999999999999 ≤ x ∧ x ≤ 999999999999999999 := fun h => by rw [h] at hb1; have := of_decide_eq_true hb1.symm; omega
  have hi1 : ∀ w', (if (x.natAbs : Int) < 1000000000000000000 then Value.tuple #[.int .i64 x, .bool true] else .tuple #[.int .i64 0, .bool false]) = (if b1 = true then Value.tuple #[.int .i64 x, .bool true] else .tuple #[.int .i64 0, .bool false]) ∧ (w' : World) = w' := fun w' => ⟨by rw [hb1]; simp, rfl⟩
  have hi2 : (if (y.natAbs : Int) < 1000000000000000000 then Value.tuple #[.int .i64 y, .bool true] else .tuple #[.int .i64 0, .bool false]) = (if b2 = true then Value.tuple #[.int .i64 y, .bool true] else .tuple #[.int .i64 0, .bool false]) := by rw [hb2]; simp
  rw [(hi1 w).1] at HI1
  rw [hi2] at HI2
  have HSM := Lib.hid (fun w' => bisSmall_any x y w')
  rw [← hb3] at HSM
  have hq1 : b1 = false → b3 = false := fun h => by
    rw [h] at hb1
    have h1 := of_decide_eq_false hb1.symm
    rw [hb3]
    have : wi x (-1000000000) 1000000000 = false := wi_false.2 (by omega)
    rw [this]; rfl
  have hq2 : b2 = false → b3 = false := fun h => by
    rw [h] at hb2
    have h1 := of_decide_eq_false hb2.symm
    rw [hb3]
    have : wi y 1 1000000000 = false := wi_false.2 (by omega)
    rw [this, Bool.and_false]
  clear hi1 hi2 hbd1 hb1 hb2 hb3 hS hx hy
  go_enter Tryz.func45, Tryz.ntmps45
  go_wp2_with fail
  refine (HI1.out _ (by (repeat' (first | (with_reducible exact Below.refl _ _) | (with_reducible assumption) | (with_reducible refine Below.drewN ?_ _) | (with_reducible refine Below.alloc ?_ ?_ _) | (with_reducible refine Below.drew ?_) | (with_reducible refine Below.setCell ?_ ?_ _) | (with_reducible refine Below.step (by assumption) ?_ ?_) | (with_reducible exact And.left (by assumption)) | go_size)))).mono ?_
  rintro e5 w5 ⟨rfl, hb5⟩
  have hz5 := hb5.size
  simp only [World.size_alloc] at hz5
  have q0 : w5.cell? ⟨w.heap.size, 0, none⟩ = some (.int .i64 s) := by { rw [cellB hb5 _ _ (by first | (simp; done) | (simp; omega) | omega)]; all_goals (first | assumption | go_simp) }; have q1 : w5.cell? ⟨w.heap.size, 1, none⟩ = some (.slice a n c) := by { rw [cellB hb5 _ _ (by first | (simp; done) | (simp; omega) | omega)]; all_goals (first | assumption | go_simp) }; have q2 : w5.cell? ⟨w.heap.size, 2, none⟩ = some (.int .i64 t) := by { rw [cellB hb5 _ _ (by first | (simp; done) | (simp; omega) | omega)]; all_goals (first | assumption | go_simp) }; have q3 : w5.cell? ⟨w.heap.size, 3, none⟩ = some (.slice a2 n2 c2) := by { rw [cellB hb5 _ _ (by first | (simp; done) | (simp; omega) | omega)]; all_goals (first | assumption | go_simp) }; have z0 : w5.cell? ⟨w.heap.size + 1, 0, none⟩ = some (.int .i64 0) := by { rw [cellB hb5 _ _ (by first | (simp; done) | (simp; omega) | omega)]; all_goals (first | assumption | go_simp) }; have z1 : w5.cell? ⟨w.heap.size + 1, 1, none⟩ = some (.int .i64 0) := by { rw [cellB hb5 _ _ (by first | (simp; done) | (simp; omega) | omega)]; all_goals (first | assumption | go_simp) }; have f0 : w5.frozen? ⟨w.heap.size + 1, 0, none⟩ = false := by { rw [frozenB hb5 _ _ (by first | (simp; done) | (simp; omega) | omega)]; all_goals (first | assumption | go_simp) }; have f1 : w5.frozen? ⟨w.heap.size + 1, 1, none⟩ = false := by { rw [frozenB hb5 _ _ (by first | (simp; done) | (simp; omega) | omega)]; all_goals (first | assumption | go_simp) }
  have HBv := Lib.hid (show Below w.heap.size w w5 by (repeat' (first | (with_reducible exact Below.refl _ _) | (with_reducible assumption) | (with_reducible refine Below.drewN ?_ _) | (with_reducible refine Below.alloc ?_ ?_ _) | (with_reducible refine Below.drew ?_) | (with_reducible refine Below.setCell ?_ ?_ _) | (with_reducible refine Below.step (by assumption) ?_ ?_) | (with_reducible exact And.left (by assumption)) | go_size)))
  clear hb5
  cases b1
  all_goals
    go_wp2_with fail
    refine (HI2.out _ HBv.out).mono ?_
    rintro e6 w6 ⟨rfl, hb6⟩
    have hz6 := hb6.size
    have z0' : w6.cell? ⟨w.heap.size + 1, 0, none⟩ = some (.int .i64 0) := by { rw [cellB hb6 _ _ (by first | (simp; done) | (simp; omega) | omega)]; all_goals (first | assumption | go_simp) }; have z1' : w6.cell? ⟨w.heap.size + 1, 1, none⟩ = some (.int .i64 0) := by { rw [cellB hb6 _ _ (by first | (simp; done) | (simp; omega) | omega)]; all_goals (first | assumption | go_simp) }; have f0' : w6.frozen? ⟨w.heap.size + 1, 0, none⟩ = false := by { rw [frozenB hb6 _ _ (by first | (simp; done) | (simp; omega) | omega)]; all_goals (first | assumption | go_simp) }; have f1' : w6.frozen? ⟨w.heap.size + 1, 1, none⟩ = false := by { rw [frozenB hb6 _ _ (by first | (simp; done) | (simp; omega) | omega)]; all_goals (first | assumption | go_simp) }; have l' : w.heap.size + 1 < w6.heap.size := by { omega }
    have HBv := Lib.hid (HBv.out.trans (hb6.mono (by omega)))
    clear hb6 q0 q1 q2 q3 z0 z1 f0 f1
  · obtain rfl : b3 = false := hq1 (by first | rfl | trivial)
    clear hq1 hq2
    cases b2
    · skip
      go_wp2
      refine bodyPost_ret (v := .tuple #[.agg #[.int .i64 0, .int .i64 0], .bool false]) (by simp [results, Tryz.results45, go_sem, *]) rfl ⟨by first | rfl | simp, ?_⟩
      have := HBv.out
      (repeat' (first | (with_reducible exact Below.refl _ _) | (with_reducible assumption) | (with_reducible refine Below.drewN ?_ _) | (with_reducible refine Below.alloc ?_ ?_ _) | (with_reducible refine Below.drew ?_) | (with_reducible refine Below.setCell ?_ ?_ _) | (with_reducible refine Below.step (by assumption) ?_ ?_) | (with_reducible exact And.left (by assumption)) | go_size))
    · skip
      go_wp2
      refine bodyPost_ret (v := .tuple #[.agg #[.int .i64 0, .int .i64 0], .bool false]) (by simp [results, Tryz.results45, go_sem, *]) rfl ⟨by first | rfl | simp, ?_⟩
      have := HBv.out
      (repeat' (first | (with_reducible exact Below.refl _ _) | (with_reducible assumption) | (with_reducible refine Below.drewN ?_ _) | (with_reducible refine Below.alloc ?_ ?_ _) | (with_reducible refine Below.drew ?_) | (with_reducible refine Below.setCell ?_ ?_ _) | (with_reducible refine Below.step (by assumption) ?_ ?_) | (with_reducible exact And.left (by assumption)) | go_size))
  · cases b2
    · obtain rfl : b3 = false := hq2 (by first | rfl | trivial)
      clear hq1 hq2
      go_wp2
      refine bodyPost_ret (v := .tuple #[.agg #[.int .i64 0, .int .i64 0], .bool false]) (by simp [results, Tryz.results45, go_sem, *]) rfl ⟨by first | rfl | simp, ?_⟩
      have := HBv.out
      (repeat' (first | (with_reducible exact Below.refl _ _) | (with_reducible assumption) | (with_reducible refine Below.drewN ?_ _) | (with_reducible refine Below.alloc ?_ ?_ _) | (with_reducible refine Below.drew ?_) | (with_reducible refine Below.setCell ?_ ?_ _) | (with_reducible refine Below.step (by assumption) ?_ ?_) | (with_reducible exact And.left (by assumption)) | go_size))
    · clear hq1 hq2
      go_wp2_with fail
      refine (HSM.out _).mono ?_
      rintro e7 w7 ⟨rfl, hb7⟩
      have hz7 := hb7.size
      simp only [World.size_alloc] at hz7
      have z0 : w7.cell? ⟨w.heap.size + 1, 0, none⟩ = some (.int .i64 0) := by { rw [cellB hb7 _ _ (by first | (simp; done) | (simp; omega) | omega)]; all_goals (first | assumption | go_simp) }; have z1 : w7.cell? ⟨w.heap.size + 1, 1, none⟩ = some (.int .i64 0) := by { rw [cellB hb7 _ _ (by first | (simp; done) | (simp; omega) | omega)]; all_goals (first | assumption | go_simp) }; have f0 : w7.frozen? ⟨w.heap.size + 1, 0, none⟩ = false := by { rw [frozenB hb7 _ _ (by first | (simp; done) | (simp; omega) | omega)]; all_goals (first | assumption | go_simp) }; have f1 : w7.frozen? ⟨w.heap.size + 1, 1, none⟩ = false := by { rw [frozenB hb7 _ _ (by first | (simp; done) | (simp; omega) | omega)]; all_goals (first | assumption | go_simp) }; have l : w.heap.size + 1 < w7.heap.size := by { omega }; have x0 : w7.cell? ⟨w6.heap.size, 0, none⟩ = some (.int .i64 x) := by { rw [cellB hb7 _ _ (by first | (simp; done) | (simp; omega) | omega)]; all_goals (first | assumption | go_simp) }; have x1 : w7.cell? ⟨w6.heap.size, 1, none⟩ = some (.int .i64 y) := by { rw [cellB hb7 _ _ (by first | (simp; done) | (simp; omega) | omega)]; all_goals (first | assumption | go_simp) }
      have HBv := Lib.hid (Below.trans (show Below w.heap.size w (w6.alloc _) from HBv.out.alloc (by omega) _) (hb7.mono (by simp; omega)))
      clear hb7 z0' z1' f0' f1' l'
      cases b3
      · go_wp2
        refine bodyPost_ret (v := .tuple #[.agg #[.int .i64 0, .int .i64 0], .bool false]) (by simp [results, Tryz.results45, go_sem, *]) rfl ⟨rfl, ?_⟩
        have := HBv.out
        (repeat' (first | (with_reducible exact Below.refl _ _) | (with_reducible assumption) | (with_reducible refine Below.drewN ?_ _) | (with_reducible refine Below.alloc ?_ ?_ _) | (with_reducible refine Below.drew ?_) | (with_reducible refine Below.setCell ?_ ?_ _) | (with_reducible refine Below.step (by assumption) ?_ ?_) | (with_reducible exact And.left (by assumption)) | go_size))
      · go_wp2
        refine bodyPost_ret (v := .tuple #[.agg #[.int .i64 x, .int .i64 y], .bool true]) (by simp [results, Tryz.results45, go_sem, *]) rfl ⟨rfl, ?_⟩
        have := HBv.out
        (repeat' (first | (with_reducible exact Below.refl _ _) | (with_reducible assumption) | (with_reducible refine Below.drewN ?_ _) | (with_reducible refine Below.alloc ?_ ?_ _) | (with_reducible refine Below.drew ?_) | (with_reducible refine Below.setCell ?_ ?_ _) | (with_reducible refine Below.step (by assumption) ?_ ?_) | (with_reducible exact And.left (by assumption)) | go_size))
end Go.Proofs.YtbjgklifmillgaaGreat
