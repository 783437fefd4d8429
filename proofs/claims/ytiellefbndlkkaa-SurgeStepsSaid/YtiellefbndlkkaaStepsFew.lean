/- SurgeSteps beyond its limits. -/
import Derived.Test.YtiellefbndlkkaaAwake
namespace Go.Proofs.Ytiellefbndlkkaa
open Go.RowKit
set_option linter.unusedVariables false

set_option maxRecDepth 100000 in
theorem steps_few (s : Int) (a a1 a2 : Option Addr) (n c n1 c1 n2 c2 : Nat) (e : Bool) (w : World) (hn : n ≤ 9223372036854775807) (hn1 : n1 ≤ 9223372036854775807) (hn2 : n2 ≤ 9223372036854775807) (h : ¬ (n ≤ 12 ∧ n1 ≤ 12 ∧ n2 ≤ 12)) :
    Calls Try.prog 6 #[.agg #[.slice a n c, .bool e], .agg #[.slice a1 n1 c1, .slice a2 n2 c2], .int .i64 s] w fun e' w' => e' = .returned (.bool true) ∧ Below w.heap.size w w' := by
  obtain ⟨g, hg⟩ : ∃ g, g = decide ((n : Int) ≤ 12) := ⟨_, rfl⟩
  have HFS := Lib.hid (fun w' => fewSections_any a n c e w' hn)
  rw [← hg] at HFS
  have hcase : g = false ∨ (g = true ∧ decide ((n1 : Int) > 12) = true) ∨ (g = true ∧ decide ((n1 : Int) > 12) = false ∧ decide ((n2 : Int) > 12) = true) := by
    by_cases h1 : n ≤ 12
    · have hg1 : g = true := by rw [hg]; simp; omega
      by_cases h2 : n1 ≤ 12
      · exact .inr (.inr ⟨hg1, by simp; omega, by simp; omega⟩)
      · exact .inr (.inl ⟨hg1, by simp; omega⟩)
    · exact .inl (by rw [hg]; simp; omega)
  clear hg h
  rcases hcase with rfl | ⟨rfl, i2⟩ | ⟨rfl, i2, i3⟩
  all_goals
    go_enter Try.func6, Try.ntmps6
    go_wp2_with fail
    refine (awake_any _).mono ?_
    rintro e5 w5 ⟨rfl, hb5⟩
    have hz5 := hb5.size
    simp only [World.size_alloc] at hz5
    have q0 : w5.cell? ⟨w.heap.size, 0, none⟩ = some (.slice a n c) := by { rw [cellB hb5 _ _ (by first | (simp; done) | (simp; omega) | omega)]; all_goals (first | assumption | go_simp) }; have q1 : w5.cell? ⟨w.heap.size, 1, none⟩ = some (.bool e) := by { rw [cellB hb5 _ _ (by first | (simp; done) | (simp; omega) | omega)]; all_goals (first | assumption | go_simp) }; have q2 : w5.cell? ⟨w.heap.size + 1, 0, none⟩ = some (.slice a1 n1 c1) := by { rw [cellB hb5 _ _ (by first | (simp; done) | (simp; omega) | omega)]; all_goals (first | assumption | go_simp) }; have q3 : w5.cell? ⟨w.heap.size + 1, 1, none⟩ = some (.slice a2 n2 c2) := by { rw [cellB hb5 _ _ (by first | (simp; done) | (simp; omega) | omega)]; all_goals (first | assumption | go_simp) }; have l0 : w.heap.size < w5.heap.size := by { omega }; have l1 : w.heap.size + 1 < w5.heap.size := by { omega }
    have HB5 := Lib.hid (show Below w.heap.size w w5 by (repeat' (first | (with_reducible exact Below.refl _ _) | (with_reducible assumption) | (with_reducible refine Below.drewN ?_ _) | (with_reducible refine Below.alloc ?_ ?_ _) | (with_reducible refine Below.drew ?_) | (with_reducible refine Below.setCell ?_ ?_ _) | (with_reducible refine Below.step (by assumption) ?_ ?_) | (with_reducible exact And.left (by assumption)) | go_size)))
    clear hb5
    go_wp2_with fail
    refine (HFS.out _).mono ?_
    rintro e6 w6 ⟨rfl, hb6⟩
    have hz6 := hb6.size
    have q0' : w6.cell? ⟨w.heap.size, 0, none⟩ = some (.slice a n c) := by { rw [cellB hb6 _ _ (by first | (simp; done) | (simp; omega) | omega)]; all_goals (first | assumption | go_simp) }; have q1' : w6.cell? ⟨w.heap.size, 1, none⟩ = some (.bool e) := by { rw [cellB hb6 _ _ (by first | (simp; done) | (simp; omega) | omega)]; all_goals (first | assumption | go_simp) }; have q2' : w6.cell? ⟨w.heap.size + 1, 0, none⟩ = some (.slice a1 n1 c1) := by { rw [cellB hb6 _ _ (by first | (simp; done) | (simp; omega) | omega)]; all_goals (first | assumption | go_simp) }; have q3' : w6.cell? ⟨w.heap.size + 1, 1, none⟩ = some (.slice a2 n2 c2) := by { rw [cellB hb6 _ _ (by first | (simp; done) | (simp; omega) | omega)]; all_goals (first | assumption | go_simp) }; have l0' : w.heap.size < w6.heap.size := by { omega }; have l1' : w.heap.size + 1 < w6.heap.size := by { omega }
    have HB6 := Lib.hid (HB5.out.trans (hb6.mono HB5.out.size))
    clear hb6 HB5 q0 q1 q2 q3 l0 l1
    go_wp2
    go_ret
    exact ⟨rfl, HB6.out⟩
end Go.Proofs.Ytiellefbndlkkaa
