/- Lines and states: errors of a state, a step, the energy. -/
import Derived.Test.YtiellefbndlkkaaLine
namespace Go.Proofs.Ytiellefbndlkkaa
open Go.RowKit
set_option linter.unusedVariables false

set_option maxRecDepth 100000 in
theorem stateErr_any (y f b : List Int) (a a1 a2 : Option Addr) (n c n1 c1 n2 c2 : Nat) (e : Bool) (w : World) (hy : IntsR w a n y) (hf : IntsR w a1 n1 f) (hb : IntsR w a2 n2 b) (hn1 : n1 ≤ 100) (hn2 : n2 ≤ 100) :
    Calls Try.prog 83 #[.agg #[.slice a n c, .bool e], .agg #[.slice a1 n1 c1, .slice a2 n2 c2]] w fun e' w' => e' = .returned (.int .i64 (stErr y f b)) ∧ Below w.heap.size w w' := by
  have hn := hy.small
  have HCL := Lib.hid (fun (w' : World) (hb' : Below w.heap.size w w') => checkLine_any y a n c e w' (hy.below hb'))
  have HCC := Lib.hid (fun (w' : World) (B : Nat) (hb' : Below w.heap.size w w') => concat2 f b a1 a2 n1 c1 n2 c2 B w' (hf.below hb') (hb.below hb') hn1 hn2)
  have HS := Lib.hid (show stErr y f b = firstErr [lineErr y, unl (decide (n1 = n) && decide (n2 = n)) 10, unl (!(f ++ b).any (fun x => !wi x (-1000000) 1000000)) 2] by unfold stErr; rw [hf.len, hb.len, hy.len])
  clear hy hf hb
  rw [HS.out]
  clear HS
  rcases (show ((n1 : Int) == (n : Int)) = false ∧ (decide (n1 = n) && decide (n2 = n)) = false ∨ ((n1 : Int) == (n : Int)) = true ∧ ((n2 : Int) == (n : Int)) = false ∧ (decide (n1 = n) && decide (n2 = n)) = false ∨ ((n1 : Int) == (n : Int)) = true ∧ ((n2 : Int) == (n : Int)) = true ∧ (decide (n1 = n) && decide (n2 = n)) = true by
    by_cases h1 : n1 = n <;> by_cases h2 : n2 = n <;> simp [h1, h2] <;> omega) with ⟨g1, g2⟩ | ⟨g1, g3, g2⟩ | ⟨g1, g3, g2⟩
  all_goals
    rw [g2]
    clear g2
    generalize lineErr y = el at HCL
    go_enter Try.func83, Try.ntmps83
    go_wp2_with fail
    refine (HCC.out _ _ (by (repeat' (first | (with_reducible exact Below.refl _ _) | (with_reducible assumption) | (with_reducible refine Below.drewN ?_ _) | (with_reducible refine Below.alloc ?_ ?_ _) | (with_reducible refine Below.drew ?_) | (with_reducible refine Below.setCell ?_ ?_ _) | (with_reducible refine Below.step (by assumption) ?_ ?_) | (with_reducible exact And.left (by assumption)) | go_size))) (by simp) (by go_simp) (by go_simp)).mono ?_
    rintro e1 w1 ⟨a3, c3, rfl, hb1, hi⟩
    have HI := Lib.hid (containsInts_any _ _ cf_stateErr1 stateErr1_any _ a3 _ c3 w1 hi)
    have hb1' := hb1
    clear hi
    go_wp2_with fail
    refine HI.out.mono ?_
    rintro e2 w2 ⟨rfl, rfl⟩
    clear HI
    generalize hg : (f ++ b).any (fun x => !wi x (-1000000) 1000000) = g
    have HGG := Lib.hid hg; clear hg
    go_wp2_with fail
    have hsz := hb1.size
    simp only [World.size_alloc] at hsz
    have q0 : w1.cell? ⟨w.heap.size, 0, none⟩ = some (.slice a n c) := by rw [cellB hb1 _ _ (by simp; omega)]; go_simp
    have q1 : w1.cell? ⟨w.heap.size, 1, none⟩ = some (.bool e) := by rw [cellB hb1 _ _ (by simp; omega)]; go_simp
    have q2 : w1.cell? ⟨w.heap.size + 1, 0, none⟩ = some (.slice a1 n1 c1) := by rw [cellB hb1 _ _ (by simp)]; go_simp
    have q3 : w1.cell? ⟨w.heap.size + 1, 1, none⟩ = some (.slice a2 n2 c2) := by rw [cellB hb1 _ _ (by simp)]; go_simp
    have hbw : Below w.heap.size w w1 := by (repeat' (first | (with_reducible exact Below.refl _ _) | (with_reducible assumption) | (with_reducible refine Below.drewN ?_ _) | (with_reducible refine Below.alloc ?_ ?_ _) | (with_reducible refine Below.drew ?_) | (with_reducible refine Below.setCell ?_ ?_ _) | (with_reducible refine Below.step (by assumption) ?_ ?_) | (with_reducible exact And.left (by assumption)) | go_size))
    clear hb1 hb1'
    refine later_of_eq 18 (by kernel_rfl) (by kernel_rfl) ?_; simp only [List.take_succ_cons, List.take_zero, List.drop_succ_cons, List.drop_zero]; repeat go_big_quiet_step (first
        | (go_at_call 44; exact calls_later (HCL.out _ (hbw.trans (Below.mono (Later.below _) (by omega)))))
        | (go_at_call 85; exact calls_later_same (unless_any _ _ _)))
    refine wpQuiet_nil ?_; intro uw hub
    have hu := hub.size
    go_wp2_with (first
        | (go_at_call 84; refine (first3 _ _ _ _ _ _ _ (by rfl) (by simp)).mono ?_; rintro e7 w7 ⟨rfl, rfl⟩))
    go_ret
    refine ⟨ret_int (by rw [HGG.out]), ?_⟩
    (repeat' (first | (with_reducible exact Below.refl _ _) | (with_reducible assumption) | (with_reducible refine Below.drewN ?_ _) | (with_reducible refine Below.alloc ?_ ?_ _) | (with_reducible refine Below.drew ?_) | (with_reducible refine Below.setCell ?_ ?_ _) | (with_reducible refine Below.step (by assumption) ?_ ?_) | (with_reducible exact And.left (by assumption)) | go_size))
end Go.Proofs.Ytiellefbndlkkaa
