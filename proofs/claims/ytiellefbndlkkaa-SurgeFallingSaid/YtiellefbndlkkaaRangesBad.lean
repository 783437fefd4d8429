/- Which ladders with ranges are refused at once. -/
import Derived.Test.YtiellefbndlkkaaRanges
namespace Go.Proofs.Ytiellefbndlkkaa
open Go.RowKit
set_option linter.unusedVariables false

set_option maxRecDepth 100000 in
theorem checkRanges_bad (a a1 : Option Addr) (n c n1 c1 : Nat) (g : Bool) (w : World) (E : Int)
    (h : (0 < n ∧ n1 = n ∧ 6 < n ∧ n ≤ 9223372036854775807 ∧ E = 8) ∨ (¬ (0 < n ∧ n1 = n) ∧ n ≤ 9223372036854775807 ∧ E = 10)) (hs1 : n1 ≤ 9223372036854775807) :
    Calls Try.prog 28 #[.agg #[.slice a n c, .slice a1 n1 c1, .bool g]] w fun e' w' => e' = .returned (.int .i64 E) ∧ Below w.heap.size w w' := by
  rcases h with ⟨hn, rfl, h6, h9, rfl⟩ | ⟨hb, h9, rfl⟩
  · have i9 : (0 : Int) < (n1 : Int) := by omega
    have HD := Lib.hid (show decide ((n1 : Int) ≤ 6) = false by simp; omega)
    go_enter Try.func28, Try.ntmps28
    go_wp2_with fail
    refine (unless_any _ _ _).mono ?_
    rintro e6 w6 ⟨rfl, rfl⟩
    go_wp2_with fail
    refine (unless_any _ _ _).mono ?_
    rintro e6 w6 ⟨rfl, rfl⟩
    go_wp2_with fail
    refine (first2 _ _ _ _ _ _ (by rfl) (by simp)).mono ?_
    rintro e6 w6 ⟨rfl, rfl⟩
    rw [HD.out, show firstErr [unl true 10, unl false 8] = 8 from rfl]
    go_wp2
    go_ret
    exact ⟨rfl, by (repeat' (first | (with_reducible exact Below.refl _ _) | (with_reducible assumption) | (with_reducible refine Below.drewN ?_ _) | (with_reducible refine Below.alloc ?_ ?_ _) | (with_reducible refine Below.drew ?_) | (with_reducible refine Below.setCell ?_ ?_ _) | (with_reducible refine Below.step (by assumption) ?_ ?_) | (with_reducible exact And.left (by assumption)) | go_size))⟩
  · generalize hq : unl (decide ((n : Int) ≤ 6)) 8 = q
    have HQ := Lib.hid hq; clear hq
    by_cases h0 : 0 < n
    · have h1' : ((n1 : Int) == (n : Int)) = false := by simp; omega
      have i9 : (0 : Int) < (n : Int) := by omega
      clear hb
      go_enter Try.func28, Try.ntmps28
      go_wp2_with fail
      refine (unless_any _ _ _).mono ?_
      rintro e6 w6 ⟨rfl, rfl⟩
      go_wp2_with fail
      refine (unless_any _ _ _).mono ?_
      rintro e6 w6 ⟨rfl, rfl⟩
      rw [HQ.out]
      go_wp2_with fail
      refine (first2 _ _ _ _ _ _ (by rfl) (by simp)).mono ?_
      rintro e6 w6 ⟨rfl, rfl⟩
      rw [show firstErr [unl false 10, q] = 10 from rfl]
      go_wp2
      go_ret
      exact ⟨rfl, by (repeat' (first | (with_reducible exact Below.refl _ _) | (with_reducible assumption) | (with_reducible refine Below.drewN ?_ _) | (with_reducible refine Below.alloc ?_ ?_ _) | (with_reducible refine Below.drew ?_) | (with_reducible refine Below.setCell ?_ ?_ _) | (with_reducible refine Below.step (by assumption) ?_ ?_) | (with_reducible exact And.left (by assumption)) | go_size))⟩
    · obtain rfl : n = 0 := by omega
      clear hb h0
      obtain rfl : q = 0 := by rw [← HQ.out]; rfl
      go_enter Try.func28, Try.ntmps28
      go_wp2_with fail
      refine (unless_any _ _ _).mono ?_
      rintro e6 w6 ⟨rfl, rfl⟩
      go_wp2_with fail
      refine (unless_any _ _ _).mono ?_
      rintro e6 w6 ⟨rfl, rfl⟩
      go_wp2_with fail
      refine (first2 _ _ _ _ _ _ (by rfl) (by simp)).mono ?_
      rintro e6 w6 ⟨rfl, rfl⟩
      rw [show firstErr [unl false 10, unl true 8] = 10 from rfl]
      go_wp2
      go_ret
      exact ⟨rfl, by (repeat' (first | (with_reducible exact Below.refl _ _) | (with_reducible assumption) | (with_reducible refine Below.drewN ?_ _) | (with_reducible refine Below.alloc ?_ ?_ _) | (with_reducible refine Below.drew ?_) | (with_reducible refine Below.setCell ?_ ?_ _) | (with_reducible refine Below.step (by assumption) ?_ ?_) | (with_reducible exact And.left (by assumption)) | go_size))⟩
end Go.Proofs.Ytiellefbndlkkaa
