import Derived.Test.YthkekjgdknnaiaaGreatMDAnsP
import Derived.Test.YthkekjgdknnaiaaGreatMDSubs
/- The reference's divisors and fractions in lowest terms. -/
namespace Go.Proofs.YthkekjgdknnaiaaGreat
open Go.RowKit
set_option linter.unusedVariables false

theorem b_gcd_gen (a b : Int) (w : World) (ha0 : -9223372036854775808 ≤ a) (ha1 : a ≤ 9223372036854775807) (hb0 : 0 < b) (hb1 : b ≤ 9223372036854775807) :
    Calls Tryz.prog 154 #[.int .i64 a, .int .i64 b] w fun e' w' => e' = .returned (.int .i64 (gc a b)) ∧ ∃ n, w' = w.drewN n := by
  go_enter Tryz.func154, Tryz.ntmps154
  go_wp2
  go_loopw [0, 1] (fun x y wr => ∃ c d : Int, x = .int .i64 c ∧ y = .int .i64 d ∧ gc c d = gc a b ∧ -9223372036854775808 ≤ c ∧ c ≤ 9223372036854775807 ∧ -9223372036854775807 ≤ d ∧ d ≤ 9223372036854775807 ∧ (c = -9223372036854775808 → 0 < d) ∧ ∃ n, wr = w.drewN n) (fun _ y _ => (intOf y).natAbs)
  case atStart => exact ⟨a, b, rfl, rfl, rfl, ha0, ha1, by omega, hb1, fun _ => hb0, 0, rfl⟩
  case round =>
    obtain ⟨c, d, rfl, rfl, hg, hc0, hc1, hd0, hd1, hcd, n, rfl⟩ := hrel
    have HG := Lib.hid hg; clear hg
    by_cases hd : d = 0
    · subst hd
      have hc2 : -9223372036854775807 ≤ c := by
        by_cases h : c = -9223372036854775808
        · have := hcd h; omega
        · omega
      clear hcd
      go_wp2_with (go_at_call 56; refine (bsize_any _ _ (by omega) (by omega)).mono ?_; rintro e w' ⟨rfl, rfl⟩)
      go_ret
      exact ⟨ret_int (by rw [← HG.out, gc_zero]), n, rfl⟩
    · have hd' : (d == 0) = false := by simpa using hd
      have hd'' : (d != 0) = true := by simpa using hd
      clear hcd
      go_wp2
      go_region
      go_wp2
      have hlt := tmod_lt c d hd
      have hg := gcd_tmod c d
      have hbd := hlt
      go_roundw
      case rel => exact ⟨d, c.tmod d, rfl, rfl, by rw [← HG.out]; unfold gc; rw [hg], by omega, by omega, by omega, by omega, fun h => by omega, n + 1, rfl⟩
      case measure => simpa [intOf] using hlt
theorem b_isLowest_any (a b : Int) (w : World) (ha0 : -9223372036854775808 ≤ a) (ha1 : a ≤ 9223372036854775807) (hb1 : b ≤ 9223372036854775807) :
    Calls Tryz.prog 125 #[.agg #[.int .i64 a, .int .i64 b]] w fun e' w' => e' = .returned (.bool (isLow a b)) ∧ Below w.heap.size w w' := by
  unfold isLow
  by_cases h : b > 0
  · have hb : decide (b > 0) = true := by simpa using h
    rw [hb, Bool.true_and]
    obtain ⟨g, hg⟩ : ∃ g, g = gc a b := ⟨_, rfl⟩
    have HG := Lib.hid (fun w' => b_gcd_gen a b w' ha0 ha1 h hb1)
    rw [← hg] at HG ⊢
    clear hg h
    go_enter Tryz.func125, Tryz.ntmps125
    go_wp2_with fail
    refine (HG.out _).mono ?_
    rintro e5 w5 ⟨rfl, k, rfl⟩
    go_wp2
    go_ret
    exact ⟨rfl, by (repeat' (first | (with_reducible exact Below.refl _ _) | (with_reducible assumption) | (with_reducible refine Below.drewN ?_ _) | (with_reducible refine Below.alloc ?_ ?_ _) | (with_reducible refine Below.drew ?_) | (with_reducible refine Below.setCell ?_ ?_ _) | (with_reducible refine Below.step (by assumption) ?_ ?_) | (with_reducible exact And.left (by assumption)) | go_size))⟩
  · have hb : decide (b > 0) = false := by simpa using h
    rw [hb, Bool.false_and]
    clear h
    go_enter Tryz.func125, Tryz.ntmps125
    go_wp2
    go_ret
    exact ⟨rfl, by (repeat' (first | (with_reducible exact Below.refl _ _) | (with_reducible assumption) | (with_reducible refine Below.drewN ?_ _) | (with_reducible refine Below.alloc ?_ ?_ _) | (with_reducible refine Below.drew ?_) | (with_reducible refine Below.setCell ?_ ?_ _) | (with_reducible refine Below.step (by assumption) ?_ ?_) | (with_reducible exact And.left (by assumption)) | go_size))⟩
end Go.Proofs.YthkekjgdknnaiaaGreat
