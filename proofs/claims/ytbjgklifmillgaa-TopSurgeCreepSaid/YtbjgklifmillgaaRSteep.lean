import Derived.Test.YtbjgklifmillgaaFrac
import Derived.Test.YtbjgklifmillgaaMImp
import Derived.Test.YtbjgklifmillgaaMRf
/- Fractions of the base; the reference's steepest piece. -/
namespace Go.Proofs.Ytbjgklifmillgaa
open Go.RowKit
set_option linter.unusedVariables false

theorem bgcd_any (a b : Int) (w : World) (ha0 : -9223372036854775807 ≤ a) (ha1 : a ≤ 9223372036854775807) (hb0 : -9223372036854775807 ≤ b) (hb1 : b ≤ 9223372036854775807) :
    Calls Try.prog 71 #[.int .i64 a, .int .i64 b] w fun e' w' => e' = .returned (.int .i64 (gc a b)) ∧ ∃ n, w' = w.drewN n := by
  go_enter Try.func71, Try.ntmps71
  go_wp2
  go_loopw [0, 1] (fun x y wr => ∃ c d : Int, x = .int .i64 c ∧ y = .int .i64 d ∧ gc c d = gc a b ∧ -9223372036854775807 ≤ c ∧ c ≤ 9223372036854775807 ∧ -9223372036854775807 ≤ d ∧ d ≤ 9223372036854775807 ∧ ∃ n, wr = w.drewN n) (fun _ y _ => (intOf y).natAbs)
  case atStart => exact ⟨a, b, rfl, rfl, rfl, ha0, ha1, hb0, hb1, 0, rfl⟩
  case round =>
    obtain ⟨c, d, rfl, rfl, hg, hc0, hc1, hd0, hd1, n, rfl⟩ := hrel
    have HG := Lib.hid hg; clear hg
    by_cases hd : d = 0
    · subst hd
      go_wp2_with (go_at_call 84; refine (bsize_any _ _ (by omega) (by omega)).mono ?_; rintro e w' ⟨rfl, rfl⟩)
      go_ret
      exact ⟨ret_int (by rw [← HG.out, gc_zero]), n, rfl⟩
    · have hd' : (d == 0) = false := by simpa using hd
      have hd'' : (d != 0) = true := by simpa using hd
      go_wp2
      go_region
      go_wp2
      have hlt := tmod_lt c d hd
      have hg := gcd_tmod c d
      have hbd := hlt
      go_roundw
      case rel => exact ⟨d, c.tmod d, rfl, rfl, by rw [← HG.out]; unfold gc; rw [hg], by omega, by omega, by omega, by omega, n + 1, rfl⟩
      case measure => simpa [intOf] using hlt
def cmpI (x y : Int) : Int := if x < y then -1 else if y < x then 1 else 0
theorem bcmp_any (a1 a2 b1 b2 : Int) (w : World) (h1 : -4000000000000 ≤ a1 * b2 ∧ a1 * b2 ≤ 4000000000000) (h2 : -4000000000000 ≤ b1 * a2 ∧ b1 * a2 ≤ 4000000000000) :
    Calls Try.prog 45 #[.agg #[.int .i64 a1, .int .i64 a2], .agg #[.int .i64 b1, .int .i64 b2]] w fun e' w' => e' = .returned (.int .i64 (cmpI (a1 * b2) (b1 * a2))) ∧ Below w.heap.size w w' := by
  obtain ⟨R, hR⟩ : ∃ R, R = cmpI (a1 * b2) (b1 * a2) := ⟨_, rfl⟩
  rw [← hR]
  have HR := Lib.hid hR
  clear hR
  go_enter Try.func45, Try.ntmps45
  go_wp2
  go_quiet (fail)
  go_wp2_with fail
  all_goals
    go_ret
    refine ⟨ret_int (by rw [HR.out]; unfold cmpI; (repeat' split) <;> first | rfl | omega), ?_⟩
    (repeat' (first | (with_reducible exact Below.refl _ _) | (with_reducible assumption) | (with_reducible refine Below.drewN ?_ _) | (with_reducible refine Below.alloc ?_ ?_ _) | (with_reducible refine Below.drew ?_) | (with_reducible refine Below.setCell ?_ ?_ _) | (with_reducible refine Below.step (by assumption) ?_ ?_) | (with_reducible exact And.left (by assumption)) | go_size))
theorem bisSmall_any (a b : Int) (w : World) : Calls Try.prog 35 #[.agg #[.int .i64 a, .int .i64 b]] w fun e' w' => e' = .returned (.bool (wi a (-1000000000) 1000000000 && wi b 1 1000000000)) ∧ Below w.heap.size w w' := by
  cases h : wi a (-1000000000) 1000000000
  all_goals
    go_enter Try.func35, Try.ntmps35
    go_wp2_with (go_at_call 9; refine (bwithin_any _ _ _ _).mono ?_; rintro e w' ⟨rfl, rfl⟩)
    go_ret
    refine ⟨ret_bool (by simp), ?_⟩
    (repeat' (first | (with_reducible exact Below.refl _ _) | (with_reducible assumption) | (with_reducible refine Below.drewN ?_ _) | (with_reducible refine Below.alloc ?_ ?_ _) | (with_reducible refine Below.drew ?_) | (with_reducible refine Below.setCell ?_ ?_ _) | (with_reducible refine Below.step (by assumption) ?_ ?_) | (with_reducible exact And.left (by assumption)) | go_size))
end Go.Proofs.Ytbjgklifmillgaa
