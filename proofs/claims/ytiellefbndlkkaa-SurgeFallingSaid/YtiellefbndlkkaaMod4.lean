/- Products modulo a number. -/
import Derived.Test.YtiellefbndlkkaaSmall
import Derived.Shelf.Bits.Mul64
namespace Go.Proofs.Ytiellefbndlkkaa
open Go.RowKit
set_option linter.unusedVariables false

set_option maxHeartbeats 1000000 in
theorem mul64_any (x y : Nat) (hx : x < 4294967296) (hy : y < 4294967296) (w : World) :
    Calls Try.prog 171 #[.int .u64 (x : Int), .int .u64 (y : Int)] w fun e w' => e = .returned (.tuple #[.int .u64 0, .int .u64 ((x * y : Nat) : Int)]) ∧ w = w' := by
  have hm := Nat.mul_le_mul (show x ≤ 4294967295 by omega) (show y ≤ 4294967295 by omega)
  obtain ⟨m, hmm⟩ : ∃ m, m = x * y := ⟨_, rfl⟩
  rw [← hmm] at hm ⊢
  have e1 : (x : Int) * (y : Int) = (m : Int) := by rw [hmm]; simp
  have e2 : bits .and .u64 (x : Int) 4294967295 = (x : Int) := by rw [Mul64.maskN x (by omega)]; omega
  have e3 : bits .and .u64 (y : Int) 4294967295 = (y : Int) := by rw [Mul64.maskN y (by omega)]; omega
  have e4 : (x : Int) / 4294967296 = 0 := by omega
  have e5 : (y : Int) / 4294967296 = 0 := by omega
  have e6 : bits .and .u64 ((m : Int) / 4294967296) 4294967295 = (m : Int) / 4294967296 := by
    rw [show (m : Int) / 4294967296 = ((m / 4294967296 : Nat) : Int) by omega, Mul64.maskN _ (by omega)]; omega
  have e7 : (m : Int) / 4294967296 / 4294967296 = 0 := by omega
  have e8 : IntKind.u64.wrap (m : Int) = (m : Int) := Mul64.wrapN m (by omega)
  have e9 : IntKind.u64.wrap ((m : Int) / 4294967296) = (m : Int) / 4294967296 := by
    rw [show (m : Int) / 4294967296 = ((m / 4294967296 : Nat) : Int) by omega, Mul64.wrapN _ (by omega)]
  clear hmm
  go_enter Try.func171, Try.ntmps171
  go_wp2
  try simp only [e1, e2, e3, e4, e5, e6, e7, e8, e9, Int.zero_mul, Int.mul_zero, Int.zero_add, Int.add_zero, Int.zero_ediv]
  go_ret2
  exact ⟨rfl, rfl⟩
theorem div64_any (lo y : Nat) (hl : lo < 18446744073709551616) (hy : 0 < y) (hy2 : y < 18446744073709551616) (w : World) :
    Calls Try.prog 172 #[.int .u64 0, .int .u64 (lo : Int), .int .u64 (y : Int)] w fun e w' => e = .returned (.tuple #[.int .u64 ((lo / y : Nat) : Int), .int .u64 ((lo % y : Nat) : Int)]) ∧ ∃ n, w' = w.drewN n := by
  have e1 : ((y : Int) == 0) = false := by simp; omega
  have e2 : ¬ ((y : Int) ≤ 0) := by omega
  have e3 : (lo : Int).tdiv (y : Int) = ((lo / y : Nat) : Int) := by rw [Int.ofNat_tdiv]
  have e4 : (lo : Int).tmod (y : Int) = ((lo % y : Nat) : Int) := by rw [Int.ofNat_tmod]
  have e5 : (lo : Int) / (y : Int) = ((lo / y : Nat) : Int) := by simp
  have e6 : (lo : Int) % (y : Int) = ((lo % y : Nat) : Int) := by simp
  have q1 := Nat.div_le_self lo y
  have q2 := Nat.mod_le lo y
  generalize lo / y = q at *
  generalize lo % y = r at *
  go_enter Try.func172, Try.ntmps172
  go_wp2
  go_quiet (fail)
  go_wp2
  go_ret2
  exact ⟨rfl, _, rfl⟩
theorem modulo_eq (n p : Int) (hp : 0 < p) : (n.tmod p + p).tmod p = n % p := by
  rcases Int.le_total 0 n with h | h
  · rw [Int.tmod_eq_emod_of_nonneg h, Int.tmod_eq_emod_of_nonneg (by have := Int.emod_nonneg n (show p ≠ 0 by omega); omega), Int.add_emod_right, Int.emod_emod]
  · obtain ⟨m, rfl⟩ : ∃ m, n = -m := ⟨-n, by omega⟩
    have hm : 0 ≤ m := by omega
    have h1 : m % p < p := Int.emod_lt_of_pos m hp
    have h2 : 0 ≤ m % p := Int.emod_nonneg m (by omega)
    rw [Int.neg_tmod, Int.tmod_eq_emod_of_nonneg hm, Int.tmod_eq_emod_of_nonneg (by omega)]
    have h3 : m = p * (m / p) + m % p := (Int.mul_ediv_add_emod m p).symm
    have h4 : -m = -(m % p) + p + p * (-(m / p) - 1) := by
      have : p * (-(m / p) - 1) = -(p * (m / p)) - p := by rw [Int.mul_sub, Int.mul_neg, Int.mul_one]
      omega
    rw [h4, Int.add_mul_emod_self_left]
theorem modulo_any (n : Int) (p : Nat) (h0 : -1000000000000 ≤ n) (h1 : n ≤ 1000000000000) (hp : 0 < p) (hp2 : p ≤ 4294967296) (w : World) :
    Calls Try.prog 168 #[.int .i64 n, .int .i64 (p : Int)] w fun e w' => e = .returned (.int .i64 (n % (p : Int))) ∧ w = w' := by
  have hpi : (0 : Int) < (p : Int) := by omega
  have hr := modulo_eq n p hpi
  have hb := tmod_lt n p (by omega)
  have e1 : ((p : Int) == 0) = false := by simp; omega
  obtain ⟨t, ht⟩ : ∃ t, t = n.tmod (p : Int) := ⟨_, rfl⟩
  rw [← ht] at hr hb
  have hb2 : -4294967296 ≤ t ∧ t ≤ 4294967296 := by omega
  have ht2 : n.tmod (p : Int) = t := ht.symm
  have hr3 : 0 ≤ n % (p : Int) := Int.emod_nonneg n (by omega)
  have hr4 : n % (p : Int) < (p : Int) := Int.emod_lt_of_pos n hpi
  generalize n % (p : Int) = R at *
  clear ht hb
  go_enter Try.func168, Try.ntmps168
  go_wp2
  go_ret
  exact ⟨rfl, rfl⟩
theorem product_any (a b p : Nat) (ha : a < 4294967296) (hb : b < 4294967296) (hp : 0 < p) (hp2 : p ≤ 4294967296) (w : World) :
    Calls Try.prog 167 #[.int .i64 (a : Int), .int .i64 (b : Int), .int .i64 (p : Int)] w fun e w' => e = .returned (.int .i64 ((a * b % p : Nat) : Int)) ∧ ∃ n, w' = w.drewN n := by
  have hm := Nat.mul_le_mul (show a ≤ 4294967295 by omega) (show b ≤ 4294967295 by omega)
  have hr := Nat.mod_lt (a * b) hp
  have HMU := Lib.hid (fun w' => mul64_any a b ha hb w')
  have HDI := Lib.hid (fun w' => div64_any (a * b) p (by omega) hp (by omega) w')
  generalize a * b = m at *
  generalize m % p = r at *
  generalize m / p = q at *
  go_enter Try.func167, Try.ntmps167
  go_wp2_with fail
  refine (HMU.out _).mono ?_
  rintro e5 _ ⟨rfl, rfl⟩
  go_wp2_with fail
  refine (HDI.out _).mono ?_
  rintro e6 w6 ⟨rfl, k, rfl⟩
  go_wp2
  go_ret
  exact ⟨rfl, k, rfl⟩
end Go.Proofs.Ytiellefbndlkkaa
