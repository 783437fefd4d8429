import Derived.Laws.ComplexArith
import Derived.Test.YtdklmcicogmeaaaGreatMPlain0
/- Whole numbers as float64: sums, differences, products are exact below 2^53. -/
namespace Go.Proofs.YtdklmcicogmeaaaGreat
open Ieee

/-- The word b stands for the whole number n (a zero with either sign). -/
def Rd (b : Nat) (n : Int) : Prop := b < 2 ^ 64 ∧ ∃ (s : Bool) (k : Nat), double.read b = .number s (n.natAbs * 2 ^ k) (-(k : Int)) ∧ (n < 0 → s = true) ∧ (0 < n → s = false)

theorem double_least : double.leastPlace = -1074 := by decide +kernel
theorem double_binade : double.binade = 4503599627370496 := by decide +kernel
theorem double_inf : double.infRung = 9218868437227405312 := by decide +kernel
theorem double_sw : double.signWeight = 9223372036854775808 := by decide +kernel
theorem double_frac : double.fractionBits = 52 := rfl

theorem cut_exact (s : Bool) (n d : Nat) (h : d ≤ (n * 2 ^ d).log2 + 2) : Toward.even.cut s (n * 2 ^ d) d = n := by
  unfold Toward.cut
  rw [Nat.min_eq_left h]
  simp only [Nat.shiftLeft_eq, Nat.one_mul]
  have hp : 0 < 2 ^ d := Nat.two_pow_pos d
  rw [Nat.mul_div_cancel _ hp, Nat.mul_mod_left]
  have : (2 ^ d == 2 * 0) = false := by simp
  simp
theorem log2_mul_pow (n k : Nat) (h : n ≠ 0) : (n * 2 ^ k).log2 = n.log2 + k := by
  induction k with
  | zero => simp
  | succ k ih =>
    have h1 : n * 2 ^ (k + 1) = 2 * (n * 2 ^ k) := by rw [Nat.pow_succ]; simp only [Nat.mul_comm, Nat.mul_left_comm]
    have h2 : n * 2 ^ k ≠ 0 := Nat.mul_ne_zero h (by have := Nat.two_pow_pos k; omega)
    rw [h1, Nat.log2_two_mul h2, ih]; omega
theorem nearest_zero (s : Bool) (place : Int) : double.nearest s 0 place = double.word s 0 := by simp [Format.nearest]
theorem nearest_int (s : Bool) (N k : Nat) (h0 : N ≠ 0) (h : N < 2 ^ 53) :
    double.nearest s (N * 2 ^ k) (-(k : Int)) = double.word s ((N.log2 + 1022) * 4503599627370496 + N * 2 ^ (52 - N.log2)) := by
  have hl : N.log2 ≤ 52 := by have := (Nat.log2_lt h0).2 h; omega
  have hm : N * 2 ^ k ≠ 0 := Nat.mul_ne_zero h0 (by have := Nat.two_pow_pos k; omega)
  have hlast : max (-(k : Int) + ((N * 2 ^ k).log2 : Nat) - (double.fractionBits : Nat)) double.leastPlace = (N.log2 : Int) - 52 := by
    rw [log2_mul_pow N k h0, double_least, double_frac]; omega
  have hkept : N * 2 ^ (52 - N.log2) < 9007199254740992 := by
    have h1 : N < 2 ^ (N.log2 + 1) := Nat.lt_log2_self
    have h2 : N * 2 ^ (52 - N.log2) < 2 ^ (N.log2 + 1) * 2 ^ (52 - N.log2) := Nat.mul_lt_mul_of_pos_right h1 (Nat.two_pow_pos _)
    rw [← Nat.pow_add, show N.log2 + 1 + (52 - N.log2) = 53 by omega] at h2
    exact h2
  have hrung : min (((N.log2 : Int) - 52 - double.leastPlace).toNat * double.binade + N * 2 ^ (52 - N.log2)) double.infRung = (N.log2 + 1022) * 4503599627370496 + N * 2 ^ (52 - N.log2) := by
    rw [double_least, double_binade, double_inf, show ((N.log2 : Int) - 52 - -1074).toNat = N.log2 + 1022 by omega]
    exact Nat.min_eq_left (by omega)
  unfold Format.nearest
  rw [if_neg hm]
  simp only []
  rw [hlast]
  by_cases hk : 52 - N.log2 ≤ k
  · have e1 : (-(k : Int) - ((N.log2 : Int) - 52)).toNat = 0 := by omega
    have e2 : ((N.log2 : Int) - 52 - -(k : Int)).toNat = k - (52 - N.log2) := by omega
    have e3 : N * 2 ^ k = (N * 2 ^ (52 - N.log2)) * 2 ^ (k - (52 - N.log2)) := by
      rw [Nat.mul_assoc, ← Nat.pow_add, show 52 - N.log2 + (k - (52 - N.log2)) = k by omega]
    rw [e1, e2, Nat.shiftLeft_zero, e3, cut_exact, hrung]
    rw [← e3, log2_mul_pow N k h0]; omega
  · have e1 : (-(k : Int) - ((N.log2 : Int) - 52)).toNat = 52 - N.log2 - k := by omega
    have e2 : ((N.log2 : Int) - 52 - -(k : Int)).toNat = 0 := by omega
    have e3 : N * 2 ^ k * 2 ^ (52 - N.log2 - k) = N * 2 ^ (52 - N.log2) := by
      rw [Nat.mul_assoc, ← Nat.pow_add, show k + (52 - N.log2 - k) = 52 - N.log2 by omega]
    have e4 := cut_exact s (N * 2 ^ (52 - N.log2)) 0 (by omega)
    rw [Nat.pow_zero, Nat.mul_one] at e4
    rw [e1, e2, Nat.shiftLeft_eq, e3, e4, hrung]
theorem read_zero (s : Bool) : double.read (double.word s 0) = .number s 0 (-1074) := by cases s <;> decide +kernel
theorem read_normal (s : Bool) (a b : Nat) (ha : a < 1100) (hb0 : 4503599627370496 ≤ b) (hb : b < 9007199254740992) :
    double.read (double.word s (a * 4503599627370496 + b)) = .number s b ((a : Int) - 1074) := by
  have hr : a * 4503599627370496 + b < 9223372036854775808 := by omega
  have hn : (double.word s (a * 4503599627370496 + b) / double.signWeight % 2 == 1) = s := by
    unfold Format.word
    rw [double_sw]
    cases s
    · simp only [Bool.false_eq_true, if_false]
      have : (a * 4503599627370496 + b) / 9223372036854775808 = 0 := by omega
      rw [this]; rfl
    · simp only [if_true]
      have : (9223372036854775808 + (a * 4503599627370496 + b)) / 9223372036854775808 = 1 := by omega
      rw [this]; rfl
  have hm : double.word s (a * 4503599627370496 + b) % double.signWeight = a * 4503599627370496 + b := by
    unfold Format.word
    rw [double_sw]
    cases s
    · simp only [Bool.false_eq_true, if_false]; omega
    · simp only [if_true]; omega
  unfold Format.read
  simp only []
  rw [hn, hm, double_binade, double_inf, double_least]
  rw [if_neg (by omega), if_pos (by omega)]
  have e1 : (a * 4503599627370496 + b) % 4503599627370496 = b - 4503599627370496 := by omega
  have e2 : (a * 4503599627370496 + b) / 4503599627370496 - 1 = a := by omega
  rw [e1, e2, show 4503599627370496 + (b - 4503599627370496) = b by omega, show (-1074 : Int) + (a : Int) = (a : Int) - 1074 by omega]
theorem word_lt (s : Bool) (r : Nat) (h : r < 9223372036854775808) : double.word s r < 2 ^ 64 := by
  unfold Format.word
  rw [double_sw]
  cases s
  · simp only [Bool.false_eq_true, if_false]; omega
  · simp only [if_true]; omega
/-- What is written of a whole number stands for it. -/
theorem write_int (s : Bool) (N k : Nat) (n : Int) (h : N < 2 ^ 53) (hn : n.natAbs = N) (h1 : n < 0 → s = true) (h2 : 0 < n → s = false) : Rd (double.nearest s (N * 2 ^ k) (-(k : Int))) n := by
  by_cases h0 : N = 0
  · subst h0
    rw [Nat.zero_mul, nearest_zero]
    obtain ⟨K, hK⟩ : ∃ K : Nat, K = 1074 := ⟨_, rfl⟩
    refine ⟨word_lt _ _ (by omega), s, K, ?_, h1, h2⟩
    rw [read_zero, hn, Nat.zero_mul, hK]; rfl
  · have hl : N.log2 ≤ 52 := by have := (Nat.log2_lt h0).2 h; omega
    have hkept : N * 2 ^ (52 - N.log2) < 9007199254740992 := by
      have h1 : N < 2 ^ (N.log2 + 1) := Nat.lt_log2_self
      have h2 : N * 2 ^ (52 - N.log2) < 2 ^ (N.log2 + 1) * 2 ^ (52 - N.log2) := Nat.mul_lt_mul_of_pos_right h1 (Nat.two_pow_pos _)
      rw [← Nat.pow_add, show N.log2 + 1 + (52 - N.log2) = 53 by omega] at h2
      exact h2
    have hkept0 : 4503599627370496 ≤ N * 2 ^ (52 - N.log2) := by
      have h1 : 2 ^ N.log2 ≤ N := Nat.log2_self_le h0
      have h2 : 2 ^ N.log2 * 2 ^ (52 - N.log2) ≤ N * 2 ^ (52 - N.log2) := Nat.mul_le_mul_right _ h1
      rw [← Nat.pow_add, show N.log2 + (52 - N.log2) = 52 by omega] at h2
      exact h2
    rw [nearest_int s N k h0 h]
    refine ⟨word_lt _ _ (by omega), s, 52 - N.log2, ?_, h1, h2⟩
    have hq : ((N.log2 + 1022 : Nat) : Int) - 1074 = -((52 - N.log2 : Nat) : Int) := by omega
    rw [read_normal _ _ _ (by omega) hkept0 hkept, hn, hq]
theorem signed_abs (s : Bool) (n : Int) (k u : Nat) (h1 : n < 0 → s = true) (h2 : 0 < n → s = false) : signed s (n.natAbs * 2 ^ k) u = n * ((2 ^ (k + u) : Nat) : Int) := by
  have e : (n.natAbs * 2 ^ k) <<< u = n.natAbs * 2 ^ (k + u) := by rw [Nat.shiftLeft_eq, Nat.mul_assoc, ← Nat.pow_add]
  unfold signed
  by_cases hz : n = 0
  · subst hz
    rw [e]
    cases s <;> simp
  · by_cases hn : n < 0
    · rw [h1 hn, if_pos rfl, e, Int.natCast_mul, ← Int.neg_mul]
      congr 1; omega
    · rw [h2 (by omega), if_neg (by simp), e, Int.natCast_mul]
      congr 1; omega
theorem rd_mul {x y : Nat} {a b : Int} (hx : Rd x a) (hy : Rd y b) (h : (a * b).natAbs < 2 ^ 53) : ∃ r, floatBits .mul .f64 x y = some r ∧ Rd r (a * b) := by
  obtain ⟨_, s, k, e1, h1, h2⟩ := hx
  obtain ⟨_, t, j, e2, h3, h4⟩ := hy
  refine ⟨double.nearest (s ^^ t) ((a * b).natAbs * 2 ^ (k + j)) (-((k + j : Nat) : Int)), ?_, ?_⟩
  · show (((double.read x).product (double.read y)).map double.write) = _
    rw [e1, e2]
    simp only [Datum.product, Option.map_some, Format.write]
    congr 2
    · rw [Int.natAbs_mul, Nat.pow_add]; simp only [Nat.mul_assoc, Nat.mul_left_comm]
    · omega
  · by_cases ha : a = 0
    · subst ha
      exact write_int _ _ _ _ h rfl (by simp) (by simp)
    · by_cases hb : b = 0
      · subst hb
        exact write_int _ _ _ _ h rfl (by simp) (by simp)
      · refine write_int _ _ _ _ h rfl (fun hn => ?_) (fun hn => ?_)
        · rcases Int.lt_or_gt_of_ne ha with h5 | h5 <;> rcases Int.lt_or_gt_of_ne hb with h6 | h6
          · have := Int.mul_pos_of_neg_of_neg h5 h6; omega
          · rw [h1 h5, h4 h6]; rfl
          · rw [h2 h5, h3 h6]; rfl
          · have := Int.mul_pos h5 h6; omega
        · rcases Int.lt_or_gt_of_ne ha with h5 | h5 <;> rcases Int.lt_or_gt_of_ne hb with h6 | h6
          · rw [h1 h5, h3 h6]; rfl
          · have := Int.mul_neg_of_neg_of_pos h5 h6; omega
          · have := Int.mul_neg_of_pos_of_neg h5 h6; omega
          · rw [h2 h5, h4 h6]; rfl
theorem sum_int (s t : Bool) (a b : Int) (k j : Nat) (h1 : a < 0 → s = true) (h2 : 0 < a → s = false) (h3 : b < 0 → t = true) (h4 : 0 < b → t = false) (h : (a + b).natAbs < 2 ^ 53) :
    ∃ r, ((Datum.sum (.number s (a.natAbs * 2 ^ k) (-(k : Int))) (.number t (b.natAbs * 2 ^ j) (-(j : Int)))).map double.write) = some r ∧ Rd r (a + b) := by
  obtain ⟨m, hm⟩ : ∃ m, m = max k j := ⟨_, rfl⟩
  have hb : min (-(k : Int)) (-(j : Int)) = -(m : Int) := by omega
  have hs1 : signed s (a.natAbs * 2 ^ k) (-(k : Int) - -(m : Int)).toNat = a * ((2 ^ m : Nat) : Int) := by
    rw [signed_abs s a k _ h1 h2, show k + (-(k : Int) - -(m : Int)).toNat = m by omega]
  have hs2 : signed t (b.natAbs * 2 ^ j) (-(j : Int) - -(m : Int)).toNat = b * ((2 ^ m : Nat) : Int) := by
    rw [signed_abs t b j _ h3 h4, show j + (-(j : Int) - -(m : Int)).toNat = m by omega]
  have hp : (0 : Int) < ((2 ^ m : Nat) : Int) := by have := Nat.two_pow_pos m; omega
  have habs : ((a + b) * ((2 ^ m : Nat) : Int)).natAbs = (a + b).natAbs * 2 ^ m := by rw [Int.natAbs_mul, Int.natAbs_natCast]
  have hz : ((a + b) * ((2 ^ m : Nat) : Int) = 0) ↔ a + b = 0 := by
    constructor
    · intro h; rcases Int.mul_eq_zero.1 h with h | h <;> omega
    · intro h; rw [h, Int.zero_mul]
  have hlt : ((a + b) * ((2 ^ m : Nat) : Int) < 0) ↔ a + b < 0 := by
    constructor
    · intro h; rcases Int.lt_or_le (a + b) 0 with h5 | h5
      · exact h5
      · have := Int.mul_nonneg h5 (Int.le_of_lt hp); omega
    · intro h; exact Int.mul_neg_of_neg_of_pos h hp
  refine ⟨_, ?_, write_int (if (a + b) * ((2 ^ m : Nat) : Int) = 0 then s && t else decide ((a + b) * ((2 ^ m : Nat) : Int) < 0)) (a + b).natAbs m (a + b) h rfl (fun hn => ?_) (fun hn => ?_)⟩
  · simp only [Datum.sum, Option.map_some, Format.write]
    rw [hb, hs1, hs2, ← Int.add_mul, habs]
  · rw [if_neg (by rw [hz]; omega), decide_eq_true_eq, hlt]; exact hn
  · rw [if_neg (by rw [hz]; omega), decide_eq_false_iff_not, hlt]; omega
theorem rd_add {x y : Nat} {a b : Int} (hx : Rd x a) (hy : Rd y b) (h : (a + b).natAbs < 2 ^ 53) : ∃ r, floatBits .add .f64 x y = some r ∧ Rd r (a + b) := by
  obtain ⟨_, s, k, e1, h1, h2⟩ := hx
  obtain ⟨_, t, j, e2, h3, h4⟩ := hy
  obtain ⟨r, hr, hR⟩ := sum_int s t a b k j h1 h2 h3 h4 h
  refine ⟨r, ?_, hR⟩
  show (((double.read x).sum (double.read y)).map double.write) = _
  rw [e1, e2, hr]
theorem rd_sub {x y : Nat} {a b : Int} (hx : Rd x a) (hy : Rd y b) (h : (a - b).natAbs < 2 ^ 53) : ∃ r, floatBits .sub .f64 x y = some r ∧ Rd r (a - b) := by
  obtain ⟨_, s, k, e1, h1, h2⟩ := hx
  obtain ⟨_, t, j, e2, h3, h4⟩ := hy
  obtain ⟨r, hr, hR⟩ := sum_int s (!t) a (-b) k j h1 h2 (fun h => by rw [h4 (by omega)]; rfl) (fun h => by rw [h3 (by omega)]; rfl) (by rw [← Int.sub_eq_add_neg]; exact h)
  rw [← Int.sub_eq_add_neg] at hR
  rw [Int.natAbs_neg] at hr
  refine ⟨r, ?_, hR⟩
  show (((double.read x).sum (double.read y).opposite).map double.write) = _
  rw [e1, e2, Datum.opposite, hr]
theorem rd_of (n : Int) (h : n.natAbs < 2 ^ 53) : Rd (floatOfInt .f64 n) n := by
  have := write_int (decide (n < 0)) n.natAbs 0 n h rfl (fun h => by simpa using h) (fun h => by simp; omega)
  rw [Nat.pow_zero, Nat.mul_one] at this
  exact this
theorem rd_int {b : Nat} {n : Int} (hb : Rd b n) (h : n.natAbs < 2 ^ 53) : floatToIntVal .f64 b .i64 = some n := by
  obtain ⟨_, s, k, e1, h1, h2⟩ := hb
  have e : (FloatKind.f64.decode b).toInt .zero = some n := by
    show (double.read b).toInt .zero = some n
    rw [e1]
    unfold Datum.toInt Datum.integral
    simp only []
    have e0 : (-(k : Int)).toNat = 0 := by omega
    have e2 : (- -(k : Int)).toNat = k := by omega
    have hc : Toward.zero.cut s (n.natAbs * 2 ^ k) k = n.natAbs := by
      unfold Toward.cut
      simp only [Bool.toNat_false, Nat.add_zero, Nat.shiftLeft_eq, Nat.one_mul]
      by_cases hz : n.natAbs = 0
      · rw [hz]; simp
      · rw [Nat.min_eq_left (by rw [log2_mul_pow _ _ hz]; omega), Nat.mul_div_cancel _ (Nat.two_pow_pos k)]
    rw [e0, e2, Nat.shiftLeft_zero, hc]
    have := signed_abs s n 0 0 h1 h2
    simp only [Nat.pow_zero, Nat.mul_one, Nat.add_zero] at this
    rw [this]; simp
  unfold floatToIntVal
  rw [e]
  simp only []
  rw [if_pos]
  have h3 : IntKind.i64.min = -9223372036854775808 := by decide +kernel
  have h4 : IntKind.i64.max = 9223372036854775807 := by decide +kernel
  rw [h3, h4]; omega
end Go.Proofs.YtdklmcicogmeaaaGreat

/- Chapter 9: roots, distances, responses. No program in sight. -/
namespace Go.Proofs.YtdklmcicogmeaaaGreat
set_option linter.unusedVariables false

/-- The bits of a root that are left, and the root so far. -/
def rt (n : Int) : Nat → Int → Int
  | 0, r => r
  | k + 1, r => rt n k (if (r + 2 ^ k) * (r + 2 ^ k) ≤ n then r + 2 ^ k else r)
def isq (n : Int) : Int := rt n 21 0
def isqUp (n : Int) : Int := if isq n * isq n < n then isq n + 1 else isq n
theorem pow_pos' (k : Nat) : (0 : Int) < 2 ^ k := Int.pow_pos (by omega)
theorem rt_bd (n : Int) : ∀ k r, r ≤ rt n k r ∧ rt n k r + 1 ≤ r + 2 ^ k
  | 0, r => by simp [rt]
  | k + 1, r => by
    have hp := pow_pos' k
    have he : (2 : Int) ^ (k + 1) = 2 ^ k + 2 ^ k := by rw [Int.pow_succ]; omega
    unfold rt
    split
    · have := rt_bd n k (r + 2 ^ k); omega
    · have := rt_bd n k r; omega
theorem rt_top {n : Int} (h : n < 4398046511104) : rt n 31 0 = rt n 21 0 := by
  have h1 : ∀ k, 21 ≤ k → rt n (k + 1) 0 = rt n k 0 := fun k hk => by
    show rt n k (if (0 + 2 ^ k) * (0 + 2 ^ k) ≤ n then 0 + 2 ^ k else 0) = _
    rw [if_neg]
    have h2 : (2 : Int) ^ 21 ≤ 2 ^ k := by
      obtain ⟨j, rfl⟩ : ∃ j, k = 21 + j := ⟨k - 21, by omega⟩
      rw [Int.pow_add]
      have := pow_pos' j
      have h3 : (2 : Int) ^ 21 * 1 ≤ 2 ^ 21 * 2 ^ j := Int.mul_le_mul_of_nonneg_left (by omega) (by decide)
      omega
    have h3 : (2097152 : Int) ≤ 0 + 2 ^ k := by
      have : (2 : Int) ^ 21 = 2097152 := by decide
      omega
    have h4 : (2097152 : Int) * 2097152 ≤ (0 + 2 ^ k) * (0 + 2 ^ k) := Int.mul_le_mul h3 h3 (by omega) (by omega)
    omega
  rw [h1 30 (by omega), h1 29 (by omega), h1 28 (by omega), h1 27 (by omega), h1 26 (by omega), h1 25 (by omega), h1 24 (by omega), h1 23 (by omega), h1 22 (by omega), h1 21 (by omega)]
theorem rt_spec {n : Int} : ∀ k r, 0 ≤ r → r * r ≤ n → n < (r + 2 ^ k) * (r + 2 ^ k) → rt n k r * rt n k r ≤ n ∧ n < (rt n k r + 1) * (rt n k r + 1)
  | 0, r, h0, h1, h2 => by simpa [rt] using ⟨h1, h2⟩
  | k + 1, r, h0, h1, h2 => by
    have hp := pow_pos' k
    have he : (2 : Int) ^ (k + 1) = 2 ^ k + 2 ^ k := by rw [Int.pow_succ]; omega
    unfold rt
    split
    · refine rt_spec k _ (by omega) (by assumption) ?_
      rw [show r + 2 ^ k + 2 ^ k = r + 2 ^ (k + 1) by omega]; exact h2
    · exact rt_spec k _ h0 h1 (by omega)
theorem isq_spec {n : Int} (h0 : 0 ≤ n) (h : n < 4398046511104) : 0 ≤ isq n ∧ isq n * isq n ≤ n ∧ n < (isq n + 1) * (isq n + 1) := by
  have h1 := rt_spec (n := n) 21 0 (by omega) (by omega) (by rw [show (0 : Int) + 2 ^ 21 = 2097152 by decide]; omega)
  have h2 := rt_bd n 21 0
  exact ⟨h2.1, h1⟩
/-- What lies between a cell and a place along an axis: the least and the greatest distance. -/
def axN (lo st : Int) : Int := if 0 < lo then lo else if lo + st < 0 then -(lo + st) else 0
def axF (lo st : Int) : Int := if -lo < lo + st then lo + st else -lo
/-- A product of sections: the first row so far. -/
structure GI where
  re : Int
  im : Int
def GI.add (a b : GI) : GI := ⟨a.re + b.re, a.im + b.im⟩
def GI.mul (a b : GI) : GI := ⟨a.re * b.re - a.im * b.im, a.re * b.im + a.im * b.re⟩
structure Sec where
  r : Int
  l : Int
  c : Int
def Sec.z (w : Int) (s : Sec) : GI := ⟨s.r, w * s.l⟩
def Sec.y (w : Int) (s : Sec) : GI := ⟨0, w * s.c⟩
def rowStep (w : Int) (p : GI × GI) (s : Sec) : GI × GI := ((p.1.mul ((GI.mk 1 0).add ((s.z w).mul (s.y w)))).add (p.2.mul (s.y w)), (p.1.mul (s.z w)).add p.2)
def colStep (w : Int) (s : Sec) (p : GI × GI) : GI × GI := (p.1.add ((s.z w).mul (p.2.add ((s.y w).mul p.1))), p.2.add ((s.y w).mul p.1))
theorem GI.ext' {a b : GI} (h : a.re = b.re) (h' : a.im = b.im) : a = b := by cases a; cases b; simp_all
/-- A row by a column. -/
def dotG (p q : GI × GI) : GI := (p.1.mul q.1).add (p.2.mul q.2)
theorem dot_step (w : Int) (s : Sec) (p q : GI × GI) : dotG (rowStep w p s) q = dotG p (colStep w s q) := by
  refine GI.ext' ?_ ?_ <;> simp only [dotG, rowStep, colStep, GI.add, GI.mul, Sec.z, Sec.y] <;> grind
theorem dot_fold (w : Int) (q : GI × GI) : ∀ (l : List Sec) (p : GI × GI), dotG (l.foldl (rowStep w) p) q = dotG p (l.foldr (colStep w) q)
  | [], p => rfl
  | s :: r, p => by rw [List.foldl_cons, dot_fold w q r, List.foldr_cons, dot_step]
/-- The inverse response. -/
def respG (w : Int) (l : List Sec) : GI := (l.foldl (rowStep w) (⟨1, 0⟩, ⟨0, 0⟩)).1
theorem resp_col (w : Int) (l : List Sec) : respG w l = (l.foldr (colStep w) (⟨1, 0⟩, ⟨0, 0⟩)).1 := by
  have h := dot_fold w (⟨1, 0⟩, ⟨0, 0⟩) l (⟨1, 0⟩, ⟨0, 0⟩)
  have h1 : ∀ p : GI × GI, dotG p (⟨1, 0⟩, ⟨0, 0⟩) = p.1 := fun p => by refine GI.ext' ?_ ?_ <;> simp [dotG, GI.add, GI.mul]
  have h2 : ∀ q : GI × GI, dotG (⟨1, 0⟩, ⟨0, 0⟩) q = q.1 := fun q => by refine GI.ext' ?_ ?_ <;> simp [dotG, GI.add, GI.mul]
  rw [h1, h2] at h
  exact h
end Go.Proofs.YtdklmcicogmeaaaGreat

/- Whole complex numbers as complex128: sums and products are exact while they are small. -/
namespace Go.Proofs.YtdklmcicogmeaaaGreat
set_option linter.unusedVariables false

/-- The two words stand for g. -/
def CG (a b : Nat) (g : GI) : Prop := Rd a g.re ∧ Rd b g.im
def nG (g : GI) : Nat := g.re.natAbs + g.im.natAbs
theorem nG_add (g h : GI) : nG (g.add h) ≤ nG g + nG h := by
  unfold nG GI.add; simp only; omega
theorem nG_mul (g h : GI) : nG (g.mul h) ≤ nG g * nG h := by
  obtain ⟨a, b⟩ := g
  obtain ⟨c, d⟩ := h
  show (a * c - b * d).natAbs + (a * d + b * c).natAbs ≤ (a.natAbs + b.natAbs) * (c.natAbs + d.natAbs)
  have h1 : (a * c - b * d).natAbs ≤ a.natAbs * c.natAbs + b.natAbs * d.natAbs := by
    rw [← Int.natAbs_mul, ← Int.natAbs_mul]; omega
  have h2 : (a * d + b * c).natAbs ≤ a.natAbs * d.natAbs + b.natAbs * c.natAbs := by
    rw [← Int.natAbs_mul, ← Int.natAbs_mul]; omega
  rw [Nat.add_mul, Nat.mul_add, Nat.mul_add]
  omega
theorem cg_mul {a b c d : Nat} {g h : GI} (h1 : CG a b g) (h2 : CG c d h) (hb : nG g * nG h < 2 ^ 53) : ∃ x y, cMulBits a b c d = some (x, y) ∧ CG x y (g.mul h) := by
  obtain ⟨p, q⟩ := g
  obtain ⟨r, s⟩ := h
  have e : (p.natAbs + q.natAbs) * (r.natAbs + s.natAbs) < 2 ^ 53 := hb
  rw [Nat.add_mul, Nat.mul_add, Nat.mul_add, ← Int.natAbs_mul, ← Int.natAbs_mul, ← Int.natAbs_mul, ← Int.natAbs_mul] at e
  obtain ⟨ac, e1, r1⟩ := rd_mul h1.1 h2.1 (by show (p * r).natAbs < _; omega)
  obtain ⟨bd, e2, r2⟩ := rd_mul h1.2 h2.2 (by show (q * s).natAbs < _; omega)
  obtain ⟨re, e3, r3⟩ := rd_sub r1 r2 (by show (p * r - q * s).natAbs < _; omega)
  obtain ⟨ad, e4, r4⟩ := rd_mul h1.1 h2.2 (by show (p * s).natAbs < _; omega)
  obtain ⟨bc, e5, r5⟩ := rd_mul h1.2 h2.1 (by show (q * r).natAbs < _; omega)
  obtain ⟨im, e6, r6⟩ := rd_add r4 r5 (by show (p * s + q * r).natAbs < _; omega)
  exact ⟨re, im, by unfold cMulBits; rw [e1, Option.bind_some, e2, Option.bind_some, e3, Option.bind_some, e4, Option.bind_some, e5, Option.bind_some, e6, Option.bind_some], r3, r6⟩
theorem cg_add {a b c d : Nat} {g h : GI} (h1 : CG a b g) (h2 : CG c d h) (hb : nG g + nG h < 2 ^ 53) : ∃ x y, cSumBits .add .f64 a b c d = some (x, y) ∧ CG x y (g.add h) := by
  obtain ⟨p, q⟩ := g
  obtain ⟨r, s⟩ := h
  have e : (p.natAbs + q.natAbs) + (r.natAbs + s.natAbs) < 2 ^ 53 := hb
  obtain ⟨re, e1, r1⟩ := rd_add h1.1 h2.1 (by show (p + r).natAbs < _; omega)
  obtain ⟨im, e2, r2⟩ := rd_add h1.2 h2.2 (by show (q + s).natAbs < _; omega)
  exact ⟨re, im, by unfold cSumBits; rw [e1, Option.bind_some, e2, Option.bind_some], r1, r2⟩
theorem rd_one : Rd 4607182418800017408 1 := by
  have h := rd_of 1 (by decide)
  have e : floatOfInt .f64 1 = 4607182418800017408 := by decide +kernel
  rwa [e] at h
theorem rd_zero : Rd 0 0 := by
  have h := rd_of 0 (by decide)
  have e : floatOfInt .f64 0 = 0 := by decide +kernel
  rwa [e] at h
theorem cg_one : CG 4607182418800017408 0 ⟨1, 0⟩ := ⟨rd_one, rd_zero⟩
theorem cg_zero : CG 0 0 ⟨0, 0⟩ := ⟨rd_zero, rd_zero⟩
/-- A section that is in range, at a frequency. -/
def secOk (s : Sec) : Prop := (0 ≤ s.r ∧ s.r ≤ 5) ∧ (0 ≤ s.l ∧ s.l ≤ 3) ∧ (0 ≤ s.c ∧ s.c ≤ 3)
theorem z_bd {w : Int} {s : Sec} (hw : 0 ≤ w ∧ w ≤ 6) (hs : secOk s) : nG (s.z w) ≤ 23 := by
  obtain ⟨⟨h1, h2⟩, ⟨h3, h4⟩, h5, h6⟩ := hs
  have h7 := Int.mul_le_mul hw.2 h4 h3 (by omega)
  have h8 := Int.mul_nonneg hw.1 h3
  unfold nG Sec.z; simp only; omega
theorem y_bd {w : Int} {s : Sec} (hw : 0 ≤ w ∧ w ≤ 6) (hs : secOk s) : nG (s.y w) ≤ 18 := by
  obtain ⟨⟨h1, h2⟩, ⟨h3, h4⟩, h5, h6⟩ := hs
  have h7 := Int.mul_le_mul hw.2 h6 h5 (by omega)
  have h8 := Int.mul_nonneg hw.1 h5
  unfold nG Sec.y; simp only; omega
theorem zy_bd {w : Int} {s : Sec} (hw : 0 ≤ w ∧ w ≤ 6) (hs : secOk s) : nG ((s.z w).mul (s.y w)) ≤ 414 ∧ nG ((GI.mk 1 0).add ((s.z w).mul (s.y w))) ≤ 415 := by
  have h1 := nG_mul (s.z w) (s.y w)
  have h2 := Nat.mul_le_mul (z_bd hw hs) (y_bd hw hs)
  have h3 := nG_add (GI.mk 1 0) ((s.z w).mul (s.y w))
  have h4 : nG (GI.mk 1 0) = 1 := rfl
  omega
/-- What one section does to the sizes. -/
theorem step_bd {w : Int} {s : Sec} (hw : 0 ≤ w ∧ w ≤ 6) (hs : secOk s) (p : GI × GI) : nG (rowStep w p s).1 + nG (rowStep w p s).2 ≤ 438 * (nG p.1 + nG p.2) := by
  have h0 := (zy_bd hw hs).2
  have h1 := nG_mul p.1 ((GI.mk 1 0).add ((s.z w).mul (s.y w)))
  have h2 := nG_mul p.2 (s.y w)
  have h3 := nG_mul p.1 (s.z w)
  have h4 := Nat.mul_le_mul (Nat.le_refl (nG p.1)) h0
  have h5 := Nat.mul_le_mul (Nat.le_refl (nG p.2)) (y_bd hw hs)
  have h6 := Nat.mul_le_mul (Nat.le_refl (nG p.1)) (z_bd hw hs)
  have h7 := nG_add (p.1.mul ((GI.mk 1 0).add ((s.z w).mul (s.y w)))) (p.2.mul (s.y w))
  have h8 := nG_add (p.1.mul (s.z w)) p.2
  unfold rowStep
  simp only
  omega
theorem fold_bd {w : Int} (hw : 0 ≤ w ∧ w ≤ 6) : ∀ (l : List Sec) (p : GI × GI) (B : Nat), (∀ s ∈ l, secOk s) → nG p.1 + nG p.2 ≤ B → nG (l.foldl (rowStep w) p).1 + nG (l.foldl (rowStep w) p).2 ≤ 438 ^ l.length * B
  | [], p, B, _, h => by simpa using h
  | s :: r, p, B, hs, h => by
    rw [List.foldl_cons, List.length_cons, Nat.pow_succ]
    have h1 := step_bd hw (hs s (by simp)) p
    have h2 := fold_bd hw r (rowStep w p s) (438 * B) (fun x hx => hs x (by simp [hx])) (Nat.le_trans h1 (Nat.mul_le_mul (Nat.le_refl _) h))
    rw [Nat.mul_assoc]; exact h2
/-- The first row behind so many sections is small. -/
theorem row_bd {w : Int} (hw : 0 ≤ w ∧ w ≤ 6) {l : List Sec} (hs : ∀ s ∈ l, secOk s) (hl : l.length ≤ 3) : nG (l.foldl (rowStep w) (⟨1, 0⟩, ⟨0, 0⟩)).1 + nG (l.foldl (rowStep w) (⟨1, 0⟩, ⟨0, 0⟩)).2 ≤ 84027672 := by
  have h := fold_bd hw l (⟨1, 0⟩, ⟨0, 0⟩) 1 hs (by decide)
  have h2 : 438 ^ l.length ≤ 438 ^ 3 := Nat.pow_le_pow_right (by omega) hl
  have e : (438 : Nat) ^ 3 = 84027672 := by decide
  omega
end Go.Proofs.YtdklmcicogmeaaaGreat
