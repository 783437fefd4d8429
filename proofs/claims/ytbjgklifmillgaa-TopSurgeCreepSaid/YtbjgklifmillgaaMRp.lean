import Derived.Test.YtbjgklifmillgaaMLb
/- Whole numbers of any size as digits to the base 1000000000, the lowest first. No program in sight. -/
namespace Go.Proofs.Ytbjgklifmillgaa
open Go.RowKit
set_option linter.unusedVariables false

def pw : Nat → Int
  | 0 => 1
  | n + 1 => 1000000000 * pw n
def dval : List Int → Int
  | [] => 0
  | d :: l => d + 1000000000 * dval l
def DOk (l : List Int) : Prop := ∀ d ∈ l, 0 ≤ d ∧ d ≤ 999999999
/-- No zero at the end. -/
def Top (l : List Int) : Prop := ∀ k, l.length = k + 1 → l.getD k 0 ≠ 0

theorem pw_pos (n : Nat) : 1 ≤ pw n := by
  induction n with
  | zero => simp [pw]
  | succ n ih => simp only [pw]; omega
theorem pw_mono {m n : Nat} (h : m ≤ n) : pw m ≤ pw n := by
  induction n with
  | zero => obtain rfl : m = 0 := by omega
            exact Int.le_refl _
  | succ n ih =>
    by_cases h1 : m = n + 1
    · subst h1; exact Int.le_refl _
    · have := ih (by omega); have := pw_pos n; simp only [pw]; omega
theorem pw_add (m n : Nat) : pw (m + n) = pw m * pw n := by
  induction m with
  | zero => simp [pw]
  | succ m ih => rw [show m + 1 + n = (m + n) + 1 by omega]; simp only [pw]; rw [ih, Int.mul_assoc]
theorem DOk.nil : DOk [] := by intro d h; simp at h
theorem DOk.cons {d : Int} {l : List Int} (h : DOk (d :: l)) : (0 ≤ d ∧ d ≤ 999999999) ∧ DOk l := ⟨h d (by simp), fun e he => h e (by simp [he])⟩
theorem DOk.app {a b : List Int} (h : DOk a) (k : DOk b) : DOk (a ++ b) := fun d hd => by
  rcases List.mem_append.1 hd with h1 | h1
  · exact h d h1
  · exact k d h1
theorem DOk.one {d : Int} (h : 0 ≤ d) (k : d ≤ 999999999) : DOk [d] := fun e he => by simp at he; subst he; exact ⟨h, k⟩
theorem DOk.take {l : List Int} (h : DOk l) (n : Nat) : DOk (l.take n) := fun d hd => h d (List.mem_of_mem_take hd)
theorem DOk.drop {l : List Int} (h : DOk l) (n : Nat) : DOk (l.drop n) := fun d hd => h d (List.mem_of_mem_drop hd)
theorem DOk.get {l : List Int} (h : DOk l) (i : Nat) : 0 ≤ l.getD i 0 ∧ l.getD i 0 ≤ 999999999 := by
  by_cases hi : i < l.length
  · have : l.getD i 0 ∈ l := by rw [List.getD_eq_getElem?_getD, List.getElem?_eq_getElem hi]; simp
    exact h _ this
  · rw [List.getD_eq_getElem?_getD, List.getElem?_eq_none (by omega)]; simp
theorem DOk.set {l : List Int} (h : DOk l) (i : Nat) {x : Int} (h0 : 0 ≤ x) (h1 : x ≤ 999999999) : DOk (l.set i x) := fun d hd => by
  rcases List.mem_or_eq_of_mem_set hd with h2 | h2
  · exact h d h2
  · subst h2; exact ⟨h0, h1⟩
theorem dval_bd {l : List Int} (h : DOk l) : 0 ≤ dval l ∧ dval l < pw l.length := by
  induction l with
  | nil => simp [dval, pw]
  | cons d l ih =>
    obtain ⟨hd, hl⟩ := h.cons
    have := ih hl
    simp only [dval, List.length_cons, pw]
    omega
theorem dval_app (a b : List Int) : dval (a ++ b) = dval a + pw a.length * dval b := by
  induction a with
  | nil => simp [dval, pw]
  | cons d a ih =>
    simp only [List.cons_append, dval, List.length_cons, pw]
    rw [ih]; grind
theorem dval_one (d : Int) : dval [d] = d := by simp [dval]
/-- The digit at k, and what is above it. -/
theorem dval_drop (l : List Int) (k : Nat) : dval (l.drop k) = l.getD k 0 + 1000000000 * dval (l.drop (k + 1)) := by
  by_cases h : k < l.length
  · rw [List.drop_eq_getElem_cons h]
    simp only [dval]
    rw [List.getD_eq_getElem?_getD, List.getElem?_eq_getElem h]; simp
  · rw [List.drop_eq_nil_of_le (by omega), List.drop_eq_nil_of_le (by omega), List.getD_eq_getElem?_getD, List.getElem?_eq_none (by omega)]
    simp [dval]
theorem dval_split (l : List Int) (k : Nat) (h : k ≤ l.length) : dval l = dval (l.take k) + pw k * dval (l.drop k) := by
  have h1 := dval_app (l.take k) (l.drop k)
  rw [List.take_append_drop, List.length_take, Nat.min_eq_left h] at h1
  exact h1
theorem dval_take (l : List Int) (k : Nat) (h : k < l.length) : dval (l.take (k + 1)) = dval (l.take k) + pw k * l.getD k 0 := by
  have h1 := dval_split l k (by omega)
  have h2 := dval_split l (k + 1) (by omega)
  have h3 := dval_drop l k
  simp only [pw] at h2
  rw [h3] at h1
  grind
theorem dval_set (l : List Int) (k : Nat) (x : Int) (h : k < l.length) : dval (l.set k x) = dval l + pw k * (x - l.getD k 0) := by
  induction l generalizing k with
  | nil => simp at h
  | cons d l ih =>
    cases k with
    | zero => simp [List.set, dval, pw]; omega
    | succ k =>
      simp only [List.set, dval, pw, List.getD_cons_succ]
      rw [ih k (by simpa using h)]; grind
theorem getD_set_ne (l : List Int) (i k : Nat) (x : Int) (h : k ≠ i) : (l.set k x).getD i 0 = l.getD i 0 := by
  rw [List.getD_eq_getElem?_getD, List.getD_eq_getElem?_getD, List.getElem?_set_ne h]
theorem getD_set_eq (l : List Int) (i : Nat) (x : Int) (h : i < l.length) : (l.set i x).getD i 0 = x := by
  rw [List.getD_eq_getElem?_getD, List.getElem?_set_self h]; rfl
theorem getD_zeros (n i : Nat) : (List.replicate n (0 : Int)).getD i 0 = 0 := by
  rw [List.getD_eq_getElem?_getD, List.getElem?_replicate]; split <;> rfl
theorem dval_zeros (n : Nat) : dval (List.replicate n (0 : Int)) = 0 := by
  induction n with
  | zero => rfl
  | succ n ih => simp [List.replicate_succ, dval, ih]
theorem DOk.zeros (n : Nat) : DOk (List.replicate n (0 : Int)) := fun d hd => by
  obtain ⟨_, rfl⟩ := List.mem_replicate.1 hd; omega
theorem Top.nil : Top [] := fun k h => by simp at h
theorem Top.ge {l : List Int} (h : DOk l) (t : Top l) (k : Nat) (hk : l.length = k + 1) : pw k ≤ dval l := by
  have h1 := dval_split l k (by omega)
  have h2 := dval_drop l k
  rw [List.drop_eq_nil_of_le (show l.length ≤ k + 1 by omega)] at h2
  have h3 := (dval_bd (h.take k)).1
  have h4 := h.get k
  have h5 := t k hk
  have h6 : 1 ≤ dval (l.drop k) := by simp only [dval] at h2; omega
  have h7 : pw k * 1 ≤ pw k * dval (l.drop k) := Int.mul_le_mul_of_nonneg_left h6 (by have := pw_pos k; omega)
  omega
theorem Top.len {l : List Int} (h : DOk l) (t : Top l) {K : Nat} (hb : dval l < pw K) : l.length ≤ K := by
  rcases hl : l.length with _ | k
  · omega
  · have h1 := t.ge h k hl
    by_cases hk : k + 1 ≤ K
    · exact hk
    · have := pw_mono (m := K) (n := k) (by omega); omega
theorem Top.zero {l : List Int} (h : DOk l) (t : Top l) : dval l = 0 ↔ l.length = 0 := by
  constructor
  · intro h0
    rcases hl : l.length with _ | k
    · rfl
    · have h1 := t.ge h k hl
      have := pw_pos k; omega
  · intro h0; rw [List.eq_nil_of_length_eq_zero h0]; rfl
theorem Top.short {a b : List Int} (ha : DOk a) (hb : DOk b) (tb : Top b) (h : a.length < b.length) : dval a < dval b := by
  obtain ⟨k, hk⟩ : ∃ k, b.length = k + 1 := ⟨b.length - 1, by omega⟩
  have h1 := tb.ge hb k hk
  have h2 := (dval_bd ha).2
  have h3 := pw_mono (m := a.length) (n := k) (by omega)
  omega
/-- Comparing at the highest digit that differs. -/
theorem dval_lt {a b : List Int} (ha : DOk a) (hb : DOk b) (k : Nat) (hk : k < a.length) (hk2 : k < b.length) (he : dval (a.drop (k + 1)) = dval (b.drop (k + 1))) (h : a.getD k 0 < b.getD k 0) : dval a < dval b := by
  have h1 := dval_split a k (by omega)
  have h2 := dval_split b k (by omega)
  have h3 := dval_drop a k
  have h4 := dval_drop b k
  have h5 := (dval_bd (ha.take k)).2
  rw [List.length_take, Nat.min_eq_left (by omega)] at h5
  have h6 := (dval_bd (hb.take k)).1
  have h7 : pw k * (dval (a.drop k) + 1) ≤ pw k * dval (b.drop k) := Int.mul_le_mul_of_nonneg_left (by omega) (by have := pw_pos k; omega)
  rw [Int.mul_add, Int.mul_one] at h7
  omega
theorem drop_top (l : List Int) : dval (l.drop l.length) = 0 := by simp [dval]
theorem dval_trim (l : List Int) (k : Nat) (h : k < l.length) (h0 : l.getD k 0 = 0) : dval (l.take (k + 1)) = dval (l.take k) := by
  rw [dval_take l k h, h0]; simp
/-- The sign of a number as an int. -/
theorem sign_sub_pos {a b : Int} (h : b < a) : (a - b).sign = 1 := Int.sign_eq_one_of_pos (by omega)
theorem sign_sub_neg {a b : Int} (h : a < b) : (a - b).sign = -1 := Int.sign_eq_neg_one_of_neg (by omega)
theorem sign_sub_zero {a b : Int} (h : a = b) : (a - b).sign = 0 := by subst h; simp
/-- One digit of a sum. -/
theorem add_digit (o a b : List Int) (k : Nat) (c S : Int) (hl : o.length = k) (h : dval o + pw k * (c + dval (a.drop k) + dval (b.drop k)) = S) :
    dval (o ++ [(a.getD k 0 + b.getD k 0 + c) % 1000000000]) + pw (k + 1) * ((a.getD k 0 + b.getD k 0 + c) / 1000000000 + dval (a.drop (k + 1)) + dval (b.drop (k + 1))) = S := by
  rw [dval_app, dval_one, hl]
  have h1 := dval_drop a k
  have h2 := dval_drop b k
  rw [h1, h2] at h
  have h3 := Int.emod_add_mul_ediv (a.getD k 0 + b.getD k 0 + c) 1000000000
  generalize (a.getD k 0 + b.getD k 0 + c) % 1000000000 = r at *
  generalize (a.getD k 0 + b.getD k 0 + c) / 1000000000 = q at *
  simp only [pw]
  grind
theorem sub_digit (o a b : List Int) (k : Nat) (c x c' S : Int) (hl : o.length = k) (h : dval o + pw k * (dval (a.drop k) - dval (b.drop k) - c) = S) (hx : x - 1000000000 * c' = a.getD k 0 - b.getD k 0 - c) :
    dval (o ++ [x]) + pw (k + 1) * (dval (a.drop (k + 1)) - dval (b.drop (k + 1)) - c') = S := by
  rw [dval_app, dval_one, hl]
  have h1 := dval_drop a k
  have h2 := dval_drop b k
  rw [h1, h2] at h
  simp only [pw]
  grind
/-- What is left of a difference that is not below zero. -/
theorem sub_end (o : List Int) (k : Nat) (ho : DOk o) (hl : o.length = k) (X S : Int) (hX : 0 ≤ X) (hS : 0 ≤ S) (h : dval o + pw k * (0 - X) = S) : dval o = S := by
  have h1 := (dval_bd ho).2
  rw [hl] at h1
  by_cases h0 : X = 0
  · subst h0; simpa using h
  · have h2 : pw k * 1 ≤ pw k * X := Int.mul_le_mul_of_nonneg_left (by omega) (by have := pw_pos k; omega)
    have h3 : pw k * (0 - X) = - (pw k * X) := by grind
    omega
end Go.Proofs.Ytbjgklifmillgaa

/- Laws of the product and the quotient, digit by digit. No program in sight. -/
namespace Go.Proofs.Ytbjgklifmillgaa
open Go.RowKit
set_option linter.unusedVariables false

/-- One digit of a product. -/
theorem mul_digit (o l : List Int) (i k : Nat) (A C V : Int) (h : i + k < o.length) (hv : dval o + pw (i + k) * C = V + pw i * (A * dval (l.take k))) (hk : k < l.length) :
    dval (o.set (i + k) ((o.getD (i + k) 0 + A * l.getD k 0 + C) % 1000000000)) + pw (i + (k + 1)) * ((o.getD (i + k) 0 + A * l.getD k 0 + C) / 1000000000) = V + pw i * (A * dval (l.take (k + 1))) := by
  rw [dval_set _ _ _ h, dval_take l k hk]
  have h3 := Int.emod_add_mul_ediv (o.getD (i + k) 0 + A * l.getD k 0 + C) 1000000000
  have h4 : pw (i + (k + 1)) = 1000000000 * pw (i + k) := by rw [← Nat.add_assoc]; rfl
  have h5 := pw_add i k
  rw [h4]
  generalize (o.getD (i + k) 0 + A * l.getD k 0 + C) % 1000000000 = r at *
  generalize (o.getD (i + k) 0 + A * l.getD k 0 + C) / 1000000000 = q at *
  grind
/-- The end of a row of a product. -/
theorem mul_row (o l1 l2 : List Int) (i : Nat) (C : Int) (hi : i < l1.length) (h : i + l2.length < o.length) (h0 : o.getD (i + l2.length) 0 = 0)
    (hv : dval o + pw (i + l2.length) * C = dval (l1.take i) * dval l2 + pw i * (l1.getD i 0 * dval (l2.take l2.length))) :
    dval (o.set (i + l2.length) (0 + C)) = dval (l1.take (i + 1)) * dval l2 := by
  rw [dval_set _ _ _ h, dval_take l1 i hi, h0]
  rw [List.take_length] at hv
  grind
theorem mul_carry {x a b c : Int} (hx : 0 ≤ x ∧ x ≤ 999999999) (ha : 0 ≤ a ∧ a ≤ 999999999) (hb : 0 ≤ b ∧ b ≤ 999999999) (hc : 0 ≤ c ∧ c ≤ 999999999) :
    0 ≤ x + a * b + c ∧ x + a * b + c ≤ 999999999999999999 ∧ 0 ≤ (x + a * b + c) / 1000000000 ∧ (x + a * b + c) / 1000000000 ≤ 999999999 ∧ 0 ≤ (x + a * b + c) % 1000000000 ∧ (x + a * b + c) % 1000000000 ≤ 999999999 ∧ 0 ≤ a * b ∧ a * b ≤ 999999998000000001 := by
  have h1 : 0 ≤ a * b := Int.mul_nonneg ha.1 hb.1
  have h2 : a * b ≤ 999999999 * 999999999 := Int.mul_le_mul ha.2 hb.2 hb.1 (by omega)
  omega
theorem sign_mul {x y : Int} : (x * y).sign = x.sign * y.sign := Int.sign_mul x y
/-- One step of the long division: what is above digit i, and the quotient above it. -/
theorem div_step (l q : List Int) (i : Nat) (B L L2 m : Int) (hi : i < q.length) (hq : q.getD i 0 = 0) (h : dval (l.drop (i + 1)) = dval (q.drop (i + 1)) * B + L) (h2 : l.getD i 0 + 1000000000 * L - B * m = L2) :
    dval (l.drop i) = dval ((q.set i m).drop i) * B + L2 := by
  have h3 := dval_drop l i
  have h4 := dval_drop (q.set i m) i
  rw [getD_set_eq _ _ _ hi] at h4
  have h5 : (q.set i m).drop (i + 1) = q.drop (i + 1) := List.drop_set_of_lt (by omega)
  rw [h5] at h4
  rw [h3, h4]
  grind
/-- The quotient rounded down. -/
theorem wfloor_pos {x b Q R : Int} (hx : 0 < x) (h : (x.natAbs : Int) = Q * b + R) (h0 : 0 ≤ R) (h1 : R < b) : x / b = Q := by
  have e : x = R + Q * b := by omega
  rw [e, Int.add_mul_ediv_right _ _ (by omega), Int.ediv_eq_zero_of_lt h0 h1, Int.zero_add]
theorem wfloor_neg {x b Q R : Int} (hx : x < 0) (h : (x.natAbs : Int) = Q * b + R) (h0 : 0 < R) (h1 : R < b) : x / b = -Q - 1 := by
  have e : x = (b - R) + (-Q - 1) * b := by grind
  rw [e, Int.add_mul_ediv_right _ _ (by omega), Int.ediv_eq_zero_of_lt (by omega) (by omega), Int.zero_add]
theorem wfloor_neg0 {x b Q : Int} (hx : x < 0) (h : (x.natAbs : Int) = Q * b + 0) (h1 : 0 < b) : x / b = -Q := by
  have e : x = 0 + (-Q) * b := by grind
  rw [e, Int.add_mul_ediv_right _ _ (by omega), Int.ediv_eq_zero_of_lt (by omega) (by omega), Int.zero_add]
theorem natAbs_mul_lt {x y : Int} {K M : Nat} (hx : (x.natAbs : Int) < pw K) (hy : (y.natAbs : Int) < pw M) : ((x * y).natAbs : Int) < pw (K + M) := by
  rw [Int.natAbs_mul, pw_add, Int.natCast_mul]
  have := pw_pos K
  have := pw_pos M
  have h2 : (x.natAbs : Int) * y.natAbs ≤ (x.natAbs : Int) * (pw M) := Int.mul_le_mul_of_nonneg_left (by omega) (by omega)
  have h3 : (x.natAbs : Int) * (pw M) < pw K * pw M := Int.mul_lt_mul_of_pos_right hx (by omega)
  omega
theorem natAbs_add_lt {x y : Int} {K : Nat} (hx : (x.natAbs : Int) < pw K) (hy : (y.natAbs : Int) < pw K) : ((x + y).natAbs : Int) < pw (K + 1) := by
  simp only [pw]; omega
theorem ediv_lt {x y : Int} {K : Nat} (hy : 0 < y) (hx : (x.natAbs : Int) < pw K) : ((x / y).natAbs : Int) ≤ x.natAbs ∧ ((x / y).natAbs : Int) < pw K := by
  have h : (x / y).natAbs ≤ x.natAbs := by
    by_cases h0 : 0 ≤ x
    · have h1 := Int.ediv_nonneg h0 (Int.le_of_lt hy)
      have h2 := Int.ediv_le_self y h0
      omega
    · have h1 : x / y < 0 := Int.ediv_neg_of_neg_of_pos (by omega) hy
      have h2 : x ≤ x / y := by
        rw [Int.le_ediv_iff_mul_le hy]
        have : x * y ≤ x * 1 := Int.mul_le_mul_of_nonpos_left (by omega) (by omega)
        omega
      omega
  omega
end Go.Proofs.Ytbjgklifmillgaa

/- Quotients by their numerators and denominators, and how many digits these have. No program in sight. -/
namespace Go.Proofs.Ytbjgklifmillgaa
set_option linter.unusedVariables false

theorem rat_num {x y : Int} (hy : 0 < y) : (Rat.divInt x y).num = x / (Int.gcd x y : Nat) := by
  rw [Rat.num_divInt, Int.sign_eq_one_of_pos hy, Int.one_mul, Int.gcd_comm]
theorem rat_den {x y : Int} (hy : 0 < y) : ((Rat.divInt x y).den : Int) = y / (Int.gcd x y : Nat) := by
  rw [Rat.den_divInt, if_neg (by omega), Int.gcd_comm, Int.natCast_ediv, Int.natAbs_of_nonneg (by omega)]
theorem rat_neg {x y : Int} : Rat.divInt (-x) (-y) = Rat.divInt x y := by rw [Rat.divInt_neg', Int.neg_neg]
theorem gcd_le_y {x y : Int} (hy : 0 < y) : 0 < (Int.gcd x y : Int) ∧ (Int.gcd x y : Int) ≤ y := by
  have h1 : Int.gcd x y ∣ y.natAbs := Int.gcd_dvd_natAbs_right x y
  have h2 : Int.gcd x y ≠ 0 := by intro h; rw [Int.gcd_eq_zero_iff] at h; omega
  have h3 := Nat.le_of_dvd (by omega) h1
  omega
theorem gcd_step (x y : Int) (hx : 0 ≤ x) (hy : 0 < y) : Int.gcd y (x - x / y * y) = Int.gcd x y := by
  have : x - x / y * y = x % y := by have := Int.mul_ediv_add_emod x y; grind
  obtain ⟨a, rfl⟩ := Int.eq_ofNat_of_zero_le hx
  obtain ⟨b, rfl⟩ := Int.eq_ofNat_of_zero_le (Int.le_of_lt hy)
  rw [this, ← Int.natCast_emod, Int.gcd_natCast_natCast, Int.gcd_natCast_natCast, Nat.gcd_comm a b, Nat.gcd_rec b a, Nat.gcd_comm]
/-- Numerator and denominator have at most K digits. -/
def Sz (K : Nat) (q : Rat) : Prop := (q.num.natAbs : Int) < pw K ∧ (q.den : Int) < pw K
theorem Sz.mono {K M : Nat} {q : Rat} (h : Sz K q) (hk : K ≤ M) : Sz M q := by
  have := pw_mono hk
  exact ⟨by have := h.1; omega, by have := h.2; omega⟩
theorem ediv_natAbs_le (x : Int) (n : Nat) (hn : 0 < n) (hd : (n : Int) ∣ x) : (x / n).natAbs ≤ x.natAbs := by
  obtain ⟨z, rfl⟩ := hd
  rw [Int.mul_ediv_cancel_left _ (by omega), Int.natAbs_mul]
  exact Nat.le_mul_of_pos_left _ (by omega)
theorem sz_pos {x y : Int} {K : Nat} (hy : 0 < y) (hx : (x.natAbs : Int) < pw K) (hy2 : (y.natAbs : Int) < pw K) : Sz K (Rat.divInt x y) := by
  have hg := gcd_le_y (x := x) hy
  refine ⟨?_, ?_⟩
  · rw [rat_num hy]
    have := ediv_natAbs_le x (Int.gcd x y) (by omega) (Int.gcd_dvd_left ..)
    omega
  · rw [rat_den hy]
    have := ediv_natAbs_le y (Int.gcd x y) (by omega) (Int.gcd_dvd_right ..)
    have h2 : 0 ≤ y / (Int.gcd x y : Nat) := Int.ediv_nonneg (by omega) (by omega)
    omega
theorem sz_div {x y : Int} {K : Nat} (hy : y ≠ 0) (hx : (x.natAbs : Int) < pw K) (hy2 : (y.natAbs : Int) < pw K) : Sz K (Rat.divInt x y) := by
  by_cases h : 0 < y
  · exact sz_pos h hx hy2
  · rw [← rat_neg]
    exact sz_pos (by omega) (by rw [Int.natAbs_neg]; exact hx) (by rw [Int.natAbs_neg]; exact hy2)
theorem den_pos (q : Rat) : 0 < (q.den : Int) := by have := q.den_nz; omega
theorem rmul_eq (a b : Rat) : a * b = Rat.divInt (a.num * b.num) (a.den * b.den) := by
  rw [← Rat.divInt_mul_divInt, Rat.num_divInt_den, Rat.num_divInt_den]
theorem radd_eq (a b : Rat) : a + b = Rat.divInt (a.num * b.den + b.num * a.den) (a.den * b.den) := by
  have h1 := den_pos a
  have h2 := den_pos b
  rw [← Rat.divInt_add_divInt _ _ (by omega) (by omega), Rat.num_divInt_den, Rat.num_divInt_den]
theorem rdiv_eq (a b : Rat) (h : b ≠ 0) : a / b = Rat.divInt (a.num * b.den) (a.den * b.num) := by
  rw [Rat.div_def, Rat.inv_def, ← Rat.divInt_mul_divInt, Rat.num_divInt_den]
theorem num_zero {q : Rat} : q.num = 0 ↔ q = 0 := Rat.num_eq_zero
theorem den_ne (a b : Rat) (h : b ≠ 0) : (a.den : Int) * b.num ≠ 0 := by
  have h1 := den_pos a
  have h2 : b.num ≠ 0 := fun h0 => h (num_zero.1 h0)
  intro h3
  rcases Int.mul_eq_zero.1 h3 with h4 | h4 <;> omega
theorem natAbs_den (q : Rat) : (((q.den : Int)).natAbs : Int) = q.den := by omega
theorem sz_mul {a b : Rat} {K M : Nat} (ha : Sz K a) (hb : Sz M b) : Sz (K + M) (a * b) := by
  rw [rmul_eq]
  refine sz_pos (Int.mul_pos (den_pos a) (den_pos b)) (natAbs_mul_lt ha.1 hb.1) (natAbs_mul_lt ?_ ?_)
  · rw [natAbs_den]; exact ha.2
  · rw [natAbs_den]; exact hb.2
theorem sz_add {a b : Rat} {K M : Nat} (ha : Sz K a) (hb : Sz M b) : Sz (K + M + 1) (a + b) := by
  rw [radd_eq]
  have h1 : ((a.num * b.den).natAbs : Int) < pw (K + M) := natAbs_mul_lt ha.1 (by rw [natAbs_den]; exact hb.2)
  have h2 : ((b.num * a.den).natAbs : Int) < pw (K + M) := by rw [Nat.add_comm]; exact natAbs_mul_lt hb.1 (by rw [natAbs_den]; exact ha.2)
  have h3 : (((a.den : Int) * b.den).natAbs : Int) < pw (K + M) := natAbs_mul_lt (by rw [natAbs_den]; exact ha.2) (by rw [natAbs_den]; exact hb.2)
  have := pw_mono (m := K + M) (n := K + M + 1) (by omega)
  exact sz_pos (Int.mul_pos (den_pos a) (den_pos b)) (natAbs_add_lt h1 h2) (by omega)
theorem sz_quot {a b : Rat} {K M : Nat} (h : b ≠ 0) (ha : Sz K a) (hb : Sz M b) : Sz (K + M) (a / b) := by
  rw [rdiv_eq a b h]
  exact sz_div (den_ne a b h) (natAbs_mul_lt ha.1 (by rw [natAbs_den]; exact hb.2)) (natAbs_mul_lt (by rw [natAbs_den]; exact ha.2) hb.1)
theorem neg_den (q : Rat) : (-q).den = q.den := rfl
theorem sz_neg {a : Rat} {K : Nat} (ha : Sz K a) : Sz K (-a) := ⟨by rw [Rat.neg_num, Int.natAbs_neg]; exact ha.1, by rw [neg_den]; exact ha.2⟩
theorem sz_sub {a b : Rat} {K M : Nat} (ha : Sz K a) (hb : Sz M b) : Sz (K + M + 1) (a - b) := by
  rw [Rat.sub_eq_add_neg]
  exact sz_add ha (sz_neg hb)
theorem sz_int {n : Int} (h : -999999999 ≤ n) (h2 : n ≤ 999999999) : Sz 1 (n : Rat) := by
  refine ⟨?_, ?_⟩
  · rw [Rat.num_intCast]; simp only [pw]; omega
  · rw [Rat.den_intCast]; simp only [pw]; omega
theorem sz_frac {n d : Int} (h : (n.natAbs : Int) < pw 2) (hd : 0 < d) (h2 : d < pw 2) : Sz 2 (Rat.divInt n d) := sz_pos hd h (by omega)
/-- The sign of a comparison. -/
theorem cmp_sign (a b : Rat) : ((a.num * b.den - b.num * a.den).sign = 0 ↔ a = b) ∧ (0 < (a.num * b.den - b.num * a.den).sign ↔ b < a) ∧ ((a.num * b.den - b.num * a.den).sign < 0 ↔ a < b) := by
  refine ⟨?_, ?_, ?_⟩
  · rw [Int.sign_eq_zero_iff_zero, Rat.eq_iff_mul_eq_mul]; omega
  · rw [Int.sign_pos_iff, Rat.lt_iff]; omega
  · rw [Int.sign_neg_iff, Rat.lt_iff]; omega
theorem sign_num (q : Rat) : (q.num.sign = 0 ↔ q = 0) ∧ (0 < q.num.sign ↔ 0 < q) ∧ (q.num.sign < 0 ↔ q < 0) := by
  refine ⟨?_, ?_, ?_⟩
  · rw [Int.sign_eq_zero_iff_zero, num_zero]
  · rw [Int.sign_pos_iff, Rat.lt_iff]; simp
  · rw [Int.sign_neg_iff, Rat.lt_iff]; simp
end Go.Proofs.Ytbjgklifmillgaa

/- The size of a quotient of small parts. No program in sight. -/
namespace Go.Proofs.Ytbjgklifmillgaa
theorem sz_parts {p q : Int} (h1 : -9000000000 ≤ p ∧ p ≤ 9000000000) (h2 : 1 ≤ q ∧ q ≤ 9000000000) : Sz 2 (Rat.divInt p q) := sz_frac (by simp only [pw]; omega) (by omega) (by simp only [pw]; omega)
end Go.Proofs.Ytbjgklifmillgaa
