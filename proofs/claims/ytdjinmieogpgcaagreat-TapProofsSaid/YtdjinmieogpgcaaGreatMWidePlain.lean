import Derived.Test.YtdjinmieogpgcaaGreatMTDir
/- Whole numbers of any size as digits to the base 1000000000, the lowest first. No program in sight. -/
namespace Go.Proofs.YtdjinmieogpgcaaGreat
open Go.RowKit
set_option linter.unusedVariables false
def pw : Nat → Int
 | 0 => 1
 | n + 1 => 1000000000 * pw n
def dval : List Int → Int
 | [] => 0
 | d :: l => d + 1000000000 * dval l
def DOk (l : List Int) : Prop := ∀ d ∈ l, 0 ≤ d ∧ d ≤ 999999999
def Top (l : List Int) : Prop := ∀ k, l.length = k + 1 → l.getD k 0 ≠ 0
theorem pw_pos (n : Nat) : 1 ≤ pw n := by
 induction n with
 | zero => simp [pw]
 | succ n ih => simp only [pw]; omega
theorem pw_mono {m n : Nat} (h : m ≤ n) : pw m ≤ pw n := by
 induction n with
 | zero => obtain rfl : m = 0 := by omega
           exact Int.le_refl _
 | succ n ih =>
  by_cases h1 : m = n + 1
  ·subst h1; exact Int.le_refl _
  ·have := ih (by omega); have := pw_pos n; simp only [pw]; omega
theorem pw_add (m n : Nat) : pw (m + n) = pw m * pw n := by
 induction m with
 | zero => simp [pw]
 | succ m ih => rw [show m + 1 + n = (m + n) + 1 by omega]; simp only [pw]; rw [ih, Int.mul_assoc]
theorem DOk.nil : DOk [] := by intro d h; simp at h
theorem DOk.cons {d : Int} {l : List Int} (h : DOk (d :: l)) : (0 ≤ d ∧ d ≤ 999999999) ∧ DOk l := ⟨h d (by simp), fun e he => h e (by simp [he])⟩
theorem DOk.app {a b : List Int} (h : DOk a) (k : DOk b) : DOk (a ++ b) := fun d hd => by
 rcases List.mem_append.1 hd with h1 | h1
 ·exact h d h1
 ·exact k d h1
theorem DOk.one {d : Int} (h : 0 ≤ d) (k : d ≤ 999999999) : DOk [d] := fun e he => by simp at he; subst he; exact ⟨h, k⟩
theorem DOk.take {l : List Int} (h : DOk l) (n : Nat) : DOk (l.take n) := fun d hd => h d (List.mem_of_mem_take hd)
theorem DOk.drop {l : List Int} (h : DOk l) (n : Nat) : DOk (l.drop n) := fun d hd => h d (List.mem_of_mem_drop hd)
theorem DOk.get {l : List Int} (h : DOk l) (i : Nat) : 0 ≤ l.getD i 0 ∧ l.getD i 0 ≤ 999999999 := by
 by_cases hi : i < l.length
 ·have : l.getD i 0 ∈ l := by rw [List.getD_eq_getElem?_getD, List.getElem?_eq_getElem hi]; simp
  exact h _ this
 ·rw [List.getD_eq_getElem?_getD, List.getElem?_eq_none (by omega)]; simp
theorem DOk.set {l : List Int} (h : DOk l) (i : Nat) {x : Int} (h0 : 0 ≤ x) (h1 : x ≤ 999999999) : DOk (l.set i x) := fun d hd => by
 rcases List.mem_or_eq_of_mem_set hd with h2 | h2
 ·exact h d h2
 ·subst h2; exact ⟨h0, h1⟩
theorem dval_bd {l : List Int} (h : DOk l) : 0 ≤ dval l ∧ dval l < pw l.length := by
 induction l with
 | nil => simp [dval, pw]
 | cons d l ih =>
  obtain ⟨hd, hl⟩ := h.cons
  have := ih hl
  simp only [dval, List.length_cons, pw]
  omega
theorem dval_app (a b : List Int) : dval (a ++ b) = dval a + pw a.length * dval b := by
 induction a with
 | nil => simp [dval, pw]
 | cons d a ih =>
  simp only [List.cons_append, dval, List.length_cons, pw]
  rw [ih]; grind
theorem dval_one (d : Int) : dval [d] = d := by simp [dval]
theorem dval_drop (l : List Int) (k : Nat) : dval (l.drop k) = l.getD k 0 + 1000000000 * dval (l.drop (k + 1)) := by
 by_cases h : k < l.length
 ·rw [List.drop_eq_getElem_cons h]
  simp only [dval]
  rw [List.getD_eq_getElem?_getD, List.getElem?_eq_getElem h]; simp
 ·rw [List.drop_eq_nil_of_le (by omega), List.drop_eq_nil_of_le (by omega), List.getD_eq_getElem?_getD, List.getElem?_eq_none (by omega)]
  simp [dval]
theorem dval_split (l : List Int) (k : Nat) (h : k ≤ l.length) : dval l = dval (l.take k) + pw k * dval (l.drop k) := by
 have h1 := dval_app (l.take k) (l.drop k)
 rw [List.take_append_drop, List.length_take, Nat.min_eq_left h] at h1
 exact h1
theorem dval_take (l : List Int) (k : Nat) (h : k < l.length) : dval (l.take (k + 1)) = dval (l.take k) + pw k * l.getD k 0 := by
 have h1 := dval_split l k (by omega)
 have h2 := dval_split l (k + 1) (by omega)
 have h3 := dval_drop l k
 simp only [pw] at h2
 rw [h3] at h1
 grind
theorem dval_set (l : List Int) (k : Nat) (x : Int) (h : k < l.length) : dval (l.set k x) = dval l + pw k * (x - l.getD k 0) := by
 induction l generalizing k with
 | nil => simp at h
 | cons d l ih =>
  cases k with
  | zero => simp [List.set, dval, pw]; omega
  | succ k =>
   simp only [List.set, dval, pw, List.getD_cons_succ]
   rw [ih k (by simpa using h)]; grind
theorem getD_setW_ne (l : List Int) (i k : Nat) (x : Int) (h : k ≠ i) : (l.set k x).getD i 0 = l.getD i 0 := by
 rw [List.getD_eq_getElem?_getD, List.getD_eq_getElem?_getD, List.getElem?_set_ne h]
theorem getD_set_eq (l : List Int) (i : Nat) (x : Int) (h : i < l.length) : (l.set i x).getD i 0 = x := by
 rw [List.getD_eq_getElem?_getD, List.getElem?_set_self h]; rfl
theorem getD_zeros (n i : Nat) : (List.replicate n (0 : Int)).getD i 0 = 0 := by
 rw [List.getD_eq_getElem?_getD, List.getElem?_replicate]; split <;> rfl
theorem dval_zeros (n : Nat) : dval (List.replicate n (0 : Int)) = 0 := by
 induction n with
 | zero => rfl
 | succ n ih => simp [List.replicate_succ, dval, ih]
theorem DOk.zeros (n : Nat) : DOk (List.replicate n (0 : Int)) := fun d hd => by
 obtain ⟨_, rfl⟩ := List.mem_replicate.1 hd; omega
theorem Top.nil : Top [] := fun k h => by simp at h
theorem Top.ge {l : List Int} (h : DOk l) (t : Top l) (k : Nat) (hk : l.length = k + 1) : pw k ≤ dval l := by
 have h1 := dval_split l k (by omega)
 have h2 := dval_drop l k
 rw [List.drop_eq_nil_of_le (show l.length ≤ k + 1 by omega)] at h2
 have h3 := (dval_bd (h.take k)).1
 have h4 := h.get k
 have h5 := t k hk
 have h6 : 1 ≤ dval (l.drop k) := by simp only [dval] at h2; omega
 have h7 : pw k * 1 ≤ pw k * dval (l.drop k) := Int.mul_le_mul_of_nonneg_left h6 (by have := pw_pos k; omega)
 omega
theorem Top.len {l : List Int} (h : DOk l) (t : Top l) {K : Nat} (hb : dval l < pw K) : l.length ≤ K := by
 rcases hl : l.length with _ | k
 ·omega
 ·have h1 := t.ge h k hl
  by_cases hk : k + 1 ≤ K
  ·exact hk
  ·have := pw_mono (m := K) (n := k) (by omega); omega
theorem Top.zero {l : List Int} (h : DOk l) (t : Top l) : dval l = 0 ↔ l.length = 0 := by
 constructor
 ·intro h0
  rcases hl : l.length with _ | k
  ·rfl
  ·have h1 := t.ge h k hl
   have := pw_pos k; omega
 ·intro h0; rw [List.eq_nil_of_length_eq_zero h0]; rfl
theorem Top.short {a b : List Int} (ha : DOk a) (hb : DOk b) (tb : Top b) (h : a.length < b.length) : dval a < dval b := by
 obtain ⟨k, hk⟩ : ∃ k, b.length = k + 1 := ⟨b.length - 1, by omega⟩
 have h1 := tb.ge hb k hk
 have h2 := (dval_bd ha).2
 have h3 := pw_mono (m := a.length) (n := k) (by omega)
 omega
theorem dval_lt {a b : List Int} (ha : DOk a) (hb : DOk b) (k : Nat) (hk : k < a.length) (hk2 : k < b.length) (he : dval (a.drop (k + 1)) = dval (b.drop (k + 1))) (h : a.getD k 0 < b.getD k 0) : dval a < dval b := by
 have h1 := dval_split a k (by omega)
 have h2 := dval_split b k (by omega)
 have h3 := dval_drop a k
 have h4 := dval_drop b k
 have h5 := (dval_bd (ha.take k)).2
 rw [List.length_take, Nat.min_eq_left (by omega)] at h5
 have h6 := (dval_bd (hb.take k)).1
 have h7 : pw k * (dval (a.drop k) + 1) ≤ pw k * dval (b.drop k) := Int.mul_le_mul_of_nonneg_left (by omega) (by have := pw_pos k; omega)
 rw [Int.mul_add, Int.mul_one] at h7
 omega
theorem dval_trim (l : List Int) (k : Nat) (h : k < l.length) (h0 : l.getD k 0 = 0) : dval (l.take (k + 1)) = dval (l.take k) := by
 rw [dval_take l k h, h0]; simp
theorem sign_sub_pos {a b : Int} (h : b < a) : (a - b).sign = 1 := Int.sign_eq_one_of_pos (by omega)
theorem sign_sub_neg {a b : Int} (h : a < b) : (a - b).sign = -1 := Int.sign_eq_neg_one_of_neg (by omega)
theorem sign_sub_zero {a b : Int} (h : a = b) : (a - b).sign = 0 := by subst h; simp
theorem add_digit (o a b : List Int) (k : Nat) (c S : Int) (hl : o.length = k) (h : dval o + pw k * (c + dval (a.drop k) + dval (b.drop k)) = S) :
    dval (o ++ [(a.getD k 0 + b.getD k 0 + c) % 1000000000]) + pw (k + 1) * ((a.getD k 0 + b.getD k 0 + c) / 1000000000 + dval (a.drop (k + 1)) + dval (b.drop (k + 1))) = S := by
 rw [dval_app, dval_one, hl]
 have h1 := dval_drop a k
 have h2 := dval_drop b k
 rw [h1, h2] at h
 have h3 := Int.emod_add_mul_ediv (a.getD k 0 + b.getD k 0 + c) 1000000000
 generalize (a.getD k 0 + b.getD k 0 + c) % 1000000000 = r at *
 generalize (a.getD k 0 + b.getD k 0 + c) / 1000000000 = q at *
 simp only [pw]
 grind
theorem sub_digit (o a b : List Int) (k : Nat) (c x c' S : Int) (hl : o.length = k) (h : dval o + pw k * (dval (a.drop k) - dval (b.drop k) - c) = S) (hx : x - 1000000000 * c' = a.getD k 0 - b.getD k 0 - c) :
    dval (o ++ [x]) + pw (k + 1) * (dval (a.drop (k + 1)) - dval (b.drop (k + 1)) - c') = S := by
 rw [dval_app, dval_one, hl]
 have h1 := dval_drop a k
 have h2 := dval_drop b k
 rw [h1, h2] at h
 simp only [pw]
 grind
theorem sub_end (o : List Int) (k : Nat) (ho : DOk o) (hl : o.length = k) (X S : Int) (hX : 0 ≤ X) (hS : 0 ≤ S) (h : dval o + pw k * (0 - X) = S) : dval o = S := by
 have h1 := (dval_bd ho).2
 rw [hl] at h1
 by_cases h0 : X = 0
 ·subst h0; simpa using h
 ·have h2 : pw k * 1 ≤ pw k * X := Int.mul_le_mul_of_nonneg_left (by omega) (by have := pw_pos k; omega)
  have h3 : pw k * (0 - X) = - (pw k * X) := by grind
  omega
/- Laws of the product and the quotient, digit by digit. No program in sight. -/
theorem mul_digit (o l : List Int) (i k : Nat) (A C V : Int) (h : i + k < o.length) (hv : dval o + pw (i + k) * C = V + pw i * (A * dval (l.take k))) (hk : k < l.length) :
    dval (o.set (i + k) ((o.getD (i + k) 0 + A * l.getD k 0 + C) % 1000000000)) + pw (i + (k + 1)) * ((o.getD (i + k) 0 + A * l.getD k 0 + C) / 1000000000) = V + pw i * (A * dval (l.take (k + 1))) := by
 rw [dval_set _ _ _ h, dval_take l k hk]
 have h3 := Int.emod_add_mul_ediv (o.getD (i + k) 0 + A * l.getD k 0 + C) 1000000000
 have h4 : pw (i + (k + 1)) = 1000000000 * pw (i + k) := by rw [← Nat.add_assoc]; rfl
 have h5 := pw_add i k
 rw [h4]
 generalize (o.getD (i + k) 0 + A * l.getD k 0 + C) % 1000000000 = r at *
 generalize (o.getD (i + k) 0 + A * l.getD k 0 + C) / 1000000000 = q at *
 grind
theorem mul_row (o l1 l2 : List Int) (i : Nat) (C : Int) (hi : i < l1.length) (h : i + l2.length < o.length) (h0 : o.getD (i + l2.length) 0 = 0)
    (hv : dval o + pw (i + l2.length) * C = dval (l1.take i) * dval l2 + pw i * (l1.getD i 0 * dval (l2.take l2.length))) :
    dval (o.set (i + l2.length) (0 + C)) = dval (l1.take (i + 1)) * dval l2 := by
 rw [dval_set _ _ _ h, dval_take l1 i hi, h0]
 rw [List.take_length] at hv
 grind
theorem mul_carry {x a b c : Int} (hx : 0 ≤ x ∧ x ≤ 999999999) (ha : 0 ≤ a ∧ a ≤ 999999999) (hb : 0 ≤ b ∧ b ≤ 999999999) (hc : 0 ≤ c ∧ c ≤ 999999999) :
    0 ≤ x + a * b + c ∧ x + a * b + c ≤ 999999999999999999 ∧ 0 ≤ (x + a * b + c) / 1000000000 ∧ (x + a * b + c) / 1000000000 ≤ 999999999 ∧ 0 ≤ (x + a * b + c) % 1000000000 ∧ (x + a * b + c) % 1000000000 ≤ 999999999 ∧ 0 ≤ a * b ∧ a * b ≤ 999999998000000001 := by
 have h1 : 0 ≤ a * b := Int.mul_nonneg ha.1 hb.1
 have h2 : a * b ≤ 999999999 * 999999999 := Int.mul_le_mul ha.2 hb.2 hb.1 (by omega)
 omega
theorem sign_mul {x y : Int} : (x * y).sign = x.sign * y.sign := Int.sign_mul x y
theorem div_step (l q : List Int) (i : Nat) (B L L2 m : Int) (hi : i < q.length) (hq : q.getD i 0 = 0) (h : dval (l.drop (i + 1)) = dval (q.drop (i + 1)) * B + L) (h2 : l.getD i 0 + 1000000000 * L - B * m = L2) :
    dval (l.drop i) = dval ((q.set i m).drop i) * B + L2 := by
 have h3 := dval_drop l i
 have h4 := dval_drop (q.set i m) i
 rw [getD_set_eq _ _ _ hi] at h4
 have h5 : (q.set i m).drop (i + 1) = q.drop (i + 1) := List.drop_set_of_lt (by omega)
 rw [h5] at h4
 rw [h3, h4]
 grind
theorem wfloor_pos {x b Q R : Int} (hx : 0 < x) (h : (x.natAbs : Int) = Q * b + R) (h0 : 0 ≤ R) (h1 : R < b) : x / b = Q := by
 have e : x = R + Q * b := by omega
 rw [e, Int.add_mul_ediv_right _ _ (by omega), Int.ediv_eq_zero_of_lt h0 h1, Int.zero_add]
theorem wfloor_neg {x b Q R : Int} (hx : x < 0) (h : (x.natAbs : Int) = Q * b + R) (h0 : 0 < R) (h1 : R < b) : x / b = -Q - 1 := by
 have e : x = (b - R) + (-Q - 1) * b := by grind
 rw [e, Int.add_mul_ediv_right _ _ (by omega), Int.ediv_eq_zero_of_lt (by omega) (by omega), Int.zero_add]
theorem wfloor_neg0 {x b Q : Int} (hx : x < 0) (h : (x.natAbs : Int) = Q * b + 0) (h1 : 0 < b) : x / b = -Q := by
 have e : x = 0 + (-Q) * b := by grind
 rw [e, Int.add_mul_ediv_right _ _ (by omega), Int.ediv_eq_zero_of_lt (by omega) (by omega), Int.zero_add]
theorem natAbs_mul_lt {x y : Int} {K M : Nat} (hx : (x.natAbs : Int) < pw K) (hy : (y.natAbs : Int) < pw M) : ((x * y).natAbs : Int) < pw (K + M) := by
 rw [Int.natAbs_mul, pw_add, Int.natCast_mul]
 have := pw_pos K
 have := pw_pos M
 have h2 : (x.natAbs : Int) * y.natAbs ≤ (x.natAbs : Int) * (pw M) := Int.mul_le_mul_of_nonneg_left (by omega) (by omega)
 have h3 : (x.natAbs : Int) * (pw M) < pw K * pw M := Int.mul_lt_mul_of_pos_right hx (by omega)
 omega
theorem natAbs_add_lt {x y : Int} {K : Nat} (hx : (x.natAbs : Int) < pw K) (hy : (y.natAbs : Int) < pw K) : ((x + y).natAbs : Int) < pw (K + 1) := by
 simp only [pw]; omega
/- Quotients by their numerators and denominators, and how many digits these have. No program in sight. -/
theorem rat_num {x y : Int} (hy : 0 < y) : (Rat.divInt x y).num = x / (Int.gcd x y : Nat) := by
 rw [Rat.num_divInt, Int.sign_eq_one_of_pos hy, Int.one_mul, Int.gcd_comm]
theorem rat_den {x y : Int} (hy : 0 < y) : ((Rat.divInt x y).den : Int) = y / (Int.gcd x y : Nat) := by
 rw [Rat.den_divInt, if_neg (by omega), Int.gcd_comm, Int.natCast_ediv, Int.natAbs_of_nonneg (by omega)]
theorem rat_neg {x y : Int} : Rat.divInt (-x) (-y) = Rat.divInt x y := by rw [Rat.divInt_neg', Int.neg_neg]
theorem gcd_le_y {x y : Int} (hy : 0 < y) : 0 < (Int.gcd x y : Int) ∧ (Int.gcd x y : Int) ≤ y := by
 have h1 : Int.gcd x y ∣ y.natAbs := Int.gcd_dvd_natAbs_right x y
 have h2 : Int.gcd x y ≠ 0 := by intro h; rw [Int.gcd_eq_zero_iff] at h; omega
 have h3 := Nat.le_of_dvd (by omega) h1
 omega
def Sz (K : Nat) (q : Rat) : Prop := (q.num.natAbs : Int) < pw K ∧ (q.den : Int) < pw K
theorem ediv_natAbs_le (x : Int) (n : Nat) (hn : 0 < n) (hd : (n : Int) ∣ x) : (x / n).natAbs ≤ x.natAbs := by
 obtain ⟨z, rfl⟩ := hd
 rw [Int.mul_ediv_cancel_left _ (by omega), Int.natAbs_mul]
 exact Nat.le_mul_of_pos_left _ (by omega)
theorem sz_pos {x y : Int} {K : Nat} (hy : 0 < y) (hx : (x.natAbs : Int) < pw K) (hy2 : (y.natAbs : Int) < pw K) : Sz K (Rat.divInt x y) := by
 have hg := gcd_le_y (x := x) hy
 refine ⟨?_, ?_⟩
 ·rw [rat_num hy]
  have := ediv_natAbs_le x (Int.gcd x y) (by omega) (Int.gcd_dvd_left ..)
  omega
 ·rw [rat_den hy]
  have := ediv_natAbs_le y (Int.gcd x y) (by omega) (Int.gcd_dvd_right ..)
  have h2 : 0 ≤ y / (Int.gcd x y : Nat) := Int.ediv_nonneg (by omega) (by omega)
  omega
theorem den_pos (q : Rat) : 0 < (q.den : Int) := by have := q.den_nz; omega
theorem radd_eq (a b : Rat) : a + b = Rat.divInt (a.num * b.den + b.num * a.den) (a.den * b.den) := by
 have h1 := den_pos a
 have h2 := den_pos b
 rw [← Rat.divInt_add_divInt _ _ (by omega) (by omega), Rat.num_divInt_den, Rat.num_divInt_den]
theorem rdiv_eq (a b : Rat) (h : b ≠ 0) : a / b = Rat.divInt (a.num * b.den) (a.den * b.num) := by
 rw [Rat.div_def, Rat.inv_def, ← Rat.divInt_mul_divInt, Rat.num_divInt_den]
theorem num_zero {q : Rat} : q.num = 0 ↔ q = 0 := Rat.num_eq_zero
theorem den_ne (a b : Rat) (h : b ≠ 0) : (a.den : Int) * b.num ≠ 0 := by
 have h1 := den_pos a
 have h2 : b.num ≠ 0 := fun h0 => h (num_zero.1 h0)
 intro h3
 rcases Int.mul_eq_zero.1 h3 with h4 | h4 <;> omega
theorem natAbs_den (q : Rat) : (((q.den : Int)).natAbs : Int) = q.den := by omega
theorem sz_add {a b : Rat} {K M : Nat} (ha : Sz K a) (hb : Sz M b) : Sz (K + M + 1) (a + b) := by
 rw [radd_eq]
 have h1 : ((a.num * b.den).natAbs : Int) < pw (K + M) := natAbs_mul_lt ha.1 (by rw [natAbs_den]; exact hb.2)
 have h2 : ((b.num * a.den).natAbs : Int) < pw (K + M) := by rw [Nat.add_comm]; exact natAbs_mul_lt hb.1 (by rw [natAbs_den]; exact ha.2)
 have h3 : (((a.den : Int) * b.den).natAbs : Int) < pw (K + M) := natAbs_mul_lt (by rw [natAbs_den]; exact ha.2) (by rw [natAbs_den]; exact hb.2)
 have := pw_mono (m := K + M) (n := K + M + 1) (by omega)
 exact sz_pos (Int.mul_pos (den_pos a) (den_pos b)) (natAbs_add_lt h1 h2) (by omega)
theorem neg_den (q : Rat) : (-q).den = q.den := rfl
theorem sz_neg {a : Rat} {K : Nat} (ha : Sz K a) : Sz K (-a) := ⟨by rw [Rat.neg_num, Int.natAbs_neg]; exact ha.1, by rw [neg_den]; exact ha.2⟩
theorem sz_sub {a b : Rat} {K M : Nat} (ha : Sz K a) (hb : Sz M b) : Sz (K + M + 1) (a - b) := by
 rw [Rat.sub_eq_add_neg]
 exact sz_add ha (sz_neg hb)
theorem sz_int {n : Int} (h : -999999999 ≤ n) (h2 : n ≤ 999999999) : Sz 1 (n : Rat) := by
 refine ⟨?_, ?_⟩
 ·rw [Rat.num_intCast]; simp only [pw]; omega
 ·rw [Rat.den_intCast]; simp only [pw]; omega
theorem sz_frac {n d : Int} (h : (n.natAbs : Int) < pw 2) (hd : 0 < d) (h2 : d < pw 2) : Sz 2 (Rat.divInt n d) := sz_pos hd h (by omega)
/- The currents of the contacts, in plain words. -/
def frR (q : Rat) : Int × Int := (q.num, (q.den : Int))
theorem low_rat {a b : Int} (hb : 0 < b) : low a b = frR (Rat.divInt a b) := by
 unfold low frR
 rw [rat_num hb, rat_den hb]
 have hg : (Int.gcd a b : Int) ∣ a := Int.gcd_dvd_left ..
 unfold gc
 obtain ⟨z, hz⟩ := hg
 have h0 := gcd_le_y (x := a) hb
 generalize (Int.gcd a b : Int) = g at *
 subst hz
 rw [Int.mul_tdiv_cancel_left _ (by omega), Int.mul_ediv_cancel_left _ (by omega)]
theorem low_congr {a b c d : Int} (hb : 0 < b) (hd : 0 < d) (h : a * d = c * b) : low a b = low c d := by
 rw [low_rat hb, low_rat hd, (Rat.divInt_eq_divInt_iff (by omega) (by omega)).2 h]
theorem low_props {a b : Int} (hb : 0 < b) : (low a b).1 * b = a * (low a b).2 ∧ 0 < (low a b).2 ∧ (low a b).2 ≤ b ∧ (low a b).1.natAbs ≤ a.natAbs := by
 have hg : gc a b ∣ a := by unfold gc; exact Int.gcd_dvd_left ..
 have hg' : gc a b ∣ b := by unfold gc; exact Int.gcd_dvd_right ..
 have h1 := gc_pos (a := a) hb
 unfold low
 generalize gc a b = g at *
 obtain ⟨z, rfl⟩ := hg
 obtain ⟨y, rfl⟩ := hg'
 simp only [Int.mul_tdiv_cancel_left _ (show g ≠ 0 by omega), Int.mul_ediv_cancel_left _ (show g ≠ 0 by omega)]
 have hy : 0 < y := by
  rcases Int.lt_or_le 0 y with h | h
  ·exact h
  ·have := Int.mul_nonneg (show (0 : Int) ≤ g by omega) (show 0 ≤ -y by omega)
   rw [Int.mul_neg] at this
   omega
 refine ⟨by rw [← Int.mul_assoc, Int.mul_comm z g], hy, ?_, ?_⟩
 ·have := Int.mul_le_mul_of_nonneg_right h1 (show 0 ≤ y by omega)
  omega
 ·rw [Int.natAbs_mul]
  exact Nat.le_mul_of_pos_left _ (by omega)
theorem low_sub {A B C E : Int} (hB : 0 < B) (hE : 0 < E) : low ((low A B).1 * (low C E).2 - (low C E).1 * (low A B).2) ((low A B).2 * (low C E).2) = low (A * E - C * B) (B * E) := by
 obtain ⟨e1, p1, _, _⟩ := low_props (a := A) hB
 obtain ⟨e2, p2, _, _⟩ := low_props (a := C) hE
 refine low_congr (Int.mul_pos p1 p2) (Int.mul_pos hB hE) ?_
 generalize (low A B).1 = x at *
 generalize (low A B).2 = y at *
 generalize (low C E).1 = z at *
 generalize (low C E).2 = t at *
 grind
theorem low_one' (v : Int) : low v 1 = (v, 1) := by
 unfold low gc
 have : Int.gcd v 1 = 1 := by simp
 rw [this]
 simp
def ovr (m : Mac) (l : Lim) (N D : Int) (k : Nat) : Int := volA m l k * D - N
def curA (m : Mac) (l : Lim) (N D : Int) (k : Nat) : Int × Int := low (ovr m l N D k) (D * (bAt m.br k).res)
def rstZ (m : Mac) (l : Lim) (load N D : Int) (L : List Nat) : Int := L.foldl (fun a k => if isRes m k then a else a - ovr m l N D k * (2520 / (bAt m.br k).res)) (load * (2520 * D))
def rstA (m : Mac) (l : Lim) (load N D : Int) (L : List Nat) : Int × Int := low (rstZ m l load N D L) (2520 * D)
def dirD (m : Mac) (L : List Nat) : Int := L.foldl (fun d k => if isRes m k then (k : Int) else d) (-1)
def curL (m : Mac) (l : Lim) (N D : Int) (n : Nat) (L : List Nat) : List (Int × Int) := (List.range n).map fun k => if k ∈ L ∧ isRes m k = false then curA m l N D k else (0, 1)
theorem rstZ_snoc (m : Mac) (l : Lim) (load N D : Int) (L : List Nat) (k : Nat) : rstZ m l load N D (L ++ [k]) = if isRes m k then rstZ m l load N D L else rstZ m l load N D L - ovr m l N D k * (2520 / (bAt m.br k).res) := by
 unfold rstZ; rw [List.foldl_append]; rfl
theorem rstA_nil {m : Mac} {l : Lim} {load N D : Int} (hD : 0 < D) : rstA m l load N D [] = (load, 1) := by
 unfold rstA rstZ
 rw [List.foldl_nil, ← low_one' load]
 exact low_congr (by omega) (by decide) (by rw [Int.mul_one])
theorem dirD_snoc (m : Mac) (L : List Nat) (k : Nat) : dirD m (L ++ [k]) = if isRes m k then (k : Int) else dirD m L := by unfold dirD; rw [List.foldl_append]; rfl
theorem dirD_lt {m : Mac} {s n : Nat} (hL : ∀ k ∈ cloU s 6, k < n) (h : 0 ≤ dirD m (cloU s 6)) : dirD m (cloU s 6) < (n : Int) := by
 have key : ∀ L : List Nat, (∀ k ∈ L, k < n) → dirD m L < (n : Int) ∨ dirD m L = -1 := by
  refine snoc_ind (fun _ => .inr rfl) (fun L k ih hL => ?_)
  rw [dirD_snoc]
  have hk := hL k (by simp)
  split
  ·left; omega
  ·exact ih (fun j hj => hL j (List.mem_append_left _ hj))
 rcases key _ hL with h1 | h1
 ·exact h1
 ·omega
theorem curL_len (m : Mac) (l : Lim) (N D : Int) (n : Nat) (L : List Nat) : (curL m l N D n L).length = n := by unfold curL; simp
theorem curL_nil (m : Mac) (l : Lim) (N D : Int) (n : Nat) : curL m l N D n [] = List.replicate n (0, 1) := by
 unfold curL
 apply List.ext_getElem (by simp)
 intro i h1 h2
 simp
theorem curL_res {m : Mac} (l : Lim) (N D : Int) (n : Nat) (L : List Nat) {k : Nat} (h : isRes m k = true) : curL m l N D n (L ++ [k]) = curL m l N D n L := by
 unfold curL
 refine List.map_congr_left fun j _ => ?_
 by_cases hj : j = k
 ·subst hj; simp [h]
 ·simp [hj]
theorem curL_set {m : Mac} (l : Lim) (N D : Int) (n : Nat) (L : List Nat) {k : Nat} (h : isRes m k = false) : curL m l N D n (L ++ [k]) = (curL m l N D n L).set k (curA m l N D k) := by
 apply List.ext_getElem (by simp [curL_len])
 intro i h1 h2
 rw [List.getElem_set]
 unfold curL
 simp only [List.getElem_map, List.getElem_range]
 by_cases hj : k = i
 ·subst hj; simp [h]
 ·simp [hj, Ne.symm hj]
theorem cur_over {m : Mac} {l : Lim} {N D : Int} {k : Nat} (hD : 0 < D) (hr : 0 < (bAt m.br k).res) :
    low (low (volA m l k * D - N * 1) (1 * D)).1 ((low (volA m l k * D - N * 1) (1 * D)).2 * (bAt m.br k).res) = curA m l N D k := by
 rw [Int.mul_one, Int.one_mul]
 obtain ⟨e, p, _, _⟩ := low_props (a := volA m l k * D - N) hD
 unfold curA ovr
 refine low_congr (Int.mul_pos p hr) (Int.mul_pos hD hr) ?_
 rw [← Int.mul_assoc, e, Int.mul_assoc]
theorem cur_rest {m : Mac} {l : Lim} {load N D : Int} {L : List Nat} {k : Nat} (hD : 0 < D) (hr : 1 ≤ (bAt m.br k).res) (hr1 : (bAt m.br k).res ≤ 10) (hk : isRes m k = false) :
    low ((rstA m l load N D L).1 * (curA m l N D k).2 - (curA m l N D k).1 * (rstA m l load N D L).2) ((rstA m l load N D L).2 * (curA m l N D k).2) = rstA m l load N D (L ++ [k]) := by
 unfold rstA curA
 have hDr : 0 < D * (bAt m.br k).res := Int.mul_pos hD (by omega)
 rw [low_sub (by omega) hDr, rstZ_snoc, if_neg (by rw [hk]; decide)]
 have e : 2520 = 2520 / (bAt m.br k).res * (bAt m.br k).res := by
  have : (bAt m.br k).res = 1 ∨ (bAt m.br k).res = 2 ∨ (bAt m.br k).res = 3 ∨ (bAt m.br k).res = 4 ∨ (bAt m.br k).res = 5 ∨ (bAt m.br k).res = 6 ∨ (bAt m.br k).res = 7 ∨ (bAt m.br k).res = 8 ∨ (bAt m.br k).res = 9 ∨ (bAt m.br k).res = 10 := by omega
  rcases this with h | h | h | h | h | h | h | h | h | h <;> rw [h] <;> decide
 refine low_congr (Int.mul_pos (by omega) hDr) (by omega) ?_
 generalize 2520 / (bAt m.br k).res = q at *
 generalize (bAt m.br k).res = r at *
 generalize rstZ m l load N D L = Z at *
 generalize ovr m l N D k = y at *
 have e2 : 2520 * D = q * r * D := by rw [← e]
 grind
theorem mulB {a b : Int} {A B : Nat} (ha : a.natAbs ≤ A) (hb : b.natAbs ≤ B) : (a * b).natAbs ≤ A * B := by rw [Int.natAbs_mul]; exact Nat.mul_le_mul ha hb
def VoB (N D : Int) : Prop := 0 < D ∧ D ≤ 15120 ∧ N.natAbs ≤ 20000 * D.natAbs
theorem outT_bd {m : Mac} {l : Lim} {load : Int} {s : Nat} (hm : MacV m) (hl : 0 ≤ l.volt ∧ l.volt ≤ 1000) (hd : -1000 ≤ load ∧ load ≤ 1000) (hlt : ∀ k ∈ cloU s 6, k < m.br.length) (hne : 0 < (cloU s 6).length) : VoB (outT m l s load).1 (outT m l s load).2 := by
 unfold outT
 split
 ·rename_i k hk
  have hk2 := List.mem_of_find?_eq_some hk
  obtain ⟨v0, v1⟩ := vol_bd hm hl (hlt k hk2)
  refine ⟨show (0 : Int) < 1 by decide, show (1 : Int) ≤ 15120 by decide, ?_⟩
  simp only
  omega
 ·rename_i hk
  have hno := List.find?_eq_none.1 hk
  obtain ⟨⟨a0, a1⟩, b0, b1⟩ := sums_bd hm hl hd (cloU s 6) (fun k hk => ⟨hlt k hk, by
   have := hno k hk
   unfold isRes at this
   simpa using this⟩)
  have hlen := cloU_len s 6
  generalize numL m l load (cloU s 6) = A at *
  generalize denL m (cloU s 6) = B at *
  obtain ⟨e, p, q, r⟩ := low_props (a := A) (b := B) (by omega)
  generalize (low A B).1 = N at *
  generalize (low A B).2 = D at *
  refine ⟨p, by omega, ?_⟩
  have hA : A.natAbs ≤ 20000 * B.natAbs := by omega
  have h1 : N.natAbs * B.natAbs = A.natAbs * D.natAbs := by rw [← Int.natAbs_mul, e, Int.natAbs_mul]
  have h2 : N.natAbs * B.natAbs ≤ 20000 * D.natAbs * B.natAbs := by
   rw [h1]
   calc A.natAbs * D.natAbs ≤ 20000 * B.natAbs * D.natAbs := Nat.mul_le_mul_right _ hA
    _ = 20000 * D.natAbs * B.natAbs := by rw [Nat.mul_assoc, Nat.mul_comm B.natAbs, ← Nat.mul_assoc]
  exact Nat.le_of_mul_le_mul_right h2 (by omega)
theorem ovr_bd {m : Mac} {l : Lim} {N D : Int} {k : Nat} (hm : MacV m) (hl : 0 ≤ l.volt ∧ l.volt ≤ 1000) (hk : k < m.br.length) (h : VoB N D) : (ovr m l N D k).natAbs ≤ 21000 * D.natAbs ∧ (0 ≤ volA m l k * D ∧ volA m l k * D ≤ 15120000) := by
 obtain ⟨d0, d1, hn⟩ := h
 obtain ⟨v0, v1⟩ := vol_bd hm hl hk
 unfold ovr
 generalize volA m l k = v at *
 have h1 : (v * D).natAbs ≤ 1000 * D.natAbs := by rw [Int.natAbs_mul]; exact Nat.mul_le_mul_right _ (by omega)
 have h2 := Int.mul_nonneg v0 (Int.le_of_lt d0)
 generalize v * D = x at *
 omega
theorem cur_bd {m : Mac} {l : Lim} {N D : Int} {k : Nat} (hm : MacV m) (hl : 0 ≤ l.volt ∧ l.volt ≤ 1000) (hk : k < m.br.length) (h : VoB N D) (hr : 1 ≤ (bAt m.br k).res) (hr1 : (bAt m.br k).res ≤ 10) :
    (curA m l N D k).1.natAbs ≤ 317520000 ∧ 0 < (curA m l N D k).2 ∧ (curA m l N D k).2 ≤ 151200 := by
 obtain ⟨o, _⟩ := ovr_bd hm hl hk h
 obtain ⟨d0, d1, _⟩ := h
 have hD : D * (bAt m.br k).res ≤ 15120 * 10 := Int.mul_le_mul d1 hr1 (by omega) (by decide)
 obtain ⟨_, p, q, r⟩ := low_props (a := ovr m l N D k) (b := D * (bAt m.br k).res) (Int.mul_pos d0 (by omega))
 unfold curA
 omega
theorem rst_bd {m : Mac} {l : Lim} {load N D : Int} (hm : MacV m) (hl : 0 ≤ l.volt ∧ l.volt ≤ 1000) (hd : -1000 ≤ load ∧ load ≤ 1000) (h : VoB N D) : ∀ L : List Nat, (∀ k ∈ L, k < m.br.length) → (rstZ m l load N D L).natAbs ≤ (1000 + 21000 * L.length) * (2520 * D.natAbs) := by
 refine snoc_ind ?_ ?_
 ·intro _
  unfold rstZ
  simp only [List.foldl_nil, List.length_nil]
  rw [Int.natAbs_mul, Int.natAbs_mul]
  exact Nat.mul_le_mul_right _ (by omega)
 ·intro L k ih hL
  have ih := ih (fun j hj => hL j (List.mem_append_left _ hj))
  have hk := hL k (by simp)
  rw [rstZ_snoc, List.length_append, List.length_singleton]
  have e : (1000 + 21000 * (L.length + 1)) * (2520 * D.natAbs) = (1000 + 21000 * L.length) * (2520 * D.natAbs) + 21000 * (2520 * D.natAbs) := by rw [← Nat.add_mul, show 1000 + 21000 * (L.length + 1) = 1000 + 21000 * L.length + 21000 by omega]
  rw [e]
  split
  ·omega
  ·rename_i hr
   have hr' : (bAt m.br k).res ≠ 0 := by unfold isRes at hr; simpa using hr
   obtain ⟨_, r0, r1⟩ := hm.br k hk
   obtain ⟨q0, q1⟩ := div_res (r := (bAt m.br k).res) (by omega) r1
   obtain ⟨o, _⟩ := ovr_bd hm hl hk h
   have h2 := mulB o (show (2520 / (bAt m.br k).res).natAbs ≤ 2520 by omega)
   have e2 : 21000 * D.natAbs * 2520 = 21000 * (2520 * D.natAbs) := by rw [Nat.mul_assoc, Nat.mul_comm D.natAbs]
   omega
theorem rstA_bd {m : Mac} {l : Lim} {load N D : Int} (hm : MacV m) (hl : 0 ≤ l.volt ∧ l.volt ≤ 1000) (hd : -1000 ≤ load ∧ load ≤ 1000) (h : VoB N D) (L : List Nat) (hL : ∀ k ∈ L, k < m.br.length) (h6 : L.length ≤ 6) :
    (rstA m l load N D L).1.natAbs ≤ 4839004800000 ∧ 0 < (rstA m l load N D L).2 ∧ (rstA m l load N D L).2 ≤ 38102400 := by
 have hb := rst_bd (load := load) hm hl hd h L hL
 obtain ⟨d0, d1, _⟩ := h
 obtain ⟨_, p, q, r⟩ := low_props (a := rstZ m l load N D L) (b := 2520 * D) (by omega)
 have h2 : (1000 + 21000 * L.length) * (2520 * D.natAbs) ≤ 127000 * 38102400 := Nat.mul_le_mul (by omega) (by omega)
 unfold rstA
 omega
theorem cur_safe {a b c d : Int} (ha : a.natAbs ≤ 4839004800000) (hb : 0 < b ∧ b ≤ 38102400) (hc : c.natAbs ≤ 317520000) (hd : 0 < d ∧ d ≤ 151200) :
    (-4000000000000000000 ≤ a * d ∧ a * d ≤ 4000000000000000000) ∧ (-4000000000000000000 ≤ c * b ∧ c * b ≤ 4000000000000000000) ∧ 0 < b * d ∧ b * d ≤ 9000000000000000000 := by
 have h1 := mulB ha (show d.natAbs ≤ 151200 by omega)
 have h2 := mulB hc (show b.natAbs ≤ 38102400 by omega)
 have h3 := mulB (show b.natAbs ≤ 38102400 by omega) (show d.natAbs ≤ 151200 by omega)
 have h4 := Int.mul_pos hb.1 hd.1
 generalize a * d = x at *
 generalize c * b = y at *
 generalize b * d = z at *
 omega
theorem cloU_len' (s i : Nat) (h : i ≤ 6) : (cloU s i).length ≤ 6 := Nat.le_trans (cloU_len s i) h
def curT (m : Mac) (l : Lim) (s : Nat) (load : Int) : List (Int × Int) :=
 if dirD m (cloU s 6) < 0 then curL m l (outT m l s load).1 (outT m l s load).2 m.br.length (cloU s 6)
 else (curL m l (outT m l s load).1 (outT m l s load).2 m.br.length (cloU s 6)).set (dirD m (cloU s 6)).toNat (rstA m l load (outT m l s load).1 (outT m l s load).2 (cloU s 6))
end Go.Proofs.YtdjinmieogpgcaaGreat
