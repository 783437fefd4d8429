import Derived.Test.YtbjgklifmillgaaGreatFrac
import Derived.Test.YtbjgklifmillgaaGreatMLaw
import Derived.Test.YtbjgklifmillgaaGreatMSol
import Derived.Test.YtbjgklifmillgaaGreatRat3
/- Quotients as pairs of numbers, and lists of them in memory. -/
namespace Go.Proofs.YtbjgklifmillgaaGreat
open Go.RowKit
set_option linter.unusedVariables false

/-- The parts of a quotient. -/
def fq (q : Rat) : Int × Int := (q.num, (q.den : Int))
theorem fq_low (a b : Int) (hb : 0 < b) : fq ((a : Rat) / (b : Rat)) = low a b := by
  have hd : gc a b ∣ a := by unfold gc; exact Int.gcd_dvd_left ..
  rw [← Rat.divInt_eq_div]
  unfold fq low
  rw [rat_num hb, rat_den hb]
  have e : a / ((Int.gcd a b : Nat) : Int) = a.tdiv (gc a b) := by
    rw [Int.tdiv_eq_ediv_of_dvd hd]; rfl
  rw [e]; rfl
theorem small_fq (q : Rat) : smallF (fq q) = smallQ q := by
  have := den_pos q
  unfold smallF fq smallQ
  simp only
  congr 1
  unfold wi
  have e : decide ((1 : Int) ≤ (q.den : Int)) = true := by simp; omega
  simp [e]
theorem fq_one : fq 1 = (1, 1) := rfl
theorem fq_zero : fq 0 = (0, 1) := rfl
theorem fq_inj {p q : Rat} (h : fq p = fq q) : p = q := by
  have h1 : p.num = q.num := congrArg Prod.fst h
  have h2 : (p.den : Int) = (q.den : Int) := congrArg Prod.snd h
  exact Rat.ext h1 (by omega)
/-- A quotient whose parts have no common divisor. -/
theorem fq_div {p q : Int} (hq : 0 < q) (hg : gc p q = 1) : fq (Rat.divInt p q) = (p, q) := by
  unfold fq
  rw [rat_num hq, rat_den hq]
  have : ((Int.gcd p q : Nat) : Int) = 1 := hg
  rw [this, Int.ediv_one, Int.ediv_one]
theorem fq_eq {q : Rat} {a b : Int} (h : fq q = (a, b)) : q = Rat.divInt a b := by
  have h1 : q.num = a := congrArg Prod.fst h
  have h2 : (q.den : Int) = b := congrArg Prod.snd h
  rw [← h1, ← h2]
  exact (Rat.num_divInt_den q).symm
/-- The parts of many quotients. -/
def fqs (x : Nat → Rat) (n : Nat) : List (Int × Int) := (List.range n).map (fun i => fq (x i))
theorem fqs_len (x : Nat → Rat) (n : Nat) : (fqs x n).length = n := by simp [fqs]
theorem fqs_succ (x : Nat → Rat) (n : Nat) : fqs x (n + 1) = fqs x n ++ [fq (x n)] := by simp [fqs, List.range_succ]
theorem fqs_any (x : Nat → Rat) (n : Nat) : (fqs x n).any (fun f => !smallF f) = (List.range n).any (fun i => !smallQ (x i)) := by
  unfold fqs
  rw [List.any_map]
  congr 1
  funext i
  show (!smallF (fq (x i))) = _
  rw [small_fq]
theorem fqs_bad {x : Nat → Rat} {n k : Nat} (hk : k < n) (h : smallQ (x k) = false) : (fqs x n).any (fun f => !smallF f) = true := by
  rw [fqs_any, List.any_eq_true]
  exact ⟨k, by simpa using hk, by simp [h]⟩
theorem fqs_good {x : Nat → Rat} {n : Nat} (h : ∀ k, k < n → smallQ (x k) = true) : (fqs x n).any (fun f => !smallF f) = false := by
  rw [fqs_any, List.any_eq_false]
  intro k hk
  rw [h k (by simpa using hk)]; simp
theorem fqs_get (x : Nat → Rat) (n k : Nat) (h : k < n) : (fqs x n).getD k (0, 0) = fq (x k) := by simp [fqs, List.getD, h]
theorem fqs_congr {x y : Nat → Rat} {n : Nat} (h : ∀ k, k < n → x k = y k) : fqs x n = fqs y n := by
  unfold fqs
  refine List.map_congr_left (fun i hi => ?_)
  rw [h i (by simpa using hi)]
/-- The initial distribution, as quotients and as fractions. -/
theorem Lad.fqs {s e : List Int} {g : Bool} {n L : Nat} (h : Lad s e g n L) : fqs (fun k => ((nu s e L k : Int) : Rat) / ((dd s e L L : Int) : Rat)) (n + 1) = initOf s e n L := by
  unfold Go.Proofs.YtbjgklifmillgaaGreat.fqs initOf numsOf
  rw [List.map_map]
  refine List.map_congr_left (fun j hj => ?_)
  rw [fq_low _ _ h.D]; rfl
/-- The sum of the turns of the first sections. -/
def tsum (t : List Int) : Nat → Int
  | 0 => 0
  | j + 1 => tsum t j + t.getD j 0
theorem tsum_bd {t : List Int} (h : ∀ x ∈ t, 1 ≤ x ∧ x ≤ 1000) : ∀ j, j ≤ t.length → (j : Int) ≤ tsum t j ∧ tsum t j ≤ 1000 * j
  | 0, _ => by simp [tsum]
  | j + 1, hj => by
    have h1 := tsum_bd h j (by omega)
    have h2 := h _ (getD_mem (show j < t.length by omega))
    simp only [tsum]; omega
theorem tsum_le {t : List Int} (h : ∀ x ∈ t, 1 ≤ x ∧ x ≤ 1000) {j : Nat} : ∀ n, j ≤ n → n ≤ t.length → tsum t j ≤ tsum t n
  | 0, hj, _ => by obtain rfl : j = 0 := by omega
                   exact Int.le_refl _
  | n + 1, hj, hn => by
    by_cases hjn : j = n + 1
    · subst hjn; exact Int.le_refl _
    · have h1 := tsum_le h n (show j ≤ n by omega) (by omega)
      have h2 := h _ (getD_mem (show n < t.length by omega))
      simp only [tsum]; omega
/-- The final voltages: numerators, and fractions. -/
def finV (t : List Int) (n : Nat) (g : Bool) (j : Nat) : Int := if g = true then tsum t n - tsum t j else tsum t n
def finN (t : List Int) (n : Nat) (g : Bool) : List Int := (List.range (n + 1)).map (finV t n g)
def finO (t : List Int) (n : Nat) (g : Bool) : List (Int × Int) := (finN t n g).map (low · (tsum t n))
theorem finN_len (t : List Int) (n : Nat) (g : Bool) : (finN t n g).length = n + 1 := by simp [finN]
theorem finO_len (t : List Int) (n : Nat) (g : Bool) : (finO t n g).length = n + 1 := by simp [finO, finN]
theorem finV_bd {t : List Int} {n : Nat} (g : Bool) (h : ∀ x ∈ t, 1 ≤ x ∧ x ≤ 1000) (hn : n ≤ t.length) {j : Nat} (hj : j ≤ n) : 0 ≤ finV t n g j ∧ finV t n g j ≤ tsum t n := by
  have h1 := tsum_le h n hj hn
  have h2 := tsum_bd h j (by omega)
  have h3 := tsum_bd h n hn
  unfold finV; split <;> omega
theorem finO_get (t : List Int) (n : Nat) (g : Bool) (j : Nat) (hj : j < n + 1) : (finO t n g).getD j (0, 0) = low (finV t n g j) (tsum t n) := by
  simp [finO, finN, List.getD, hj]
theorem low_le_parts {a b : Int} (ha : 0 ≤ a) (hb : 0 < b) : 0 ≤ (low a b).1 ∧ (low a b).1 ≤ a ∧ 1 ≤ (low a b).2 ∧ (low a b).2 ≤ b := by
  have hg := gc_pos (a := a) hb
  refine ⟨low_nn ha hb, ?_, low_den' hb, ?_⟩
  · show a.tdiv (gc a b) ≤ a
    rw [Int.tdiv_eq_ediv_of_nonneg ha]
    exact Int.ediv_le_self _ ha
  · show b / gc a b ≤ b
    exact Int.ediv_le_self _ (by omega)
theorem finO_small {t : List Int} {n : Nat} (g : Bool) (h : ∀ x ∈ t, 1 ≤ x ∧ x ≤ 1000) (hn : n ≤ t.length) (h0 : 0 < n) (h6 : n ≤ 6) : (finO t n g).any (fun f => !smallF f) = false := by
  rw [List.any_eq_false]
  intro f hf
  unfold finO finN at hf
  rw [List.map_map] at hf
  obtain ⟨j, hj, rfl⟩ := List.mem_map.1 hf
  have hj' : j < n + 1 := by simpa using hj
  have h3 := tsum_bd h n hn
  have h1 := finV_bd g h hn (show j ≤ n by omega)
  have h2 := low_le_parts h1.1 (show 0 < tsum t n by omega)
  show ¬ ((!smallF (low (finV t n g j) (tsum t n))) = true)
  have : smallF (low (finV t n g j) (tsum t n)) = true := by
    unfold smallF
    rw [Bool.and_eq_true, decide_eq_true_eq]
    exact ⟨wi_iff.2 (by omega), by omega⟩
  rw [this]; simp
end Go.Proofs.YtbjgklifmillgaaGreat

/- The stress of a path as a number. No program in sight. -/
namespace Go.Proofs.YtbjgklifmillgaaGreat
open Go.RowKit
set_option linter.unusedVariables false
set_option linter.unusedSimpArgs false

theorem cop_four {N D v L : Nat} (hD : 0 < D) (hv : 0 < v) (hL : 0 < L) (h1 : Nat.gcd N D = 1) (h2 : Nat.gcd v L = 1) :
    Nat.gcd (v / Nat.gcd v D * (N / Nat.gcd N L)) (D / Nat.gcd v D * (L / Nat.gcd N L)) = 1 := by
  have g0 : 0 < Nat.gcd v D := Nat.gcd_pos_of_pos_left _ hv
  have k0 : 0 < Nat.gcd N L := Nat.gcd_pos_of_pos_right _ hL
  have hAC : Nat.Coprime (v / Nat.gcd v D) (D / Nat.gcd v D) := Nat.coprime_div_gcd_div_gcd g0
  have hBE : Nat.Coprime (N / Nat.gcd N L) (L / Nat.gcd N L) := Nat.coprime_div_gcd_div_gcd k0
  have hAE : Nat.Coprime (v / Nat.gcd v D) (L / Nat.gcd N L) :=
    Nat.Coprime.coprime_dvd_left (Nat.div_dvd_of_dvd (Nat.gcd_dvd_left _ _)) (Nat.Coprime.coprime_dvd_right (Nat.div_dvd_of_dvd (Nat.gcd_dvd_right _ _)) h2)
  have hBC : Nat.Coprime (N / Nat.gcd N L) (D / Nat.gcd v D) :=
    Nat.Coprime.coprime_dvd_left (Nat.div_dvd_of_dvd (Nat.gcd_dvd_left _ _)) (Nat.Coprime.coprime_dvd_right (Nat.div_dvd_of_dvd (Nat.gcd_dvd_right _ _)) h1)
  exact Nat.Coprime.mul_left (Nat.Coprime.mul_right hAC hAE) (Nat.Coprime.mul_right hBC hBE)
theorem val_four {N D v L : Nat} (hv : 0 < v) (hL : 0 < L) :
    v * N * (D / Nat.gcd v D * (L / Nat.gcd N L)) = v / Nat.gcd v D * (N / Nat.gcd N L) * (D * L) := by
  have g0 : 0 < Nat.gcd v D := Nat.gcd_pos_of_pos_left _ hv
  have k0 : 0 < Nat.gcd N L := Nat.gcd_pos_of_pos_right _ hL
  have e1 := Nat.div_mul_cancel (Nat.gcd_dvd_left v D)
  have e2 := Nat.div_mul_cancel (Nat.gcd_dvd_right v D)
  have e3 := Nat.div_mul_cancel (Nat.gcd_dvd_left N L)
  have e4 := Nat.div_mul_cancel (Nat.gcd_dvd_right N L)
  generalize v / Nat.gcd v D = A at *
  generalize D / Nat.gcd v D = C at *
  generalize N / Nat.gcd N L = B at *
  generalize L / Nat.gcd N L = E at *
  generalize Nat.gcd v D = g at *
  generalize Nat.gcd N L = h at *
  subst e1 e2 e3 e4
  simp only [Nat.mul_assoc, Nat.mul_comm, Nat.mul_left_comm]
/-- The parts that the program finds, of any numbers. -/
def stP (N D v L : Nat) : Nat := v / Nat.gcd v L / Nat.gcd (v / Nat.gcd v L) (D / Nat.gcd N D) * (N / Nat.gcd N D / Nat.gcd (N / Nat.gcd N D) (L / Nat.gcd v L))
def stQ (N D v L : Nat) : Nat := D / Nat.gcd N D / Nat.gcd (v / Nat.gcd v L) (D / Nat.gcd N D) * (L / Nat.gcd v L / Nat.gcd (N / Nat.gcd N D) (L / Nat.gcd v L))
theorem div_gcd_pos {a b : Nat} (h : 0 < a) : 0 < a / Nat.gcd a b := Nat.div_pos (Nat.gcd_le_left _ h) (Nat.gcd_pos_of_pos_left _ h)
theorem div_gcd_pos' {a b : Nat} (h : 0 < b) : 0 < b / Nat.gcd a b := Nat.div_pos (Nat.gcd_le_right _ h) (Nat.gcd_pos_of_pos_right _ h)
theorem stQ_pos {N D v L : Nat} (hD : 0 < D) (hv : 0 < v) (hL : 0 < L) : 0 < stQ N D v L :=
  Nat.mul_pos (div_gcd_pos' (div_gcd_pos' hD)) (div_gcd_pos' (div_gcd_pos' hL))
theorem st_gcd {N D v L : Nat} (hD : 0 < D) (hv : 0 < v) (hL : 0 < L) : Nat.gcd (stP N D v L) (stQ N D v L) = 1 :=
  cop_four (div_gcd_pos' hD) (div_gcd_pos hv) (div_gcd_pos' hL) (Nat.coprime_div_gcd_div_gcd (Nat.gcd_pos_of_pos_right _ hD)) (Nat.coprime_div_gcd_div_gcd (Nat.gcd_pos_of_pos_left _ hv))
theorem st_val {N D v L : Nat} (hD : 0 < D) (hv : 0 < v) (hL : 0 < L) : v * N * stQ N D v L = stP N D v L * (D * L) := by
  have h := val_four (N := N / Nat.gcd N D) (D := D / Nat.gcd N D) (div_gcd_pos (b := L) hv) (div_gcd_pos' (a := v) hL)
  have e1 := Nat.div_mul_cancel (Nat.gcd_dvd_left v L)
  have e2 := Nat.div_mul_cancel (Nat.gcd_dvd_right v L)
  have e3 := Nat.div_mul_cancel (Nat.gcd_dvd_left N D)
  have e4 := Nat.div_mul_cancel (Nat.gcd_dvd_right N D)
  have h' : v / Nat.gcd v L * (N / Nat.gcd N D) * stQ N D v L = stP N D v L * (D / Nat.gcd N D * (L / Nat.gcd v L)) := h
  generalize stP N D v L = P at *
  generalize stQ N D v L = Q at *
  clear h
  calc v * N * Q = (v / Nat.gcd v L * Nat.gcd v L) * (N / Nat.gcd N D * Nat.gcd N D) * Q := by rw [e1, e3]
    _ = (v / Nat.gcd v L * (N / Nat.gcd N D) * Q) * (Nat.gcd v L * Nat.gcd N D) := by
      generalize v / Nat.gcd v L = a
      generalize N / Nat.gcd N D = b
      generalize Nat.gcd v L = c
      generalize Nat.gcd N D = d
      simp only [Nat.mul_assoc, Nat.mul_comm, Nat.mul_left_comm]
    _ = (P * (D / Nat.gcd N D * (L / Nat.gcd v L))) * (Nat.gcd v L * Nat.gcd N D) := by rw [h']
    _ = P * ((D / Nat.gcd N D * Nat.gcd N D) * (L / Nat.gcd v L * Nat.gcd v L)) := by
      generalize D / Nat.gcd N D = a
      generalize L / Nat.gcd v L = b
      generalize Nat.gcd v L = c
      generalize Nat.gcd N D = d
      simp only [Nat.mul_assoc, Nat.mul_comm, Nat.mul_left_comm]
    _ = P * (D * L) := by rw [e4, e2]
/-- The size of a number. -/
def absQ (q : Rat) : Rat := if q.num < 0 then 0 - q else q
/-- The stress of a path. -/
def stq (v : Int) (a b : Int × Int) (L : Int) : Rat := (v : Rat) * absQ (Rat.divInt a.1 a.2 - Rat.divInt b.1 b.2) / (L : Rat)
theorem absQ_divInt (x y : Int) (hy : 0 < y) : absQ (Rat.divInt x y) = Rat.divInt (x.natAbs : Int) y := by
  unfold absQ
  have hn := rat_num (x := x) hy
  have hg : (0 : Int) < (Int.gcd x y : Nat) := by
    have := Int.gcd_pos_of_ne_zero_right x (show y ≠ 0 by omega); omega
  by_cases h : x < 0
  · have : (Rat.divInt x y).num < 0 := by
      rw [hn]; exact Int.ediv_neg_of_neg_of_pos h hg
    rw [if_pos this]
    have e : (x.natAbs : Int) = -x := by omega
    rw [e, show (0 : Rat) - Rat.divInt x y = - Rat.divInt x y by rw [Rat.sub_eq_add_neg, Rat.zero_add]]
    rw [Rat.neg_divInt]
  · have : ¬ (Rat.divInt x y).num < 0 := by
      rw [hn]; have := Int.ediv_nonneg (show 0 ≤ x by omega) (Int.le_of_lt hg); omega
    rw [if_neg this]
    have e : (x.natAbs : Int) = x := by omega
    rw [e]
theorem int_divInt (x : Int) : (x : Rat) = Rat.divInt x 1 := by
  rw [Rat.divInt_eq_div]
  show (x : Rat) = (x : Rat) / 1
  rw [Rat.div_def, show (1 : Rat)⁻¹ = 1 by decide +kernel, Rat.mul_one]
theorem stq_parts (v L : Nat) (a b : Int × Int) (ha : 0 < a.2) (hb : 0 < b.2) (hv : 0 < v) (hL : 0 < L) :
    (stq v a b L).num = stP (a.1 * b.2 - b.1 * a.2).natAbs (a.2 * b.2).toNat v L ∧ ((stq v a b L).den : Int) = stQ (a.1 * b.2 - b.1 * a.2).natAbs (a.2 * b.2).toNat v L := by
  have hD : 0 < a.2 * b.2 := Int.mul_pos ha hb
  have e : Rat.divInt a.1 a.2 - Rat.divInt b.1 b.2 = Rat.divInt (a.1 * b.2 - b.1 * a.2) (a.2 * b.2) := Rat.divInt_sub_divInt _ _ (by omega) (by omega)
  obtain ⟨D, hDn⟩ : ∃ D : Nat, (D : Int) = a.2 * b.2 := ⟨(a.2 * b.2).toNat, by omega⟩
  unfold stq
  rw [e, absQ_divInt _ _ hD, ← hDn]
  generalize (a.1 * b.2 - b.1 * a.2).natAbs = N
  rw [Int.toNat_natCast]
  have hD' : 0 < D := by omega
  have hval := st_val (N := N) hD' hv hL
  have hgcd := st_gcd (N := N) hD' hv hL
  have hQ := stQ_pos (N := N) hD' hv hL
  generalize stP N D v L = P at *
  generalize stQ N D v L = Q at *
  have e2 : ((v : Int) : Rat) * Rat.divInt (N : Int) (D : Int) / ((L : Int) : Rat) = Rat.divInt (P : Int) (Q : Int) := by
    rw [int_divInt (v : Int), int_divInt (L : Int), Rat.divInt_mul_divInt, Rat.div_def, Rat.inv_divInt, Rat.divInt_mul_divInt]
    rw [Rat.divInt_eq_divInt_iff (by
      have h1 : (0 : Int) < D := by omega
      have h2 : (0 : Int) < L := by omega
      have := Int.mul_pos h1 h2
      simp only [Int.one_mul]; omega) (by omega)]
    have h' : ((v * N * Q : Nat) : Int) = ((P * (D * L) : Nat) : Int) := by rw [hval]
    simp only [Int.natCast_mul] at h'
    simp only [Int.one_mul, Int.mul_one]
    exact h'
  rw [e2]
  exact gcd_one_div (by omega) (by simpa using hgcd)
end Go.Proofs.YtbjgklifmillgaaGreat
