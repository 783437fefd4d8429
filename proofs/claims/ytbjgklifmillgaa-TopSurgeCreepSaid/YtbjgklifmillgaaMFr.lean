import Derived.Test.YtbjgklifmillgaaFrac
import Derived.Test.YtbjgklifmillgaaMLaw
import Derived.Test.YtbjgklifmillgaaMSol
import Derived.Test.YtbjgklifmillgaaRat3
/- Quotients as pairs of numbers, and lists of them in memory. -/
namespace Go.Proofs.Ytbjgklifmillgaa
open Go.RowKit
set_option linter.unusedVariables false

/-- The parts of a quotient. -/
def fq (q : Rat) : Int × Int := (q.num, (q.den : Int))
theorem fq_low (a b : Int) (hb : 0 < b) : fq ((a : Rat) / (b : Rat)) = low a b := by
  have hd : gc a b ∣ a := by unfold gc; exact Int.gcd_dvd_left ..
  rw [← Rat.divInt_eq_div]
  unfold fq low
  rw [rat_num hb, rat_den hb]
  have e : a / ((Int.gcd a b : Nat) : Int) = a.tdiv (gc a b) := by
    rw [Int.tdiv_eq_ediv_of_dvd hd]; rfl
  rw [e]; rfl
theorem small_fq (q : Rat) : smallF (fq q) = smallQ q := by
  have := den_pos q
  unfold smallF fq smallQ
  simp only
  congr 1
  unfold wi
  have e : decide ((1 : Int) ≤ (q.den : Int)) = true := by simp; omega
  simp [e]
theorem fq_one : fq 1 = (1, 1) := rfl
theorem fq_zero : fq 0 = (0, 1) := rfl
theorem fq_inj {p q : Rat} (h : fq p = fq q) : p = q := by
  have h1 : p.num = q.num := congrArg Prod.fst h
  have h2 : (p.den : Int) = (q.den : Int) := congrArg Prod.snd h
  exact Rat.ext h1 (by omega)
/-- A quotient whose parts have no common divisor. -/
theorem fq_div {p q : Int} (hq : 0 < q) (hg : gc p q = 1) : fq (Rat.divInt p q) = (p, q) := by
  unfold fq
  rw [rat_num hq, rat_den hq]
  have : ((Int.gcd p q : Nat) : Int) = 1 := hg
  rw [this, Int.ediv_one, Int.ediv_one]
theorem fq_eq {q : Rat} {a b : Int} (h : fq q = (a, b)) : q = Rat.divInt a b := by
  have h1 : q.num = a := congrArg Prod.fst h
  have h2 : (q.den : Int) = b := congrArg Prod.snd h
  rw [← h1, ← h2]
  exact (Rat.num_divInt_den q).symm
/-- The parts of many quotients. -/
def fqs (x : Nat → Rat) (n : Nat) : List (Int × Int) := (List.range n).map (fun i => fq (x i))
theorem fqs_len (x : Nat → Rat) (n : Nat) : (fqs x n).length = n := by simp [fqs]
theorem fqs_succ (x : Nat → Rat) (n : Nat) : fqs x (n + 1) = fqs x n ++ [fq (x n)] := by simp [fqs, List.range_succ]
theorem fqs_any (x : Nat → Rat) (n : Nat) : (fqs x n).any (fun f => !smallF f) = (List.range n).any (fun i => !smallQ (x i)) := by
  unfold fqs
  rw [List.any_map]
  congr 1
  funext i
  show (!smallF (fq (x i))) = _
  rw [small_fq]
theorem fqs_bad {x : Nat → Rat} {n k : Nat} (hk : k < n) (h : smallQ (x k) = false) : (fqs x n).any (fun f => !smallF f) = true := by
  rw [fqs_any, List.any_eq_true]
  exact ⟨k, by simpa using hk, by simp [h]⟩
theorem fqs_good {x : Nat → Rat} {n : Nat} (h : ∀ k, k < n → smallQ (x k) = true) : (fqs x n).any (fun f => !smallF f) = false := by
  rw [fqs_any, List.any_eq_false]
  intro k hk
  rw [h k (by simpa using hk)]; simp
theorem fqs_get (x : Nat → Rat) (n k : Nat) (h : k < n) : (fqs x n).getD k (0, 0) = fq (x k) := by simp [fqs, List.getD, h]
theorem fqs_congr {x y : Nat → Rat} {n : Nat} (h : ∀ k, k < n → x k = y k) : fqs x n = fqs y n := by
  unfold fqs
  refine List.map_congr_left (fun i hi => ?_)
  rw [h i (by simpa using hi)]
/-- The initial distribution, as quotients and as fractions. -/
theorem Lad.fqs {s e : List Int} {g : Bool} {n L : Nat} (h : Lad s e g n L) : fqs (fun k => ((nu s e L k : Int) : Rat) / ((dd s e L L : Int) : Rat)) (n + 1) = initOf s e n L := by
  unfold Go.Proofs.Ytbjgklifmillgaa.fqs initOf numsOf
  rw [List.map_map]
  refine List.map_congr_left (fun j hj => ?_)
  rw [fq_low _ _ h.D]; rfl
/-- The sum of the turns of the first sections. -/
def tsum (t : List Int) : Nat → Int
  | 0 => 0
  | j + 1 => tsum t j + t.getD j 0
theorem tsum_bd {t : List Int} (h : ∀ x ∈ t, 1 ≤ x ∧ x ≤ 1000) : ∀ j, j ≤ t.length → (j : Int) ≤ tsum t j ∧ tsum t j ≤ 1000 * j
  | 0, _ => by simp [tsum]
  | j + 1, hj => by
    have h1 := tsum_bd h j (by omega)
    have h2 := h _ (getD_mem (show j < t.length by omega))
    simp only [tsum]; omega
theorem tsum_le {t : List Int} (h : ∀ x ∈ t, 1 ≤ x ∧ x ≤ 1000) {j : Nat} : ∀ n, j ≤ n → n ≤ t.length → tsum t j ≤ tsum t n
  | 0, hj, _ => by obtain rfl : j = 0 := by omega
                   exact Int.le_refl _
  | n + 1, hj, hn => by
    by_cases hjn : j = n + 1
    · subst hjn; exact Int.le_refl _
    · have h1 := tsum_le h n (show j ≤ n by omega) (by omega)
      have h2 := h _ (getD_mem (show n < t.length by omega))
      simp only [tsum]; omega
/-- The final voltages: numerators, and fractions. -/
def finV (t : List Int) (n : Nat) (g : Bool) (j : Nat) : Int := if g = true then tsum t n - tsum t j else tsum t n
def finN (t : List Int) (n : Nat) (g : Bool) : List Int := (List.range (n + 1)).map (finV t n g)
def finO (t : List Int) (n : Nat) (g : Bool) : List (Int × Int) := (finN t n g).map (low · (tsum t n))
theorem finN_len (t : List Int) (n : Nat) (g : Bool) : (finN t n g).length = n + 1 := by simp [finN]
theorem finO_len (t : List Int) (n : Nat) (g : Bool) : (finO t n g).length = n + 1 := by simp [finO, finN]
theorem finV_bd {t : List Int} {n : Nat} (g : Bool) (h : ∀ x ∈ t, 1 ≤ x ∧ x ≤ 1000) (hn : n ≤ t.length) {j : Nat} (hj : j ≤ n) : 0 ≤ finV t n g j ∧ finV t n g j ≤ tsum t n := by
  have h1 := tsum_le h n hj hn
  have h2 := tsum_bd h j (by omega)
  have h3 := tsum_bd h n hn
  unfold finV; split <;> omega
theorem finO_get (t : List Int) (n : Nat) (g : Bool) (j : Nat) (hj : j < n + 1) : (finO t n g).getD j (0, 0) = low (finV t n g j) (tsum t n) := by
  simp [finO, finN, List.getD, hj]
theorem low_le_parts {a b : Int} (ha : 0 ≤ a) (hb : 0 < b) : 0 ≤ (low a b).1 ∧ (low a b).1 ≤ a ∧ 1 ≤ (low a b).2 ∧ (low a b).2 ≤ b := by
  have hg := gc_pos (a := a) hb
  refine ⟨low_nn ha hb, ?_, low_den' hb, ?_⟩
  · show a.tdiv (gc a b) ≤ a
    rw [Int.tdiv_eq_ediv_of_nonneg ha]
    exact Int.ediv_le_self _ ha
  · show b / gc a b ≤ b
    exact Int.ediv_le_self _ (by omega)
theorem finO_small {t : List Int} {n : Nat} (g : Bool) (h : ∀ x ∈ t, 1 ≤ x ∧ x ≤ 1000) (hn : n ≤ t.length) (h0 : 0 < n) (h6 : n ≤ 6) : (finO t n g).any (fun f => !smallF f) = false := by
  rw [List.any_eq_false]
  intro f hf
  unfold finO finN at hf
  rw [List.map_map] at hf
  obtain ⟨j, hj, rfl⟩ := List.mem_map.1 hf
  have hj' : j < n + 1 := by simpa using hj
  have h3 := tsum_bd h n hn
  have h1 := finV_bd g h hn (show j ≤ n by omega)
  have h2 := low_le_parts h1.1 (show 0 < tsum t n by omega)
  show ¬ ((!smallF (low (finV t n g j) (tsum t n))) = true)
  have : smallF (low (finV t n g j) (tsum t n)) = true := by
    unfold smallF
    rw [Bool.and_eq_true, decide_eq_true_eq]
    exact ⟨wi_iff.2 (by omega), by omega⟩
  rw [this]; simp
end Go.Proofs.Ytbjgklifmillgaa

/- The parts of many ratios: Fracs of the reference. -/
namespace Go.Proofs.Ytbjgklifmillgaa
open Go.RowKit
set_option linter.unusedVariables false

end Go.Proofs.Ytbjgklifmillgaa
