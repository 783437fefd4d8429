/- The determinants of the node equations: plain lists. -/
import Derived.Test.YtiellefbndlkkaaChain
namespace Go.Proofs.Ytiellefbndlkkaa
set_option linter.unusedVariables false

/-- The determinant of the last m equations of L. -/
def dd (s e : List Int) (L : Nat) : Nat → Int
  | 0 => 1
  | 1 => ownOf s e (L - 1)
  | m + 2 => ownOf s e (L - m - 2) * dd s e L (m + 1) - s.getD (L - m - 1) 0 * s.getD (L - m - 1) 0 * dd s e L m
/-- The list of determinants while the nodes above j are done. -/
def ddAt (s e : List Int) (n L j : Nat) : List Int := (List.range (n + 3)).map (fun i => if j < i ∧ i ≤ L + 1 then dd s e L (L + 1 - i) else 0)
theorem ddAt_len (s e : List Int) (n L j : Nat) : (ddAt s e n L j).length = n + 3 := by simp [ddAt]
theorem ddAt_get (s e : List Int) (n L j i : Nat) (h : i < n + 3) : (ddAt s e n L j).getD i 0 = if j < i ∧ i ≤ L + 1 then dd s e L (L + 1 - i) else 0 := by
  simp [ddAt, List.getD, h]
theorem ddAt_set (s e : List Int) (n L j : Nat) (hj : j ≤ L) (hL : L + 1 < n + 3) : (ddAt s e n L (j + 1)).set (j + 1) (dd s e L (L - j)) = ddAt s e n L j := by
  apply List.ext_getElem
  · simp [ddAt]
  · intro i h1 h2
    simp only [ddAt, List.getElem_set, List.getElem_map, List.getElem_range]
    by_cases hi : j + 1 = i
    · subst hi
      rw [if_pos rfl, if_pos (by omega)]
      congr 1; omega
    · rw [if_neg hi]
      by_cases h3 : j < i ∧ i ≤ L + 1
      · rw [if_pos h3, if_pos (by omega)]
      · rw [if_neg h3, if_neg (by omega)]
theorem ddAt_start (s e : List Int) (n L : Nat) (hL : L + 1 < n + 3) : (List.replicate (n + 3) (0 : Int)).set (L + 1) 1 = ddAt s e n L L := by
  apply List.ext_getElem
  · simp [ddAt]
  · intro i h1 h2
    simp only [ddAt, List.getElem_set, List.getElem_map, List.getElem_range, List.getElem_replicate]
    by_cases hi : L + 1 = i
    · subst hi; simp [dd]
    · rw [if_neg hi, if_neg (by omega)]
theorem own_bd (s e : List Int) (k : Nat) (bs : ∀ x ∈ s, 0 ≤ x ∧ x ≤ 100) (be : ∀ x ∈ e, 0 ≤ x ∧ x ≤ 100) : 0 ≤ ownOf s e k ∧ ownOf s e k ≤ 300 := by
  have gs : ∀ i, 0 ≤ s.getD i 0 ∧ s.getD i 0 ≤ 100 := fun i => by
    by_cases h : i < s.length
    · exact bs _ (getD_mem h)
    · simp [List.getD, Nat.not_lt.1 h]
  have ge : ∀ i, 0 ≤ e.getD i 0 ∧ e.getD i 0 ≤ 100 := fun i => by
    by_cases h : i < e.length
    · exact be _ (getD_mem h)
    · simp [List.getD, Nat.not_lt.1 h]
  have := gs k; have := ge k; have := gs (k + 1)
  unfold ownOf; split <;> omega
theorem dd_bd (s e : List Int) (L : Nat) (bs : ∀ x ∈ s, 0 ≤ x ∧ x ≤ 100) (be : ∀ x ∈ e, 0 ≤ x ∧ x ≤ 100) : ∀ m, (-(400 : Int) ^ m ≤ dd s e L m ∧ dd s e L m ≤ 400 ^ m) ∧ (-(400 : Int) ^ (m + 1) ≤ dd s e L (m + 1) ∧ dd s e L (m + 1) ≤ 400 ^ (m + 1))
  | 0 => by
    have := own_bd s e (L - 1) bs be
    simp [dd]; omega
  | m + 1 => by
    obtain ⟨h1, h2⟩ := dd_bd s e L bs be m
    refine ⟨h2, ?_⟩
    have ho := own_bd s e (L - m - 2) bs be
    have hs : 0 ≤ s.getD (L - m - 1) 0 ∧ s.getD (L - m - 1) 0 ≤ 100 := by
      by_cases h : (L - m - 1) < s.length
      · exact bs _ (getD_mem h)
      · simp [List.getD, Nat.not_lt.1 h]
    simp only [dd]
    generalize s.getD (L - m - 1) 0 = x at hs
    generalize ownOf s e (L - m - 2) = o at ho
    generalize dd s e L m = p at h1
    generalize dd s e L (m + 1) = q at h2
    have e1 : (400 : Int) ^ (m + 1) = 400 * 400 ^ m := by rw [Int.pow_succ]; omega
    have e2 : (400 : Int) ^ (m + 1 + 1) = 160000 * 400 ^ m := by rw [Int.pow_succ, e1]; omega
    rw [e1] at h2
    rw [e2]
    have hp : (0 : Int) < 400 ^ m := Int.pow_pos (by omega)
    generalize (400 : Int) ^ m = P at *
    have b1 : -(120000 * P) ≤ o * q ∧ o * q ≤ 120000 * P := by
      constructor
      · have := Int.mul_le_mul_of_nonneg_left h2.1 ho.1
        have h5 : o * P ≤ 300 * P := Int.mul_le_mul_of_nonneg_right ho.2 (by omega)
        have : o * (-(400 * P)) = -(400 * (o * P)) := by rw [Int.mul_neg, Int.mul_left_comm]
        omega
      · have := Int.mul_le_mul_of_nonneg_left h2.2 ho.1
        have h5 : o * P ≤ 300 * P := Int.mul_le_mul_of_nonneg_right ho.2 (by omega)
        have : o * (400 * P) = 400 * (o * P) := by rw [Int.mul_left_comm]
        omega
    have hxx : 0 ≤ x * x ∧ x * x ≤ 10000 := ⟨Int.mul_nonneg hs.1 hs.1, by have := Int.mul_le_mul hs.2 hs.2 hs.1 (by omega : (0:Int) ≤ 100); omega⟩
    have b2 : -(10000 * P) ≤ x * x * p ∧ x * x * p ≤ 10000 * P := by
      generalize x * x = z at hxx
      constructor
      · have := Int.mul_le_mul_of_nonneg_left h1.1 hxx.1
        have h5 : z * P ≤ 10000 * P := Int.mul_le_mul_of_nonneg_right hxx.2 (by omega)
        have : z * (-P) = -(z * P) := by rw [Int.mul_neg]
        omega
      · have := Int.mul_le_mul_of_nonneg_left h1.2 hxx.1
        have h5 : z * P ≤ 10000 * P := Int.mul_le_mul_of_nonneg_right hxx.2 (by omega)
        omega
    omega

/-- The product of the first k series capacitances. -/
def pr (s : List Int) : Nat → Int
  | 0 => 1
  | k + 1 => pr s k * s.getD k 0
/-- The numerators of the initial voltages, the first k of them. -/
def numsAt (s e : List Int) (n L k : Nat) : List Int := (List.range (n + 1)).map (fun j => if j < k ∧ j ≤ L then pr s j * dd s e L (L - j) else 0)
def numsOf (s e : List Int) (n L : Nat) : List Int := (List.range (n + 1)).map (fun j => if j ≤ L then pr s j * dd s e L (L - j) else 0)
theorem nums_len (s e : List Int) (n L k : Nat) : (numsAt s e n L k).length = n + 1 := by simp [numsAt]
theorem nums_get (s e : List Int) (n L k : Nat) (h : k < n + 1) : (numsAt s e n L k).getD k 0 = 0 := by
  simp [numsAt, List.getD, h]
theorem nums_set (s e : List Int) (n L k : Nat) (hk : k ≤ L) : (numsAt s e n L k).set k (pr s k * dd s e L (L - k)) = numsAt s e n L (k + 1) := by
  apply List.ext_getElem
  · simp [numsAt]
  · intro i h1 h2
    simp only [numsAt, List.getElem_set, List.getElem_map, List.getElem_range]
    by_cases hi : k = i
    · subst hi; rw [if_pos rfl, if_pos (by omega)]
    · rw [if_neg hi]
      by_cases h3 : i < k ∧ i ≤ L
      · rw [if_pos h3, if_pos (by omega)]
      · rw [if_neg h3, if_neg (by omega)]
theorem nums_start (s e : List Int) (n L : Nat) : List.replicate (n + 1) (0 : Int) = numsAt s e n L 0 := by
  simp [numsAt, List.map_const']
theorem nums_end (s e : List Int) (n L : Nat) : numsAt s e n L (L + 1) = numsOf s e n L := by
  unfold numsAt numsOf
  refine List.map_congr_left fun j _ => ?_
  by_cases h : j ≤ L
  · rw [if_pos h, if_pos (by omega)]
  · rw [if_neg h, if_neg (by omega)]
theorem pr_bd (s : List Int) (bs : ∀ x ∈ s, 0 ≤ x ∧ x ≤ 100) : ∀ k, 0 ≤ pr s k ∧ pr s k ≤ 100 ^ k
  | 0 => by simp [pr]
  | k + 1 => by
    obtain ⟨h1, h2⟩ := pr_bd s bs k
    have hs : 0 ≤ s.getD k 0 ∧ s.getD k 0 ≤ 100 := by
      by_cases h : k < s.length
      · exact bs _ (getD_mem h)
      · simp [List.getD, Nat.not_lt.1 h]
    simp only [pr]
    refine ⟨Int.mul_nonneg h1 hs.1, ?_⟩
    rw [Int.pow_succ]
    exact Int.mul_le_mul h2 hs.2 hs.1 (Int.le_of_lt (Int.pow_pos (by omega)))
end Go.Proofs.Ytiellefbndlkkaa
