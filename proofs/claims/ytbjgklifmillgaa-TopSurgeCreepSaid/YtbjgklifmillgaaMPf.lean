import Derived.Test.YtbjgklifmillgaaMLd
/- The determinants of the node equations: plain lists. -/
namespace Go.Proofs.Ytbjgklifmillgaa
set_option linter.unusedVariables false

/-- The determinant of the last m equations of L. -/
def dd (s e : List Int) (L : Nat) : Nat → Int
  | 0 => 1
  | 1 => ownOf s e (L - 1)
  | m + 2 => ownOf s e (L - m - 2) * dd s e L (m + 1) - s.getD (L - m - 1) 0 * s.getD (L - m - 1) 0 * dd s e L m
/-- The list of determinants while the nodes above j are done. -/
def ddAt (s e : List Int) (n L j : Nat) : List Int := (List.range (n + 3)).map (fun i => if j < i ∧ i ≤ L + 1 then dd s e L (L + 1 - i) else 0)
theorem ddAt_len (s e : List Int) (n L j : Nat) : (ddAt s e n L j).length = n + 3 := by simp [ddAt]
theorem ddAt_get (s e : List Int) (n L j i : Nat) (h : i < n + 3) : (ddAt s e n L j).getD i 0 = if j < i ∧ i ≤ L + 1 then dd s e L (L + 1 - i) else 0 := by
  simp [ddAt, List.getD, h]
theorem ddAt_set (s e : List Int) (n L j : Nat) (hj : j ≤ L) (hL : L + 1 < n + 3) : (ddAt s e n L (j + 1)).set (j + 1) (dd s e L (L - j)) = ddAt s e n L j := by
  apply List.ext_getElem
  · simp [ddAt]
  · intro i h1 h2
    simp only [ddAt, List.getElem_set, List.getElem_map, List.getElem_range]
    by_cases hi : j + 1 = i
    · subst hi
      rw [if_pos rfl, if_pos (by omega)]
      congr 1; omega
    · rw [if_neg hi]
      by_cases h3 : j < i ∧ i ≤ L + 1
      · rw [if_pos h3, if_pos (by omega)]
      · rw [if_neg h3, if_neg (by omega)]
theorem ddAt_start (s e : List Int) (n L : Nat) (hL : L + 1 < n + 3) : (List.replicate (n + 3) (0 : Int)).set (L + 1) 1 = ddAt s e n L L := by
  apply List.ext_getElem
  · simp [ddAt]
  · intro i h1 h2
    simp only [ddAt, List.getElem_set, List.getElem_map, List.getElem_range, List.getElem_replicate]
    by_cases hi : L + 1 = i
    · subst hi; simp [dd]
    · rw [if_neg hi, if_neg (by omega)]
theorem own_bd (s e : List Int) (k : Nat) (bs : ∀ x ∈ s, 0 ≤ x ∧ x ≤ 100) (be : ∀ x ∈ e, 0 ≤ x ∧ x ≤ 100) : 0 ≤ ownOf s e k ∧ ownOf s e k ≤ 300 := by
  have gs : ∀ i, 0 ≤ s.getD i 0 ∧ s.getD i 0 ≤ 100 := fun i => by
    by_cases h : i < s.length
    · exact bs _ (getD_mem h)
    · simp [List.getD, Nat.not_lt.1 h]
  have ge : ∀ i, 0 ≤ e.getD i 0 ∧ e.getD i 0 ≤ 100 := fun i => by
    by_cases h : i < e.length
    · exact be _ (getD_mem h)
    · simp [List.getD, Nat.not_lt.1 h]
  have := gs k; have := ge k; have := gs (k + 1)
  unfold ownOf; split <;> omega
theorem dd_bd (s e : List Int) (L : Nat) (bs : ∀ x ∈ s, 0 ≤ x ∧ x ≤ 100) (be : ∀ x ∈ e, 0 ≤ x ∧ x ≤ 100) : ∀ m, (-(400 : Int) ^ m ≤ dd s e L m ∧ dd s e L m ≤ 400 ^ m) ∧ (-(400 : Int) ^ (m + 1) ≤ dd s e L (m + 1) ∧ dd s e L (m + 1) ≤ 400 ^ (m + 1))
  | 0 => by
    have := own_bd s e (L - 1) bs be
    simp [dd]; omega
  | m + 1 => by
    obtain ⟨h1, h2⟩ := dd_bd s e L bs be m
    refine ⟨h2, ?_⟩
    have ho := own_bd s e (L - m - 2) bs be
    have hs : 0 ≤ s.getD (L - m - 1) 0 ∧ s.getD (L - m - 1) 0 ≤ 100 := by
      by_cases h : (L - m - 1) < s.length
      · exact bs _ (getD_mem h)
      · simp [List.getD, Nat.not_lt.1 h]
    simp only [dd]
    generalize s.getD (L - m - 1) 0 = x at hs
    generalize ownOf s e (L - m - 2) = o at ho
    generalize dd s e L m = p at h1
    generalize dd s e L (m + 1) = q at h2
    have e1 : (400 : Int) ^ (m + 1) = 400 * 400 ^ m := by rw [Int.pow_succ]; omega
    have e2 : (400 : Int) ^ (m + 1 + 1) = 160000 * 400 ^ m := by rw [Int.pow_succ, e1]; omega
    rw [e1] at h2
    rw [e2]
    have hp : (0 : Int) < 400 ^ m := Int.pow_pos (by omega)
    generalize (400 : Int) ^ m = P at *
    have b1 : -(120000 * P) ≤ o * q ∧ o * q ≤ 120000 * P := by
      constructor
      · have := Int.mul_le_mul_of_nonneg_left h2.1 ho.1
        have h5 : o * P ≤ 300 * P := Int.mul_le_mul_of_nonneg_right ho.2 (by omega)
        have : o * (-(400 * P)) = -(400 * (o * P)) := by rw [Int.mul_neg, Int.mul_left_comm]
        omega
      · have := Int.mul_le_mul_of_nonneg_left h2.2 ho.1
        have h5 : o * P ≤ 300 * P := Int.mul_le_mul_of_nonneg_right ho.2 (by omega)
        have : o * (400 * P) = 400 * (o * P) := by rw [Int.mul_left_comm]
        omega
    have hxx : 0 ≤ x * x ∧ x * x ≤ 10000 := ⟨Int.mul_nonneg hs.1 hs.1, by have := Int.mul_le_mul hs.2 hs.2 hs.1 (by omega : (0:Int) ≤ 100); omega⟩
    have b2 : -(10000 * P) ≤ x * x * p ∧ x * x * p ≤ 10000 * P := by
      generalize x * x = z at hxx
      constructor
      · have := Int.mul_le_mul_of_nonneg_left h1.1 hxx.1
        have h5 : z * P ≤ 10000 * P := Int.mul_le_mul_of_nonneg_right hxx.2 (by omega)
        have : z * (-P) = -(z * P) := by rw [Int.mul_neg]
        omega
      · have := Int.mul_le_mul_of_nonneg_left h1.2 hxx.1
        have h5 : z * P ≤ 10000 * P := Int.mul_le_mul_of_nonneg_right hxx.2 (by omega)
        omega
    omega

/-- The product of the first k series capacitances. -/
def pr (s : List Int) : Nat → Int
  | 0 => 1
  | k + 1 => pr s k * s.getD k 0
/-- The numerators of the initial voltages, the first k of them. -/
def numsAt (s e : List Int) (n L k : Nat) : List Int := (List.range (n + 1)).map (fun j => if j < k ∧ j ≤ L then pr s j * dd s e L (L - j) else 0)
def numsOf (s e : List Int) (n L : Nat) : List Int := (List.range (n + 1)).map (fun j => if j ≤ L then pr s j * dd s e L (L - j) else 0)
theorem nums_len (s e : List Int) (n L k : Nat) : (numsAt s e n L k).length = n + 1 := by simp [numsAt]
theorem nums_get (s e : List Int) (n L k : Nat) (h : k < n + 1) : (numsAt s e n L k).getD k 0 = 0 := by
  simp [numsAt, List.getD, h]
theorem nums_set (s e : List Int) (n L k : Nat) (hk : k ≤ L) : (numsAt s e n L k).set k (pr s k * dd s e L (L - k)) = numsAt s e n L (k + 1) := by
  apply List.ext_getElem
  · simp [numsAt]
  · intro i h1 h2
    simp only [numsAt, List.getElem_set, List.getElem_map, List.getElem_range]
    by_cases hi : k = i
    · subst hi; rw [if_pos rfl, if_pos (by omega)]
    · rw [if_neg hi]
      by_cases h3 : i < k ∧ i ≤ L
      · rw [if_pos h3, if_pos (by omega)]
      · rw [if_neg h3, if_neg (by omega)]
theorem nums_start (s e : List Int) (n L : Nat) : List.replicate (n + 1) (0 : Int) = numsAt s e n L 0 := by
  simp [numsAt, List.map_const']
theorem nums_end (s e : List Int) (n L : Nat) : numsAt s e n L (L + 1) = numsOf s e n L := by
  unfold numsAt numsOf
  refine List.map_congr_left fun j _ => ?_
  by_cases h : j ≤ L
  · rw [if_pos h, if_pos (by omega)]
  · rw [if_neg h, if_neg (by omega)]
theorem pr_bd (s : List Int) (bs : ∀ x ∈ s, 0 ≤ x ∧ x ≤ 100) : ∀ k, 0 ≤ pr s k ∧ pr s k ≤ 100 ^ k
  | 0 => by simp [pr]
  | k + 1 => by
    obtain ⟨h1, h2⟩ := pr_bd s bs k
    have hs : 0 ≤ s.getD k 0 ∧ s.getD k 0 ≤ 100 := by
      by_cases h : k < s.length
      · exact bs _ (getD_mem h)
      · simp [List.getD, Nat.not_lt.1 h]
    simp only [pr]
    refine ⟨Int.mul_nonneg h1 hs.1, ?_⟩
    rw [Int.pow_succ]
    exact Int.mul_le_mul h2 hs.2 hs.1 (Int.le_of_lt (Int.pow_pos (by omega)))
end Go.Proofs.Ytbjgklifmillgaa

/- Plain facts: determinants are above 0; fractions. -/
namespace Go.Proofs.Ytbjgklifmillgaa
open Go.RowKit
set_option linter.unusedVariables false

theorem gd_nn {l : List Int} (h : ∀ x ∈ l, 0 ≤ x ∧ x ≤ 100) (k : Nat) : 0 ≤ l.getD k 0 := by
  by_cases hk : k < l.length
  · exact (h _ (getD_mem hk)).1
  · rw [List.getD_eq_getElem?_getD, List.getElem?_eq_none (by omega)]; exact Int.le_refl _

theorem gd_bd {l : List Int} {lo hi : Int} (h : ∀ x ∈ l, lo ≤ x ∧ x ≤ hi) {k : Nat} (hk : k < l.length) : lo ≤ l.getD k 0 ∧ l.getD k 0 ≤ hi := h _ (getD_mem hk)
theorem dd_grow (s e : List Int) (L : Nat) (bs : ∀ x ∈ s, 1 ≤ x ∧ x ≤ 100) (be : ∀ x ∈ e, 0 ≤ x ∧ x ≤ 100) (hL : L ≤ s.length) : ∀ m, m + 1 ≤ L → 0 < dd s e L m ∧ s.getD (L - m - 1) 0 * dd s e L m ≤ dd s e L (m + 1)
  | 0, h => by
    have h1 := gd_bd bs (k := L - 0 - 1) (by omega)
    have ge := gd_nn be (L - 0 - 1)
    refine ⟨by simp [dd], ?_⟩
    simp only [dd, Int.mul_one]
    unfold ownOf
    rw [show L - 0 - 1 = L - 1 by omega] at *
    split
    · have := gd_bd bs (k := L - 1 + 1) (by assumption)
      omega
    · omega
  | m + 1, h => by
    obtain ⟨h1, h2⟩ := dd_grow s e L bs be hL m (by omega)
    have h3 := gd_bd bs (k := L - m - 1) (by omega)
    have h4 := gd_bd bs (k := L - (m + 1) - 1) (by omega)
    have ge := gd_nn be (L - (m + 1) - 1)
    have hp : 0 < dd s e L (m + 1) := by
      have : 0 < s.getD (L - m - 1) 0 * dd s e L m := Int.mul_pos (by omega) h1
      omega
    refine ⟨hp, ?_⟩
    have ho : ownOf s e (L - m - 2) = s.getD (L - (m + 1) - 1) 0 + e.getD (L - (m + 1) - 1) 0 + s.getD (L - m - 1) 0 := by
      unfold ownOf
      rw [if_pos (by omega), show L - m - 2 = L - (m + 1) - 1 by omega, show L - (m + 1) - 1 + 1 = L - m - 1 by omega]
    simp only [dd]
    rw [ho]
    generalize s.getD (L - (m + 1) - 1) 0 = x at *
    generalize e.getD (L - (m + 1) - 1) 0 = y at *
    generalize s.getD (L - m - 1) 0 = z at *
    generalize dd s e L m = p at *
    generalize dd s e L (m + 1) = q at *
    have e1 : (x + y + z) * q - z * z * p = x * q + (y * q + z * (q - z * p)) := by
      rw [Int.add_mul, Int.add_mul, Int.mul_sub, Int.mul_assoc]; omega
    have : 0 ≤ y * q := Int.mul_nonneg ge (by omega)
    have : 0 ≤ z * (q - z * p) := Int.mul_nonneg (by omega) (by omega)
    omega
theorem dd_pos (s e : List Int) (L : Nat) (bs : ∀ x ∈ s, 1 ≤ x ∧ x ≤ 100) (be : ∀ x ∈ e, 0 ≤ x ∧ x ≤ 100) (hL : L ≤ s.length) (m : Nat) (hm : m ≤ L) : 0 < dd s e L m := by
  rcases m with _ | k
  · simp [dd]
  · have h := dd_grow s e L bs be hL k hm
    have h3 := gd_bd bs (k := L - k - 1) (by omega)
    have : 0 < s.getD (L - k - 1) 0 * dd s e L k := Int.mul_pos (by omega) h.1
    omega
theorem pr_pos (s : List Int) (bs : ∀ x ∈ s, 1 ≤ x ∧ x ≤ 100) : ∀ k, k ≤ s.length → 0 < pr s k
  | 0, _ => by simp [pr]
  | k + 1, h => by
    have := gd_bd bs (k := k) (by omega)
    exact Int.mul_pos (pr_pos s bs k (by omega)) (by omega)
/-- The numerators fall. -/
theorem nu_fall (s e : List Int) (L : Nat) (bs : ∀ x ∈ s, 1 ≤ x ∧ x ≤ 100) (be : ∀ x ∈ e, 0 ≤ x ∧ x ≤ 100) (hL : L ≤ s.length) (j : Nat) (hj : j + 1 ≤ L) : pr s (j + 1) * dd s e L (L - (j + 1)) ≤ pr s j * dd s e L (L - j) := by
  have h := (dd_grow s e L bs be hL (L - (j + 1)) (by omega)).2
  rw [show L - (L - (j + 1)) - 1 = j by omega, show L - (j + 1) + 1 = L - j by omega] at h
  simp only [pr]
  rw [Int.mul_assoc]
  exact Int.mul_le_mul_of_nonneg_left h (Int.le_of_lt (pr_pos s bs j (by omega)))
theorem nu_bd (s e : List Int) (L : Nat) (bs : ∀ x ∈ s, 1 ≤ x ∧ x ≤ 100) (be : ∀ x ∈ e, 0 ≤ x ∧ x ≤ 100) (hL : L ≤ s.length) : ∀ j, j ≤ L → 0 < pr s j * dd s e L (L - j) ∧ pr s j * dd s e L (L - j) ≤ dd s e L L
  | 0, h => by
    simp only [pr, Nat.sub_zero, Int.one_mul]
    exact ⟨dd_pos s e L bs be hL L (Nat.le_refl _), Int.le_refl _⟩
  | j + 1, h => by
    have h1 := nu_bd s e L bs be hL j (by omega)
    have h2 := nu_fall s e L bs be hL j h
    exact ⟨Int.mul_pos (pr_pos s bs (j + 1) (by omega)) (dd_pos s e L bs be hL _ (by omega)), by omega⟩
theorem nums_bd (s e : List Int) (n L : Nat) (bs : ∀ x ∈ s, 1 ≤ x ∧ x ≤ 100) (be : ∀ x ∈ e, 0 ≤ x ∧ x ≤ 100) (hL : L ≤ s.length) : ∀ x ∈ numsOf s e n L, 0 ≤ x ∧ x ≤ dd s e L L := by
  intro x hx
  unfold numsOf at hx
  obtain ⟨j, _, rfl⟩ := List.mem_map.1 hx
  have hp := dd_pos s e L bs be hL L (Nat.le_refl _)
  by_cases h : j ≤ L
  · rw [if_pos h]; have := nu_bd s e L bs be hL j h; omega
  · rw [if_neg h]; omega

/-- A fraction in lowest terms; whether its parts are small. -/
def low (a b : Int) : Int × Int := (a.tdiv (gc a b), b / gc a b)
def smallF (f : Int × Int) : Bool := wi f.1 (-1000000000) 1000000000 && decide (f.2 ≤ 1000000000)
/-- Pairs as cells. -/
def pcells (l : List (Int × Int)) : List Value := l.flatMap fun f => [.int .i64 f.1, .int .i64 f.2]
theorem pcells_length : ∀ l : List (Int × Int), (pcells l).length = l.length * 2
  | [] => rfl
  | f :: r => by have := pcells_length r; simp only [pcells, List.flatMap_cons, List.length_append, List.length_cons, List.length_nil] at *; omega
theorem pcells_append (a b : List (Int × Int)) : pcells (a ++ b) = pcells a ++ pcells b := by simp [pcells]
theorem pcells_get : ∀ (l : List (Int × Int)) (i : Nat), i < l.length → (pcells l)[i * 2]? = some (.int .i64 (l.getD i (0, 0)).1) ∧ (pcells l)[i * 2 + 1]? = some (.int .i64 (l.getD i (0, 0)).2)
  | [], i, h => by simp at h
  | f :: r, 0, _ => by simp [pcells]
  | f :: r, i + 1, h => by
    have := pcells_get r i (by simpa using h)
    simp only [pcells, List.flatMap_cons, List.cons_append, List.nil_append] at *
    rw [show (i + 1) * 2 = i * 2 + 1 + 1 by omega]
    simpa using this
theorem pcells_one (l : List (Int × Int)) : ∀ u ∈ pcells l, u.oneCell' = true := by
  intro u hu
  simp only [pcells, List.mem_flatMap] at hu
  obtain ⟨f, _, hf⟩ := hu
  simp at hf
  rcases hf with rfl | rfl <;> rfl
/-- A slice of pairs. -/
def PairsR (w : World) (a : Option Addr) (n : Nat) (l : List (Int × Int)) : Prop := SlR w a n 2 (pcells l)
theorem PairsR.len {w : World} {a : Option Addr} {n : Nat} {l : List (Int × Int)} (h : PairsR w a n l) : l.length = n := by
  have := h.1; rw [pcells_length] at this; omega
theorem PairsR.below {w w' : World} {a : Option Addr} {n : Nat} {l : List (Int × Int)} (h : PairsR w a n l) (hb : Below w.heap.size w w') : PairsR w' a n l := SlR.below h hb
theorem PairsR.small {w : World} {a : Option Addr} {n : Nat} {l : List (Int × Int)} (h : PairsR w a n l) : n ≤ 9223372036854775807 := SlR.small h
theorem PairsR.addr {w : World} {a : Option Addr} {n : Nat} {l : List (Int × Int)} (h : PairsR w a n l) (hn : 0 < n) :
    ∃ b o, a = some ⟨b, o, none⟩ ∧ b < w.heap.size ∧ ∀ i, i < n → w.cell? ⟨b, o + i * 2, none⟩ = some (.int .i64 (l.getD i (0, 0)).1) ∧ w.cell? ⟨b, o + i * 2 + 1, none⟩ = some (.int .i64 (l.getD i (0, 0)).2) := by
  obtain ⟨b, o, ha, hlt, hc⟩ := h.2.2 hn
  refine ⟨b, o, ha, hlt, fun i hi => ?_⟩
  have := pcells_get l i (by rw [h.len]; exact hi)
  exact ⟨hc _ _ this.1, by have := hc _ _ this.2; rwa [← Nat.add_assoc] at this⟩
theorem PairsR.nil (w : World) (a : Option Addr) : PairsR w a 0 [] := SlR.nil w a 2
end Go.Proofs.Ytbjgklifmillgaa
