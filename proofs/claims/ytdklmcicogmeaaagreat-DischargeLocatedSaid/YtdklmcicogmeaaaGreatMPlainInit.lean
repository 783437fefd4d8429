import Derived.Deep.AppendLies
import Derived.Test.YtdklmcicogmeaaaGreatMDResp
/- The determinants of the node equations: plain lists. -/
namespace Go.Proofs.YtdklmcicogmeaaaGreat
set_option linter.unusedVariables false

/-- The determinant of the last m equations of L. -/
def dd (s e : List Int) (L : Nat) : Nat → Int
  | 0 => 1
  | 1 => ownOf s e (L - 1)
  | m + 2 => ownOf s e (L - m - 2) * dd s e L (m + 1) - s.getD (L - m - 1) 0 * s.getD (L - m - 1) 0 * dd s e L m
/-- The list of determinants while the nodes above j are done. -/
def ddAt (s e : List Int) (n L j : Nat) : List Int := (List.range (n + 3)).map (fun i => if j < i ∧ i ≤ L + 1 then dd s e L (L + 1 - i) else 0)
theorem ddAt_len (s e : List Int) (n L j : Nat) : (ddAt s e n L j).length = n + 3 := by simp [ddAt]
theorem ddAt_get (s e : List Int) (n L j i : Nat) (h : i < n + 3) : (ddAt s e n L j).getD i 0 = if j < i ∧ i ≤ L + 1 then dd s e L (L + 1 - i) else 0 := by
  simp [ddAt, List.getD, h]
theorem ddAt_set (s e : List Int) (n L j : Nat) (hj : j ≤ L) (hL : L + 1 < n + 3) : (ddAt s e n L (j + 1)).set (j + 1) (dd s e L (L - j)) = ddAt s e n L j := by
  apply List.ext_getElem
  · simp [ddAt]
  · intro i h1 h2
    simp only [ddAt, List.getElem_set, List.getElem_map, List.getElem_range]
    by_cases hi : j + 1 = i
    · subst hi
      rw [if_pos rfl, if_pos (by omega)]
      congr 1; omega
    · rw [if_neg hi]
      by_cases h3 : j < i ∧ i ≤ L + 1
      · rw [if_pos h3, if_pos (by omega)]
      · rw [if_neg h3, if_neg (by omega)]
theorem ddAt_start (s e : List Int) (n L : Nat) (hL : L + 1 < n + 3) : (List.replicate (n + 3) (0 : Int)).set (L + 1) 1 = ddAt s e n L L := by
  apply List.ext_getElem
  · simp [ddAt]
  · intro i h1 h2
    simp only [ddAt, List.getElem_set, List.getElem_map, List.getElem_range, List.getElem_replicate]
    by_cases hi : L + 1 = i
    · subst hi; simp [dd]
    · rw [if_neg hi, if_neg (by omega)]
theorem own_bd (s e : List Int) (k : Nat) (bs : ∀ x ∈ s, 0 ≤ x ∧ x ≤ 100) (be : ∀ x ∈ e, 0 ≤ x ∧ x ≤ 100) : 0 ≤ ownOf s e k ∧ ownOf s e k ≤ 300 := by
  have gs : ∀ i, 0 ≤ s.getD i 0 ∧ s.getD i 0 ≤ 100 := fun i => by
    by_cases h : i < s.length
    · exact bs _ (getD_mem h)
    · simp [List.getD, Nat.not_lt.1 h]
  have ge : ∀ i, 0 ≤ e.getD i 0 ∧ e.getD i 0 ≤ 100 := fun i => by
    by_cases h : i < e.length
    · exact be _ (getD_mem h)
    · simp [List.getD, Nat.not_lt.1 h]
  have := gs k; have := ge k; have := gs (k + 1)
  unfold ownOf; split <;> omega
theorem dd_bd (s e : List Int) (L : Nat) (bs : ∀ x ∈ s, 0 ≤ x ∧ x ≤ 100) (be : ∀ x ∈ e, 0 ≤ x ∧ x ≤ 100) : ∀ m, (-(400 : Int) ^ m ≤ dd s e L m ∧ dd s e L m ≤ 400 ^ m) ∧ (-(400 : Int) ^ (m + 1) ≤ dd s e L (m + 1) ∧ dd s e L (m + 1) ≤ 400 ^ (m + 1))
  | 0 => by
    have := own_bd s e (L - 1) bs be
    simp [dd]; omega
  | m + 1 => by
    obtain ⟨h1, h2⟩ := dd_bd s e L bs be m
    refine ⟨h2, ?_⟩
    have ho := own_bd s e (L - m - 2) bs be
    have hs : 0 ≤ s.getD (L - m - 1) 0 ∧ s.getD (L - m - 1) 0 ≤ 100 := by
      by_cases h : (L - m - 1) < s.length
      · exact bs _ (getD_mem h)
      · simp [List.getD, Nat.not_lt.1 h]
    simp only [dd]
    generalize s.getD (L - m - 1) 0 = x at hs
    generalize ownOf s e (L - m - 2) = o at ho
    generalize dd s e L m = p at h1
    generalize dd s e L (m + 1) = q at h2
    have e1 : (400 : Int) ^ (m + 1) = 400 * 400 ^ m := by rw [Int.pow_succ]; omega
    have e2 : (400 : Int) ^ (m + 1 + 1) = 160000 * 400 ^ m := by rw [Int.pow_succ, e1]; omega
    rw [e1] at h2
    rw [e2]
    have hp : (0 : Int) < 400 ^ m := Int.pow_pos (by omega)
    generalize (400 : Int) ^ m = P at *
    have b1 : -(120000 * P) ≤ o * q ∧ o * q ≤ 120000 * P := by
      constructor
      · have := Int.mul_le_mul_of_nonneg_left h2.1 ho.1
        have h5 : o * P ≤ 300 * P := Int.mul_le_mul_of_nonneg_right ho.2 (by omega)
        have : o * (-(400 * P)) = -(400 * (o * P)) := by rw [Int.mul_neg, Int.mul_left_comm]
        omega
      · have := Int.mul_le_mul_of_nonneg_left h2.2 ho.1
        have h5 : o * P ≤ 300 * P := Int.mul_le_mul_of_nonneg_right ho.2 (by omega)
        have : o * (400 * P) = 400 * (o * P) := by rw [Int.mul_left_comm]
        omega
    have hxx : 0 ≤ x * x ∧ x * x ≤ 10000 := ⟨Int.mul_nonneg hs.1 hs.1, by have := Int.mul_le_mul hs.2 hs.2 hs.1 (by omega : (0:Int) ≤ 100); omega⟩
    have b2 : -(10000 * P) ≤ x * x * p ∧ x * x * p ≤ 10000 * P := by
      generalize x * x = z at hxx
      constructor
      · have := Int.mul_le_mul_of_nonneg_left h1.1 hxx.1
        have h5 : z * P ≤ 10000 * P := Int.mul_le_mul_of_nonneg_right hxx.2 (by omega)
        have : z * (-P) = -(z * P) := by rw [Int.mul_neg]
        omega
      · have := Int.mul_le_mul_of_nonneg_left h1.2 hxx.1
        have h5 : z * P ≤ 10000 * P := Int.mul_le_mul_of_nonneg_right hxx.2 (by omega)
        omega
    omega

/-- The product of the first k series capacitances. -/
def pr (s : List Int) : Nat → Int
  | 0 => 1
  | k + 1 => pr s k * s.getD k 0
/-- The numerators of the initial voltages, the first k of them. -/
def numsAt (s e : List Int) (n L k : Nat) : List Int := (List.range (n + 1)).map (fun j => if j < k ∧ j ≤ L then pr s j * dd s e L (L - j) else 0)
def numsOf (s e : List Int) (n L : Nat) : List Int := (List.range (n + 1)).map (fun j => if j ≤ L then pr s j * dd s e L (L - j) else 0)
theorem nums_len (s e : List Int) (n L k : Nat) : (numsAt s e n L k).length = n + 1 := by simp [numsAt]
theorem nums_get (s e : List Int) (n L k : Nat) (h : k < n + 1) : (numsAt s e n L k).getD k 0 = 0 := by
  simp [numsAt, List.getD, h]
theorem nums_set (s e : List Int) (n L k : Nat) (hk : k ≤ L) : (numsAt s e n L k).set k (pr s k * dd s e L (L - k)) = numsAt s e n L (k + 1) := by
  apply List.ext_getElem
  · simp [numsAt]
  · intro i h1 h2
    simp only [numsAt, List.getElem_set, List.getElem_map, List.getElem_range]
    by_cases hi : k = i
    · subst hi; rw [if_pos rfl, if_pos (by omega)]
    · rw [if_neg hi]
      by_cases h3 : i < k ∧ i ≤ L
      · rw [if_pos h3, if_pos (by omega)]
      · rw [if_neg h3, if_neg (by omega)]
theorem nums_start (s e : List Int) (n L : Nat) : List.replicate (n + 1) (0 : Int) = numsAt s e n L 0 := by
  simp [numsAt, List.map_const']
theorem nums_end (s e : List Int) (n L : Nat) : numsAt s e n L (L + 1) = numsOf s e n L := by
  unfold numsAt numsOf
  refine List.map_congr_left fun j _ => ?_
  by_cases h : j ≤ L
  · rw [if_pos h, if_pos (by omega)]
  · rw [if_neg h, if_neg (by omega)]
theorem pr_bd (s : List Int) (bs : ∀ x ∈ s, 0 ≤ x ∧ x ≤ 100) : ∀ k, 0 ≤ pr s k ∧ pr s k ≤ 100 ^ k
  | 0 => by simp [pr]
  | k + 1 => by
    obtain ⟨h1, h2⟩ := pr_bd s bs k
    have hs : 0 ≤ s.getD k 0 ∧ s.getD k 0 ≤ 100 := by
      by_cases h : k < s.length
      · exact bs _ (getD_mem h)
      · simp [List.getD, Nat.not_lt.1 h]
    simp only [pr]
    refine ⟨Int.mul_nonneg h1 hs.1, ?_⟩
    rw [Int.pow_succ]
    exact Int.mul_le_mul h2 hs.2 hs.1 (Int.le_of_lt (Int.pow_pos (by omega)))
end Go.Proofs.YtdklmcicogmeaaaGreat

/- Plain facts: determinants are above 0; fractions. -/
namespace Go.Proofs.YtdklmcicogmeaaaGreat
open Go.RowKit
set_option linter.unusedVariables false

theorem gd_nn {l : List Int} (h : ∀ x ∈ l, 0 ≤ x ∧ x ≤ 100) (k : Nat) : 0 ≤ l.getD k 0 := by
  by_cases hk : k < l.length
  · exact (h _ (getD_mem hk)).1
  · rw [List.getD_eq_getElem?_getD, List.getElem?_eq_none (by omega)]; exact Int.le_refl _

theorem gd_bd {l : List Int} {lo hi : Int} (h : ∀ x ∈ l, lo ≤ x ∧ x ≤ hi) {k : Nat} (hk : k < l.length) : lo ≤ l.getD k 0 ∧ l.getD k 0 ≤ hi := h _ (getD_mem hk)
theorem dd_grow (s e : List Int) (L : Nat) (bs : ∀ x ∈ s, 1 ≤ x ∧ x ≤ 100) (be : ∀ x ∈ e, 0 ≤ x ∧ x ≤ 100) (hL : L ≤ s.length) : ∀ m, m + 1 ≤ L → 0 < dd s e L m ∧ s.getD (L - m - 1) 0 * dd s e L m ≤ dd s e L (m + 1)
  | 0, h => by
    have h1 := gd_bd bs (k := L - 0 - 1) (by omega)
    have ge := gd_nn be (L - 0 - 1)
    refine ⟨by simp [dd], ?_⟩
    simp only [dd, Int.mul_one]
    unfold ownOf
    rw [show L - 0 - 1 = L - 1 by omega] at *
    split
    · have := gd_bd bs (k := L - 1 + 1) (by assumption)
      omega
    · omega
  | m + 1, h => by
    obtain ⟨h1, h2⟩ := dd_grow s e L bs be hL m (by omega)
    have h3 := gd_bd bs (k := L - m - 1) (by omega)
    have h4 := gd_bd bs (k := L - (m + 1) - 1) (by omega)
    have ge := gd_nn be (L - (m + 1) - 1)
    have hp : 0 < dd s e L (m + 1) := by
      have : 0 < s.getD (L - m - 1) 0 * dd s e L m := Int.mul_pos (by omega) h1
      omega
    refine ⟨hp, ?_⟩
    have ho : ownOf s e (L - m - 2) = s.getD (L - (m + 1) - 1) 0 + e.getD (L - (m + 1) - 1) 0 + s.getD (L - m - 1) 0 := by
      unfold ownOf
      rw [if_pos (by omega), show L - m - 2 = L - (m + 1) - 1 by omega, show L - (m + 1) - 1 + 1 = L - m - 1 by omega]
    simp only [dd]
    rw [ho]
    generalize s.getD (L - (m + 1) - 1) 0 = x at *
    generalize e.getD (L - (m + 1) - 1) 0 = y at *
    generalize s.getD (L - m - 1) 0 = z at *
    generalize dd s e L m = p at *
    generalize dd s e L (m + 1) = q at *
    have e1 : (x + y + z) * q - z * z * p = x * q + (y * q + z * (q - z * p)) := by
      rw [Int.add_mul, Int.add_mul, Int.mul_sub, Int.mul_assoc]; omega
    have : 0 ≤ y * q := Int.mul_nonneg ge (by omega)
    have : 0 ≤ z * (q - z * p) := Int.mul_nonneg (by omega) (by omega)
    omega
theorem dd_pos (s e : List Int) (L : Nat) (bs : ∀ x ∈ s, 1 ≤ x ∧ x ≤ 100) (be : ∀ x ∈ e, 0 ≤ x ∧ x ≤ 100) (hL : L ≤ s.length) (m : Nat) (hm : m ≤ L) : 0 < dd s e L m := by
  rcases m with _ | k
  · simp [dd]
  · have h := dd_grow s e L bs be hL k hm
    have h3 := gd_bd bs (k := L - k - 1) (by omega)
    have : 0 < s.getD (L - k - 1) 0 * dd s e L k := Int.mul_pos (by omega) h.1
    omega
theorem pr_pos (s : List Int) (bs : ∀ x ∈ s, 1 ≤ x ∧ x ≤ 100) : ∀ k, k ≤ s.length → 0 < pr s k
  | 0, _ => by simp [pr]
  | k + 1, h => by
    have := gd_bd bs (k := k) (by omega)
    exact Int.mul_pos (pr_pos s bs k (by omega)) (by omega)
/-- The numerators fall. -/
theorem nu_fall (s e : List Int) (L : Nat) (bs : ∀ x ∈ s, 1 ≤ x ∧ x ≤ 100) (be : ∀ x ∈ e, 0 ≤ x ∧ x ≤ 100) (hL : L ≤ s.length) (j : Nat) (hj : j + 1 ≤ L) : pr s (j + 1) * dd s e L (L - (j + 1)) ≤ pr s j * dd s e L (L - j) := by
  have h := (dd_grow s e L bs be hL (L - (j + 1)) (by omega)).2
  rw [show L - (L - (j + 1)) - 1 = j by omega, show L - (j + 1) + 1 = L - j by omega] at h
  simp only [pr]
  rw [Int.mul_assoc]
  exact Int.mul_le_mul_of_nonneg_left h (Int.le_of_lt (pr_pos s bs j (by omega)))
theorem nu_bd (s e : List Int) (L : Nat) (bs : ∀ x ∈ s, 1 ≤ x ∧ x ≤ 100) (be : ∀ x ∈ e, 0 ≤ x ∧ x ≤ 100) (hL : L ≤ s.length) : ∀ j, j ≤ L → 0 < pr s j * dd s e L (L - j) ∧ pr s j * dd s e L (L - j) ≤ dd s e L L
  | 0, h => by
    simp only [pr, Nat.sub_zero, Int.one_mul]
    exact ⟨dd_pos s e L bs be hL L (Nat.le_refl _), Int.le_refl _⟩
  | j + 1, h => by
    have h1 := nu_bd s e L bs be hL j (by omega)
    have h2 := nu_fall s e L bs be hL j h
    exact ⟨Int.mul_pos (pr_pos s bs (j + 1) (by omega)) (dd_pos s e L bs be hL _ (by omega)), by omega⟩
theorem nums_bd (s e : List Int) (n L : Nat) (bs : ∀ x ∈ s, 1 ≤ x ∧ x ≤ 100) (be : ∀ x ∈ e, 0 ≤ x ∧ x ≤ 100) (hL : L ≤ s.length) : ∀ x ∈ numsOf s e n L, 0 ≤ x ∧ x ≤ dd s e L L := by
  intro x hx
  unfold numsOf at hx
  obtain ⟨j, _, rfl⟩ := List.mem_map.1 hx
  have hp := dd_pos s e L bs be hL L (Nat.le_refl _)
  by_cases h : j ≤ L
  · rw [if_pos h]; have := nu_bd s e L bs be hL j h; omega
  · rw [if_neg h]; omega

/-- A fraction in lowest terms; whether its parts are small. -/
def low (a b : Int) : Int × Int := (a.tdiv (gc a b), b / gc a b)
def smallF (f : Int × Int) : Bool := wi f.1 (-1000000000) 1000000000 && decide (f.2 ≤ 1000000000)
/-- Pairs as cells. -/
def pcells (l : List (Int × Int)) : List Value := l.flatMap fun f => [.int .i64 f.1, .int .i64 f.2]
theorem pcells_length : ∀ l : List (Int × Int), (pcells l).length = l.length * 2
  | [] => rfl
  | f :: r => by have := pcells_length r; simp only [pcells, List.flatMap_cons, List.length_append, List.length_cons, List.length_nil] at *; omega
theorem pcells_append (a b : List (Int × Int)) : pcells (a ++ b) = pcells a ++ pcells b := by simp [pcells]
theorem pcells_get : ∀ (l : List (Int × Int)) (i : Nat), i < l.length → (pcells l)[i * 2]? = some (.int .i64 (l.getD i (0, 0)).1) ∧ (pcells l)[i * 2 + 1]? = some (.int .i64 (l.getD i (0, 0)).2)
  | [], i, h => by simp at h
  | f :: r, 0, _ => by simp [pcells]
  | f :: r, i + 1, h => by
    have := pcells_get r i (by simpa using h)
    simp only [pcells, List.flatMap_cons, List.cons_append, List.nil_append] at *
    rw [show (i + 1) * 2 = i * 2 + 1 + 1 by omega]
    simpa using this
theorem pcells_one (l : List (Int × Int)) : ∀ u ∈ pcells l, u.oneCell' = true := by
  intro u hu
  simp only [pcells, List.mem_flatMap] at hu
  obtain ⟨f, _, hf⟩ := hu
  simp at hf
  rcases hf with rfl | rfl <;> rfl
/-- A slice of pairs. -/
def PairsR (w : World) (a : Option Addr) (n : Nat) (l : List (Int × Int)) : Prop := SlR w a n 2 (pcells l)
theorem PairsR.len {w : World} {a : Option Addr} {n : Nat} {l : List (Int × Int)} (h : PairsR w a n l) : l.length = n := by
  have := h.1; rw [pcells_length] at this; omega
theorem PairsR.below {w w' : World} {a : Option Addr} {n : Nat} {l : List (Int × Int)} (h : PairsR w a n l) (hb : Below w.heap.size w w') : PairsR w' a n l := SlR.below h hb
theorem PairsR.small {w : World} {a : Option Addr} {n : Nat} {l : List (Int × Int)} (h : PairsR w a n l) : n ≤ 9223372036854775807 := SlR.small h
theorem PairsR.addr {w : World} {a : Option Addr} {n : Nat} {l : List (Int × Int)} (h : PairsR w a n l) (hn : 0 < n) :
    ∃ b o, a = some ⟨b, o, none⟩ ∧ b < w.heap.size ∧ ∀ i, i < n → w.cell? ⟨b, o + i * 2, none⟩ = some (.int .i64 (l.getD i (0, 0)).1) ∧ w.cell? ⟨b, o + i * 2 + 1, none⟩ = some (.int .i64 (l.getD i (0, 0)).2) := by
  obtain ⟨b, o, ha, hlt, hc⟩ := h.2.2 hn
  refine ⟨b, o, ha, hlt, fun i hi => ?_⟩
  have := pcells_get l i (by rw [h.len]; exact hi)
  exact ⟨hc _ _ this.1, by have := hc _ _ this.2; rwa [← Nat.add_assoc] at this⟩
theorem PairsR.nil (w : World) (a : Option Addr) : PairsR w a 0 [] := SlR.nil w a 2
end Go.Proofs.YtdklmcicogmeaaaGreat

/- Frequencies, responses: the program's functions. -/
namespace Go.Proofs.YtdklmcicogmeaaaGreat
open Go.RowKit
set_option linter.unusedVariables false

def freE (l : List Int) : Int := firstErr [unl (decide ((l.length : Int) ≤ 8)) 8, unl (!l.any (fun x => !wi x 0 6)) 2]
theorem isFrequency_any (n : Int) (w : World) : Calls Tryz.prog 125 #[.int .i64 n] w fun e w' => e = .returned (.bool (wi n 0 6)) ∧ w = w' := by
  go_enter Tryz.func125, Tryz.ntmps125
  go_wp2_with (go_at_call 69; refine (d_within_any _ _ _ _).mono ?_; rintro e w' ⟨rfl, rfl⟩)
  go_ret
  exact ⟨rfl, rfl⟩
theorem fe1_any (x : Int) (w : World) : Calls Tryz.prog 124 #[.int .i64 x] w fun e w' => e = .returned (.bool (!wi x 0 6)) ∧ w = w' := by
  go_enter Tryz.func124, Tryz.ntmps124
  go_wp2_with (go_at_call 125; refine (isFrequency_any _ _).mono ?_; rintro e w' ⟨rfl, rfl⟩)
  go_ret
  exact ⟨rfl, rfl⟩
theorem cf_fe1 (args : Array Value) (w : World) : (callFunc 124 args).run Tryz.prog w = .ok (.enter 124 args) w := by kernel_rfl
theorem frequenciesErr_any (l : List Int) (a : Option Addr) (n c : Nat) (w : World) (hl : IntsR w a n l) : Calls Tryz.prog 97 #[.slice a n c] w fun e w' => e = .returned (.int .i64 (freE l)) ∧ Below w.heap.size w w' := by
  have hn := hl.small
  have HI := Lib.hid (containsInts_any _ _ cf_fe1 fe1_any l a n c w hl)
  have hE : freE l = firstErr [unl (decide ((n : Int) ≤ 8)) 8, unl (!l.any (fun x => !wi x 0 6)) 2] := by unfold freE; rw [hl.len]
  rw [hE]
  generalize l.any (fun x => !wi x 0 6) = g at *
  have HU := Lib.hid (fun (b : Bool) (e : Int) w' => d_unless_any b e w')
  clear hl hE
  go_enter Tryz.func97, Tryz.ntmps97
  go_wp2_with fail
  refine (HI.out).mono ?_
  rintro e w' ⟨rfl, rfl⟩
  go_wp2_with fail
  refine (HU.out _ _ _).mono ?_
  rintro e w' ⟨rfl, rfl⟩
  go_wp2_with fail
  refine (HU.out _ _ _).mono ?_
  rintro e w' ⟨rfl, rfl⟩
  go_wp2_with fail
  refine (d_first2 _ _ _ _ _ _ (by rfl) (by simp)).mono ?_
  rintro e w' ⟨rfl, hw8⟩
  have hb8 : Below w.heap.size w w' := by rw [← hw8]; (repeat' (first | (with_reducible exact Below.refl _ _) | (with_reducible assumption) | (with_reducible refine Below.drewN ?_ _) | (with_reducible refine Below.alloc ?_ ?_ _) | (with_reducible refine Below.drew ?_) | (with_reducible refine Below.setCell ?_ ?_ _) | (with_reducible refine Below.step (by assumption) ?_ ?_) | (with_reducible exact And.left (by assumption)) | go_size))
  clear hw8
  go_wp2
  go_ret
  exact ⟨rfl, hb8⟩
/-- The response as a pair. -/
def gPr (l : List T3) (f : Int) : Int × Int := ((respG f (l.map sOf)).re, (respG f (l.map sOf)).im)
theorem infoGauss : (Tryz.prog.info? 107).map (fun i => (i.zero, i.size, i.bytes)) = some (some (.agg #[.int .i64 0, .int .i64 0]), 2, 16) := by kernel_rfl
theorem take_snocI {l : List Int} {k : Nat} (h : k < l.length) (f : Int → Int × Int) : (l.take (k + 1)).map f = (l.take k).map f ++ [f (l.getD k 0)] := by
  rw [List.take_add_one, List.map_append, List.getElem?_eq_getElem h]
  simp [List.getD, h]
set_option maxHeartbeats 1000000 in
set_option maxRecDepth 100000 in
theorem responses_any (l : List T3) (fs : List Int) (a af : Option Addr) (n c m cm : Nat) (w : World) (hl : T3R w a n l) (hfs : IntsR w af m fs) (hn : n ≤ 3) (hs : ∀ p ∈ l, secB p = true) (hf : ∀ f ∈ fs, 0 ≤ f ∧ f ≤ 6) (hm : m ≤ 1000) :
    Calls Tryz.prog 98 #[.agg #[.slice a n c], .slice af m cm] w fun e' w' => ∃ a' c', e' = .returned (.slice a' m c') ∧ m ≤ c' ∧ Below w.heap.size w w' ∧ PairsR w' a' m (fs.map (gPr l)) ∧ w'.ownsRow w.heap.size 107 2 (.slice a' m c') m (pcells (fs.map (gPr l))) := by
  have HL := Lib.hid hl
  have HF := Lib.hid hfs
  have HFB := Lib.hid hf
  have HR := Lib.hid (fun (f : Int) (hf : 0 ≤ f ∧ f ≤ 6) (w' : World) (hb : Below w.heap.size w w') => response_any l f a n c w' (hl.below hb) hn hs hf)
  obtain ⟨L, hLL⟩ : ∃ L, L = fs.map (gPr l) := ⟨_, rfl⟩
  have HLL := Lib.hid (And.intro hLL (show L.length = m by rw [hLL, List.length_map]; exact hfs.len))
  rw [← hLL]
  clear hl hfs hf hs hLL
  go_enter Tryz.func98, Tryz.ntmps98
  go_wp2_with fail
  generalize hW : World.alloc _ _ = w5
  have hb5 : Below w.heap.size w w5 := by rw [← hW]; (repeat' (first | (with_reducible exact Below.refl _ _) | (with_reducible assumption) | (with_reducible refine Below.drewN ?_ _) | (with_reducible refine Below.alloc ?_ ?_ _) | (with_reducible refine Below.drew ?_) | (with_reducible refine Below.setCell ?_ ?_ _) | (with_reducible refine Below.step (by assumption) ?_ ?_) | (with_reducible exact And.left (by assumption)) | go_size))
  have q0 : w5.cell? ⟨w.heap.size, 0, none⟩ = some (.slice a n c) := by { rw [← hW]; clear hW; go_simp }
  have l0 : w.heap.size < w5.heap.size := by { rw [← hW]; clear hW; simp }
  have HB5 := Lib.hid hb5
  have HZ := Lib.hid (show w5.heap.size = w.heap.size + 1 by rw [← hW]; simp)
  clear hW hb5
  go_loopw [5, 10] (fun v i wr => ∃ (k : Nat) (av : Option Addr) (cv : Nat), i = .int .i64 k ∧ v = .slice av k cv ∧ k ≤ m ∧ Hid (wr.ownsRow (w.heap.size + 1) 107 2 (.slice av k cv) k (pcells (L.take k))) ∧ Hid (Below (w.heap.size + 1) w5 wr)) (fun _ i _ => m - (intOf i).toNat)
  case atStart => exact ⟨0, none, 0, rfl, rfl, Nat.zero_le _, Lib.hid (World.ownsRow_nil _ _ _ _), Lib.hid (Below.refl _ _)⟩
  case round =>
    obtain ⟨k, av, cv, rfl, rfl, hk, hO, hB⟩ := hrel
    have i0 : (0 : Int) ≤ (k : Int) := by omega
    by_cases hlt : k < m
    · have HBW := Lib.hid (HB5.out.trans (hB.out.mono (by omega)))
      obtain ⟨b, o, rfl, hb, hc⟩ := (HF.out.below HBW.out).addr (by omega)
      have hck := hc k hlt
      have hfb := HFB.out _ (getD_mem (show k < fs.length by rw [HF.out.len]; exact hlt))
      have hsn := take_snocI (show k < fs.length by rw [HF.out.len]; exact hlt) (gPr l)
      obtain ⟨f, hff⟩ : ∃ f, f = fs.getD k 0 := ⟨_, rfl⟩
      rw [← hff] at hck hfb hsn
      have HRF := Lib.hid (fun w' hb => HR.out f hfb w' hb)
      obtain ⟨⟨g1, g2⟩, hg⟩ : ∃ p, p = gPr l f := ⟨_, rfl⟩
      have hg1 : (respG f (l.map sOf)).re = g1 := congrArg Prod.fst hg.symm
      have hg2 : (respG f (l.map sOf)).im = g2 := congrArg Prod.snd hg.symm
      rw [hg1, hg2] at HRF
      have HT := Lib.hid (show pcells (L.take (k + 1)) = pcells (L.take k) ++ pcells [(g1, g2)] by rw [HLL.out.1, ← List.map_take, ← List.map_take, hsn, pcells_append, hg])
      have q0r : wr.cell? ⟨w.heap.size, 0, none⟩ = some (.slice a n c) := by rw [cellB hB.out _ _ (by omega)]; exact q0
      have i1 : (k : Int) < (m : Int) := by omega
      clear hc hfb hsn hff hg hg1 hg2
      go_wp2_with fail
      refine (HRF.out _ HBW.out).mono ?_
      rintro e6 w6 ⟨rfl, hb6⟩
      have HO6 := Lib.hid ((owns_below hO.out hb6 (fun q hq => (hO.out.lt q hq).2)).alloc (Obj.cells #[.int .i64 g1, .int .i64 g2] 107))
      have hz6 := hb6.size
      have hz5 := hB.out.size
      have HB6 := Lib.hid (show Below (w.heap.size + 1) w5 (w6.alloc (Obj.cells #[.int .i64 g1, .int .i64 g2] 107)) from hB.out.trans ((hb6.mono (by omega)).alloc (by omega) _))
      have HSL := Lib.hid (show SlR (w6.alloc (Obj.cells #[.int .i64 g1, .int .i64 g2] 107)) (some ⟨w6.heap.size, 0, none⟩) 1 2 (pcells [(g1, g2)]) from SlR.lit w6 _ [.int .i64 g1, .int .i64 g2] _ _ 1 2 rfl rfl rfl (by omega))
      have hz7 : w.heap.size + 1 ≤ (w6.alloc (Obj.cells #[.int .i64 g1, .int .i64 g2] 107)).heap.size := by simp; omega
      clear hb6 hO hB HRF
      go_wp2_with (at_builtin; refine wpList_append_sl _ rfl _ _ 86 rfl (w.heap.size + 1) 107 _ 2 16 Tryz.underlying86 infoGauss rfl (by omega) _ _ _ rfl HO6.out _ 1 1 (pcells [(g1, g2)]) rfl HSL.out (by intro u hu; simp [pcells] at hu; rcases hu with rfl | rfl <;> rfl) (by omega) (by omega) hz7 ?_)
      intro v2 w2 hown2 hgr2 hb2
      obtain ⟨av2, cv2, rfl, _, _⟩ := owns_slice hown2
      rw [← HT.out] at hown2
      have HO2 := Lib.hid hown2
      have HB2 := Lib.hid (HB6.out.trans hb2)
      clear hown2 hgr2 hb2 HT HO6 HSL HB6
      go_wp2
      go_roundw
      case rel => exact ⟨k + 1, av2, cv2, by go_num, rfl, by omega, HO2, HB2⟩
      case measure => simp [intOf]; omega
    · obtain rfl : m = k := by omega
      have hO' := hO.out
      rw [List.take_of_length_le (by have := HLL.out.2; omega)] at hO'
      obtain ⟨_, _, he, hcc, _⟩ := owns_slice hO'
      have hcv : m ≤ cv := by simp at he; omega
      have HO := Lib.hid hO'
      clear hO hO' he
      go_wp2
      go_ret
      exact ⟨av, cv, rfl, hcv, HB5.out.trans (hB.out.mono (by omega)), SlR.of_owns HO.out, owns_mono HO.out (by omega)⟩
end Go.Proofs.YtdklmcicogmeaaaGreat
