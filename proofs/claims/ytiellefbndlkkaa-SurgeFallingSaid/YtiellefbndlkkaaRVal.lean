/- The reference's value of an impulse. -/
import Derived.Test.YtiellefbndlkkaaImpLib
namespace Go.Proofs.Ytiellefbndlkkaa
open Go.RowKit
set_option linter.unusedVariables false

/-- What the reference says of a value: a numerator and a denominator. -/
def RV (l : List (Int × Int)) (t num den : Int) : Prop :=
  (t < (gp l 0).1 ∧ num = 0 ∧ den = 1) ∨
  ((gp l 0).1 ≤ t ∧ (gp l (l.length - 1)).1 ≤ t ∧ num = (gp l (l.length - 1)).2 ∧ den = 1) ∨
  (∃ i, i + 1 < l.length ∧ (gp l i).1 ≤ t ∧ t < (gp l (i + 1)).1 ∧ den = (gp l (i + 1)).1 - (gp l i).1 ∧ num = (gp l i).2 * den + ((gp l (i + 1)).2 - (gp l i).2) * (t - (gp l i).1))
theorem imp_mono {l : List (Int × Int)} (h : (impErr l).2 = 0) : ∀ (d j : Nat), j + d < l.length → (gp l j).1 + d ≤ (gp l (j + d)).1
  | 0, j, _ => by simp
  | d + 1, j, hd => by
    have h1 := imp_mono h d j (by omega)
    have h2 := imp_lt h (j + d) (by omega)
    rw [show j + (d + 1) = j + d + 1 by omega]
    omega
theorem imp_le {l : List (Int × Int)} (h : (impErr l).2 = 0) (i j : Nat) (hij : i ≤ j) (hj : j < l.length) : (gp l i).1 ≤ (gp l j).1 := by
  have := imp_mono h (j - i) i (by omega)
  rw [show i + (j - i) = j by omega] at this
  omega
theorem imp_slt {l : List (Int × Int)} (h : (impErr l).2 = 0) (i j : Nat) (hij : i < j) (hj : j < l.length) : (gp l i).1 < (gp l j).1 := by
  have := imp_mono h (j - i) i (by omega)
  rw [show i + (j - i) = j by omega] at this
  omega
/-- The index that the program finds. -/
theorem idx_spec (t : Int) : ∀ (l : List (Int × Int)) (k : Nat), (idxFrom (fun p => decide (t ≤ p.1)) l k = -1 ∧ ∀ p ∈ l, p.1 < t) ∨ ∃ m : Nat, idxFrom (fun p => decide (t ≤ p.1)) l k = ((k + m : Nat) : Int) ∧ m < l.length ∧ t ≤ (gp l m).1 ∧ ∀ i, i < m → (gp l i).1 < t
  | [], k => .inl ⟨rfl, by simp⟩
  | x :: r, k => by
    by_cases hx : t ≤ x.1
    · refine .inr ⟨0, by simp [idxFrom, hx], by simp, by simpa [gp] using hx, fun i hi => by omega⟩
    · rcases idx_spec t r (k + 1) with ⟨h1, h2⟩ | ⟨m, h1, h2, h3, h4⟩
      · refine .inl ⟨by simp [idxFrom, hx, h1], ?_⟩
        intro p hp
        rcases List.mem_cons.1 hp with rfl | hp
        · omega
        · exact h2 p hp
      · refine .inr ⟨m + 1, by simp only [idxFrom]; rw [if_neg (by simpa using hx), h1]; congr 1; omega, by simp; omega, by simpa [gp] using h3, ?_⟩
        intro i hi
        rcases i with _ | i
        · simp only [gp, List.getD_cons_zero]; omega
        · have := h4 i (by omega)
          simpa [gp] using this
theorem rv_val {l : List (Int × Int)} {t num den : Int} (h : (impErr l).2 = 0) (hr : RV l t num den) : ∃ c, 0 < c ∧ num = c * (valOf l t).1 ∧ den = c * (valOf l t).2 := by
  have hz := impErr_zero h
  unfold valOf idxT
  rcases idx_spec t l 0 with ⟨h1, h2⟩ | ⟨m, h1, h2, h3, h4⟩
  · have hlast := h2 _ (gp_mem (l := l) (k := l.length - 1) (by omega))
    rw [if_pos h1]
    refine ⟨1, by omega, ?_⟩
    rcases hr with ⟨a, _⟩ | ⟨_, _, rfl, rfl⟩ | ⟨i, a, b, c, _⟩
    · have := imp_le h 0 (l.length - 1) (by omega) (by omega); omega
    · simp
    · have := imp_le h (i + 1) (l.length - 1) (by omega) (by omega); omega
  · rw [Nat.zero_add] at h1
    rw [if_neg (by rw [h1]; omega), h1, Int.toNat_natCast]
    by_cases hm : (gp l m).1 = t
    · have hv : valAt l t m = ((gp l m).2, 1) := by
        rcases m with _ | j
        · rw [valAt, if_pos hm]
        · rw [valAt, if_pos hm]
      rw [hv]
      rcases hr with ⟨a, _⟩ | ⟨_, b, rfl, rfl⟩ | ⟨i, a, b, c, rfl, rfl⟩
      · have := imp_le h 0 m (by omega) h2; omega
      · have hml : m = l.length - 1 := by
          rcases Nat.lt_or_ge m (l.length - 1) with hlt | hge
          · have := imp_slt h m (l.length - 1) hlt (by omega); omega
          · omega
        subst hml
        exact ⟨1, by omega, by simp, by simp⟩
      · have hmi : m = i := by
          rcases Nat.lt_trichotomy m i with hlt | heq | hgt
          · have := imp_slt h m i hlt (by omega); omega
          · exact heq
          · have := imp_le h (i + 1) m (by omega) h2; omega
        subst hmi
        have := imp_lt h m (by omega)
        refine ⟨(gp l (m + 1)).1 - (gp l m).1, by omega, ?_, by simp⟩
        rw [hm, Int.sub_self, Int.mul_zero, Int.add_zero, Int.mul_comm]
    · rcases m with _ | j
      · rw [valAt, if_neg hm]
        rcases hr with ⟨_, rfl, rfl⟩ | ⟨a, _⟩ | ⟨i, a, b, _⟩
        · exact ⟨1, by omega, by simp, by simp⟩
        · omega
        · have := imp_le h 0 i (by omega) (by omega); omega
      · rw [valAt, if_neg hm]
        have h5 := h4 j (by omega)
        rcases hr with ⟨a, _⟩ | ⟨_, b, _⟩ | ⟨i, a, b, c, rfl, rfl⟩
        · have := imp_le h 0 j (by omega) (by omega); omega
        · have := imp_le h (j + 1) (l.length - 1) (by omega) (by omega); omega
        · have hij : i = j := by
            rcases Nat.lt_trichotomy i j with hlt | heq | hgt
            · have := imp_le h (i + 1) j (by omega) (by omega); omega
            · exact heq
            · have := imp_le h (j + 1) i (by omega) (by omega); omega
          subst hij
          refine ⟨1, by omega, ?_, by simp⟩
          simp only [Int.one_mul]
          generalize (gp l i).2 = q
          generalize (gp l (i + 1)).2 = y
          generalize (gp l i).1 = p
          generalize (gp l (i + 1)).1 = x
          rw [Int.sub_mul y q, show x - p = (x - t) + (t - p) by omega, Int.mul_add]
          omega
theorem rv_floor {l : List (Int × Int)} {t num den : Int} (h : (impErr l).2 = 0) (hr : RV l t num den) : num / den = (valOf l t).1 / (valOf l t).2 := by
  obtain ⟨c, hc, rfl, rfl⟩ := rv_val h hr
  exact Int.mul_ediv_mul_of_pos _ _ hc
end Go.Proofs.Ytiellefbndlkkaa
