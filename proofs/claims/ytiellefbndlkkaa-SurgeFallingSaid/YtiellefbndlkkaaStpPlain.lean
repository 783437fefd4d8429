/- The plain part of SurgeImpulses. -/
import Derived.Test.YtiellefbndlkkaaRVal
namespace Go.Proofs.Ytiellefbndlkkaa
open Go.RowKit
set_option linter.unusedVariables false

theorem gc_scale (c a b : Int) (hc : 0 < c) : gc (c * a) (c * b) = c * gc a b := by
  unfold gc
  rw [Int.gcd_mul_left]
  have : (c.natAbs : Int) = c := by omega
  rw [Int.natCast_mul, this]
theorem low_scale (c a b : Int) (hc : 0 < c) (hb : 0 < b) : low (c * a) (c * b) = low a b := by
  unfold low
  rw [gc_scale c a b hc, Int.mul_tdiv_mul_of_pos _ _ hc, Int.mul_ediv_mul_of_pos _ _ hc]
/-- The size of the slope of a piece. -/
def slOf (l : List (Int × Int)) (i : Nat) : Int × Int := low (sz ((gp l (i + 1)).2 - (gp l i).2)) ((gp l (i + 1)).1 - (gp l i).1)
/-- The first steepest of the pieces up to one. -/
def stB (l : List (Int × Int)) : Nat → Nat
  | 0 => 0
  | i + 1 => if (slOf l (stB l i)).1 * (slOf l (i + 1)).2 < (slOf l (i + 1)).1 * (slOf l (stB l i)).2 then i + 1 else stB l i
theorem stB_le (l : List (Int × Int)) : ∀ i, stB l i ≤ i
  | 0 => Nat.le_refl _
  | i + 1 => by
    unfold stB
    have := stB_le l i
    split <;> omega
theorem low_bd {a b M : Int} (ha0 : -M ≤ a) (ha1 : a ≤ M) (hM : 0 ≤ M) (hb0 : 0 < b) (hb1 : b ≤ 1000000) : -M ≤ (low a b).1 ∧ (low a b).1 ≤ M ∧ 0 ≤ (low a b).2 ∧ (low a b).2 ≤ 1000000 := by
  have hg0 := gc_pos (a := a) hb0
  have hq := tdiv_bd a (gc a b) M ha0 ha1
  refine ⟨hq.1, hq.2, Int.ediv_nonneg (by omega) (by omega), ?_⟩
  have := Int.ediv_le_self (gc a b) (show 0 ≤ b by omega)
  show b / gc a b ≤ _
  omega
theorem sl_raw {l : List (Int × Int)} (h : (impErr l).2 = 0) {i : Nat} (hi : i + 1 < l.length) : -2000000 ≤ (gp l (i + 1)).2 - (gp l i).2 ∧ (gp l (i + 1)).2 - (gp l i).2 ≤ 2000000 ∧ 0 < (gp l (i + 1)).1 - (gp l i).1 ∧ (gp l (i + 1)).1 - (gp l i).1 ≤ 1000000 := by
  have h1 := imp_bd h (i + 1) hi
  have h2 := imp_bd h i (by omega)
  have h3 := imp_lt h i hi
  omega
theorem sz_bd {x M : Int} (h0 : -M ≤ x) (h1 : x ≤ M) : 0 ≤ sz x ∧ sz x ≤ M := by
  unfold sz; omega
theorem sl_bd {l : List (Int × Int)} (h : (impErr l).2 = 0) {i : Nat} (hi : i + 1 < l.length) : -2000000 ≤ (slOf l i).1 ∧ (slOf l i).1 ≤ 2000000 ∧ 0 ≤ (slOf l i).2 ∧ (slOf l i).2 ≤ 1000000 := by
  have hr := sl_raw h hi
  have hs := sz_bd hr.1 hr.2.1
  exact low_bd (by omega) (by omega) (by omega) hr.2.2.1 hr.2.2.2
theorem sl_mul {l : List (Int × Int)} (h : (impErr l).2 = 0) {i j : Nat} (hi : i + 1 < l.length) (hj : j + 1 < l.length) : -2000000000000 ≤ (slOf l i).1 * (slOf l j).2 ∧ (slOf l i).1 * (slOf l j).2 ≤ 2000000000000 := by
  have h1 := sl_bd h hi
  have h2 := sl_bd h hj
  have := mulb (a := (slOf l i).1) (b := (slOf l j).2) 2000000 1000000 2000000000000 (by omega) (by omega) (by omega) (by omega) (by omega)
  omega
end Go.Proofs.Ytiellefbndlkkaa
