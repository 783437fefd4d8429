import Derived.Test.YtbjgklifmillgaaFallLib
import Derived.Test.YtbjgklifmillgaaMImp
/- The acceptance of voltages. -/
namespace Go.Proofs.Ytbjgklifmillgaa
open Go.RowKit
set_option linter.unusedVariables false

/-- A small fraction in lowest terms. -/
def FrOk (p : Int × Int) : Prop := 0 < p.2 ∧ gc p.1 p.2 = 1 ∧ -1000000000 ≤ p.1 ∧ p.1 ≤ 1000000000 ∧ p.2 ≤ 1000000000
end Go.Proofs.Ytbjgklifmillgaa

/- The plain part of SurgeFalling. -/
namespace Go.Proofs.Ytbjgklifmillgaa
open Go.RowKit
set_option linter.unusedVariables false

/-! ### Modulo four numbers -/
theorem nab_le {S : Int} (hb : -1000000000000000000000000000000 ≤ S ∧ S ≤ 1000000000000000000000000000000) : S.natAbs ≤ 1000000000000000000000000000000 := by omega
theorem zero_of_mods {S : Int} (h0 : S % 4294967291 = 0) (h1 : S % 4294967279 = 0) (h2 : S % 4294967231 = 0) (h3 : S % 4294967197 = 0) (hb : -1000000000000000000000000000000 ≤ S ∧ S ≤ 1000000000000000000000000000000) : S = 0 := by
  have d0 : (4294967291 : Nat) ∣ S.natAbs := Int.natAbs_dvd_natAbs.2 (Int.dvd_of_emod_eq_zero h0 : (4294967291 : Int) ∣ S)
  have d1 : (4294967279 : Nat) ∣ S.natAbs := Int.natAbs_dvd_natAbs.2 (Int.dvd_of_emod_eq_zero h1 : (4294967279 : Int) ∣ S)
  have d2 : (4294967231 : Nat) ∣ S.natAbs := Int.natAbs_dvd_natAbs.2 (Int.dvd_of_emod_eq_zero h2 : (4294967231 : Int) ∣ S)
  have d3 : (4294967197 : Nat) ∣ S.natAbs := Int.natAbs_dvd_natAbs.2 (Int.dvd_of_emod_eq_zero h3 : (4294967197 : Int) ∣ S)
  have e1 := Nat.Coprime.mul_dvd_of_dvd_of_dvd (show Nat.Coprime 4294967291 4294967279 by decide +kernel) d0 d1
  have e2 := Nat.Coprime.mul_dvd_of_dvd_of_dvd (show Nat.Coprime (4294967291 * 4294967279) 4294967231 by decide +kernel) e1 d2
  have e3 := Nat.Coprime.mul_dvd_of_dvd_of_dvd (show Nat.Coprime (4294967291 * 4294967279 * 4294967231) 4294967197 by decide +kernel) e2 d3
  have hlt : S.natAbs < 4294967291 * 4294967279 * 4294967231 * 4294967197 := by
    exact Nat.lt_of_le_of_lt (nab_le hb) (by decide +kernel)
  exact Int.natAbs_eq_zero.1 (Nat.eq_zero_of_dvd_of_lt e3 hlt)
theorem zUpto_zero {l : List (Int × Int × Int)} (h : tS l l.length = 0) : ∀ k, zUpto l k = true
  | 0 => rfl
  | k + 1 => by rw [zUpto, zUpto_zero h k, h]; simp
theorem zUpto_true {l : List (Int × Int × Int)} (h : zUpto l 4 = true) (hb : -1000000000000000000000000000000 ≤ tS l l.length ∧ tS l l.length ≤ 1000000000000000000000000000000) : tS l l.length = 0 := by
  simp only [zUpto, Bool.and_eq_true, decide_eq_true_eq, pm, List.getD_cons_zero, List.getD_cons_succ] at h
  obtain ⟨⟨⟨⟨_, h0⟩, h1⟩, h2⟩, h3⟩ := h
  exact zero_of_mods h0 h1 h2 h3 hb
/-! ### Fractions in lowest terms -/
theorem low_cross (a b : Int) (hb : 0 < b) : (low a b).1 * b = a * (low a b).2 := by
  have hg := gc_pos (a := a) hb
  have d1 : gc a b ∣ a := by unfold gc; exact Int.gcd_dvd_left ..
  have d2 : gc a b ∣ b := by unfold gc; exact Int.gcd_dvd_right ..
  obtain ⟨x, hx⟩ := d1
  obtain ⟨y, hy⟩ := d2
  show a.tdiv (gc a b) * b = a * (b / gc a b)
  generalize gc a b = G at *
  subst hx hy
  rw [Int.mul_tdiv_cancel_left _ (by omega), Int.mul_ediv_cancel_left _ (by omega)]
  grind
theorem low_gc (a b : Int) (hb : 0 < b) : gc (low a b).1 (low a b).2 = 1 := by
  have hg := gc_pos (a := a) hb
  have d1 : gc a b ∣ a := by unfold gc; exact Int.gcd_dvd_left ..
  have d2 : gc a b ∣ b := by unfold gc; exact Int.gcd_dvd_right ..
  obtain ⟨x, hx⟩ := d1
  obtain ⟨y, hy⟩ := d2
  have h1 : (low a b).1 = x := by
    show a.tdiv (gc a b) = x
    generalize gc a b = G at *
    rw [hx, Int.mul_tdiv_cancel_left _ (by omega)]
  have h2 : (low a b).2 = y := by
    show b / gc a b = y
    generalize gc a b = G at *
    rw [hy, Int.mul_ediv_cancel_left _ (by omega)]
  rw [h1, h2]
  have h3 := gc_scale (gc a b) x y (by omega)
  rw [← hx, ← hy] at h3
  have : gc a b * gc x y = gc a b * 1 := by omega
  exact Int.eq_of_mul_eq_mul_left (by omega) this
theorem low_den' {a b : Int} (h : 0 < b) : 1 ≤ (low a b).2 := by
  have h1 := gc_pos (a := a) h
  have h2 := gc_le (a := a) h
  show 1 ≤ b / gc a b
  exact (Int.le_ediv_iff_mul_le (by omega)).2 (by omega)
theorem low_nn {a b : Int} (ha : 0 ≤ a) (hb : 0 < b) : 0 ≤ (low a b).1 := by
  have h1 := gc_pos (a := a) hb
  exact Int.tdiv_nonneg ha (by omega)
theorem dvd_of_gc {q p r : Int} (h : q ∣ p * r) (hg : gc p q = 1) : q ∣ r := by
  have h1 : Int.gcd q p = 1 := by
    unfold gc at hg
    rw [Int.gcd_comm]
    omega
  have h' : q.natAbs ∣ p.natAbs * r.natAbs := by rw [← Int.natAbs_mul]; exact Int.natAbs_dvd_natAbs.2 h
  exact Int.natAbs_dvd_natAbs.1 (Nat.Coprime.dvd_of_dvd_mul_left (show Nat.Coprime q.natAbs p.natAbs from h1) h')
theorem frac_eq {p q p' q' : Int} (hq : 0 < q) (hq' : 0 < q') (h1 : gc p q = 1) (h2 : gc p' q' = 1) (h : p' * q = p * q') : p' = p ∧ q' = q := by
  have a1 : q ∣ q' := dvd_of_gc ⟨p', by rw [← h, Int.mul_comm]⟩ h1
  have a2 : q' ∣ q := dvd_of_gc ⟨p, by rw [h, Int.mul_comm]⟩ h2
  have b1 := Int.le_of_dvd hq' a1
  have b2 := Int.le_of_dvd hq a2
  have hqq : q' = q := by omega
  subst hqq
  exact ⟨Int.eq_of_mul_eq_mul_right (by omega) h, rfl⟩
theorem low_self {D : Int} (h : 0 < D) : low D D = (1, 1) := by
  have := low_scale D 1 1 h (by omega)
  rw [Int.mul_one] at this
  rw [this]
  decide
theorem low_nil {D : Int} (h : 0 < D) : low 0 D = (0, 1) := by
  have := low_scale D 0 1 h (by omega)
  rw [Int.mul_one, Int.mul_zero] at this
  rw [this]
  decide
/-! ### The sum of two or three terms -/
theorem tS2 (a b : Int × Int × Int) : tS [a, b] 2 = a.1 * a.2.1 * b.2.2 + b.1 * b.2.1 * a.2.2 := by
  simp [tS, tT, gt]
theorem tS3 (a b c : Int × Int × Int) : tS [a, b, c] 3 = a.1 * a.2.1 * b.2.2 * c.2.2 + b.1 * b.2.1 * a.2.2 * c.2.2 + c.1 * c.2.1 * a.2.2 * b.2.2 := by
  simp [tS, tT, gt]
theorem zero2 {D o x p q p1 q1 v v1 : Int} (hD : 0 < D) (h : p * D = v * q) (h1 : p1 * D = v1 * q1) (he : o * v + x * v1 = 0) : o * p * q1 + x * p1 * q = 0 := by
  have : D * (o * p * q1 + x * p1 * q) = 0 := by
    have e1 : D * (o * p * q1 + x * p1 * q) = (o * v + x * v1) * (q * q1) := by
      have : D * (o * p * q1 + x * p1 * q) = o * (p * D) * q1 + x * (p1 * D) * q := by grind
      rw [this, h, h1]; grind
    rw [e1, he, Int.zero_mul]
  rcases Int.mul_eq_zero.1 this with h | h
  · omega
  · exact h
theorem zero3 {D o x y p q p1 q1 p2 q2 v v1 v2 : Int} (hD : 0 < D) (h : p * D = v * q) (h1 : p1 * D = v1 * q1) (h2 : p2 * D = v2 * q2) (he : o * v + x * v1 + y * v2 = 0) : o * p * q1 * q2 + x * p1 * q * q2 + y * p2 * q * q1 = 0 := by
  have : D * (o * p * q1 * q2 + x * p1 * q * q2 + y * p2 * q * q1) = 0 := by
    have e1 : D * (o * p * q1 * q2 + x * p1 * q * q2 + y * p2 * q * q1) = (o * v + x * v1 + y * v2) * (q * q1 * q2) := by
      have : D * (o * p * q1 * q2 + x * p1 * q * q2 + y * p2 * q * q1) = o * (p * D) * q1 * q2 + x * (p1 * D) * q * q2 + y * (p2 * D) * q * q1 := by grind
      rw [this, h, h1, h2]; grind
    rw [e1, he, Int.zero_mul]
  rcases Int.mul_eq_zero.1 this with h | h
  · omega
  · exact h
theorem other2 {o x p q p1 q1 p' q' : Int} (ho : 0 < o) (hq1 : 0 < q1) (h : o * p * q1 + x * p1 * q = 0) (h' : o * p' * q1 + x * p1 * q' = 0) : p' * q = p * q' := by
  have : o * q1 * (p' * q - p * q') = 0 := by
    have : o * q1 * (p' * q - p * q') = (o * p' * q1 + x * p1 * q') * q - (o * p * q1 + x * p1 * q) * q' := by grind
    rw [this, h, h']; simp
  rcases Int.mul_eq_zero.1 this with h | h
  · have := Int.mul_pos ho hq1; omega
  · omega
theorem other3 {o x y p q p1 q1 p2 q2 p' q' : Int} (ho : 0 < o) (hq1 : 0 < q1) (hq2 : 0 < q2) (h : o * p * q1 * q2 + x * p1 * q * q2 + y * p2 * q * q1 = 0) (h' : o * p' * q1 * q2 + x * p1 * q' * q2 + y * p2 * q' * q1 = 0) : p' * q = p * q' := by
  have : o * q1 * q2 * (p' * q - p * q') = 0 := by
    have : o * q1 * q2 * (p' * q - p * q') = (o * p' * q1 * q2 + x * p1 * q' * q2 + y * p2 * q' * q1) * q - (o * p * q1 * q2 + x * p1 * q * q2 + y * p2 * q * q1) * q' := by grind
    rw [this, h, h']; simp
  rcases Int.mul_eq_zero.1 this with h | h
  · have := Int.mul_pos (Int.mul_pos ho hq1) hq2; omega
  · omega
theorem bd4 {o p q r : Int} (h0 : -300 ≤ o ∧ o ≤ 300) (h1 : -1000000000 ≤ p ∧ p ≤ 1000000000) (h2 : -1000000000 ≤ q ∧ q ≤ 1000000000) (h3 : -1000000000 ≤ r ∧ r ≤ 1000000000) : -300000000000000000000000000000 ≤ o * p * q * r ∧ o * p * q * r ≤ 300000000000000000000000000000 := by
  have a := mulb (a := o) (b := p) 300 1000000000 300000000000 (by omega) (by omega) (by omega) (by omega) (by omega)
  have b := mulb (a := o * p) (b := q) 300000000000 1000000000 300000000000000000000 (by omega) (by omega) (by omega) (by omega) (by omega)
  exact mulb (a := o * p * q) (b := r) 300000000000000000000 1000000000 300000000000000000000000000000 (by omega) (by omega) (by omega) (by omega) (by omega)
end Go.Proofs.Ytbjgklifmillgaa
