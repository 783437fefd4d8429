import Derived.Test.YtbjgklifmillgaaMFl
import Derived.Test.YtbjgklifmillgaaMImp
import Derived.Test.YtbjgklifmillgaaMNs
import Derived.Test.YtbjgklifmillgaaMPf
import Derived.Test.YtbjgklifmillgaaMRp
/- The acceptance of voltages. -/
namespace Go.Proofs.Ytbjgklifmillgaa
open Go.RowKit
set_option linter.unusedVariables false

/-- A small fraction in lowest terms. -/
def FrOk (p : Int × Int) : Prop := 0 < p.2 ∧ gc p.1 p.2 = 1 ∧ -1000000000 ≤ p.1 ∧ p.1 ≤ 1000000000 ∧ p.2 ≤ 1000000000
end Go.Proofs.Ytbjgklifmillgaa

/- The plain part of SurgeFalling. -/
namespace Go.Proofs.Ytbjgklifmillgaa
open Go.RowKit
set_option linter.unusedVariables false

/-! ### Modulo four numbers -/
theorem nab_le {S : Int} (hb : -1000000000000000000000000000000 ≤ S ∧ S ≤ 1000000000000000000000000000000) : S.natAbs ≤ 1000000000000000000000000000000 := by omega
theorem zero_of_mods {S : Int} (h0 : S % 4294967291 = 0) (h1 : S % 4294967279 = 0) (h2 : S % 4294967231 = 0) (h3 : S % 4294967197 = 0) (hb : -1000000000000000000000000000000 ≤ S ∧ S ≤ 1000000000000000000000000000000) : S = 0 := by
  have d0 : (4294967291 : Nat) ∣ S.natAbs := Int.natAbs_dvd_natAbs.2 (Int.dvd_of_emod_eq_zero h0 : (4294967291 : Int) ∣ S)
  have d1 : (4294967279 : Nat) ∣ S.natAbs := Int.natAbs_dvd_natAbs.2 (Int.dvd_of_emod_eq_zero h1 : (4294967279 : Int) ∣ S)
  have d2 : (4294967231 : Nat) ∣ S.natAbs := Int.natAbs_dvd_natAbs.2 (Int.dvd_of_emod_eq_zero h2 : (4294967231 : Int) ∣ S)
  have d3 : (4294967197 : Nat) ∣ S.natAbs := Int.natAbs_dvd_natAbs.2 (Int.dvd_of_emod_eq_zero h3 : (4294967197 : Int) ∣ S)
  have e1 := Nat.Coprime.mul_dvd_of_dvd_of_dvd (show Nat.Coprime 4294967291 4294967279 by decide +kernel) d0 d1
  have e2 := Nat.Coprime.mul_dvd_of_dvd_of_dvd (show Nat.Coprime (4294967291 * 4294967279) 4294967231 by decide +kernel) e1 d2
  have e3 := Nat.Coprime.mul_dvd_of_dvd_of_dvd (show Nat.Coprime (4294967291 * 4294967279 * 4294967231) 4294967197 by decide +kernel) e2 d3
  have hlt : S.natAbs < 4294967291 * 4294967279 * 4294967231 * 4294967197 := by
    exact Nat.lt_of_le_of_lt (nab_le hb) (by decide +kernel)
  exact Int.natAbs_eq_zero.1 (Nat.eq_zero_of_dvd_of_lt e3 hlt)
theorem zUpto_zero {l : List (Int × Int × Int)} (h : tS l l.length = 0) : ∀ k, zUpto l k = true
  | 0 => rfl
  | k + 1 => by rw [zUpto, zUpto_zero h k, h]; simp
theorem zUpto_true {l : List (Int × Int × Int)} (h : zUpto l 4 = true) (hb : -1000000000000000000000000000000 ≤ tS l l.length ∧ tS l l.length ≤ 1000000000000000000000000000000) : tS l l.length = 0 := by
  simp only [zUpto, Bool.and_eq_true, decide_eq_true_eq, pm, List.getD_cons_zero, List.getD_cons_succ] at h
  obtain ⟨⟨⟨⟨_, h0⟩, h1⟩, h2⟩, h3⟩ := h
  exact zero_of_mods h0 h1 h2 h3 hb
/-! ### Fractions in lowest terms -/
theorem low_cross (a b : Int) (hb : 0 < b) : (low a b).1 * b = a * (low a b).2 := by
  have hg := gc_pos (a := a) hb
  have d1 : gc a b ∣ a := by unfold gc; exact Int.gcd_dvd_left ..
  have d2 : gc a b ∣ b := by unfold gc; exact Int.gcd_dvd_right ..
  obtain ⟨x, hx⟩ := d1
  obtain ⟨y, hy⟩ := d2
  show a.tdiv (gc a b) * b = a * (b / gc a b)
  generalize gc a b = G at *
  subst hx hy
  rw [Int.mul_tdiv_cancel_left _ (by omega), Int.mul_ediv_cancel_left _ (by omega)]
  grind
theorem low_gc (a b : Int) (hb : 0 < b) : gc (low a b).1 (low a b).2 = 1 := by
  have hg := gc_pos (a := a) hb
  have d1 : gc a b ∣ a := by unfold gc; exact Int.gcd_dvd_left ..
  have d2 : gc a b ∣ b := by unfold gc; exact Int.gcd_dvd_right ..
  obtain ⟨x, hx⟩ := d1
  obtain ⟨y, hy⟩ := d2
  have h1 : (low a b).1 = x := by
    show a.tdiv (gc a b) = x
    generalize gc a b = G at *
    rw [hx, Int.mul_tdiv_cancel_left _ (by omega)]
  have h2 : (low a b).2 = y := by
    show b / gc a b = y
    generalize gc a b = G at *
    rw [hy, Int.mul_ediv_cancel_left _ (by omega)]
  rw [h1, h2]
  have h3 := gc_scale (gc a b) x y (by omega)
  rw [← hx, ← hy] at h3
  have : gc a b * gc x y = gc a b * 1 := by omega
  exact Int.eq_of_mul_eq_mul_left (by omega) this
theorem low_den' {a b : Int} (h : 0 < b) : 1 ≤ (low a b).2 := by
  have h1 := gc_pos (a := a) h
  have h2 := gc_le (a := a) h
  show 1 ≤ b / gc a b
  exact (Int.le_ediv_iff_mul_le (by omega)).2 (by omega)
theorem low_nn {a b : Int} (ha : 0 ≤ a) (hb : 0 < b) : 0 ≤ (low a b).1 := by
  have h1 := gc_pos (a := a) hb
  exact Int.tdiv_nonneg ha (by omega)
theorem dvd_of_gc {q p r : Int} (h : q ∣ p * r) (hg : gc p q = 1) : q ∣ r := by
  have h1 : Int.gcd q p = 1 := by
    unfold gc at hg
    rw [Int.gcd_comm]
    omega
  have h' : q.natAbs ∣ p.natAbs * r.natAbs := by rw [← Int.natAbs_mul]; exact Int.natAbs_dvd_natAbs.2 h
  exact Int.natAbs_dvd_natAbs.1 (Nat.Coprime.dvd_of_dvd_mul_left (show Nat.Coprime q.natAbs p.natAbs from h1) h')
theorem frac_eq {p q p' q' : Int} (hq : 0 < q) (hq' : 0 < q') (h1 : gc p q = 1) (h2 : gc p' q' = 1) (h : p' * q = p * q') : p' = p ∧ q' = q := by
  have a1 : q ∣ q' := dvd_of_gc ⟨p', by rw [← h, Int.mul_comm]⟩ h1
  have a2 : q' ∣ q := dvd_of_gc ⟨p, by rw [h, Int.mul_comm]⟩ h2
  have b1 := Int.le_of_dvd hq' a1
  have b2 := Int.le_of_dvd hq a2
  have hqq : q' = q := by omega
  subst hqq
  exact ⟨Int.eq_of_mul_eq_mul_right (by omega) h, rfl⟩
theorem low_self {D : Int} (h : 0 < D) : low D D = (1, 1) := by
  have := low_scale D 1 1 h (by omega)
  rw [Int.mul_one] at this
  rw [this]
  decide
theorem low_nil {D : Int} (h : 0 < D) : low 0 D = (0, 1) := by
  have := low_scale D 0 1 h (by omega)
  rw [Int.mul_one, Int.mul_zero] at this
  rw [this]
  decide
/-! ### The sum of two or three terms -/
theorem tS2 (a b : Int × Int × Int) : tS [a, b] 2 = a.1 * a.2.1 * b.2.2 + b.1 * b.2.1 * a.2.2 := by
  simp [tS, tT, gt]
theorem tS3 (a b c : Int × Int × Int) : tS [a, b, c] 3 = a.1 * a.2.1 * b.2.2 * c.2.2 + b.1 * b.2.1 * a.2.2 * c.2.2 + c.1 * c.2.1 * a.2.2 * b.2.2 := by
  simp [tS, tT, gt]
theorem zero2 {D o x p q p1 q1 v v1 : Int} (hD : 0 < D) (h : p * D = v * q) (h1 : p1 * D = v1 * q1) (he : o * v + x * v1 = 0) : o * p * q1 + x * p1 * q = 0 := by
  have : D * (o * p * q1 + x * p1 * q) = 0 := by
    have e1 : D * (o * p * q1 + x * p1 * q) = (o * v + x * v1) * (q * q1) := by
      have : D * (o * p * q1 + x * p1 * q) = o * (p * D) * q1 + x * (p1 * D) * q := by grind
      rw [this, h, h1]; grind
    rw [e1, he, Int.zero_mul]
  rcases Int.mul_eq_zero.1 this with h | h
  · omega
  · exact h
theorem zero3 {D o x y p q p1 q1 p2 q2 v v1 v2 : Int} (hD : 0 < D) (h : p * D = v * q) (h1 : p1 * D = v1 * q1) (h2 : p2 * D = v2 * q2) (he : o * v + x * v1 + y * v2 = 0) : o * p * q1 * q2 + x * p1 * q * q2 + y * p2 * q * q1 = 0 := by
  have : D * (o * p * q1 * q2 + x * p1 * q * q2 + y * p2 * q * q1) = 0 := by
    have e1 : D * (o * p * q1 * q2 + x * p1 * q * q2 + y * p2 * q * q1) = (o * v + x * v1 + y * v2) * (q * q1 * q2) := by
      have : D * (o * p * q1 * q2 + x * p1 * q * q2 + y * p2 * q * q1) = o * (p * D) * q1 * q2 + x * (p1 * D) * q * q2 + y * (p2 * D) * q * q1 := by grind
      rw [this, h, h1, h2]; grind
    rw [e1, he, Int.zero_mul]
  rcases Int.mul_eq_zero.1 this with h | h
  · omega
  · exact h
theorem other2 {o x p q p1 q1 p' q' : Int} (ho : 0 < o) (hq1 : 0 < q1) (h : o * p * q1 + x * p1 * q = 0) (h' : o * p' * q1 + x * p1 * q' = 0) : p' * q = p * q' := by
  have : o * q1 * (p' * q - p * q') = 0 := by
    have : o * q1 * (p' * q - p * q') = (o * p' * q1 + x * p1 * q') * q - (o * p * q1 + x * p1 * q) * q' := by grind
    rw [this, h, h']; simp
  rcases Int.mul_eq_zero.1 this with h | h
  · have := Int.mul_pos ho hq1; omega
  · omega
theorem other3 {o x y p q p1 q1 p2 q2 p' q' : Int} (ho : 0 < o) (hq1 : 0 < q1) (hq2 : 0 < q2) (h : o * p * q1 * q2 + x * p1 * q * q2 + y * p2 * q * q1 = 0) (h' : o * p' * q1 * q2 + x * p1 * q' * q2 + y * p2 * q' * q1 = 0) : p' * q = p * q' := by
  have : o * q1 * q2 * (p' * q - p * q') = 0 := by
    have : o * q1 * q2 * (p' * q - p * q') = (o * p' * q1 * q2 + x * p1 * q' * q2 + y * p2 * q' * q1) * q - (o * p * q1 * q2 + x * p1 * q * q2 + y * p2 * q * q1) * q' := by grind
    rw [this, h, h']; simp
  rcases Int.mul_eq_zero.1 this with h | h
  · have := Int.mul_pos (Int.mul_pos ho hq1) hq2; omega
  · omega
theorem bd4 {o p q r : Int} (h0 : -300 ≤ o ∧ o ≤ 300) (h1 : -1000000000 ≤ p ∧ p ≤ 1000000000) (h2 : -1000000000 ≤ q ∧ q ≤ 1000000000) (h3 : -1000000000 ≤ r ∧ r ≤ 1000000000) : -300000000000000000000000000000 ≤ o * p * q * r ∧ o * p * q * r ≤ 300000000000000000000000000000 := by
  have a := mulb (a := o) (b := p) 300 1000000000 300000000000 (by omega) (by omega) (by omega) (by omega) (by omega)
  have b := mulb (a := o * p) (b := q) 300000000000 1000000000 300000000000000000000 (by omega) (by omega) (by omega) (by omega) (by omega)
  exact mulb (a := o * p * q) (b := r) 300000000000000000000 1000000000 300000000000000000000000000000 (by omega) (by omega) (by omega) (by omega) (by omega)
end Go.Proofs.Ytbjgklifmillgaa

/- The initial distribution: its equations. -/
namespace Go.Proofs.Ytbjgklifmillgaa
open Go.RowKit
set_option linter.unusedVariables false

/-- A numerator of the initial distribution. -/
def nu (s e : List Int) (L j : Nat) : Int := if j ≤ L then pr s j * dd s e L (L - j) else 0
theorem nums_nu (s e : List Int) (n L k : Nat) (h : k ≤ n) : (numsOf s e n L).getD k 0 = nu s e L k := by
  simp [numsOf, nu, List.getD, show k < n + 1 by omega]
theorem init_len (s e : List Int) (n L : Nat) : (initOf s e n L).length = n + 1 := by simp [initOf, numsOf]
theorem init_gp {s e : List Int} {n L j : Nat} (hj : j < n + 1) : gp (initOf s e n L) j = low (nu s e L j) (dd s e L L) := by
  simp [gp, initOf, numsOf, List.getD, hj, nu]
structure Lad (s e : List Int) (g : Bool) (n L : Nat) : Prop where
  n0 : 0 < n
  n6 : n ≤ 6
  ls : s.length = n
  le : e.length = n
  bs : ∀ x ∈ s, 1 ≤ x ∧ x ≤ 100
  be : ∀ x ∈ e, 0 ≤ x ∧ x ≤ 100
  hL : lastOf n g = L
theorem Lad.Ln {s e : List Int} {g : Bool} {n L : Nat} (h : Lad s e g n L) : L ≤ n ∧ n ≤ L + 1 := by
  have := h.hL
  have := h.n0
  unfold lastOf at *
  split at * <;> omega
theorem Lad.D {s e : List Int} {g : Bool} {n L : Nat} (h : Lad s e g n L) : 0 < dd s e L L := dd_pos s e L h.bs h.be (by have := h.Ln; have := h.ls; omega) L (Nat.le_refl _)
theorem Lad.s {s e : List Int} {g : Bool} {n L : Nat} (h : Lad s e g n L) {k : Nat} (hk : k < n) : 1 ≤ g0' s k ∧ g0' s k ≤ 100 := h.bs _ (getD_mem (by rw [h.ls]; exact hk))
theorem Lad.own {s e : List Int} {g : Bool} {n L : Nat} (h : Lad s e g n L) {k : Nat} (hk : k < n) : 0 < ownOf s e k ∧ ownOf s e k ≤ 300 := by
  have h1 := own_bd s e k (fun x hx => by have := h.bs x hx; omega) h.be
  have h2 := h.s hk
  have h3 : 0 ≤ e.getD k 0 := (h.be _ (getD_mem (by rw [h.le]; exact hk))).1
  refine ⟨?_, h1.2⟩
  unfold ownOf
  by_cases h4 : k + 1 < s.length
  · have := h.s (k := k + 1) (by rw [← h.ls]; exact h4)
    rw [if_pos h4]
    show 0 < g0' s k + e.getD k 0 + g0' s (k + 1)
    omega
  · rw [if_neg h4]
    show 0 < g0' s k + e.getD k 0
    omega
theorem Lad.nu_bd {s e : List Int} {g : Bool} {n L : Nat} (h : Lad s e g n L) (j : Nat) : 0 ≤ nu s e L j ∧ nu s e L j ≤ dd s e L L := by
  unfold nu
  by_cases hj : j ≤ L
  · rw [if_pos hj]
    have := Go.Proofs.Ytbjgklifmillgaa.nu_bd s e L h.bs h.be (by have := h.Ln; have := h.ls; omega) j hj
    omega
  · rw [if_neg hj]
    have := h.D
    omega
theorem Lad.nu_fall {s e : List Int} {g : Bool} {n L : Nat} (h : Lad s e g n L) (j : Nat) : nu s e L (j + 1) ≤ nu s e L j := by
  by_cases hj : j + 1 ≤ L
  · have := Go.Proofs.Ytbjgklifmillgaa.nu_fall s e L h.bs h.be (by have := h.Ln; have := h.ls; omega) j hj
    unfold nu
    rw [if_pos hj, if_pos (by omega)]
    exact this
  · have := h.nu_bd j
    unfold nu at *
    rw [if_neg hj]
    exact this.1
theorem nu_zero (s e : List Int) (L : Nat) : nu s e L 0 = dd s e L L := by
  unfold nu
  rw [if_pos (Nat.zero_le _)]
  simp [pr]
theorem Lad.eq {s e : List Int} {g : Bool} {n L : Nat} (h : Lad s e g n L) {j : Nat} (hj : j + 1 ≤ L) :
    ownOf s e j * nu s e L (j + 1) + -(g0' s j) * nu s e L j + (if j + 1 < n then -(g0' s (j + 1)) * nu s e L (j + 1 + 1) else 0) = 0 := by
  have hLn := h.Ln
  unfold nu
  rw [if_pos hj, if_pos (by omega)]
  have e1 : pr s (j + 1) = pr s j * g0' s j := rfl
  by_cases h2 : j + 1 = L
  · subst h2
    rw [show j + 1 - (j + 1) = 0 by omega, show j + 1 - j = 1 by omega, e1]
    have e2 : dd s e (j + 1) 1 = ownOf s e j := by show ownOf s e (j + 1 - 1) = _; rw [Nat.add_sub_cancel]
    have e3 : dd s e (j + 1) 0 = 1 := rfl
    rw [e2, e3, if_neg (show ¬ j + 1 + 1 ≤ j + 1 by omega)]
    have : (if j + 1 < n then -(g0' s (j + 1)) * 0 else 0 : Int) = 0 := by split <;> simp
    rw [this]
    grind
  · obtain ⟨m, hm⟩ : ∃ m, L = j + 2 + m := ⟨L - j - 2, by omega⟩
    rw [if_pos (by omega), if_pos (by omega), show L - (j + 1) = m + 1 by omega, show L - j = m + 2 by omega, show L - (j + 1 + 1) = m by omega]
    have e2 : dd s e L (m + 2) = ownOf s e j * dd s e L (m + 1) - g0' s (j + 1) * g0' s (j + 1) * dd s e L m := by
      show ownOf s e (L - m - 2) * dd s e L (m + 1) - s.getD (L - m - 1) 0 * s.getD (L - m - 1) 0 * dd s e L m = _
      rw [show L - m - 2 = j by omega, show L - m - 1 = j + 1 by omega]
    have e3 : pr s (j + 1 + 1) = pr s j * g0' s j * g0' s (j + 1) := rfl
    rw [e1, e2, e3]
    grind
theorem Lad.cross {s e : List Int} {g : Bool} {n L : Nat} (h : Lad s e g n L) {j : Nat} (hj : j < n + 1) : (gp (initOf s e n L) j).1 * dd s e L L = nu s e L j * (gp (initOf s e n L) j).2 := by
  rw [init_gp hj]
  exact low_cross _ _ h.D
theorem Lad.first {s e : List Int} {g : Bool} {n L : Nat} (h : Lad s e g n L) : gp (initOf s e n L) 0 = (1, 1) := by
  rw [init_gp (by omega), nu_zero]
  exact low_self h.D
theorem Lad.past {s e : List Int} {g : Bool} {n L : Nat} (h : Lad s e g n L) {j : Nat} (hj : j < n + 1) (hl : L < j) : gp (initOf s e n L) j = (0, 1) := by
  rw [init_gp hj]
  unfold nu
  rw [if_neg (by omega)]
  exact low_nil h.D
/-- Small fractions are in order. -/
theorem Lad.ok {s e : List Int} {g : Bool} {n L : Nat} (h : Lad s e g n L) (hs : (initOf s e n L).any (fun f => !smallF f) = false) {j : Nat} (hj : j < n + 1) :
    FrOk (gp (initOf s e n L) j) ∧ 0 ≤ (gp (initOf s e n L) j).1 := by
  have hD := h.D
  have hb := h.nu_bd j
  have hm : gp (initOf s e n L) j ∈ initOf s e n L := gp_mem (by rw [init_len]; exact hj)
  rw [List.any_eq_false] at hs
  have h1 := hs _ hm
  simp only [Bool.not_eq_true, Bool.not_eq_false'] at h1
  unfold smallF at h1
  simp only [Bool.and_eq_true, decide_eq_true_eq, wi_iff] at h1
  rw [init_gp hj] at h1 ⊢
  have h2 := low_den' (a := nu s e L j) hD
  exact ⟨⟨by omega, low_gc _ _ hD, h1.1.1, h1.1.2, h1.2⟩, low_nn hb.1 hD⟩
theorem Lad.fall {s e : List Int} {g : Bool} {n L : Nat} (h : Lad s e g n L) {j : Nat} (hj : j + 1 < n + 1) :
    (gp (initOf s e n L) (j + 1)).1 * (gp (initOf s e n L) j).2 ≤ (gp (initOf s e n L) j).1 * (gp (initOf s e n L) (j + 1)).2 := by
  have hD := h.D
  have c1 := h.cross hj
  have c0 := h.cross (show j < n + 1 by omega)
  have hf := h.nu_fall j
  have d1 := low_den' (a := nu s e L (j + 1)) hD
  have d0 := low_den' (a := nu s e L j) hD
  rw [← init_gp (s := s) (e := e) (n := n) (L := L) hj] at d1
  rw [← init_gp (s := s) (e := e) (n := n) (L := L) (show j < n + 1 by omega)] at d0
  generalize (gp (initOf s e n L) (j + 1)).1 = p at *
  generalize (gp (initOf s e n L) (j + 1)).2 = q at *
  generalize (gp (initOf s e n L) j).1 = p' at *
  generalize (gp (initOf s e n L) j).2 = q' at *
  generalize dd s e L L = D at *
  refine Int.le_of_mul_le_mul_left ?_ hD
  have e1 : D * (p * q') = nu s e L (j + 1) * (q * q') := by rw [show D * (p * q') = (p * D) * q' by grind, c1]; grind
  have e2 : D * (p' * q) = nu s e L j * (q * q') := by rw [show D * (p' * q) = (p' * D) * q by grind, c0]; grind
  rw [e1, e2]
  exact Int.mul_le_mul_of_nonneg_right hf (Int.mul_nonneg (by omega) (by omega))
theorem Lad.terms {s e : List Int} {g : Bool} {n L : Nat} (h : Lad s e g n L) (u : List (Int × Int)) (j : Nat) :
    tS (tms s e u n (j + 1)) (tms s e u n (j + 1)).length = if j + 1 < n then ownOf s e j * (gp u (j + 1)).1 * (gp u j).2 * (gp u (j + 1 + 1)).2 + -(g0' s j) * (gp u j).1 * (gp u (j + 1)).2 * (gp u (j + 1 + 1)).2 + -(g0' s (j + 1)) * (gp u (j + 1 + 1)).1 * (gp u (j + 1)).2 * (gp u j).2
      else ownOf s e j * (gp u (j + 1)).1 * (gp u j).2 + -(g0' s j) * (gp u j).1 * (gp u (j + 1)).2 := by
  unfold tms
  rw [Nat.add_sub_cancel]
  by_cases hj : j + 1 < n
  · rw [if_pos hj, if_pos hj]
    exact tS3 _ _ _
  · rw [if_neg hj, if_neg hj]
    exact tS2 _ _
theorem Lad.sum {s e : List Int} {g : Bool} {n L : Nat} (h : Lad s e g n L) {j : Nat} (hj : j + 1 ≤ L) : tS (tms s e (initOf s e n L) n (j + 1)) (tms s e (initOf s e n L) n (j + 1)).length = 0 := by
  have hLn := h.Ln
  have he := h.eq hj
  rw [h.terms]
  by_cases h1 : j + 1 < n
  · rw [if_pos h1] at he ⊢
    exact zero3 h.D (h.cross (by omega)) (h.cross (by omega)) (h.cross (by omega)) he
  · rw [if_neg h1] at he ⊢
    exact zero2 h.D (h.cross (by omega)) (h.cross (by omega)) (by omega)
theorem Lad.holds {s e : List Int} {g : Bool} {n L : Nat} (h : Lad s e g n L) {i : Nat} (hi : i < n + 1) : hold s e (initOf s e n L) g n i = true := by
  unfold hold
  rw [h.hL]
  by_cases h0 : i = 0
  · rw [if_pos h0, h.first]; rfl
  · rw [if_neg h0]
    by_cases h1 : (L : Int) < (i : Int)
    · rw [if_pos h1, h.past hi (by omega)]; rfl
    · rw [if_neg h1]
      obtain ⟨j, rfl⟩ : ∃ j, i = j + 1 := ⟨i - 1, by omega⟩
      exact zUpto_zero (h.sum (by omega)) 4
theorem gp_set {u : List (Int × Int)} {k i : Nat} {x : Int × Int} (hk : k < u.length) : gp (u.set k x) i = if i = k then x else gp u i := by
  unfold gp
  by_cases h : i = k
  · subst h; simp [List.getD, hk]
  · rw [if_neg h]
    simp [List.getD, show ¬ k = i from fun e => h e.symm]
theorem Lad.bdS {s e : List Int} {g : Bool} {n L : Nat} (h : Lad s e g n L) {u : List (Int × Int)} (hu : ∀ i, i < n + 1 → FrOk (gp u i)) {j : Nat} (hj : j < n) :
    -1000000000000000000000000000000 ≤ tS (tms s e u n (j + 1)) (tms s e u n (j + 1)).length ∧ tS (tms s e u n (j + 1)) (tms s e u n (j + 1)).length ≤ 1000000000000000000000000000000 := by
  have h0 := hu j (by omega)
  have h1 := hu (j + 1) (by omega)
  have ho := h.own hj
  have hs := h.s hj
  unfold FrOk at h0 h1
  rw [h.terms]
  by_cases h2 : j + 1 < n
  · have h3 := hu (j + 1 + 1) (by omega)
    have hs1 := h.s h2
    unfold FrOk at h3
    rw [if_pos h2]
    have a1 := bd4 (o := ownOf s e j) (p := (gp u (j + 1)).1) (q := (gp u j).2) (r := (gp u (j + 1 + 1)).2) (by omega) (by omega) (by omega) (by omega)
    have a2 := bd4 (o := -(g0' s j)) (p := (gp u j).1) (q := (gp u (j + 1)).2) (r := (gp u (j + 1 + 1)).2) (by omega) (by omega) (by omega) (by omega)
    have a3 := bd4 (o := -(g0' s (j + 1))) (p := (gp u (j + 1 + 1)).1) (q := (gp u (j + 1)).2) (r := (gp u j).2) (by omega) (by omega) (by omega) (by omega)
    omega
  · rw [if_neg h2]
    have a1 := bd4 (o := ownOf s e j) (p := (gp u (j + 1)).1) (q := (gp u j).2) (r := 1) (by omega) (by omega) (by omega) (by omega)
    have a2 := bd4 (o := -(g0' s j)) (p := (gp u j).1) (q := (gp u (j + 1)).2) (r := 1) (by omega) (by omega) (by omega) (by omega)
    rw [Int.mul_one] at a1 a2
    omega
theorem Lad.changed {s e : List Int} {g : Bool} {n L : Nat} (h : Lad s e g n L) (hok : ∀ i, i < n + 1 → FrOk (gp (initOf s e n L) i)) {k : Nat} (hk : k < n + 1) {x : Int × Int} (hx : FrOk x) (hne : x ≠ gp (initOf s e n L) k) :
    ∃ i, i < n + 1 ∧ hold s e ((initOf s e n L).set k x) g n i = false := by
  refine ⟨k, hk, ?_⟩
  have hlen := init_len s e n L
  have hkk : gp ((initOf s e n L).set k x) k = x := by rw [gp_set (by omega), if_pos rfl]
  have hoth : ∀ i, i ≠ k → gp ((initOf s e n L).set k x) i = gp (initOf s e n L) i := fun i hi => by rw [gp_set (by omega), if_neg hi]
  have hU : ∀ i, i < n + 1 → FrOk (gp ((initOf s e n L).set k x) i) := fun i hi => by
    by_cases h1 : i = k
    · rw [h1, hkk]; exact hx
    · rw [hoth i h1]; exact hok i hi
  obtain ⟨p', q'⟩ := x
  have hne2 : ∀ a b : Int, gp (initOf s e n L) k = (a, b) → (p' == a && q' == b) = false := by
    intro a b hab
    rw [hab] at hne
    by_cases h1 : p' = a
    · by_cases h2 : q' = b
      · exact absurd (by rw [h1, h2]) hne
      · simp [h2]
    · simp [h1]
  unfold hold
  rw [h.hL]
  by_cases h0 : k = 0
  · subst h0
    rw [if_pos rfl, hkk]
    exact hne2 1 1 h.first
  · rw [if_neg h0]
    by_cases h1 : (L : Int) < (k : Int)
    · rw [if_pos h1, hkk]
      exact hne2 0 1 (h.past hk (by omega))
    · rw [if_neg h1]
      obtain ⟨j, rfl⟩ : ∃ j, k = j + 1 := ⟨k - 1, by omega⟩
      have hLn := h.Ln
      cases hz : zUpto (tms s e ((initOf s e n L).set (j + 1) (p', q')) n (j + 1)) 4
      · rfl
      · exfalso
        have h2 := zUpto_true hz (h.bdS hU (by omega))
        have h3 := h.sum (show j + 1 ≤ L by omega)
        have ho := (h.own (show j < n by omega)).1
        rw [h.terms] at h2 h3
        rw [hkk, hoth j (by omega)] at h2
        have f1 := hok (j + 1) hk
        have f0 := hok j (by omega)
        unfold FrOk at f1 f0 hx
        have hcr : p' * (gp (initOf s e n L) (j + 1)).2 = (gp (initOf s e n L) (j + 1)).1 * q' := by
          by_cases h4 : j + 1 < n
          · rw [if_pos h4] at h2 h3
            rw [hoth (j + 1 + 1) (by omega)] at h2
            have f2 := hok (j + 1 + 1) (by omega)
            unfold FrOk at f2
            exact other3 ho f0.1 f2.1 h3 h2
          · rw [if_neg h4] at h2 h3
            exact other2 ho f0.1 h3 h2
        have := frac_eq f1.1 hx.1 f1.2.1 hx.2.1 hcr
        exact hne (Prod.ext this.1 this.2)
end Go.Proofs.Ytbjgklifmillgaa

/- The initial distribution of a ladder as a quotient: how it changes with each capacitance. No program in sight. -/
namespace Go.Proofs.Ytbjgklifmillgaa
set_option linter.unusedVariables false

theorem rmul_le {a b c d : Rat} (h : a ≤ b) (h' : c ≤ d) (ha : 0 ≤ a) (hc : 0 ≤ c) : a * c ≤ b * d := by
  have h1 : a * c ≤ b * c := Rat.mul_le_mul_of_nonneg_right h hc
  have h2 : b * c ≤ b * d := Rat.mul_le_mul_of_nonneg_left h' (by grind)
  grind
theorem rinv_pos {a : Rat} (h : 0 < a) : 0 < a⁻¹ := Rat.inv_pos.mpr h
theorem rmul_nn {a b : Rat} (h : 0 ≤ a) (h' : 0 ≤ b) : 0 ≤ a * b := Rat.mul_nonneg h h'
theorem rdiv_le {a b c d : Rat} (hb : 0 < b) (hd : 0 < d) (h : a * d ≤ c * b) : a / b ≤ c / d := by
  have h1 := rinv_pos hb
  have h2 := rinv_pos hd
  have h3 : (a * d) * (b⁻¹ * d⁻¹) ≤ (c * b) * (b⁻¹ * d⁻¹) := Rat.mul_le_mul_of_nonneg_right h (by have := Rat.mul_pos h1 h2; grind)
  have h4 : (a * d) * (b⁻¹ * d⁻¹) = a / b := by grind
  have h5 : (c * b) * (b⁻¹ * d⁻¹) = c / d := by grind
  grind
theorem rdiv_nn {a b : Rat} (ha : 0 ≤ a) (hb : 0 < b) : 0 ≤ a / b := by
  have h1 := rinv_pos hb
  rw [Rat.div_def]
  exact rmul_nn ha (by grind)

/-- A capacitance in series with another one. -/
def ser (s y : Rat) : Rat := s * y / (s + y)
theorem ser_nn {s y : Rat} (hs : 0 < s) (hy : 0 ≤ y) : 0 ≤ ser s y := by
  have := rmul_nn (a := s) (by grind) hy
  exact rdiv_nn this (by grind)
theorem ser_mono {s y s' y' : Rat} (hs : 0 < s) (hy : 0 ≤ y) (h : s ≤ s') (h' : y ≤ y') : ser s y ≤ ser s' y' := by
  refine rdiv_le (by grind) (by grind) ?_
  have h1 : (s * s') * y ≤ (s * s') * y' := Rat.mul_le_mul_of_nonneg_left h' (rmul_nn (by grind) (by grind))
  have h2 : (y * y') * s ≤ (y * y') * s' := Rat.mul_le_mul_of_nonneg_left h (rmul_nn (by grind) (by grind))
  grind
/-- The capacitance of all that is beyond a node, 'm' nodes before the last one. -/
def yy (s e : Nat → Rat) (y0 : Rat) (L : Nat) : Nat → Rat
  | 0 => y0
  | m + 1 => ser (s (L - m - 1)) (e (L - m - 1) + yy s e y0 L m)
/-- The voltage and the current at the nodes ahead of a node. -/
def bk (s e : Nat → Rat) (j : Nat) (x g : Rat) : Nat → Rat × Rat
  | 0 => (x, g)
  | i + 1 => ((bk s e j x g i).1 + (e (j - i - 1) * (bk s e j x g i).1 + (bk s e j x g i).2) / s (j - i - 1), e (j - i - 1) * (bk s e j x g i).1 + (bk s e j x g i).2)
theorem yy_nn {s e : Nat → Rat} {y0 : Rat} {L : Nat} (h0 : 0 ≤ y0) (hs : ∀ k, k < L → 0 < s k) (he : ∀ k, k < L → 0 ≤ e k) : ∀ m, m ≤ L → 0 ≤ yy s e y0 L m
  | 0, _ => h0
  | m + 1, hm => by
    have h1 := yy_nn h0 hs he m (by omega)
    have h2 := hs (L - m - 1) (by omega)
    have h3 := he (L - m - 1) (by omega)
    simp only [yy]
    exact ser_nn h2 (by grind)
theorem yy_mono {s e s' e' : Nat → Rat} {y0 y0' : Rat} {L : Nat} (h0 : 0 ≤ y0) (h0' : y0 ≤ y0') (hs : ∀ k, k < L → 0 < s k) (he : ∀ k, k < L → 0 ≤ e k) : ∀ m, m ≤ L → (∀ k, L - m ≤ k → k < L → s k ≤ s' k ∧ e k ≤ e' k) → yy s e y0 L m ≤ yy s' e' y0' L m
  | 0, _, _ => h0'
  | m + 1, hm, h => by
    have h1 := yy_mono (s' := s') (e' := e') h0 h0' hs he m (by omega) (fun k hk => h k (by omega))
    have h2 := hs (L - m - 1) (by omega)
    have h3 := he (L - m - 1) (by omega)
    have h4 := yy_nn h0 hs he m (by omega)
    obtain ⟨h5, h6⟩ := h (L - m - 1) (by omega) (by omega)
    simp only [yy]
    exact ser_mono h2 (by grind) h5 (by grind)
theorem bk_nn {s e : Nat → Rat} {j : Nat} {x g : Rat} (hx : 0 ≤ x) (hg : 0 ≤ g) (hs : ∀ k, k < j → 0 < s k) (he : ∀ k, k < j → 0 ≤ e k) : ∀ i, i ≤ j → x ≤ (bk s e j x g i).1 ∧ 0 ≤ (bk s e j x g i).2
  | 0, _ => ⟨by simp [bk], hg⟩
  | i + 1, hi => by
    obtain ⟨h1, h2⟩ := bk_nn hx hg hs he i (by omega)
    have h3 := hs (j - i - 1) (by omega)
    have h4 := he (j - i - 1) (by omega)
    have h5 := rmul_nn h4 (b := (bk s e j x g i).1) (by grind)
    have h6 : 0 ≤ e (j - i - 1) * (bk s e j x g i).1 + (bk s e j x g i).2 := by grind
    have h7 := rdiv_nn h6 h3
    simp only [bk]
    exact ⟨by grind, h6⟩
/-- Greater series capacitances, smaller ones to Earth, and a smaller start, lead to less. -/
theorem bk_mono {s e s' e' : Nat → Rat} {j : Nat} {x g x' g' : Rat} (hx : 0 ≤ x) (hg : 0 ≤ g) (hx' : x ≤ x') (hg' : g ≤ g') (hs : ∀ k, k < j → 0 < s' k) (he : ∀ k, k < j → 0 ≤ e k) (hss : ∀ k, k < j → s' k ≤ s k) (hee : ∀ k, k < j → e k ≤ e' k) :
    ∀ i, i ≤ j → (bk s e j x g i).1 ≤ (bk s' e' j x' g' i).1 ∧ (bk s e j x g i).2 ≤ (bk s' e' j x' g' i).2
  | 0, _ => ⟨hx', hg'⟩
  | i + 1, hi => by
    obtain ⟨h1, h2⟩ := bk_mono hx hg hx' hg' hs he hss hee i (by omega)
    obtain ⟨h3, h4⟩ := bk_nn (s := s) (e := e) (j := j) hx hg (fun k hk => by have := hs k hk; have := hss k hk; grind) he i (by omega)
    have h5 := hs (j - i - 1) (by omega)
    have h6 := he (j - i - 1) (by omega)
    have h7 := hss (j - i - 1) (by omega)
    have h8 := hee (j - i - 1) (by omega)
    have h9 := rmul_le h8 h1 h6 (by grind)
    have hA : e (j - i - 1) * (bk s e j x g i).1 + (bk s e j x g i).2 ≤ e' (j - i - 1) * (bk s' e' j x' g' i).1 + (bk s' e' j x' g' i).2 := by grind
    have hB : 0 ≤ e (j - i - 1) * (bk s e j x g i).1 + (bk s e j x g i).2 := by
      have := rmul_nn h6 (b := (bk s e j x g i).1) (by grind)
      grind
    have hC : (e (j - i - 1) * (bk s e j x g i).1 + (bk s e j x g i).2) / s (j - i - 1) ≤ (e' (j - i - 1) * (bk s' e' j x' g' i).1 + (bk s' e' j x' g' i).2) / s' (j - i - 1) :=
      rdiv_le (by grind) h5 (rmul_le hA h7 hB (by grind))
    simp only [bk]
    exact ⟨by grind, hA⟩
/-- Linear in the start. -/
theorem bk_scale {s e : Nat → Rat} {j : Nat} {x g z : Rat} : ∀ i, bk s e j (z * x) (z * g) i = (z * (bk s e j x g i).1, z * (bk s e j x g i).2)
  | 0 => rfl
  | i + 1 => by
    simp only [bk, bk_scale i]
    refine Prod.ext ?_ ?_ <;> simp only [Rat.div_def] <;> grind
/-- The voltages of a ladder: 1 / X. -/
def volt (s e : Nat → Rat) (y0 : Rat) (L j : Nat) : Rat := 1 / (bk s e j 1 (yy s e y0 L (L - j)) j).1

/-- A node between: with its own ladder and another one. -/
theorem volt_mono {s e s' e' : Nat → Rat} {y0 y0' : Rat} {L j : Nat} (hj : j ≤ L) (h0 : 0 ≤ y0') (h0' : y0' ≤ y0) (hs : ∀ k, k < L → 0 < s k) (hs' : ∀ k, k < L → 0 < s' k) (he : ∀ k, k < L → 0 ≤ e k) (he' : ∀ k, k < L → 0 ≤ e' k)
    (hlo : ∀ k, k < j → s k ≤ s' k) (hhi : ∀ k, j ≤ k → k < L → s' k ≤ s k) (hE : ∀ k, k < L → e' k ≤ e k) : volt s e y0 L j ≤ volt s' e' y0' L j := by
  have h1 := yy_mono (s := s') (e := e') (s' := s) (e' := e) h0 h0' hs' he' (L - j) (by omega) (fun k hk hk2 => ⟨hhi k (by omega) hk2, hE k hk2⟩)
  have h2 := yy_nn h0 hs' he' (L - j) (by omega)
  have h3 := (bk_mono (s := s') (e := e') (s' := s) (e' := e) (j := j) (x := 1) (x' := 1) (by grind) h2 (by grind) h1 (fun k hk => hs k (by omega)) (fun k hk => he' k (by omega)) hlo (fun k hk => hE k (by omega)) j (by omega)).1
  have h4 := (bk_nn (s := s') (e := e') (j := j) (x := 1) (by grind) h2 (fun k hk => hs' k (by omega)) (fun k hk => he' k (by omega)) j (by omega)).1
  exact rdiv_le (by grind) (by grind) (by grind)
/-- The stress of the gap behind node j (j < L), and of the last one of an earthed ladder (j = L). -/
def strs (s e : Nat → Rat) (y0 : Rat) (L j : Nat) : Rat := if j < L then (if e j + yy s e y0 L (L - j - 1) = 0 then 0 else 1 / (bk s e j (1 + s j / (e j + yy s e y0 L (L - j - 1))) (s j) j).1) else volt s e y0 L j
theorem strs_mono {s e s' e' : Nat → Rat} {y0 y0' : Rat} {L j : Nat} (hj : j < L) (h0 : 0 ≤ y0) (h0' : y0 ≤ y0') (hs : ∀ k, k < L → 0 < s k) (hs' : ∀ k, k < L → 0 < s' k) (he : ∀ k, k < L → 0 ≤ e k) (he' : ∀ k, k < L → 0 ≤ e' k)
    (hS : ∀ k, k < L → k ≠ j → s k ≤ s' k) (hSj : s' j ≤ s j) (hlo : ∀ k, k < j → e' k ≤ e k) (hhi : ∀ k, j ≤ k → k < L → e k ≤ e' k) : strs s e y0 L j ≤ strs s' e' y0' L j := by
  have h1 := yy_mono (s := s) (e := e) (s' := s') (e' := e') h0 h0' hs he (L - j - 1) (by omega) (fun k hk hk2 => ⟨hS k hk2 (by omega), hhi k (by omega) hk2⟩)
  have h2 := yy_nn h0 hs he (L - j - 1) (by omega)
  have h3 := he j hj
  have h4 := hhi j (Nat.le_refl _) hj
  have h5 := hs j hj
  have h6 := hs' j hj
  unfold strs
  rw [if_pos hj, if_pos hj]
  have hY' : 0 ≤ e' j + yy s' e' y0' L (L - j - 1) := by grind
  by_cases hz : e j + yy s e y0 L (L - j - 1) = 0
  · rw [if_pos hz]
    by_cases hz' : e' j + yy s' e' y0' L (L - j - 1) = 0
    · rw [if_pos hz']; grind
    · rw [if_neg hz']
      have hq := rdiv_nn (a := s' j) (b := e' j + yy s' e' y0' L (L - j - 1)) (by grind) (by grind)
      have := (bk_nn (s := s') (e := e') (j := j) (x := 1 + s' j / (e' j + yy s' e' y0' L (L - j - 1))) (g := s' j) (by grind) (by grind) (fun k hk => hs' k (by omega)) (fun k hk => he' k (by omega)) j (by omega)).1
      exact rdiv_nn (by grind) (by grind)
  · rw [if_neg hz, if_neg (by grind)]
    have hq : s' j / (e' j + yy s' e' y0' L (L - j - 1)) ≤ s j / (e j + yy s e y0 L (L - j - 1)) := rdiv_le (by grind) (by grind) (rmul_le hSj (by grind) (by grind) (by grind))
    have hq0 := rdiv_nn (a := s' j) (b := e' j + yy s' e' y0' L (L - j - 1)) (by grind) (by grind)
    have h7 := (bk_mono (s := s') (e := e') (s' := s) (e' := e) (j := j) (x := 1 + s' j / (e' j + yy s' e' y0' L (L - j - 1))) (x' := 1 + s j / (e j + yy s e y0 L (L - j - 1))) (g := s' j) (g' := s j) (by grind) (by grind) (by grind) hSj (fun k hk => hs k (by omega)) (fun k hk => he' k (by omega)) (fun k hk => hS k (by omega) (by omega)) hlo j (by omega)).1
    have h8 := (bk_nn (s := s') (e := e') (j := j) (x := 1 + s' j / (e' j + yy s' e' y0' L (L - j - 1))) (g := s' j) (by grind) (by grind) (fun k hk => hs' k (by omega)) (fun k hk => he' k (by omega)) j (by omega)).1
    exact rdiv_le (by grind) (by grind) (by grind)
/-- The last gap of an earthed ladder: its own capacitance is what is beyond. -/
theorem strs_last {s e s' e' : Nat → Rat} {y0 y0' : Rat} {L : Nat} (h0 : 0 ≤ y0') (h0' : y0' ≤ y0) (hs : ∀ k, k < L → 0 < s k) (hs' : ∀ k, k < L → 0 < s' k) (he : ∀ k, k < L → 0 ≤ e k) (he' : ∀ k, k < L → 0 ≤ e' k)
    (hS : ∀ k, k < L → s k ≤ s' k) (hE : ∀ k, k < L → e' k ≤ e k) : strs s e y0 L L ≤ strs s' e' y0' L L := by
  unfold strs
  rw [if_neg (by omega), if_neg (by omega)]
  exact volt_mono (Nat.le_refl _) h0 h0' hs hs' he he' hS (fun k hk hk2 => by omega) hE
end Go.Proofs.Ytbjgklifmillgaa

/- The initial voltages and stresses of a ladder, by determinants, are those of EncPlain. No program in sight. -/
namespace Go.Proofs.Ytbjgklifmillgaa
open Go.RowKit
set_option linter.unusedVariables false

/-- Capacitances as quotients. -/
def qf (l : List Int) (k : Nat) : Rat := ((l.getD k 0 : Int) : Rat)
/-- What the last node's own end is. -/
def y00 (s : List Int) (n L : Nat) : Rat := if L < n then qf s L else 0
theorem q_le {a b : Int} (h : a ≤ b) : (a : Rat) ≤ (b : Rat) := Rat.intCast_le_intCast.mpr h
theorem q_lt {a b : Int} (h : a < b) : (a : Rat) < (b : Rat) := Rat.intCast_lt_intCast.mpr h
theorem Lad.qs {s e : List Int} {g : Bool} {n L : Nat} (h : Lad s e g n L) {k : Nat} (hk : k < n) : 0 < qf s k := by
  have := q_lt (show (0 : Int) < s.getD k 0 by have := h.s hk; unfold g0' at this; omega)
  simpa [qf] using this
theorem Lad.qe {s e : List Int} {g : Bool} {n L : Nat} (h : Lad s e g n L) {k : Nat} (hk : k < n) : 0 ≤ qf e k := by
  have := q_le (show (0 : Int) ≤ e.getD k 0 from (h.be _ (getD_mem (by rw [h.le]; exact hk))).1)
  simpa [qf] using this
theorem Lad.y0 {s e : List Int} {g : Bool} {n L : Nat} (h : Lad s e g n L) : 0 ≤ y00 s n L := by
  unfold y00
  split
  · have := h.qs (k := L) (by assumption); grind
  · grind
theorem Lad.dd_yy {s e : List Int} {g : Bool} {n L : Nat} (h : Lad s e g n L) : ∀ m, m + 1 ≤ L → ((dd s e L (m + 1) : Int) : Rat) = (qf s (L - m - 1) + (qf e (L - m - 1) + yy (qf s) (qf e) (y00 s n L) L m)) * ((dd s e L m : Int) : Rat)
  | 0, hm => by
    have hLn := h.Ln
    simp only [dd, yy, Nat.sub_zero]
    unfold ownOf y00 qf
    rw [h.ls]
    by_cases h1 : L < n
    · rw [if_pos (by omega), if_pos h1, show L - 1 + 1 = L by omega]
      rw [Rat.intCast_add, Rat.intCast_add]
      grind
    · rw [if_neg (by omega), if_neg h1, Rat.intCast_add]
      grind
  | m + 1, hm => by
    have hLn := h.Ln
    have ih := h.dd_yy m (by omega)
    have hs := h.qs (k := L - m - 1) (by omega)
    have hs2 := h.qs (k := L - (m + 1) - 1) (by omega)
    have he := h.qe (k := L - m - 1) (by omega)
    have hy := yy_nn (s := qf s) (e := qf e) (L := L) h.y0 (fun k hk => h.qs (by omega)) (fun k hk => h.qe (by omega)) m (by omega)
    have e1 : dd s e L (m + 1 + 1) = ownOf s e (L - m - 2) * dd s e L (m + 1) - s.getD (L - m - 1) 0 * s.getD (L - m - 1) 0 * dd s e L m := rfl
    have e2 : ownOf s e (L - m - 2) = s.getD (L - (m + 1) - 1) 0 + e.getD (L - (m + 1) - 1) 0 + s.getD (L - m - 1) 0 := by
      unfold ownOf
      rw [if_pos (by rw [h.ls]; omega), show L - m - 2 = L - (m + 1) - 1 by omega, show L - (m + 1) - 1 + 1 = L - m - 1 by omega]
    rw [e1, e2, Rat.intCast_sub, Rat.intCast_mul, Rat.intCast_mul, Rat.intCast_mul, Rat.intCast_add, Rat.intCast_add, ih]
    simp only [yy, ser]
    unfold qf at *
    generalize yy (fun k => ((s.getD k 0 : Int) : Rat)) (fun k => ((e.getD k 0 : Int) : Rat)) (y00 s n L) L m = Y at *
    generalize ((s.getD (L - m - 1) 0 : Int) : Rat) = S at *
    generalize ((e.getD (L - m - 1) 0 : Int) : Rat) = E at *
    have hne : S + (E + Y) ≠ 0 := by grind
    rw [Rat.div_def]
    grind
theorem Lad.bk_dd {s e : List Int} {g : Bool} {n L : Nat} (h : Lad s e g n L) {j : Nat} (hj : j ≤ L) : ∀ i, i ≤ j →
    (bk (qf s) (qf e) j 1 (yy (qf s) (qf e) (y00 s n L) L (L - j)) i).1 * ((pr s j : Int) : Rat) * ((dd s e L (L - j) : Int) : Rat) = ((dd s e L (L - j + i) : Int) : Rat) * ((pr s (j - i) : Int) : Rat) ∧
    (bk (qf s) (qf e) j 1 (yy (qf s) (qf e) (y00 s n L) L (L - j)) i).2 = yy (qf s) (qf e) (y00 s n L) L (L - j + i) * (bk (qf s) (qf e) j 1 (yy (qf s) (qf e) (y00 s n L) L (L - j)) i).1
  | 0, hi => by simp only [bk, Nat.add_zero, Nat.sub_zero]; exact ⟨by grind, by grind⟩
  | i + 1, hi => by
    have hLn := h.Ln
    obtain ⟨h1, h2⟩ := h.bk_dd hj i (by omega)
    have hd := h.dd_yy (L - j + i) (by omega)
    have hs := h.qs (k := j - i - 1) (by omega)
    have he := h.qe (k := j - i - 1) (by omega)
    have hy := yy_nn (s := qf s) (e := qf e) (L := L) h.y0 (fun k hk => h.qs (by omega)) (fun k hk => h.qe (by omega)) (L - j + i) (by omega)
    have e0 : L - (L - j + i) - 1 = j - i - 1 := by omega
    rw [e0] at hd
    have e1 : pr s (j - i) = pr s (j - i - 1) * s.getD (j - i - 1) 0 := by
      obtain ⟨q, hq⟩ : ∃ q, j - i = q + 1 := ⟨j - i - 1, by omega⟩
      rw [hq, Nat.add_sub_cancel]; rfl
    have e2 : ((pr s (j - i) : Int) : Rat) = ((pr s (j - i - 1) : Int) : Rat) * qf s (j - i - 1) := by rw [e1, Rat.intCast_mul]; rfl
    have e3 : yy (qf s) (qf e) (y00 s n L) L (L - j + (i + 1)) = ser (qf s (j - i - 1)) (qf e (j - i - 1) + yy (qf s) (qf e) (y00 s n L) L (L - j + i)) := by
      rw [show L - j + (i + 1) = (L - j + i) + 1 by omega]; simp only [yy]; rw [e0]
    rw [e3, show L - j + (i + 1) = L - j + i + 1 by omega, hd, show j - (i + 1) = j - i - 1 by omega]
    simp only [bk]
    rw [h2]
    rw [e2] at h1
    generalize (bk (qf s) (qf e) j 1 (yy (qf s) (qf e) (y00 s n L) L (L - j)) i).1 = X at *
    generalize yy (qf s) (qf e) (y00 s n L) L (L - j + i) = Y at *
    generalize qf s (j - i - 1) = S at *
    generalize qf e (j - i - 1) = E at *
    generalize ((pr s (j - i - 1) : Int) : Rat) = P0 at *
    generalize ((pr s j : Int) : Rat) = P at *
    generalize ((dd s e L (L - j) : Int) : Rat) = D at *
    generalize ((dd s e L (L - j + i) : Int) : Rat) = D2 at *
    have hne : S + (E + Y) ≠ 0 := by grind
    have hs0 : S ≠ 0 := by grind
    unfold ser
    constructor
    · rw [Rat.div_def]
      have : (X + (E * X + Y * X) * S⁻¹) * P * D = (X * P * D) * (1 + (E + Y) * S⁻¹) := by grind
      rw [this, h1]
      grind
    · rw [Rat.div_def, Rat.div_def]
      have : (X + (E * X + Y * X) * S⁻¹) = X * ((S + (E + Y)) * S⁻¹) := by grind
      rw [this]
      grind
/-- The voltage of a node. -/
theorem Lad.volt_eq {s e : List Int} {g : Bool} {n L : Nat} (h : Lad s e g n L) {j : Nat} (hj : j ≤ L) : volt (qf s) (qf e) (y00 s n L) L j = ((nu s e L j : Int) : Rat) / ((dd s e L L : Int) : Rat) := by
  have hLn := h.Ln
  obtain ⟨h1, _⟩ := h.bk_dd hj j (Nat.le_refl _)
  have hD := q_lt h.D
  rw [show L - j + j = L by omega, show j - j = 0 by omega] at h1
  have hy := yy_nn (s := qf s) (e := qf e) (L := L) h.y0 (fun k hk => h.qs (by omega)) (fun k hk => h.qe (by omega)) (L - j) (by omega)
  have hX := (bk_nn (s := qf s) (e := qf e) (j := j) (x := 1) (by grind) hy (fun k hk => h.qs (by omega)) (fun k hk => h.qe (by omega)) j (by omega)).1
  unfold volt nu
  rw [if_pos hj, Rat.intCast_mul]
  have e0 : ((pr s 0 : Int) : Rat) = 1 := by simp [pr]
  rw [e0] at h1
  generalize (bk (qf s) (qf e) j 1 (yy (qf s) (qf e) (y00 s n L) L (L - j)) j).1 = X at *
  have hD0 : ((dd s e L L : Int) : Rat) ≠ 0 := by grind
  have hX0 : X ≠ 0 := by grind
  grind
/-- The stress of a gap. -/
theorem Lad.strs_eq {s e : List Int} {g : Bool} {n L : Nat} (h : Lad s e g n L) {j : Nat} (hj : j ≤ L) (hjn : j < n) : strs (qf s) (qf e) (y00 s n L) L j = (((nu s e L j - nu s e L (j + 1) : Int)) : Rat) / ((dd s e L L : Int) : Rat) := by
  have hLn := h.Ln
  have hv := h.volt_eq hj
  unfold strs
  by_cases hlt : j < L
  · rw [if_pos hlt]
    obtain ⟨m, rfl⟩ : ∃ m, L = j + 1 + m := ⟨L - j - 1, by omega⟩
    have e0 : j + 1 + m - j - 1 = m := by omega
    have hd := h.dd_yy m (by omega)
    rw [show j + 1 + m - m - 1 = j by omega] at hd
    have hy := yy_nn (s := qf s) (e := qf e) (L := j + 1 + m) h.y0 (fun k hk => h.qs (by omega)) (fun k hk => h.qe (by omega)) m (by omega)
    have hs := h.qs (k := j) (by omega)
    have he := h.qe (k := j) (by omega)
    have hD := q_lt h.D
    have hdm := q_lt (dd_pos s e (j + 1 + m) h.bs h.be (by rw [h.ls]; omega) m (by omega))
    have hpj := q_lt (pr_pos s h.bs j (by rw [h.ls]; omega))
    have e1 : ((nu s e (j + 1 + m) j : Int) : Rat) = ((pr s j : Int) : Rat) * ((qf s j + (qf e j + yy (qf s) (qf e) (y00 s n (j + 1 + m)) (j + 1 + m) m)) * ((dd s e (j + 1 + m) m : Int) : Rat)) := by
      unfold nu
      rw [if_pos (by omega), Rat.intCast_mul, show j + 1 + m - j = m + 1 by omega, hd]
    have e2 : ((nu s e (j + 1 + m) (j + 1) : Int) : Rat) = ((pr s j : Int) : Rat) * qf s j * ((dd s e (j + 1 + m) m : Int) : Rat) := by
      unfold nu
      rw [if_pos (by omega), Rat.intCast_mul, show j + 1 + m - (j + 1) = m by omega]
      rw [show pr s (j + 1) = pr s j * s.getD j 0 from rfl, Rat.intCast_mul]
      rfl
    rw [e0, Rat.intCast_sub, e1, e2]
    unfold volt at hv
    rw [show j + 1 + m - j = m + 1 by omega, e1] at hv
    have hX := (bk_nn (s := qf s) (e := qf e) (j := j) (x := 1) (by grind) (yy_nn (s := qf s) (e := qf e) (L := j + 1 + m) h.y0 (fun k hk => h.qs (by omega)) (fun k hk => h.qe (by omega)) (m + 1) (by omega)) (fun k hk => h.qs (by omega)) (fun k hk => h.qe (by omega)) j (by omega)).1
    have e3 : yy (qf s) (qf e) (y00 s n (j + 1 + m)) (j + 1 + m) (m + 1) = ser (qf s j) (qf e j + yy (qf s) (qf e) (y00 s n (j + 1 + m)) (j + 1 + m) m) := by
      simp only [yy]; rw [show j + 1 + m - m - 1 = j by omega]
    rw [e3] at hv hX
    generalize yy (qf s) (qf e) (y00 s n (j + 1 + m)) (j + 1 + m) m = Y0 at *
    generalize ((dd s e (j + 1 + m) (j + 1 + m) : Int) : Rat) = D at *
    generalize ((dd s e (j + 1 + m) m : Int) : Rat) = d at *
    generalize ((pr s j : Int) : Rat) = P at *
    have hsc := bk_scale (s := qf s) (e := qf e) (j := j) (x := 1) (g := ser (qf s j) (qf e j + Y0)) (z := 1 + qf s j / (qf e j + Y0)) j
    by_cases hz : qf e j + Y0 = 0
    · rw [if_pos hz, hz]
      have : P * ((qf s j + 0) * d) - P * qf s j * d = 0 := by grind
      rw [this]; simp [Rat.div_def]
    · rw [if_neg hz]
      have hg : (1 + qf s j / (qf e j + Y0)) * ser (qf s j) (qf e j + Y0) = qf s j := by
        unfold ser
        have : qf s j + (qf e j + Y0) ≠ 0 := by grind
        grind
      rw [hg, Rat.mul_one] at hsc
      rw [hsc]
      show 1 / ((1 + qf s j / (qf e j + Y0)) * (bk (qf s) (qf e) j 1 (ser (qf s j) (qf e j + Y0)) j).1) = _
      generalize (bk (qf s) (qf e) j 1 (ser (qf s j) (qf e j + Y0)) j).1 = X at *
      generalize qf e j + Y0 = Y at *
      generalize qf s j = S at *
      have hD0 : D ≠ 0 := by grind
      have hX0 : X ≠ 0 := by grind
      have hSY : S + Y ≠ 0 := by grind
      have k1 : P * ((S + Y) * d) * X = D := by grind
      have k2 : (1 + S / Y) * Y = S + Y := by grind
      have k3 : 1 + S / Y ≠ 0 := fun h0 => hSY (by rw [← k2, h0, Rat.zero_mul])
      have k4 : 1 / ((1 + S / Y) * X) * D = P * Y * d := by
        rw [← k1]
        have : (1 + S / Y) * X ≠ 0 := by
          intro h0
          rcases Rat.mul_eq_zero.1 h0 with h1 | h1
          · exact k3 h1
          · exact hX0 h1
        have k5 : P * ((S + Y) * d) * X = P * (Y * d) * ((1 + S / Y) * X) := by rw [← k2]; grind
        rw [k5]
        grind
      have k6 : P * ((S + Y) * d) - P * S * d = P * Y * d := by grind
      rw [k6, ← k4]
      grind
  · obtain rfl : j = L := by omega
    rw [if_neg hlt, hv]
    have : nu s e j (j + 1) = 0 := by unfold nu; rw [if_neg (by omega)]
    rw [this, Int.sub_zero]
end Go.Proofs.Ytbjgklifmillgaa

/- Two ladders with the same end: their voltages and stresses compared. No program in sight. -/
namespace Go.Proofs.Ytbjgklifmillgaa
open Go.RowKit
set_option linter.unusedVariables false

theorem q_cross {a b c d : Int} (hb : 0 < b) (hd : 0 < d) (h : (a : Rat) / (b : Rat) ≤ (c : Rat) / (d : Rat)) : a * d ≤ c * b := by
  have h1 := q_lt hb
  have h2 := q_lt hd
  have h3 : (a : Rat) / (b : Rat) * ((b : Rat) * d) ≤ (c : Rat) / (d : Rat) * ((b : Rat) * d) := Rat.mul_le_mul_of_nonneg_right h (rmul_nn (by grind) (by grind))
  have h4 : (a : Rat) / (b : Rat) * ((b : Rat) * d) = ((a * d : Int) : Rat) := by rw [Rat.intCast_mul]; grind
  have h5 : (c : Rat) / (d : Rat) * ((b : Rat) * d) = ((c * b : Int) : Rat) := by rw [Rat.intCast_mul]; grind
  rw [h4, h5] at h3
  exact Rat.intCast_le_intCast.mp h3
theorem y00_le {s s' : List Int} {n L : Nat} (h : L < n → g0' s L ≤ g0' s' L) : y00 s n L ≤ y00 s' n L := by
  unfold y00
  split
  · exact q_le (h (by assumption))
  · grind
theorem Lad.node_le {s e s' e' : List Int} {g : Bool} {n L : Nat} (h : Lad s e g n L) (h' : Lad s' e' g n L) (j : Nat)
    (hlo : ∀ k, k < j → k < n → g0' s k ≤ g0' s' k) (hhi : ∀ k, j ≤ k → k < n → g0' s' k ≤ g0' s k) (hE : ∀ k, k < n → g0' e' k ≤ g0' e k) : nu s e L j * dd s' e' L L ≤ nu s' e' L j * dd s e L L := by
  have hLn := h.Ln
  by_cases hj : j ≤ L
  · have hv := h.volt_eq hj
    have hv' := h'.volt_eq hj
    have := volt_mono (s := qf s) (e := qf e) (s' := qf s') (e' := qf e') (y0 := y00 s n L) (y0' := y00 s' n L) hj h'.y0 (y00_le (fun hL => hhi L hj hL)) (fun k hk => h.qs (by omega)) (fun k hk => h'.qs (by omega)) (fun k hk => h.qe (by omega)) (fun k hk => h'.qe (by omega))
      (fun k hk => q_le (hlo k hk (by omega))) (fun k hk hk2 => q_le (hhi k hk (by omega))) (fun k hk => q_le (hE k (by omega)))
    rw [hv, hv'] at this
    exact q_cross h.D h'.D this
  · unfold nu
    rw [if_neg hj, if_neg hj]; simp
theorem Lad.gap_le {s e s' e' : List Int} {g : Bool} {n L : Nat} (h : Lad s e g n L) (h' : Lad s' e' g n L) (j : Nat) (hj : j < n)
    (hS : ∀ k, k ≠ j → k < n → g0' s k ≤ g0' s' k) (hSj : g0' s' j ≤ g0' s j) (hlo : ∀ k, k < j → k < n → g0' e' k ≤ g0' e k) (hhi : ∀ k, j ≤ k → k < n → g0' e k ≤ g0' e' k) :
    (nu s e L j - nu s e L (j + 1)) * dd s' e' L L ≤ (nu s' e' L j - nu s' e' L (j + 1)) * dd s e L L := by
  have hLn := h.Ln
  have hv := h.strs_eq (j := j) (by omega) hj
  have hv' := h'.strs_eq (j := j) (by omega) hj
  by_cases hlt : j < L
  · have := strs_mono (s := qf s) (e := qf e) (s' := qf s') (e' := qf e') (y0 := y00 s n L) (y0' := y00 s' n L) hlt h.y0 (y00_le (fun hL => hS L (by omega) hL)) (fun k hk => h.qs (by omega)) (fun k hk => h'.qs (by omega)) (fun k hk => h.qe (by omega)) (fun k hk => h'.qe (by omega))
      (fun k hk hk2 => q_le (hS k hk2 (by omega))) (q_le hSj) (fun k hk => q_le (hlo k hk (by omega))) (fun k hk hk2 => q_le (hhi k hk (by omega)))
    rw [hv, hv'] at this
    exact q_cross h.D h'.D this
  · obtain rfl : j = L := by omega
    have := strs_last (s := qf s) (e := qf e) (s' := qf s') (e' := qf e') (y0 := y00 s n j) (y0' := y00 s' n j) h'.y0 (y00_le (fun _ => hSj)) (fun k hk => h.qs (by omega)) (fun k hk => h'.qs (by omega)) (fun k hk => h.qe (by omega)) (fun k hk => h'.qe (by omega))
      (fun k hk => q_le (hS k (by omega) (by omega))) (fun k hk => q_le (hlo k hk (by omega)))
    rw [hv, hv'] at this
    exact q_cross h.D h'.D this
end Go.Proofs.Ytbjgklifmillgaa

/- A ladder that is drawn from ranges: its voltages and stresses lie in the spans. No program in sight. -/
namespace Go.Proofs.Ytbjgklifmillgaa
open Go.RowKit
set_option linter.unusedVariables false

/-- The capacitance that is drawn from the range k. -/
def pkS (l : List (Int × Int)) (X : List Int) (o k : Nat) : Int := (gr l k).1 + X.getD (2 * k + o) 0 % ((gr l k).2 - (gr l k).1 + 1)
def pkL (l : List (Int × Int)) (X : List Int) (o n : Nat) : List Int := (List.range n).map (pkS l X o)
theorem pkL_len (l : List (Int × Int)) (X : List Int) (o n : Nat) : (pkL l X o n).length = n := by simp [pkL]
theorem pkL_snoc (l : List (Int × Int)) (X : List Int) (o n : Nat) : pkL l X o (n + 1) = pkL l X o n ++ [pkS l X o n] := by simp [pkL, List.range_succ]
theorem pkL_get (l : List (Int × Int)) (X : List Int) (o n k : Nat) (h : k < n) : g0' (pkL l X o n) k = pkS l X o k := by
  simp [pkL, g0', List.getD, h]
theorem pkS_bd {l : List (Int × Int)} {X : List Int} {o k : Nat} (h : (gr l k).1 ≤ (gr l k).2) : (gr l k).1 ≤ pkS l X o k ∧ pkS l X o k ≤ (gr l k).2 := by
  unfold pkS
  have h1 := Int.emod_nonneg (X.getD (2 * k + o) 0) (show (gr l k).2 - (gr l k).1 + 1 ≠ 0 by omega)
  have h2 := Int.emod_lt_of_pos (X.getD (2 * k + o) 0) (show 0 < (gr l k).2 - (gr l k).1 + 1 by omega)
  omega
theorem ext_get (l : List (Int × Int)) (p : Nat → Bool) (high : Bool) (n k : Nat) (h : k < n) : g0' (extAt l p high n) k = endOf (gr l k) (p k) high := by
  simp [extAt, g0', gr, List.getD, h]
theorem rng_pk {s e : List (Int × Int)} {n L : Nat} {g : Bool} (X : List Int) (h : rngErr s e = 0) (hn : s.length = n) (hL : lastOf n g = L) : Lad (pkL s X 0 n) (pkL e X 1 n) g n L := by
  obtain ⟨h1, h2, h3, h4⟩ := rngErr_zero h
  refine ⟨by omega, by omega, pkL_len .., pkL_len .., fun x hx => ?_, fun x hx => ?_, hL⟩
  · simp only [pkL, List.mem_map, List.mem_range] at hx
    obtain ⟨k, hk, rfl⟩ := hx
    have := h4 k (by omega)
    have := pkS_bd (l := s) (X := X) (o := 0) (k := k) (by omega)
    omega
  · simp only [pkL, List.mem_map, List.mem_range] at hx
    obtain ⟨k, hk, rfl⟩ := hx
    have := h4 k (by omega)
    have := pkS_bd (l := e) (X := X) (o := 1) (k := k) (by omega)
    omega
theorem rng_ext {s e : List (Int × Int)} {n L : Nat} {g : Bool} (p q : Nat → Bool) (high : Bool) (h : rngErr s e = 0) (hn : s.length = n) (hL : lastOf n g = L) : Lad (extAt s p high n) (extAt e q high n) g n L := by
  obtain ⟨h1, h2, h3, h4⟩ := rngErr_zero h
  refine ⟨by omega, by omega, ext_len .., ext_len .., ext_bd s p high n 1 100 (fun i hi => ?_), ext_bd e q high n 0 100 (fun i hi => ?_), hL⟩
  · have := h4 i (by omega); omega
  · have := h4 i (by omega); omega
theorem end_lo (f : Int × Int) : endOf f true false = f.1 := by simp [endOf]
theorem end_hi (f : Int × Int) : endOf f true true = f.2 := by simp [endOf]
theorem end_lo' (f : Int × Int) : endOf f false true = f.1 := by simp [endOf]
theorem end_hi' (f : Int × Int) : endOf f false false = f.2 := by simp [endOf]
/-- Fractions in lowest terms are compared as the quotients are. -/
theorem low_le {a b c d : Int} (hb : 0 < b) (hd : 0 < d) (h : a * d ≤ c * b) : (low a b).1 * (low c d).2 ≤ (low c d).1 * (low a b).2 := by
  have h1 := low_cross a b hb
  have h2 := low_cross c d hd
  have h3 := low_den' (a := a) hb
  have h4 := low_den' (a := c) hd
  generalize (low a b).1 = p at *
  generalize (low a b).2 = q at *
  generalize (low c d).1 = r at *
  generalize (low c d).2 = t at *
  have h5 : (a * d) * (q * t) ≤ (c * b) * (q * t) := Int.mul_le_mul_of_nonneg_right h (Int.mul_nonneg (by omega) (by omega))
  have h6 : (p * t) * (b * d) = (a * d) * (q * t) := by
    have : (p * t) * (b * d) = (p * b) * (t * d) := by grind
    rw [this, h1]; grind
  have h7 : (r * q) * (b * d) = (c * b) * (q * t) := by
    have : (r * q) * (b * d) = (r * d) * (q * b) := by grind
    rw [this, h2]; grind
  exact Int.le_of_mul_le_mul_right (by rw [h6, h7]; exact h5) (Int.mul_pos hb hd)
theorem low_rat (a b : Int) (hb : 0 < b) : Rat.divInt (low a b).1 (low a b).2 = (a : Rat) / (b : Rat) := by
  have h1 := low_cross a b hb
  have h3 := low_den' (a := a) hb
  rw [← Rat.divInt_eq_div, Rat.divInt_eq_divInt_iff (by omega) (by omega)]
  omega
/-- The fraction of a node's voltage. -/
def uFr (s e : List Int) (L j : Nat) : Int × Int := low (nu s e L j) (dd s e L L)
theorem rng_le {s e : List (Int × Int)} (h : rngErr s e = 0) {n : Nat} (hn : s.length = n) {k : Nat} (hk : k < n) : (gr s k).1 ≤ (gr s k).2 ∧ (gr e k).1 ≤ (gr e k).2 := by
  obtain ⟨_, _, _, h4⟩ := rngErr_zero h
  have := h4 k (by omega)
  omega
/-- A node's voltage lies in its span. -/
theorem node_enc {s e : List (Int × Int)} {n L : Nat} {g : Bool} (X : List Int) (h : rngErr s e = 0) (hn : s.length = n) (hL : lastOf n g = L) (j : Nat) (hj : j ≤ n) :
    (nodeFr s e n L j false).1 * (uFr (pkL s X 0 n) (pkL e X 1 n) L j).2 ≤ (uFr (pkL s X 0 n) (pkL e X 1 n) L j).1 * (nodeFr s e n L j false).2 ∧ (uFr (pkL s X 0 n) (pkL e X 1 n) L j).1 * (nodeFr s e n L j true).2 ≤ (nodeFr s e n L j true).1 * (uFr (pkL s X 0 n) (pkL e X 1 n) L j).2 ∧
    (nodeFr s e n L j false).1 * (nodeFr s e n L j true).2 ≤ (nodeFr s e n L j true).1 * (nodeFr s e n L j false).2 ∧
    (∀ hi, 1 ≤ (nodeFr s e n L j hi).2 ∧ gc (nodeFr s e n L j hi).1 (nodeFr s e n L j hi).2 = 1) := by
  have l0 := rng_pk X h hn hL
  have l1 := rng_ext (np1 j) np2 false h hn hL
  have l2 := rng_ext (np1 j) np2 true h hn hL
  have hu : ∀ high, nodeFr s e n L j high = low (nu (extAt s (np1 j) high n) (extAt e np2 high n) L j) (dd (extAt s (np1 j) high n) (extAt e np2 high n) L L) := fun high => by
    unfold nodeFr nodeNum nodeDen
    rw [nums_nu _ _ _ _ _ hj]
  have hb := fun k (hk : k < n) => rng_le h hn hk
  have hp : ∀ k, k < n → (np1 j k = true ↔ k < j) := fun k _ => by simp [np1]
  have e1 : ∀ k, k < n → g0' (extAt e np2 false n) k = (gr e k).2 := fun k hk => by rw [ext_get _ _ _ _ _ hk]; exact end_hi' _
  have e2 : ∀ k, k < n → g0' (extAt e np2 true n) k = (gr e k).1 := fun k hk => by rw [ext_get _ _ _ _ _ hk]; exact end_lo' _
  have s1 : ∀ k, k < n → (k < j → g0' (extAt s (np1 j) false n) k = (gr s k).1 ∧ g0' (extAt s (np1 j) true n) k = (gr s k).2) ∧ (j ≤ k → g0' (extAt s (np1 j) false n) k = (gr s k).2 ∧ g0' (extAt s (np1 j) true n) k = (gr s k).1) := fun k hk => by
    rw [ext_get _ _ _ _ _ hk, ext_get _ _ _ _ _ hk]
    refine ⟨fun hkj => ?_, fun hkj => ?_⟩
    · rw [(hp k hk).2 hkj]; exact ⟨end_lo _, end_hi _⟩
    · have : np1 j k = false := by simp [np1]; omega
      rw [this]; exact ⟨end_hi' _, end_lo' _⟩
  have pS : ∀ k, k < n → (gr s k).1 ≤ g0' (pkL s X 0 n) k ∧ g0' (pkL s X 0 n) k ≤ (gr s k).2 := fun k hk => by rw [pkL_get _ _ _ _ _ hk]; exact pkS_bd (hb k hk).1
  have pE : ∀ k, k < n → (gr e k).1 ≤ g0' (pkL e X 1 n) k ∧ g0' (pkL e X 1 n) k ≤ (gr e k).2 := fun k hk => by rw [pkL_get _ _ _ _ _ hk]; exact pkS_bd (hb k hk).2
  rw [hu, hu]
  unfold uFr
  refine ⟨low_le l1.D l0.D (l1.node_le l0 j (fun k hk hkn => ?_) (fun k hk hkn => ?_) (fun k hk => ?_)), low_le l0.D l2.D (l0.node_le l2 j (fun k hk hkn => ?_) (fun k hk hkn => ?_) (fun k hk => ?_)), low_le l1.D l2.D (l1.node_le l2 j (fun k hk hkn => ?_) (fun k hk hkn => ?_) (fun k hk => ?_)), fun hi => ?_⟩
  · rw [((s1 k hkn).1 hk).1]; exact (pS k hkn).1
  · rw [((s1 k hkn).2 hk).1]; exact (pS k hkn).2
  · rw [e1 k hk]; exact (pE k hk).2
  · rw [((s1 k hkn).1 hk).2]; exact (pS k hkn).2
  · rw [((s1 k hkn).2 hk).2]; exact (pS k hkn).1
  · rw [e2 k hk]; exact (pE k hk).1
  · rw [((s1 k hkn).1 hk).1, ((s1 k hkn).1 hk).2]; exact (hb k hkn).1
  · rw [((s1 k hkn).2 hk).1, ((s1 k hkn).2 hk).2]; exact (hb k hkn).1
  · rw [e1 k hk, e2 k hk]; exact (hb k hk).2
  · rw [hu]
    have lh := rng_ext (np1 j) np2 hi h hn hL
    exact ⟨low_den' lh.D, low_gc _ _ lh.D⟩
/-- A gap's stress lies in its span. -/
theorem gap_enc {s e : List (Int × Int)} {n L : Nat} {g : Bool} (X : List Int) (h : rngErr s e = 0) (hn : s.length = n) (hL : lastOf n g = L) (j : Nat) (hj : j < n) :
    Rat.divInt (gapFr s e n L j false).1 (gapFr s e n L j false).2 ≤ Rat.divInt (uFr (pkL s X 0 n) (pkL e X 1 n) L j).1 (uFr (pkL s X 0 n) (pkL e X 1 n) L j).2 - Rat.divInt (uFr (pkL s X 0 n) (pkL e X 1 n) L (j + 1)).1 (uFr (pkL s X 0 n) (pkL e X 1 n) L (j + 1)).2 ∧
    Rat.divInt (uFr (pkL s X 0 n) (pkL e X 1 n) L j).1 (uFr (pkL s X 0 n) (pkL e X 1 n) L j).2 - Rat.divInt (uFr (pkL s X 0 n) (pkL e X 1 n) L (j + 1)).1 (uFr (pkL s X 0 n) (pkL e X 1 n) L (j + 1)).2 ≤ Rat.divInt (gapFr s e n L j true).1 (gapFr s e n L j true).2 ∧
    (gapFr s e n L j false).1 * (gapFr s e n L j true).2 ≤ (gapFr s e n L j true).1 * (gapFr s e n L j false).2 ∧
    (∀ hi, 1 ≤ (gapFr s e n L j hi).2 ∧ gc (gapFr s e n L j hi).1 (gapFr s e n L j hi).2 = 1) := by
  have l0 := rng_pk X h hn hL
  have l1 := rng_ext (gp1 j) (gp2 j) false h hn hL
  have l2 := rng_ext (gp1 j) (gp2 j) true h hn hL
  have hu : ∀ high, gapFr s e n L j high = low (nu (extAt s (gp1 j) high n) (extAt e (gp2 j) high n) L j - nu (extAt s (gp1 j) high n) (extAt e (gp2 j) high n) L (j + 1)) (dd (extAt s (gp1 j) high n) (extAt e (gp2 j) high n) L L) := fun high => by
    unfold gapFr gapNum gapDen
    rw [nums_nu _ _ _ _ _ (by omega), nums_nu _ _ _ _ _ (by omega)]
  have hb := fun k (hk : k < n) => rng_le h hn hk
  have s1 : ∀ k, k < n → (k ≠ j → g0' (extAt s (gp1 j) false n) k = (gr s k).1 ∧ g0' (extAt s (gp1 j) true n) k = (gr s k).2) ∧ (k = j → g0' (extAt s (gp1 j) false n) k = (gr s k).2 ∧ g0' (extAt s (gp1 j) true n) k = (gr s k).1) := fun k hk => by
    rw [ext_get _ _ _ _ _ hk, ext_get _ _ _ _ _ hk]
    refine ⟨fun hkj => ?_, fun hkj => ?_⟩
    · have : gp1 j k = true := by simp [gp1]; omega
      rw [this]; exact ⟨end_lo _, end_hi _⟩
    · have : gp1 j k = false := by simp [gp1]; omega
      rw [this]; exact ⟨end_hi' _, end_lo' _⟩
  have e1 : ∀ k, k < n → (j ≤ k → g0' (extAt e (gp2 j) false n) k = (gr e k).1 ∧ g0' (extAt e (gp2 j) true n) k = (gr e k).2) ∧ (k < j → g0' (extAt e (gp2 j) false n) k = (gr e k).2 ∧ g0' (extAt e (gp2 j) true n) k = (gr e k).1) := fun k hk => by
    rw [ext_get _ _ _ _ _ hk, ext_get _ _ _ _ _ hk]
    refine ⟨fun hkj => ?_, fun hkj => ?_⟩
    · have : gp2 j k = true := by simp [gp2]; omega
      rw [this]; exact ⟨end_lo _, end_hi _⟩
    · have : gp2 j k = false := by simp [gp2]; omega
      rw [this]; exact ⟨end_hi' _, end_lo' _⟩
  have pS : ∀ k, k < n → (gr s k).1 ≤ g0' (pkL s X 0 n) k ∧ g0' (pkL s X 0 n) k ≤ (gr s k).2 := fun k hk => by rw [pkL_get _ _ _ _ _ hk]; exact pkS_bd (hb k hk).1
  have pE : ∀ k, k < n → (gr e k).1 ≤ g0' (pkL e X 1 n) k ∧ g0' (pkL e X 1 n) k ≤ (gr e k).2 := fun k hk => by rw [pkL_get _ _ _ _ _ hk]; exact pkS_bd (hb k hk).2
  have c1 := l1.gap_le l0 j hj (fun k hk hkn => by rw [((s1 k hkn).1 hk).1]; exact (pS k hkn).1) (by rw [((s1 j hj).2 rfl).1]; exact (pS j hj).2) (fun k hk hkn => by rw [((e1 k hkn).2 hk).1]; exact (pE k hkn).2) (fun k hk hkn => by rw [((e1 k hkn).1 hk).1]; exact (pE k hkn).1)
  have c2 := l0.gap_le l2 j hj (fun k hk hkn => by rw [((s1 k hkn).1 hk).2]; exact (pS k hkn).2) (by rw [((s1 j hj).2 rfl).2]; exact (pS j hj).1) (fun k hk hkn => by rw [((e1 k hkn).2 hk).2]; exact (pE k hkn).1) (fun k hk hkn => by rw [((e1 k hkn).1 hk).2]; exact (pE k hkn).2)
  have c3 := l1.gap_le l2 j hj (fun k hk hkn => by rw [((s1 k hkn).1 hk).1, ((s1 k hkn).1 hk).2]; exact (hb k hkn).1) (by rw [((s1 j hj).2 rfl).1, ((s1 j hj).2 rfl).2]; exact (hb j hj).1) (fun k hk hkn => by rw [((e1 k hkn).2 hk).1, ((e1 k hkn).2 hk).2]; exact (hb k hkn).2) (fun k hk hkn => by rw [((e1 k hkn).1 hk).1, ((e1 k hkn).1 hk).2]; exact (hb k hkn).2)
  have hd0 := q_lt l0.D
  have hd1 := q_lt l1.D
  have hd2 := q_lt l2.D
  have hst : Rat.divInt (uFr (pkL s X 0 n) (pkL e X 1 n) L j).1 (uFr (pkL s X 0 n) (pkL e X 1 n) L j).2 - Rat.divInt (uFr (pkL s X 0 n) (pkL e X 1 n) L (j + 1)).1 (uFr (pkL s X 0 n) (pkL e X 1 n) L (j + 1)).2 = ((nu (pkL s X 0 n) (pkL e X 1 n) L j - nu (pkL s X 0 n) (pkL e X 1 n) L (j + 1) : Int) : Rat) / ((dd (pkL s X 0 n) (pkL e X 1 n) L L : Int) : Rat) := by
    unfold uFr
    rw [low_rat _ _ l0.D, low_rat _ _ l0.D, Rat.intCast_sub, Rat.div_def, Rat.div_def, Rat.div_def]; grind
  rw [hst, hu, hu, low_rat _ _ l1.D, low_rat _ _ l2.D]
  refine ⟨rdiv_le (by simpa using hd1) (by simpa using hd0) ?_, rdiv_le (by simpa using hd0) (by simpa using hd2) ?_, low_le l1.D l2.D c3, fun hi => ?_⟩
  · have := q_le c1
    rwa [Rat.intCast_mul, Rat.intCast_mul] at this
  · have := q_le c2
    rwa [Rat.intCast_mul, Rat.intCast_mul] at this
  · rw [hu]
    have lh := rng_ext (gp1 j) (gp2 j) hi h hn hL
    exact ⟨low_den' lh.D, low_gc _ _ lh.D⟩
end Go.Proofs.Ytbjgklifmillgaa
