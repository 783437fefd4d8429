/- The initial distribution: its equations. -/
import Derived.Test.YtiellefbndlkkaaFallPlain
namespace Go.Proofs.Ytiellefbndlkkaa
open Go.RowKit
set_option linter.unusedVariables false

/-- A numerator of the initial distribution. -/
def nu (s e : List Int) (L j : Nat) : Int := if j ≤ L then pr s j * dd s e L (L - j) else 0
theorem init_len (s e : List Int) (n L : Nat) : (initOf s e n L).length = n + 1 := by simp [initOf, numsOf]
theorem init_gp {s e : List Int} {n L j : Nat} (hj : j < n + 1) : gp (initOf s e n L) j = low (nu s e L j) (dd s e L L) := by
  simp [gp, initOf, numsOf, List.getD, hj, nu]
structure Lad (s e : List Int) (g : Bool) (n L : Nat) : Prop where
  n0 : 0 < n
  n6 : n ≤ 6
  ls : s.length = n
  le : e.length = n
  bs : ∀ x ∈ s, 1 ≤ x ∧ x ≤ 100
  be : ∀ x ∈ e, 0 ≤ x ∧ x ≤ 100
  hL : lastOf n g = L
theorem Lad.Ln {s e : List Int} {g : Bool} {n L : Nat} (h : Lad s e g n L) : L ≤ n ∧ n ≤ L + 1 := by
  have := h.hL
  have := h.n0
  unfold lastOf at *
  split at * <;> omega
theorem Lad.D {s e : List Int} {g : Bool} {n L : Nat} (h : Lad s e g n L) : 0 < dd s e L L := dd_pos s e L h.bs h.be (by have := h.Ln; have := h.ls; omega) L (Nat.le_refl _)
theorem Lad.s {s e : List Int} {g : Bool} {n L : Nat} (h : Lad s e g n L) {k : Nat} (hk : k < n) : 1 ≤ g0' s k ∧ g0' s k ≤ 100 := h.bs _ (getD_mem (by rw [h.ls]; exact hk))
theorem Lad.own {s e : List Int} {g : Bool} {n L : Nat} (h : Lad s e g n L) {k : Nat} (hk : k < n) : 0 < ownOf s e k ∧ ownOf s e k ≤ 300 := by
  have h1 := own_bd s e k (fun x hx => by have := h.bs x hx; omega) h.be
  have h2 := h.s hk
  have h3 : 0 ≤ e.getD k 0 := (h.be _ (getD_mem (by rw [h.le]; exact hk))).1
  refine ⟨?_, h1.2⟩
  unfold ownOf
  by_cases h4 : k + 1 < s.length
  · have := h.s (k := k + 1) (by rw [← h.ls]; exact h4)
    rw [if_pos h4]
    show 0 < g0' s k + e.getD k 0 + g0' s (k + 1)
    omega
  · rw [if_neg h4]
    show 0 < g0' s k + e.getD k 0
    omega
theorem Lad.nu_bd {s e : List Int} {g : Bool} {n L : Nat} (h : Lad s e g n L) (j : Nat) : 0 ≤ nu s e L j ∧ nu s e L j ≤ dd s e L L := by
  unfold nu
  by_cases hj : j ≤ L
  · rw [if_pos hj]
    have := Go.Proofs.Ytiellefbndlkkaa.nu_bd s e L h.bs h.be (by have := h.Ln; have := h.ls; omega) j hj
    omega
  · rw [if_neg hj]
    have := h.D
    omega
theorem Lad.nu_fall {s e : List Int} {g : Bool} {n L : Nat} (h : Lad s e g n L) (j : Nat) : nu s e L (j + 1) ≤ nu s e L j := by
  by_cases hj : j + 1 ≤ L
  · have := Go.Proofs.Ytiellefbndlkkaa.nu_fall s e L h.bs h.be (by have := h.Ln; have := h.ls; omega) j hj
    unfold nu
    rw [if_pos hj, if_pos (by omega)]
    exact this
  · have := h.nu_bd j
    unfold nu at *
    rw [if_neg hj]
    exact this.1
theorem nu_zero (s e : List Int) (L : Nat) : nu s e L 0 = dd s e L L := by
  unfold nu
  rw [if_pos (Nat.zero_le _)]
  simp [pr]
theorem Lad.eq {s e : List Int} {g : Bool} {n L : Nat} (h : Lad s e g n L) {j : Nat} (hj : j + 1 ≤ L) :
    ownOf s e j * nu s e L (j + 1) + -(g0' s j) * nu s e L j + (if j + 1 < n then -(g0' s (j + 1)) * nu s e L (j + 1 + 1) else 0) = 0 := by
  have hLn := h.Ln
  unfold nu
  rw [if_pos hj, if_pos (by omega)]
  have e1 : pr s (j + 1) = pr s j * g0' s j := rfl
  by_cases h2 : j + 1 = L
  · subst h2
    rw [show j + 1 - (j + 1) = 0 by omega, show j + 1 - j = 1 by omega, e1]
    have e2 : dd s e (j + 1) 1 = ownOf s e j := by show ownOf s e (j + 1 - 1) = _; rw [Nat.add_sub_cancel]
    have e3 : dd s e (j + 1) 0 = 1 := rfl
    rw [e2, e3, if_neg (show ¬ j + 1 + 1 ≤ j + 1 by omega)]
    have : (if j + 1 < n then -(g0' s (j + 1)) * 0 else 0 : Int) = 0 := by split <;> simp
    rw [this]
    grind
  · obtain ⟨m, hm⟩ : ∃ m, L = j + 2 + m := ⟨L - j - 2, by omega⟩
    rw [if_pos (by omega), if_pos (by omega), show L - (j + 1) = m + 1 by omega, show L - j = m + 2 by omega, show L - (j + 1 + 1) = m by omega]
    have e2 : dd s e L (m + 2) = ownOf s e j * dd s e L (m + 1) - g0' s (j + 1) * g0' s (j + 1) * dd s e L m := by
      show ownOf s e (L - m - 2) * dd s e L (m + 1) - s.getD (L - m - 1) 0 * s.getD (L - m - 1) 0 * dd s e L m = _
      rw [show L - m - 2 = j by omega, show L - m - 1 = j + 1 by omega]
    have e3 : pr s (j + 1 + 1) = pr s j * g0' s j * g0' s (j + 1) := rfl
    rw [e1, e2, e3]
    grind
theorem Lad.cross {s e : List Int} {g : Bool} {n L : Nat} (h : Lad s e g n L) {j : Nat} (hj : j < n + 1) : (gp (initOf s e n L) j).1 * dd s e L L = nu s e L j * (gp (initOf s e n L) j).2 := by
  rw [init_gp hj]
  exact low_cross _ _ h.D
theorem Lad.first {s e : List Int} {g : Bool} {n L : Nat} (h : Lad s e g n L) : gp (initOf s e n L) 0 = (1, 1) := by
  rw [init_gp (by omega), nu_zero]
  exact low_self h.D
theorem Lad.past {s e : List Int} {g : Bool} {n L : Nat} (h : Lad s e g n L) {j : Nat} (hj : j < n + 1) (hl : L < j) : gp (initOf s e n L) j = (0, 1) := by
  rw [init_gp hj]
  unfold nu
  rw [if_neg (by omega)]
  exact low_nil h.D
/-- Small fractions are in order. -/
theorem Lad.ok {s e : List Int} {g : Bool} {n L : Nat} (h : Lad s e g n L) (hs : (initOf s e n L).any (fun f => !smallF f) = false) {j : Nat} (hj : j < n + 1) :
    FrOk (gp (initOf s e n L) j) ∧ 0 ≤ (gp (initOf s e n L) j).1 := by
  have hD := h.D
  have hb := h.nu_bd j
  have hm : gp (initOf s e n L) j ∈ initOf s e n L := gp_mem (by rw [init_len]; exact hj)
  rw [List.any_eq_false] at hs
  have h1 := hs _ hm
  simp only [Bool.not_eq_true, Bool.not_eq_false'] at h1
  unfold smallF at h1
  simp only [Bool.and_eq_true, decide_eq_true_eq, wi_iff] at h1
  rw [init_gp hj] at h1 ⊢
  have h2 := low_den' (a := nu s e L j) hD
  exact ⟨⟨by omega, low_gc _ _ hD, h1.1.1, h1.1.2, h1.2⟩, low_nn hb.1 hD⟩
theorem Lad.fall {s e : List Int} {g : Bool} {n L : Nat} (h : Lad s e g n L) {j : Nat} (hj : j + 1 < n + 1) :
    (gp (initOf s e n L) (j + 1)).1 * (gp (initOf s e n L) j).2 ≤ (gp (initOf s e n L) j).1 * (gp (initOf s e n L) (j + 1)).2 := by
  have hD := h.D
  have c1 := h.cross hj
  have c0 := h.cross (show j < n + 1 by omega)
  have hf := h.nu_fall j
  have d1 := low_den' (a := nu s e L (j + 1)) hD
  have d0 := low_den' (a := nu s e L j) hD
  rw [← init_gp (s := s) (e := e) (n := n) (L := L) hj] at d1
  rw [← init_gp (s := s) (e := e) (n := n) (L := L) (show j < n + 1 by omega)] at d0
  generalize (gp (initOf s e n L) (j + 1)).1 = p at *
  generalize (gp (initOf s e n L) (j + 1)).2 = q at *
  generalize (gp (initOf s e n L) j).1 = p' at *
  generalize (gp (initOf s e n L) j).2 = q' at *
  generalize dd s e L L = D at *
  refine Int.le_of_mul_le_mul_left ?_ hD
  have e1 : D * (p * q') = nu s e L (j + 1) * (q * q') := by rw [show D * (p * q') = (p * D) * q' by grind, c1]; grind
  have e2 : D * (p' * q) = nu s e L j * (q * q') := by rw [show D * (p' * q) = (p' * D) * q by grind, c0]; grind
  rw [e1, e2]
  exact Int.mul_le_mul_of_nonneg_right hf (Int.mul_nonneg (by omega) (by omega))
theorem Lad.terms {s e : List Int} {g : Bool} {n L : Nat} (h : Lad s e g n L) (u : List (Int × Int)) (j : Nat) :
    tS (tms s e u n (j + 1)) (tms s e u n (j + 1)).length = if j + 1 < n then ownOf s e j * (gp u (j + 1)).1 * (gp u j).2 * (gp u (j + 1 + 1)).2 + -(g0' s j) * (gp u j).1 * (gp u (j + 1)).2 * (gp u (j + 1 + 1)).2 + -(g0' s (j + 1)) * (gp u (j + 1 + 1)).1 * (gp u (j + 1)).2 * (gp u j).2
      else ownOf s e j * (gp u (j + 1)).1 * (gp u j).2 + -(g0' s j) * (gp u j).1 * (gp u (j + 1)).2 := by
  unfold tms
  rw [Nat.add_sub_cancel]
  by_cases hj : j + 1 < n
  · rw [if_pos hj, if_pos hj]
    exact tS3 _ _ _
  · rw [if_neg hj, if_neg hj]
    exact tS2 _ _
theorem Lad.sum {s e : List Int} {g : Bool} {n L : Nat} (h : Lad s e g n L) {j : Nat} (hj : j + 1 ≤ L) : tS (tms s e (initOf s e n L) n (j + 1)) (tms s e (initOf s e n L) n (j + 1)).length = 0 := by
  have hLn := h.Ln
  have he := h.eq hj
  rw [h.terms]
  by_cases h1 : j + 1 < n
  · rw [if_pos h1] at he ⊢
    exact zero3 h.D (h.cross (by omega)) (h.cross (by omega)) (h.cross (by omega)) he
  · rw [if_neg h1] at he ⊢
    exact zero2 h.D (h.cross (by omega)) (h.cross (by omega)) (by omega)
theorem Lad.holds {s e : List Int} {g : Bool} {n L : Nat} (h : Lad s e g n L) {i : Nat} (hi : i < n + 1) : hold s e (initOf s e n L) g n i = true := by
  unfold hold
  rw [h.hL]
  by_cases h0 : i = 0
  · rw [if_pos h0, h.first]; rfl
  · rw [if_neg h0]
    by_cases h1 : (L : Int) < (i : Int)
    · rw [if_pos h1, h.past hi (by omega)]; rfl
    · rw [if_neg h1]
      obtain ⟨j, rfl⟩ : ∃ j, i = j + 1 := ⟨i - 1, by omega⟩
      exact zUpto_zero (h.sum (by omega)) 4
theorem gp_set {u : List (Int × Int)} {k i : Nat} {x : Int × Int} (hk : k < u.length) : gp (u.set k x) i = if i = k then x else gp u i := by
  unfold gp
  by_cases h : i = k
  · subst h; simp [List.getD, hk]
  · rw [if_neg h]
    simp [List.getD, show ¬ k = i from fun e => h e.symm]
theorem Lad.bdS {s e : List Int} {g : Bool} {n L : Nat} (h : Lad s e g n L) {u : List (Int × Int)} (hu : ∀ i, i < n + 1 → FrOk (gp u i)) {j : Nat} (hj : j < n) :
    -1000000000000000000000000000000 ≤ tS (tms s e u n (j + 1)) (tms s e u n (j + 1)).length ∧ tS (tms s e u n (j + 1)) (tms s e u n (j + 1)).length ≤ 1000000000000000000000000000000 := by
  have h0 := hu j (by omega)
  have h1 := hu (j + 1) (by omega)
  have ho := h.own hj
  have hs := h.s hj
  unfold FrOk at h0 h1
  rw [h.terms]
  by_cases h2 : j + 1 < n
  · have h3 := hu (j + 1 + 1) (by omega)
    have hs1 := h.s h2
    unfold FrOk at h3
    rw [if_pos h2]
    have a1 := bd4 (o := ownOf s e j) (p := (gp u (j + 1)).1) (q := (gp u j).2) (r := (gp u (j + 1 + 1)).2) (by omega) (by omega) (by omega) (by omega)
    have a2 := bd4 (o := -(g0' s j)) (p := (gp u j).1) (q := (gp u (j + 1)).2) (r := (gp u (j + 1 + 1)).2) (by omega) (by omega) (by omega) (by omega)
    have a3 := bd4 (o := -(g0' s (j + 1))) (p := (gp u (j + 1 + 1)).1) (q := (gp u (j + 1)).2) (r := (gp u j).2) (by omega) (by omega) (by omega) (by omega)
    omega
  · rw [if_neg h2]
    have a1 := bd4 (o := ownOf s e j) (p := (gp u (j + 1)).1) (q := (gp u j).2) (r := 1) (by omega) (by omega) (by omega) (by omega)
    have a2 := bd4 (o := -(g0' s j)) (p := (gp u j).1) (q := (gp u (j + 1)).2) (r := 1) (by omega) (by omega) (by omega) (by omega)
    rw [Int.mul_one] at a1 a2
    omega
theorem Lad.changed {s e : List Int} {g : Bool} {n L : Nat} (h : Lad s e g n L) (hok : ∀ i, i < n + 1 → FrOk (gp (initOf s e n L) i)) {k : Nat} (hk : k < n + 1) {x : Int × Int} (hx : FrOk x) (hne : x ≠ gp (initOf s e n L) k) :
    ∃ i, i < n + 1 ∧ hold s e ((initOf s e n L).set k x) g n i = false := by
  refine ⟨k, hk, ?_⟩
  have hlen := init_len s e n L
  have hkk : gp ((initOf s e n L).set k x) k = x := by rw [gp_set (by omega), if_pos rfl]
  have hoth : ∀ i, i ≠ k → gp ((initOf s e n L).set k x) i = gp (initOf s e n L) i := fun i hi => by rw [gp_set (by omega), if_neg hi]
  have hU : ∀ i, i < n + 1 → FrOk (gp ((initOf s e n L).set k x) i) := fun i hi => by
    by_cases h1 : i = k
    · rw [h1, hkk]; exact hx
    · rw [hoth i h1]; exact hok i hi
  obtain ⟨p', q'⟩ := x
  have hne2 : ∀ a b : Int, gp (initOf s e n L) k = (a, b) → (p' == a && q' == b) = false := by
    intro a b hab
    rw [hab] at hne
    by_cases h1 : p' = a
    · by_cases h2 : q' = b
      · exact absurd (by rw [h1, h2]) hne
      · simp [h2]
    · simp [h1]
  unfold hold
  rw [h.hL]
  by_cases h0 : k = 0
  · subst h0
    rw [if_pos rfl, hkk]
    exact hne2 1 1 h.first
  · rw [if_neg h0]
    by_cases h1 : (L : Int) < (k : Int)
    · rw [if_pos h1, hkk]
      exact hne2 0 1 (h.past hk (by omega))
    · rw [if_neg h1]
      obtain ⟨j, rfl⟩ : ∃ j, k = j + 1 := ⟨k - 1, by omega⟩
      have hLn := h.Ln
      cases hz : zUpto (tms s e ((initOf s e n L).set (j + 1) (p', q')) n (j + 1)) 4
      · rfl
      · exfalso
        have h2 := zUpto_true hz (h.bdS hU (by omega))
        have h3 := h.sum (show j + 1 ≤ L by omega)
        have ho := (h.own (show j < n by omega)).1
        rw [h.terms] at h2 h3
        rw [hkk, hoth j (by omega)] at h2
        have f1 := hok (j + 1) hk
        have f0 := hok j (by omega)
        unfold FrOk at f1 f0 hx
        have hcr : p' * (gp (initOf s e n L) (j + 1)).2 = (gp (initOf s e n L) (j + 1)).1 * q' := by
          by_cases h4 : j + 1 < n
          · rw [if_pos h4] at h2 h3
            rw [hoth (j + 1 + 1) (by omega)] at h2
            have f2 := hok (j + 1 + 1) (by omega)
            unfold FrOk at f2
            exact other3 ho f0.1 f2.1 h3 h2
          · rw [if_neg h4] at h2 h3
            exact other2 ho f0.1 h3 h2
        have := frac_eq f1.1 hx.1 f1.2.1 hx.2.1 hcr
        exact hne (Prod.ext this.1 this.2)
end Go.Proofs.Ytiellefbndlkkaa
