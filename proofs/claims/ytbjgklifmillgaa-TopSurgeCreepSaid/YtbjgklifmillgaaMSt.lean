import GoSem.Op.String
import Derived.Test.YtbjgklifmillgaaMFr
import Derived.Test.YtbjgklifmillgaaRat3
/- The stress of a path as a number. No program in sight. -/
namespace Go.Proofs.Ytbjgklifmillgaa
open Go.RowKit
set_option linter.unusedVariables false
set_option linter.unusedSimpArgs false

theorem cop_four {N D v L : Nat} (hD : 0 < D) (hv : 0 < v) (hL : 0 < L) (h1 : Nat.gcd N D = 1) (h2 : Nat.gcd v L = 1) :
    Nat.gcd (v / Nat.gcd v D * (N / Nat.gcd N L)) (D / Nat.gcd v D * (L / Nat.gcd N L)) = 1 := by
  have g0 : 0 < Nat.gcd v D := Nat.gcd_pos_of_pos_left _ hv
  have k0 : 0 < Nat.gcd N L := Nat.gcd_pos_of_pos_right _ hL
  have hAC : Nat.Coprime (v / Nat.gcd v D) (D / Nat.gcd v D) := Nat.coprime_div_gcd_div_gcd g0
  have hBE : Nat.Coprime (N / Nat.gcd N L) (L / Nat.gcd N L) := Nat.coprime_div_gcd_div_gcd k0
  have hAE : Nat.Coprime (v / Nat.gcd v D) (L / Nat.gcd N L) :=
    Nat.Coprime.coprime_dvd_left (Nat.div_dvd_of_dvd (Nat.gcd_dvd_left _ _)) (Nat.Coprime.coprime_dvd_right (Nat.div_dvd_of_dvd (Nat.gcd_dvd_right _ _)) h2)
  have hBC : Nat.Coprime (N / Nat.gcd N L) (D / Nat.gcd v D) :=
    Nat.Coprime.coprime_dvd_left (Nat.div_dvd_of_dvd (Nat.gcd_dvd_left _ _)) (Nat.Coprime.coprime_dvd_right (Nat.div_dvd_of_dvd (Nat.gcd_dvd_right _ _)) h1)
  exact Nat.Coprime.mul_left (Nat.Coprime.mul_right hAC hAE) (Nat.Coprime.mul_right hBC hBE)
theorem val_four {N D v L : Nat} (hv : 0 < v) (hL : 0 < L) :
    v * N * (D / Nat.gcd v D * (L / Nat.gcd N L)) = v / Nat.gcd v D * (N / Nat.gcd N L) * (D * L) := by
  have g0 : 0 < Nat.gcd v D := Nat.gcd_pos_of_pos_left _ hv
  have k0 : 0 < Nat.gcd N L := Nat.gcd_pos_of_pos_right _ hL
  have e1 := Nat.div_mul_cancel (Nat.gcd_dvd_left v D)
  have e2 := Nat.div_mul_cancel (Nat.gcd_dvd_right v D)
  have e3 := Nat.div_mul_cancel (Nat.gcd_dvd_left N L)
  have e4 := Nat.div_mul_cancel (Nat.gcd_dvd_right N L)
  generalize v / Nat.gcd v D = A at *
  generalize D / Nat.gcd v D = C at *
  generalize N / Nat.gcd N L = B at *
  generalize L / Nat.gcd N L = E at *
  generalize Nat.gcd v D = g at *
  generalize Nat.gcd N L = h at *
  subst e1 e2 e3 e4
  simp only [Nat.mul_assoc, Nat.mul_comm, Nat.mul_left_comm]
/-- The parts that the program finds, of any numbers. -/
def stP (N D v L : Nat) : Nat := v / Nat.gcd v L / Nat.gcd (v / Nat.gcd v L) (D / Nat.gcd N D) * (N / Nat.gcd N D / Nat.gcd (N / Nat.gcd N D) (L / Nat.gcd v L))
def stQ (N D v L : Nat) : Nat := D / Nat.gcd N D / Nat.gcd (v / Nat.gcd v L) (D / Nat.gcd N D) * (L / Nat.gcd v L / Nat.gcd (N / Nat.gcd N D) (L / Nat.gcd v L))
theorem div_gcd_pos {a b : Nat} (h : 0 < a) : 0 < a / Nat.gcd a b := Nat.div_pos (Nat.gcd_le_left _ h) (Nat.gcd_pos_of_pos_left _ h)
theorem div_gcd_pos' {a b : Nat} (h : 0 < b) : 0 < b / Nat.gcd a b := Nat.div_pos (Nat.gcd_le_right _ h) (Nat.gcd_pos_of_pos_right _ h)
theorem stQ_pos {N D v L : Nat} (hD : 0 < D) (hv : 0 < v) (hL : 0 < L) : 0 < stQ N D v L :=
  Nat.mul_pos (div_gcd_pos' (div_gcd_pos' hD)) (div_gcd_pos' (div_gcd_pos' hL))
theorem st_gcd {N D v L : Nat} (hD : 0 < D) (hv : 0 < v) (hL : 0 < L) : Nat.gcd (stP N D v L) (stQ N D v L) = 1 :=
  cop_four (div_gcd_pos' hD) (div_gcd_pos hv) (div_gcd_pos' hL) (Nat.coprime_div_gcd_div_gcd (Nat.gcd_pos_of_pos_right _ hD)) (Nat.coprime_div_gcd_div_gcd (Nat.gcd_pos_of_pos_left _ hv))
theorem st_val {N D v L : Nat} (hD : 0 < D) (hv : 0 < v) (hL : 0 < L) : v * N * stQ N D v L = stP N D v L * (D * L) := by
  have h := val_four (N := N / Nat.gcd N D) (D := D / Nat.gcd N D) (div_gcd_pos (b := L) hv) (div_gcd_pos' (a := v) hL)
  have e1 := Nat.div_mul_cancel (Nat.gcd_dvd_left v L)
  have e2 := Nat.div_mul_cancel (Nat.gcd_dvd_right v L)
  have e3 := Nat.div_mul_cancel (Nat.gcd_dvd_left N D)
  have e4 := Nat.div_mul_cancel (Nat.gcd_dvd_right N D)
  have h' : v / Nat.gcd v L * (N / Nat.gcd N D) * stQ N D v L = stP N D v L * (D / Nat.gcd N D * (L / Nat.gcd v L)) := h
  generalize stP N D v L = P at *
  generalize stQ N D v L = Q at *
  clear h
  calc v * N * Q = (v / Nat.gcd v L * Nat.gcd v L) * (N / Nat.gcd N D * Nat.gcd N D) * Q := by rw [e1, e3]
    _ = (v / Nat.gcd v L * (N / Nat.gcd N D) * Q) * (Nat.gcd v L * Nat.gcd N D) := by
      generalize v / Nat.gcd v L = a
      generalize N / Nat.gcd N D = b
      generalize Nat.gcd v L = c
      generalize Nat.gcd N D = d
      simp only [Nat.mul_assoc, Nat.mul_comm, Nat.mul_left_comm]
    _ = (P * (D / Nat.gcd N D * (L / Nat.gcd v L))) * (Nat.gcd v L * Nat.gcd N D) := by rw [h']
    _ = P * ((D / Nat.gcd N D * Nat.gcd N D) * (L / Nat.gcd v L * Nat.gcd v L)) := by
      generalize D / Nat.gcd N D = a
      generalize L / Nat.gcd v L = b
      generalize Nat.gcd v L = c
      generalize Nat.gcd N D = d
      simp only [Nat.mul_assoc, Nat.mul_comm, Nat.mul_left_comm]
    _ = P * (D * L) := by rw [e4, e2]
/-- The size of a number. -/
def absQ (q : Rat) : Rat := if q.num < 0 then 0 - q else q
/-- The stress of a path. -/
def stq (v : Int) (a b : Int × Int) (L : Int) : Rat := (v : Rat) * absQ (Rat.divInt a.1 a.2 - Rat.divInt b.1 b.2) / (L : Rat)
theorem absQ_divInt (x y : Int) (hy : 0 < y) : absQ (Rat.divInt x y) = Rat.divInt (x.natAbs : Int) y := by
  unfold absQ
  have hn := rat_num (x := x) hy
  have hg : (0 : Int) < (Int.gcd x y : Nat) := by
    have := Int.gcd_pos_of_ne_zero_right x (show y ≠ 0 by omega); omega
  by_cases h : x < 0
  · have : (Rat.divInt x y).num < 0 := by
      rw [hn]; exact Int.ediv_neg_of_neg_of_pos h hg
    rw [if_pos this]
    have e : (x.natAbs : Int) = -x := by omega
    rw [e, show (0 : Rat) - Rat.divInt x y = - Rat.divInt x y by rw [Rat.sub_eq_add_neg, Rat.zero_add]]
    rw [Rat.neg_divInt]
  · have : ¬ (Rat.divInt x y).num < 0 := by
      rw [hn]; have := Int.ediv_nonneg (show 0 ≤ x by omega) (Int.le_of_lt hg); omega
    rw [if_neg this]
    have e : (x.natAbs : Int) = x := by omega
    rw [e]
theorem int_divInt (x : Int) : (x : Rat) = Rat.divInt x 1 := by
  rw [Rat.divInt_eq_div]
  show (x : Rat) = (x : Rat) / 1
  rw [Rat.div_def, show (1 : Rat)⁻¹ = 1 by decide +kernel, Rat.mul_one]
theorem stq_parts (v L : Nat) (a b : Int × Int) (ha : 0 < a.2) (hb : 0 < b.2) (hv : 0 < v) (hL : 0 < L) :
    (stq v a b L).num = stP (a.1 * b.2 - b.1 * a.2).natAbs (a.2 * b.2).toNat v L ∧ ((stq v a b L).den : Int) = stQ (a.1 * b.2 - b.1 * a.2).natAbs (a.2 * b.2).toNat v L := by
  have hD : 0 < a.2 * b.2 := Int.mul_pos ha hb
  have e : Rat.divInt a.1 a.2 - Rat.divInt b.1 b.2 = Rat.divInt (a.1 * b.2 - b.1 * a.2) (a.2 * b.2) := Rat.divInt_sub_divInt _ _ (by omega) (by omega)
  obtain ⟨D, hDn⟩ : ∃ D : Nat, (D : Int) = a.2 * b.2 := ⟨(a.2 * b.2).toNat, by omega⟩
  unfold stq
  rw [e, absQ_divInt _ _ hD, ← hDn]
  generalize (a.1 * b.2 - b.1 * a.2).natAbs = N
  rw [Int.toNat_natCast]
  have hD' : 0 < D := by omega
  have hval := st_val (N := N) hD' hv hL
  have hgcd := st_gcd (N := N) hD' hv hL
  have hQ := stQ_pos (N := N) hD' hv hL
  generalize stP N D v L = P at *
  generalize stQ N D v L = Q at *
  have e2 : ((v : Int) : Rat) * Rat.divInt (N : Int) (D : Int) / ((L : Int) : Rat) = Rat.divInt (P : Int) (Q : Int) := by
    rw [int_divInt (v : Int), int_divInt (L : Int), Rat.divInt_mul_divInt, Rat.div_def, Rat.inv_divInt, Rat.divInt_mul_divInt]
    rw [Rat.divInt_eq_divInt_iff (by
      have h1 : (0 : Int) < D := by omega
      have h2 : (0 : Int) < L := by omega
      have := Int.mul_pos h1 h2
      simp only [Int.one_mul]; omega) (by omega)]
    have h' : ((v * N * Q : Nat) : Int) = ((P * (D * L) : Nat) : Int) := by rw [hval]
    simp only [Int.natCast_mul] at h'
    simp only [Int.one_mul, Int.mul_one]
    exact h'
  rw [e2]
  exact gcd_one_div (by omega) (by simpa using hgcd)
end Go.Proofs.Ytbjgklifmillgaa

/- Ranks in order. No program in sight. -/
namespace Go.Proofs.Ytbjgklifmillgaa
set_option linter.unusedVariables false
set_option linter.unusedSimpArgs false

/-- A rank: a path's name, its stress, whether it is kept. -/
structure RankV where
  nm : ByteArray
  q : Rat
  kp : Bool
/-- The order of ranks. -/
def rkC (x y : RankV) : Int :=
  if y.q < x.q then -1
  else if x.q < y.q then 1
  else if Op.bytesLess x.nm.toList y.nm.toList = true then -1
  else if (x.nm.toList == y.nm.toList) = true then 0 else 1
def rkL (x y : RankV) : Bool := decide (rkC x y < 0)
theorem bl_irrefl : ∀ l : List UInt8, Op.bytesLess l l = false
  | [] => rfl
  | x :: r => by
    unfold Op.bytesLess
    simp [bl_irrefl r]
theorem u8_lt {a b : UInt8} : a < b ↔ a.toNat < b.toNat := UInt8.lt_iff_toNat_lt
theorem bl_trans : ∀ a b c : List UInt8, Op.bytesLess a b = true → Op.bytesLess b c = true → Op.bytesLess a c = true
  | a, b, [], h1, h2 => by cases b <;> simp [Op.bytesLess] at h2
  | a, [], c, h1, h2 => by cases a <;> simp [Op.bytesLess] at h1
  | [], y :: b, z :: c, h1, h2 => by simp [Op.bytesLess]
  | x :: a, y :: b, z :: c, h1, h2 => by
    have ih := bl_trans a b c
    simp only [Op.bytesLess, Bool.or_eq_true, Bool.and_eq_true, decide_eq_true_eq, beq_iff_eq] at h1 h2 ⊢
    rcases h1 with h1 | ⟨rfl, h1⟩
    · rcases h2 with h2 | ⟨rfl, h2⟩
      · left; rw [u8_lt] at *; omega
      · left; exact h1
    · rcases h2 with h2 | ⟨rfl, h2⟩
      · left; exact h2
      · right; exact ⟨rfl, ih h1 h2⟩
theorem bl_tri : ∀ a b : List UInt8, Op.bytesLess a b = false → Op.bytesLess b a = false → a = b
  | [], [], _, _ => rfl
  | [], y :: b, h, _ => by simp [Op.bytesLess] at h
  | x :: a, [], _, h => by simp [Op.bytesLess] at h
  | x :: a, y :: b, h1, h2 => by
    have ih := bl_tri a b
    simp only [Op.bytesLess, Bool.or_eq_false_iff, decide_eq_false_iff_not] at h1 h2
    have e : x = y := by
      have h3 := h1.1
      have h4 := h2.1
      rw [u8_lt] at h3 h4
      exact UInt8.toNat_inj.1 (by omega)
    subst e
    simp only [beq_self_eq_true, Bool.true_and] at h1 h2
    rw [ih h1.2 h2.2]
theorem rkL_iff (x y : RankV) : rkL x y = true ↔ y.q < x.q ∨ (x.q = y.q ∧ Op.bytesLess x.nm.toList y.nm.toList = true) := by
  unfold rkL rkC
  rw [decide_eq_true_eq]
  by_cases h1 : y.q < x.q
  · rw [if_pos h1]; simp [h1]
  · rw [if_neg h1]
    by_cases h2 : x.q < y.q
    · rw [if_pos h2]
      constructor
      · intro h; omega
      · rintro (h | ⟨h, _⟩)
        · exact absurd h h1
        · rw [h] at h2; exact absurd h2 (Rat.lt_irrefl)
    · rw [if_neg h2]
      have e : x.q = y.q := Rat.le_antisymm (Rat.not_lt.1 h1) (Rat.not_lt.1 h2)
      by_cases h3 : Op.bytesLess x.nm.toList y.nm.toList = true
      · rw [if_pos h3]; simp [e, h3]
      · rw [if_neg h3]
        constructor
        · intro h; split at h <;> omega
        · rintro (h | ⟨_, h⟩)
          · exact absurd h h1
          · exact absurd h h3
theorem rkL_irrefl (x : RankV) : rkL x x = false := by
  rw [← Bool.not_eq_true, rkL_iff, bl_irrefl]
  rintro (h | ⟨_, h⟩)
  · exact Rat.lt_irrefl h
  · exact absurd h (by decide)
theorem rkL_trans (x y z : RankV) (h1 : rkL x y = true) (h2 : rkL y z = true) : rkL x z = true := by
  rw [rkL_iff] at *
  rcases h1 with h1 | ⟨e1, h1⟩
  · rcases h2 with h2 | ⟨e2, h2⟩
    · exact .inl (Rat.not_le.1 (fun h => Rat.not_le.2 h1 (Rat.le_trans h (Rat.le_of_lt h2))))
    · exact .inl (by rw [← e2]; exact h1)
  · rcases h2 with h2 | ⟨e2, h2⟩
    · exact .inl (by rw [e1]; exact h2)
    · exact .inr ⟨e1.trans e2, bl_trans _ _ _ h1 h2⟩
theorem rkL_tri (x y : RankV) (h1 : rkL x y = false) (h2 : rkL y x = false) : x.q = y.q ∧ x.nm.toList = y.nm.toList := by
  rw [← Bool.not_eq_true, rkL_iff] at h1 h2
  have a1 : ¬ y.q < x.q := fun h => h1 (.inl h)
  have a2 : ¬ x.q < y.q := fun h => h2 (.inl h)
  have e : x.q = y.q := Rat.le_antisymm (Rat.not_lt.1 a1) (Rat.not_lt.1 a2)
  refine ⟨e, bl_tri _ _ ?_ ?_⟩
  · rw [← Bool.not_eq_true]; exact fun h => h1 (.inr ⟨e, h⟩)
  · rw [← Bool.not_eq_true]; exact fun h => h2 (.inr ⟨e.symm, h⟩)
theorem rkL_ntrans (x y z : RankV) (h1 : rkL x y = false) (h2 : rkL y z = false) : rkL x z = false := by
  rw [← Bool.not_eq_true]
  intro h
  cases h3 : rkL y x
  · obtain ⟨e1, e2⟩ := rkL_tri x y h1 h3
    rw [rkL_iff] at h
    rw [← Bool.not_eq_true, rkL_iff] at h2
    rw [e1, e2] at h
    exact h2 h
  · rw [rkL_trans y x z h3 h] at h2
    exact absurd h2 (by decide)
/-- A name is among ranks. -/
def hasNm (l : List RankV) (nm : ByteArray) : Bool := l.any (fun r => r.nm.toList == nm.toList)
/-- THE SELECTION: what is least among those whose names are not among the first r of the sorted ones is the next one. -/
theorem pick_next {all S : List RankV} (hp : S.Perm all) (hs : ∀ (i j : Nat) (x y : RankV), i < j → S[i]? = some x → S[j]? = some y → rkL y x = false)
    (hd : ∀ (i j : Nat) (x y : RankV), S[i]? = some x → S[j]? = some y → x.nm.toList = y.nm.toList → i = j)
    {r : Nat} {b x : RankV} (hx : S[r]? = some x) (hb : b ∈ all) (hbn : hasNm (S.take r) b.nm = false)
    (hmin : ∀ y, y ∈ all → hasNm (S.take r) y.nm = false → rkL y b = false) : b = x := by
  obtain ⟨j, hj⟩ := List.mem_iff_getElem?.1 (hp.mem_iff.2 hb)
  have hxn : hasNm (S.take r) x.nm = false := by
    unfold hasNm
    rw [List.any_eq_false]
    intro y hy hyn
    obtain ⟨i, hi⟩ := List.mem_iff_getElem?.1 hy
    rw [List.getElem?_take] at hi
    split at hi
    · rename_i hir
      have := hd i r y x hi hx (by simpa using hyn)
      omega
    · cases hi
  have h1 := hmin x (hp.mem_iff.1 (List.mem_of_getElem? hx)) hxn
  rcases Nat.lt_trichotomy j r with h | h | h
  · exfalso
    unfold hasNm at hbn
    rw [List.any_eq_false] at hbn
    exact hbn b (List.mem_iff_getElem?.2 ⟨j, by rw [List.getElem?_take, if_pos h]; exact hj⟩) (by simp)
  · subst h; rw [hj] at hx; exact Option.some.inj hx
  · have h2 := hs r j x b h hx hj
    have h3 := (rkL_tri b x h2 h1).2
    have := hd j r b x hj hx h3
    omega
end Go.Proofs.Ytbjgklifmillgaa
