import Derived.Test.YtbjgklifmillgaaChop
/- Chopped impulses: plain facts. -/
namespace Go.Proofs.Ytbjgklifmillgaa
open Go.RowKit
set_option linter.unusedVariables false

/-- Valid impulses, as lists. -/
theorem imp_iff (l : List (Int × Int)) : (impErr l).2 = 0 ↔ 2 ≤ l.length ∧ l.length ≤ 12 ∧ (∀ p ∈ l, 0 ≤ p.1 ∧ p.1 ≤ 1000000 ∧ -1000000 ≤ p.2 ∧ p.2 ≤ 1000000) ∧ l.Pairwise (fun a b => a.1 < b.1) := by
  constructor
  · intro h
    have hz := impErr_zero h
    refine ⟨hz.1, hz.2.1, imp_mem_bd h, ?_⟩
    rw [List.pairwise_iff_getElem]
    intro i j hi hj hij
    have := imp_slt h i j hij hj
    simpa [gp, List.getD, hi, hj] using this
  · rintro ⟨h1, h2, h3, h4⟩
    have hp : ∀ k, k < l.length → ptErr l k = 0 := by
      intro k hk
      refine (unl_and _ _ _ _ (by omega) (by omega)).2 ⟨?_, ?_⟩
      · have := h3 _ (gp_mem hk)
        simp only [ptOk, Bool.and_eq_true, wi_iff]
        omega
      · rcases k with _ | j
        · rfl
        · rw [List.pairwise_iff_getElem] at h4
          have := h4 j (j + 1) (by omega) hk (by omega)
          have e1 : l[j]'(by omega) = gp l j := by simp [gp, List.getD, show j < l.length by omega]
          have e2 : l[j + 1] = gp l (j + 1) := by simp [gp, List.getD, hk]
          rw [e1, e2] at this
          simp only [ptLater, Nat.add_sub_cancel, Bool.or_eq_true, decide_eq_true_eq]
          exact .inr this
    have hs : ∀ m i, i + m ≤ l.length → (impScan l m i).2 = 0 := by
      intro m
      induction m with
      | zero => intro i _; rfl
      | succ m ih =>
        intro i hi
        unfold impScan
        rw [if_pos (hp i (by omega))]
        exact ih (i + 1) (by omega)
    unfold impErr
    rw [if_pos h1, if_pos h2]
    exact hs _ 0 (by omega)
/-- The value at a point. -/
theorem val_mem {l : List (Int × Int)} (h : (impErr l).2 = 0) (p : Int × Int) (hp : p ∈ l) : valOf l p.1 = (p.2, 1) := by
  obtain ⟨k, hk, rfl⟩ := List.mem_iff_getElem.1 hp
  have e1 : l[k] = gp l k := by simp [gp, List.getD, hk]
  rw [e1]
  unfold valOf idxT
  rcases idx_spec (gp l k).1 l 0 with ⟨h1, h2⟩ | ⟨m, h1, h2, h3, h4⟩
  · have := h2 _ (gp_mem hk); omega
  · rw [Nat.zero_add] at h1
    rw [if_neg (by rw [h1]; omega), h1, Int.toNat_natCast]
    have hmk : m = k := by
      rcases Nat.lt_trichotomy m k with hlt | heq | hgt
      · have := imp_slt h m k hlt hk; omega
      · exact heq
      · have := h4 k hgt; omega
    subst hmk
    rcases m with _ | j
    · rw [valAt, if_pos rfl]
    · rw [valAt, if_pos rfl]
/-- The value behind the last point. -/
theorem val_after {l : List (Int × Int)} (h : (impErr l).2 = 0) (t : Int) (ht : ∀ p ∈ l, p.1 < t) : valOf l t = ((gp l (l.length - 1)).2, 1) := by
  unfold valOf idxT
  rcases idx_spec t l 0 with ⟨h1, _⟩ | ⟨m, _, h2, h3, _⟩
  · rw [if_pos h1]
  · have := ht _ (gp_mem h2); omega
theorem low_one (v : Int) : low v 1 = (v, 1) := by
  unfold low gc
  simp
theorem low_small (v : Int) (h0 : -1000000 ≤ v) (h1 : v ≤ 1000000) : smallF (low v 1) = true := by
  rw [low_one]
  simp only [smallF, Bool.and_eq_true, wi_iff, decide_eq_true_eq]
  omega
/-- The value between two points lies between them. -/
theorem floor_bd {l : List (Int × Int)} {t : Int} (h : (impErr l).2 = 0) (t0 : 0 ≤ t) (t1 : t ≤ 1000000) : -1000000 ≤ (valOf l t).1 / (valOf l t).2 ∧ (valOf l t).1 / (valOf l t).2 ≤ 1000000 := by
  have hb := valOf_bd h t0 t1
  have hq : -(1000000 * (valOf l t).2) ≤ (valOf l t).1 ∧ (valOf l t).1 ≤ 1000000 * (valOf l t).2 := by
    have hz := impErr_zero h
    unfold valOf idxT
    rcases idx_spec t l 0 with ⟨h1, _⟩ | ⟨m, h1, h2, h3, h4⟩
    · rw [if_pos h1]
      have := imp_bd h (l.length - 1) (by omega)
      simp only
      omega
    · rw [Nat.zero_add] at h1
      rw [if_neg (by rw [h1]; omega), h1, Int.toNat_natCast]
      have b1 := imp_bd h m h2
      rcases m with _ | j
      · by_cases hm : (gp l 0).1 = t
        · rw [valAt, if_pos hm]; simp only; omega
        · rw [valAt, if_neg hm]; simp only; omega
      · by_cases hm : (gp l (j + 1)).1 = t
        · rw [valAt, if_pos hm]; simp only; omega
        · rw [valAt, if_neg hm]
          have b2 := imp_bd h j (by omega)
          have h5 := h4 j (by omega)
          simp only
          generalize (gp l j).2 = q at *
          generalize (gp l (j + 1)).2 = y at *
          generalize (gp l j).1 = p at *
          generalize (gp l (j + 1)).1 = x at *
          have e1 : -(1000000 * (x - t)) ≤ q * (x - t) ∧ q * (x - t) ≤ 1000000 * (x - t) := by
            constructor
            · have := Int.mul_le_mul_of_nonneg_right (show -1000000 ≤ q by omega) (show 0 ≤ x - t by omega)
              omega
            · exact Int.mul_le_mul_of_nonneg_right (by omega) (by omega)
          have e2 : -(1000000 * (t - p)) ≤ y * (t - p) ∧ y * (t - p) ≤ 1000000 * (t - p) := by
            constructor
            · have := Int.mul_le_mul_of_nonneg_right (show -1000000 ≤ y by omega) (show 0 ≤ t - p by omega)
              omega
            · exact Int.mul_le_mul_of_nonneg_right (by omega) (by omega)
          omega
  constructor
  · rw [Int.le_ediv_iff_mul_le hb.2.2.1]; omega
  · have h2 : (valOf l t).1 / (valOf l t).2 < 1000001 := by
      rw [Int.ediv_lt_iff_lt_mul hb.2.2.1]; omega
    omega
theorem chE_zero {l : List (Int × Int)} {t f : Int} (h : chE l t f = 0) : (impErr l).2 = 0 ∧ (gp l 0).1 + 1 ≤ t ∧ t ≤ (gp l (l.length - 1)).1 ∧ 1 ≤ f ∧ f ≤ 100000 ∧ t + f ≤ 1000000 ∧ (chAll l t f).length ≤ 12 := by
  unfold chE at h
  by_cases h0 : (impErr l).2 = 0
  · rw [if_pos h0] at h
    by_cases h1 : chOk l t f = true
    · rw [if_pos h1] at h
      by_cases h2 : t + f > 1000000 ∨ (chAll l t f).length > 12
      · rw [if_pos h2] at h; omega
      · simp only [chOk, Bool.and_eq_true, wi_iff] at h1
        refine ⟨h0, h1.1.1, h1.1.2, h1.2.1, h1.2.2, by omega, by omega⟩
    · rw [if_neg h1] at h; omega
  · rw [if_neg h0] at h; exact absurd h h0
theorem chop_valid {l : List (Int × Int)} {t f : Int} (h : chE l t f = 0) : (impErr (chAll l t f)).2 = 0 := by
  obtain ⟨h0, h1, h2, h3, h4, h5, h6⟩ := chE_zero h
  have hz := impErr_zero h0
  have b0 := imp_bd h0 0 (by omega)
  have bl := imp_bd h0 (l.length - 1) (by omega)
  have hfl := floor_bd h0 (t := t) (by omega) (by omega)
  have hl := (imp_iff l).1 h0
  rw [imp_iff]
  have hmem : ∀ p ∈ chF l t, p ∈ l ∧ p.1 < t := by
    intro p hp
    have := List.mem_filter.1 hp
    exact ⟨this.1, by simpa using this.2⟩
  refine ⟨?_, h6, ?_, ?_⟩
  · unfold chAll; simp
  · intro p hp
    unfold chAll at hp
    rcases List.mem_append.1 hp with hp | hp
    · exact hl.2.2.1 p (hmem p hp).1
    · simp only [List.mem_cons, List.not_mem_nil, or_false] at hp
      rcases hp with rfl | rfl
      · simp only; omega
      · simp only; omega
  · unfold chAll
    rw [List.pairwise_append]
    refine ⟨hl.2.2.2.filter _, ?_, ?_⟩
    · simp; omega
    · intro p hp q hq
      have := (hmem p hp).2
      simp only [List.mem_cons, List.not_mem_nil, or_false] at hq
      rcases hq with rfl | rfl
      · exact this
      · simp only; omega
theorem chop_val {l : List (Int × Int)} {t f : Int} (h : chE l t f = 0) (p : Int × Int) (hp : p ∈ l) (hpt : p.1 < t) : valOf (chAll l t f) p.1 = (p.2, 1) :=
  val_mem (chop_valid h) p (by unfold chAll; exact List.mem_append_left _ (List.mem_filter.2 ⟨hp, by simpa using hpt⟩))
theorem chop_end {l : List (Int × Int)} {t f : Int} (h : chE l t f = 0) (s : Int) (hs : t + f ≤ s) : valOf (chAll l t f) s = (0, 1) := by
  obtain ⟨h0, h1, h2, h3, h4, h5, h6⟩ := chE_zero h
  by_cases he : s = t + f
  · subst he
    exact val_mem (chop_valid h) (t + f, 0) (by unfold chAll; simp)
  · rw [val_after (chop_valid h) s]
    · unfold chAll gp
      simp [List.getD]
    · intro p hp
      unfold chAll at hp
      rcases List.mem_append.1 hp with hp | hp
      · have := (List.mem_filter.1 hp).2
        simp at this
        omega
      · simp only [List.mem_cons, List.not_mem_nil, or_false] at hp
        rcases hp with rfl | rfl
        · simp only; omega
        · simp only; omega
end Go.Proofs.Ytbjgklifmillgaa
