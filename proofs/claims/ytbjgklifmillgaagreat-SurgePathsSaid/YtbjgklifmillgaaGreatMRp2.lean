import GoSem.Op.String
import Derived.Test.YtbjgklifmillgaaGreatMSt
/- Ranks in order. No program in sight. -/
namespace Go.Proofs.YtbjgklifmillgaaGreat
set_option linter.unusedVariables false
set_option linter.unusedSimpArgs false

/-- A rank: a path's name, its stress, whether it is kept. -/
structure RankV where
  nm : ByteArray
  q : Rat
  kp : Bool
/-- The order of ranks. -/
def rkC (x y : RankV) : Int :=
  if y.q < x.q then -1
  else if x.q < y.q then 1
  else if Op.bytesLess x.nm.toList y.nm.toList = true then -1
  else if (x.nm.toList == y.nm.toList) = true then 0 else 1
def rkL (x y : RankV) : Bool := decide (rkC x y < 0)
theorem bl_irrefl : ∀ l : List UInt8, Op.bytesLess l l = false
  | [] => rfl
  | x :: r => by
    unfold Op.bytesLess
    simp [bl_irrefl r]
theorem u8_lt {a b : UInt8} : a < b ↔ a.toNat < b.toNat := UInt8.lt_iff_toNat_lt
theorem bl_trans : ∀ a b c : List UInt8, Op.bytesLess a b = true → Op.bytesLess b c = true → Op.bytesLess a c = true
  | a, b, [], h1, h2 => by cases b <;> simp [Op.bytesLess] at h2
  | a, [], c, h1, h2 => by cases a <;> simp [Op.bytesLess] at h1
  | [], y :: b, z :: c, h1, h2 => by simp [Op.bytesLess]
  | x :: a, y :: b, z :: c, h1, h2 => by
    have ih := bl_trans a b c
    simp only [Op.bytesLess, Bool.or_eq_true, Bool.and_eq_true, decide_eq_true_eq, beq_iff_eq] at h1 h2 ⊢
    rcases h1 with h1 | ⟨rfl, h1⟩
    · rcases h2 with h2 | ⟨rfl, h2⟩
      · left; rw [u8_lt] at *; omega
      · left; exact h1
    · rcases h2 with h2 | ⟨rfl, h2⟩
      · left; exact h2
      · right; exact ⟨rfl, ih h1 h2⟩
theorem bl_tri : ∀ a b : List UInt8, Op.bytesLess a b = false → Op.bytesLess b a = false → a = b
  | [], [], _, _ => rfl
  | [], y :: b, h, _ => by simp [Op.bytesLess] at h
  | x :: a, [], _, h => by simp [Op.bytesLess] at h
  | x :: a, y :: b, h1, h2 => by
    have ih := bl_tri a b
    simp only [Op.bytesLess, Bool.or_eq_false_iff, decide_eq_false_iff_not] at h1 h2
    have e : x = y := by
      have h3 := h1.1
      have h4 := h2.1
      rw [u8_lt] at h3 h4
      exact UInt8.toNat_inj.1 (by omega)
    subst e
    simp only [beq_self_eq_true, Bool.true_and] at h1 h2
    rw [ih h1.2 h2.2]
theorem rkL_iff (x y : RankV) : rkL x y = true ↔ y.q < x.q ∨ (x.q = y.q ∧ Op.bytesLess x.nm.toList y.nm.toList = true) := by
  unfold rkL rkC
  rw [decide_eq_true_eq]
  by_cases h1 : y.q < x.q
  · rw [if_pos h1]; simp [h1]
  · rw [if_neg h1]
    by_cases h2 : x.q < y.q
    · rw [if_pos h2]
      constructor
      · intro h; omega
      · rintro (h | ⟨h, _⟩)
        · exact absurd h h1
        · rw [h] at h2; exact absurd h2 (Rat.lt_irrefl)
    · rw [if_neg h2]
      have e : x.q = y.q := Rat.le_antisymm (Rat.not_lt.1 h1) (Rat.not_lt.1 h2)
      by_cases h3 : Op.bytesLess x.nm.toList y.nm.toList = true
      · rw [if_pos h3]; simp [e, h3]
      · rw [if_neg h3]
        constructor
        · intro h; split at h <;> omega
        · rintro (h | ⟨_, h⟩)
          · exact absurd h h1
          · exact absurd h h3
theorem rkL_irrefl (x : RankV) : rkL x x = false := by
  rw [← Bool.not_eq_true, rkL_iff, bl_irrefl]
  rintro (h | ⟨_, h⟩)
  · exact Rat.lt_irrefl h
  · exact absurd h (by decide)
theorem rkL_trans (x y z : RankV) (h1 : rkL x y = true) (h2 : rkL y z = true) : rkL x z = true := by
  rw [rkL_iff] at *
  rcases h1 with h1 | ⟨e1, h1⟩
  · rcases h2 with h2 | ⟨e2, h2⟩
    · exact .inl (Rat.not_le.1 (fun h => Rat.not_le.2 h1 (Rat.le_trans h (Rat.le_of_lt h2))))
    · exact .inl (by rw [← e2]; exact h1)
  · rcases h2 with h2 | ⟨e2, h2⟩
    · exact .inl (by rw [e1]; exact h2)
    · exact .inr ⟨e1.trans e2, bl_trans _ _ _ h1 h2⟩
theorem rkL_tri (x y : RankV) (h1 : rkL x y = false) (h2 : rkL y x = false) : x.q = y.q ∧ x.nm.toList = y.nm.toList := by
  rw [← Bool.not_eq_true, rkL_iff] at h1 h2
  have a1 : ¬ y.q < x.q := fun h => h1 (.inl h)
  have a2 : ¬ x.q < y.q := fun h => h2 (.inl h)
  have e : x.q = y.q := Rat.le_antisymm (Rat.not_lt.1 a1) (Rat.not_lt.1 a2)
  refine ⟨e, bl_tri _ _ ?_ ?_⟩
  · rw [← Bool.not_eq_true]; exact fun h => h1 (.inr ⟨e, h⟩)
  · rw [← Bool.not_eq_true]; exact fun h => h2 (.inr ⟨e.symm, h⟩)
theorem rkL_ntrans (x y z : RankV) (h1 : rkL x y = false) (h2 : rkL y z = false) : rkL x z = false := by
  rw [← Bool.not_eq_true]
  intro h
  cases h3 : rkL y x
  · obtain ⟨e1, e2⟩ := rkL_tri x y h1 h3
    rw [rkL_iff] at h
    rw [← Bool.not_eq_true, rkL_iff] at h2
    rw [e1, e2] at h
    exact h2 h
  · rw [rkL_trans y x z h3 h] at h2
    exact absurd h2 (by decide)
/-- A name is among ranks. -/
def hasNm (l : List RankV) (nm : ByteArray) : Bool := l.any (fun r => r.nm.toList == nm.toList)
/-- THE SELECTION: what is least among those whose names are not among the first r of the sorted ones is the next one. -/
theorem pick_next {all S : List RankV} (hp : S.Perm all) (hs : ∀ (i j : Nat) (x y : RankV), i < j → S[i]? = some x → S[j]? = some y → rkL y x = false)
    (hd : ∀ (i j : Nat) (x y : RankV), S[i]? = some x → S[j]? = some y → x.nm.toList = y.nm.toList → i = j)
    {r : Nat} {b x : RankV} (hx : S[r]? = some x) (hb : b ∈ all) (hbn : hasNm (S.take r) b.nm = false)
    (hmin : ∀ y, y ∈ all → hasNm (S.take r) y.nm = false → rkL y b = false) : b = x := by
  obtain ⟨j, hj⟩ := List.mem_iff_getElem?.1 (hp.mem_iff.2 hb)
  have hxn : hasNm (S.take r) x.nm = false := by
    unfold hasNm
    rw [List.any_eq_false]
    intro y hy hyn
    obtain ⟨i, hi⟩ := List.mem_iff_getElem?.1 hy
    rw [List.getElem?_take] at hi
    split at hi
    · rename_i hir
      have := hd i r y x hi hx (by simpa using hyn)
      omega
    · cases hi
  have h1 := hmin x (hp.mem_iff.1 (List.mem_of_getElem? hx)) hxn
  rcases Nat.lt_trichotomy j r with h | h | h
  · exfalso
    unfold hasNm at hbn
    rw [List.any_eq_false] at hbn
    exact hbn b (List.mem_iff_getElem?.2 ⟨j, by rw [List.getElem?_take, if_pos h]; exact hj⟩) (by simp)
  · subst h; rw [hj] at hx; exact Option.some.inj hx
  · have h2 := hs r j x b h hx hj
    have h3 := (rkL_tri b x h2 h1).2
    have := hd j r b x hj hx h3
    omega
end Go.Proofs.YtbjgklifmillgaaGreat

/- The selection of ranks, step by step. No program in sight. -/
namespace Go.Proofs.YtbjgklifmillgaaGreat
set_option linter.unusedVariables false

/-- What is known of the best rank among the first j. -/
def BestUp (all out : List RankV) (j : Nat) (bi : Int) : Prop :=
  (bi = -1 ∧ ∀ (i : Nat) (y : RankV), i < j → all[i]? = some y → hasNm out y.nm = true) ∨
  (∃ (b : Nat) (x : RankV), bi = (b : Int) ∧ b < j ∧ all[b]? = some x ∧ hasNm out x.nm = false ∧ ∀ (i : Nat) (y : RankV), i < j → all[i]? = some y → hasNm out y.nm = false → rkL y x = false)
theorem best_zero (all out : List RankV) : BestUp all out 0 (-1) := .inl ⟨rfl, fun i y h => by omega⟩
theorem lt_succ_cases {all : List RankV} {j : Nat} {y : RankV} (hy : all[j]? = some y) {C : Nat → RankV → Prop} (h : ∀ i z, i < j → all[i]? = some z → C i z) (hj : C j y) : ∀ i z, i < j + 1 → all[i]? = some z → C i z := fun i z hi hz => by
  rcases Nat.lt_or_ge i j with h2 | h2
  · exact h i z h2 hz
  · obtain rfl : i = j := by omega
    rw [hy] at hz; obtain rfl := Option.some.inj hz; exact hj
theorem best_skip {all out : List RankV} {j : Nat} {bi : Int} {y : RankV} (h : BestUp all out j bi) (hy : all[j]? = some y) (hn : hasNm out y.nm = true) : BestUp all out (j + 1) bi := by
  rcases h with ⟨h1, h2⟩ | ⟨b, x, h1, h2, h3, h4, h5⟩
  · exact .inl ⟨h1, lt_succ_cases (C := fun _ z => hasNm out z.nm = true) hy h2 hn⟩
  · exact .inr ⟨b, x, h1, by omega, h3, h4, lt_succ_cases (C := fun _ z => hasNm out z.nm = false → rkL z x = false) hy h5 (fun h => by rw [hn] at h; cases h)⟩
theorem best_first {all out : List RankV} {j : Nat} {y : RankV} (h : BestUp all out j (-1)) (hy : all[j]? = some y) (hn : hasNm out y.nm = false) : BestUp all out (j + 1) (j : Int) := by
  rcases h with ⟨h1, h2⟩ | ⟨b, x, h1, _⟩
  · exact .inr ⟨j, y, rfl, by omega, hy, hn, lt_succ_cases (C := fun _ z => hasNm out z.nm = false → rkL z y = false) hy (fun i z hi hz h => by rw [h2 i z hi hz] at h; cases h) (fun _ => rkL_irrefl y)⟩
  · omega
theorem best_at {all out : List RankV} {j b : Nat} (h : BestUp all out j (b : Int)) : ∃ x, b < j ∧ all[b]? = some x ∧ hasNm out x.nm = false ∧ ∀ (i : Nat) (y : RankV), i < j → all[i]? = some y → hasNm out y.nm = false → rkL y x = false := by
  rcases h with ⟨h1, _⟩ | ⟨b', x, h1, h2, h3, h4, h5⟩
  · omega
  · obtain rfl : b = b' := by omega
    exact ⟨x, h2, h3, h4, h5⟩
theorem best_keep {all out : List RankV} {j b : Nat} {x y : RankV} (h : BestUp all out j (b : Int)) (hx : all[b]? = some x) (hy : all[j]? = some y) (hl : rkL y x = false) : BestUp all out (j + 1) (b : Int) := by
  obtain ⟨x', h2, h3, h4, h5⟩ := best_at h
  rw [hx] at h3; obtain rfl := Option.some.inj h3
  exact .inr ⟨b, x, rfl, by omega, hx, h4, lt_succ_cases (C := fun _ z => hasNm out z.nm = false → rkL z x = false) hy h5 (fun _ => hl)⟩
theorem best_take {all out : List RankV} {j b : Nat} {x y : RankV} (h : BestUp all out j (b : Int)) (hx : all[b]? = some x) (hy : all[j]? = some y) (hn : hasNm out y.nm = false) (hl : rkL y x = true) : BestUp all out (j + 1) (j : Int) := by
  obtain ⟨x', h2, h3, h4, h5⟩ := best_at h
  rw [hx] at h3; obtain rfl := Option.some.inj h3
  refine .inr ⟨j, y, rfl, by omega, hy, hn, lt_succ_cases (C := fun _ z => hasNm out z.nm = false → rkL z y = false) hy (fun i z hi hz hzn => ?_) (fun _ => rkL_irrefl y)⟩
  cases h6 : rkL z y
  · rfl
  · rw [← h5 i z hi hz hzn, rkL_trans z y x h6 hl]
theorem best_end {all S : List RankV} {n r : Nat} {bi : Int} (h : BestUp all (S.take r) n bi) (hn : all.length = n) (hp : S.Perm all) (hs : ∀ (i j : Nat) (x y : RankV), i < j → S[i]? = some x → S[j]? = some y → rkL y x = false)
    (hd : ∀ (i j : Nat) (x y : RankV), S[i]? = some x → S[j]? = some y → x.nm.toList = y.nm.toList → i = j) (hr : r < n) : ∃ (b : Nat) (x : RankV), bi = (b : Int) ∧ b < n ∧ all[b]? = some x ∧ S[r]? = some x := by
  have hSl : S.length = n := hp.length_eq.trans hn
  obtain ⟨x, hx⟩ : ∃ x, S[r]? = some x := ⟨S[r]'(by omega), List.getElem?_eq_getElem (by omega)⟩
  have hmem : ∀ z, z ∈ all → ∃ i, i < n ∧ all[i]? = some z := fun z hz => by
    obtain ⟨i, hi⟩ := List.mem_iff_getElem?.1 hz
    exact ⟨i, by have := (List.getElem?_eq_some_iff.1 hi).1; omega, hi⟩
  rcases h with ⟨_, h2⟩ | ⟨b, y, h1, h2, h3, h4, h5⟩
  · exfalso
    obtain ⟨i, hi, hix⟩ := hmem x (hp.mem_iff.1 (List.mem_of_getElem? hx))
    have h3 := h2 i x hi hix
    unfold hasNm at h3
    rw [List.any_eq_true] at h3
    obtain ⟨z, hz, hzn⟩ := h3
    obtain ⟨j, hj⟩ := List.mem_iff_getElem?.1 hz
    rw [List.getElem?_take] at hj
    split at hj
    · rename_i hjr
      have := hd j r z x hj hx (by simpa using hzn)
      omega
    · cases hj
  · refine ⟨b, y, h1, h2, h3, ?_⟩
    have e := pick_next hp hs hd hx (List.mem_of_getElem? h3) h4 (fun z hz hzn => by
      obtain ⟨i, hi, hiz⟩ := hmem z hz
      exact h5 i z hi hiz hzn)
    rw [e]; exact hx
end Go.Proofs.YtbjgklifmillgaaGreat
