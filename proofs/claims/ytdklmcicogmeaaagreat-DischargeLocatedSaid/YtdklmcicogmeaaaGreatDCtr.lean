import Derived.Test.YtdklmcicogmeaaaGreatMDSubs
/- The least set with a property: by size and in lexicographic order, or one by one with a choice. No program in sight. -/
namespace Go.Proofs.YtdklmcicogmeaaaGreat
set_option linter.unusedVariables false

/-- One set more: the best so far stays, unless the new one is smaller, or of the same size and before it. -/
def selB (p : List Nat → Bool) (best s : List Nat) : List Nat :=
  if best ≠ [] ∧ (best.length < s.length ∨ (s.length = best.length ∧ bef s best = false)) then best else if p s = true then s else best
/-- The best of the sets L. -/
def Sel (p : List Nat → Bool) (L : List (List Nat)) (best : List Nat) : Prop :=
  (best = [] → ∀ x ∈ L, p x = false) ∧ (best ≠ [] → best ∈ L ∧ p best = true ∧ ∀ y ∈ L, p y = true → y = best ∨ best.length < y.length ∨ (y.length = best.length ∧ bef best y = true))
theorem sel_step {p : List Nat → Bool} {L : List (List Nat)} {best s : List Nat} (h : Sel p L best) (hs : s ≠ []) : Sel p (L ++ [s]) (selB p best s) := by
  obtain ⟨h1, h2⟩ := h
  have hmem : ∀ x, x ∈ L ++ [s] ↔ x ∈ L ∨ x = s := fun x => by simp
  unfold selB
  by_cases hb : best = []
  · subst hb
    rw [if_neg (by rintro ⟨h, _⟩; exact h rfl)]
    have h1 := h1 rfl
    by_cases hp : p s = true
    · rw [if_pos hp]
      refine ⟨fun e => absurd e hs, fun _ => ⟨(hmem s).2 (.inr rfl), hp, fun y hy hpy => ?_⟩⟩
      rcases (hmem y).1 hy with hy | rfl
      · rw [h1 y hy] at hpy; cases hpy
      · exact .inl rfl
    · rw [if_neg hp]
      refine ⟨fun _ x hx => ?_, fun e => absurd rfl e⟩
      rcases (hmem x).1 hx with hx | rfl
      · exact h1 x hx
      · simpa using hp
  · obtain ⟨g1, g2, g3⟩ := h2 hb
    by_cases hc : best.length < s.length ∨ (s.length = best.length ∧ bef s best = false)
    · rw [if_pos ⟨hb, hc⟩]
      refine ⟨fun e => absurd e hb, fun _ => ⟨(hmem _).2 (.inl g1), g2, fun y hy hpy => ?_⟩⟩
      rcases (hmem y).1 hy with hy | rfl
      · exact g3 y hy hpy
      · rcases hc with hc | ⟨hc, hn⟩
        · exact .inr (.inl hc)
        · by_cases he : y = best
          · exact .inl he
          · exact .inr (.inr ⟨hc, bef_tri _ _ hn he⟩)
    · rw [if_neg (fun e => hc e.2)]
      by_cases hp : p s = true
      · rw [if_pos hp]
        refine ⟨fun e => absurd e hs, fun _ => ⟨(hmem s).2 (.inr rfl), hp, fun y hy hpy => ?_⟩⟩
        rcases (hmem y).1 hy with hy | rfl
        · have hl : ¬ best.length < s.length := fun e => hc (.inl e)
          have hl2 : s.length = best.length → bef s best = true := fun e => by
            rcases Bool.eq_false_or_eq_true (bef s best) with h | h
            · exact h
            · exact absurd (.inr ⟨e, h⟩) hc
          rcases g3 y hy hpy with rfl | h | ⟨h, hy2⟩
          · by_cases he : s.length = y.length
            · exact .inr (.inr ⟨he.symm, hl2 he⟩)
            · exact .inr (.inl (by omega))
          · exact .inr (.inl (by omega))
          · by_cases he : s.length = best.length
            · exact .inr (.inr ⟨by omega, bef_trans _ _ _ (hl2 he) hy2⟩)
            · exact .inr (.inl (by omega))
        · exact .inl rfl
      · rw [if_neg hp]
        refine ⟨fun e => absurd e hb, fun _ => ⟨(hmem _).2 (.inl g1), g2, fun y hy hpy => ?_⟩⟩
        rcases (hmem y).1 hy with hy | rfl
        · exact g3 y hy hpy
        · exact absurd hpy hp
theorem sel_fold {p : List Nat → Bool} : ∀ (M L : List (List Nat)) (best : List Nat), Sel p L best → (∀ s ∈ M, s ≠ []) → Sel p (L ++ M) (M.foldl (selB p) best)
  | [], L, best, h, _ => by simpa using h
  | s :: M, L, best, h, hn => by
    have := sel_fold M (L ++ [s]) _ (sel_step h (hn s (by simp))) (fun x hx => hn x (by simp [hx]))
    simpa using this
/-- The sets of the numbers from 1 on, below k. -/
def selX (p : List Nat → Bool) (m k : Nat) : List Nat := ((List.range' 1 (k - 1)).map (memB m 0)).foldl (selB p) []
theorem selX_succ (p : List Nat → Bool) (m k : Nat) (hk : 1 ≤ k) : selX p m (k + 1) = selB p (selX p m k) (memB m 0 k) := by
  unfold selX
  rw [show k + 1 - 1 = (k - 1) + 1 by omega, List.range'_concat, List.map_append, List.foldl_append, show 1 + 1 * (k - 1) = k by omega]; rfl
theorem selX_one (p : List Nat → Bool) (m : Nat) : selX p m 1 = [] := rfl
theorem memB_ne {m k : Nat} (h1 : 1 ≤ k) (h2 : k < 2 ^ m) : memB m 0 k ≠ [] := fun h => by
  have h3 := memB_inj m 0 k 0 h2 (Nat.two_pow_pos m) (by rw [h]; cases m <;> simp [memB])
  omega
theorem selX_sel (p : List Nat → Bool) (m : Nat) : Sel p ((List.range' 1 (2 ^ m - 1)).map (memB m 0)) (selX p m (2 ^ m)) := by
  have := sel_fold (p := p) ((List.range' 1 (2 ^ m - 1)).map (memB m 0)) [] [] ⟨fun _ x hx => by simp at hx, fun e => absurd rfl e⟩ (fun s hs => by
    obtain ⟨k, hk, rfl⟩ := List.mem_map.1 hs
    rw [List.mem_range'_1] at hk
    exact memB_ne hk.1 (by omega))
  rwa [List.nil_append] at this
theorem range1_mem {m : Nat} {s : List Nat} (hs : s ≠ []) : s ∈ (List.range' 1 (2 ^ m - 1)).map (memB m 0) ↔ s ∈ allB m := by
  unfold allB
  simp only [List.mem_map, List.mem_range'_1, List.mem_range]
  constructor
  · rintro ⟨k, hk, rfl⟩
    exact ⟨k, by have := Nat.two_pow_pos m; omega, rfl⟩
  · rintro ⟨k, hk, rfl⟩
    refine ⟨k, ⟨?_, by omega⟩, rfl⟩
    rcases Nat.eq_zero_or_pos k with h | h
    · subst h; exact absurd (by cases m <;> simp [memB]) hs
    · exact h
/-- The first set with the property, from the size k on. -/
def ctrS (p : List Nat → Bool) (m : Nat) : Nat → Nat → Option (List Nat)
  | 0, _ => none
  | t + 1, k => match (ext m k 0).find? p with | some S => some S | none => ctrS p m t (k + 1)
theorem ctrS_some {p : List Nat → Bool} {m : Nat} : ∀ {t k : Nat} {S : List Nat}, ctrS p m t k = some S → ∃ j, k ≤ j ∧ j < k + t ∧ (ext m j 0).find? p = some S ∧ ∀ i, k ≤ i → i < j → ∀ x ∈ ext m i 0, p x = false
  | 0, k, S, h => by simp [ctrS] at h
  | t + 1, k, S, h => by
    unfold ctrS at h
    cases hf : (ext m k 0).find? p with
    | some T =>
      rw [hf] at h
      obtain rfl : T = S := by simpa using h
      exact ⟨k, Nat.le_refl _, by omega, hf, fun i h1 h2 => by omega⟩
    | none =>
      rw [hf] at h
      obtain ⟨j, h1, h2, h3, h4⟩ := ctrS_some (t := t) (k := k + 1) h
      refine ⟨j, by omega, by omega, h3, fun i h5 h6 x hx => ?_⟩
      by_cases hik : i = k
      · subst hik
        have := List.find?_eq_none.1 hf x hx
        simpa using this
      · exact h4 i (by omega) h6 x hx
theorem ctrS_none {p : List Nat → Bool} {m : Nat} : ∀ {t k : Nat}, ctrS p m t k = none → ∀ i, k ≤ i → i < k + t → ∀ x ∈ ext m i 0, p x = false
  | 0, k, h, i, h1, h2 => by omega
  | t + 1, k, h, i, h1, h2 => by
    unfold ctrS at h
    cases hf : (ext m k 0).find? p with
    | some T => rw [hf] at h; cases h
    | none =>
      rw [hf] at h
      intro x hx
      by_cases hik : i = k
      · subst hik
        have := List.find?_eq_none.1 hf x hx
        simpa using this
      · exact ctrS_none (t := t) (k := k + 1) h i (by omega) (by omega) x hx
theorem ctrS_found {p : List Nat → Bool} {m : Nat} : ∀ {t k : Nat} {S : List Nat}, (ext m k 0).find? p = some S → ctrS p m (t + 1) k = some S := fun h => by
  unfold ctrS; rw [h]
theorem ctrS_next {p : List Nat → Bool} {m t k : Nat} (h : (ext m k 0).find? p = none) : ctrS p m (t + 1) k = ctrS p m t (k + 1) := by
  conv => lhs; unfold ctrS
  rw [h]
theorem find_first {p : List Nat → Bool} : ∀ {l : List (List Nat)} {S : List Nat}, l.Pairwise (fun a b => bef a b = true) → l.find? p = some S → S ∈ l ∧ p S = true ∧ ∀ y ∈ l, p y = true → y = S ∨ bef S y = true
  | [], S, _, h => by simp at h
  | x :: r, S, hp, h => by
    rw [List.pairwise_cons] at hp
    rw [List.find?_cons] at h
    split at h
    · rename_i hx
      obtain rfl : x = S := by simpa using h
      refine ⟨by simp, hx, fun y hy _ => ?_⟩
      rcases List.mem_cons.1 hy with rfl | hy
      · exact .inl rfl
      · exact .inr (hp.1 y hy)
    · rename_i hx
      obtain ⟨h1, h2, h3⟩ := find_first hp.2 h
      refine ⟨by simp [h1], h2, fun y hy hpy => ?_⟩
      rcases List.mem_cons.1 hy with rfl | hy
      · rw [hx] at hpy; cases hpy
      · exact h3 y hy hpy
/-- Both ways give the same set: nothing of one element alone has the property. -/
theorem sel_ctr {p : List Nat → Bool} {m : Nat} (h1 : ∀ x, x.length = 1 → x ∈ allB m → p x = false) : selX p m (2 ^ m) = (ctrS p m (m - 1) 2).getD [] := by
  have hin : ∀ k s, s ∈ ext m k 0 ↔ s.length = k ∧ s ∈ allB m := fun k s => by
    rw [ext_mem, allB_mem]; simp
  have hle : ∀ x ∈ allB m, x.length ≤ m := fun x hx => by
    obtain ⟨g1, g2⟩ := (allB_mem m x).1 hx
    have g3 : x.Nodup := g1.imp (fun h => by omega)
    have g4 : x ⊆ List.range m := fun y hy => by rw [List.mem_range]; exact g2 y hy
    have := g3.length_le_of_subset g4
    rwa [List.length_range] at this
  obtain ⟨s1, s2⟩ := selX_sel p m
  obtain ⟨B, hB⟩ : ∃ B, B = selX p m (2 ^ m) := ⟨_, rfl⟩
  rw [← hB] at s1 s2 ⊢
  have hbig : ∀ x ∈ allB m, x ≠ [] → p x = true → 2 ≤ x.length := fun x hx hne hp => by
    have h2 : x.length ≠ 0 := fun e => hne (List.eq_nil_of_length_eq_zero e)
    have h3 : x.length ≠ 1 := fun e => by rw [h1 x e hx] at hp; cases hp
    omega
  cases hc : ctrS p m (m - 1) 2 with
  | none =>
    have hn := ctrS_none hc
    show B = []
    rcases Classical.em (B = []) with h | h
    · exact h
    · obtain ⟨g1, g2, _⟩ := s2 h
      have hm := (range1_mem h).1 g1
      have h2 := hbig B hm h g2
      have h3 := hle B hm
      have := hn B.length (by omega) (by omega) B ((hin _ _).2 ⟨rfl, hm⟩)
      rw [this] at g2; cases g2
  | some S =>
    obtain ⟨j, hj1, hj2, hj3, hj4⟩ := ctrS_some hc
    show B = S
    obtain ⟨f1, f2, f3⟩ := find_first (ext_sorted m j 0) hj3
    obtain ⟨f4, f5⟩ := (hin j S).1 f1
    have hSne : S ≠ [] := by rintro rfl; simp at f4; omega
    have hBne : B ≠ [] := fun e => by
      have := s1 e S ((range1_mem hSne).2 f5)
      rw [this] at f2; cases f2
    obtain ⟨g1, g2, g3⟩ := s2 hBne
    have hBm := (range1_mem hBne).1 g1
    have hB2 := hbig B hBm hBne g2
    have hBl : B.length = j := by
      have a1 : ¬ B.length < j := fun h => by
        have := hj4 B.length (by omega) h B ((hin _ _).2 ⟨rfl, hBm⟩)
        rw [this] at g2; cases g2
      rcases g3 S ((range1_mem hSne).2 f5) f2 with rfl | h | ⟨h, _⟩
      · exact f4
      · omega
      · omega
    rcases f3 B ((hin _ _).2 ⟨hBl, hBm⟩) g2 with h | h
    · exact h
    · rcases g3 S ((range1_mem hSne).2 f5) f2 with h' | h' | ⟨_, h'⟩
      · exact h'.symm
      · omega
      · have := bef_trans _ _ _ h h'
        rw [bef_irrefl] at this; cases this
end Go.Proofs.YtdklmcicogmeaaaGreat
