import Derived.Test.YtbjgklifmillgaaChopPlain
import Derived.Test.YtbjgklifmillgaaEnPlain
import Derived.Test.YtbjgklifmillgaaFull
import Derived.Test.YtbjgklifmillgaaMLaw
/- A surge travels along a line of equal sections: waves, peaks, and the values of what was chopped. No program in sight. -/
namespace Go.Proofs.Ytbjgklifmillgaa
open Go.RowKit
set_option linter.unusedVariables false

/-- The forward waves after k steps. -/
def wv (l : List Int) (n k : Nat) : List Int := (List.range n).map (fun i => if i < k then g0 l (k - 1 - i) else 0)
theorem wv_len (l : List Int) (n k : Nat) : (wv l n k).length = n := by simp [wv]
theorem wv_get {l : List Int} {n k i : Nat} (h : i < n) : g0 (wv l n k) i = if i < k then g0 l (k - 1 - i) else 0 := by
  rw [g0_lt (by rw [wv_len]; exact h)]
  simp [wv]
theorem wv_zero (l : List Int) (n : Nat) : wv l n 0 = List.replicate n 0 := by
  refine list_g0 (by simp [wv_len]) (fun i hi => ?_)
  rw [wv_len] at hi
  rw [wv_get hi, if_neg (by omega), g0_lt (by simpa using hi)]
  simp
theorem g0_zer (n i : Nat) : g0 (List.replicate n (0 : Int)) i = 0 := by
  simp only [g0, List.getD, List.getElem?_replicate]
  split <;> rfl
def ln3 (n : Nat) : List Int := List.replicate n 3
theorem ln3_len (n : Nat) : (ln3 n).length = n := by simp [ln3]
theorem ln3_mem (n : Nat) : ∀ x ∈ ln3 n, 1 ≤ x ∧ x ≤ 20 := fun x hx => by rw [List.eq_of_mem_replicate hx]; omega
theorem ln3_same (n : Nat) : Same (ln3 n) := fun i hi => by
  rw [ln3_len] at hi
  rw [g0_lt (by rw [ln3_len]; exact hi), g0_lt (by rw [ln3_len]; omega)]
  simp [ln3]
theorem ln3_ok {n : Nat} (h2 : 2 ≤ n) (h8 : n ≤ 8) : lineErr (ln3 n) = 0 := by
  have : n = 2 ∨ n = 3 ∨ n = 4 ∨ n = 5 ∨ n = 6 ∨ n = 7 ∨ n = 8 := by omega
  rcases this with rfl | rfl | rfl | rfl | rfl | rfl | rfl <;> decide
theorem tr_F {l : List Int} {n k : Nat} (h2 : 2 ≤ n) : outF (ln3 n) (wv l n k) (List.replicate n 0) (g0 l k) = wv l n (k + 1) := by
  refine list_g0 (by rw [outF_len _ _ _ _ (by rw [ln3_len]; omega), ln3_len, wv_len]) (fun i hi => ?_)
  rw [outF_len _ _ _ _ (by rw [ln3_len]; omega), ln3_len] at hi
  rw [wv_get hi]
  rcases i with _ | i
  · rw [g0_outF0, g0_zer, if_pos (by omega), show k + 1 - 1 - 0 = k by omega]; omega
  · rw [g0_outF _ _ _ _ (by rw [ln3_len]; omega), same_sF (ln3_mem n) (ln3_same n) (by rw [ln3_len]; omega), wv_get (by omega)]
    by_cases hk : i < k
    · rw [if_pos hk, if_pos (by omega)]; congr 1; omega
    · rw [if_neg hk, if_neg (by omega)]
theorem tr_B {l : List Int} {n k : Nat} (h2 : 2 ≤ n) (hk : k < n) : outB (ln3 n) (wv l n k) (List.replicate n 0) true = List.replicate n 0 := by
  refine list_g0 (by rw [outB_len _ _ _ _ (by rw [ln3_len]; omega), ln3_len]; simp) (fun i hi => ?_)
  rw [outB_len _ _ _ _ (by rw [ln3_len]; omega), ln3_len] at hi
  rw [g0_zer]
  by_cases h : i < n - 1
  · rw [g0_outB _ _ _ _ (by rw [ln3_len]; exact h), same_sB (ln3_mem n) (ln3_same n) (by rw [ln3_len]; exact h), g0_zer]
  · obtain rfl : i = (ln3 n).length - 1 := by rw [ln3_len]; omega
    rw [g0_outBl, ln3_len, wv_get (show n - 1 < n by omega), if_neg (show ¬ n - 1 < k by omega)]; rfl
theorem same_sV {y f b : List Int} (h : ∀ x ∈ y, 1 ≤ x ∧ x ≤ 20) (he : Same y) {i : Nat} (hi : i < y.length - 1) : sV y f b i = g0 f i + g0 b (i + 1) := by
  have h1 := he i (by omega)
  have h2 := he (i + 1) (by omega)
  have h3 := h _ (getD_mem (show 0 < y.length by omega))
  unfold sV
  rw [h1, h2]
  generalize hz : g0 y 0 = z at *
  have hz1 : 1 ≤ z := by rw [← hz]; exact h3.1
  rw [show 2 * (g0 f i * z + g0 b (i + 1) * z) = (g0 f i + g0 b (i + 1)) * (z + z) by grind]
  exact Int.mul_tdiv_cancel _ (by omega)
theorem tr_V {l : List Int} {n k : Nat} (h2 : 2 ≤ n) (hk : k < n) (i : Nat) (hi : i ≤ n) : g0 (outV (ln3 n) (wv l n k) (List.replicate n 0) (g0 l k) true) i = if i ≤ k ∧ i < n then g0 l (k - i) else 0 := by
  obtain ⟨m, rfl⟩ : ∃ m, n = m + 1 := ⟨n - 1, by omega⟩
  unfold outV
  rcases i with _ | i
  · rw [if_pos (show 0 ≤ k ∧ 0 < m + 1 by omega)]; rfl
  · show g0 ((List.range ((ln3 (m + 1)).length - 1)).map _ ++ [if true = true then 0 else _]) i = _
    rw [ln3_len, Nat.add_sub_cancel, if_pos rfl]
    by_cases h : i < m
    · have e : g0 ((List.range m).map (sV (ln3 (m + 1)) (wv l (m + 1) k) (List.replicate (m + 1) 0)) ++ [0]) i = sV (ln3 (m + 1)) (wv l (m + 1) k) (List.replicate (m + 1) 0) i := by
        simp [g0, List.getD, List.getElem?_append, h]
      rw [e, same_sV (ln3_mem _) (ln3_same _) (by rw [ln3_len]; omega), g0_zer, wv_get (by omega)]
      by_cases hk2 : i < k
      · rw [if_pos hk2, if_pos (by omega), Int.add_zero]; congr 1; omega
      · rw [if_neg hk2, if_neg (by omega)]; rfl
    · obtain rfl : i = m := by omega
      rw [if_neg (by omega)]
      simp [g0, List.getD]
/-- Sources from 0 to M. -/
def Src (M : Int) (l : List Int) : Prop := ∀ i, 0 ≤ g0 l i ∧ g0 l i ≤ M
theorem tr_ok {l : List Int} {n : Nat} (h2 : 2 ≤ n) (h8 : n ≤ 8) (h : Src 1000 l) (k : Nat) : stErr (ln3 n) (wv l n k) (List.replicate n 0) = 0 := by
  refine st_intro (ln3_ok h2 h8) (by rw [wv_len, ln3_len]) (by rw [ln3_len]; simp) (fun x hx => ?_) (fun x hx => by rw [List.eq_of_mem_replicate hx]; omega)
  unfold wv at hx
  obtain ⟨j, _, rfl⟩ := List.mem_map.1 hx
  have := h (k - 1 - j)
  split <;> omega
theorem tr_E {l : List Int} {n k : Nat} (h2 : 2 ≤ n) (h8 : n ≤ 8) (h : Src 1000 l) (hk : k < n) : pE (ln3 n) (wv l n k) (List.replicate n 0) (g0 l k) true = 0 := by
  have h1 := h k
  unfold pE
  rw [tr_F h2, tr_B h2 hk, tr_ok h2 h8 h, tr_ok h2 h8 h, wi_iff.2 (by omega)]
  rfl
theorem g0_zeros_bd (M : Int) (hM : 0 ≤ M) (n : Nat) : Src M (List.replicate n 0) := fun i => by rw [g0_zer]; omega
theorem tr_peaks {l : List Int} {n : Nat} {M : Int} (h2 : 2 ≤ n) (h8 : n ≤ 8) (hl : l.length = n) (h : Src M l) (hM : 0 ≤ M) (hM2 : M ≤ 1000) : ∀ m k N G, k + m = n → Src M N → N.length = n + 1 → ∃ N' G', pkGo (ln3 n) true (l.drop k) (wv l n k) (List.replicate n 0) N G = (0, N', G') ∧ Src M N' ∧ N'.length = n + 1
  | 0, k, N, G, hk, hN, hNl => by
    rw [List.drop_eq_nil_of_le (by omega)]
    exact ⟨N, G, rfl, hN, hNl⟩
  | m + 1, k, N, G, hk, hN, hNl => by
    have h1000 : Src 1000 l := fun i => by have := h i; omega
    rw [pk_drop (by omega), if_pos (tr_E h2 h8 h1000 (by omega)), tr_F h2, tr_B h2 (by omega)]
    refine tr_peaks h2 h8 hl h hM hM2 m (k + 1) _ _ (by omega) (fun i => ?_) (by rw [mx_len]; exact hNl)
    by_cases hi : i < n + 1
    · rw [mx_get (by omega)]
      have hV := tr_V (l := l) h2 (show k < n by omega) i (by omega)
      have hb : 0 ≤ g0 (outV (ln3 n) (wv l n k) (List.replicate n 0) (g0 l k) true) i ∧ g0 (outV (ln3 n) (wv l n k) (List.replicate n 0) (g0 l k) true) i ≤ M := by
        rw [hV]
        split
        · exact h _
        · omega
      have := hN i
      split
      · unfold sz; omega
      · exact this
    · rw [g0_ge (by rw [mx_len]; omega)]; omega
theorem tr_all {l : List Int} {n : Nat} {M : Int} (h2 : 2 ≤ n) (h8 : n ≤ 8) (hl : l.length = n) (h : Src M l) (hM : 0 ≤ M) (hM2 : M ≤ 1000) : ∃ N G, pkAll (ln3 n) true l = (0, N, G) ∧ Src M N ∧ N.length = n + 1 := by
  unfold pkAll
  rw [if_pos (ln3_ok h2 h8), if_pos (by omega), ln3_len, ← wv_zero l n]
  have := tr_peaks h2 h8 hl h hM hM2 n 0 (List.replicate (n + 1) 0) (List.replicate n 0) (by omega) (g0_zeros_bd M hM _) (by simp)
  rwa [List.drop_zero, ← wv_zero l n] at this
/-- Values between 0 and M: so are those between the points. -/
theorem val_range {l : List (Int × Int)} {t M D : Int} (h : (impErr l).2 = 0) (hv : ∀ p ∈ l, 0 ≤ p.2 ∧ p.2 ≤ M ∧ p.1 ≤ D) (hM : 0 ≤ M) (hD : 1 ≤ D) (t0 : 0 ≤ t) : 0 ≤ (valOf l t).1 ∧ (valOf l t).1 ≤ M * (valOf l t).2 ∧ 0 < (valOf l t).2 ∧ (valOf l t).2 ≤ D := by
  have hz := impErr_zero h
  have hb : ∀ k, k < l.length → 0 ≤ (gp l k).2 ∧ (gp l k).2 ≤ M ∧ (gp l k).1 ≤ D ∧ 0 ≤ (gp l k).1 := fun k hk => ⟨(hv _ (gp_mem hk)).1, (hv _ (gp_mem hk)).2.1, (hv _ (gp_mem hk)).2.2, (imp_bd h k hk).1⟩
  unfold valOf idxT
  rcases idx_spec t l 0 with ⟨h1, _⟩ | ⟨m, h1, h2, h3, h4⟩
  · rw [if_pos h1]
    have := hb (l.length - 1) (by omega)
    simp only
    omega
  · rw [Nat.zero_add] at h1
    rw [if_neg (by rw [h1]; omega), h1, Int.toNat_natCast]
    have b1 := hb m h2
    rcases m with _ | j
    · by_cases hm : (gp l 0).1 = t
      · rw [valAt, if_pos hm]; simp only; omega
      · rw [valAt, if_neg hm]; simp only; omega
    · by_cases hm : (gp l (j + 1)).1 = t
      · rw [valAt, if_pos hm]; simp only; omega
      · rw [valAt, if_neg hm]
        have b2 := hb j (by omega)
        have h5 := h4 j (by omega)
        simp only
        generalize (gp l j).2 = q at *
        generalize (gp l (j + 1)).2 = y at *
        generalize (gp l j).1 = p at *
        generalize (gp l (j + 1)).1 = x at *
        have e1 : 0 ≤ q * (x - t) ∧ q * (x - t) ≤ M * (x - t) := ⟨Int.mul_nonneg b2.1 (by omega), Int.mul_le_mul_of_nonneg_right (by omega) (by omega)⟩
        have e2 : 0 ≤ y * (t - p) ∧ y * (t - p) ≤ M * (t - p) := ⟨Int.mul_nonneg b1.1 (by omega), Int.mul_le_mul_of_nonneg_right (by omega) (by omega)⟩
        have e3 : M * (x - p) = M * (x - t) + M * (t - p) := by grind
        refine ⟨by omega, by omega, by omega, by omega⟩
structure Tv (p f t c : Int) : Prop where
  p0 : 0 ≤ p
  p1 : p ≤ 1000
  f0 : 1 ≤ f
  f1 : f ≤ 5
  t0 : 6 ≤ t
  t1 : t ≤ 40
  c0 : 1 ≤ c
  c1 : c ≤ 7
theorem Tv.err {p f t c : Int} (h : Tv p f t c) : fuE p f t = 0 := by
  obtain ⟨p0, p1, f0, f1, t0, t1, c0, c1⟩ := h
  unfold fuE
  rw [wi_iff.2 (by omega), wi_iff.2 (by omega), wi_iff.2 (by omega)]
  simp [firstErr, unl]; omega
theorem Tv.full {p f t c : Int} (h : Tv p f t c) : fuL p f t = [(0, 0), (f, p), (t, p / 2), (4 * t, 0)] := by
  unfold fuL; rw [if_pos h.err]
theorem Tv.ok {p f t c : Int} (h : Tv p f t c) : (impErr (fuL p f t)).2 = 0 := by
  rw [h.full, imp_iff]
  obtain ⟨p0, p1, f0, f1, t0, t1, c0, c1⟩ := h
  refine ⟨by simp, by simp, ?_, ?_⟩
  · intro q hq
    simp only [List.mem_cons, List.not_mem_nil, or_false] at hq
    rcases hq with rfl | rfl | rfl | rfl <;> simp only <;> omega
  · simp only [List.pairwise_cons, List.mem_cons, List.not_mem_nil, or_false, List.Pairwise.nil, and_true]
    refine ⟨?_, ?_, ?_, ?_⟩
    · rintro q (rfl | rfl | rfl) <;> simp only <;> omega
    · rintro q (rfl | rfl) <;> simp only <;> omega
    · rintro q rfl; simp only; omega
    · rintro q hq; exact absurd hq (by simp)
theorem Tv.cut0 {p f t c : Int} (h : Tv p f t c) : chE (fuL p f t) c 1 = 0 := by
  have ho := h.ok
  have hf := h.full
  unfold chE
  rw [if_pos ho]
  have hok : chOk (fuL p f t) c 1 = true := by
    unfold chOk
    rw [hf]
    have h1 := h.c0; have h2 := h.c1; have h3 := h.t0
    simp only [Bool.and_eq_true, wi_iff]
    simp [gp, List.getD]
    omega
  rw [if_pos hok, if_neg]
  have hl : (chAll (fuL p f t) c 1).length ≤ 6 := by
    unfold chAll chF
    rw [hf]
    have := List.length_filter_le (fun q : Int × Int => decide (q.1 < c)) [(0, 0), (f, p), (t, p / 2), (4 * t, 0)]
    simp only [List.length_append, List.length_cons, List.length_nil] at *
    omega
  have := h.c1
  omega
def cutL (p f t c : Int) : List (Int × Int) := chL (fuL p f t) c 1
theorem Tv.cut {p f t c : Int} (h : Tv p f t c) : cutL p f t c = chAll (fuL p f t) c 1 := by
  unfold cutL chL; rw [if_pos h.cut0]
theorem Tv.valid {p f t c : Int} (h : Tv p f t c) : (impErr (cutL p f t c)).2 = 0 := by rw [h.cut]; exact chop_valid h.cut0
theorem ediv_range {a b M : Int} (h0 : 0 ≤ a) (h1 : a ≤ M * b) (hb : 0 < b) : 0 ≤ a / b ∧ a / b ≤ M := by
  refine ⟨Int.ediv_nonneg h0 (by omega), ?_⟩
  have : a / b < M + 1 := by
    rw [Int.ediv_lt_iff_lt_mul hb, Int.add_mul]; omega
  omega
theorem Tv.mem {p f t c : Int} (h : Tv p f t c) : ∀ q ∈ cutL p f t c, 0 ≤ q.2 ∧ q.2 ≤ 1000 ∧ q.1 ≤ 8 := by
  have hm : ∀ q ∈ fuL p f t, 0 ≤ q.2 ∧ q.2 ≤ 1000 ∧ q.1 ≤ 160 := by
    rw [h.full]
    obtain ⟨p0, p1, f0, f1, t0, t1, c0, c1⟩ := h
    intro q hq
    simp only [List.mem_cons, List.not_mem_nil, or_false] at hq
    rcases hq with rfl | rfl | rfl | rfl <;> simp only <;> omega
  have hv := val_range h.ok hm (by omega) (by omega) (show 0 ≤ c by have := h.c0; omega)
  have he := ediv_range hv.1 hv.2.1 hv.2.2.1
  rw [h.cut]
  have c1 := h.c1
  intro q hq
  unfold chAll at hq
  rcases List.mem_append.1 hq with hq | hq
  · unfold chF at hq
    obtain ⟨h1, h2⟩ := List.mem_filter.1 hq
    have h3 := hm q h1
    have h4 := of_decide_eq_true h2
    omega
  · simp only [List.mem_cons, List.not_mem_nil, or_false] at hq
    rcases hq with rfl | rfl <;> simp only <;> omega
/-- The value at a step, in lowest terms. -/
def tval (p f t c : Int) (k : Nat) : Int × Int := low (valOf (cutL p f t c) k).1 (valOf (cutL p f t c) k).2
theorem low_le_den {a b M : Int} (h0 : 0 ≤ a) (h1 : a ≤ M * b) (hb : 0 < b) (hM : 0 ≤ M) : (low a b).1 ≤ M * (low a b).2 := by
  have h2 := low_cross a b hb
  have h3 := low_den' (a := a) hb
  have h4 : (low a b).1 * b ≤ M * (low a b).2 * b := by
    rw [h2, show M * (low a b).2 * b = M * b * (low a b).2 by grind]
    exact Int.mul_le_mul_of_nonneg_right h1 (by omega)
  exact Int.le_of_mul_le_mul_right h4 hb
theorem Tv.val {p f t c : Int} (h : Tv p f t c) (k : Nat) : 0 ≤ (tval p f t c k).1 ∧ (tval p f t c k).1 ≤ 1000 * (tval p f t c k).2 ∧ 1 ≤ (tval p f t c k).2 ∧ (tval p f t c k).2 ≤ 8 ∧ gc (tval p f t c k).1 (tval p f t c k).2 = 1 := by
  have hv := val_range (t := (k : Int)) h.valid h.mem (by omega) (by omega) (by omega)
  unfold tval
  refine ⟨low_nn hv.1 hv.2.2.1, low_le_den hv.1 hv.2.1 hv.2.2.1 (by omega), low_den' hv.2.2.1, ?_, low_gc _ _ hv.2.2.1⟩
  have hg := gc_pos (a := (valOf (cutL p f t c) k).1) hv.2.2.1
  show (valOf (cutL p f t c) k).2 / gc _ _ ≤ 8
  have : (valOf (cutL p f t c) k).2 / gc (valOf (cutL p f t c) k).1 (valOf (cutL p f t c) k).2 ≤ (valOf (cutL p f t c) k).2 := Int.ediv_le_self _ (by omega)
  omega
theorem Tv.after {p f t c : Int} (h : Tv p f t c) (k : Nat) (hk : c < k) : tval p f t c k = (0, 1) := by
  unfold tval
  rw [h.cut, chop_end h.cut0 _ (by omega)]
  exact low_one 0
theorem Tv.small {p f t c : Int} (h : Tv p f t c) (k : Nat) : smallF (tval p f t c k) = true := by
  have := h.val k
  simp only [smallF, Bool.and_eq_true, wi_iff, decide_eq_true_eq]
  omega
/-- What is applied, step by step. -/
def srcs (p f t c : Int) (k : Nat) : List Int := (List.range k).map (fun i => (tval p f t c i).1 / (tval p f t c i).2)
theorem srcs_len (p f t c : Int) (k : Nat) : (srcs p f t c k).length = k := by simp [srcs]
theorem srcs_next (p f t c : Int) (k : Nat) : srcs p f t c (k + 1) = srcs p f t c k ++ [(tval p f t c k).1 / (tval p f t c k).2] := by
  unfold srcs; rw [List.range_succ, List.map_append]; rfl
theorem Tv.src {p f t c : Int} (h : Tv p f t c) (k : Nat) : 0 ≤ (tval p f t c k).1 / (tval p f t c k).2 ∧ (tval p f t c k).1 / (tval p f t c k).2 ≤ 1000 := by
  have := h.val k
  exact ediv_range this.1 this.2.1 (by omega)
theorem src_next {M x : Int} {l : List Int} (h : Src M l) (h0 : 0 ≤ x) : Src (max M x) (l ++ [x]) := by
  intro i
  rcases Nat.lt_trichotomy i l.length with hi | hi | hi
  · have := h i
    have e : g0 (l ++ [x]) i = g0 l i := by simp [g0, List.getD, List.getElem?_append, hi]
    rw [e]; omega
  · subst hi
    have e : g0 (l ++ [x]) l.length = x := by simp [g0, List.getD]
    rw [e]; omega
  · rw [g0_ge (by simp; omega)]; omega
end Go.Proofs.Ytbjgklifmillgaa
