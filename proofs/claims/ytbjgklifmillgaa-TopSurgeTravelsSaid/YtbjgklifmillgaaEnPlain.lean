import Derived.Test.YtbjgklifmillgaaOppo
import Derived.Test.YtbjgklifmillgaaPkPlain
import Derived.Test.YtbjgklifmillgaaUnify
/- The plain part of SurgeEnergy. -/
namespace Go.Proofs.Ytbjgklifmillgaa
open Go.RowKit
set_option linter.unusedVariables false

/-! ### The opposite -/
theorem ng_g0 (l : List Int) (i : Nat) : g0 (ng l) i = -g0 l i := by
  by_cases h : i < l.length
  · rw [g0_lt (by rw [ng_len]; exact h), g0_lt h]; simp [ng]
  · rw [g0_ge (by rw [ng_len]; omega), g0_ge (by omega)]; rfl
theorem ng_sF (y f b : List Int) (i : Nat) : sF y (ng f) (ng b) i = -sF y f b i := by
  unfold sF
  rw [ng_g0, ng_g0, ← Int.neg_tdiv]
  congr 1
  rw [Int.neg_mul, Int.mul_neg, Int.neg_mul, Int.neg_add]
theorem ng_sB (y f b : List Int) (i : Nat) : sB y (ng f) (ng b) i = -sB y f b i := by
  unfold sB
  rw [ng_g0, ng_g0, ← Int.neg_tdiv]
  congr 1
  rw [Int.neg_mul, Int.mul_neg, Int.neg_mul, Int.neg_add]
theorem ng_sV (y f b : List Int) (i : Nat) : sV y (ng f) (ng b) i = -sV y f b i := by
  unfold sV
  rw [ng_g0, ng_g0, ← Int.neg_tdiv]
  congr 1
  rw [Int.neg_mul, Int.neg_mul, ← Int.neg_add, Int.mul_neg]
theorem ng_outF (y f b : List Int) (s : Int) : outF y (ng f) (ng b) (-s) = ng (outF y f b s) := by
  unfold outF
  rw [ng_g0]
  simp only [ng, List.map_cons, List.map_map]
  congr 1
  · omega
  · exact List.map_congr_left (fun i _ => ng_sF y f b i)
theorem ng_outB (y f b : List Int) (e : Bool) : outB y (ng f) (ng b) e = ng (outB y f b e) := by
  unfold outB
  rw [ng_g0]
  simp only [ng, List.map_append, List.map_map, List.map_cons, List.map_nil]
  congr 1
  · exact List.map_congr_left (fun i _ => ng_sB y f b i)
  · cases e <;> simp
theorem ng_outV (y f b : List Int) (s : Int) (e : Bool) : outV y (ng f) (ng b) (-s) e = ng (outV y f b s e) := by
  unfold outV
  rw [ng_g0]
  simp only [ng, List.map_append, List.map_map, List.map_cons, List.map_nil]
  congr 1
  congr 1
  · exact List.map_congr_left (fun i _ => ng_sV y f b i)
  · cases e <;> simp <;> omega
theorem wi_ng (x M : Int) : wi (-x) (-M) M = wi x (-M) M := by
  rw [Bool.eq_iff_iff, wi_iff, wi_iff]
  omega
theorem ng_stErr (y f b : List Int) : stErr y (ng f) (ng b) = stErr y f b := by
  have h : (ng f ++ ng b).any (fun x => !wi x (-1000000) 1000000) = (f ++ b).any (fun x => !wi x (-1000000) 1000000) := by
    rw [show ng f ++ ng b = ng (f ++ b) by simp [ng]]
    unfold ng
    rw [List.any_map]
    congr 1
    funext x
    show (!wi (-x) (-1000000) 1000000) = !wi x (-1000000) 1000000
    rw [wi_ng]
  unfold stErr
  rw [ng_len, ng_len, h]
theorem ng_srE (y f b : List Int) (s : Int) (e : Bool) : srE y (ng f) (ng b) (-s) e = srE y f b s e := by
  unfold srE
  rw [ng_stErr, ng_outF, ng_outB, ng_stErr, wi_ng]
theorem ng_srL (y f b l : List Int) (s : Int) (e : Bool) : srL y (ng f) (ng b) (-s) e (ng l) = ng (srL y f b s e l) := by
  unfold srL
  rw [ng_srE]
  split
  · rfl
  · rfl

/-! ### The energy -/
theorem tdiv_sq (p s : Int) : s * s * (p.tdiv s * p.tdiv s) ≤ p * p := by
  have h : (s * p.tdiv s).natAbs ≤ p.natAbs := by
    rw [Int.natAbs_mul, Int.natAbs_tdiv]
    exact Nat.mul_div_le _ _
  have := Int.ofNat_le.2 (Nat.mul_le_mul h h)
  rw [Int.natAbs_mul_self, Int.natAbs_mul_self] at this
  rw [show s * s * (p.tdiv s * p.tdiv s) = s * p.tdiv s * (s * p.tdiv s) by grind]
  exact this
theorem junction (y z a b : Int) (hy : 0 < y) (hz : 0 < z) :
    y * ((a * (y - z) + 2 * b * z).tdiv (y + z) * (a * (y - z) + 2 * b * z).tdiv (y + z)) + z * ((b * (z - y) + 2 * a * y).tdiv (y + z) * (b * (z - y) + 2 * a * y).tdiv (y + z)) ≤ y * (a * a) + z * (b * b) := by
  obtain ⟨p, hp⟩ : ∃ p, p = a * (y - z) + 2 * b * z := ⟨_, rfl⟩
  obtain ⟨q, hq⟩ : ∃ q, q = b * (z - y) + 2 * a * y := ⟨_, rfl⟩
  rw [← hp, ← hq]
  have h1 := Int.mul_le_mul_of_nonneg_left (tdiv_sq p (y + z)) (Int.le_of_lt hy)
  have h2 := Int.mul_le_mul_of_nonneg_left (tdiv_sq q (y + z)) (Int.le_of_lt hz)
  have h3 : y * (p * p) + z * (q * q) = (y + z) * (y + z) * (y * (a * a) + z * (b * b)) := by rw [hp, hq]; grind
  have hs : 0 < (y + z) * (y + z) := Int.mul_pos (by omega) (by omega)
  refine Int.le_of_mul_le_mul_left ?_ hs
  rw [← h3]
  generalize p.tdiv (y + z) * p.tdiv (y + z) = P at *
  generalize q.tdiv (y + z) * q.tdiv (y + z) = R at *
  have h4 : (y + z) * (y + z) * (y * P + z * R) = y * ((y + z) * (y + z) * P) + z * ((y + z) * (y + z) * R) := by grind
  rw [h4]
  omega
theorem g0_outF0 (y f b : List Int) (s : Int) : g0 (outF y f b s) 0 = s - g0 b 0 := rfl
theorem g0_outF (y f b : List Int) (s : Int) {i : Nat} (h : i < y.length - 1) : g0 (outF y f b s) (i + 1) = sF y f b i := by
  unfold outF
  show List.getD (_ :: _) (i + 1) 0 = _
  rw [List.getD_cons_succ]
  simp [List.getD, h]
theorem g0_outB (y f b : List Int) (e : Bool) {i : Nat} (h : i < y.length - 1) : g0 (outB y f b e) i = sB y f b i := by
  unfold outB g0
  simp [List.getD, h, List.getElem?_append_left]
theorem g0_outBl (y f b : List Int) (e : Bool) : g0 (outB y f b e) (y.length - 1) = if e then -g0 f (y.length - 1) else g0 f (y.length - 1) := by
  unfold outB g0
  simp [List.getD]
theorem outF_len (y f b : List Int) (s : Int) (h : 0 < y.length) : (outF y f b s).length = y.length := by simp [outF]; omega
theorem outB_len (y f b : List Int) (e : Bool) (h : 0 < y.length) : (outB y f b e).length = y.length := by simp [outB]; omega
theorem en_pos {y f b : List Int} (h : ∀ x ∈ y, 1 ≤ x ∧ x ≤ 20) : ∀ k, k ≤ y.length → 0 ≤ enUpto y f b k
  | 0, _ => Int.le_refl 0
  | k + 1, hk => by
    have h1 := en_pos (f := f) (b := b) h k (by omega)
    have h2 := h _ (getD_mem (show k < y.length by omega))
    unfold enUpto
    have h3 := mul_self_nonneg' (f.getD k 0)
    have h4 := mul_self_nonneg' (b.getD k 0)
    have h5 := Int.mul_nonneg (show 0 ≤ y.getD k 0 by omega) (show 0 ≤ f.getD k 0 * f.getD k 0 + b.getD k 0 * b.getD k 0 by omega)
    omega
theorem en_fall {y f b : List Int} (e : Bool) (h : ∀ x ∈ y, 1 ≤ x ∧ x ≤ 20) : ∀ k, k + 1 ≤ y.length →
    enUpto y (outF y f b 0) (outB y f b e) k + g0 y k * (g0 (outF y f b 0) k * g0 (outF y f b 0) k) ≤ enUpto y f b k + g0 y k * (g0 b k * g0 b k)
  | 0, _ => by
    rw [g0_outF0, show (0 - g0 b 0) * (0 - g0 b 0) = g0 b 0 * g0 b 0 by grind]
    exact Int.le_refl _
  | k + 1, hk => by
    have h1 := en_fall (f := f) (b := b) e h k (by omega)
    have hy := h _ (getD_mem (show k < y.length by omega))
    have hz := h _ (getD_mem (show k + 1 < y.length by omega))
    have hj := junction (g0 y k) (g0 y (k + 1)) (g0 f k) (g0 b (k + 1)) (by show 0 < List.getD y k 0; omega) (by show 0 < List.getD y (k + 1) 0; omega)
    rw [g0_outF y f b 0 (show k < y.length - 1 by omega)]
    unfold enUpto
    show _ + g0 y k * (g0 (outF y f b 0) k * g0 (outF y f b 0) k + g0 (outB y f b e) k * g0 (outB y f b e) k) + _ ≤ _ + g0 y k * (g0 f k * g0 f k + g0 b k * g0 b k) + _
    rw [g0_outB y f b e (show k < y.length - 1 by omega)]
    have hB : sB y f b k = (g0 f k * (g0 y k - g0 y (k + 1)) + 2 * g0 b (k + 1) * g0 y (k + 1)).tdiv (g0 y k + g0 y (k + 1)) := rfl
    have hF : sF y f b k = (g0 b (k + 1) * (g0 y (k + 1) - g0 y k) + 2 * g0 f k * g0 y k).tdiv (g0 y k + g0 y (k + 1)) := rfl
    rw [← hB, ← hF] at hj
    generalize sB y f b k = p at *
    generalize sF y f b k = q at *
    rw [Int.mul_add, Int.mul_add]
    omega
theorem en_less {y f b : List Int} (e : Bool) (h : ∀ x ∈ y, 1 ≤ x ∧ x ≤ 20) (h0 : 0 < y.length) : enUpto y (outF y f b 0) (outB y f b e) y.length ≤ enUpto y f b y.length := by
  obtain ⟨k, hk⟩ : ∃ k, y.length = k + 1 := ⟨y.length - 1, by omega⟩
  have h1 := en_fall (f := f) (b := b) e h k (by omega)
  have h2 := g0_outBl y f b e
  rw [hk] at h2 ⊢
  rw [Nat.add_sub_cancel] at h2
  unfold enUpto
  show _ + g0 y k * (g0 (outF y f b 0) k * g0 (outF y f b 0) k + g0 (outB y f b e) k * g0 (outB y f b e) k) ≤ _ + g0 y k * (g0 f k * g0 f k + g0 b k * g0 b k)
  have h3 : g0 (outB y f b e) k * g0 (outB y f b e) k = g0 f k * g0 f k := by
    rw [h2]
    cases e
    · rfl
    · show -g0 f k * -g0 f k = _
      rw [Int.neg_mul_neg]
  rw [h3, Int.mul_add, Int.mul_add]
  omega

/-! ### Equal admittances -/
theorem st_intro {y f b : List Int} (h0 : lineErr y = 0) (h1 : f.length = y.length) (h2 : b.length = y.length) (hf : ∀ x ∈ f, -1000000 ≤ x ∧ x ≤ 1000000) (hb : ∀ x ∈ b, -1000000 ≤ x ∧ x ≤ 1000000) : stErr y f b = 0 := by
  unfold stErr
  have h3 : (f ++ b).any (fun x => !wi x (-1000000) 1000000) = false := by
    rw [List.any_eq_false]
    intro x hx
    have : -1000000 ≤ x ∧ x ≤ 1000000 := by
      rcases List.mem_append.1 hx with hx | hx
      · exact hf x hx
      · exact hb x hx
    rw [wi_iff.2 this]; simp
  rw [h0, h3, h1, h2]
  simp [firstErr, unl]
def Same (y : List Int) : Prop := ∀ i, i < y.length → g0 y i = g0 y 0
theorem same_sF {y f b : List Int} (h : ∀ x ∈ y, 1 ≤ x ∧ x ≤ 20) (he : Same y) {i : Nat} (hi : i < y.length - 1) : sF y f b i = g0 f i := by
  have h1 := he i (by omega)
  have h2 := he (i + 1) (by omega)
  have h3 := h _ (getD_mem (show 0 < y.length by omega))
  unfold sF
  rw [h1, h2]
  generalize hz : g0 y 0 = z at *
  have hz1 : 1 ≤ z := by rw [← hz]; exact h3.1
  rw [show g0 b (i + 1) * (z - z) + 2 * g0 f i * z = g0 f i * (z + z) by grind]
  exact Int.mul_tdiv_cancel _ (by omega)
theorem same_sB {y f b : List Int} (h : ∀ x ∈ y, 1 ≤ x ∧ x ≤ 20) (he : Same y) {i : Nat} (hi : i < y.length - 1) : sB y f b i = g0 b (i + 1) := by
  have h1 := he i (by omega)
  have h2 := he (i + 1) (by omega)
  have h3 := h _ (getD_mem (show 0 < y.length by omega))
  unfold sB
  rw [h1, h2]
  generalize hz : g0 y 0 = z at *
  have hz1 : 1 ≤ z := by rw [← hz]; exact h3.1
  rw [show g0 f i * (z - z) + 2 * g0 b (i + 1) * z = g0 b (i + 1) * (z + z) by grind]
  exact Int.mul_tdiv_cancel _ (by omega)
theorem same_ok {y f b : List Int} {e : Bool} (h : stErr y f b = 0) (he : Same y) : stErr y (outF y f b 0) (outB y f b e) = 0 := by
  obtain ⟨hl, h1, h2, hf, hb⟩ := stErr_zero h
  obtain ⟨hn0, _, hy⟩ := lineErr_zero hl
  have hf' := fun k => g0_bd (l := f) (k := k) 1000000 (by omega) hf
  have hb' := fun k => g0_bd (l := b) (k := k) 1000000 (by omega) hb
  refine st_intro hl (outF_len _ _ _ _ hn0) (outB_len _ _ _ _ hn0) (fun x hx => ?_) (fun x hx => ?_)
  · unfold outF at hx
    rcases List.mem_cons.1 hx with rfl | hx
    · have := hb' 0; omega
    · obtain ⟨j, hj, rfl⟩ := List.mem_map.1 hx
      rw [same_sF hy he (List.mem_range.1 hj)]
      exact hf' j
  · unfold outB at hx
    rcases List.mem_append.1 hx with hx | hx
    · obtain ⟨j, hj, rfl⟩ := List.mem_map.1 hx
      rw [same_sB hy he (List.mem_range.1 hj)]
      exact hb' (j + 1)
    · have : x = if e then -g0 f (y.length - 1) else g0 f (y.length - 1) := by simpa using hx
      have := hf' (y.length - 1)
      cases e <;> simp at * <;> omega
/-- The states that follow each other. -/
def itr (y : List Int) (e : Bool) (f b : List Int) : Nat → List Int × List Int
  | 0 => (f, b)
  | k + 1 => (outF y (itr y e f b k).1 (itr y e f b k).2 0, outB y (itr y e f b k).1 (itr y e f b k).2 e)
theorem itr_ok {y f b : List Int} {e : Bool} (h : stErr y f b = 0) (he : Same y) : ∀ k, stErr y (itr y e f b k).1 (itr y e f b k).2 = 0
  | 0 => h
  | k + 1 => same_ok (itr_ok h he k) he
theorem itr_add {y f b : List Int} {e : Bool} (m : Nat) : ∀ k, itr y e f b (m + k) = itr y e (itr y e f b m).1 (itr y e f b m).2 k
  | 0 => rfl
  | k + 1 => by
    rw [show m + (k + 1) = (m + k) + 1 by omega]
    unfold itr
    rw [itr_add m k]
/-- The ring of waves. -/
def rg (e : Bool) (n : Nat) (p : List Int × List Int) (j : Nat) : Int := if j < n then g0 p.1 j else (if e then -g0 p.2 (2 * n - 1 - j) else g0 p.2 (2 * n - 1 - j))
def sgn (e : Bool) (x : Int) : Int := if e then x else -x
theorem rg_step {y f b : List Int} {e : Bool} (h : stErr y f b = 0) (he : Same y) (j : Nat) (hj : j < 2 * y.length) :
    rg e y.length (outF y f b 0, outB y f b e) j = if j = 0 then sgn e (rg e y.length (f, b) (2 * y.length - 1)) else rg e y.length (f, b) (j - 1) := by
  obtain ⟨hl, h1, h2, hf, hb⟩ := stErr_zero h
  obtain ⟨hn0, _, hy⟩ := lineErr_zero hl
  have hn : ∃ m, y.length = m + 1 := ⟨y.length - 1, by omega⟩
  rcases j with _ | j
  · rw [if_pos rfl]
    unfold rg
    rw [if_pos hn0, if_neg (by omega), show 2 * y.length - 1 - (2 * y.length - 1) = 0 by omega]
    show g0 (outF y f b 0) 0 = _
    rw [g0_outF0]
    unfold sgn
    cases e <;> simp
  · rw [if_neg (by omega), Nat.add_sub_cancel]
    unfold rg
    by_cases h3 : j + 1 < y.length
    · rw [if_pos h3, if_pos (by omega)]
      show g0 (outF y f b 0) (j + 1) = g0 f j
      rw [g0_outF y f b 0 (by omega), same_sF hy he (by omega)]
    · rw [if_neg h3]
      by_cases h4 : j < y.length
      · rw [if_pos h4]
        obtain rfl : j = y.length - 1 := by omega
        rw [show 2 * y.length - 1 - (y.length - 1 + 1) = y.length - 1 by omega]
        show (if e then -g0 (outB y f b e) (y.length - 1) else g0 (outB y f b e) (y.length - 1)) = g0 f (y.length - 1)
        rw [g0_outBl]
        cases e <;> simp
      · rw [if_neg h4]
        have h5 : g0 (outB y f b e) (2 * y.length - 1 - (j + 1)) = g0 b (2 * y.length - 1 - j) := by
          rw [g0_outB y f b e (by omega), same_sB hy he (by omega)]
          congr 1
          omega
        show (if e then -g0 (outB y f b e) _ else g0 (outB y f b e) _) = _
        rw [h5]
theorem rg_itr {y f b : List Int} {e : Bool} (h : stErr y f b = 0) (he : Same y) : ∀ k, k ≤ 2 * y.length → ∀ j, j < 2 * y.length →
    rg e y.length (itr y e f b k) j = if k ≤ j then rg e y.length (f, b) (j - k) else sgn e (rg e y.length (f, b) (2 * y.length + j - k))
  | 0, _, j, hj => by rw [if_pos (by omega)]; rfl
  | k + 1, hk, j, hj => by
    have ih := rg_itr (e := e) h he k (by omega)
    have hs := rg_step (e := e) (itr_ok (e := e) h he k) he j hj
    show rg e y.length (outF y (itr y e f b k).1 (itr y e f b k).2 0, outB y (itr y e f b k).1 (itr y e f b k).2 e) j = _
    rw [hs]
    rcases j with _ | j
    · rw [if_pos rfl, if_neg (by omega)]
      rw [show ((itr y e f b k).1, (itr y e f b k).2) = itr y e f b k from rfl, ih _ (by omega), if_pos (by omega)]
      congr 2
      omega
    · rw [if_neg (by omega), Nat.add_sub_cancel]
      rw [show ((itr y e f b k).1, (itr y e f b k).2) = itr y e f b k from rfl, ih _ (by omega)]
      by_cases h1 : k ≤ j
      · rw [if_pos h1, if_pos (by omega)]
        congr 1
        omega
      · rw [if_neg h1, if_neg (by omega)]
        congr 2
        omega
theorem sgn_twice (e : Bool) (x : Int) : sgn e (sgn e x) = x := by unfold sgn; cases e <;> simp
theorem rg_full {y f b : List Int} {e : Bool} (h : stErr y f b = 0) (he : Same y) (j : Nat) (hj : j < 2 * y.length) :
    rg e y.length (itr y e f b (2 * y.length)) j = sgn e (rg e y.length (f, b) j) := by
  rw [rg_itr h he _ (Nat.le_refl _) j hj, if_neg (by omega)]
  congr 2
  omega
theorem rg_same {y : List Int} {e : Bool} {p q : List Int × List Int} (hp1 : p.1.length = y.length) (hp2 : p.2.length = y.length) (hq1 : q.1.length = y.length) (hq2 : q.2.length = y.length)
    (h : ∀ j, j < 2 * y.length → rg e y.length p j = rg e y.length q j) : p = q := by
  have h1 : p.1 = q.1 := list_g0 (by omega) (fun i hi => by
    have := h i (by omega)
    unfold rg at this
    rw [if_pos (by omega), if_pos (by omega)] at this
    exact this)
  have h2 : p.2 = q.2 := list_g0 (by omega) (fun i hi => by
    have hi' : i < y.length := by omega
    have h3 := h (2 * y.length - 1 - i) (by omega)
    have h4 : ¬ (2 * y.length - 1 - i < y.length) := by omega
    have h5 : 2 * y.length - 1 - (2 * y.length - 1 - i) = i := by omega
    unfold rg at h3
    rw [if_neg h4, if_neg h4, h5] at h3
    cases e
    · exact h3
    · have : -g0 p.2 i = -g0 q.2 i := h3
      omega)
  exact Prod.ext h1 h2
/-- How many steps. -/
def rounds (y : List Int) (e : Bool) : Nat := if e then 2 * y.length else 4 * y.length
theorem itr_back {y f b : List Int} {e : Bool} (h : stErr y f b = 0) (he : Same y) : itr y e f b (rounds y e) = (f, b) := by
  obtain ⟨_, h1, h2, _, _⟩ := stErr_zero h
  have hk := fun k => stErr_zero (itr_ok (e := e) h he k)
  refine rg_same (y := y) (e := e) (hk _).2.1 (hk _).2.2.1 h1 h2 (fun j hj => ?_)
  cases e
  · show rg false y.length (itr y false f b (4 * y.length)) j = _
    rw [show 4 * y.length = 2 * y.length + 2 * y.length by omega, itr_add, rg_full (itr_ok h he _) he j hj]
    rw [show ((itr y false f b (2 * y.length)).1, (itr y false f b (2 * y.length)).2) = itr y false f b (2 * y.length) from rfl, rg_full h he j hj, sgn_twice]
  · show rg true y.length (itr y true f b (2 * y.length)) j = _
    rw [rg_full h he j hj]
    rfl
theorem same_srE {y f b : List Int} {e : Bool} (h : stErr y f b = 0) (he : Same y) : srE y f b 0 e = 0 := by
  unfold srE
  rw [h, if_pos (by rfl), if_pos (same_ok h he)]
end Go.Proofs.Ytbjgklifmillgaa
