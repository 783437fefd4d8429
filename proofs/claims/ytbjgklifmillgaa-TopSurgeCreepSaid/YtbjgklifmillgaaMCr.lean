import Derived.Test.YtbjgklifmillgaaDecCeil
import Derived.Test.YtbjgklifmillgaaMLaw
import Derived.Test.YtbjgklifmillgaaMNm
import Derived.Test.YtbjgklifmillgaaMRr
import Derived.Test.YtbjgklifmillgaaWstPlain
/- Creep paths along the gaps: their names, their limits. -/
namespace Go.Proofs.Ytbjgklifmillgaa
open Go.RowKit
set_option linter.unusedVariables false

/-- The name of a gap's path. -/
def gNm (i : Nat) : ByteArray := (⟨#[103]⟩ : ByteArray) ++ digS i
theorem gNm_ok (i : Nat) (hi : i ≤ 5) : nameOk (gNm i) = true := by
  match i, hi with
  | 0, _ => decide +kernel
  | 1, _ => decide +kernel
  | 2, _ => decide +kernel
  | 3, _ => decide +kernel
  | 4, _ => decide +kernel
  | 5, _ => decide +kernel
theorem gNm_ne (i j : Nat) (hi : i ≤ 5) (hj : j < i) : ((gNm j).toList == (gNm i).toList) = false := by
  match i, hi, j, hj with
  | 1, _, 0, _ => decide +kernel
  | 2, _, 0, _ => decide +kernel
  | 2, _, 1, _ => decide +kernel
  | 3, _, 0, _ => decide +kernel
  | 3, _, 1, _ => decide +kernel
  | 3, _, 2, _ => decide +kernel
  | 4, _, 0, _ => decide +kernel
  | 4, _, 1, _ => decide +kernel
  | 4, _, 2, _ => decide +kernel
  | 4, _, 3, _ => decide +kernel
  | 5, _, 0, _ => decide +kernel
  | 5, _, 1, _ => decide +kernel
  | 5, _, 2, _ => decide +kernel
  | 5, _, 3, _ => decide +kernel
  | 5, _, 4, _ => decide +kernel
/-- The limit that a span proves. -/
def gLim (v len : Int) (f : Int × Int) : Int := -((-(v * f.1)) / (f.2 * len))
theorem gLim_bd {v len : Int} {f : Int × Int} (hv : 1 ≤ v) (hv1 : v ≤ 1000) (hl : 1 ≤ len) (h0 : 0 ≤ f.1) (h1 : f.1 ≤ f.2) (h2 : 0 < f.2) : 0 ≤ gLim v len f ∧ gLim v len f ≤ 1000 ∧ v * f.1 ≤ gLim v len f * (f.2 * len) := by
  have hp : 0 < f.2 * len := Int.mul_pos h2 (by omega)
  have e := Int.mul_ediv_add_emod (-(v * f.1)) (f.2 * len)
  have r0 := Int.emod_nonneg (-(v * f.1)) (show f.2 * len ≠ 0 by omega)
  have r1 := Int.emod_lt_of_pos (-(v * f.1)) hp
  have k0 : 0 ≤ v * f.1 := Int.mul_nonneg (by omega) h0
  have k1 : v * f.1 ≤ 1000 * (f.2 * len) := by
    have a1 : v * f.1 ≤ 1000 * f.1 := Int.mul_le_mul_of_nonneg_right hv1 h0
    have a2 : f.2 * 1 ≤ f.2 * len := Int.mul_le_mul_of_nonneg_left hl (by omega)
    omega
  unfold gLim
  refine ⟨?_, ?_, ?_⟩
  · have h9 := Int.ediv_le_ediv (a := -(v * f.1)) (b := 0) hp (by omega)
    rw [Int.zero_ediv] at h9
    omega
  · have := Int.le_ediv_of_mul_le (a := -1000) (b := -(v * f.1)) hp (by
      rw [Int.neg_mul]; omega)
    omega
  · rw [Int.neg_mul, Int.mul_comm ((-(v * f.1)) / (f.2 * len)) (f.2 * len)]
    omega
end Go.Proofs.Ytbjgklifmillgaa

/- TopSurgeCreep: the law, no program in sight. -/
namespace Go.Proofs.Ytbjgklifmillgaa
open Go.RowKit
set_option linter.unusedVariables false

/-- The path along a gap. -/
def gPth (s e : List (Int × Int)) (n L : Nat) (v len : Int) (i : Nat) : PathV := ⟨gNm i, (i : Int), (i : Int) + 1, len, gLim v len (gapFr s e n L i true)⟩
def gPths (s e : List (Int × Int)) (n L : Nat) (v len : Int) (k : Nat) : List PathV := (List.range k).map (gPth s e n L v len)
theorem gPths_len (s e : List (Int × Int)) (n L : Nat) (v len : Int) (k : Nat) : (gPths s e n L v len k).length = k := by simp [gPths]
theorem gPths_snoc (s e : List (Int × Int)) (n L : Nat) (v len : Int) (k : Nat) : gPths s e n L v len (k + 1) = gPths s e n L v len k ++ [gPth s e n L v len k] := by simp [gPths, List.range_succ]
theorem gPths_get (s e : List (Int × Int)) (n L : Nat) (v len : Int) (k i : Nat) (h : i < k) : (gPths s e n L v len k)[i]? = some (gPth s e n L v len i) := by simp [gPths, h]
theorem gPths_mem {s e : List (Int × Int)} {n L : Nat} {v len : Int} {k : Nat} {p : PathV} (h : p ∈ gPths s e n L v len k) : ∃ i, i < k ∧ p = gPth s e n L v len i := by
  simp only [gPths, List.mem_map, List.mem_range] at h
  obtain ⟨i, h1, h2⟩ := h
  exact ⟨i, h1, h2.symm⟩
theorem gPths_take (s e : List (Int × Int)) (n L : Nat) (v len : Int) (k i : Nat) (h : i ≤ k) : (gPths s e n L v len k).take i = gPths s e n L v len i := by
  simp [gPths, ← List.map_take, List.take_range, Nat.min_eq_left h]
theorem gNm_small (i : Nat) : (gNm i).size ≤ 2 := by
  have h : (gNm i).size = 2 := by simp [gNm, digS, ByteArray.size_append]; rfl
  omega
theorem low_unit {a b : Int} (ha : 0 ≤ a) (hab : a ≤ b) (hb : 0 < b) : 0 ≤ (low a b).1 ∧ (low a b).1 ≤ (low a b).2 ∧ 0 < (low a b).2 := by
  have h1 := low_cross a b hb
  have h2 := low_den' (a := a) hb
  have h3 := low_nn ha hb
  refine ⟨h3, ?_, by omega⟩
  have h4 : a * (low a b).2 ≤ b * (low a b).2 := Int.mul_le_mul_of_nonneg_right hab (by omega)
  rw [← h1, Int.mul_comm b] at h4
  exact Int.le_of_mul_le_mul_right h4 hb
/-- A gap's span lies between 0 and 1. -/
theorem gap_unit {s e : List (Int × Int)} {n L : Nat} {g : Bool} (h : rngErr s e = 0) (hn : s.length = n) (hL : lastOf n g = L) (j : Nat) (hj : j < n) (high : Bool) :
    0 ≤ (gapFr s e n L j high).1 ∧ (gapFr s e n L j high).1 ≤ (gapFr s e n L j high).2 ∧ 0 < (gapFr s e n L j high).2 := by
  have l1 := rng_ext (gp1 j) (gp2 j) high h hn hL
  have hu : gapFr s e n L j high = low (gpN (extAt s (gp1 j) high n) (extAt e (gp2 j) high n) L j) (dd (extAt s (gp1 j) high n) (extAt e (gp2 j) high n) L L) := by
    unfold gapFr gapNum gapDen gpN
    rw [nums_nu _ _ _ _ _ (by omega), nums_nu _ _ _ _ _ (by omega)]
  have hb := l1.gpN_bd j
  rw [hu]
  exact low_unit hb.1 hb.2 l1.D
theorem gPth_err {s e : List (Int × Int)} {n L : Nat} {g : Bool} {v len : Int} (h : rngErr s e = 0) (hn : s.length = n) (hL : lastOf n g = L) (hv : 1 ≤ v ∧ v ≤ 1000) (hl : 1 ≤ len ∧ len ≤ 100) (i : Nat) (hi : i < n) :
    pthErr (gPth s e n L v len i) (gPths s e n L v len i) ((n : Int) + 1) = 0 := by
  obtain ⟨_, _, h6, _⟩ := rngErr_zero h
  obtain ⟨u1, u2, u3⟩ := gap_unit h hn hL i hi true
  obtain ⟨b1, b2, _⟩ := gLim_bd (f := gapFr s e n L i true) hv.1 hv.2 hl.1 u1 u2 u3
  have a1 : nameOk (gPth s e n L v len i).nm = true := gNm_ok i (by omega)
  have a2 : (gPths s e n L v len i).any (fun x : PathV => x.nm.toList == (gPth s e n L v len i).nm.toList) = false := by
    rw [List.any_eq_false]
    intro p hp
    obtain ⟨j, hj, rfl⟩ := gPths_mem hp
    have := gNm_ne i j (by omega) hj
    simp only [gPth]
    rw [this]; simp
  have a3 : (wi (gPth s e n L v len i).fr 0 ((n : Int) + 1 - 1) && wi (gPth s e n L v len i).to 0 ((n : Int) + 1 - 1)) = true := by
    simp only [gPth, Bool.and_eq_true, wi_iff]; omega
  have a4 : (gPth s e n L v len i).fr ≠ (gPth s e n L v len i).to := by simp only [gPth]; omega
  have a5 : (wi (gPth s e n L v len i).ln 1 10000 && wi (gPth s e n L v len i).lm 0 1000000) = true := by
    simp only [gPth, Bool.and_eq_true, wi_iff]; omega
  rw [pth_last a1 a2 a3 a4, a5]; rfl
theorem gPths_err {s e : List (Int × Int)} {n L : Nat} {g : Bool} {v len : Int} (h : rngErr s e = 0) (hn : s.length = n) (hL : lastOf n g = L) (hv : 1 ≤ v ∧ v ≤ 1000) (hl : 1 ≤ len ∧ len ≤ 100) :
    pthsErr (gPths s e n L v len n) ((n : Int) + 1) = 0 := by
  obtain ⟨_, _, h6, _⟩ := rngErr_zero h
  rw [pths_short (by rw [gPths_len]; omega), gPths_len]
  have : ∀ k i, i + k = n → pthsFrom (gPths s e n L v len n) ((n : Int) + 1) i k = 0 := by
    intro k
    induction k with
    | zero => intro i _; rfl
    | succ k ih =>
      intro i hi
      have h1 := gPths_get s e n L v len n i (by omega)
      have h2 := gPth_err (s := s) (e := e) h hn hL hv hl i (by omega)
      rw [← gPths_take s e n L v len n i (by omega)] at h2
      rw [pthsFrom_step h1 h2]
      exact ih (i + 1) (by omega)
  exact this n 0 (by omega)
theorem rat_le_int {q : Rat} {c : Int} (h : q ≤ (c : Rat)) : q.num ≤ c * (q.den : Int) := by
  rw [Rat.le_iff] at h
  simpa using h
/-- The stress of a path along a gap is at most its limit. -/
theorem gPth_kept {s e : List (Int × Int)} {n L : Nat} {g : Bool} {v len : Int} (X : List Int) (h : rngErr s e = 0) (hn : s.length = n) (hL : lastOf n g = L) (hv : 1 ≤ v ∧ v ≤ 1000) (hl : 1 ≤ len ∧ len ≤ 100) (i : Nat) (hi : i < n)
    {u : List (Int × Int)} (hu : ∀ j, j ≤ n → gp u j = uFr (pkL s X 0 n) (pkL e X 1 n) L j) : (rkOf v u (gPth s e n L v len i)).kp = true := by
  obtain ⟨g1, g2, _, _⟩ := gap_enc (g := g) X h hn hL i hi
  obtain ⟨u1, u2, u3⟩ := gap_unit h hn hL i hi true
  obtain ⟨d1, d2, d3⟩ := gap_unit h hn hL i hi false
  obtain ⟨_, _, b3⟩ := gLim_bd (f := gapFr s e n L i true) hv.1 hv.2 hl.1 u1 u2 u3
  simp only [rkOf, decide_eq_true_eq]
  refine rat_le_int ?_
  have e1 : gp u (gPth s e n L v len i).fr.toNat = uFr (pkL s X 0 n) (pkL e X 1 n) L i := by
    simp only [gPth, Int.toNat_natCast]; exact hu i (by omega)
  have e2 : gp u (gPth s e n L v len i).to.toNat = uFr (pkL s X 0 n) (pkL e X 1 n) L (i + 1) := by
    simp only [gPth]
    rw [show ((i : Int) + 1).toNat = i + 1 by omega]; exact hu (i + 1) (by omega)
  unfold stOf stq
  rw [e1, e2]
  generalize Rat.divInt (uFr (pkL s X 0 n) (pkL e X 1 n) L i).1 (uFr (pkL s X 0 n) (pkL e X 1 n) L i).2 - Rat.divInt (uFr (pkL s X 0 n) (pkL e X 1 n) L (i + 1)).1 (uFr (pkL s X 0 n) (pkL e X 1 n) L (i + 1)).2 = D at *
  have hlo : 0 ≤ Rat.divInt (gapFr s e n L i false).1 (gapFr s e n L i false).2 := by
    rw [Rat.divInt_eq_div]
    exact rdiv_nn (by have := q_le d1; simpa using this) (by have := q_lt d3; simpa using this)
  have hD : 0 ≤ D := by grind
  have habs : absQ D = D := by
    unfold absQ
    rw [if_neg]
    have := Rat.num_nonneg.2 hD
    omega
  rw [habs]
  simp only [gPth]
  generalize gLim v len (gapFr s e n L i true) = M at *
  rw [Rat.divInt_eq_div] at g2
  generalize (gapFr s e n L i true).1 = P at *
  generalize (gapFr s e n L i true).2 = Q at *
  have q1 : (0 : Rat) < (Q : Rat) := by have := q_lt u3; simpa using this
  have q2 : (0 : Rat) < (len : Rat) := by have := q_lt (show (0 : Int) < len by omega); simpa using this
  have q3 : (0 : Rat) ≤ (v : Rat) := by have := q_le (show (0 : Int) ≤ v by omega); simpa using this
  have q4 : (v : Rat) * (P : Rat) ≤ (M : Rat) * ((Q : Rat) * (len : Rat)) := by have := q_le b3; simpa [Rat.intCast_mul] using this
  have q5 : D * (Q : Rat) ≤ (P : Rat) := by
    have h1 : D * (Q : Rat) ≤ (P : Rat) / (Q : Rat) * (Q : Rat) := Rat.mul_le_mul_of_nonneg_right g2 (by grind)
    have h2 : (P : Rat) / (Q : Rat) * (Q : Rat) = (P : Rat) := by grind
    grind
  have q6 : (v : Rat) * (D * (Q : Rat)) ≤ (v : Rat) * (P : Rat) := Rat.mul_le_mul_of_nonneg_left q5 q3
  have q7 : ((v : Rat) * D) * (Q : Rat) ≤ ((M : Rat) * (len : Rat)) * (Q : Rat) := by grind
  have q8 : (v : Rat) * D ≤ (M : Rat) * (len : Rat) := by
    rcases Rat.le_total (a := (v : Rat) * D) (b := (M : Rat) * (len : Rat)) with h1 | h1
    · exact h1
    · have h2 : ((M : Rat) * (len : Rat)) * (Q : Rat) ≤ ((v : Rat) * D) * (Q : Rat) := Rat.mul_le_mul_of_nonneg_right h1 (by grind)
      have h3 : ((M : Rat) * (len : Rat)) * (Q : Rat) = ((v : Rat) * D) * (Q : Rat) := by grind
      have h4 : (M : Rat) * (len : Rat) = ((M : Rat) * (len : Rat) * (Q : Rat)) / (Q : Rat) := by grind
      have h5 : (v : Rat) * D = ((v : Rat) * D * (Q : Rat)) / (Q : Rat) := by grind
      grind
  have q9 : (v : Rat) * D / (len : Rat) ≤ (M : Rat) / 1 := rdiv_le q2 (by decide +kernel) (by grind)
  have qA : (M : Rat) / 1 = (M : Rat) := by grind
  grind
/-- Fractions are compared as the quotients are. -/
theorem divInt_le {a b c d : Int} (hb : 0 < b) (hd : 0 < d) (h : Rat.divInt a b ≤ Rat.divInt c d) : a * d ≤ c * b := by
  have h1 : ((a * d : Int) : Rat) ≤ ((c * b : Int) : Rat) := by
    rw [Rat.divInt_eq_div, Rat.divInt_eq_div] at h
    have q1 : (0 : Rat) < (b : Rat) := by have := q_lt hb; simpa using this
    have q2 : (0 : Rat) < (d : Rat) := by have := q_lt hd; simpa using this
    have h2 : (a : Rat) / (b : Rat) * ((b : Rat) * (d : Rat)) ≤ (c : Rat) / (d : Rat) * ((b : Rat) * (d : Rat)) := Rat.mul_le_mul_of_nonneg_right h (by have := Rat.mul_pos q1 q2; grind)
    have h3 : (a : Rat) / (b : Rat) * ((b : Rat) * (d : Rat)) = (a : Rat) * (d : Rat) := by grind
    have h4 : (c : Rat) / (d : Rat) * ((b : Rat) * (d : Rat)) = (c : Rat) * (b : Rat) := by grind
    rw [Rat.intCast_mul, Rat.intCast_mul]
    grind
  exact Rat.intCast_le_intCast.mp h1
/-- The worst gap's stress lies in its span. -/
theorem worst_enc {s e : List (Int × Int)} {n L : Nat} {g : Bool} (X : List Int) (h : rngErr s e = 0) (hn : s.length = n) (hL : lastOf n g = L) (j : Nat) (hj : j < n) :
    (gapFr s e n L j false).1 * (low (gpN (pkL s X 0 n) (pkL e X 1 n) L j) (dd (pkL s X 0 n) (pkL e X 1 n) L L)).2 ≤ (low (gpN (pkL s X 0 n) (pkL e X 1 n) L j) (dd (pkL s X 0 n) (pkL e X 1 n) L L)).1 * (gapFr s e n L j false).2 ∧
    (low (gpN (pkL s X 0 n) (pkL e X 1 n) L j) (dd (pkL s X 0 n) (pkL e X 1 n) L L)).1 * (gapFr s e n L j true).2 ≤ (gapFr s e n L j true).1 * (low (gpN (pkL s X 0 n) (pkL e X 1 n) L j) (dd (pkL s X 0 n) (pkL e X 1 n) L L)).2 := by
  have l0 := rng_pk X h hn hL
  obtain ⟨g1, g2, _, g4⟩ := gap_enc (g := g) X h hn hL j hj
  have hst : Rat.divInt (uFr (pkL s X 0 n) (pkL e X 1 n) L j).1 (uFr (pkL s X 0 n) (pkL e X 1 n) L j).2 - Rat.divInt (uFr (pkL s X 0 n) (pkL e X 1 n) L (j + 1)).1 (uFr (pkL s X 0 n) (pkL e X 1 n) L (j + 1)).2 = Rat.divInt (low (gpN (pkL s X 0 n) (pkL e X 1 n) L j) (dd (pkL s X 0 n) (pkL e X 1 n) L L)).1 (low (gpN (pkL s X 0 n) (pkL e X 1 n) L j) (dd (pkL s X 0 n) (pkL e X 1 n) L L)).2 := by
    rw [low_rat _ _ l0.D]
    unfold uFr gpN
    rw [low_rat _ _ l0.D, low_rat _ _ l0.D, Rat.intCast_sub, Rat.div_def, Rat.div_def, Rat.div_def]; grind
  rw [hst] at g1 g2
  have hd := low_den' (a := gpN (pkL s X 0 n) (pkL e X 1 n) L j) l0.D
  exact ⟨divInt_le (by have := (g4 false).1; omega) (by omega) g1, divInt_le (by omega) (by have := (g4 true).1; omega) g2⟩
end Go.Proofs.Ytbjgklifmillgaa
