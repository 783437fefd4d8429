import Derived.Test.YtbjgklifmillgaaMStl
/- The plain part of SurgePeaks. -/
namespace Go.Proofs.Ytbjgklifmillgaa
open Go.RowKit
set_option linter.unusedVariables false

/-- The greater sizes, up to an index. -/
def mxAt (N V : List Int) (j : Nat) : List Int := (List.range N.length).map (fun i => if i < j then max (g0 N i) (sz (g0 V i)) else g0 N i)
theorem mx_len (N V : List Int) (j : Nat) : (mxAt N V j).length = N.length := by simp [mxAt]
theorem g0_lt {l : List Int} {i : Nat} (h : i < l.length) : g0 l i = l[i] := by simp [g0, List.getD, h]
theorem g0_ge {l : List Int} {i : Nat} (h : l.length ≤ i) : g0 l i = 0 := by simp [g0, List.getD, h]
theorem list_g0 {a b : List Int} (hl : a.length = b.length) (h : ∀ i, i < a.length → g0 a i = g0 b i) : a = b := by
  refine List.ext_getElem hl (fun i h1 h2 => ?_)
  have := h i h1
  rw [g0_lt h1, g0_lt h2] at this
  exact this
theorem mx_get {N V : List Int} {j i : Nat} (h : i < N.length) : g0 (mxAt N V j) i = if i < j then max (g0 N i) (sz (g0 V i)) else g0 N i := by
  rw [g0_lt (by rw [mx_len]; exact h)]
  simp [mxAt]
theorem mx_zero (N V : List Int) : mxAt N V 0 = N := by
  refine list_g0 (mx_len _ _ _) (fun i hi => ?_)
  rw [mx_len] at hi
  rw [mx_get hi, if_neg (by omega)]
theorem g0_set {l : List Int} {j i : Nat} {x : Int} (h : i < l.length) : g0 (l.set j x) i = if i = j then x else g0 l i := by
  rw [g0_lt (by simpa using h), g0_lt h, List.getElem_set]
  by_cases hij : j = i
  · rw [if_pos hij, if_pos hij.symm]
  · rw [if_neg hij, if_neg (by omega)]
theorem mx_set {N V : List Int} {j : Nat} (h : j < N.length) : (mxAt N V j).set j (max (g0 N j) (sz (g0 V j))) = mxAt N V (j + 1) := by
  refine list_g0 (by simp [mx_len]) (fun i hi => ?_)
  have hi' : i < N.length := by simpa [mx_len] using hi
  rw [g0_set (by rw [mx_len]; exact hi'), mx_get hi', mx_get hi']
  by_cases hij : i = j
  · subst hij; rw [if_pos rfl, if_pos (by omega)]
  · rw [if_neg hij]
    by_cases h2 : i < j
    · rw [if_pos h2, if_pos (by omega)]
    · rw [if_neg h2, if_neg (by omega)]
theorem mx_all {N V : List Int} {j : Nat} (h : N.length ≤ j) : mxAt N V j = mxAt N V N.length := by
  refine list_g0 (by simp [mx_len]) (fun i hi => ?_)
  rw [mx_len] at hi
  rw [mx_get hi, mx_get hi, if_pos (by omega), if_pos hi]
/-- The differences of neighbours. -/
def gd (V : List Int) (n : Nat) : List Int := (List.range n).map (fun i => g0 V i - g0 V (i + 1))
theorem gd_len (V : List Int) (n : Nat) : (gd V n).length = n := by simp [gd]
theorem gd_get {V : List Int} {n i : Nat} (h : i < n) : g0 (gd V n) i = g0 V i - g0 V (i + 1) := by
  rw [g0_lt (by rw [gd_len]; exact h)]
  simp [gd]
/-- A step's error. -/
def pE (y f b : List Int) (s : Int) (e : Bool) : Int :=
  if firstErr [stErr y f b, unl (wi s (-1000000) 1000000) 2] = 0 then (if stErr y (outF y f b s) (outB y f b e) = 0 then 0 else 22) else firstErr [stErr y f b, unl (wi s (-1000000) 1000000) 2]
theorem pE_zero {y f b : List Int} {s : Int} {e : Bool} (h : pE y f b s e = 0) : wi s (-1000000) 1000000 = true ∧ stErr y f b = 0 ∧ stErr y (outF y f b s) (outB y f b e) = 0 := by
  unfold pE at h
  split at h
  · rename_i h0
    have h2 : stErr y (outF y f b s) (outB y f b e) = 0 := by
      split at h
      · assumption
      · omega
    have h1 : stErr y f b = 0 ∧ wi s (-1000000) 1000000 = true := by
      generalize stErr y f b = x at h0
      generalize wi s (-1000000) 1000000 = g at h0
      by_cases hx : x = 0
      · subst hx; cases g <;> simp [firstErr, unl] at h0 ⊢
      · simp [firstErr, hx] at h0
    exact ⟨h1.2, h1.1, h2⟩
  · contradiction
/-- The peaks of the sources that are left: an error, nodes, gaps. -/
def pkGo (y : List Int) (e : Bool) : List Int → List Int → List Int → List Int → List Int → Int × List Int × List Int
  | [], _, _, N, G => (0, N, G)
  | s :: r, f, b, N, G => if pE y f b s e = 0 then pkGo y e r (outF y f b s) (outB y f b e) (mxAt N (outV y f b s e) (y.length + 1)) (mxAt G (gd (outV y f b s e) y.length) y.length) else (pE y f b s e, [], [])
def pkAll (y : List Int) (e : Bool) (l : List Int) : Int × List Int × List Int :=
  if lineErr y = 0 then (if (l.length : Int) ≤ 200 then pkGo y e l (List.replicate y.length 0) (List.replicate y.length 0) (List.replicate (y.length + 1) 0) (List.replicate y.length 0) else (8, [], [])) else (lineErr y, [], [])
theorem drop_cons {l : List Int} {k : Nat} (h : k < l.length) : l.drop k = g0 l k :: l.drop (k + 1) := by
  rw [List.drop_eq_getElem_cons h, g0_lt h]
theorem pk_drop {y : List Int} {e : Bool} {l f b N G : List Int} {k : Nat} (h : k < l.length) : pkGo y e (l.drop k) f b N G = if pE y f b (g0 l k) e = 0 then pkGo y e (l.drop (k + 1)) (outF y f b (g0 l k)) (outB y f b e) (mxAt N (outV y f b (g0 l k) e) (y.length + 1)) (mxAt G (gd (outV y f b (g0 l k) e) y.length) y.length) else (pE y f b (g0 l k) e, [], []) := by
  rw [drop_cons h]; rfl
theorem outV_len (y f b : List Int) (s : Int) (e : Bool) (h : 0 < y.length) : (outV y f b s e).length = y.length + 1 := by
  unfold outV; simp; omega
theorem g0_bd {l : List Int} {k : Nat} (M : Int) (h0 : 0 ≤ M) (h : ∀ x ∈ l, -M ≤ x ∧ x ≤ M) : -M ≤ g0 l k ∧ g0 l k ≤ M := by
  by_cases hk : k < l.length
  · exact h _ (getD_mem hk)
  · rw [g0_ge (by omega)]; omega
theorem sV_bd {y f b : List Int} {i : Nat} (hy : ∀ k, -20 ≤ g0 y k ∧ g0 y k ≤ 20) (hf : ∀ k, -1000000 ≤ g0 f k ∧ g0 f k ≤ 1000000) (hb : ∀ k, -1000000 ≤ g0 b k ∧ g0 b k ≤ 1000000) : -100000000 ≤ sV y f b i ∧ sV y f b i ≤ 100000000 := by
  have h1 := hf i; have h2 := hb (i + 1); have h3 := hy i; have h4 := hy (i + 1)
  have m5 := mulb (a := g0 f i) (b := g0 y i) 1000000 20 20000000 (by omega) (by omega) (by omega) (by omega) (by omega)
  have m6 := mulb (a := g0 b (i + 1)) (b := g0 y (i + 1)) 1000000 20 20000000 (by omega) (by omega) (by omega) (by omega) (by omega)
  exact tdiv_bd _ _ 100000000 (by omega) (by omega)
theorem outV_bd {y f b : List Int} {s : Int} {e : Bool} (h0 : stErr y f b = 0) (hs : wi s (-1000000) 1000000 = true) (i : Nat) : -100000000 ≤ g0 (outV y f b s e) i ∧ g0 (outV y f b s e) i ≤ 100000000 := by
  obtain ⟨hl, _, _, hf, hb⟩ := stErr_zero h0
  obtain ⟨_, _, hy⟩ := lineErr_zero hl
  have hf' := fun k => g0_bd (l := f) (k := k) 1000000 (by omega) hf
  have hb' := fun k => g0_bd (l := b) (k := k) 1000000 (by omega) hb
  have hy' := fun k => g0_bd (l := y) (k := k) 20 (by omega) (fun x hx => by have := hy x hx; omega)
  have hs' := wi_iff.1 hs
  refine g0_bd (l := outV y f b s e) 100000000 (by omega) (fun x hx => ?_)
  unfold outV at hx
  rcases List.mem_cons.1 hx with rfl | hx
  · omega
  · rcases List.mem_append.1 hx with hx | hx
    · obtain ⟨j, _, rfl⟩ := List.mem_map.1 hx
      exact sV_bd hy' hf' hb'
    · have : x = if e then 0 else 2 * g0 f (y.length - 1) := by simpa using hx
      have := hf' (y.length - 1)
      cases e <;> simp at * <;> omega
theorem stErr_zeros {y : List Int} (h : lineErr y = 0) : stErr y (List.replicate y.length 0) (List.replicate y.length 0) = 0 := by
  rw [stErr_waves h (by simp) (by simp)]
  have : wErr (List.replicate y.length 0) = 0 := by
    unfold wErr
    have h2 : (List.replicate y.length (0 : Int)).any (fun x => !wi x (-1000000) 1000000) = false := by
      rw [List.any_eq_false]
      intro x hx
      rw [List.eq_of_mem_replicate hx]
      decide
    rw [h2]; rfl
  rw [this]; rfl
theorem pk_bad {y : List Int} {e : Bool} {l : List Int} {E : Int} (hE : firstErr [lineErr y, unl (decide ((l.length : Int) ≤ 200)) 8] = E) (h : E ≠ 0) : pkAll y e l = (E, [], []) := by
  subst hE
  unfold pkAll
  by_cases h0 : lineErr y = 0
  · rw [h0] at h ⊢
    rw [if_pos rfl]
    by_cases h1 : (l.length : Int) ≤ 200
    · exact absurd (by simp [firstErr, unl, h1]) h
    · rw [if_neg h1]; simp [firstErr, unl, h1]
  · rw [if_neg h0]; simp [firstErr, h0]
theorem pk_ok {y : List Int} {e : Bool} {l : List Int} (hE : firstErr [lineErr y, unl (decide ((l.length : Int) ≤ 200)) 8] = 0) : lineErr y = 0 ∧ (l.length : Int) ≤ 200 ∧ pkAll y e l = pkGo y e l (List.replicate y.length 0) (List.replicate y.length 0) (List.replicate (y.length + 1) 0) (List.replicate y.length 0) := by
  by_cases h0 : lineErr y = 0
  · by_cases h1 : (l.length : Int) ≤ 200
    · exact ⟨h0, h1, by unfold pkAll; rw [if_pos h0, if_pos h1]⟩
    · simp [firstErr, unl, h0, h1] at hE
  · simp [firstErr, h0] at hE
end Go.Proofs.Ytbjgklifmillgaa
