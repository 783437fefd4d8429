import Derived.Test.YthkekjgdknnaiaaGreatDChg
import Derived.Test.YthkekjgdknnaiaaGreatMDAnsP
import Derived.Test.YthkekjgdknnaiaaGreatMDLevO
/- Levels, calibrations, and pulses from outside, as the reference says them, in plain words. -/
namespace Go.Proofs.YthkekjgdknnaiaaGreat
open Go.RowKit
set_option linter.unusedVariables false

/-- The greatest size, from q down, that enough pulses reach. -/
def lvlD (l : List Int) (m : Int) : Nat → Int × Bool
  | 0 => (0, false)
  | q + 1 => if m ≤ (cge l ((q + 1 : Nat) : Int) : Int) then (((q + 1 : Nat) : Int), true) else lvlD l m q
theorem cge_mono {l : List Int} {p q : Int} (h : p ≤ q) : cge l q ≤ cge l p := by
  unfold cge
  refine List.countP_mono_left (fun x _ hx => ?_)
  simp only [decide_eq_true_eq] at hx ⊢
  omega
theorem lvlD_none {l : List Int} {m : Int} (h : (l.length : Int) < m) : ∀ q, lvlD l m q = (0, false)
  | 0 => rfl
  | q + 1 => by
    have h1 : cge l ((q + 1 : Nat) : Int) ≤ l.length := List.countP_le_length
    rw [lvlD, if_neg (by omega)]
    exact lvlD_none h q
theorem lvlD_ok {l : List Int} {m : Nat} (h0 : 1 ≤ m) (h1 : m ≤ l.length) : ∀ q : Nat, lvlOf l m ≤ q → 1 ≤ lvlOf l m → lvlD l m q = (lvlOf l m, true)
  | 0, h2, h3 => by omega
  | q + 1, h2, h3 => by
    obtain ⟨g1, g2, _⟩ := lvl_spec h0 h1
    by_cases he : lvlOf l m = ((q + 1 : Nat) : Int)
    · rw [lvlD, if_pos (by rw [← he]; omega), he]
    · have := g2 ((q + 1 : Nat) : Int) (by omega)
      rw [lvlD, if_neg (by omega)]
      exact lvlD_ok h0 h1 q (by omega) h3
/-- The level of a valid series. -/
theorem lvlD_ser {s : Ser} (h : (serE s).2 = 0) : lvlD (lvAmp s.l) s.least 4096 = if s.least ≤ (s.l.length : Int) then ((levE s).1, true) else (0, false) := by
  have h5 := (headE_zero (serE_zero h).2.1).2.2.1
  have hl : (lvAmp s.l).length = s.l.length := by unfold lvAmp; rw [List.length_map]
  by_cases hc : s.least ≤ (s.l.length : Int)
  · rw [if_pos hc]
    have h1 : lvErr s = 0 := by
      unfold lvErr
      rw [h, decide_eq_true hc]; rfl
    have h2 : levE s = (lvlOf (lvAmp s.l) s.least.toNat, 0) := by
      unfold levE; rw [if_neg (by rw [h1]; decide)]
    have h3 := lvl_bd (s := s) (by rw [h2])
    rw [h2] at h3 ⊢
    have h4 := lvlD_ok (l := lvAmp s.l) (m := s.least.toNat) (by omega) (by omega) 4096 h3.2 h3.1
    rwa [Int.toNat_of_nonneg (by omega)] at h4
  · rw [if_neg hc]
    exact lvlD_none (by omega) _
theorem levE_err {s : Ser} (h : (serE s).2 = 0) : (levE s).2 = if s.least ≤ (s.l.length : Int) then 0 else 12 := by
  unfold levE lvErr
  rw [h]
  by_cases hc : s.least ≤ (s.l.length : Int)
  · rw [decide_eq_true hc, if_pos hc]; rfl
  · rw [decide_eq_false hc, if_neg hc]; rfl
theorem levE_bad {s : Ser} (h : (serE s).2 ≠ 0) : levE s = (0, (serE s).2) := by
  have h1 : lvErr s = (serE s).2 := by
    unfold lvErr
    show (if (serE s).2 = 0 then _ else (serE s).2) = _
    rw [if_neg h]
  unfold levE
  rw [h1, if_pos h]
/-- The greatest and the least of some readings. -/
def mx (l : List Int) : Int := l.foldl max (l.headD 0)
def mn (l : List Int) : Int := l.foldl min (l.headD 0)
/-- The error of a calibration. -/
def cbE (l : List Int) (lo hi : Int) : Int := firstErr [unl (decide (0 < l.length)) 10, unl (decide ((l.length : Int) ≤ 60)) 8, unl (!l.any (fun n => !wi n 1 4096)) 2, rngEE (fun n => wi n 1 1000000) lo hi]
def lowP (a b : Int) : Int × Int := (a.tdiv (gc a b), b / gc a b)
def cbV (l : List Int) (lo hi : Int) : (Int × Int) × (Int × Int) := (lowP lo (mx l), lowP hi (mn l))
def calOf (l : List Int) (lo hi : Int) : ((Int × Int) × (Int × Int)) × Int := if cbE l lo hi ≠ 0 then (((0, 0), (0, 0)), cbE l lo hi) else (cbV l lo hi, 0)
/-- Two series and a window: their error. -/
def outE (s o : Ser) (w : Int) : Int := firstErr [(serE s).2, (serE o).2, unl (wi w 0 1000000) 2]
/-- A pulse comes from outside. -/
def isO (o : List T3) (w : Int) (p : T3) : Bool := o.any (fun q => decide (sz (p.x - q.x) ≤ w))
/-- The indexes of the pulses from outside, of the first k. -/
def frO (l o : List T3) (w : Int) (k : Nat) : List Nat := (List.range k).filter (fun i => isO o w (pAt l i))
def clO (l o : List T3) (w : Int) : List T3 := l.filter (fun p => !isO o w p)
theorem frO_succ (l o : List T3) (w : Int) (k : Nat) : frO l o w (k + 1) = if isO o w (pAt l k) = true then frO l o w k ++ [k] else frO l o w k := by
  unfold frO
  rw [List.range_succ, List.filter_append]
  split
  · rename_i h; simp [h]
  · rename_i h; simp [h]
theorem frO_len (l o : List T3) (w : Int) (k : Nat) : (frO l o w k).length ≤ k := by
  have := List.length_filter_le (fun i => isO o w (pAt l i)) (List.range k)
  rw [List.length_range] at this
  exact this
theorem frO_mem {l o : List T3} {w : Int} {k i : Nat} : i ∈ frO l o w k ↔ i < k ∧ isO o w (pAt l i) = true := by
  unfold frO
  rw [List.mem_filter, List.mem_range]
theorem pAt_some {l : List T3} {i : Nat} (h : i < l.length) : l[i]? = some (pAt l i) := by
  unfold pAt
  rw [List.getElem?_eq_getElem h, List.getD_eq_getElem?_getD, List.getElem?_eq_getElem h]; rfl
theorem clO_take (l o : List T3) (w : Int) {k : Nat} (h : k < l.length) : clO (l.take (k + 1)) o w = if isO o w (pAt l k) = true then clO (l.take k) o w else clO (l.take k) o w ++ [pAt l k] := by
  unfold clO
  rw [List.take_add_one, pAt_some h, List.filter_append]
  split
  · rename_i h; simp [h]
  · rename_i h; simp [h]
theorem clO_len (l o : List T3) (w : Int) : (clO l o w).length ≤ l.length := List.length_filter_le _ _
theorem clO_fr (l o : List T3) (w : Int) : ∀ k, k ≤ l.length → (frO l o w k).length + (clO (l.take k) o w).length = k
  | 0, _ => rfl
  | k + 1, h => by
    have ih := clO_fr l o w k (by omega)
    rw [frO_succ, clO_take l o w (by omega)]
    split
    · rw [List.length_append]; simp only [List.length_cons, List.length_nil]; omega
    · rw [List.length_append]; simp only [List.length_cons, List.length_nil]; omega
theorem clO_none {l o : List T3} {w : Int} : ∀ p ∈ clO l o w, isO o w p = false := fun p hp => by
  unfold clO at hp
  rw [List.mem_filter] at hp
  simpa using hp.2
theorem clO_clO (l o : List T3) (w : Int) : clO (clO l o w) o w = clO l o w := by
  unfold clO
  rw [List.filter_filter]
  simp
theorem frO_clO (l o : List T3) (w : Int) : frO (clO l o w) o w (clO l o w).length = [] := by
  rw [List.eq_nil_iff_forall_not_mem]
  intro i hi
  rw [frO_mem] at hi
  have h1 := clO_none (o := o) (w := w) (l := l) (pAt (clO l o w) i) (List.mem_of_getElem? (pAt_some hi.1))
  rw [h1] at hi
  exact absurd hi.2 (by decide)
theorem isO_wide {o : List T3} {v w : Int} (h : v ≤ w) {p : T3} (hp : isO o v p = true) : isO o w p = true := by
  unfold isO at *
  rw [List.any_eq_true] at *
  obtain ⟨q, hq, hd⟩ := hp
  refine ⟨q, hq, ?_⟩
  simp only [decide_eq_true_eq] at hd ⊢
  omega
/-- What is left of valid pulses is valid. -/
theorem pulE_sub {l l' : List T3} (h : ∀ k, k < l.length → pulE l k = 0) (hs : l'.Sublist l) : ∀ k, k < l'.length → pulE l' k = 0 := by
  have hx : l.Pairwise (fun p q => p.x < q.x) := by
    rw [List.pairwise_iff_getElem]
    intro i j hi hj hij
    have h4 : ∀ d, i + d + 1 < l.length → (pAt l i).x < (pAt l (i + d + 1)).x := by
      intro d
      induction d with
      | zero =>
        intro hd
        have h6 := (pulE_zero (h (i + 0 + 1) hd)).2.2.2.2
        rw [show i + 0 + 1 - 1 = i by omega] at h6
        rcases h6 with h6 | h6
        · omega
        · exact h6
      | succ d ih =>
        intro hd
        have h5 := ih (by omega)
        have h6 := (pulE_zero (h (i + (d + 1) + 1) hd)).2.2.2.2
        rw [show i + (d + 1) + 1 - 1 = i + d + 1 by omega] at h6
        rcases h6 with h6 | h6
        · omega
        · omega
    have := h4 (j - i - 1) (by omega)
    rw [show i + (j - i - 1) + 1 = j by omega] at this
    have e1 := pAt_some hi
    have e2 := pAt_some hj
    rw [List.getElem?_eq_getElem hi, Option.some.injEq] at e1
    rw [List.getElem?_eq_getElem hj, Option.some.injEq] at e2
    rw [e1, e2]; exact this
  have hy : ∀ p ∈ l, pulR p = true ∧ p.y ≠ 0 := fun p hp => by
    obtain ⟨k, hk, rfl⟩ := List.mem_iff_getElem.1 hp
    have := h k hk
    have e1 := pAt_some hk
    rw [List.getElem?_eq_getElem hk, Option.some.injEq] at e1
    rw [e1]
    unfold pulE at this
    simp only [firstErr_cons] at this
    obtain ⟨h1, h2, _⟩ := this
    rw [unl_eq_zero (by omega)] at h1 h2
    exact ⟨h1, by simpa using h2⟩
  intro k hk
  have hxs := hx.sublist hs
  obtain ⟨g1, g2⟩ := hy (pAt l' k) (hs.subset (List.mem_of_getElem? (pAt_some hk)))
  unfold pulE
  rw [g1, show ((pAt l' k).y != 0) = true by simpa using g2]
  have g3 : (decide (k = 0) || decide ((pAt l' (k - 1)).x < (pAt l' k).x)) = true := by
    by_cases h0 : k = 0
    · simp [h0]
    · rw [List.pairwise_iff_getElem] at hxs
      have := hxs (k - 1) k (by omega) hk (by omega)
      have e1 := pAt_some (show k - 1 < l'.length by omega)
      have e2 := pAt_some hk
      rw [List.getElem?_eq_getElem (by omega), Option.some.injEq] at e1
      rw [List.getElem?_eq_getElem hk, Option.some.injEq] at e2
      rw [e1, e2] at this
      simp [this]
  rw [g3]; rfl
theorem serE_sub {s : Ser} {l' : List T3} (h : (serE s).2 = 0) (hs : l'.Sublist s.l) : (serE { s with l := l' }).2 = 0 := by
  obtain ⟨_, h1, h2⟩ := serE_zero h
  have h3 := hs.length_le
  have h4 : headE { s with l := l' } = 0 := by
    unfold headE at h1 ⊢
    simp only [firstErr_cons] at h1 ⊢
    obtain ⟨g1, g2, g3, g4, g5⟩ := h1
    refine ⟨g1, g2, g3, ?_, g5⟩
    rw [unl_eq_zero (by omega)] at g4 ⊢
    have := of_decide_eq_true g4
    exact decide_eq_true (show (l'.length : Int) ≤ 60 by omega)
  unfold serE
  rw [if_neg (by rw [h4]; decide), firstAt_all]
  intro k _ hk
  exact pulE_sub h2 hs k (by simpa using hk)
end Go.Proofs.YthkekjgdknnaiaaGreat
