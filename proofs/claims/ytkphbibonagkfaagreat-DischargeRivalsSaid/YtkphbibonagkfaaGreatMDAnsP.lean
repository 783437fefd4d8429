import Derived.Test.YtkphbibonagkfaaGreatMDLst
import Derived.Test.YtkphbibonagkfaaGreatMDSmall
import Derived.Test.YtkphbibonagkfaaGreatMFInt
/- Distances, arrivals and answers, in plain words. -/
namespace Go.Proofs.YtkphbibonagkfaaGreat
open Go.RowKit
set_option linter.unusedVariables false

/-- A place: three coordinates. -/
def plc (p : T3) : Bool := !([p.x, p.y, p.z].any (fun n => !wi n (-10000) 10000))
theorem plc_iff {p : T3} : plc p = true ↔ (-10000 ≤ p.x ∧ p.x ≤ 10000) ∧ (-10000 ≤ p.y ∧ p.y ≤ 10000) ∧ (-10000 ≤ p.z ∧ p.z ≤ 10000) := by
  simp only [plc, Bool.not_eq_true', List.any_eq_false, List.mem_cons, List.not_mem_nil, or_false, Bool.not_eq_true', Bool.not_eq_false]
  constructor
  · intro h
    exact ⟨wi_iff.1 (by simpa using h p.x (by simp)), wi_iff.1 (by simpa using h p.y (by simp)), wi_iff.1 (by simpa using h p.z (by simp))⟩
  · rintro ⟨h1, h2, h3⟩ n (rfl | rfl | rfl)
    · simpa using wi_iff.2 h1
    · simpa using wi_iff.2 h2
    · simpa using wi_iff.2 h3
/-- A grid: the first corner, the step, the counts. -/
structure Gri where
  f : T3
  st : Int
  c : T3
def cnt (p : T3) : Bool := !([p.x, p.y, p.z].any (fun n => !wi n 1 6))
theorem cnt_iff {p : T3} : cnt p = true ↔ (1 ≤ p.x ∧ p.x ≤ 6) ∧ (1 ≤ p.y ∧ p.y ≤ 6) ∧ (1 ≤ p.z ∧ p.z ≤ 6) := by
  simp only [cnt, Bool.not_eq_true', List.any_eq_false, List.mem_cons, List.not_mem_nil, or_false, Bool.not_eq_true', Bool.not_eq_false]
  constructor
  · intro h
    exact ⟨wi_iff.1 (by simpa using h p.x (by simp)), wi_iff.1 (by simpa using h p.y (by simp)), wi_iff.1 (by simpa using h p.z (by simp))⟩
  · rintro ⟨h1, h2, h3⟩ n (rfl | rfl | rfl)
    · simpa using wi_iff.2 h1
    · simpa using wi_iff.2 h2
    · simpa using wi_iff.2 h3
def griE (g : Gri) : Int := unl (plc g.f && wi g.st 1 1000 && cnt g.c) 2
theorem griE_zero {g : Gri} (h : griE g = 0) : plc g.f = true ∧ (1 ≤ g.st ∧ g.st ≤ 1000) ∧ cnt g.c = true := by
  unfold griE at h
  rw [unl_eq_zero (by omega)] at h
  simp only [Bool.and_eq_true, wi_iff] at h
  exact ⟨h.1.1, h.1.2, h.2⟩
/-- The error of a range whose ends satisfy a condition. -/
def rngEE (p : Int → Bool) (lo hi : Int) : Int := firstErr [unl (p lo && p hi) 2, unl (decide (lo ≤ hi)) 9]
/-- Arrivals: the range of the speed, sensors. -/
structure Arr where
  lo : Int
  hi : Int
  l : List Sen
def sAt (l : List Sen) (k : Nat) : Sen := l.getD k ⟨0, 0, 0, 0, 0⟩
def arrH (a : Arr) : Int := firstErr [rngEE (fun n => wi n 1 10000) a.lo a.hi, unl (decide (2 ≤ (a.l.length : Int))) 10, unl (decide ((a.l.length : Int) ≤ 5)) 8]
def senE (l : List Sen) (k : Nat) : Int := firstErr [unl (plc ⟨(sAt l k).x, (sAt l k).y, (sAt l k).z⟩) 2, rngEE (fun n => wi n 0 1000000) (sAt l k).lo (sAt l k).hi]
def arrE (a : Arr) : Int × Int := if arrH a ≠ 0 then (0, arrH a) else firstAt (senE a.l) a.l.length 0
theorem rngEE_zero {p : Int → Bool} {lo hi : Int} (h : rngEE p lo hi = 0) : p lo = true ∧ p hi = true ∧ lo ≤ hi := by
  unfold rngEE at h
  simp only [firstErr_cons] at h
  obtain ⟨h1, h2, _⟩ := h
  rw [unl_eq_zero (by omega)] at h1 h2
  rw [Bool.and_eq_true] at h1
  exact ⟨h1.1, h1.2, of_decide_eq_true h2⟩
theorem arrE_zero {a : Arr} (h : (arrE a).2 = 0) : arrE a = (0, 0) ∧ (1 ≤ a.lo ∧ a.lo ≤ a.hi ∧ a.hi ≤ 10000) ∧ 2 ≤ a.l.length ∧ a.l.length ≤ 5 ∧ ∀ k, k < a.l.length →
    plc ⟨(sAt a.l k).x, (sAt a.l k).y, (sAt a.l k).z⟩ = true ∧ 0 ≤ (sAt a.l k).lo ∧ (sAt a.l k).lo ≤ (sAt a.l k).hi ∧ (sAt a.l k).hi ≤ 1000000 := by
  unfold arrE at h ⊢
  by_cases h0 : arrH a ≠ 0
  · rw [if_pos h0] at h; exact absurd h h0
  · rw [if_neg h0] at h ⊢
    obtain ⟨h1, h2⟩ := firstAt_none _ _ h
    have h3 : arrH a = 0 := Decidable.not_not.1 h0
    unfold arrH at h3
    simp only [firstErr_cons] at h3
    obtain ⟨h4, h5, h6, _⟩ := h3
    obtain ⟨h7, h8, h9⟩ := rngEE_zero h4
    rw [unl_eq_zero (by omega)] at h5 h6
    have h5 := of_decide_eq_true h5
    have h6 := of_decide_eq_true h6
    rw [wi_iff] at h7 h8
    refine ⟨h1, ⟨h7.1, h9, h8.2⟩, by omega, by omega, fun k hk => ?_⟩
    have h10 := h2 k (by omega) (by omega)
    unfold senE at h10
    simp only [firstErr_cons] at h10
    obtain ⟨h11, h12, _⟩ := h10
    rw [unl_eq_zero (by omega)] at h11
    obtain ⟨h13, h14, h15⟩ := rngEE_zero h12
    rw [wi_iff] at h13 h14
    exact ⟨h11, h13.1, h15, h14.2⟩
/-- A cell of a grid. -/
def celB (g : Gri) (c : T3) : Bool := wi c.x 0 (g.c.x - 1) && wi c.y 0 (g.c.y - 1) && wi c.z 0 (g.c.z - 1)
theorem celB_iff {g : Gri} {c : T3} : celB g c = true ↔ (0 ≤ c.x ∧ c.x < g.c.x) ∧ (0 ≤ c.y ∧ c.y < g.c.y) ∧ (0 ≤ c.z ∧ c.z < g.c.z) := by
  simp only [celB, Bool.and_eq_true, wi_iff]; omega
/-- The squares of the least and of the greatest distance; the distance range. -/
def nea (g : Gri) (c p : T3) : Int := axN (g.f.x + c.x * g.st - p.x) g.st * axN (g.f.x + c.x * g.st - p.x) g.st + axN (g.f.y + c.y * g.st - p.y) g.st * axN (g.f.y + c.y * g.st - p.y) g.st + axN (g.f.z + c.z * g.st - p.z) g.st * axN (g.f.z + c.z * g.st - p.z) g.st
def faa (g : Gri) (c p : T3) : Int := axF (g.f.x + c.x * g.st - p.x) g.st * axF (g.f.x + c.x * g.st - p.x) g.st + axF (g.f.y + c.y * g.st - p.y) g.st * axF (g.f.y + c.y * g.st - p.y) g.st + axF (g.f.z + c.z * g.st - p.z) g.st * axF (g.f.z + c.z * g.st - p.z) g.st
def dist (g : Gri) (c p : T3) : Int × Int := (isq (nea g c p), isqUp (faa g c p))
/-- What is computed of a sensor. -/
def dOf (g : Gri) (c : T3) (s : Sen) : Int × Int := dist g c ⟨s.x, s.y, s.z⟩
def dAt (g : Gri) (c : T3) (l : List Sen) (i : Nat) : Int × Int := dOf g c (sAt l i)
def lat (l : List Sen) (i j : Nat) : Int := (sAt l j).hi - (sAt l i).lo
/-- The answer for a cell: a pair of sensors excludes it; a speed keeps it; the answer. -/
def excl (g : Gri) (a : Arr) (c : T3) (i j : Nat) : Bool := decide ((dAt g c a.l j).1 - (dAt g c a.l i).2 > max (a.lo * lat a.l i j) (a.hi * lat a.l i j))
def keep (g : Gri) (a : Arr) (c : T3) (v : Int) (i j : Nat) : Bool := decide ((dAt g c a.l j).2 - (dAt g c a.l i).1 ≤ v * lat a.l i j)
/-- All ordered pairs of different numbers below n. -/
def allP (n : Nat) (p : Nat → Nat → Bool) : Bool := (List.range n).all (fun i => (List.range n).all (fun j => decide (i = j) || p i j))
theorem allP_iff {n : Nat} {p : Nat → Nat → Bool} : allP n p = true ↔ ∀ i j, i < n → j < n → i ≠ j → p i j = true := by
  simp only [allP, List.all_eq_true, List.mem_range, Bool.or_eq_true, decide_eq_true_eq]
  constructor
  · intro h i j hi hj hne
    rcases h i hi j hj with h | h
    · exact absurd h hne
    · exact h
  · intro h i hi j hj
    by_cases e : i = j
    · exact .inl e
    · exact .inr (h i j hi hj e)
def ans (g : Gri) (a : Arr) (c : T3) : Int :=
  if allP a.l.length (fun i j => !excl g a c i j) = true then (if allP a.l.length (keep g a c a.lo) = true ∨ allP a.l.length (keep g a c a.hi) = true then 2 else 1) else 0
end Go.Proofs.YtkphbibonagkfaaGreat

/- Fractions and calibrations of the package discharge. -/
namespace Go.Proofs.YtkphbibonagkfaaGreat
open Go.RowKit
set_option linter.unusedVariables false

theorem d_divisor_gen (a b : Int) (w : World) (ha0 : -9223372036854775808 ≤ a) (ha1 : a ≤ 9223372036854775807) (hb0 : 0 < b) (hb1 : b ≤ 9223372036854775807) :
    Calls Tryz.prog 159 #[.int .i64 a, .int .i64 b] w fun e' w' => e' = .returned (.int .i64 (gc a b)) ∧ ∃ n, w' = w.drewN n := by
  go_enter Tryz.func159, Tryz.ntmps159
  go_wp2
  go_loopw [0, 1] (fun x y wr => ∃ c d : Int, x = .int .i64 c ∧ y = .int .i64 d ∧ gc c d = gc a b ∧ -9223372036854775808 ≤ c ∧ c ≤ 9223372036854775807 ∧ -9223372036854775807 ≤ d ∧ d ≤ 9223372036854775807 ∧ (c = -9223372036854775808 → 0 < d) ∧ ∃ n, wr = w.drewN n) (fun _ y _ => (intOf y).natAbs)
  case atStart => exact ⟨a, b, rfl, rfl, rfl, ha0, ha1, by omega, hb1, fun _ => hb0, 0, rfl⟩
  case round =>
    obtain ⟨c, d, rfl, rfl, hg, hc0, hc1, hd0, hd1, hcd, n, rfl⟩ := hrel
    have HG := Lib.hid hg; clear hg
    by_cases hd : d = 0
    · subst hd
      have hc2 : -9223372036854775807 ≤ c := by
        by_cases h : c = -9223372036854775808
        · have := hcd h; omega
        · omega
      clear hcd
      go_wp2_with (go_at_call 124; refine (d_size_any _ _ (by omega) (by omega)).mono ?_; rintro e w' ⟨rfl, rfl⟩)
      go_ret
      exact ⟨ret_int (by rw [← HG.out, gc_zero]), n, rfl⟩
    · have hd' : (d == 0) = false := by simpa using hd
      have hd'' : (d != 0) = true := by simpa using hd
      clear hcd
      go_wp2
      go_region
      go_wp2
      have hlt := tmod_lt c d hd
      have hg := gcd_tmod c d
      have hbd := hlt
      go_roundw
      case rel => exact ⟨d, c.tmod d, rfl, rfl, by rw [← HG.out]; unfold gc; rw [hg], by omega, by omega, by omega, by omega, fun h => by omega, n + 1, rfl⟩
      case measure => simpa [intOf] using hlt
theorem d_isLowest_any (a b : Int) (w : World) (ha0 : -9223372036854775808 ≤ a) (ha1 : a ≤ 9223372036854775807) (hb1 : b ≤ 9223372036854775807) :
    Calls Tryz.prog 117 #[.agg #[.int .i64 a, .int .i64 b]] w fun e' w' => e' = .returned (.bool (isLow a b)) ∧ Below w.heap.size w w' := by
  unfold isLow
  by_cases h : b > 0
  · have hb : decide (b > 0) = true := by simpa using h
    rw [hb, Bool.true_and]
    obtain ⟨g, hg⟩ : ∃ g, g = gc a b := ⟨_, rfl⟩
    have HG := Lib.hid (fun w' => d_divisor_gen a b w' ha0 ha1 h hb1)
    rw [← hg] at HG ⊢
    clear hg h
    go_enter Tryz.func117, Tryz.ntmps117
    go_wp2_with fail
    refine (HG.out _).mono ?_
    rintro e5 w5 ⟨rfl, k, rfl⟩
    go_wp2
    go_ret
    exact ⟨rfl, by (repeat' (first | (with_reducible exact Below.refl _ _) | (with_reducible assumption) | (with_reducible refine Below.drewN ?_ _) | (with_reducible refine Below.alloc ?_ ?_ _) | (with_reducible refine Below.drew ?_) | (with_reducible refine Below.setCell ?_ ?_ _) | (with_reducible refine Below.step (by assumption) ?_ ?_) | (with_reducible exact And.left (by assumption)) | go_size))⟩
  · have hb : decide (b > 0) = false := by simpa using h
    rw [hb, Bool.false_and]
    clear h
    go_enter Tryz.func117, Tryz.ntmps117
    go_wp2
    go_ret
    exact ⟨rfl, by (repeat' (first | (with_reducible exact Below.refl _ _) | (with_reducible assumption) | (with_reducible refine Below.drewN ?_ _) | (with_reducible refine Below.alloc ?_ ?_ _) | (with_reducible refine Below.drew ?_) | (with_reducible refine Below.setCell ?_ ?_ _) | (with_reducible refine Below.step (by assumption) ?_ ?_) | (with_reducible exact And.left (by assumption)) | go_size))⟩
theorem d_isPositive_any (a b m : Int) (w : World) : Calls Tryz.prog 118 #[.agg #[.int .i64 a, .int .i64 b], .int .i64 m] w fun e' w' => e' = .returned (.bool (isPo a b m)) ∧ Below w.heap.size w w' := by
  unfold isPo
  have HB := Lib.hid (fun w' => d_within_any b 1 m w')
  cases h : wi a 1 m
  all_goals
    have HA := Lib.hid (fun w' => d_within_any a 1 m w')
    rw [h] at HA
    clear h
    go_enter Tryz.func118, Tryz.ntmps118
    go_wp2_with fail
    refine (HA.out _).mono ?_
    rintro e5 w5 ⟨rfl, rfl⟩
  · go_wp2
    go_ret
    exact ⟨rfl, by (repeat' (first | (with_reducible exact Below.refl _ _) | (with_reducible assumption) | (with_reducible refine Below.drewN ?_ _) | (with_reducible refine Below.alloc ?_ ?_ _) | (with_reducible refine Below.drew ?_) | (with_reducible refine Below.setCell ?_ ?_ _) | (with_reducible refine Below.step (by assumption) ?_ ?_) | (with_reducible exact And.left (by assumption)) | go_size))⟩
  · go_wp2_with fail
    refine (HB.out _).mono ?_
    rintro e5 w5 ⟨rfl, rfl⟩
    go_wp2
    go_ret
    exact ⟨ret_bool (by simp), by (repeat' (first | (with_reducible exact Below.refl _ _) | (with_reducible assumption) | (with_reducible refine Below.drewN ?_ _) | (with_reducible refine Below.alloc ?_ ?_ _) | (with_reducible refine Below.drew ?_) | (with_reducible refine Below.setCell ?_ ?_ _) | (with_reducible refine Below.step (by assumption) ?_ ?_) | (with_reducible exact And.left (by assumption)) | go_size))⟩
end Go.Proofs.YtkphbibonagkfaaGreat
