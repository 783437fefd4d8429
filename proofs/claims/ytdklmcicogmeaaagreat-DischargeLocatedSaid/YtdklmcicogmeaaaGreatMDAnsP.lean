import Derived.Test.YtdklmcicogmeaaaGreatMDLst
import Derived.Test.YtdklmcicogmeaaaGreatMDSmall
import Derived.Test.YtdklmcicogmeaaaGreatMDSubs
import Derived.Test.YtdklmcicogmeaaaGreatMFInt
/- Distances, arrivals and answers, in plain words. -/
namespace Go.Proofs.YtdklmcicogmeaaaGreat
open Go.RowKit
set_option linter.unusedVariables false

/-- A place: three coordinates. -/
def plc (p : T3) : Bool := !([p.x, p.y, p.z].any (fun n => !wi n (-10000) 10000))
theorem plc_iff {p : T3} : plc p = true ↔ (-10000 ≤ p.x ∧ p.x ≤ 10000) ∧ (-10000 ≤ p.y ∧ p.y ≤ 10000) ∧ (-10000 ≤ p.z ∧ p.z ≤ 10000) := by
  simp only [plc, Bool.not_eq_true', List.any_eq_false, List.mem_cons, List.not_mem_nil, or_false, Bool.not_eq_true', Bool.not_eq_false]
  constructor
  · intro h
    exact ⟨wi_iff.1 (by simpa using h p.x (by simp)), wi_iff.1 (by simpa using h p.y (by simp)), wi_iff.1 (by simpa using h p.z (by simp))⟩
  · rintro ⟨h1, h2, h3⟩ n (rfl | rfl | rfl)
    · simpa using wi_iff.2 h1
    · simpa using wi_iff.2 h2
    · simpa using wi_iff.2 h3
/-- A grid: the first corner, the step, the counts. -/
structure Gri where
  f : T3
  st : Int
  c : T3
def cnt (p : T3) : Bool := !([p.x, p.y, p.z].any (fun n => !wi n 1 6))
theorem cnt_iff {p : T3} : cnt p = true ↔ (1 ≤ p.x ∧ p.x ≤ 6) ∧ (1 ≤ p.y ∧ p.y ≤ 6) ∧ (1 ≤ p.z ∧ p.z ≤ 6) := by
  simp only [cnt, Bool.not_eq_true', List.any_eq_false, List.mem_cons, List.not_mem_nil, or_false, Bool.not_eq_true', Bool.not_eq_false]
  constructor
  · intro h
    exact ⟨wi_iff.1 (by simpa using h p.x (by simp)), wi_iff.1 (by simpa using h p.y (by simp)), wi_iff.1 (by simpa using h p.z (by simp))⟩
  · rintro ⟨h1, h2, h3⟩ n (rfl | rfl | rfl)
    · simpa using wi_iff.2 h1
    · simpa using wi_iff.2 h2
    · simpa using wi_iff.2 h3
def griE (g : Gri) : Int := unl (plc g.f && wi g.st 1 1000 && cnt g.c) 2
theorem griE_zero {g : Gri} (h : griE g = 0) : plc g.f = true ∧ (1 ≤ g.st ∧ g.st ≤ 1000) ∧ cnt g.c = true := by
  unfold griE at h
  rw [unl_eq_zero (by omega)] at h
  simp only [Bool.and_eq_true, wi_iff] at h
  exact ⟨h.1.1, h.1.2, h.2⟩
/-- The error of a range whose ends satisfy a condition. -/
def rngEE (p : Int → Bool) (lo hi : Int) : Int := firstErr [unl (p lo && p hi) 2, unl (decide (lo ≤ hi)) 9]
/-- Arrivals: the range of the speed, sensors. -/
structure Arr where
  lo : Int
  hi : Int
  l : List Sen
def sAt (l : List Sen) (k : Nat) : Sen := l.getD k ⟨0, 0, 0, 0, 0⟩
def arrH (a : Arr) : Int := firstErr [rngEE (fun n => wi n 1 10000) a.lo a.hi, unl (decide (2 ≤ (a.l.length : Int))) 10, unl (decide ((a.l.length : Int) ≤ 5)) 8]
def senE (l : List Sen) (k : Nat) : Int := firstErr [unl (plc ⟨(sAt l k).x, (sAt l k).y, (sAt l k).z⟩) 2, rngEE (fun n => wi n 0 1000000) (sAt l k).lo (sAt l k).hi]
def arrE (a : Arr) : Int × Int := if arrH a ≠ 0 then (0, arrH a) else firstAt (senE a.l) a.l.length 0
theorem rngEE_zero {p : Int → Bool} {lo hi : Int} (h : rngEE p lo hi = 0) : p lo = true ∧ p hi = true ∧ lo ≤ hi := by
  unfold rngEE at h
  simp only [firstErr_cons] at h
  obtain ⟨h1, h2, _⟩ := h
  rw [unl_eq_zero (by omega)] at h1 h2
  rw [Bool.and_eq_true] at h1
  exact ⟨h1.1, h1.2, of_decide_eq_true h2⟩
theorem arrE_zero {a : Arr} (h : (arrE a).2 = 0) : arrE a = (0, 0) ∧ (1 ≤ a.lo ∧ a.lo ≤ a.hi ∧ a.hi ≤ 10000) ∧ 2 ≤ a.l.length ∧ a.l.length ≤ 5 ∧ ∀ k, k < a.l.length →
    plc ⟨(sAt a.l k).x, (sAt a.l k).y, (sAt a.l k).z⟩ = true ∧ 0 ≤ (sAt a.l k).lo ∧ (sAt a.l k).lo ≤ (sAt a.l k).hi ∧ (sAt a.l k).hi ≤ 1000000 := by
  unfold arrE at h ⊢
  by_cases h0 : arrH a ≠ 0
  · rw [if_pos h0] at h; exact absurd h h0
  · rw [if_neg h0] at h ⊢
    obtain ⟨h1, h2⟩ := firstAt_none _ _ h
    have h3 : arrH a = 0 := Decidable.not_not.1 h0
    unfold arrH at h3
    simp only [firstErr_cons] at h3
    obtain ⟨h4, h5, h6, _⟩ := h3
    obtain ⟨h7, h8, h9⟩ := rngEE_zero h4
    rw [unl_eq_zero (by omega)] at h5 h6
    have h5 := of_decide_eq_true h5
    have h6 := of_decide_eq_true h6
    rw [wi_iff] at h7 h8
    refine ⟨h1, ⟨h7.1, h9, h8.2⟩, by omega, by omega, fun k hk => ?_⟩
    have h10 := h2 k (by omega) (by omega)
    unfold senE at h10
    simp only [firstErr_cons] at h10
    obtain ⟨h11, h12, _⟩ := h10
    rw [unl_eq_zero (by omega)] at h11
    obtain ⟨h13, h14, h15⟩ := rngEE_zero h12
    rw [wi_iff] at h13 h14
    exact ⟨h11, h13.1, h15, h14.2⟩
/-- A cell of a grid. -/
def celB (g : Gri) (c : T3) : Bool := wi c.x 0 (g.c.x - 1) && wi c.y 0 (g.c.y - 1) && wi c.z 0 (g.c.z - 1)
theorem celB_iff {g : Gri} {c : T3} : celB g c = true ↔ (0 ≤ c.x ∧ c.x < g.c.x) ∧ (0 ≤ c.y ∧ c.y < g.c.y) ∧ (0 ≤ c.z ∧ c.z < g.c.z) := by
  simp only [celB, Bool.and_eq_true, wi_iff]; omega
/-- The squares of the least and of the greatest distance; the distance range. -/
def nea (g : Gri) (c p : T3) : Int := axN (g.f.x + c.x * g.st - p.x) g.st * axN (g.f.x + c.x * g.st - p.x) g.st + axN (g.f.y + c.y * g.st - p.y) g.st * axN (g.f.y + c.y * g.st - p.y) g.st + axN (g.f.z + c.z * g.st - p.z) g.st * axN (g.f.z + c.z * g.st - p.z) g.st
def faa (g : Gri) (c p : T3) : Int := axF (g.f.x + c.x * g.st - p.x) g.st * axF (g.f.x + c.x * g.st - p.x) g.st + axF (g.f.y + c.y * g.st - p.y) g.st * axF (g.f.y + c.y * g.st - p.y) g.st + axF (g.f.z + c.z * g.st - p.z) g.st * axF (g.f.z + c.z * g.st - p.z) g.st
def dist (g : Gri) (c p : T3) : Int × Int := (isq (nea g c p), isqUp (faa g c p))
/-- What is computed of a sensor. -/
def dOf (g : Gri) (c : T3) (s : Sen) : Int × Int := dist g c ⟨s.x, s.y, s.z⟩
def dAt (g : Gri) (c : T3) (l : List Sen) (i : Nat) : Int × Int := dOf g c (sAt l i)
def lat (l : List Sen) (i j : Nat) : Int := (sAt l j).hi - (sAt l i).lo
/-- The answer for a cell: a pair of sensors excludes it; a speed keeps it; the answer. -/
def excl (g : Gri) (a : Arr) (c : T3) (i j : Nat) : Bool := decide ((dAt g c a.l j).1 - (dAt g c a.l i).2 > max (a.lo * lat a.l i j) (a.hi * lat a.l i j))
def keep (g : Gri) (a : Arr) (c : T3) (v : Int) (i j : Nat) : Bool := decide ((dAt g c a.l j).2 - (dAt g c a.l i).1 ≤ v * lat a.l i j)
/-- All ordered pairs of different numbers below n. -/
def allP (n : Nat) (p : Nat → Nat → Bool) : Bool := (List.range n).all (fun i => (List.range n).all (fun j => decide (i = j) || p i j))
theorem allP_iff {n : Nat} {p : Nat → Nat → Bool} : allP n p = true ↔ ∀ i j, i < n → j < n → i ≠ j → p i j = true := by
  simp only [allP, List.all_eq_true, List.mem_range, Bool.or_eq_true, decide_eq_true_eq]
  constructor
  · intro h i j hi hj hne
    rcases h i hi j hj with h | h
    · exact absurd h hne
    · exact h
  · intro h i hi j hj
    by_cases e : i = j
    · exact .inl e
    · exact .inr (h i j hi hj e)
def ans (g : Gri) (a : Arr) (c : T3) : Int :=
  if allP a.l.length (fun i j => !excl g a c i j) = true then (if allP a.l.length (keep g a c a.lo) = true ∨ allP a.l.length (keep g a c a.hi) = true then 2 else 1) else 0
end Go.Proofs.YtdklmcicogmeaaaGreat

/- Fractions and calibrations of the package discharge. -/
namespace Go.Proofs.YtdklmcicogmeaaaGreat
open Go.RowKit
set_option linter.unusedVariables false

theorem d_divisor_gen (a b : Int) (w : World) (ha0 : -9223372036854775808 ≤ a) (ha1 : a ≤ 9223372036854775807) (hb0 : 0 < b) (hb1 : b ≤ 9223372036854775807) :
    Calls Tryz.prog 122 #[.int .i64 a, .int .i64 b] w fun e' w' => e' = .returned (.int .i64 (gc a b)) ∧ ∃ n, w' = w.drewN n := by
  go_enter Tryz.func122, Tryz.ntmps122
  go_wp2
  go_loopw [0, 1] (fun x y wr => ∃ c d : Int, x = .int .i64 c ∧ y = .int .i64 d ∧ gc c d = gc a b ∧ -9223372036854775808 ≤ c ∧ c ≤ 9223372036854775807 ∧ -9223372036854775807 ≤ d ∧ d ≤ 9223372036854775807 ∧ (c = -9223372036854775808 → 0 < d) ∧ ∃ n, wr = w.drewN n) (fun _ y _ => (intOf y).natAbs)
  case atStart => exact ⟨a, b, rfl, rfl, rfl, ha0, ha1, by omega, hb1, fun _ => hb0, 0, rfl⟩
  case round =>
    obtain ⟨c, d, rfl, rfl, hg, hc0, hc1, hd0, hd1, hcd, n, rfl⟩ := hrel
    have HG := Lib.hid hg; clear hg
    by_cases hd : d = 0
    · subst hd
      have hc2 : -9223372036854775807 ≤ c := by
        by_cases h : c = -9223372036854775808
        · have := hcd h; omega
        · omega
      clear hcd
      go_wp2_with (go_at_call 74; refine (d_size_any _ _ (by omega) (by omega)).mono ?_; rintro e w' ⟨rfl, rfl⟩)
      go_ret
      exact ⟨ret_int (by rw [← HG.out, gc_zero]), n, rfl⟩
    · have hd' : (d == 0) = false := by simpa using hd
      have hd'' : (d != 0) = true := by simpa using hd
      clear hcd
      go_wp2
      go_region
      go_wp2
      have hlt := tmod_lt c d hd
      have hg := gcd_tmod c d
      have hbd := hlt
      go_roundw
      case rel => exact ⟨d, c.tmod d, rfl, rfl, by rw [← HG.out]; unfold gc; rw [hg], by omega, by omega, by omega, by omega, fun h => by omega, n + 1, rfl⟩
      case measure => simpa [intOf] using hlt
theorem d_isLowest_any (a b : Int) (w : World) (ha0 : -9223372036854775808 ≤ a) (ha1 : a ≤ 9223372036854775807) (hb1 : b ≤ 9223372036854775807) :
    Calls Tryz.prog 100 #[.agg #[.int .i64 a, .int .i64 b]] w fun e' w' => e' = .returned (.bool (isLow a b)) ∧ Below w.heap.size w w' := by
  unfold isLow
  by_cases h : b > 0
  · have hb : decide (b > 0) = true := by simpa using h
    rw [hb, Bool.true_and]
    obtain ⟨g, hg⟩ : ∃ g, g = gc a b := ⟨_, rfl⟩
    have HG := Lib.hid (fun w' => d_divisor_gen a b w' ha0 ha1 h hb1)
    rw [← hg] at HG ⊢
    clear hg h
    go_enter Tryz.func100, Tryz.ntmps100
    go_wp2_with fail
    refine (HG.out _).mono ?_
    rintro e5 w5 ⟨rfl, k, rfl⟩
    go_wp2
    go_ret
    exact ⟨rfl, by (repeat' (first | (with_reducible exact Below.refl _ _) | (with_reducible assumption) | (with_reducible refine Below.drewN ?_ _) | (with_reducible refine Below.alloc ?_ ?_ _) | (with_reducible refine Below.drew ?_) | (with_reducible refine Below.setCell ?_ ?_ _) | (with_reducible refine Below.step (by assumption) ?_ ?_) | (with_reducible exact And.left (by assumption)) | go_size))⟩
  · have hb : decide (b > 0) = false := by simpa using h
    rw [hb, Bool.false_and]
    clear h
    go_enter Tryz.func100, Tryz.ntmps100
    go_wp2
    go_ret
    exact ⟨rfl, by (repeat' (first | (with_reducible exact Below.refl _ _) | (with_reducible assumption) | (with_reducible refine Below.drewN ?_ _) | (with_reducible refine Below.alloc ?_ ?_ _) | (with_reducible refine Below.drew ?_) | (with_reducible refine Below.setCell ?_ ?_ _) | (with_reducible refine Below.step (by assumption) ?_ ?_) | (with_reducible exact And.left (by assumption)) | go_size))⟩
theorem d_isPositive_any (a b m : Int) (w : World) : Calls Tryz.prog 101 #[.agg #[.int .i64 a, .int .i64 b], .int .i64 m] w fun e' w' => e' = .returned (.bool (isPo a b m)) ∧ Below w.heap.size w w' := by
  unfold isPo
  have HB := Lib.hid (fun w' => d_within_any b 1 m w')
  cases h : wi a 1 m
  all_goals
    have HA := Lib.hid (fun w' => d_within_any a 1 m w')
    rw [h] at HA
    clear h
    go_enter Tryz.func101, Tryz.ntmps101
    go_wp2_with fail
    refine (HA.out _).mono ?_
    rintro e5 w5 ⟨rfl, rfl⟩
  · go_wp2
    go_ret
    exact ⟨rfl, by (repeat' (first | (with_reducible exact Below.refl _ _) | (with_reducible assumption) | (with_reducible refine Below.drewN ?_ _) | (with_reducible refine Below.alloc ?_ ?_ _) | (with_reducible refine Below.drew ?_) | (with_reducible refine Below.setCell ?_ ?_ _) | (with_reducible refine Below.step (by assumption) ?_ ?_) | (with_reducible exact And.left (by assumption)) | go_size))⟩
  · go_wp2_with fail
    refine (HB.out _).mono ?_
    rintro e5 w5 ⟨rfl, rfl⟩
    go_wp2
    go_ret
    exact ⟨ret_bool (by simp), by (repeat' (first | (with_reducible exact Below.refl _ _) | (with_reducible assumption) | (with_reducible refine Below.drewN ?_ _) | (with_reducible refine Below.alloc ?_ ?_ _) | (with_reducible refine Below.drew ?_) | (with_reducible refine Below.setCell ?_ ?_ _) | (with_reducible refine Below.step (by assumption) ?_ ?_) | (with_reducible exact And.left (by assumption)) | go_size))⟩
end Go.Proofs.YtdklmcicogmeaaaGreat

/- Places, grids, cells, roots, distances: the program's functions. -/
namespace Go.Proofs.YtdklmcicogmeaaaGreat
open Go.RowKit
set_option linter.unusedVariables false

theorem isPlace1_any (x : Int) (w : World) : Calls Tryz.prog 133 #[.int .i64 x] w fun e w' => e = .returned (.bool (!wi x (-10000) 10000)) ∧ w = w' := by
  go_enter Tryz.func133, Tryz.ntmps133
  go_wp2_with (go_at_call 71; refine (d_isSized_any _ _ _ (by omega) (by omega)).mono ?_; rintro e w' ⟨rfl, rfl⟩)
  go_ret
  exact ⟨rfl, rfl⟩
theorem cf_isPlace1 (args : Array Value) (w : World) : (callFunc 133 args).run Tryz.prog w = .ok (.enter 133 args) w := by kernel_rfl
theorem checkGrid1_any (x : Int) (w : World) : Calls Tryz.prog 132 #[.int .i64 x] w fun e w' => e = .returned (.bool (!wi x 1 6)) ∧ w = w' := by
  go_enter Tryz.func132, Tryz.ntmps132
  go_wp2_with (go_at_call 69; refine (d_within_any _ _ _ _).mono ?_; rintro e w' ⟨rfl, rfl⟩)
  go_ret
  exact ⟨rfl, rfl⟩
theorem cf_checkGrid1 (args : Array Value) (w : World) : (callFunc 132 args).run Tryz.prog w = .ok (.enter 132 args) w := by kernel_rfl
/-- A part of a block that is laid, as integers. -/
theorem IntsR.part (w0 w : World) (cs : Array Value) (t B o n : Nat) (l : List Int) (hw : w.heap = (w0.alloc (.cells cs t)).heap) (hB : B = w0.heap.size) (hl : l.length = n) (hn : n ≤ 1000) (hc : ∀ i, i < n → cs[o + i]? = some (.int .i64 (l.getD i 0))) : IntsR w (some ⟨B, o, none⟩) n l := by
  refine ⟨by rw [icells_length, hl, Nat.mul_one], by unfold maxLen; omega, fun _ => ⟨B, o, rfl, ?_, fun i u hu => ?_⟩⟩
  · rw [hw, hB]; simp
  · subst hB
    have hi : i < (icells l).length := (List.getElem?_eq_some_iff.1 hu).1
    rw [icells_length] at hi
    rw [icells_get hi] at hu
    have h : w.heap[w0.heap.size]? = some (.cells cs t) := by rw [hw]; exact heap_alloc_new w0 _
    rw [cell_of_row _ _ _ _ _ _ h, hc i (by omega)]
    exact hu
theorem isPlace_any (p : T3) (w : World) : Calls Tryz.prog 109 #[.agg #[.int .i64 p.x, .int .i64 p.y, .int .i64 p.z]] w fun e' w' => e' = .returned (.bool (plc p)) ∧ Below w.heap.size w w' := by
  obtain ⟨x, y, z⟩ := p
  have HC := Lib.hid (fun (w' : World) (h : IntsR w' (some ⟨w.heap.size, 0, none⟩) 3 [x, y, z]) => containsInts_any _ _ cf_isPlace1 isPlace1_any [x, y, z] _ 3 3 w' h)
  go_enter Tryz.func109, Tryz.ntmps109
  go_wp2_with fail
  refine (HC.out _ (IntsR.part w _ _ _ _ 0 3 [x, y, z] rfl rfl rfl (by omega) (fun i hi => ?_))).mono ?_
  · match i, hi with
    | 0, _ => rfl
    | 1, _ => rfl
    | 2, _ => rfl
  rintro e w' ⟨rfl, rfl⟩
  generalize hg : [x, y, z].any (fun x => !wi x (-10000) 10000) = g
  have HG := Lib.hid hg
  clear hg HC
  go_wp2
  go_ret
  exact ⟨ret_bool (by rw [← HG.out]; rfl), by (repeat' (first | (with_reducible exact Below.refl _ _) | (with_reducible assumption) | (with_reducible refine Below.drewN ?_ _) | (with_reducible refine Below.alloc ?_ ?_ _) | (with_reducible refine Below.drew ?_) | (with_reducible refine Below.setCell ?_ ?_ _) | (with_reducible refine Below.step (by assumption) ?_ ?_) | (with_reducible exact And.left (by assumption)) | go_size))⟩
theorem checkGrid_any (g : Gri) (w : World) : Calls Tryz.prog 108 #[.agg #[.int .i64 g.f.x, .int .i64 g.f.y, .int .i64 g.f.z, .int .i64 g.st, .int .i64 g.c.x, .int .i64 g.c.y, .int .i64 g.c.z]] w fun e' w' => e' = .returned (.int .i64 (griE g)) ∧ Below w.heap.size w w' := by
  have HP := Lib.hid (fun w' => isPlace_any g.f w')
  have HS := Lib.hid (fun w' => d_within_any g.st 1 1000 w')
  obtain ⟨⟨x, y, z⟩, st, ⟨a, b, c⟩⟩ := g
  have HC := Lib.hid (fun (w' : World) (h : IntsR w' (some ⟨w.heap.size, 4, none⟩) 3 [a, b, c]) => containsInts_any _ _ cf_checkGrid1 checkGrid1_any [a, b, c] _ 3 3 w' h)
  have HU := Lib.hid (fun (v : Bool) w' => d_unless_any v 2 w')
  unfold griE
  simp only at HP HS ⊢
  have HK := Lib.hid (show [a, b, c].any (fun x => !wi x 1 6) = !cnt ⟨a, b, c⟩ by simp [cnt])
  rw [HK.out] at HC
  generalize cnt ⟨a, b, c⟩ = k at HC ⊢
  generalize plc ⟨x, y, z⟩ = p at HP ⊢
  generalize wi st 1 1000 = q at HS ⊢
  clear HK
  cases p <;> cases q
  all_goals
    go_enter Tryz.func108, Tryz.ntmps108
    go_wp2_with fail
    refine (HC.out _ (IntsR.part w _ _ _ _ 4 3 [a, b, c] rfl rfl rfl (by omega) (fun i hi => ?_))).mono ?_
    · match i, hi with
      | 0, _ => rfl
      | 1, _ => rfl
      | 2, _ => rfl
    rintro e w' ⟨rfl, rfl⟩
    go_wp2_with fail
    refine (HP.out _).mono ?_
    rintro e5 w5 ⟨rfl, hb5⟩
    have hz5 := hb5.size
    simp only [World.size_alloc] at hz5
    have q3 : w5.cell? ⟨w.heap.size, 3, none⟩ = some (.int .i64 st) := by { rw [cellB hb5 _ _ (by first | (simp; done) | (simp; omega) | omega)]; all_goals (first | assumption | go_simp) }; have l0 : w.heap.size < w5.heap.size := by { omega }
    have HB5 := Lib.hid (show Below w.heap.size w w5 by (repeat' (first | (with_reducible exact Below.refl _ _) | (with_reducible assumption) | (with_reducible refine Below.drewN ?_ _) | (with_reducible refine Below.alloc ?_ ?_ _) | (with_reducible refine Below.drew ?_) | (with_reducible refine Below.setCell ?_ ?_ _) | (with_reducible refine Below.step (by assumption) ?_ ?_) | (with_reducible exact And.left (by assumption)) | go_size)))
    clear hb5
    go_wp2_with (first | (go_at_call 69; refine (HS.out _).mono ?_; rintro e w' ⟨rfl, rfl⟩) | (go_at_call 67; refine (HU.out _ _).mono ?_; rintro e w' ⟨rfl, rfl⟩))
    go_ret
    exact ⟨ret_int (by simp), HB5.out⟩
theorem idx3 (x y z : Value) (k : Nat) (hk : k < 3) : (#[x, y, z] : Array Value)[k]? = some (if k = 0 then x else if k = 1 then y else z) := by
  match k, hk with
  | 0, _ => rfl
  | 1, _ => rfl
  | 2, _ => rfl
set_option maxRecDepth 100000 in
theorem cellErr_any (g : Gri) (c : T3) (w : World) (hg : cnt g.c = true) : Calls Tryz.prog 61 #[.agg #[.int .i64 g.f.x, .int .i64 g.f.y, .int .i64 g.f.z, .int .i64 g.st, .int .i64 g.c.x, .int .i64 g.c.y, .int .i64 g.c.z], .agg #[.int .i64 c.x, .int .i64 c.y, .int .i64 c.z]] w fun e' w' => e' = .returned (.int .i64 (unl (celB g c) 6)) ∧ Below w.heap.size w w' := by
  obtain ⟨⟨h1, h2⟩, ⟨h3, h4⟩, h5, h6⟩ := cnt_iff.1 hg
  obtain ⟨⟨x, y, z⟩, st, ⟨a, b, d⟩⟩ := g
  obtain ⟨p, q, r⟩ := c
  simp only at h1 h2 h3 h4 h5 h6
  unfold celB
  simp only
  have HP := Lib.hid (fun w' => d_within_any p 0 (a - 1) w')
  have HQ := Lib.hid (fun w' => d_within_any q 0 (b - 1) w')
  have HR := Lib.hid (fun w' => d_within_any r 0 (d - 1) w')
  generalize wi p 0 (a - 1) = x1 at *
  generalize wi q 0 (b - 1) = x2 at *
  generalize wi r 0 (d - 1) = x3 at *
  clear hg
  go_enter Tryz.func61, Tryz.ntmps61
  go_wp2
  go_loop [8] (fun i => i = .int .i64 0 ∨ (i = .int .i64 1 ∧ x1 = true) ∨ (i = .int .i64 2 ∧ x1 = true ∧ x2 = true) ∨ (i = .int .i64 3 ∧ x1 = true ∧ x2 = true ∧ x3 = true)) (fun i => 3 - (intOf i).toNat)
  case atStart => exact .inl rfl
  case round =>
    rcases hrel with rfl | ⟨rfl, rfl⟩ | ⟨rfl, rfl, rfl⟩ | ⟨rfl, rfl, rfl, rfl⟩
    · go_wp2_with fail
      refine (HP.out _).mono ?_
      rintro e w' ⟨rfl, rfl⟩
      cases x1
      · go_wp2
        go_ret
        exact ⟨ret_int (by simp [unl]), by (repeat' (first | (with_reducible exact Below.refl _ _) | (with_reducible assumption) | (with_reducible refine Below.drewN ?_ _) | (with_reducible refine Below.alloc ?_ ?_ _) | (with_reducible refine Below.drew ?_) | (with_reducible refine Below.setCell ?_ ?_ _) | (with_reducible refine Below.step (by assumption) ?_ ?_) | (with_reducible exact And.left (by assumption)) | go_size))⟩
      · go_wp2
        go_round
        case rel => simp
        case measure => simp [intOf]
    · go_wp2_with fail
      refine (HQ.out _).mono ?_
      rintro e w' ⟨rfl, rfl⟩
      cases x2
      · go_wp2
        go_ret
        exact ⟨ret_int (by simp [unl]), by (repeat' (first | (with_reducible exact Below.refl _ _) | (with_reducible assumption) | (with_reducible refine Below.drewN ?_ _) | (with_reducible refine Below.alloc ?_ ?_ _) | (with_reducible refine Below.drew ?_) | (with_reducible refine Below.setCell ?_ ?_ _) | (with_reducible refine Below.step (by assumption) ?_ ?_) | (with_reducible exact And.left (by assumption)) | go_size))⟩
      · go_wp2
        go_round
        case rel => simp
        case measure => simp [intOf]
    · go_wp2_with fail
      refine (HR.out _).mono ?_
      rintro e w' ⟨rfl, rfl⟩
      cases x3
      · go_wp2
        go_ret
        exact ⟨ret_int (by simp [unl]), by (repeat' (first | (with_reducible exact Below.refl _ _) | (with_reducible assumption) | (with_reducible refine Below.drewN ?_ _) | (with_reducible refine Below.alloc ?_ ?_ _) | (with_reducible refine Below.drew ?_) | (with_reducible refine Below.setCell ?_ ?_ _) | (with_reducible refine Below.step (by assumption) ?_ ?_) | (with_reducible exact And.left (by assumption)) | go_size))⟩
      · go_wp2
        go_round
        case rel => simp
        case measure => simp [intOf]
    · go_wp2
      go_ret
      exact ⟨ret_int (by simp [unl]), by (repeat' (first | (with_reducible exact Below.refl _ _) | (with_reducible assumption) | (with_reducible refine Below.drewN ?_ _) | (with_reducible refine Below.alloc ?_ ?_ _) | (with_reducible refine Below.drew ?_) | (with_reducible refine Below.setCell ?_ ?_ _) | (with_reducible refine Below.step (by assumption) ?_ ?_) | (with_reducible exact And.left (by assumption)) | go_size))⟩
/-- The root of a number from 0 to 2^42 - 1. -/
theorem bit_half (k : Nat) : ((2 : Int) ^ (k + 1)).tdiv 2 = 2 ^ k := by
  rw [Int.pow_succ]
  exact Int.mul_tdiv_cancel _ (by omega)
theorem bit_le {k m : Nat} (h : k ≤ m) : (2 : Int) ^ k ≤ 2 ^ m := by
  obtain ⟨j, rfl⟩ : ∃ j, m = k + j := ⟨m - k, by omega⟩
  rw [Int.pow_add]
  have h1 := pow_pos' k
  have h2 := pow_pos' j
  have h3 : (2 : Int) ^ k * 1 ≤ 2 ^ k * 2 ^ j := Int.mul_le_mul_of_nonneg_left (by omega) (by omega)
  omega
/-- The bit that is tried next: 2^(k - 1), or 0. -/
def btOf : Nat → Int
  | 0 => 0
  | k + 1 => 2 ^ k
theorem btOf_half (k : Nat) : (btOf (k + 1)).tdiv 2 = btOf k := by
  cases k with
  | zero => rfl
  | succ k => exact bit_half k
theorem root_any (n : Int) (w : World) (h0 : 0 ≤ n) (h1 : n < 4398046511104) : Calls Tryz.prog 134 #[.int .i64 n] w fun e' w' => e' = .returned (.int .i64 (isq n)) ∧ w = w' := by
  go_enter Tryz.func134, Tryz.ntmps134
  go_wp2
  go_loop [3, 4] (fun r b => ∃ (k : Nat) (R : Int), k ≤ 21 ∧ r = .int .i64 R ∧ b = .int .i64 (btOf k) ∧ 0 ≤ R ∧ R + 2 ^ k ≤ 2097152 ∧ Hid (rt n k R = isq n)) (fun _ b => (intOf b).toNat)
  case atStart => exact ⟨21, 0, by omega, rfl, rfl, by omega, by decide, Lib.hid rfl⟩
  case round =>
    obtain ⟨k, R, hk, rfl, rfl, hR, hR2, hF⟩ := hrel
    rcases k with _ | k
    · go_wp2
      go_ret
      exact ⟨ret_int hF.out, rfl⟩
    · have hh := btOf_half k
      have hp := pow_pos' k
      have he : (2 : Int) ^ (k + 1) = 2 ^ k + 2 ^ k := by rw [Int.pow_succ]; omega
      have hb : btOf (k + 1) = 2 ^ k := rfl
      rw [hb] at hh ⊢
      have hF' := hF.out
      unfold rt at hF'
      have hle : (2 : Int) ^ k ≤ 1048576 := by have := bit_le (show k ≤ 20 by omega); have e : (2 : Int) ^ 20 = 1048576 := by decide
                                               omega
      obtain ⟨B, hB⟩ : ∃ B, B = (2 : Int) ^ k := ⟨_, rfl⟩
      rw [he] at hR2
      have hbt : (btOf k).toNat < B.toNat := by
        cases k with
        | zero => simp [btOf, hB]
        | succ k => 
          have h1 := pow_pos' k
          have h2 : (2 : Int) ^ (k + 1) = 2 ^ k + 2 ^ k := by rw [Int.pow_succ]; omega
          simp only [btOf, hB]; omega
      have HBT := Lib.hid hbt
      rw [← hB] at hh hF' hp hR2 hle ⊢
      have HH := Lib.hid hh
      have HB := Lib.hid hB
      have HFF := Lib.hid hF'
      have hm := Int.mul_le_mul (show R + B ≤ 2097152 by omega) (show R + B ≤ 2097152 by omega) (show 0 ≤ R + B by omega) (by omega)
      have hm0 := Int.mul_nonneg (show 0 ≤ R + B by omega) (show 0 ≤ R + B by omega)
      clear hh hB hF' hF he hb hbt
      obtain ⟨C, hC⟩ : ∃ C, C = btOf k := ⟨_, rfl⟩
      rw [← hC] at HH HBT
      have HCC := Lib.hid hC
      clear hC
      by_cases hc : (R + B) * (R + B) ≤ n
      · have HF2 := Lib.hid (show rt n k (R + B) = isq n by rw [← HFF.out, if_pos hc])
        go_wp2
        go_round
        case rel => exact ⟨k, R + B, by omega, rfl, by first | rw [HH.out, HCC.out] | rw [← HCC.out, ← HH.out, Int.tdiv_eq_ediv_of_nonneg (by omega)], by omega, by rw [← HB.out]; omega, HF2⟩
        case measure => simp only [intOf]; have := HBT.out; have := HH.out; omega
      · have HF2 := Lib.hid (show rt n k R = isq n by rw [← HFF.out, if_neg hc])
        go_wp2
        go_round
        case rel => exact ⟨k, R, by omega, rfl, by first | rw [HH.out, HCC.out] | rw [← HCC.out, ← HH.out, Int.tdiv_eq_ediv_of_nonneg (by omega)], by omega, by rw [← HB.out]; omega, HF2⟩
        case measure => simp only [intOf]; have := HBT.out; have := HH.out; omega
end Go.Proofs.YtdklmcicogmeaaaGreat
