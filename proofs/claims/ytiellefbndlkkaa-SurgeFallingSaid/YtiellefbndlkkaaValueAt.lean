/- The value of an impulse at a time, as a fraction. -/
import Derived.Test.YtiellefbndlkkaaImpVal
namespace Go.Proofs.Ytiellefbndlkkaa
open Go.RowKit
set_option linter.unusedVariables false

theorem impScan_zero (l : List (Int × Int)) : ∀ m i, (impScan l m i).2 = 0 → ∀ k, i ≤ k → k < i + m → ptErr l k = 0
  | 0, i, _, k, h1, h2 => by omega
  | m + 1, i, h, k, h1, h2 => by
    unfold impScan at h
    by_cases h0 : ptErr l i = 0
    · rw [if_pos h0] at h
      by_cases hk : k = i
      · subst hk; exact h0
      · exact impScan_zero l m (i + 1) h k (by omega) (by omega)
    · rw [if_neg h0] at h; exact absurd h h0
theorem impErr_zero {l : List (Int × Int)} (h : (impErr l).2 = 0) : 2 ≤ l.length ∧ l.length ≤ 12 ∧ ∀ k, k < l.length → ptOk l k = true ∧ ptLater l k = true := by
  unfold impErr at h
  by_cases h2 : 2 ≤ l.length
  · rw [if_pos h2] at h
    by_cases h12 : l.length ≤ 12
    · rw [if_pos h12] at h
      refine ⟨h2, h12, fun k hk => ?_⟩
      exact (unl_and _ _ _ _ (by omega) (by omega)).1 (impScan_zero l _ 0 h k (by omega) (by omega))
    · rw [if_neg h12] at h; simp at h
  · rw [if_neg h2] at h; simp at h
theorem imp_bd {l : List (Int × Int)} (h : (impErr l).2 = 0) (k : Nat) (hk : k < l.length) : 0 ≤ (gp l k).1 ∧ (gp l k).1 ≤ 1000000 ∧ -1000000 ≤ (gp l k).2 ∧ (gp l k).2 ≤ 1000000 := by
  have := ((impErr_zero h).2.2 k hk).1
  unfold ptOk at this
  simp only [Bool.and_eq_true, wi_iff] at this
  omega
theorem imp_mem_bd {l : List (Int × Int)} (h : (impErr l).2 = 0) : ∀ p ∈ l, 0 ≤ p.1 ∧ p.1 ≤ 1000000 ∧ -1000000 ≤ p.2 ∧ p.2 ≤ 1000000 := by
  intro p hp
  obtain ⟨i, hi, rfl⟩ := List.mem_iff_getElem.1 hp
  have := imp_bd h i hi
  simpa [gp, List.getD, hi] using this
theorem imp_lt {l : List (Int × Int)} (h : (impErr l).2 = 0) (j : Nat) (hj : j + 1 < l.length) : (gp l j).1 < (gp l (j + 1)).1 := by
  have := ((impErr_zero h).2.2 (j + 1) hj).2
  simpa [ptLater] using this
theorem valOf_bd {l : List (Int × Int)} {t : Int} (h : (impErr l).2 = 0) (t0 : 0 ≤ t) (t1 : t ≤ 1000000) : -2000000000000 ≤ (valOf l t).1 ∧ (valOf l t).1 ≤ 2000000000000 ∧ 0 < (valOf l t).2 ∧ (valOf l t).2 ≤ 1000000 := by
  have hz := impErr_zero h
  unfold valOf
  rcases idxFrom_lt (fun p => decide (t ≤ p.1)) l 0 with h1 | ⟨m, h1, h2⟩
  · have := imp_bd h (l.length - 1) (by omega)
    rw [if_pos (by unfold idxT; exact h1)]
    omega
  · rw [if_neg (by unfold idxT; rw [h1]; omega)]
    unfold idxT; rw [h1, Nat.zero_add, Int.toNat_natCast]
    have hb := imp_bd h m h2
    rcases m with _ | j
    · by_cases hq : (gp l 0).1 = t
      · rw [valAt, if_pos hq]; omega
      · rw [valAt, if_neg hq]; omega
    · have hp := imp_bd h j (by omega)
      have hl := imp_lt h j h2
      by_cases hq : (gp l (j + 1)).1 = t
      · rw [valAt, if_pos hq]; omega
      · rw [valAt, if_neg hq]
        have b1 := mulb (a := (gp l j).2) (b := (gp l (j + 1)).1 - t) 1000000 1000000 1000000000000 (by omega) (by omega) (by omega) (by omega) (by omega)
        have b2 := mulb (a := (gp l (j + 1)).2) (b := t - (gp l j).1) 1000000 1000000 1000000000000 (by omega) (by omega) (by omega) (by omega) (by omega)
        omega
/-- What ValueAt hands out: a fraction and an error. -/
def vaOf (l : List (Int × Int)) (t : Int) : (Int × Int) × Int :=
  let e := firstErr [(impErr l).2, unl (wi t 0 1000000) 2]
  if e = 0 then (let f := low (valOf l t).1 (valOf l t).2; if smallF f then (f, 0) else ((0, 0), 8)) else ((0, 0), e)
set_option maxRecDepth 100000 in
theorem valueAt_bad (l : List (Int × Int)) (t E : Int) (a : Option Addr) (n c : Nat) (w : World) (hl : PairsR w a n l) (hE : firstErr [(impErr l).2, unl (wi t 0 1000000) 2] = E) (h0 : E ≠ 0) :
    Calls Try.prog 52 #[.agg #[.slice a n c], .int .i64 t] w fun e' w' => e' = .returned (.tuple #[.agg #[.int .i64 0, .int .i64 0], .int .i64 E]) ∧ Below w.heap.size w w' := by
  have HC := Lib.hid (fun (w' : World) (hb : Below w.heap.size w w') => open_any l a n c w' (hl.below hb))
  have hn := hl.small
  clear hl
  generalize (impErr l).2 = e1 at *
  obtain ⟨g, hg⟩ : ∃ g, g = wi t 0 1000000 := ⟨_, rfl⟩
  rw [← hg] at hE
  have HG := Lib.hid hg
  have HE := Lib.hid hE
  have h1 : (E != 0) = true := by simpa using h0
  clear hg hE h0
  go_enter Try.func52, Try.ntmps52
  go_wp2_with fail
  refine (HC.out _ (by (repeat' (first | (with_reducible exact Below.refl _ _) | (with_reducible assumption) | (with_reducible refine Below.drewN ?_ _) | (with_reducible refine Below.alloc ?_ ?_ _) | (with_reducible refine Below.drew ?_) | (with_reducible refine Below.setCell ?_ ?_ _) | (with_reducible refine Below.step (by assumption) ?_ ?_) | (with_reducible exact And.left (by assumption)) | go_size)))).mono ?_
  rintro e5 w5 ⟨rfl, hb5⟩
  have hz5 := hb5.size
  simp only [World.size_alloc] at hz5
  have p0 : w5.cell? ⟨w.heap.size + 1, 0, none⟩ = some (.int .i64 0) := by { rw [cellB hb5 _ _ (by first | (simp; done) | (simp; omega) | omega)]; all_goals (first | assumption | go_simp) }; have p1 : w5.cell? ⟨w.heap.size + 1, 1, none⟩ = some (.int .i64 0) := by { rw [cellB hb5 _ _ (by first | (simp; done) | (simp; omega) | omega)]; all_goals (first | assumption | go_simp) }; have f0 : w5.frozen? ⟨w.heap.size + 1, 0, none⟩ = false := by { rw [frozenB hb5 _ _ (by first | (simp; done) | (simp; omega) | omega)]; all_goals (first | assumption | go_simp) }; have f1 : w5.frozen? ⟨w.heap.size + 1, 1, none⟩ = false := by { rw [frozenB hb5 _ _ (by first | (simp; done) | (simp; omega) | omega)]; all_goals (first | assumption | go_simp) }; have l1 : w.heap.size + 1 < w5.heap.size := by { omega }
  have HB5 := Lib.hid (show Below w.heap.size w w5 by (repeat' (first | (with_reducible exact Below.refl _ _) | (with_reducible assumption) | (with_reducible refine Below.drewN ?_ _) | (with_reducible refine Below.alloc ?_ ?_ _) | (with_reducible refine Below.drew ?_) | (with_reducible refine Below.setCell ?_ ?_ _) | (with_reducible refine Below.step (by assumption) ?_ ?_) | (with_reducible exact And.left (by assumption)) | go_size)))
  clear hb5 HC
  go_wp2_with fail
  refine (within_any _ _ _ _).mono ?_
  rintro e6 w6 ⟨rfl, rfl⟩
  rw [← HG.out]
  go_wp2_with fail
  refine (unless_any _ _ _).mono ?_
  rintro e6 w6 ⟨rfl, rfl⟩
  go_wp2_with fail
  refine (first2 _ _ _ _ _ _ (by rfl) (by simp)).mono ?_
  rintro e6 w6 ⟨rfl, rfl⟩
  rw [HE.out]
  generalize hW : (w5.alloc _).alloc _ = w6
  have hb6 : Below w5.heap.size w5 w6 := by rw [← hW]; (repeat' (first | (with_reducible exact Below.refl _ _) | (with_reducible assumption) | (with_reducible refine Below.drewN ?_ _) | (with_reducible refine Below.alloc ?_ ?_ _) | (with_reducible refine Below.drew ?_) | (with_reducible refine Below.setCell ?_ ?_ _) | (with_reducible refine Below.step (by assumption) ?_ ?_) | (with_reducible exact And.left (by assumption)) | go_size))
  have hz6 := hb6.size
  have p0' : w6.cell? ⟨w.heap.size + 1, 0, none⟩ = some (.int .i64 0) := by { rw [cellB hb6 _ _ (by first | (simp; done) | (simp; omega) | omega)]; all_goals (first | assumption | go_simp) }; have p1' : w6.cell? ⟨w.heap.size + 1, 1, none⟩ = some (.int .i64 0) := by { rw [cellB hb6 _ _ (by first | (simp; done) | (simp; omega) | omega)]; all_goals (first | assumption | go_simp) }; have f0' : w6.frozen? ⟨w.heap.size + 1, 0, none⟩ = false := by { rw [frozenB hb6 _ _ (by first | (simp; done) | (simp; omega) | omega)]; all_goals (first | assumption | go_simp) }; have f1' : w6.frozen? ⟨w.heap.size + 1, 1, none⟩ = false := by { rw [frozenB hb6 _ _ (by first | (simp; done) | (simp; omega) | omega)]; all_goals (first | assumption | go_simp) }; have l1' : w.heap.size + 1 < w6.heap.size := by { omega }
  have HB6 := Lib.hid (HB5.out.trans (hb6.mono HB5.out.size))
  clear hW hb6 p0 p1 f0 f1 l1 HB5
  go_wp2
  refine bodyPost_ret (v := .tuple #[.agg #[.int .i64 0, .int .i64 0], .int .i64 E]) (by simp [results, Try.results52, go_sem, p0', p1']) rfl ⟨rfl, ?_⟩
  have := HB6.out
  (repeat' (first | (with_reducible exact Below.refl _ _) | (with_reducible assumption) | (with_reducible refine Below.drewN ?_ _) | (with_reducible refine Below.alloc ?_ ?_ _) | (with_reducible refine Below.drew ?_) | (with_reducible refine Below.setCell ?_ ?_ _) | (with_reducible refine Below.step (by assumption) ?_ ?_) | (with_reducible exact And.left (by assumption)) | go_size))
set_option maxHeartbeats 1000000 in
set_option maxRecDepth 100000 in
theorem valueAt_ok (l : List (Int × Int)) (t : Int) (a : Option Addr) (n c : Nat) (w : World) (hl : PairsR w a n l) (h0 : (impErr l).2 = 0) (ht : wi t 0 1000000 = true) :
    Calls Try.prog 52 #[.agg #[.slice a n c], .int .i64 t] w fun e' w' => e' = .returned (.tuple (if smallF (low (valOf l t).1 (valOf l t).2) then #[.agg #[.int .i64 (low (valOf l t).1 (valOf l t).2).1, .int .i64 (low (valOf l t).1 (valOf l t).2).2], .int .i64 0] else #[.agg #[.int .i64 0, .int .i64 0], .int .i64 8])) ∧ Below w.heap.size w w' := by
  have hz := impErr_zero h0
  have hbd := wi_iff.1 ht
  have hvb := valOf_bd h0 hbd.1 hbd.2
  rw [hl.len] at hz
  have hn := hl.small
  have HC := Lib.hid (fun (w' : World) (hb : Below w.heap.size w w') => open_any l a n c w' (hl.below hb))
  rw [h0] at HC
  have HV := Lib.hid (fun (w' : World) (hb : Below w.heap.size w w') => value_any l t a n c w' (hl.below hb) hz.1 (imp_mem_bd h0) hbd.1 hbd.2)
  have HT := Lib.hid ht
  have hlow := Lib.hid (fun w' => lowest_any (valOf l t).1 (valOf l t).2 w' (by omega) (by omega) (by omega) (by omega))
  generalize valOf l t = v at *
  obtain ⟨x, y⟩ := v
  obtain ⟨⟨p, q⟩, hpq⟩ : ∃ f, low x y = f := ⟨_, rfl⟩
  simp only at hlow HV hvb
  rw [show x.tdiv (gc x y) = p from congrArg Prod.fst hpq, show y / gc x y = q from congrArg Prod.snd hpq] at hlow
  simp only [hpq]
  clear hpq hz hl h0 ht
  have HQ := Lib.hid (show smallF (p, q) = (wi p (-1000000000) 1000000000 && decide (q ≤ 1000000000)) from rfl)
  generalize smallF (p, q) = S at *
  go_enter Try.func52, Try.ntmps52
  go_wp2_with fail
  refine (HC.out _ (by (repeat' (first | (with_reducible exact Below.refl _ _) | (with_reducible assumption) | (with_reducible refine Below.drewN ?_ _) | (with_reducible refine Below.alloc ?_ ?_ _) | (with_reducible refine Below.drew ?_) | (with_reducible refine Below.setCell ?_ ?_ _) | (with_reducible refine Below.step (by assumption) ?_ ?_) | (with_reducible exact And.left (by assumption)) | go_size)))).mono ?_
  rintro e5 w5 ⟨rfl, hb5⟩
  have hz5 := hb5.size
  simp only [World.size_alloc] at hz5
  have p0 : w5.cell? ⟨w.heap.size + 1, 0, none⟩ = some (.int .i64 0) := by { rw [cellB hb5 _ _ (by first | (simp; done) | (simp; omega) | omega)]; all_goals (first | assumption | go_simp) }; have p1 : w5.cell? ⟨w.heap.size + 1, 1, none⟩ = some (.int .i64 0) := by { rw [cellB hb5 _ _ (by first | (simp; done) | (simp; omega) | omega)]; all_goals (first | assumption | go_simp) }; have f0 : w5.frozen? ⟨w.heap.size + 1, 0, none⟩ = false := by { rw [frozenB hb5 _ _ (by first | (simp; done) | (simp; omega) | omega)]; all_goals (first | assumption | go_simp) }; have f1 : w5.frozen? ⟨w.heap.size + 1, 1, none⟩ = false := by { rw [frozenB hb5 _ _ (by first | (simp; done) | (simp; omega) | omega)]; all_goals (first | assumption | go_simp) }; have l1 : w.heap.size + 1 < w5.heap.size := by { omega }
  have HB5 := Lib.hid (show Below w.heap.size w w5 by (repeat' (first | (with_reducible exact Below.refl _ _) | (with_reducible assumption) | (with_reducible refine Below.drewN ?_ _) | (with_reducible refine Below.alloc ?_ ?_ _) | (with_reducible refine Below.drew ?_) | (with_reducible refine Below.setCell ?_ ?_ _) | (with_reducible refine Below.step (by assumption) ?_ ?_) | (with_reducible exact And.left (by assumption)) | go_size)))
  clear hb5 HC
  go_wp2_with fail
  refine (within_any _ _ _ _).mono ?_
  rintro e6 w6 ⟨rfl, rfl⟩
  rw [HT.out]
  go_wp2_with fail
  refine (unless_any _ _ _).mono ?_
  rintro e6 w6 ⟨rfl, rfl⟩
  go_wp2_with fail
  refine (first2 _ _ _ _ _ _ (by rfl) (by simp)).mono ?_
  rintro e6 w6 ⟨rfl, rfl⟩
  rw [show firstErr [0, unl true 2] = 0 from rfl]
  generalize hW : World.alloc _ (Obj.cells #[Value.int IntKind.i64 0, Value.int IntKind.i64 (unl true 2)] 31) = w6
  have hb6 : Below w5.heap.size w5 w6 := by rw [← hW]; (repeat' (first | (with_reducible exact Below.refl _ _) | (with_reducible assumption) | (with_reducible refine Below.drewN ?_ _) | (with_reducible refine Below.alloc ?_ ?_ _) | (with_reducible refine Below.drew ?_) | (with_reducible refine Below.setCell ?_ ?_ _) | (with_reducible refine Below.step (by assumption) ?_ ?_) | (with_reducible exact And.left (by assumption)) | go_size))
  have hz6 := hb6.size
  have ci : w6.cell? ⟨w5.heap.size, 0, none⟩ = some (.slice a n c) := by { rw [← hW]; clear hW; go_simp }
  have li : w5.heap.size < w6.heap.size := by { rw [← hW]; simp; omega }
  have p0' : w6.cell? ⟨w.heap.size + 1, 0, none⟩ = some (.int .i64 0) := by { rw [cellB hb6 _ _ (by first | (simp; done) | (simp; omega) | omega)]; all_goals (first | assumption | go_simp) }; have p1' : w6.cell? ⟨w.heap.size + 1, 1, none⟩ = some (.int .i64 0) := by { rw [cellB hb6 _ _ (by first | (simp; done) | (simp; omega) | omega)]; all_goals (first | assumption | go_simp) }; have f0' : w6.frozen? ⟨w.heap.size + 1, 0, none⟩ = false := by { rw [frozenB hb6 _ _ (by first | (simp; done) | (simp; omega) | omega)]; all_goals (first | assumption | go_simp) }; have f1' : w6.frozen? ⟨w.heap.size + 1, 1, none⟩ = false := by { rw [frozenB hb6 _ _ (by first | (simp; done) | (simp; omega) | omega)]; all_goals (first | assumption | go_simp) }; have l1' : w.heap.size + 1 < w6.heap.size := by { omega }
  have HB6 := Lib.hid (HB5.out.trans (hb6.mono HB5.out.size))
  clear hW hb6 p0 p1 f0 f1 HB5
  go_wp2_with fail
  refine (HV.out _ HB6.out).mono ?_
  rintro e7 w7 ⟨rfl, hb7⟩
  have hz7 := hb7.size
  have p0 : w7.cell? ⟨w.heap.size + 1, 0, none⟩ = some (.int .i64 0) := by { rw [cellB hb7 _ _ (by first | (simp; done) | (simp; omega) | omega)]; all_goals (first | assumption | go_simp) }; have p1 : w7.cell? ⟨w.heap.size + 1, 1, none⟩ = some (.int .i64 0) := by { rw [cellB hb7 _ _ (by first | (simp; done) | (simp; omega) | omega)]; all_goals (first | assumption | go_simp) }; have f0 : w7.frozen? ⟨w.heap.size + 1, 0, none⟩ = false := by { rw [frozenB hb7 _ _ (by first | (simp; done) | (simp; omega) | omega)]; all_goals (first | assumption | go_simp) }; have f1 : w7.frozen? ⟨w.heap.size + 1, 1, none⟩ = false := by { rw [frozenB hb7 _ _ (by first | (simp; done) | (simp; omega) | omega)]; all_goals (first | assumption | go_simp) }; have l1'' : w.heap.size + 1 < w7.heap.size := by { omega }
  have HB7 := Lib.hid (HB6.out.trans (hb7.mono HB6.out.size))
  clear hb7 p0' p1' f0' f1' l1' HB6 ci li HV
  go_wp2_with fail
  refine (hlow.out _).mono ?_
  rintro e8 w8 ⟨rfl, hb8⟩
  have hz8 := hb8.size
  have p0' : w8.cell? ⟨w.heap.size + 1, 0, none⟩ = some (.int .i64 0) := by { rw [cellB hb8 _ _ (by first | (simp; done) | (simp; omega) | omega)]; all_goals (first | assumption | go_simp) }; have p1' : w8.cell? ⟨w.heap.size + 1, 1, none⟩ = some (.int .i64 0) := by { rw [cellB hb8 _ _ (by first | (simp; done) | (simp; omega) | omega)]; all_goals (first | assumption | go_simp) }; have f0' : w8.frozen? ⟨w.heap.size + 1, 0, none⟩ = false := by { rw [frozenB hb8 _ _ (by first | (simp; done) | (simp; omega) | omega)]; all_goals (first | assumption | go_simp) }; have f1' : w8.frozen? ⟨w.heap.size + 1, 1, none⟩ = false := by { rw [frozenB hb8 _ _ (by first | (simp; done) | (simp; omega) | omega)]; all_goals (first | assumption | go_simp) }; have l1' : w.heap.size + 1 < w8.heap.size := by { omega }
  have HB8 := Lib.hid (HB7.out.trans (hb8.mono HB7.out.size))
  clear hb8 p0 p1 f0 f1 HB7 hlow
  go_wp2_with fail
  refine (isSmall_any _ _ _).mono ?_
  rintro e9 w9 ⟨rfl, hb9⟩
  have hz9 := hb9.size
  simp only [World.size_alloc] at hz9
  have hlw : w8.heap.size < w9.heap.size := by omega
  have p0 : w9.cell? ⟨w.heap.size + 1, 0, none⟩ = some (.int .i64 0) := by { rw [cellB hb9 _ _ (by first | (simp; done) | (simp; omega) | omega)]; all_goals (first | assumption | go_simp) }; have p1 : w9.cell? ⟨w.heap.size + 1, 1, none⟩ = some (.int .i64 0) := by { rw [cellB hb9 _ _ (by first | (simp; done) | (simp; omega) | omega)]; all_goals (first | assumption | go_simp) }; have f0 : w9.frozen? ⟨w.heap.size + 1, 0, none⟩ = false := by { rw [frozenB hb9 _ _ (by first | (simp; done) | (simp; omega) | omega)]; all_goals (first | assumption | go_simp) }; have f1 : w9.frozen? ⟨w.heap.size + 1, 1, none⟩ = false := by { rw [frozenB hb9 _ _ (by first | (simp; done) | (simp; omega) | omega)]; all_goals (first | assumption | go_simp) }; have l1'' : w.heap.size + 1 < w9.heap.size := by { omega }; have cp : w9.cell? ⟨w8.heap.size, 0, none⟩ = some (.int .i64 p) := by { rw [cellB hb9 _ _ (by first | (simp; done) | (simp; omega) | omega)]; all_goals (first | assumption | go_simp) }; have cq : w9.cell? ⟨w8.heap.size, 1, none⟩ = some (.int .i64 q) := by { rw [cellB hb9 _ _ (by first | (simp; done) | (simp; omega) | omega)]; all_goals (first | assumption | go_simp) }
  have hb9' := Below.trans (show Below w8.heap.size w8 _ from Below.alloc (Below.refl _ _) (Nat.le_refl _) _) (hb9.mono (by simp))
  have HB9 := Lib.hid (HB8.out.trans (hb9'.mono HB8.out.size))
  clear hb9 hb9' HB8 p0' p1' f0' f1' l1'
  rw [← HQ.out]
  clear HQ
  cases S
  · go_wp2
    refine bodyPost_ret (v := .tuple #[.agg #[.int .i64 0, .int .i64 0], .int .i64 8]) (by simp [results, Try.results52, go_sem, p0, p1]) rfl ⟨rfl, ?_⟩
    have := HB9.out
    (repeat' (first | (with_reducible exact Below.refl _ _) | (with_reducible assumption) | (with_reducible refine Below.drewN ?_ _) | (with_reducible refine Below.alloc ?_ ?_ _) | (with_reducible refine Below.drew ?_) | (with_reducible refine Below.setCell ?_ ?_ _) | (with_reducible refine Below.step (by assumption) ?_ ?_) | (with_reducible exact And.left (by assumption)) | go_size))
  · go_wp2
    refine bodyPost_ret (v := .tuple #[.agg #[.int .i64 p, .int .i64 q], .int .i64 0]) (by simp [results, Try.results52, go_sem, p0, p1]) rfl ⟨rfl, ?_⟩
    have := HB9.out
    (repeat' (first | (with_reducible exact Below.refl _ _) | (with_reducible assumption) | (with_reducible refine Below.drewN ?_ _) | (with_reducible refine Below.alloc ?_ ?_ _) | (with_reducible refine Below.drew ?_) | (with_reducible refine Below.setCell ?_ ?_ _) | (with_reducible refine Below.step (by assumption) ?_ ?_) | (with_reducible exact And.left (by assumption)) | go_size))
end Go.Proofs.Ytiellefbndlkkaa
