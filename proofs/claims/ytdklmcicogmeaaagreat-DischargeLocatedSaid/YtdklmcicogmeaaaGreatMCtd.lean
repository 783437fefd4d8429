import Derived.Test.YtdklmcicogmeaaaGreatDAwk
import Derived.Test.YtdklmcicogmeaaaGreatMRctr
import Derived.Test.YtdklmcicogmeaaaGreatRArrv
/- Regions, and the sensors that contradict each other: the statement's function. -/
namespace Go.Proofs.YtdklmcicogmeaaaGreat
open Go.RowKit
set_option linter.unusedVariables false

set_option maxRecDepth 100000 in
theorem arrivalsErr_any (A : Arr) (a : Option Addr) (n c : Nat) (w : World) (hl : SenR w a n A.l) :
    Calls Tryz.prog 16 #[.agg #[.int .i64 A.lo, .int .i64 A.hi, .slice a n c]] w fun e' w' => e' = .returned (.int .i64 (arrE A).2) ∧ Below w.heap.size w w' := by
  have HC := Lib.hid (fun (W : World) (hb : Below w.heap.size w W) => rCheckArrivals_any A a n c W (hl.below hb))
  obtain ⟨⟨K1, K2⟩, hK⟩ : ∃ K, K = arrE A := ⟨_, rfl⟩
  rw [← hK] at HC ⊢
  clear hl hK
  go_enter Tryz.func16, Tryz.ntmps16
  go_wp2_with fail
  refine (HC.out _ (by (repeat' (first | (with_reducible exact Below.refl _ _) | (with_reducible assumption) | (with_reducible refine Below.drewN ?_ _) | (with_reducible refine Below.alloc ?_ ?_ _) | (with_reducible refine Below.drew ?_) | (with_reducible refine Below.setCell ?_ ?_ _) | (with_reducible refine Below.step (by assumption) ?_ ?_) | (with_reducible exact And.left (by assumption)) | go_size)))).mono ?_
  rintro e5 w5 ⟨rfl, hb5⟩
  have HB := Lib.hid (show Below w.heap.size w w5 from Below.trans (by (repeat' (first | (with_reducible exact Below.refl _ _) | (with_reducible assumption) | (with_reducible refine Below.drewN ?_ _) | (with_reducible refine Below.alloc ?_ ?_ _) | (with_reducible refine Below.drew ?_) | (with_reducible refine Below.setCell ?_ ?_ _) | (with_reducible refine Below.step (by assumption) ?_ ?_) | (with_reducible exact And.left (by assumption)) | go_size))) (hb5.mono (by simp)))
  clear hb5 HC
  go_wp2
  go_ret
  exact ⟨rfl, HB.out⟩
def ligB (g : Gri) : Bool := if griE g ≠ 0 then true else decide (g.c.x * g.c.y * g.c.z ≤ 64)
set_option maxHeartbeats 1000000 in
set_option maxRecDepth 100000 in
theorem isLight_any (g : Gri) (w : World) : Calls Tryz.prog 9 #[.agg #[.int .i64 g.f.x, .int .i64 g.f.y, .int .i64 g.f.z, .int .i64 g.st, .int .i64 g.c.x, .int .i64 g.c.y, .int .i64 g.c.z]] w fun e' w' => e' = .returned (.bool (ligB g)) ∧ Below w.heap.size w w' := by
  have HG := Lib.hid (fun w' => rGridErr_any g w')
  obtain ⟨V, hV⟩ : ∃ V, V = ligB g := ⟨_, rfl⟩
  rw [← hV]
  have hc : griE g = 0 → (1 ≤ g.c.x ∧ g.c.x ≤ 6) ∧ (1 ≤ g.c.y ∧ g.c.y ≤ 6) ∧ (1 ≤ g.c.z ∧ g.c.z ≤ 6) := fun h => cnt_iff.1 (griE_zero h).2.2
  have hv : V = if griE g ≠ 0 then true else decide (g.c.x * g.c.y * g.c.z ≤ 64) := hV
  clear hV
  generalize griE g = D at *
  obtain ⟨⟨fx, fy, fz⟩, st, ⟨x, y, z⟩⟩ := g
  simp only at *
  go_enter Tryz.func9, Tryz.ntmps9
  go_wp2_with fail
  refine (HG.out _).mono ?_
  rintro e5 w5 ⟨rfl, hb5⟩
  have q4 : w5.cell? ⟨w.heap.size, 4, none⟩ = some (.int .i64 x) := by { rw [cellB hb5 _ _ (by first | (simp; done) | (simp; omega) | omega)]; all_goals (first | assumption | go_simp) }; have q5 : w5.cell? ⟨w.heap.size, 5, none⟩ = some (.int .i64 y) := by { rw [cellB hb5 _ _ (by first | (simp; done) | (simp; omega) | omega)]; all_goals (first | assumption | go_simp) }; have q6 : w5.cell? ⟨w.heap.size, 6, none⟩ = some (.int .i64 z) := by { rw [cellB hb5 _ _ (by first | (simp; done) | (simp; omega) | omega)]; all_goals (first | assumption | go_simp) }
  have l5 : w.heap.size < w5.heap.size := by have := hb5.size; simp at this; omega
  have HB := Lib.hid (show Below w.heap.size w w5 from Below.trans (by (repeat' (first | (with_reducible exact Below.refl _ _) | (with_reducible assumption) | (with_reducible refine Below.drewN ?_ _) | (with_reducible refine Below.alloc ?_ ?_ _) | (with_reducible refine Below.drew ?_) | (with_reducible refine Below.setCell ?_ ?_ _) | (with_reducible refine Below.step (by assumption) ?_ ?_) | (with_reducible exact And.left (by assumption)) | go_size))) (hb5.mono (by simp)))
  clear hb5 HG
  by_cases h0 : D = 0
  · obtain ⟨⟨a1, a2⟩, ⟨b1, b2⟩, c1, c2⟩ := hc h0
    rw [if_neg (by rw [h0]; decide)] at hv
    have m1 := Int.mul_le_mul a2 b2 (by omega) (by omega)
    have m2 := Int.mul_nonneg (show 0 ≤ x by omega) (show 0 ≤ y by omega)
    have m3 := Int.mul_le_mul (show x * y ≤ 36 by omega) c2 (by omega) (by omega)
    have m4 := Int.mul_nonneg m2 (show 0 ≤ z by omega)
    have w1 : IntKind.i64.wrap (x * y) = x * y := by rw [IntKind.wrap_i64]; omega
    have w2 : IntKind.i64.wrap (x * y * z) = x * y * z := by rw [IntKind.wrap_i64]; omega
    have HV := Lib.hid hv
    subst h0
    clear hc hv m1 m2 m3 m4
    go_wp2
    go_ret
    exact ⟨ret_bool (by rw [HV.out]), HB.out⟩
  · rw [if_pos h0] at hv
    have h1 := bne_iff_ne.2 h0
    have HV := Lib.hid hv
    clear hc hv
    go_wp2
    go_ret
    exact ⟨ret_bool (by rw [HV.out]), HB.out⟩
end Go.Proofs.YtdklmcicogmeaaaGreat

/- A contradiction: all of it is needed. No program in sight. -/
namespace Go.Proofs.YtdklmcicogmeaaaGreat
set_option linter.unusedVariables false

def rmv (S : List Nat) (i : Int) (k : Nat) : List Nat := ((List.range k).filter (fun j : Nat => decide ((j : Int) ≠ i))).map (fun j => S.getD j 0)
theorem rmv_yes {S : List Nat} {i : Int} {k : Nat} (h : (k : Int) ≠ i) : rmv S i (k + 1) = rmv S i k ++ [S.getD k 0] := by
  unfold rmv; rw [List.range_succ, List.filter_append, List.map_append]; simp [h]
theorem rmv_no {S : List Nat} {i : Int} {k : Nat} (h : (k : Int) = i) : rmv S i (k + 1) = rmv S i k := by
  unfold rmv; rw [List.range_succ, List.filter_append, List.map_append]; simp [h]
theorem map_getD (S : List Nat) : (List.range S.length).map (fun j => S.getD j 0) = S := by
  apply List.ext_getElem
  · simp
  · intro k h1 h2
    simp [List.getD, h2]
theorem rmv_all (S : List Nat) : rmv S (-1) S.length = S := by
  unfold rmv
  rw [List.filter_eq_self.2 (fun j _ => by first | (simp; done) | (simp; omega))]
  exact map_getD S
theorem rmv_sub (S : List Nat) (i : Int) : (rmv S i S.length).Sublist S := by
  have h : (rmv S i S.length).Sublist ((List.range S.length).map (fun j => S.getD j 0)) := List.Sublist.map _ List.filter_sublist
  rwa [map_getD] at h
theorem rmv_len_le (S : List Nat) (i : Int) (k : Nat) : (rmv S i k).length ≤ k := by
  unfold rmv
  rw [List.length_map]
  have := List.length_filter_le (fun j : Nat => decide ((j : Int) ≠ i)) (List.range k)
  rwa [List.length_range] at this
theorem rmv_lt {S : List Nat} {i : Int} (h0 : 0 ≤ i) (h1 : i < (S.length : Int)) : (rmv S i S.length).length < S.length := by
  unfold rmv
  rw [List.length_map]
  have : ((List.range S.length).filter (fun j : Nat => decide ((j : Int) ≠ i))).length < (List.range S.length).length := by
    rw [List.length_filter_lt_length_iff_exists]
    exact ⟨i.toNat, List.mem_range.2 (by omega), by simp; omega⟩
  rwa [List.length_range] at this
theorem ctr_min {g : Gri} {A : Arr} (h0 : hE g A = 0) (hc : (ctrV g A).2 = 0) : ∃ S, (ctrV g A).1 = S ∧ S.Pairwise (· < ·) ∧ (∀ x ∈ S, x < A.l.length) ∧ 2 ≤ S.length ∧ S.length ≤ A.l.length ∧ regV g A = [] ∧ emptyB g (subA A S) = true ∧
    ∀ T : List Nat, T.Pairwise (· < ·) → (∀ x ∈ T, x < A.l.length) → 2 ≤ T.length → T.length < S.length → emptyB g (subA A T) = false := by
  unfold ctrV at hc ⊢
  rw [if_neg (by rw [h0]; decide)] at hc ⊢
  cases h : ctrO g A with
  | none => rw [h] at hc; exact absurd hc (by decide)
  | some S =>
    unfold ctrO at h
    obtain ⟨j, hj1, hj2, hf, hmin⟩ := ctrS_some h
    have hS := List.mem_of_find?_eq_some hf
    obtain ⟨h1, h2, h3⟩ := (ext_mem _ _ _ _).1 hS
    obtain ⟨n1, n2, n3⟩ := ext_nd hS
    have hp : emptyB g (subA A S) = true := List.find?_some (p := fun S => emptyB g (subA A S)) hf
    refine ⟨S, rfl, h2, n3, by omega, by omega, (regV_ok h0).trans (empty_mono n1 n3 hp), hp, fun T t1 t2 t3 t4 => ?_⟩
    exact hmin T.length t3 (by omega) T ((ext_mem _ _ _ _).2 ⟨rfl, t1, fun x hx => ⟨Nat.zero_le _, t2 x hx⟩⟩)
theorem ctr_not {g : Gri} {A : Arr} (h0 : hE g A = 0) (hc : (ctrV g A).2 ≠ 0) : (ctrV g A).1 = [] ∧ (ctrV g A).2 = 12 ∧ regV g A ≠ [] := by
  have hr : regV g A ≠ [] := fun h => hc (by rw [ctrV_yes h0 h])
  rw [ctrV_no h0 hr]
  exact ⟨rfl, rfl, hr⟩
theorem regV_emp {g : Gri} {A : Arr} (h0 : hE g A = 0) : regV g A = [] ↔ emptyB g A = true := by
  rw [regV_ok h0, regC_nil]; rfl
/-- The region of all but one (or of all, for i = -1) of the contradicting sensors. -/
theorem ctr_part {g : Gri} {A : Arr} (h0 : hE g A = 0) {S : List Nat} (hp : S.Pairwise (· < ·)) (hn : ∀ x ∈ S, x < A.l.length) (hl : S.length ≤ A.l.length) (he : emptyB g (subA A S) = true)
    (hm : ∀ T : List Nat, T.Pairwise (· < ·) → (∀ x ∈ T, x < A.l.length) → 2 ≤ T.length → T.length < S.length → emptyB g (subA A T) = false) {i : Int} (h1 : -1 ≤ i) (h2 : i < (S.length : Int)) (h3 : 2 ≤ (rmv S i S.length).length) :
    hE g (subA A (rmv S i S.length)) = 0 ∧ (regV g (subA A (rmv S i S.length)) = [] ↔ i < 0) := by
  obtain ⟨hg, ha⟩ := hE_zero h0
  obtain ⟨_, _, _, hn5, _⟩ := arrE_zero ha
  have hs := rmv_sub S i
  have hlt : ∀ x ∈ rmv S i S.length, x < A.l.length := fun x hx => hn x (hs.subset hx)
  have hle := hs.length_le
  have hE0 : hE g (subA A (rmv S i S.length)) = 0 := by
    unfold hE
    rw [hg, arrE_sub ha hlt h3 (by omega)]; rfl
  refine ⟨hE0, ?_⟩
  rw [regV_emp hE0]
  by_cases hi : i < 0
  · obtain rfl : i = -1 := by omega
    rw [rmv_all]
    simp [he]
  · have := hm _ (hp.sublist hs) hlt h3 (rmv_lt (by omega) h2)
    rw [this]
    simp [hi]
end Go.Proofs.YtdklmcicogmeaaaGreat
