import Derived.Test.YtkphbibonagkfaaGreatDAns
import Derived.Test.YtkphbibonagkfaaGreatMSmall
import Derived.Test.YtkphbibonagkfaaGreatRDist
/- The reference of answers: times between sensors; whether a speed keeps a cell. -/
namespace Go.Proofs.YtkphbibonagkfaaGreat
open Go.RowKit
set_option linter.unusedVariables false

theorem run_rng0 (w : World) (a b : Value) : (Instr.field 26 (.agg #[a, b]) 0).run Tryz.prog w = .ok a w := by first | kernel_rfl | rfl | (simp [go_sem, Tryz.underlying26])
theorem run_rng1 (w : World) (a b : Value) : (Instr.field 26 (.agg #[a, b]) 1).run Tryz.prog w = .ok b w := by first | kernel_rfl | rfl | (simp [go_sem, Tryz.underlying26])
attribute [go_sem] run_rng0 run_rng1
theorem rLate_any (lo hi : Int) (l : List Sen) (a : Option Addr) (n c i j : Nat) (w : World) (hl : SenR w a n l) (hi' : i < n) (hj : j < n) (hb : ∀ k, k < n → -9000000000 ≤ (sAt l k).lo ∧ (sAt l k).lo ≤ 9000000000 ∧ -9000000000 ≤ (sAt l k).hi ∧ (sAt l k).hi ≤ 9000000000) :
    Calls Tryz.prog 97 #[.agg #[.int .i64 lo, .int .i64 hi, .slice a n c], .int .i64 i, .int .i64 j] w fun e' w' => e' = .returned (.int .i64 (lat l i j)) ∧ Below w.heap.size w w' := by
  have hn := hl.small
  obtain ⟨b, o, rfl, hbb, hc⟩ := hl.addr (by omega)
  obtain ⟨si, hsi⟩ := ER.get hl hi'
  obtain ⟨sj, hsj⟩ := ER.get hl hj
  obtain ⟨_, _, _, q3, _⟩ := hc i si hsi
  obtain ⟨_, _, _, _, r4⟩ := hc j sj hsj
  have b1 := hb i hi'
  have b2 := hb j hj
  rw [sAt_get hsi] at b1
  rw [sAt_get hsj] at b2
  unfold lat
  rw [sAt_get hsi, sAt_get hsj]
  generalize si.lo = x at *
  generalize sj.hi = y at *
  have i0 : (0 : Int) ≤ (i : Int) := by omega
  have i1 : (i : Int) < (n : Int) := by omega
  have j0 : (0 : Int) ≤ (j : Int) := by omega
  have j1 : (j : Int) < (n : Int) := by omega
  have hwr : IntKind.i64.wrap (y - x) = y - x := by rw [IntKind.wrap_i64]; omega
  clear hl hc hsi hsj hb b1 b2 hi' hj
  go_enter Tryz.func97, Tryz.ntmps97
  go_wp2_with fail
  go_quiet (fail)
  go_wp2
  go_ret
  exact ⟨rfl, by (repeat' (first | (with_reducible exact Below.refl _ _) | (with_reducible assumption) | (with_reducible refine Below.drewN ?_ _) | (with_reducible refine Below.alloc ?_ ?_ _) | (with_reducible refine Below.drew ?_) | (with_reducible refine Below.setCell ?_ ?_ _) | (with_reducible refine Below.step (by assumption) ?_ ?_) | (with_reducible exact And.left (by assumption)) | go_size))⟩
/-- What a speed keeps, by the sensors of a set; the answer by a set. -/
def kpS (g : Gri) (A : Arr) (c : T3) (v : Int) (S : List Nat) (x y : Nat) : Bool := keep g A c v (S.getD x 0) (S.getD y 0)
def exS (g : Gri) (A : Arr) (c : T3) (S : List Nat) (x y : Nat) : Bool := excl g A c (S.getD x 0) (S.getD y 0)
def ansS (g : Gri) (A : Arr) (c : T3) (S : List Nat) : Int :=
  if allP S.length (fun x y => !exS g A c S x y) = true then (if allP S.length (kpS g A c A.lo S) = true ∨ allP S.length (kpS g A c A.hi S) = true then 2 else 1) else 0
theorem allP_congr {n : Nat} {p q : Nat → Nat → Bool} (h : ∀ i j, i < n → j < n → p i j = q i j) : allP n p = allP n q := by
  rw [Bool.eq_iff_iff, allP_iff, allP_iff]
  exact ⟨fun h1 i j hi hj hne => (h i j hi hj) ▸ h1 i j hi hj hne, fun h1 i j hi hj hne => (h i j hi hj).symm ▸ h1 i j hi hj hne⟩
theorem range_getD {n x : Nat} (h : x < n) : (List.range n).getD x 0 = x := by simp [List.getD, h]
theorem ansS_all (g : Gri) (A : Arr) (c : T3) : ansS g A c (List.range A.l.length) = ans g A c := by
  unfold ansS ans
  rw [List.length_range]
  rw [allP_congr (p := fun x y => !exS g A c (List.range A.l.length) x y) (q := fun i j => !excl g A c i j) (fun i j hi hj => by unfold exS; rw [range_getD hi, range_getD hj]),
    allP_congr (p := kpS g A c A.lo (List.range A.l.length)) (q := keep g A c A.lo) (fun i j hi hj => by unfold kpS; rw [range_getD hi, range_getD hj]),
    allP_congr (p := kpS g A c A.hi (List.range A.l.length)) (q := keep g A c A.hi) (fun i j hi hj => by unfold kpS; rw [range_getD hi, range_getD hj])]
theorem nats_at {w : World} {a : Option Addr} {k : Nat} {S : List Nat} (h : IntsR w a k (nats S)) {x : Nat} (hx : x < k) : ∃ b o, a = some ⟨b, o, none⟩ ∧ b < w.heap.size ∧ w.cell? ⟨b, o + x, none⟩ = some (.int .i64 (S.getD x 0 : Nat)) := by
  obtain ⟨b, o, ha, hb, hc⟩ := h.addr (by omega)
  have h1 := hc x hx
  have hl : S.length = k := by have := h.len; simpa [nats] using this
  refine ⟨b, o, ha, hb, ?_⟩
  rw [h1]
  congr 2
  unfold nats
  simp [List.getD, show x < S.length by omega]
theorem nats_len {w : World} {a : Option Addr} {k : Nat} {S : List Nat} (h : IntsR w a k (nats S)) : S.length = k := by have := h.len; simpa [nats] using this
theorem getD_lt {S : List Nat} {n x : Nat} (h : ∀ i ∈ S, i < n) (hx : x < S.length) : S.getD x 0 < n := by
  simp only [List.getD, List.getElem?_eq_getElem hx, Option.getD_some]
  exact h _ (List.getElem_mem hx)
theorem nodup_getD {S : List Nat} (h : S.Nodup) {x y : Nat} (hx : x < S.length) (hy : y < S.length) (he : S.getD x 0 = S.getD y 0) : x = y := by
  simp only [List.getD, List.getElem?_eq_getElem hx, List.getElem?_eq_getElem hy, Option.getD_some] at he
  rcases Nat.lt_trichotomy x y with hlt | hlt | hlt
  · exact absurd he (List.pairwise_iff_getElem.1 h x y hx hy hlt)
  · exact hlt
  · exact absurd he.symm (List.pairwise_iff_getElem.1 h y x hy hx hlt)
end Go.Proofs.YtkphbibonagkfaaGreat
