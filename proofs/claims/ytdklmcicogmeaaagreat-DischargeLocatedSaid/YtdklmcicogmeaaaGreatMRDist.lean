import Derived.Test.YtdklmcicogmeaaaGreatDAns
import Derived.Test.YtdklmcicogmeaaaGreatMDSub
import Derived.Test.YtdklmcicogmeaaaGreatRGrid
/- The reference of distances. -/
namespace Go.Proofs.YtdklmcicogmeaaaGreat
open Go.RowKit
set_option linter.unusedVariables false

theorem axF_max {L st : Int} (h : 1 ≤ st) : (if sz L < sz (L + st) then sz (L + st) else sz L) = axF L st := by
  unfold sz axF
  split <;> split <;> (try split) <;> omega
end Go.Proofs.YtdklmcicogmeaaaGreat

/- The reference of answers: times between sensors; whether a speed keeps a cell. -/
namespace Go.Proofs.YtdklmcicogmeaaaGreat
open Go.RowKit
set_option linter.unusedVariables false

theorem run_rng0 (w : World) (a b : Value) : (Instr.field 35 (.agg #[a, b]) 0).run Tryz.prog w = .ok a w := by first | kernel_rfl | rfl | (simp [go_sem, Tryz.underlying35])
theorem run_rng1 (w : World) (a b : Value) : (Instr.field 35 (.agg #[a, b]) 1).run Tryz.prog w = .ok b w := by first | kernel_rfl | rfl | (simp [go_sem, Tryz.underlying35])
attribute [go_sem] run_rng0 run_rng1
/-- What a speed keeps, by the sensors of a set; the answer by a set. -/
def kpS (g : Gri) (A : Arr) (c : T3) (v : Int) (S : List Nat) (x y : Nat) : Bool := keep g A c v (S.getD x 0) (S.getD y 0)
def exS (g : Gri) (A : Arr) (c : T3) (S : List Nat) (x y : Nat) : Bool := excl g A c (S.getD x 0) (S.getD y 0)
def ansS (g : Gri) (A : Arr) (c : T3) (S : List Nat) : Int :=
  if allP S.length (fun x y => !exS g A c S x y) = true then (if allP S.length (kpS g A c A.lo S) = true ∨ allP S.length (kpS g A c A.hi S) = true then 2 else 1) else 0
theorem allP_congr {n : Nat} {p q : Nat → Nat → Bool} (h : ∀ i j, i < n → j < n → p i j = q i j) : allP n p = allP n q := by
  rw [Bool.eq_iff_iff, allP_iff, allP_iff]
  exact ⟨fun h1 i j hi hj hne => (h i j hi hj) ▸ h1 i j hi hj hne, fun h1 i j hi hj hne => (h i j hi hj).symm ▸ h1 i j hi hj hne⟩
theorem range_getD {n x : Nat} (h : x < n) : (List.range n).getD x 0 = x := by simp [List.getD, h]
theorem ansS_all (g : Gri) (A : Arr) (c : T3) : ansS g A c (List.range A.l.length) = ans g A c := by
  unfold ansS ans
  rw [List.length_range]
  rw [allP_congr (p := fun x y => !exS g A c (List.range A.l.length) x y) (q := fun i j => !excl g A c i j) (fun i j hi hj => by unfold exS; rw [range_getD hi, range_getD hj]),
    allP_congr (p := kpS g A c A.lo (List.range A.l.length)) (q := keep g A c A.lo) (fun i j hi hj => by unfold kpS; rw [range_getD hi, range_getD hj]),
    allP_congr (p := kpS g A c A.hi (List.range A.l.length)) (q := keep g A c A.hi) (fun i j hi hj => by unfold kpS; rw [range_getD hi, range_getD hj])]
theorem nats_at {w : World} {a : Option Addr} {k : Nat} {S : List Nat} (h : IntsR w a k (nats S)) {x : Nat} (hx : x < k) : ∃ b o, a = some ⟨b, o, none⟩ ∧ b < w.heap.size ∧ w.cell? ⟨b, o + x, none⟩ = some (.int .i64 (S.getD x 0 : Nat)) := by
  obtain ⟨b, o, ha, hb, hc⟩ := h.addr (by omega)
  have h1 := hc x hx
  have hl : S.length = k := by have := h.len; simpa [nats] using this
  refine ⟨b, o, ha, hb, ?_⟩
  rw [h1]
  congr 2
  unfold nats
  simp [List.getD, show x < S.length by omega]
theorem nats_len {w : World} {a : Option Addr} {k : Nat} {S : List Nat} (h : IntsR w a k (nats S)) : S.length = k := by have := h.len; simpa [nats] using this
theorem getD_lt {S : List Nat} {n x : Nat} (h : ∀ i ∈ S, i < n) (hx : x < S.length) : S.getD x 0 < n := by
  simp only [List.getD, List.getElem?_eq_getElem hx, Option.getD_some]
  exact h _ (List.getElem_mem hx)
theorem nodup_getD {S : List Nat} (h : S.Nodup) {x y : Nat} (hx : x < S.length) (hy : y < S.length) (he : S.getD x 0 = S.getD y 0) : x = y := by
  simp only [List.getD, List.getElem?_eq_getElem hx, List.getElem?_eq_getElem hy, Option.getD_some] at he
  rcases Nat.lt_trichotomy x y with hlt | hlt | hlt
  · exact absurd he (List.pairwise_iff_getElem.1 h x y hx hy hlt)
  · exact hlt
  · exact absurd he.symm (List.pairwise_iff_getElem.1 h y x hy hx hlt)
end Go.Proofs.YtdklmcicogmeaaaGreat
