import Derived.Test.YtbjgklifmillgaaMStl
/- A step of the reference. -/
namespace Go.Proofs.Ytbjgklifmillgaa
open Go.RowKit
set_option linter.unusedVariables false

/-- The voltages after k junctions, m + 1 sections. -/
def rvAt (y f b : List Int) (s : Int) (m k : Nat) : List Int := s :: ((List.range k).map (sV y f b) ++ List.replicate (m + 1 - k) 0)
theorem rv_len (y f b : List Int) (s : Int) (m k : Nat) (h : k ≤ m + 1) : (rvAt y f b s m k).length = m + 2 := by simp [rvAt]; omega
theorem rv_set (y f b : List Int) (s : Int) (m k : Nat) (h : k < m + 1) : (rvAt y f b s m k).set (k + 1) (sV y f b k) = rvAt y f b s m (k + 1) := by
  unfold rvAt
  rw [show m + 1 - k = (m + 1 - (k + 1)) + 1 by omega, List.replicate_succ, List.set_cons_succ, set_mid _ _ _ _ k (by simp), List.range_succ, List.map_append, List.append_assoc]
  rfl
theorem rv_end (y f b : List Int) (s : Int) (m : Nat) (x : Int) : (rvAt y f b s m m).set (m + 1) x = s :: ((List.range m).map (sV y f b) ++ [x]) := by
  unfold rvAt
  rw [show m + 1 - m = 0 + 1 by omega, List.replicate_succ, List.set_cons_succ, set_mid _ _ _ _ m (by simp)]
  rfl
theorem rv_zero (y f b : List Int) (s : Int) (m : Nat) : rvAt y f b s m m = s :: ((List.range m).map (sV y f b) ++ [0]) := by
  unfold rvAt
  rw [show m + 1 - m = 0 + 1 by omega]
  rfl

theorem made_zeros (n : Nat) : madeCells #[Value.int .i64 0] (n + 1) = (Value.int .i64 0 :: List.replicate n (Value.int .i64 0)).toArray := by
  apply Array.toList_inj.1
  rw [toList_madeCells_one]
  rfl
theorem three_new (w7 : World) (a b : Value) (s : Int) (n : Nat) (rl : List Value) (hrl : List.replicate n (Value.int .i64 0) = rl) (hn : n ≤ 100000) (t t2 : TypeId) : ∃ w8, w8 = (w7.alloc (.cells #[a, b] t)).alloc (.cells (Value.int .i64 s :: rl).toArray t2) ∧ w8.cell? ⟨w7.heap.size, 0, none⟩ = some a ∧ w8.cell? ⟨w7.heap.size, 1, none⟩ = some b ∧ Below w7.heap.size w7 w8 ∧ w7.heap.size + 1 < w8.heap.size ∧
    w8.ownsRow (w7.heap.size + 1) t2 1 (.slice (some ⟨w7.heap.size + 1, 0, none⟩) (n + 1) (n + 1)) (n + 1) (icells (s :: List.replicate n 0)) := by
  subst hrl
  refine ⟨_, rfl, by go_simp, by go_simp, by (repeat' (first | (with_reducible exact Below.refl _ _) | (with_reducible assumption) | (with_reducible refine Below.drewN ?_ _) | (with_reducible refine Below.alloc ?_ ?_ _) | (with_reducible refine Below.drew ?_) | (with_reducible refine Below.setCell ?_ ?_ _) | (with_reducible refine Below.step (by assumption) ?_ ?_) | (with_reducible exact And.left (by assumption)) | go_size)), by simp, ?_⟩
  have h := owns_lit (w0 := w7.alloc (.cells #[a, b] t)) (base := w7.heap.size + 1) (B := w7.heap.size + 1) (n := n + 1) (sz := 1) (e := t2) (cs := (Value.int .i64 s :: List.replicate n (Value.int .i64 0)).toArray) (by simp) (Nat.le_refl _) (by omega) (by simp)
  simpa [icells] using h

end Go.Proofs.Ytbjgklifmillgaa
