import Derived.Test.YtdklmcicogmeaaaGreatMDAnsP
import Derived.Test.YtdklmcicogmeaaaGreatMDRErr
import Derived.Test.YtdklmcicogmeaaaGreatMDRec
import Derived.Test.YtdklmcicogmeaaaGreatMDSub
/- Differences of responses: the program's function. -/
namespace Go.Proofs.YtdklmcicogmeaaaGreat
open Go.RowKit
set_option linter.unusedVariables false

def nrm (p : Int × Int) : Int := p.1 * p.1 + p.2 * p.2
/-- Responses differ at a place by a ratio a : b. -/
def difB (a b : Int) (p q : Int × Int) : Bool := decide (nrm q * a < nrm p * b) || decide (nrm p * a < nrm q * b)
def difI (a b : Int) (l m : List (Int × Int)) (i : Nat) : Bool := difB a b (l.getD i (0, 0)) (m.getD i (0, 0))
def difE (a b : Int) (l m : List (Int × Int)) : Int := firstErr [respsE l, respsE m, unl ((l.length : Int) == (m.length : Int)) 10, unl (isLow a b) 3, unl (isPo a b 100 && decide (b ≤ a)) 2]
def difL (a b : Int) (l m : List (Int × Int)) : List Nat := (List.range l.length).filter (difI a b l m)
theorem nrm_bd {p : Int × Int} (h : gB p = true) : 0 ≤ nrm p ∧ nrm p ≤ 20000000000000000 := by
  unfold gB at h
  rw [Bool.and_eq_true, wi_iff, wi_iff] at h
  obtain ⟨⟨h1, h2⟩, h3, h4⟩ := h
  have a1 := mulb (a := p.1) (b := p.1) 100000000 100000000 10000000000000000 h1 h2 h1 h2 (by omega)
  have a2 := mulb (a := p.2) (b := p.2) 100000000 100000000 10000000000000000 h3 h4 h3 h4 (by omega)
  have b1 := mul_self_nonneg' p.1
  have b2 := mul_self_nonneg' p.2
  unfold nrm
  omega
theorem respsE_zero {l : List (Int × Int)} (h : respsE l = 0) : l.length ≤ 8 ∧ ∀ p ∈ l, gB p = true := by
  unfold respsE at h
  obtain ⟨h1, h2⟩ := firstErr_cons.1 h
  obtain ⟨h3, _⟩ := firstErr_cons.1 h2
  rw [unl_eq_zero (by omega)] at h1 h3
  rw [decide_eq_true_eq] at h1
  rw [Bool.not_eq_true', List.any_eq_false] at h3
  exact ⟨by omega, fun p hp => by simpa using h3 p hp⟩
theorem square_any (x y : Int) (w : World) (h : gB (x, y) = true) : Calls Tryz.prog 102 #[.agg #[.int .i64 x, .int .i64 y]] w fun e' w' => e' = .returned (.int .i64 (nrm (x, y))) ∧ Below w.heap.size w w' := by
  unfold gB at h
  rw [Bool.and_eq_true, wi_iff, wi_iff] at h
  obtain ⟨⟨h1, h2⟩, h3, h4⟩ := h
  simp only at h1 h2 h3 h4
  have a1 := mulb (a := x) (b := x) 100000000 100000000 10000000000000000 h1 h2 h1 h2 (by omega)
  have a2 := mulb (a := y) (b := y) 100000000 100000000 10000000000000000 h3 h4 h3 h4 (by omega)
  have w1 : IntKind.i64.wrap (x * x) = x * x := by rw [IntKind.wrap_i64]; omega
  have w2 : IntKind.i64.wrap (y * y) = y * y := by rw [IntKind.wrap_i64]; omega
  have w3 : IntKind.i64.wrap (x * x + y * y) = x * x + y * y := by rw [IntKind.wrap_i64]; omega
  go_enter Tryz.func102, Tryz.ntmps102
  go_wp2
  go_ret
  exact ⟨ret_int rfl, by (repeat' (first | (with_reducible exact Below.refl _ _) | (with_reducible assumption) | (with_reducible refine Below.drewN ?_ _) | (with_reducible refine Below.alloc ?_ ?_ _) | (with_reducible refine Below.drew ?_) | (with_reducible refine Below.setCell ?_ ?_ _) | (with_reducible refine Below.step (by assumption) ?_ ?_) | (with_reducible exact And.left (by assumption)) | go_size))⟩
theorem cf_sq (args : Array Value) (w : World) : (callFunc 102 args).run Tryz.prog w = .ok (.enter 102 args) w := by kernel_rfl
theorem greater_any (u v a b : Int) (X : Nat) (w : World) (ha : w.cell? ⟨X, 0, none⟩ = some (.int .i64 a)) (hb : w.cell? ⟨X, 1, none⟩ = some (.int .i64 b)) (h1 : IntKind.i64.wrap (u * b) = u * b) (h2 : IntKind.i64.wrap (v * a) = v * a) :
    Calls Tryz.prog 103 #[.int .i64 u, .int .i64 v, .pointer (some ⟨X, 0, none⟩)] w fun e' w' => e' = .returned (.bool (decide (v * a < u * b))) ∧ Below w.heap.size w w' := by
  go_enter Tryz.func103, Tryz.ntmps103
  go_wp2
  go_ret
  exact ⟨rfl, by (repeat' (first | (with_reducible exact Below.refl _ _) | (with_reducible assumption) | (with_reducible refine Below.drewN ?_ _) | (with_reducible refine Below.alloc ?_ ?_ _) | (with_reducible refine Below.drew ?_) | (with_reducible refine Below.setCell ?_ ?_ _) | (with_reducible refine Below.step (by assumption) ?_ ?_) | (with_reducible exact And.left (by assumption)) | go_size))⟩
theorem cf_gr (args : Array Value) (w : World) : (callFunc 103 args).run Tryz.prog w = .ok (.enter 103 args) w := by kernel_rfl
end Go.Proofs.YtdklmcicogmeaaaGreat
