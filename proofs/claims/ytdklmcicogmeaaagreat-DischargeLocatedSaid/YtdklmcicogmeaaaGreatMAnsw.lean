import Derived.Test.YtdklmcicogmeaaaGreatMRDist
/- The reference of answers: whether a speed keeps a cell. -/
namespace Go.Proofs.YtdklmcicogmeaaaGreat
open Go.RowKit
set_option linter.unusedVariables false

theorem allP_false {n : Nat} {p : Nat → Nat → Bool} {i j : Nat} (hi : i < n) (hj : j < n) (hne : i ≠ j) (h : p i j = false) : allP n p = false := by
  rw [Bool.eq_false_iff]
  intro h'
  rw [allP_iff.1 h' i j hi hj hne] at h
  cases h
end Go.Proofs.YtdklmcicogmeaaaGreat

/- The reference of answers: the answer for a cell by some sensors. -/
namespace Go.Proofs.YtdklmcicogmeaaaGreat
open Go.RowKit
set_option linter.unusedVariables false

end Go.Proofs.YtdklmcicogmeaaaGreat
