import Derived.Test.YtbjgklifmillgaaGreatMRp
/- The size of a quotient of small parts. No program in sight. -/
namespace Go.Proofs.YtbjgklifmillgaaGreat
theorem sz_parts {p q : Int} (h1 : -9000000000 ≤ p ∧ p ≤ 9000000000) (h2 : 1 ≤ q ∧ q ≤ 9000000000) : Sz 2 (Rat.divInt p q) := sz_frac (by simp only [pw]; omega) (by omega) (by simp only [pw]; omega)
end Go.Proofs.YtbjgklifmillgaaGreat
