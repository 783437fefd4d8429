import Derived.Test.YtbjgklifmillgaaMSch
import Derived.Test.YtbjgklifmillgaaMStl
/- The opposite state. -/
namespace Go.Proofs.Ytbjgklifmillgaa
open Go.RowKit
set_option linter.unusedVariables false

def ng (l : List Int) : List Int := l.map (- ·)
theorem ng_len (l : List Int) : (ng l).length = l.length := by simp [ng]
theorem ng_take {l : List Int} {k : Nat} (h : k < l.length) : ng (l.take (k + 1)) = ng (l.take k) ++ [-(g0 l k)] := by
  have : l.take (k + 1) = l.take k ++ [g0 l k] := by
    rw [List.take_succ_eq_append_getElem h]
    simp [g0, List.getD, h]
  rw [this]; simp [ng]
end Go.Proofs.Ytbjgklifmillgaa
