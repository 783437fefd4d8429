import Derived.Test.YthkekjgdknnaiaaGreatRXpl2
/- All explanations: by size and in order, or set by set: in plain words. -/
namespace Go.Proofs.YthkekjgdknnaiaaGreat
open Go.RowKit
set_option linter.unusedVariables false

theorem xpS_out (p : List Nat → Bool) (m : Nat) : ∀ t k, k + t = m + 1 → (∀ j, j < k → (ext m j 0).filter p = []) → xpS p m t k = (outX p m (2 ^ m), if outX p m (2 ^ m) = [] then 12 else 0)
  | 0, k, hk, h => by
    have h1 : outX p m (2 ^ m) = [] := keep_none (c := m) (fun j hj => h j (by omega))
    rw [h1, if_pos rfl]; rfl
  | t + 1, k, hk, h => by
    unfold xpS
    by_cases hf : (ext m k 0).filter p ≠ []
    · have h1 : outX p m (2 ^ m) = (ext m k 0).filter p := keep_all (c := m) h hf
      rw [if_pos hf, h1, if_neg hf]
    · rw [if_neg hf]
      refine xpS_out p m t (k + 1) (by omega) (fun j hj => ?_)
      by_cases hjk : j = k
      · subst hjk; exact Decidable.not_not.1 hf
      · exact h j (by omega)
theorem xplE_out {s l : List T3} {fs : List Int} {rs : List (Int × Int)} (h : askE s l fs rs = 0) :
    xplE s l fs rs = (outX (fun S => expB s l fs rs (nats S)) l.length (2 ^ l.length), if outX (fun S => expB s l fs rs (nats S)) l.length (2 ^ l.length) = [] then 12 else 0) := by
  unfold xplE
  rw [if_neg (by rw [h]; decide)]
  exact xpS_out _ _ _ _ (by omega) (fun j hj => absurd hj (by omega))
theorem xplE_bad {s l : List T3} {fs : List Int} {rs : List (Int × Int)} (h : askE s l fs rs ≠ 0) : xplE s l fs rs = ([], askE s l fs rs) := by
  unfold xplE; rw [if_pos h]
end Go.Proofs.YthkekjgdknnaiaaGreat
