import Derived.Test.YtbjgklifmillgaaAwake
import Derived.Test.YtbjgklifmillgaaMFr
import Derived.Test.YtbjgklifmillgaaMIni
import Derived.Test.YtbjgklifmillgaaRSteep
/- The final distribution, of the program and of the reference. -/
namespace Go.Proofs.Ytbjgklifmillgaa
open Go.RowKit
set_option linter.unusedVariables false

def finAt (t : List Int) (n : Nat) (g : Bool) (k : Nat) : List Int := (List.range (n + 1)).map (fun j => if j < k then finV t n g j else 0)
theorem finAt_len (t : List Int) (n : Nat) (g : Bool) (k : Nat) : (finAt t n g k).length = n + 1 := by simp [finAt]
theorem finAt_get (t : List Int) (n : Nat) (g : Bool) (k : Nat) (h : k < n + 1) : (finAt t n g k).getD k 0 = 0 := by simp [finAt, List.getD, h]
theorem finAt_set (t : List Int) (n : Nat) (g : Bool) (k : Nat) : (finAt t n g k).set k (finV t n g k) = finAt t n g (k + 1) := by
  apply List.ext_getElem
  · simp [finAt]
  · intro i h1 h2
    simp only [finAt, List.getElem_set, List.getElem_map, List.getElem_range]
    by_cases hi : k = i
    · subst hi; rw [if_pos rfl, if_pos (by omega)]
    · rw [if_neg hi]
      by_cases h3 : i < k
      · rw [if_pos h3, if_pos (by omega)]
      · rw [if_neg h3, if_neg (by omega)]
theorem finAt_zero (t : List Int) (n : Nat) (g : Bool) : List.replicate (n + 1) (0 : Int) = finAt t n g 0 := by simp [finAt, List.map_const']
theorem finAt_end (t : List Int) (n : Nat) (g : Bool) : finAt t n g (n + 1) = finN t n g := by
  unfold finAt finN
  refine List.map_congr_left fun j hj => ?_
  rw [if_pos (by simpa using hj)]
end Go.Proofs.Ytbjgklifmillgaa

/- The final distribution as fractions, of the program and of the reference. -/
namespace Go.Proofs.Ytbjgklifmillgaa
open Go.RowKit
set_option linter.unusedVariables false

theorem finO_succ {t : List Int} {n : Nat} (g : Bool) (j : Nat) (hj : j < n + 1) : (finO t n g).take (j + 1) = (finO t n g).take j ++ [low (finV t n g j) (tsum t n)] := by
  rw [List.take_add_one, List.getElem?_eq_getElem (by rw [finO_len]; exact hj)]
  have : (finO t n g)[j]'(by rw [finO_len]; exact hj) = low (finV t n g j) (tsum t n) := by simp [finO, finN]
  rw [this]; rfl
end Go.Proofs.Ytbjgklifmillgaa
