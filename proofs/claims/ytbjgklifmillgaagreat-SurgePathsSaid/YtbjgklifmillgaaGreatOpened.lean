import Derived.Test.YtbjgklifmillgaaGreatProg
import Derived.ChangeSlices
import Derived.Lib.SmallJoins
import Derived.ProofKit
import Derived.OpenShut
import Derived.ChangeOld
import Derived.Below
import Derived.Test.YtbjgklifmillgaaGreatLib
import Derived.Test.YtbjgklifmillgaaGreatPlain0
/- What slices and structs that come in hold. -/
namespace Go.Proofs.YtbjgklifmillgaaGreat
open Go.ChangeShapes Go.WideShapes Go.ChangeAt Go.RowKit
set_option linter.unusedVariables false

section
variable {H : Type} {enc : TypeId × Value → H} {W : World} {base : Nat} {spare : Nat → Bool} {held : Bool}
theorem opened_ints {fuel : Nat} {cs : List Value} {x : DataW H × List MemPlace} (h : DataW.trod enc Tryz.prog W base spare held fuel 22 cs = some x) : ∃ a n c l, cs = [.slice a n c] ∧ IntsR W a n l := by
  rcases open_ints Tryz.underlying22 Tryz.underlying3 (by kernel_rfl) h with ⟨rfl, _⟩ | ⟨a, len, cap, zs, rfl, _, hl, hm, hz, _, hcell, hwz⟩
  · exact ⟨none, 0, 0, [], rfl, IntsR.nil _ _⟩
  · have hlz : len ≤ zs.length := by rw [hz]; split <;> omega
    refine ⟨some a, len, cap, zs.take len, rfl, ?_, by unfold maxLen at *; omega, fun hn => ?_⟩
    · rw [icells_length, List.length_take]; omega
    · obtain ⟨b, off, spot⟩ := a
      have h0 := hcell 0 (by omega)
      have hs : spot = none := by simpa [Addr.add] using World.cell?_spot h0
      subst hs
      refine ⟨b, off, rfl, World.block_lt_of_cell? W _ h0, fun i u hu => ?_⟩
      have hi : i < (zs.take len).length := by
        rw [← icells_length]
        exact (List.getElem?_eq_some_iff.1 hu).1
      rw [icells_get hi] at hu
      have hi' : i < len := by rw [List.length_take] at hi; omega
      have := hcell i (by omega)
      rw [Addr.add_lit] at this
      rw [this, ← hu]
      congr 2
      simp [List.getD, hi']
end
end Go.Proofs.YtbjgklifmillgaaGreat
