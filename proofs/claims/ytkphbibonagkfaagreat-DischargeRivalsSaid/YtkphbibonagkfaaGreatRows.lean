/-
  No cell of these rows narrows 'for every input' (looked for: loops, veiled, ifaces, maps, wideKeys, modest, calm, conditions, laid).
  DERIVED. THE GIVEN ROWS OF THIS SEAT. 11 by the template 'for every input the law returns true; each argument reads behind the call as it read before'; 0 by the template 'total and deterministic' (their statements: YtkphbibonagkfaaGreatTotals.lean).
  GIVEN WITH THE SEED: the statements are not yours to turn. If you find one false, say at which input.
  Laid BY PROGRAM, IN A SANDBOX (cutbox-rows.mjs): the forced cells as the released guide's own fill.sh prints them over the translation c8a6079581e6e2c7… (all of the seat's roots in one cut). By AI agents, Wed Nov 11 2026. No macro, syntax, notation, axiom, sorry.
-/
import Derived.Test.YtkphbibonagkfaaGreatChecked
import GoSem.Claim
import GoSem.ClaimJoined
import GoSem.ClaimMapViews
import Derived.JoinedTies
import Derived.KernelRfl
namespace Go.Proofs.YtkphbibonagkfaaGreat
/- THE CELL 'sum', in the pinned program and in every row, IS THE sha256 OF THE DUMP (.gsa) THAT YtkphbibonagkfaaGreatProg.lean LOADS. Nothing in Lean hashes anything: it is a label: what it is worth is what the hold of that sum in a sandbox is worth. -/
noncomputable def Tryz.pinned : Pinned := { name := "ytkphbibonagkfaagreat", sum := "c8a6079581e6e2c73aacf85eead0ac3d58eabd1ea16c53edc9b751e89be8c52d", checked := Tryz.checked }
namespace Rows
def none {H : Type} : Left H := { results := [], args := [] }

/-- 'buchholzlaw09.DischargeAnswers': WHATEVER THE INPUT: true; the input reads as it did. -/
def dischargeAnswersSpec : ChangeSpec := { name := "dischargeAnswers", fn := fun _ => fun
  | [d1, d2, d3] => { results := [.lit (.bool true)], args := [d1, d2, d3] }
  | _ => none }
def dischargeAnswersRow : OpenClaim := { program := "ytkphbibonagkfaagreat", sum := "c8a6079581e6e2c73aacf85eead0ac3d58eabd1ea16c53edc9b751e89be8c52d", func := "buchholz/buchholzlaw09.DischargeAnswers", spec := "dischargeAnswers", unfollowed := true, recurses := true, apart := false }
def DischargeAnswersSaid : Prop := dischargeAnswersRow.holds Tryz.pinned (OpenSpec.ofChange dischargeAnswersSpec)

/-- ITS FALSE NEIGHBOUR: 'it returns false'. Refute it at one input. -/
def dischargeAnswersWrong : ChangeSpec := { name := "dischargeAnswers", fn := fun _ => fun
  | [d1, d2, d3] => { results := [.lit (.bool false)], args := [d1, d2, d3] }
  | _ => none }
def DischargeAnswersWrongFalsely : Prop := dischargeAnswersRow.holds Tryz.pinned (OpenSpec.ofChange dischargeAnswersWrong)

/-- 'buchholzlaw09.DischargeDeforms': WHATEVER THE INPUT: true; the input reads as it did. -/
def dischargeDeformsSpec : ChangeSpec := { name := "dischargeDeforms", fn := fun _ => fun
  | [d1, d2] => { results := [.lit (.bool true)], args := [d1, d2] }
  | _ => none }
def dischargeDeformsRow : OpenClaim := { program := "ytkphbibonagkfaagreat", sum := "c8a6079581e6e2c73aacf85eead0ac3d58eabd1ea16c53edc9b751e89be8c52d", func := "buchholz/buchholzlaw09.DischargeDeforms", spec := "dischargeDeforms", unfollowed := true, recurses := true, apart := false }
def DischargeDeformsSaid : Prop := dischargeDeformsRow.holds Tryz.pinned (OpenSpec.ofChange dischargeDeformsSpec)

/-- ITS FALSE NEIGHBOUR: 'it returns false'. Refute it at one input. -/
def dischargeDeformsWrong : ChangeSpec := { name := "dischargeDeforms", fn := fun _ => fun
  | [d1, d2] => { results := [.lit (.bool false)], args := [d1, d2] }
  | _ => none }
def DischargeDeformsWrongFalsely : Prop := dischargeDeformsRow.holds Tryz.pinned (OpenSpec.ofChange dischargeDeformsWrong)

/-- 'buchholzlaw09.DischargeResponses': WHATEVER THE INPUT: true; the input reads as it did. -/
def dischargeResponsesSpec : ChangeSpec := { name := "dischargeResponses", fn := fun _ => fun
  | [d1, d2, d3] => { results := [.lit (.bool true)], args := [d1, d2, d3] }
  | _ => none }
def dischargeResponsesRow : OpenClaim := { program := "ytkphbibonagkfaagreat", sum := "c8a6079581e6e2c73aacf85eead0ac3d58eabd1ea16c53edc9b751e89be8c52d", func := "buchholz/buchholzlaw09.DischargeResponses", spec := "dischargeResponses", unfollowed := true, recurses := true, apart := false }
def DischargeResponsesSaid : Prop := dischargeResponsesRow.holds Tryz.pinned (OpenSpec.ofChange dischargeResponsesSpec)

/-- ITS FALSE NEIGHBOUR: 'it returns false'. Refute it at one input. -/
def dischargeResponsesWrong : ChangeSpec := { name := "dischargeResponses", fn := fun _ => fun
  | [d1, d2, d3] => { results := [.lit (.bool false)], args := [d1, d2, d3] }
  | _ => none }
def DischargeResponsesWrongFalsely : Prop := dischargeResponsesRow.holds Tryz.pinned (OpenSpec.ofChange dischargeResponsesWrong)

/-- 'buchholzlaw09.DischargeExplanations': WHATEVER THE INPUT: true; the input reads as it did. -/
def dischargeExplanationsSpec : ChangeSpec := { name := "dischargeExplanations", fn := fun _ => fun
  | [d1, d2, d3] => { results := [.lit (.bool true)], args := [d1, d2, d3] }
  | _ => none }
def dischargeExplanationsRow : OpenClaim := { program := "ytkphbibonagkfaagreat", sum := "c8a6079581e6e2c73aacf85eead0ac3d58eabd1ea16c53edc9b751e89be8c52d", func := "buchholz/buchholzlaw09.DischargeExplanations", spec := "dischargeExplanations", unfollowed := true, recurses := true, apart := false }
def DischargeExplanationsSaid : Prop := dischargeExplanationsRow.holds Tryz.pinned (OpenSpec.ofChange dischargeExplanationsSpec)

/-- ITS FALSE NEIGHBOUR: 'it returns false'. Refute it at one input. -/
def dischargeExplanationsWrong : ChangeSpec := { name := "dischargeExplanations", fn := fun _ => fun
  | [d1, d2, d3] => { results := [.lit (.bool false)], args := [d1, d2, d3] }
  | _ => none }
def DischargeExplanationsWrongFalsely : Prop := dischargeExplanationsRow.holds Tryz.pinned (OpenSpec.ofChange dischargeExplanationsWrong)

/-- 'buchholzlaw09.DischargeDifferences': WHATEVER THE INPUT: true; the input reads as it did. -/
def dischargeDifferencesSpec : ChangeSpec := { name := "dischargeDifferences", fn := fun _ => fun
  | [d1, d2, d3] => { results := [.lit (.bool true)], args := [d1, d2, d3] }
  | _ => none }
def dischargeDifferencesRow : OpenClaim := { program := "ytkphbibonagkfaagreat", sum := "c8a6079581e6e2c73aacf85eead0ac3d58eabd1ea16c53edc9b751e89be8c52d", func := "buchholz/buchholzlaw09.DischargeDifferences", spec := "dischargeDifferences", unfollowed := true, recurses := true, apart := false }
def DischargeDifferencesSaid : Prop := dischargeDifferencesRow.holds Tryz.pinned (OpenSpec.ofChange dischargeDifferencesSpec)

/-- ITS FALSE NEIGHBOUR: 'it returns false'. Refute it at one input. -/
def dischargeDifferencesWrong : ChangeSpec := { name := "dischargeDifferences", fn := fun _ => fun
  | [d1, d2, d3] => { results := [.lit (.bool false)], args := [d1, d2, d3] }
  | _ => none }
def DischargeDifferencesWrongFalsely : Prop := dischargeDifferencesRow.holds Tryz.pinned (OpenSpec.ofChange dischargeDifferencesWrong)

/-- 'buchholzlaw09.DischargeRivals': WHATEVER THE INPUT: true; the input reads as it did. -/
def dischargeRivalsSpec : ChangeSpec := { name := "dischargeRivals", fn := fun _ => fun
  | [d1, d2, d3] => { results := [.lit (.bool true)], args := [d1, d2, d3] }
  | _ => none }
def dischargeRivalsRow : OpenClaim := { program := "ytkphbibonagkfaagreat", sum := "c8a6079581e6e2c73aacf85eead0ac3d58eabd1ea16c53edc9b751e89be8c52d", func := "buchholz/buchholzlaw09.DischargeRivals", spec := "dischargeRivals", unfollowed := true, recurses := true, apart := false }
def DischargeRivalsSaid : Prop := dischargeRivalsRow.holds Tryz.pinned (OpenSpec.ofChange dischargeRivalsSpec)

/-- ITS FALSE NEIGHBOUR: 'it returns false'. Refute it at one input. -/
def dischargeRivalsWrong : ChangeSpec := { name := "dischargeRivals", fn := fun _ => fun
  | [d1, d2, d3] => { results := [.lit (.bool false)], args := [d1, d2, d3] }
  | _ => none }
def DischargeRivalsWrongFalsely : Prop := dischargeRivalsRow.holds Tryz.pinned (OpenSpec.ofChange dischargeRivalsWrong)

/-- 'buchholzlaw09.DischargeCharges': WHATEVER THE INPUT: true; the input reads as it did. -/
def dischargeChargesSpec : ChangeSpec := { name := "dischargeCharges", fn := fun _ => fun
  | [d1, d2, d3] => { results := [.lit (.bool true)], args := [d1, d2, d3] }
  | _ => none }
def dischargeChargesRow : OpenClaim := { program := "ytkphbibonagkfaagreat", sum := "c8a6079581e6e2c73aacf85eead0ac3d58eabd1ea16c53edc9b751e89be8c52d", func := "buchholz/buchholzlaw09.DischargeCharges", spec := "dischargeCharges", unfollowed := true, recurses := true, apart := false }
def DischargeChargesSaid : Prop := dischargeChargesRow.holds Tryz.pinned (OpenSpec.ofChange dischargeChargesSpec)

/-- ITS FALSE NEIGHBOUR: 'it returns false'. Refute it at one input. -/
def dischargeChargesWrong : ChangeSpec := { name := "dischargeCharges", fn := fun _ => fun
  | [d1, d2, d3] => { results := [.lit (.bool false)], args := [d1, d2, d3] }
  | _ => none }
def DischargeChargesWrongFalsely : Prop := dischargeChargesRow.holds Tryz.pinned (OpenSpec.ofChange dischargeChargesWrong)

/-- 'buchholzlaw09.DischargeOutside': WHATEVER THE INPUT: true; the input reads as it did. -/
def dischargeOutsideSpec : ChangeSpec := { name := "dischargeOutside", fn := fun _ => fun
  | [d1, d2, d3] => { results := [.lit (.bool true)], args := [d1, d2, d3] }
  | _ => none }
def dischargeOutsideRow : OpenClaim := { program := "ytkphbibonagkfaagreat", sum := "c8a6079581e6e2c73aacf85eead0ac3d58eabd1ea16c53edc9b751e89be8c52d", func := "buchholz/buchholzlaw09.DischargeOutside", spec := "dischargeOutside", unfollowed := true, recurses := true, apart := false }
def DischargeOutsideSaid : Prop := dischargeOutsideRow.holds Tryz.pinned (OpenSpec.ofChange dischargeOutsideSpec)

/-- ITS FALSE NEIGHBOUR: 'it returns false'. Refute it at one input. -/
def dischargeOutsideWrong : ChangeSpec := { name := "dischargeOutside", fn := fun _ => fun
  | [d1, d2, d3] => { results := [.lit (.bool false)], args := [d1, d2, d3] }
  | _ => none }
def DischargeOutsideWrongFalsely : Prop := dischargeOutsideRow.holds Tryz.pinned (OpenSpec.ofChange dischargeOutsideWrong)

/-- 'buchholzlaw09.DischargeCleaned': WHATEVER THE INPUT: true; the input reads as it did. -/
def dischargeCleanedSpec : ChangeSpec := { name := "dischargeCleaned", fn := fun _ => fun
  | [d1, d2, d3] => { results := [.lit (.bool true)], args := [d1, d2, d3] }
  | _ => none }
def dischargeCleanedRow : OpenClaim := { program := "ytkphbibonagkfaagreat", sum := "c8a6079581e6e2c73aacf85eead0ac3d58eabd1ea16c53edc9b751e89be8c52d", func := "buchholz/buchholzlaw09.DischargeCleaned", spec := "dischargeCleaned", unfollowed := true, recurses := true, apart := false }
def DischargeCleanedSaid : Prop := dischargeCleanedRow.holds Tryz.pinned (OpenSpec.ofChange dischargeCleanedSpec)

/-- ITS FALSE NEIGHBOUR: 'it returns false'. Refute it at one input. -/
def dischargeCleanedWrong : ChangeSpec := { name := "dischargeCleaned", fn := fun _ => fun
  | [d1, d2, d3] => { results := [.lit (.bool false)], args := [d1, d2, d3] }
  | _ => none }
def DischargeCleanedWrongFalsely : Prop := dischargeCleanedRow.holds Tryz.pinned (OpenSpec.ofChange dischargeCleanedWrong)

/-- 'buchholzlaw09.DischargeRegions': WHATEVER THE INPUT: true; the input reads as it did. -/
def dischargeRegionsSpec : ChangeSpec := { name := "dischargeRegions", fn := fun _ => fun
  | [d1, d2] => { results := [.lit (.bool true)], args := [d1, d2] }
  | _ => none }
def dischargeRegionsRow : OpenClaim := { program := "ytkphbibonagkfaagreat", sum := "c8a6079581e6e2c73aacf85eead0ac3d58eabd1ea16c53edc9b751e89be8c52d", func := "buchholz/buchholzlaw09.DischargeRegions", spec := "dischargeRegions", unfollowed := true, recurses := true, apart := false }
def DischargeRegionsSaid : Prop := dischargeRegionsRow.holds Tryz.pinned (OpenSpec.ofChange dischargeRegionsSpec)

/-- ITS FALSE NEIGHBOUR: 'it returns false'. Refute it at one input. -/
def dischargeRegionsWrong : ChangeSpec := { name := "dischargeRegions", fn := fun _ => fun
  | [d1, d2] => { results := [.lit (.bool false)], args := [d1, d2] }
  | _ => none }
def DischargeRegionsWrongFalsely : Prop := dischargeRegionsRow.holds Tryz.pinned (OpenSpec.ofChange dischargeRegionsWrong)

/-- 'buchholzlaw09.DischargeContradictions': WHATEVER THE INPUT: true; the input reads as it did. -/
def dischargeContradictionsSpec : ChangeSpec := { name := "dischargeContradictions", fn := fun _ => fun
  | [d1, d2] => { results := [.lit (.bool true)], args := [d1, d2] }
  | _ => none }
def dischargeContradictionsRow : OpenClaim := { program := "ytkphbibonagkfaagreat", sum := "c8a6079581e6e2c73aacf85eead0ac3d58eabd1ea16c53edc9b751e89be8c52d", func := "buchholz/buchholzlaw09.DischargeContradictions", spec := "dischargeContradictions", unfollowed := true, recurses := true, apart := false }
def DischargeContradictionsSaid : Prop := dischargeContradictionsRow.holds Tryz.pinned (OpenSpec.ofChange dischargeContradictionsSpec)

/-- ITS FALSE NEIGHBOUR: 'it returns false'. Refute it at one input. -/
def dischargeContradictionsWrong : ChangeSpec := { name := "dischargeContradictions", fn := fun _ => fun
  | [d1, d2] => { results := [.lit (.bool false)], args := [d1, d2] }
  | _ => none }
def DischargeContradictionsWrongFalsely : Prop := dischargeContradictionsRow.holds Tryz.pinned (OpenSpec.ofChange dischargeContradictionsWrong)

/- THE SECOND FORM. 'bulk': how many values and letters a reading holds, each counted each time it is reached (what is shared counts as often as it is met; a slice's spare places count too). A statement '..UptoSaid' is the law's where the arguments, and the package variables that the reading takes, are together of bulk at most 1048576: NARROWER than '..Said'. Prove '..Said' where nothing that the law and all that it calls make is longer than what came in: it says more and counts as full. Else prove '..UptoSaid'. A law counts once. -/
mutual
def uptoBulk {H : Type} : DataW H → Nat
  | .lit (.string bytes) => bytes.length + 1
  | .lit _ => 1
  | .nil => 1
  | .ptr d => uptoBulk d + 1
  | .slice elems spare => uptoBulkAll elems + uptoBulkAll spare + 1
  | .agg parts => uptoBulkAll parts + 1
  | .iface _ d => uptoBulk d + 1
  | .map entries => uptoBulkEntries entries + 1
  | .held _ => 1
def uptoBulkAll {H : Type} : List (DataW H) → Nat
  | [] => 0
  | d :: r => uptoBulk d + uptoBulkAll r
def uptoBulkEntries {H : Type} : List (Lit × DataW H) → Nat
  | [] => 0
  | x :: r => uptoBulkEntry x + uptoBulkEntries r
def uptoBulkEntry {H : Type} : Lit × DataW H → Nat
  | (.string bytes, d) => bytes.length + uptoBulk d + 1
  | (_, d) => uptoBulk d + 1
 end
def uptoSmall : (H : Type) → List (DataW H) → Bool := fun _ ds => decide (uptoBulkAll ds ≤ 1048576)
def OpenSpec.upto (s : _root_.Go.ChangeSpec) : _root_.Go.OpenSpec := { _root_.Go.OpenSpec.ofChange s with cond := some uptoSmall }

/-- 'buchholzlaw09.DischargeAnswers', WHERE WHAT IT READS IS OF BULK AT MOST 1048576: true; the input reads as it did. -/
def dischargeAnswersUptoRow : OpenClaim := { program := "ytkphbibonagkfaagreat", sum := "c8a6079581e6e2c73aacf85eead0ac3d58eabd1ea16c53edc9b751e89be8c52d", func := "buchholz/buchholzlaw09.DischargeAnswers", spec := "dischargeAnswers", unfollowed := true, recurses := true, apart := false, narrowed := true }
def DischargeAnswersUptoSaid : Prop := dischargeAnswersUptoRow.holds Tryz.pinned (OpenSpec.upto dischargeAnswersSpec)

/-- 'buchholzlaw09.DischargeDeforms', WHERE WHAT IT READS IS OF BULK AT MOST 1048576: true; the input reads as it did. -/
def dischargeDeformsUptoRow : OpenClaim := { program := "ytkphbibonagkfaagreat", sum := "c8a6079581e6e2c73aacf85eead0ac3d58eabd1ea16c53edc9b751e89be8c52d", func := "buchholz/buchholzlaw09.DischargeDeforms", spec := "dischargeDeforms", unfollowed := true, recurses := true, apart := false, narrowed := true }
def DischargeDeformsUptoSaid : Prop := dischargeDeformsUptoRow.holds Tryz.pinned (OpenSpec.upto dischargeDeformsSpec)

/-- 'buchholzlaw09.DischargeResponses', WHERE WHAT IT READS IS OF BULK AT MOST 1048576: true; the input reads as it did. -/
def dischargeResponsesUptoRow : OpenClaim := { program := "ytkphbibonagkfaagreat", sum := "c8a6079581e6e2c73aacf85eead0ac3d58eabd1ea16c53edc9b751e89be8c52d", func := "buchholz/buchholzlaw09.DischargeResponses", spec := "dischargeResponses", unfollowed := true, recurses := true, apart := false, narrowed := true }
def DischargeResponsesUptoSaid : Prop := dischargeResponsesUptoRow.holds Tryz.pinned (OpenSpec.upto dischargeResponsesSpec)

/-- 'buchholzlaw09.DischargeExplanations', WHERE WHAT IT READS IS OF BULK AT MOST 1048576: true; the input reads as it did. -/
def dischargeExplanationsUptoRow : OpenClaim := { program := "ytkphbibonagkfaagreat", sum := "c8a6079581e6e2c73aacf85eead0ac3d58eabd1ea16c53edc9b751e89be8c52d", func := "buchholz/buchholzlaw09.DischargeExplanations", spec := "dischargeExplanations", unfollowed := true, recurses := true, apart := false, narrowed := true }
def DischargeExplanationsUptoSaid : Prop := dischargeExplanationsUptoRow.holds Tryz.pinned (OpenSpec.upto dischargeExplanationsSpec)

/-- 'buchholzlaw09.DischargeDifferences', WHERE WHAT IT READS IS OF BULK AT MOST 1048576: true; the input reads as it did. -/
def dischargeDifferencesUptoRow : OpenClaim := { program := "ytkphbibonagkfaagreat", sum := "c8a6079581e6e2c73aacf85eead0ac3d58eabd1ea16c53edc9b751e89be8c52d", func := "buchholz/buchholzlaw09.DischargeDifferences", spec := "dischargeDifferences", unfollowed := true, recurses := true, apart := false, narrowed := true }
def DischargeDifferencesUptoSaid : Prop := dischargeDifferencesUptoRow.holds Tryz.pinned (OpenSpec.upto dischargeDifferencesSpec)

/-- 'buchholzlaw09.DischargeRivals', WHERE WHAT IT READS IS OF BULK AT MOST 1048576: true; the input reads as it did. -/
def dischargeRivalsUptoRow : OpenClaim := { program := "ytkphbibonagkfaagreat", sum := "c8a6079581e6e2c73aacf85eead0ac3d58eabd1ea16c53edc9b751e89be8c52d", func := "buchholz/buchholzlaw09.DischargeRivals", spec := "dischargeRivals", unfollowed := true, recurses := true, apart := false, narrowed := true }
def DischargeRivalsUptoSaid : Prop := dischargeRivalsUptoRow.holds Tryz.pinned (OpenSpec.upto dischargeRivalsSpec)

/-- 'buchholzlaw09.DischargeCharges', WHERE WHAT IT READS IS OF BULK AT MOST 1048576: true; the input reads as it did. -/
def dischargeChargesUptoRow : OpenClaim := { program := "ytkphbibonagkfaagreat", sum := "c8a6079581e6e2c73aacf85eead0ac3d58eabd1ea16c53edc9b751e89be8c52d", func := "buchholz/buchholzlaw09.DischargeCharges", spec := "dischargeCharges", unfollowed := true, recurses := true, apart := false, narrowed := true }
def DischargeChargesUptoSaid : Prop := dischargeChargesUptoRow.holds Tryz.pinned (OpenSpec.upto dischargeChargesSpec)

/-- 'buchholzlaw09.DischargeOutside', WHERE WHAT IT READS IS OF BULK AT MOST 1048576: true; the input reads as it did. -/
def dischargeOutsideUptoRow : OpenClaim := { program := "ytkphbibonagkfaagreat", sum := "c8a6079581e6e2c73aacf85eead0ac3d58eabd1ea16c53edc9b751e89be8c52d", func := "buchholz/buchholzlaw09.DischargeOutside", spec := "dischargeOutside", unfollowed := true, recurses := true, apart := false, narrowed := true }
def DischargeOutsideUptoSaid : Prop := dischargeOutsideUptoRow.holds Tryz.pinned (OpenSpec.upto dischargeOutsideSpec)

/-- 'buchholzlaw09.DischargeCleaned', WHERE WHAT IT READS IS OF BULK AT MOST 1048576: true; the input reads as it did. -/
def dischargeCleanedUptoRow : OpenClaim := { program := "ytkphbibonagkfaagreat", sum := "c8a6079581e6e2c73aacf85eead0ac3d58eabd1ea16c53edc9b751e89be8c52d", func := "buchholz/buchholzlaw09.DischargeCleaned", spec := "dischargeCleaned", unfollowed := true, recurses := true, apart := false, narrowed := true }
def DischargeCleanedUptoSaid : Prop := dischargeCleanedUptoRow.holds Tryz.pinned (OpenSpec.upto dischargeCleanedSpec)

/-- 'buchholzlaw09.DischargeRegions', WHERE WHAT IT READS IS OF BULK AT MOST 1048576: true; the input reads as it did. -/
def dischargeRegionsUptoRow : OpenClaim := { program := "ytkphbibonagkfaagreat", sum := "c8a6079581e6e2c73aacf85eead0ac3d58eabd1ea16c53edc9b751e89be8c52d", func := "buchholz/buchholzlaw09.DischargeRegions", spec := "dischargeRegions", unfollowed := true, recurses := true, apart := false, narrowed := true }
def DischargeRegionsUptoSaid : Prop := dischargeRegionsUptoRow.holds Tryz.pinned (OpenSpec.upto dischargeRegionsSpec)

/-- 'buchholzlaw09.DischargeContradictions', WHERE WHAT IT READS IS OF BULK AT MOST 1048576: true; the input reads as it did. -/
def dischargeContradictionsUptoRow : OpenClaim := { program := "ytkphbibonagkfaagreat", sum := "c8a6079581e6e2c73aacf85eead0ac3d58eabd1ea16c53edc9b751e89be8c52d", func := "buchholz/buchholzlaw09.DischargeContradictions", spec := "dischargeContradictions", unfollowed := true, recurses := true, apart := false, narrowed := true }
def DischargeContradictionsUptoSaid : Prop := dischargeContradictionsUptoRow.holds Tryz.pinned (OpenSpec.upto dischargeContradictionsSpec)

end Rows
end Go.Proofs.YtkphbibonagkfaaGreat
