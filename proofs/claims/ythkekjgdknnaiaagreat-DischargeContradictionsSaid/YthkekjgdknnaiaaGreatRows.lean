/-
  No cell of these rows narrows 'for every input' (looked for: loops, veiled, ifaces, maps, wideKeys, modest, calm, conditions, laid).
  DERIVED. THE GIVEN ROWS OF THIS SEAT. 10 by the template 'for every input the law returns true; each argument reads behind the call as it read before'; 0 by the template 'total and deterministic' (their statements: YthkekjgdknnaiaaGreatTotals.lean).
  GIVEN WITH THE SEED: the statements are not yours to turn. If you find one false, say at which input.
  Laid BY PROGRAM, IN A SANDBOX (cutbox-rows.mjs): the forced cells as the released guide's own fill.sh prints them over the translation 0c88eec690d1b14b… (all of the seat's roots in one cut). By AI agents, Wed Nov 11 2026. No macro, syntax, notation, axiom, sorry.
-/
import Derived.Test.YthkekjgdknnaiaaGreatChecked
import GoSem.Claim
import GoSem.ClaimJoined
import GoSem.ClaimMapViews
import Derived.JoinedTies
import Derived.KernelRfl
namespace Go.Proofs.YthkekjgdknnaiaaGreat
/- THE CELL 'sum', in the pinned program and in every row, IS THE sha256 OF THE DUMP (.gsa) THAT YthkekjgdknnaiaaGreatProg.lean LOADS. Nothing in Lean hashes anything: it is a label: what it is worth is what the hold of that sum in a sandbox is worth. -/
noncomputable def Tryz.pinned : Pinned := { name := "ythkekjgdknnaiaagreat", sum := "0c88eec690d1b14b155b40e944b9ec88c38564fe6acebfebd5f67d550988dfb7", checked := Tryz.checked }
namespace Rows
def none {H : Type} : Left H := { results := [], args := [] }

/-- 'buchholzlaw09.DischargeExplanations': WHATEVER THE INPUT: true; the input reads as it did. -/
def dischargeExplanationsSpec : ChangeSpec := { name := "dischargeExplanations", fn := fun _ => fun
  | [d1, d2, d3] => { results := [.lit (.bool true)], args := [d1, d2, d3] }
  | _ => none }
def dischargeExplanationsRow : OpenClaim := { program := "ythkekjgdknnaiaagreat", sum := "0c88eec690d1b14b155b40e944b9ec88c38564fe6acebfebd5f67d550988dfb7", func := "buchholz/buchholzlaw09.DischargeExplanations", spec := "dischargeExplanations", unfollowed := true, recurses := true, plainKeys := false, apart := false }
def DischargeExplanationsSaid : Prop := dischargeExplanationsRow.holds Tryz.pinned (OpenSpec.ofChange dischargeExplanationsSpec)

/-- ITS FALSE NEIGHBOUR: 'it returns false'. Refute it at one input. -/
def dischargeExplanationsWrong : ChangeSpec := { name := "dischargeExplanations", fn := fun _ => fun
  | [d1, d2, d3] => { results := [.lit (.bool false)], args := [d1, d2, d3] }
  | _ => none }
def DischargeExplanationsWrongFalsely : Prop := dischargeExplanationsRow.holds Tryz.pinned (OpenSpec.ofChange dischargeExplanationsWrong)

/-- 'buchholzlaw09.DischargeCharges': WHATEVER THE INPUT: true; the input reads as it did. -/
def dischargeChargesSpec : ChangeSpec := { name := "dischargeCharges", fn := fun _ => fun
  | [d1, d2, d3] => { results := [.lit (.bool true)], args := [d1, d2, d3] }
  | _ => none }
def dischargeChargesRow : OpenClaim := { program := "ythkekjgdknnaiaagreat", sum := "0c88eec690d1b14b155b40e944b9ec88c38564fe6acebfebd5f67d550988dfb7", func := "buchholz/buchholzlaw09.DischargeCharges", spec := "dischargeCharges", unfollowed := true, recurses := true, plainKeys := false, apart := false }
def DischargeChargesSaid : Prop := dischargeChargesRow.holds Tryz.pinned (OpenSpec.ofChange dischargeChargesSpec)

/-- ITS FALSE NEIGHBOUR: 'it returns false'. Refute it at one input. -/
def dischargeChargesWrong : ChangeSpec := { name := "dischargeCharges", fn := fun _ => fun
  | [d1, d2, d3] => { results := [.lit (.bool false)], args := [d1, d2, d3] }
  | _ => none }
def DischargeChargesWrongFalsely : Prop := dischargeChargesRow.holds Tryz.pinned (OpenSpec.ofChange dischargeChargesWrong)

/-- 'buchholzlaw09.DischargeOutside': WHATEVER THE INPUT: true; the input reads as it did. -/
def dischargeOutsideSpec : ChangeSpec := { name := "dischargeOutside", fn := fun _ => fun
  | [d1, d2, d3] => { results := [.lit (.bool true)], args := [d1, d2, d3] }
  | _ => none }
def dischargeOutsideRow : OpenClaim := { program := "ythkekjgdknnaiaagreat", sum := "0c88eec690d1b14b155b40e944b9ec88c38564fe6acebfebd5f67d550988dfb7", func := "buchholz/buchholzlaw09.DischargeOutside", spec := "dischargeOutside", unfollowed := true, recurses := true, plainKeys := false, apart := false }
def DischargeOutsideSaid : Prop := dischargeOutsideRow.holds Tryz.pinned (OpenSpec.ofChange dischargeOutsideSpec)

/-- ITS FALSE NEIGHBOUR: 'it returns false'. Refute it at one input. -/
def dischargeOutsideWrong : ChangeSpec := { name := "dischargeOutside", fn := fun _ => fun
  | [d1, d2, d3] => { results := [.lit (.bool false)], args := [d1, d2, d3] }
  | _ => none }
def DischargeOutsideWrongFalsely : Prop := dischargeOutsideRow.holds Tryz.pinned (OpenSpec.ofChange dischargeOutsideWrong)

/-- 'buchholzlaw09.DischargeCleaned': WHATEVER THE INPUT: true; the input reads as it did. -/
def dischargeCleanedSpec : ChangeSpec := { name := "dischargeCleaned", fn := fun _ => fun
  | [d1, d2, d3] => { results := [.lit (.bool true)], args := [d1, d2, d3] }
  | _ => none }
def dischargeCleanedRow : OpenClaim := { program := "ythkekjgdknnaiaagreat", sum := "0c88eec690d1b14b155b40e944b9ec88c38564fe6acebfebd5f67d550988dfb7", func := "buchholz/buchholzlaw09.DischargeCleaned", spec := "dischargeCleaned", unfollowed := true, recurses := true, plainKeys := false, apart := false }
def DischargeCleanedSaid : Prop := dischargeCleanedRow.holds Tryz.pinned (OpenSpec.ofChange dischargeCleanedSpec)

/-- ITS FALSE NEIGHBOUR: 'it returns false'. Refute it at one input. -/
def dischargeCleanedWrong : ChangeSpec := { name := "dischargeCleaned", fn := fun _ => fun
  | [d1, d2, d3] => { results := [.lit (.bool false)], args := [d1, d2, d3] }
  | _ => none }
def DischargeCleanedWrongFalsely : Prop := dischargeCleanedRow.holds Tryz.pinned (OpenSpec.ofChange dischargeCleanedWrong)

/-- 'buchholzlaw09.DischargeRegions': WHATEVER THE INPUT: true; the input reads as it did. -/
def dischargeRegionsSpec : ChangeSpec := { name := "dischargeRegions", fn := fun _ => fun
  | [d1, d2] => { results := [.lit (.bool true)], args := [d1, d2] }
  | _ => none }
def dischargeRegionsRow : OpenClaim := { program := "ythkekjgdknnaiaagreat", sum := "0c88eec690d1b14b155b40e944b9ec88c38564fe6acebfebd5f67d550988dfb7", func := "buchholz/buchholzlaw09.DischargeRegions", spec := "dischargeRegions", unfollowed := true, recurses := true, plainKeys := false, apart := false }
def DischargeRegionsSaid : Prop := dischargeRegionsRow.holds Tryz.pinned (OpenSpec.ofChange dischargeRegionsSpec)

/-- ITS FALSE NEIGHBOUR: 'it returns false'. Refute it at one input. -/
def dischargeRegionsWrong : ChangeSpec := { name := "dischargeRegions", fn := fun _ => fun
  | [d1, d2] => { results := [.lit (.bool false)], args := [d1, d2] }
  | _ => none }
def DischargeRegionsWrongFalsely : Prop := dischargeRegionsRow.holds Tryz.pinned (OpenSpec.ofChange dischargeRegionsWrong)

/-- 'buchholzlaw09.DischargeLocated': WHATEVER THE INPUT: true; the input reads as it did. -/
def dischargeLocatedSpec : ChangeSpec := { name := "dischargeLocated", fn := fun _ => fun
  | [d1, d2, d3] => { results := [.lit (.bool true)], args := [d1, d2, d3] }
  | _ => none }
def dischargeLocatedRow : OpenClaim := { program := "ythkekjgdknnaiaagreat", sum := "0c88eec690d1b14b155b40e944b9ec88c38564fe6acebfebd5f67d550988dfb7", func := "buchholz/buchholzlaw09.DischargeLocated", spec := "dischargeLocated", unfollowed := true, recurses := true, plainKeys := false, apart := false }
def DischargeLocatedSaid : Prop := dischargeLocatedRow.holds Tryz.pinned (OpenSpec.ofChange dischargeLocatedSpec)

/-- ITS FALSE NEIGHBOUR: 'it returns false'. Refute it at one input. -/
def dischargeLocatedWrong : ChangeSpec := { name := "dischargeLocated", fn := fun _ => fun
  | [d1, d2, d3] => { results := [.lit (.bool false)], args := [d1, d2, d3] }
  | _ => none }
def DischargeLocatedWrongFalsely : Prop := dischargeLocatedRow.holds Tryz.pinned (OpenSpec.ofChange dischargeLocatedWrong)

/-- 'buchholzlaw09.DischargeContradictions': WHATEVER THE INPUT: true; the input reads as it did. -/
def dischargeContradictionsSpec : ChangeSpec := { name := "dischargeContradictions", fn := fun _ => fun
  | [d1, d2] => { results := [.lit (.bool true)], args := [d1, d2] }
  | _ => none }
def dischargeContradictionsRow : OpenClaim := { program := "ythkekjgdknnaiaagreat", sum := "0c88eec690d1b14b155b40e944b9ec88c38564fe6acebfebd5f67d550988dfb7", func := "buchholz/buchholzlaw09.DischargeContradictions", spec := "dischargeContradictions", unfollowed := true, recurses := true, plainKeys := false, apart := false }
def DischargeContradictionsSaid : Prop := dischargeContradictionsRow.holds Tryz.pinned (OpenSpec.ofChange dischargeContradictionsSpec)

/-- ITS FALSE NEIGHBOUR: 'it returns false'. Refute it at one input. -/
def dischargeContradictionsWrong : ChangeSpec := { name := "dischargeContradictions", fn := fun _ => fun
  | [d1, d2] => { results := [.lit (.bool false)], args := [d1, d2] }
  | _ => none }
def DischargeContradictionsWrongFalsely : Prop := dischargeContradictionsRow.holds Tryz.pinned (OpenSpec.ofChange dischargeContradictionsWrong)

/-- 'buchholzlaw09.DischargeClusters': WHATEVER THE INPUT: true; the input reads as it did. -/
def dischargeClustersSpec : ChangeSpec := { name := "dischargeClusters", fn := fun _ => fun
  | [d] => { results := [.lit (.bool true)], args := [d] }
  | _ => none }
def dischargeClustersRow : OpenClaim := { program := "ythkekjgdknnaiaagreat", sum := "0c88eec690d1b14b155b40e944b9ec88c38564fe6acebfebd5f67d550988dfb7", func := "buchholz/buchholzlaw09.DischargeClusters", spec := "dischargeClusters", unfollowed := true, recurses := true, plainKeys := false, apart := false }
def DischargeClustersSaid : Prop := dischargeClustersRow.holds Tryz.pinned (OpenSpec.ofChange dischargeClustersSpec)

/-- ITS FALSE NEIGHBOUR: 'it returns false'. Refute it at one input. -/
def dischargeClustersWrong : ChangeSpec := { name := "dischargeClusters", fn := fun _ => fun
  | [d] => { results := [.lit (.bool false)], args := [d] }
  | _ => none }
def DischargeClustersWrongFalsely : Prop := dischargeClustersRow.holds Tryz.pinned (OpenSpec.ofChange dischargeClustersWrong)

/-- 'buchholzlaw09.DischargeCalibrated': WHATEVER THE INPUT: true; the input reads as it did. -/
def dischargeCalibratedSpec : ChangeSpec := { name := "dischargeCalibrated", fn := fun _ => fun
  | [d1, d2, d3] => { results := [.lit (.bool true)], args := [d1, d2, d3] }
  | _ => none }
def dischargeCalibratedRow : OpenClaim := { program := "ythkekjgdknnaiaagreat", sum := "0c88eec690d1b14b155b40e944b9ec88c38564fe6acebfebd5f67d550988dfb7", func := "buchholz/buchholzlaw09.DischargeCalibrated", spec := "dischargeCalibrated", unfollowed := true, recurses := true, plainKeys := false, apart := false }
def DischargeCalibratedSaid : Prop := dischargeCalibratedRow.holds Tryz.pinned (OpenSpec.ofChange dischargeCalibratedSpec)

/-- ITS FALSE NEIGHBOUR: 'it returns false'. Refute it at one input. -/
def dischargeCalibratedWrong : ChangeSpec := { name := "dischargeCalibrated", fn := fun _ => fun
  | [d1, d2, d3] => { results := [.lit (.bool false)], args := [d1, d2, d3] }
  | _ => none }
def DischargeCalibratedWrongFalsely : Prop := dischargeCalibratedRow.holds Tryz.pinned (OpenSpec.ofChange dischargeCalibratedWrong)

/-- 'buchholztop.TopDischargeMoved': WHATEVER THE INPUT: true; the input reads as it did. -/
def topDischargeMovedSpec : ChangeSpec := { name := "topDischargeMoved", fn := fun _ => fun
  | [d1, d2, d3] => { results := [.lit (.bool true)], args := [d1, d2, d3] }
  | _ => none }
def topDischargeMovedRow : OpenClaim := { program := "ythkekjgdknnaiaagreat", sum := "0c88eec690d1b14b155b40e944b9ec88c38564fe6acebfebd5f67d550988dfb7", func := "buchholz/buchholztop.TopDischargeMoved", spec := "topDischargeMoved", unfollowed := true, recurses := true, plainKeys := false, apart := false }
def TopDischargeMovedSaid : Prop := topDischargeMovedRow.holds Tryz.pinned (OpenSpec.ofChange topDischargeMovedSpec)

/-- ITS FALSE NEIGHBOUR: 'it returns false'. Refute it at one input. -/
def topDischargeMovedWrong : ChangeSpec := { name := "topDischargeMoved", fn := fun _ => fun
  | [d1, d2, d3] => { results := [.lit (.bool false)], args := [d1, d2, d3] }
  | _ => none }
def TopDischargeMovedWrongFalsely : Prop := topDischargeMovedRow.holds Tryz.pinned (OpenSpec.ofChange topDischargeMovedWrong)

/- THE SECOND FORM. 'bulk': how many values and letters a reading holds, each counted each time it is reached (what is shared counts as often as it is met; a slice's spare places count too). A statement '..UptoSaid' is the law's where the arguments, and the package variables that the reading takes, are together of bulk at most 1048576: NARROWER than '..Said'. Prove '..Said' where nothing that the law and all that it calls make is longer than what came in: it says more and counts as full. Else prove '..UptoSaid'. A law counts once. -/
mutual
def uptoBulk {H : Type} : DataW H → Nat
  | .lit (.string bytes) => bytes.length + 1
  | .lit _ => 1
  | .nil => 1
  | .ptr d => uptoBulk d + 1
  | .slice elems spare => uptoBulkAll elems + uptoBulkAll spare + 1
  | .agg parts => uptoBulkAll parts + 1
  | .iface _ d => uptoBulk d + 1
  | .map entries => uptoBulkEntries entries + 1
  | .held _ => 1
def uptoBulkAll {H : Type} : List (DataW H) → Nat
  | [] => 0
  | d :: r => uptoBulk d + uptoBulkAll r
def uptoBulkEntries {H : Type} : List (Lit × DataW H) → Nat
  | [] => 0
  | x :: r => uptoBulkEntry x + uptoBulkEntries r
def uptoBulkEntry {H : Type} : Lit × DataW H → Nat
  | (.string bytes, d) => bytes.length + uptoBulk d + 1
  | (_, d) => uptoBulk d + 1
 end
def uptoSmall : (H : Type) → List (DataW H) → Bool := fun _ ds => decide (uptoBulkAll ds ≤ 1048576)
def OpenSpec.upto (s : _root_.Go.ChangeSpec) : _root_.Go.OpenSpec := { _root_.Go.OpenSpec.ofChange s with cond := some uptoSmall }

/-- 'buchholzlaw09.DischargeExplanations', WHERE WHAT IT READS IS OF BULK AT MOST 1048576: true; the input reads as it did. -/
def dischargeExplanationsUptoRow : OpenClaim := { program := "ythkekjgdknnaiaagreat", sum := "0c88eec690d1b14b155b40e944b9ec88c38564fe6acebfebd5f67d550988dfb7", func := "buchholz/buchholzlaw09.DischargeExplanations", spec := "dischargeExplanations", unfollowed := true, recurses := true, plainKeys := false, apart := false, narrowed := true }
def DischargeExplanationsUptoSaid : Prop := dischargeExplanationsUptoRow.holds Tryz.pinned (OpenSpec.upto dischargeExplanationsSpec)

/-- 'buchholzlaw09.DischargeCharges', WHERE WHAT IT READS IS OF BULK AT MOST 1048576: true; the input reads as it did. -/
def dischargeChargesUptoRow : OpenClaim := { program := "ythkekjgdknnaiaagreat", sum := "0c88eec690d1b14b155b40e944b9ec88c38564fe6acebfebd5f67d550988dfb7", func := "buchholz/buchholzlaw09.DischargeCharges", spec := "dischargeCharges", unfollowed := true, recurses := true, plainKeys := false, apart := false, narrowed := true }
def DischargeChargesUptoSaid : Prop := dischargeChargesUptoRow.holds Tryz.pinned (OpenSpec.upto dischargeChargesSpec)

/-- 'buchholzlaw09.DischargeOutside', WHERE WHAT IT READS IS OF BULK AT MOST 1048576: true; the input reads as it did. -/
def dischargeOutsideUptoRow : OpenClaim := { program := "ythkekjgdknnaiaagreat", sum := "0c88eec690d1b14b155b40e944b9ec88c38564fe6acebfebd5f67d550988dfb7", func := "buchholz/buchholzlaw09.DischargeOutside", spec := "dischargeOutside", unfollowed := true, recurses := true, plainKeys := false, apart := false, narrowed := true }
def DischargeOutsideUptoSaid : Prop := dischargeOutsideUptoRow.holds Tryz.pinned (OpenSpec.upto dischargeOutsideSpec)

/-- 'buchholzlaw09.DischargeCleaned', WHERE WHAT IT READS IS OF BULK AT MOST 1048576: true; the input reads as it did. -/
def dischargeCleanedUptoRow : OpenClaim := { program := "ythkekjgdknnaiaagreat", sum := "0c88eec690d1b14b155b40e944b9ec88c38564fe6acebfebd5f67d550988dfb7", func := "buchholz/buchholzlaw09.DischargeCleaned", spec := "dischargeCleaned", unfollowed := true, recurses := true, plainKeys := false, apart := false, narrowed := true }
def DischargeCleanedUptoSaid : Prop := dischargeCleanedUptoRow.holds Tryz.pinned (OpenSpec.upto dischargeCleanedSpec)

/-- 'buchholzlaw09.DischargeRegions', WHERE WHAT IT READS IS OF BULK AT MOST 1048576: true; the input reads as it did. -/
def dischargeRegionsUptoRow : OpenClaim := { program := "ythkekjgdknnaiaagreat", sum := "0c88eec690d1b14b155b40e944b9ec88c38564fe6acebfebd5f67d550988dfb7", func := "buchholz/buchholzlaw09.DischargeRegions", spec := "dischargeRegions", unfollowed := true, recurses := true, plainKeys := false, apart := false, narrowed := true }
def DischargeRegionsUptoSaid : Prop := dischargeRegionsUptoRow.holds Tryz.pinned (OpenSpec.upto dischargeRegionsSpec)

/-- 'buchholzlaw09.DischargeLocated', WHERE WHAT IT READS IS OF BULK AT MOST 1048576: true; the input reads as it did. -/
def dischargeLocatedUptoRow : OpenClaim := { program := "ythkekjgdknnaiaagreat", sum := "0c88eec690d1b14b155b40e944b9ec88c38564fe6acebfebd5f67d550988dfb7", func := "buchholz/buchholzlaw09.DischargeLocated", spec := "dischargeLocated", unfollowed := true, recurses := true, plainKeys := false, apart := false, narrowed := true }
def DischargeLocatedUptoSaid : Prop := dischargeLocatedUptoRow.holds Tryz.pinned (OpenSpec.upto dischargeLocatedSpec)

/-- 'buchholzlaw09.DischargeContradictions', WHERE WHAT IT READS IS OF BULK AT MOST 1048576: true; the input reads as it did. -/
def dischargeContradictionsUptoRow : OpenClaim := { program := "ythkekjgdknnaiaagreat", sum := "0c88eec690d1b14b155b40e944b9ec88c38564fe6acebfebd5f67d550988dfb7", func := "buchholz/buchholzlaw09.DischargeContradictions", spec := "dischargeContradictions", unfollowed := true, recurses := true, plainKeys := false, apart := false, narrowed := true }
def DischargeContradictionsUptoSaid : Prop := dischargeContradictionsUptoRow.holds Tryz.pinned (OpenSpec.upto dischargeContradictionsSpec)

/-- 'buchholzlaw09.DischargeClusters', WHERE WHAT IT READS IS OF BULK AT MOST 1048576: true; the input reads as it did. -/
def dischargeClustersUptoRow : OpenClaim := { program := "ythkekjgdknnaiaagreat", sum := "0c88eec690d1b14b155b40e944b9ec88c38564fe6acebfebd5f67d550988dfb7", func := "buchholz/buchholzlaw09.DischargeClusters", spec := "dischargeClusters", unfollowed := true, recurses := true, plainKeys := false, apart := false, narrowed := true }
def DischargeClustersUptoSaid : Prop := dischargeClustersUptoRow.holds Tryz.pinned (OpenSpec.upto dischargeClustersSpec)

/-- 'buchholzlaw09.DischargeCalibrated', WHERE WHAT IT READS IS OF BULK AT MOST 1048576: true; the input reads as it did. -/
def dischargeCalibratedUptoRow : OpenClaim := { program := "ythkekjgdknnaiaagreat", sum := "0c88eec690d1b14b155b40e944b9ec88c38564fe6acebfebd5f67d550988dfb7", func := "buchholz/buchholzlaw09.DischargeCalibrated", spec := "dischargeCalibrated", unfollowed := true, recurses := true, plainKeys := false, apart := false, narrowed := true }
def DischargeCalibratedUptoSaid : Prop := dischargeCalibratedUptoRow.holds Tryz.pinned (OpenSpec.upto dischargeCalibratedSpec)

/-- 'buchholztop.TopDischargeMoved', WHERE WHAT IT READS IS OF BULK AT MOST 1048576: true; the input reads as it did. -/
def topDischargeMovedUptoRow : OpenClaim := { program := "ythkekjgdknnaiaagreat", sum := "0c88eec690d1b14b155b40e944b9ec88c38564fe6acebfebd5f67d550988dfb7", func := "buchholz/buchholztop.TopDischargeMoved", spec := "topDischargeMoved", unfollowed := true, recurses := true, plainKeys := false, apart := false, narrowed := true }
def TopDischargeMovedUptoSaid : Prop := topDischargeMovedUptoRow.holds Tryz.pinned (OpenSpec.upto topDischargeMovedSpec)

end Rows
end Go.Proofs.YthkekjgdknnaiaaGreat
