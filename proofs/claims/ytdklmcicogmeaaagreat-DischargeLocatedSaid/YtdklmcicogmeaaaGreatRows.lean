/-
  No cell of these rows narrows 'for every input' (looked for: loops, veiled, ifaces, maps, wideKeys, modest, calm, conditions, laid).
  DERIVED. THE GIVEN ROWS OF THIS SEAT. 4 by the template 'for every input the law returns true; each argument reads behind the call as it read before'; 0 by the template 'total and deterministic' (their statements: YtdklmcicogmeaaaGreatTotals.lean).
  GIVEN WITH THE SEED: the statements are not yours to turn. If you find one false, say at which input.
  Laid BY PROGRAM, IN A SANDBOX (cutbox-rows.mjs): the forced cells as the released guide's own fill.sh prints them over the translation 96978876e01d093c… (all of the seat's roots in one cut). By AI agents, Wed Nov 11 2026. No macro, syntax, notation, axiom, sorry.
-/
import Derived.Test.YtdklmcicogmeaaaGreatChecked
import GoSem.Claim
import GoSem.ClaimJoined
import GoSem.ClaimMapViews
import Derived.JoinedTies
import Derived.KernelRfl
namespace Go.Proofs.YtdklmcicogmeaaaGreat
/- THE CELL 'sum', in the pinned program and in every row, IS THE sha256 OF THE DUMP (.gsa) THAT YtdklmcicogmeaaaGreatProg.lean LOADS. Nothing in Lean hashes anything: it is a label: what it is worth is what the hold of that sum in a sandbox is worth. -/
noncomputable def Tryz.pinned : Pinned := { name := "ytdklmcicogmeaaagreat", sum := "96978876e01d093ca7cfc0c967c6b04165a0d75e4a0cb6ac9311e430b5eac7ac", checked := Tryz.checked }
namespace Rows
def none {H : Type} : Left H := { results := [], args := [] }

/-- 'buchholzlaw09.DischargeLocated': WHATEVER THE INPUT: true; the input reads as it did. -/
def dischargeLocatedSpec : ChangeSpec := { name := "dischargeLocated", fn := fun _ => fun
  | [d1, d2, d3] => { results := [.lit (.bool true)], args := [d1, d2, d3] }
  | _ => none }
def dischargeLocatedRow : OpenClaim := { program := "ytdklmcicogmeaaagreat", sum := "96978876e01d093ca7cfc0c967c6b04165a0d75e4a0cb6ac9311e430b5eac7ac", func := "buchholz/buchholzlaw09.DischargeLocated", spec := "dischargeLocated", unfollowed := true, recurses := true, plainKeys := false, apart := false }
def DischargeLocatedSaid : Prop := dischargeLocatedRow.holds Tryz.pinned (OpenSpec.ofChange dischargeLocatedSpec)

/-- ITS FALSE NEIGHBOUR: 'it returns false'. Refute it at one input. -/
def dischargeLocatedWrong : ChangeSpec := { name := "dischargeLocated", fn := fun _ => fun
  | [d1, d2, d3] => { results := [.lit (.bool false)], args := [d1, d2, d3] }
  | _ => none }
def DischargeLocatedWrongFalsely : Prop := dischargeLocatedRow.holds Tryz.pinned (OpenSpec.ofChange dischargeLocatedWrong)

/-- 'buchholzlaw09.DischargeClusters': WHATEVER THE INPUT: true; the input reads as it did. -/
def dischargeClustersSpec : ChangeSpec := { name := "dischargeClusters", fn := fun _ => fun
  | [d] => { results := [.lit (.bool true)], args := [d] }
  | _ => none }
def dischargeClustersRow : OpenClaim := { program := "ytdklmcicogmeaaagreat", sum := "96978876e01d093ca7cfc0c967c6b04165a0d75e4a0cb6ac9311e430b5eac7ac", func := "buchholz/buchholzlaw09.DischargeClusters", spec := "dischargeClusters", unfollowed := true, recurses := true, plainKeys := false, apart := false }
def DischargeClustersSaid : Prop := dischargeClustersRow.holds Tryz.pinned (OpenSpec.ofChange dischargeClustersSpec)

/-- ITS FALSE NEIGHBOUR: 'it returns false'. Refute it at one input. -/
def dischargeClustersWrong : ChangeSpec := { name := "dischargeClusters", fn := fun _ => fun
  | [d] => { results := [.lit (.bool false)], args := [d] }
  | _ => none }
def DischargeClustersWrongFalsely : Prop := dischargeClustersRow.holds Tryz.pinned (OpenSpec.ofChange dischargeClustersWrong)

/-- 'buchholzlaw09.DischargeCalibrated': WHATEVER THE INPUT: true; the input reads as it did. -/
def dischargeCalibratedSpec : ChangeSpec := { name := "dischargeCalibrated", fn := fun _ => fun
  | [d1, d2, d3] => { results := [.lit (.bool true)], args := [d1, d2, d3] }
  | _ => none }
def dischargeCalibratedRow : OpenClaim := { program := "ytdklmcicogmeaaagreat", sum := "96978876e01d093ca7cfc0c967c6b04165a0d75e4a0cb6ac9311e430b5eac7ac", func := "buchholz/buchholzlaw09.DischargeCalibrated", spec := "dischargeCalibrated", unfollowed := true, recurses := true, plainKeys := false, apart := false }
def DischargeCalibratedSaid : Prop := dischargeCalibratedRow.holds Tryz.pinned (OpenSpec.ofChange dischargeCalibratedSpec)

/-- ITS FALSE NEIGHBOUR: 'it returns false'. Refute it at one input. -/
def dischargeCalibratedWrong : ChangeSpec := { name := "dischargeCalibrated", fn := fun _ => fun
  | [d1, d2, d3] => { results := [.lit (.bool false)], args := [d1, d2, d3] }
  | _ => none }
def DischargeCalibratedWrongFalsely : Prop := dischargeCalibratedRow.holds Tryz.pinned (OpenSpec.ofChange dischargeCalibratedWrong)

/-- 'buchholztop.TopDischargeMoved': WHATEVER THE INPUT: true; the input reads as it did. -/
def topDischargeMovedSpec : ChangeSpec := { name := "topDischargeMoved", fn := fun _ => fun
  | [d1, d2, d3] => { results := [.lit (.bool true)], args := [d1, d2, d3] }
  | _ => none }
def topDischargeMovedRow : OpenClaim := { program := "ytdklmcicogmeaaagreat", sum := "96978876e01d093ca7cfc0c967c6b04165a0d75e4a0cb6ac9311e430b5eac7ac", func := "buchholz/buchholztop.TopDischargeMoved", spec := "topDischargeMoved", unfollowed := true, recurses := true, plainKeys := false, apart := false }
def TopDischargeMovedSaid : Prop := topDischargeMovedRow.holds Tryz.pinned (OpenSpec.ofChange topDischargeMovedSpec)

/-- ITS FALSE NEIGHBOUR: 'it returns false'. Refute it at one input. -/
def topDischargeMovedWrong : ChangeSpec := { name := "topDischargeMoved", fn := fun _ => fun
  | [d1, d2, d3] => { results := [.lit (.bool false)], args := [d1, d2, d3] }
  | _ => none }
def TopDischargeMovedWrongFalsely : Prop := topDischargeMovedRow.holds Tryz.pinned (OpenSpec.ofChange topDischargeMovedWrong)

/- THE SECOND FORM. 'bulk': how many values and letters a reading holds, each counted each time it is reached (what is shared counts as often as it is met; a slice's spare places count too). A statement '..UptoSaid' is the law's where the arguments, and the package variables that the reading takes, are together of bulk at most 1048576: NARROWER than '..Said'. Prove '..Said' where nothing that the law and all that it calls make is longer than what came in: it says more and counts as full. Else prove '..UptoSaid'. A law counts once. -/
mutual
def uptoBulk {H : Type} : DataW H → Nat
  | .lit (.string bytes) => bytes.length + 1
  | .lit _ => 1
  | .nil => 1
  | .ptr d => uptoBulk d + 1
  | .slice elems spare => uptoBulkAll elems + uptoBulkAll spare + 1
  | .agg parts => uptoBulkAll parts + 1
  | .iface _ d => uptoBulk d + 1
  | .map entries => uptoBulkEntries entries + 1
  | .held _ => 1
def uptoBulkAll {H : Type} : List (DataW H) → Nat
  | [] => 0
  | d :: r => uptoBulk d + uptoBulkAll r
def uptoBulkEntries {H : Type} : List (Lit × DataW H) → Nat
  | [] => 0
  | x :: r => uptoBulkEntry x + uptoBulkEntries r
def uptoBulkEntry {H : Type} : Lit × DataW H → Nat
  | (.string bytes, d) => bytes.length + uptoBulk d + 1
  | (_, d) => uptoBulk d + 1
 end
def uptoSmall : (H : Type) → List (DataW H) → Bool := fun _ ds => decide (uptoBulkAll ds ≤ 1048576)
def OpenSpec.upto (s : _root_.Go.ChangeSpec) : _root_.Go.OpenSpec := { _root_.Go.OpenSpec.ofChange s with cond := some uptoSmall }

/-- 'buchholzlaw09.DischargeLocated', WHERE WHAT IT READS IS OF BULK AT MOST 1048576: true; the input reads as it did. -/
def dischargeLocatedUptoRow : OpenClaim := { program := "ytdklmcicogmeaaagreat", sum := "96978876e01d093ca7cfc0c967c6b04165a0d75e4a0cb6ac9311e430b5eac7ac", func := "buchholz/buchholzlaw09.DischargeLocated", spec := "dischargeLocated", unfollowed := true, recurses := true, plainKeys := false, apart := false, narrowed := true }
def DischargeLocatedUptoSaid : Prop := dischargeLocatedUptoRow.holds Tryz.pinned (OpenSpec.upto dischargeLocatedSpec)

/-- 'buchholzlaw09.DischargeClusters', WHERE WHAT IT READS IS OF BULK AT MOST 1048576: true; the input reads as it did. -/
def dischargeClustersUptoRow : OpenClaim := { program := "ytdklmcicogmeaaagreat", sum := "96978876e01d093ca7cfc0c967c6b04165a0d75e4a0cb6ac9311e430b5eac7ac", func := "buchholz/buchholzlaw09.DischargeClusters", spec := "dischargeClusters", unfollowed := true, recurses := true, plainKeys := false, apart := false, narrowed := true }
def DischargeClustersUptoSaid : Prop := dischargeClustersUptoRow.holds Tryz.pinned (OpenSpec.upto dischargeClustersSpec)

/-- 'buchholzlaw09.DischargeCalibrated', WHERE WHAT IT READS IS OF BULK AT MOST 1048576: true; the input reads as it did. -/
def dischargeCalibratedUptoRow : OpenClaim := { program := "ytdklmcicogmeaaagreat", sum := "96978876e01d093ca7cfc0c967c6b04165a0d75e4a0cb6ac9311e430b5eac7ac", func := "buchholz/buchholzlaw09.DischargeCalibrated", spec := "dischargeCalibrated", unfollowed := true, recurses := true, plainKeys := false, apart := false, narrowed := true }
def DischargeCalibratedUptoSaid : Prop := dischargeCalibratedUptoRow.holds Tryz.pinned (OpenSpec.upto dischargeCalibratedSpec)

/-- 'buchholztop.TopDischargeMoved', WHERE WHAT IT READS IS OF BULK AT MOST 1048576: true; the input reads as it did. -/
def topDischargeMovedUptoRow : OpenClaim := { program := "ytdklmcicogmeaaagreat", sum := "96978876e01d093ca7cfc0c967c6b04165a0d75e4a0cb6ac9311e430b5eac7ac", func := "buchholz/buchholztop.TopDischargeMoved", spec := "topDischargeMoved", unfollowed := true, recurses := true, plainKeys := false, apart := false, narrowed := true }
def TopDischargeMovedUptoSaid : Prop := topDischargeMovedUptoRow.holds Tryz.pinned (OpenSpec.upto topDischargeMovedSpec)

end Rows
end Go.Proofs.YtdklmcicogmeaaaGreat
