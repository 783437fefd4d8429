/-
  No cell of these rows narrows 'for every input' (looked for: loops, veiled, ifaces, maps, wideKeys, modest, calm, conditions, laid).
  DERIVED. THE GIVEN ROWS OF THIS SEAT. 10 by the template 'for every input the law returns true; each argument reads behind the call as it read before'; 0 by the template 'total and deterministic' (their statements: YtiellefbndlkkaaTotals.lean).
  GIVEN WITH THE SEED: the statements are not yours to turn. If you find one false, say at which input.
  Laid BY PROGRAM, IN A SANDBOX (cutbox-rows.mjs): the forced cells as the released guide's own fill.sh prints them over the translation 6ada6138a105a090… (all of the seat's roots in one cut). By AI agents, Wed Nov 11 2026. No macro, syntax, notation, axiom, sorry.
-/
import Derived.Test.YtiellefbndlkkaaChecked
import GoSem.Claim
import GoSem.ClaimJoined
import GoSem.ClaimMapViews
import Derived.JoinedTies
import Derived.KernelRfl
namespace Go.Proofs.Ytiellefbndlkkaa
/- THE CELL 'sum', in the pinned program and in every row, IS THE sha256 OF THE DUMP (.gsa) THAT YtiellefbndlkkaaProg.lean LOADS. Nothing in Lean hashes anything: it is a label: what it is worth is what the hold of that sum in a sandbox is worth. -/
noncomputable def Try.pinned : Pinned := { name := "ytiellefbndlkkaa", sum := "6ada6138a105a0903897a085420c20097c9409311028ce9a35557efb2a2a1d7c", checked := Try.checked }
namespace Rows
def none {H : Type} : Left H := { results := [], args := [] }

/-- 'buchholzlaw04.SurgeEnergy': WHATEVER THE INPUT: true; the input reads as it did. -/
def surgeEnergySpec : ChangeSpec := { name := "surgeEnergy", fn := fun _ => fun
  | [d1, d2, d3] => { results := [.lit (.bool true)], args := [d1, d2, d3] }
  | _ => none }
def surgeEnergyRow : OpenClaim := { program := "ytiellefbndlkkaa", sum := "6ada6138a105a0903897a085420c20097c9409311028ce9a35557efb2a2a1d7c", func := "buchholz/buchholzlaw04.SurgeEnergy", spec := "surgeEnergy", unfollowed := true, recurses := true, apart := false }
def SurgeEnergySaid : Prop := surgeEnergyRow.holds Try.pinned (OpenSpec.ofChange surgeEnergySpec)

/-- ITS FALSE NEIGHBOUR: 'it returns false'. Refute it at one input. -/
def surgeEnergyWrong : ChangeSpec := { name := "surgeEnergy", fn := fun _ => fun
  | [d1, d2, d3] => { results := [.lit (.bool false)], args := [d1, d2, d3] }
  | _ => none }
def SurgeEnergyWrongFalsely : Prop := surgeEnergyRow.holds Try.pinned (OpenSpec.ofChange surgeEnergyWrong)

/-- 'buchholzlaw04.SurgeSpans': WHATEVER THE INPUT: true; the input reads as it did. -/
def surgeSpansSpec : ChangeSpec := { name := "surgeSpans", fn := fun _ => fun
  | [d1, d2, d3] => { results := [.lit (.bool true)], args := [d1, d2, d3] }
  | _ => none }
def surgeSpansRow : OpenClaim := { program := "ytiellefbndlkkaa", sum := "6ada6138a105a0903897a085420c20097c9409311028ce9a35557efb2a2a1d7c", func := "buchholz/buchholzlaw04.SurgeSpans", spec := "surgeSpans", unfollowed := true, recurses := true, apart := false }
def SurgeSpansSaid : Prop := surgeSpansRow.holds Try.pinned (OpenSpec.ofChange surgeSpansSpec)

/-- ITS FALSE NEIGHBOUR: 'it returns false'. Refute it at one input. -/
def surgeSpansWrong : ChangeSpec := { name := "surgeSpans", fn := fun _ => fun
  | [d1, d2, d3] => { results := [.lit (.bool false)], args := [d1, d2, d3] }
  | _ => none }
def SurgeSpansWrongFalsely : Prop := surgeSpansRow.holds Try.pinned (OpenSpec.ofChange surgeSpansWrong)

/-- 'buchholzlaw04.SurgeEnclosed': WHATEVER THE INPUT: true; the input reads as it did. -/
def surgeEnclosedSpec : ChangeSpec := { name := "surgeEnclosed", fn := fun _ => fun
  | [d1, d2] => { results := [.lit (.bool true)], args := [d1, d2] }
  | _ => none }
def surgeEnclosedRow : OpenClaim := { program := "ytiellefbndlkkaa", sum := "6ada6138a105a0903897a085420c20097c9409311028ce9a35557efb2a2a1d7c", func := "buchholz/buchholzlaw04.SurgeEnclosed", spec := "surgeEnclosed", unfollowed := true, recurses := true, apart := false }
def SurgeEnclosedSaid : Prop := surgeEnclosedRow.holds Try.pinned (OpenSpec.ofChange surgeEnclosedSpec)

/-- ITS FALSE NEIGHBOUR: 'it returns false'. Refute it at one input. -/
def surgeEnclosedWrong : ChangeSpec := { name := "surgeEnclosed", fn := fun _ => fun
  | [d1, d2] => { results := [.lit (.bool false)], args := [d1, d2] }
  | _ => none }
def SurgeEnclosedWrongFalsely : Prop := surgeEnclosedRow.holds Try.pinned (OpenSpec.ofChange surgeEnclosedWrong)

/-- 'buchholzlaw04.SurgeSteps': WHATEVER THE INPUT: true; the input reads as it did. -/
def surgeStepsSpec : ChangeSpec := { name := "surgeSteps", fn := fun _ => fun
  | [d1, d2, d3] => { results := [.lit (.bool true)], args := [d1, d2, d3] }
  | _ => none }
def surgeStepsRow : OpenClaim := { program := "ytiellefbndlkkaa", sum := "6ada6138a105a0903897a085420c20097c9409311028ce9a35557efb2a2a1d7c", func := "buchholz/buchholzlaw04.SurgeSteps", spec := "surgeSteps", unfollowed := true, recurses := true, apart := false }
def SurgeStepsSaid : Prop := surgeStepsRow.holds Try.pinned (OpenSpec.ofChange surgeStepsSpec)

/-- ITS FALSE NEIGHBOUR: 'it returns false'. Refute it at one input. -/
def surgeStepsWrong : ChangeSpec := { name := "surgeSteps", fn := fun _ => fun
  | [d1, d2, d3] => { results := [.lit (.bool false)], args := [d1, d2, d3] }
  | _ => none }
def SurgeStepsWrongFalsely : Prop := surgeStepsRow.holds Try.pinned (OpenSpec.ofChange surgeStepsWrong)

/-- 'buchholzlaw04.SurgeImpulses': WHATEVER THE INPUT: true; the input reads as it did. -/
def surgeImpulsesSpec : ChangeSpec := { name := "surgeImpulses", fn := fun _ => fun
  | [d1, d2] => { results := [.lit (.bool true)], args := [d1, d2] }
  | _ => none }
def surgeImpulsesRow : OpenClaim := { program := "ytiellefbndlkkaa", sum := "6ada6138a105a0903897a085420c20097c9409311028ce9a35557efb2a2a1d7c", func := "buchholz/buchholzlaw04.SurgeImpulses", spec := "surgeImpulses", unfollowed := true, recurses := true, apart := false }
def SurgeImpulsesSaid : Prop := surgeImpulsesRow.holds Try.pinned (OpenSpec.ofChange surgeImpulsesSpec)

/-- ITS FALSE NEIGHBOUR: 'it returns false'. Refute it at one input. -/
def surgeImpulsesWrong : ChangeSpec := { name := "surgeImpulses", fn := fun _ => fun
  | [d1, d2] => { results := [.lit (.bool false)], args := [d1, d2] }
  | _ => none }
def SurgeImpulsesWrongFalsely : Prop := surgeImpulsesRow.holds Try.pinned (OpenSpec.ofChange surgeImpulsesWrong)

/-- 'buchholzlaw04.SurgePeaks': WHATEVER THE INPUT: true; the input reads as it did. -/
def surgePeaksSpec : ChangeSpec := { name := "surgePeaks", fn := fun _ => fun
  | [d1, d2] => { results := [.lit (.bool true)], args := [d1, d2] }
  | _ => none }
def surgePeaksRow : OpenClaim := { program := "ytiellefbndlkkaa", sum := "6ada6138a105a0903897a085420c20097c9409311028ce9a35557efb2a2a1d7c", func := "buchholz/buchholzlaw04.SurgePeaks", spec := "surgePeaks", unfollowed := true, recurses := true, apart := false }
def SurgePeaksSaid : Prop := surgePeaksRow.holds Try.pinned (OpenSpec.ofChange surgePeaksSpec)

/-- ITS FALSE NEIGHBOUR: 'it returns false'. Refute it at one input. -/
def surgePeaksWrong : ChangeSpec := { name := "surgePeaks", fn := fun _ => fun
  | [d1, d2] => { results := [.lit (.bool false)], args := [d1, d2] }
  | _ => none }
def SurgePeaksWrongFalsely : Prop := surgePeaksRow.holds Try.pinned (OpenSpec.ofChange surgePeaksWrong)

/-- 'buchholzlaw04.SurgeInitial': WHATEVER THE INPUT: true; the input reads as it did. -/
def surgeInitialSpec : ChangeSpec := { name := "surgeInitial", fn := fun _ => fun
  | [d] => { results := [.lit (.bool true)], args := [d] }
  | _ => none }
def surgeInitialRow : OpenClaim := { program := "ytiellefbndlkkaa", sum := "6ada6138a105a0903897a085420c20097c9409311028ce9a35557efb2a2a1d7c", func := "buchholz/buchholzlaw04.SurgeInitial", spec := "surgeInitial", unfollowed := true, recurses := true, apart := false }
def SurgeInitialSaid : Prop := surgeInitialRow.holds Try.pinned (OpenSpec.ofChange surgeInitialSpec)

/-- ITS FALSE NEIGHBOUR: 'it returns false'. Refute it at one input. -/
def surgeInitialWrong : ChangeSpec := { name := "surgeInitial", fn := fun _ => fun
  | [d] => { results := [.lit (.bool false)], args := [d] }
  | _ => none }
def SurgeInitialWrongFalsely : Prop := surgeInitialRow.holds Try.pinned (OpenSpec.ofChange surgeInitialWrong)

/-- 'buchholzlaw04.SurgeChopped': WHATEVER THE INPUT: true; the input reads as it did. -/
def surgeChoppedSpec : ChangeSpec := { name := "surgeChopped", fn := fun _ => fun
  | [d1, d2, d3] => { results := [.lit (.bool true)], args := [d1, d2, d3] }
  | _ => none }
def surgeChoppedRow : OpenClaim := { program := "ytiellefbndlkkaa", sum := "6ada6138a105a0903897a085420c20097c9409311028ce9a35557efb2a2a1d7c", func := "buchholz/buchholzlaw04.SurgeChopped", spec := "surgeChopped", unfollowed := true, recurses := true, apart := false }
def SurgeChoppedSaid : Prop := surgeChoppedRow.holds Try.pinned (OpenSpec.ofChange surgeChoppedSpec)

/-- ITS FALSE NEIGHBOUR: 'it returns false'. Refute it at one input. -/
def surgeChoppedWrong : ChangeSpec := { name := "surgeChopped", fn := fun _ => fun
  | [d1, d2, d3] => { results := [.lit (.bool false)], args := [d1, d2, d3] }
  | _ => none }
def SurgeChoppedWrongFalsely : Prop := surgeChoppedRow.holds Try.pinned (OpenSpec.ofChange surgeChoppedWrong)

/-- 'buchholzlaw04.SurgeShapes': WHATEVER THE INPUT: true; the input reads as it did. -/
def surgeShapesSpec : ChangeSpec := { name := "surgeShapes", fn := fun _ => fun
  | [d1, d2, d3] => { results := [.lit (.bool true)], args := [d1, d2, d3] }
  | _ => none }
def surgeShapesRow : OpenClaim := { program := "ytiellefbndlkkaa", sum := "6ada6138a105a0903897a085420c20097c9409311028ce9a35557efb2a2a1d7c", func := "buchholz/buchholzlaw04.SurgeShapes", spec := "surgeShapes", unfollowed := true, recurses := true, apart := false }
def SurgeShapesSaid : Prop := surgeShapesRow.holds Try.pinned (OpenSpec.ofChange surgeShapesSpec)

/-- ITS FALSE NEIGHBOUR: 'it returns false'. Refute it at one input. -/
def surgeShapesWrong : ChangeSpec := { name := "surgeShapes", fn := fun _ => fun
  | [d1, d2, d3] => { results := [.lit (.bool false)], args := [d1, d2, d3] }
  | _ => none }
def SurgeShapesWrongFalsely : Prop := surgeShapesRow.holds Try.pinned (OpenSpec.ofChange surgeShapesWrong)

/-- 'buchholzlaw04.SurgeFalling': WHATEVER THE INPUT: true; the input reads as it did. -/
def surgeFallingSpec : ChangeSpec := { name := "surgeFalling", fn := fun _ => fun
  | [d1, d2, d3] => { results := [.lit (.bool true)], args := [d1, d2, d3] }
  | _ => none }
def surgeFallingRow : OpenClaim := { program := "ytiellefbndlkkaa", sum := "6ada6138a105a0903897a085420c20097c9409311028ce9a35557efb2a2a1d7c", func := "buchholz/buchholzlaw04.SurgeFalling", spec := "surgeFalling", unfollowed := true, recurses := true, named := ["math/bits.divideError", "math/bits.overflowError"], apart := false }
def SurgeFallingSaid : Prop := surgeFallingRow.holds Try.pinned (OpenSpec.ofChange surgeFallingSpec)

/-- ITS FALSE NEIGHBOUR: 'it returns false'. Refute it at one input. -/
def surgeFallingWrong : ChangeSpec := { name := "surgeFalling", fn := fun _ => fun
  | [d1, d2, d3] => { results := [.lit (.bool false)], args := [d1, d2, d3] }
  | _ => none }
def SurgeFallingWrongFalsely : Prop := surgeFallingRow.holds Try.pinned (OpenSpec.ofChange surgeFallingWrong)

/- THE SECOND FORM. 'bulk': how many values and letters a reading holds, each counted each time it is reached (what is shared counts as often as it is met; a slice's spare places count too). A statement '..UptoSaid' is the law's where the arguments, and the package variables that the reading takes, are together of bulk at most 1048576: NARROWER than '..Said'. Prove '..Said' where nothing that the law and all that it calls make is longer than what came in: it says more and counts as full. Else prove '..UptoSaid'. A law counts once. -/
mutual
def uptoBulk {H : Type} : DataW H → Nat
  | .lit (.string bytes) => bytes.length + 1
  | .lit _ => 1
  | .nil => 1
  | .ptr d => uptoBulk d + 1
  | .slice elems spare => uptoBulkAll elems + uptoBulkAll spare + 1
  | .agg parts => uptoBulkAll parts + 1
  | .iface _ d => uptoBulk d + 1
  | .map entries => uptoBulkEntries entries + 1
  | .held _ => 1
def uptoBulkAll {H : Type} : List (DataW H) → Nat
  | [] => 0
  | d :: r => uptoBulk d + uptoBulkAll r
def uptoBulkEntries {H : Type} : List (Lit × DataW H) → Nat
  | [] => 0
  | x :: r => uptoBulkEntry x + uptoBulkEntries r
def uptoBulkEntry {H : Type} : Lit × DataW H → Nat
  | (.string bytes, d) => bytes.length + uptoBulk d + 1
  | (_, d) => uptoBulk d + 1
 end
def uptoSmall : (H : Type) → List (DataW H) → Bool := fun _ ds => decide (uptoBulkAll ds ≤ 1048576)
def OpenSpec.upto (s : _root_.Go.ChangeSpec) : _root_.Go.OpenSpec := { _root_.Go.OpenSpec.ofChange s with cond := some uptoSmall }

/-- 'buchholzlaw04.SurgeEnergy', WHERE WHAT IT READS IS OF BULK AT MOST 1048576: true; the input reads as it did. -/
def surgeEnergyUptoRow : OpenClaim := { program := "ytiellefbndlkkaa", sum := "6ada6138a105a0903897a085420c20097c9409311028ce9a35557efb2a2a1d7c", func := "buchholz/buchholzlaw04.SurgeEnergy", spec := "surgeEnergy", unfollowed := true, recurses := true, apart := false, narrowed := true }
def SurgeEnergyUptoSaid : Prop := surgeEnergyUptoRow.holds Try.pinned (OpenSpec.upto surgeEnergySpec)

/-- 'buchholzlaw04.SurgeSpans', WHERE WHAT IT READS IS OF BULK AT MOST 1048576: true; the input reads as it did. -/
def surgeSpansUptoRow : OpenClaim := { program := "ytiellefbndlkkaa", sum := "6ada6138a105a0903897a085420c20097c9409311028ce9a35557efb2a2a1d7c", func := "buchholz/buchholzlaw04.SurgeSpans", spec := "surgeSpans", unfollowed := true, recurses := true, apart := false, narrowed := true }
def SurgeSpansUptoSaid : Prop := surgeSpansUptoRow.holds Try.pinned (OpenSpec.upto surgeSpansSpec)

/-- 'buchholzlaw04.SurgeEnclosed', WHERE WHAT IT READS IS OF BULK AT MOST 1048576: true; the input reads as it did. -/
def surgeEnclosedUptoRow : OpenClaim := { program := "ytiellefbndlkkaa", sum := "6ada6138a105a0903897a085420c20097c9409311028ce9a35557efb2a2a1d7c", func := "buchholz/buchholzlaw04.SurgeEnclosed", spec := "surgeEnclosed", unfollowed := true, recurses := true, apart := false, narrowed := true }
def SurgeEnclosedUptoSaid : Prop := surgeEnclosedUptoRow.holds Try.pinned (OpenSpec.upto surgeEnclosedSpec)

/-- 'buchholzlaw04.SurgeSteps', WHERE WHAT IT READS IS OF BULK AT MOST 1048576: true; the input reads as it did. -/
def surgeStepsUptoRow : OpenClaim := { program := "ytiellefbndlkkaa", sum := "6ada6138a105a0903897a085420c20097c9409311028ce9a35557efb2a2a1d7c", func := "buchholz/buchholzlaw04.SurgeSteps", spec := "surgeSteps", unfollowed := true, recurses := true, apart := false, narrowed := true }
def SurgeStepsUptoSaid : Prop := surgeStepsUptoRow.holds Try.pinned (OpenSpec.upto surgeStepsSpec)

/-- 'buchholzlaw04.SurgeImpulses', WHERE WHAT IT READS IS OF BULK AT MOST 1048576: true; the input reads as it did. -/
def surgeImpulsesUptoRow : OpenClaim := { program := "ytiellefbndlkkaa", sum := "6ada6138a105a0903897a085420c20097c9409311028ce9a35557efb2a2a1d7c", func := "buchholz/buchholzlaw04.SurgeImpulses", spec := "surgeImpulses", unfollowed := true, recurses := true, apart := false, narrowed := true }
def SurgeImpulsesUptoSaid : Prop := surgeImpulsesUptoRow.holds Try.pinned (OpenSpec.upto surgeImpulsesSpec)

/-- 'buchholzlaw04.SurgePeaks', WHERE WHAT IT READS IS OF BULK AT MOST 1048576: true; the input reads as it did. -/
def surgePeaksUptoRow : OpenClaim := { program := "ytiellefbndlkkaa", sum := "6ada6138a105a0903897a085420c20097c9409311028ce9a35557efb2a2a1d7c", func := "buchholz/buchholzlaw04.SurgePeaks", spec := "surgePeaks", unfollowed := true, recurses := true, apart := false, narrowed := true }
def SurgePeaksUptoSaid : Prop := surgePeaksUptoRow.holds Try.pinned (OpenSpec.upto surgePeaksSpec)

/-- 'buchholzlaw04.SurgeInitial', WHERE WHAT IT READS IS OF BULK AT MOST 1048576: true; the input reads as it did. -/
def surgeInitialUptoRow : OpenClaim := { program := "ytiellefbndlkkaa", sum := "6ada6138a105a0903897a085420c20097c9409311028ce9a35557efb2a2a1d7c", func := "buchholz/buchholzlaw04.SurgeInitial", spec := "surgeInitial", unfollowed := true, recurses := true, apart := false, narrowed := true }
def SurgeInitialUptoSaid : Prop := surgeInitialUptoRow.holds Try.pinned (OpenSpec.upto surgeInitialSpec)

/-- 'buchholzlaw04.SurgeChopped', WHERE WHAT IT READS IS OF BULK AT MOST 1048576: true; the input reads as it did. -/
def surgeChoppedUptoRow : OpenClaim := { program := "ytiellefbndlkkaa", sum := "6ada6138a105a0903897a085420c20097c9409311028ce9a35557efb2a2a1d7c", func := "buchholz/buchholzlaw04.SurgeChopped", spec := "surgeChopped", unfollowed := true, recurses := true, apart := false, narrowed := true }
def SurgeChoppedUptoSaid : Prop := surgeChoppedUptoRow.holds Try.pinned (OpenSpec.upto surgeChoppedSpec)

/-- 'buchholzlaw04.SurgeShapes', WHERE WHAT IT READS IS OF BULK AT MOST 1048576: true; the input reads as it did. -/
def surgeShapesUptoRow : OpenClaim := { program := "ytiellefbndlkkaa", sum := "6ada6138a105a0903897a085420c20097c9409311028ce9a35557efb2a2a1d7c", func := "buchholz/buchholzlaw04.SurgeShapes", spec := "surgeShapes", unfollowed := true, recurses := true, apart := false, narrowed := true }
def SurgeShapesUptoSaid : Prop := surgeShapesUptoRow.holds Try.pinned (OpenSpec.upto surgeShapesSpec)

/-- 'buchholzlaw04.SurgeFalling', WHERE WHAT IT READS IS OF BULK AT MOST 1048576: true; the input reads as it did. -/
def surgeFallingUptoRow : OpenClaim := { program := "ytiellefbndlkkaa", sum := "6ada6138a105a0903897a085420c20097c9409311028ce9a35557efb2a2a1d7c", func := "buchholz/buchholzlaw04.SurgeFalling", spec := "surgeFalling", unfollowed := true, recurses := true, named := ["math/bits.divideError", "math/bits.overflowError"], apart := false, narrowed := true }
def SurgeFallingUptoSaid : Prop := surgeFallingUptoRow.holds Try.pinned (OpenSpec.upto surgeFallingSpec)

end Rows
end Go.Proofs.Ytiellefbndlkkaa
