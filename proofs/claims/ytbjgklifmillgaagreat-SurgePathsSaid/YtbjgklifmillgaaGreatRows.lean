/-
  No cell of these rows narrows 'for every input' (looked for: loops, veiled, ifaces, maps, wideKeys, modest, calm, conditions, laid).
  DERIVED. THE GIVEN ROWS OF THIS SEAT. 3 by the template 'for every input the law returns true; each argument reads behind the call as it read before'; 0 by the template 'total and deterministic' (their statements: YtbjgklifmillgaaGreatTotals.lean).
  GIVEN WITH THE SEED: the statements are not yours to turn. If you find one false, say at which input.
  Laid BY PROGRAM, IN A SANDBOX (cutbox-rows.mjs): the forced cells as the released guide's own fill.sh prints them over the translation ad3c04e9e185c42a… (all of the seat's roots in one cut). By AI agents, Wed Nov 11 2026. No macro, syntax, notation, axiom, sorry.
-/
import Derived.Test.YtbjgklifmillgaaGreatChecked
import GoSem.Claim
import GoSem.ClaimJoined
import GoSem.ClaimMapViews
import Derived.JoinedTies
import Derived.KernelRfl
namespace Go.Proofs.YtbjgklifmillgaaGreat
/- THE CELL 'sum', in the pinned program and in every row, IS THE sha256 OF THE DUMP (.gsa) THAT YtbjgklifmillgaaGreatProg.lean LOADS. Nothing in Lean hashes anything: it is a label: what it is worth is what the hold of that sum in a sandbox is worth. -/
noncomputable def Tryz.pinned : Pinned := { name := "ytbjgklifmillgaagreat", sum := "ad3c04e9e185c42a3d366aff79aa763e3c23e6d53ef13bb0cb4a23e6649efd8f", checked := Tryz.checked }
namespace Rows
def none {H : Type} : Left H := { results := [], args := [] }

/-- 'buchholzlaw04.SurgeWorst': WHATEVER THE INPUT: true; the input reads as it did. -/
def surgeWorstSpec : ChangeSpec := { name := "surgeWorst", fn := fun _ => fun
  | [d] => { results := [.lit (.bool true)], args := [d] }
  | _ => none }
def surgeWorstRow : OpenClaim := { program := "ytbjgklifmillgaagreat", sum := "ad3c04e9e185c42a3d366aff79aa763e3c23e6d53ef13bb0cb4a23e6649efd8f", func := "buchholz/buchholzlaw04.SurgeWorst", spec := "surgeWorst", unfollowed := true, recurses := true, apart := false }
def SurgeWorstSaid : Prop := surgeWorstRow.holds Tryz.pinned (OpenSpec.ofChange surgeWorstSpec)

/-- ITS FALSE NEIGHBOUR: 'it returns false'. Refute it at one input. -/
def surgeWorstWrong : ChangeSpec := { name := "surgeWorst", fn := fun _ => fun
  | [d] => { results := [.lit (.bool false)], args := [d] }
  | _ => none }
def SurgeWorstWrongFalsely : Prop := surgeWorstRow.holds Tryz.pinned (OpenSpec.ofChange surgeWorstWrong)

/-- 'buchholzlaw04.SurgeProved': WHATEVER THE INPUT: true; the input reads as it did. -/
def surgeProvedSpec : ChangeSpec := { name := "surgeProved", fn := fun _ => fun
  | [d1, d2] => { results := [.lit (.bool true)], args := [d1, d2] }
  | _ => none }
def surgeProvedRow : OpenClaim := { program := "ytbjgklifmillgaagreat", sum := "ad3c04e9e185c42a3d366aff79aa763e3c23e6d53ef13bb0cb4a23e6649efd8f", func := "buchholz/buchholzlaw04.SurgeProved", spec := "surgeProved", unfollowed := true, recurses := true, named := ["math/bits.divideError", "math/bits.overflowError"], apart := false }
def SurgeProvedSaid : Prop := surgeProvedRow.holds Tryz.pinned (OpenSpec.ofChange surgeProvedSpec)

/-- ITS FALSE NEIGHBOUR: 'it returns false'. Refute it at one input. -/
def surgeProvedWrong : ChangeSpec := { name := "surgeProved", fn := fun _ => fun
  | [d1, d2] => { results := [.lit (.bool false)], args := [d1, d2] }
  | _ => none }
def SurgeProvedWrongFalsely : Prop := surgeProvedRow.holds Tryz.pinned (OpenSpec.ofChange surgeProvedWrong)

/-- 'buchholzlaw04.SurgePaths': WHATEVER THE INPUT: true; the input reads as it did. -/
def surgePathsSpec : ChangeSpec := { name := "surgePaths", fn := fun _ => fun
  | [d1, d2, d3] => { results := [.lit (.bool true)], args := [d1, d2, d3] }
  | _ => none }
def surgePathsRow : OpenClaim := { program := "ytbjgklifmillgaagreat", sum := "ad3c04e9e185c42a3d366aff79aa763e3c23e6d53ef13bb0cb4a23e6649efd8f", func := "buchholz/buchholzlaw04.SurgePaths", spec := "surgePaths", unfollowed := true, recurses := true, apart := false }
def SurgePathsSaid : Prop := surgePathsRow.holds Tryz.pinned (OpenSpec.ofChange surgePathsSpec)

/-- ITS FALSE NEIGHBOUR: 'it returns false'. Refute it at one input. -/
def surgePathsWrong : ChangeSpec := { name := "surgePaths", fn := fun _ => fun
  | [d1, d2, d3] => { results := [.lit (.bool false)], args := [d1, d2, d3] }
  | _ => none }
def SurgePathsWrongFalsely : Prop := surgePathsRow.holds Tryz.pinned (OpenSpec.ofChange surgePathsWrong)

/- THE SECOND FORM. 'bulk': how many values and letters a reading holds, each counted each time it is reached (what is shared counts as often as it is met; a slice's spare places count too). A statement '..UptoSaid' is the law's where the arguments, and the package variables that the reading takes, are together of bulk at most 1048576: NARROWER than '..Said'. Prove '..Said' where nothing that the law and all that it calls make is longer than what came in: it says more and counts as full. Else prove '..UptoSaid'. A law counts once. -/
mutual
def uptoBulk {H : Type} : DataW H → Nat
  | .lit (.string bytes) => bytes.length + 1
  | .lit _ => 1
  | .nil => 1
  | .ptr d => uptoBulk d + 1
  | .slice elems spare => uptoBulkAll elems + uptoBulkAll spare + 1
  | .agg parts => uptoBulkAll parts + 1
  | .iface _ d => uptoBulk d + 1
  | .map entries => uptoBulkEntries entries + 1
  | .held _ => 1
def uptoBulkAll {H : Type} : List (DataW H) → Nat
  | [] => 0
  | d :: r => uptoBulk d + uptoBulkAll r
def uptoBulkEntries {H : Type} : List (Lit × DataW H) → Nat
  | [] => 0
  | x :: r => uptoBulkEntry x + uptoBulkEntries r
def uptoBulkEntry {H : Type} : Lit × DataW H → Nat
  | (.string bytes, d) => bytes.length + uptoBulk d + 1
  | (_, d) => uptoBulk d + 1
 end
def uptoSmall : (H : Type) → List (DataW H) → Bool := fun _ ds => decide (uptoBulkAll ds ≤ 1048576)
def OpenSpec.upto (s : _root_.Go.ChangeSpec) : _root_.Go.OpenSpec := { _root_.Go.OpenSpec.ofChange s with cond := some uptoSmall }

/-- 'buchholzlaw04.SurgeWorst', WHERE WHAT IT READS IS OF BULK AT MOST 1048576: true; the input reads as it did. -/
def surgeWorstUptoRow : OpenClaim := { program := "ytbjgklifmillgaagreat", sum := "ad3c04e9e185c42a3d366aff79aa763e3c23e6d53ef13bb0cb4a23e6649efd8f", func := "buchholz/buchholzlaw04.SurgeWorst", spec := "surgeWorst", unfollowed := true, recurses := true, apart := false, narrowed := true }
def SurgeWorstUptoSaid : Prop := surgeWorstUptoRow.holds Tryz.pinned (OpenSpec.upto surgeWorstSpec)

/-- 'buchholzlaw04.SurgeProved', WHERE WHAT IT READS IS OF BULK AT MOST 1048576: true; the input reads as it did. -/
def surgeProvedUptoRow : OpenClaim := { program := "ytbjgklifmillgaagreat", sum := "ad3c04e9e185c42a3d366aff79aa763e3c23e6d53ef13bb0cb4a23e6649efd8f", func := "buchholz/buchholzlaw04.SurgeProved", spec := "surgeProved", unfollowed := true, recurses := true, named := ["math/bits.divideError", "math/bits.overflowError"], apart := false, narrowed := true }
def SurgeProvedUptoSaid : Prop := surgeProvedUptoRow.holds Tryz.pinned (OpenSpec.upto surgeProvedSpec)

/-- 'buchholzlaw04.SurgePaths', WHERE WHAT IT READS IS OF BULK AT MOST 1048576: true; the input reads as it did. -/
def surgePathsUptoRow : OpenClaim := { program := "ytbjgklifmillgaagreat", sum := "ad3c04e9e185c42a3d366aff79aa763e3c23e6d53ef13bb0cb4a23e6649efd8f", func := "buchholz/buchholzlaw04.SurgePaths", spec := "surgePaths", unfollowed := true, recurses := true, apart := false, narrowed := true }
def SurgePathsUptoSaid : Prop := surgePathsUptoRow.holds Tryz.pinned (OpenSpec.upto surgePathsSpec)

end Rows
end Go.Proofs.YtbjgklifmillgaaGreat
