/-
  No cell of these rows narrows 'for every input' (looked for: loops, veiled, ifaces, maps, wideKeys, modest, calm, conditions, laid).
  DERIVED. THE GIVEN ROWS OF THIS SEAT. 1 by the template 'for every input the law returns true; each argument reads behind the call as it read before'; 0 by the template 'total and deterministic' (their statements: YtkphbibonagkfaaTotals.lean).
  GIVEN WITH THE SEED: the statements are not yours to turn. If you find one false, say at which input.
  Laid BY PROGRAM, IN A SANDBOX (cutbox-rows.mjs): the forced cells as the released guide's own fill.sh prints them over the translation 42ab5f641ae7a4b9… (all of the seat's roots in one cut). By AI agents, Wed Nov 11 2026. No macro, syntax, notation, axiom, sorry.
-/
import Derived.Test.YtkphbibonagkfaaChecked
import GoSem.Claim
import GoSem.ClaimJoined
import GoSem.ClaimMapViews
import Derived.JoinedTies
import Derived.KernelRfl
namespace Go.Proofs.Ytkphbibonagkfaa
/- THE CELL 'sum', in the pinned program and in every row, IS THE sha256 OF THE DUMP (.gsa) THAT YtkphbibonagkfaaProg.lean LOADS. Nothing in Lean hashes anything: it is a label: what it is worth is what the hold of that sum in a sandbox is worth. -/
noncomputable def Try.pinned : Pinned := { name := "ytkphbibonagkfaa", sum := "42ab5f641ae7a4b9d0ef1a84145d665ed000cc8b3ebe14a06023e5e8b6a452a4", checked := Try.checked }
namespace Rows
def none {H : Type} : Left H := { results := [], args := [] }

/-- 'buchholzlaw09.DischargeCells': WHATEVER THE INPUT: true; the input reads as it did. -/
def dischargeCellsSpec : ChangeSpec := { name := "dischargeCells", fn := fun _ => fun
  | [d1, d2, d3] => { results := [.lit (.bool true)], args := [d1, d2, d3] }
  | _ => none }
def dischargeCellsRow : OpenClaim := { program := "ytkphbibonagkfaa", sum := "42ab5f641ae7a4b9d0ef1a84145d665ed000cc8b3ebe14a06023e5e8b6a452a4", func := "buchholz/buchholzlaw09.DischargeCells", spec := "dischargeCells", unfollowed := true, recurses := true, apart := false }
def DischargeCellsSaid : Prop := dischargeCellsRow.holds Try.pinned (OpenSpec.ofChange dischargeCellsSpec)

/-- ITS FALSE NEIGHBOUR: 'it returns false'. Refute it at one input. -/
def dischargeCellsWrong : ChangeSpec := { name := "dischargeCells", fn := fun _ => fun
  | [d1, d2, d3] => { results := [.lit (.bool false)], args := [d1, d2, d3] }
  | _ => none }
def DischargeCellsWrongFalsely : Prop := dischargeCellsRow.holds Try.pinned (OpenSpec.ofChange dischargeCellsWrong)

/- THE SECOND FORM. 'bulk': how many values and letters a reading holds, each counted each time it is reached (what is shared counts as often as it is met; a slice's spare places count too). A statement '..UptoSaid' is the law's where the arguments, and the package variables that the reading takes, are together of bulk at most 1048576: NARROWER than '..Said'. Prove '..Said' where nothing that the law and all that it calls make is longer than what came in: it says more and counts as full. Else prove '..UptoSaid'. A law counts once. -/
mutual
def uptoBulk {H : Type} : DataW H → Nat
  | .lit (.string bytes) => bytes.length + 1
  | .lit _ => 1
  | .nil => 1
  | .ptr d => uptoBulk d + 1
  | .slice elems spare => uptoBulkAll elems + uptoBulkAll spare + 1
  | .agg parts => uptoBulkAll parts + 1
  | .iface _ d => uptoBulk d + 1
  | .map entries => uptoBulkEntries entries + 1
  | .held _ => 1
def uptoBulkAll {H : Type} : List (DataW H) → Nat
  | [] => 0
  | d :: r => uptoBulk d + uptoBulkAll r
def uptoBulkEntries {H : Type} : List (Lit × DataW H) → Nat
  | [] => 0
  | x :: r => uptoBulkEntry x + uptoBulkEntries r
def uptoBulkEntry {H : Type} : Lit × DataW H → Nat
  | (.string bytes, d) => bytes.length + uptoBulk d + 1
  | (_, d) => uptoBulk d + 1
 end
def uptoSmall : (H : Type) → List (DataW H) → Bool := fun _ ds => decide (uptoBulkAll ds ≤ 1048576)
def OpenSpec.upto (s : _root_.Go.ChangeSpec) : _root_.Go.OpenSpec := { _root_.Go.OpenSpec.ofChange s with cond := some uptoSmall }

/-- 'buchholzlaw09.DischargeCells', WHERE WHAT IT READS IS OF BULK AT MOST 1048576: true; the input reads as it did. -/
def dischargeCellsUptoRow : OpenClaim := { program := "ytkphbibonagkfaa", sum := "42ab5f641ae7a4b9d0ef1a84145d665ed000cc8b3ebe14a06023e5e8b6a452a4", func := "buchholz/buchholzlaw09.DischargeCells", spec := "dischargeCells", unfollowed := true, recurses := true, apart := false, narrowed := true }
def DischargeCellsUptoSaid : Prop := dischargeCellsUptoRow.holds Try.pinned (OpenSpec.upto dischargeCellsSpec)

end Rows
end Go.Proofs.Ytkphbibonagkfaa
