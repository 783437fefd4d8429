/-
  No cell of these rows narrows 'for every input' (looked for: loops, veiled, ifaces, maps, wideKeys, modest, calm, conditions, laid).
  DERIVED. THE GIVEN ROWS OF THIS SEAT. 3 by the template 'for every input the law returns true; each argument reads behind the call as it read before'; 0 by the template 'total and deterministic' (their statements: YtdjinmieogpgcaaGreatTotals.lean).
  GIVEN WITH THE SEED: the statements are not yours to turn. If you find one false, say at which input.
  Laid BY PROGRAM, IN A SANDBOX (cutbox-rows.mjs): the forced cells as the released guide's own fill.sh prints them over the translation 8192460cc7bb055c… (all of the seat's roots in one cut). By AI agents, Wed Nov 11 2026. No macro, syntax, notation, axiom, sorry.
-/
import Derived.Test.YtdjinmieogpgcaaGreatChecked
import GoSem.Claim
import GoSem.ClaimJoined
import GoSem.ClaimMapViews
import Derived.JoinedTies
import Derived.KernelRfl
namespace Go.Proofs.YtdjinmieogpgcaaGreat
/- THE CELL 'sum', in the pinned program and in every row, IS THE sha256 OF THE DUMP (.gsa) THAT YtdjinmieogpgcaaGreatProg.lean LOADS. Nothing in Lean hashes anything: it is a label: what it is worth is what the hold of that sum in a sandbox is worth. -/
noncomputable def Tryz.pinned : Pinned := { name := "ytdjinmieogpgcaagreat", sum := "8192460cc7bb055ca17096fd2db3a1ed0b9ffce4e9292eb570870dc3b43c2ac5", checked := Tryz.checked }
namespace Rows
def none {H : Type} : Left H := { results := [], args := [] }

/-- 'buchholzlaw06.TapPairs': WHATEVER THE INPUT: true; the input reads as it did. -/
def tapPairsSpec : ChangeSpec := { name := "tapPairs", fn := fun _ => fun
  | [d1, d2] => { results := [.lit (.bool true)], args := [d1, d2] }
  | _ => none }
def tapPairsRow : OpenClaim := { program := "ytdjinmieogpgcaagreat", sum := "8192460cc7bb055ca17096fd2db3a1ed0b9ffce4e9292eb570870dc3b43c2ac5", func := "buchholz/buchholzlaw06.TapPairs", spec := "tapPairs", unfollowed := true, recurses := true, plainKeys := false, apart := false }
def TapPairsSaid : Prop := tapPairsRow.holds Tryz.pinned (OpenSpec.ofChange tapPairsSpec)

/-- ITS FALSE NEIGHBOUR: 'it returns false'. Refute it at one input. -/
def tapPairsWrong : ChangeSpec := { name := "tapPairs", fn := fun _ => fun
  | [d1, d2] => { results := [.lit (.bool false)], args := [d1, d2] }
  | _ => none }
def TapPairsWrongFalsely : Prop := tapPairsRow.holds Tryz.pinned (OpenSpec.ofChange tapPairsWrong)

/-- 'buchholzlaw06.TapProofs': WHATEVER THE INPUT: true; the input reads as it did. -/
def tapProofsSpec : ChangeSpec := { name := "tapProofs", fn := fun _ => fun
  | [d1, d2, d3] => { results := [.lit (.bool true)], args := [d1, d2, d3] }
  | _ => none }
def tapProofsRow : OpenClaim := { program := "ytdjinmieogpgcaagreat", sum := "8192460cc7bb055ca17096fd2db3a1ed0b9ffce4e9292eb570870dc3b43c2ac5", func := "buchholz/buchholzlaw06.TapProofs", spec := "tapProofs", unfollowed := true, recurses := true, plainKeys := false, apart := false }
def TapProofsSaid : Prop := tapProofsRow.holds Tryz.pinned (OpenSpec.ofChange tapProofsSpec)

/-- ITS FALSE NEIGHBOUR: 'it returns false'. Refute it at one input. -/
def tapProofsWrong : ChangeSpec := { name := "tapProofs", fn := fun _ => fun
  | [d1, d2, d3] => { results := [.lit (.bool false)], args := [d1, d2, d3] }
  | _ => none }
def TapProofsWrongFalsely : Prop := tapProofsRow.holds Tryz.pinned (OpenSpec.ofChange tapProofsWrong)

/-- 'buchholzlaw06.TapNever': WHATEVER THE INPUT: true; the input reads as it did. -/
def tapNeverSpec : ChangeSpec := { name := "tapNever", fn := fun _ => fun
  | [d1, d2, d3] => { results := [.lit (.bool true)], args := [d1, d2, d3] }
  | _ => none }
def tapNeverRow : OpenClaim := { program := "ytdjinmieogpgcaagreat", sum := "8192460cc7bb055ca17096fd2db3a1ed0b9ffce4e9292eb570870dc3b43c2ac5", func := "buchholz/buchholzlaw06.TapNever", spec := "tapNever", unfollowed := true, recurses := true, plainKeys := false, apart := false }
def TapNeverSaid : Prop := tapNeverRow.holds Tryz.pinned (OpenSpec.ofChange tapNeverSpec)

/-- ITS FALSE NEIGHBOUR: 'it returns false'. Refute it at one input. -/
def tapNeverWrong : ChangeSpec := { name := "tapNever", fn := fun _ => fun
  | [d1, d2, d3] => { results := [.lit (.bool false)], args := [d1, d2, d3] }
  | _ => none }
def TapNeverWrongFalsely : Prop := tapNeverRow.holds Tryz.pinned (OpenSpec.ofChange tapNeverWrong)

/- THE SECOND FORM. 'bulk': how many values and letters a reading holds, each counted each time it is reached (what is shared counts as often as it is met; a slice's spare places count too). A statement '..UptoSaid' is the law's where the arguments, and the package variables that the reading takes, are together of bulk at most 1048576: NARROWER than '..Said'. Prove '..Said' where nothing that the law and all that it calls make is longer than what came in: it says more and counts as full. Else prove '..UptoSaid'. A law counts once. -/
mutual
def uptoBulk {H : Type} : DataW H → Nat
  | .lit (.string bytes) => bytes.length + 1
  | .lit _ => 1
  | .nil => 1
  | .ptr d => uptoBulk d + 1
  | .slice elems spare => uptoBulkAll elems + uptoBulkAll spare + 1
  | .agg parts => uptoBulkAll parts + 1
  | .iface _ d => uptoBulk d + 1
  | .map entries => uptoBulkEntries entries + 1
  | .held _ => 1
def uptoBulkAll {H : Type} : List (DataW H) → Nat
  | [] => 0
  | d :: r => uptoBulk d + uptoBulkAll r
def uptoBulkEntries {H : Type} : List (Lit × DataW H) → Nat
  | [] => 0
  | x :: r => uptoBulkEntry x + uptoBulkEntries r
def uptoBulkEntry {H : Type} : Lit × DataW H → Nat
  | (.string bytes, d) => bytes.length + uptoBulk d + 1
  | (_, d) => uptoBulk d + 1
 end
def uptoSmall : (H : Type) → List (DataW H) → Bool := fun _ ds => decide (uptoBulkAll ds ≤ 1048576)
def OpenSpec.upto (s : _root_.Go.ChangeSpec) : _root_.Go.OpenSpec := { _root_.Go.OpenSpec.ofChange s with cond := some uptoSmall }

/-- 'buchholzlaw06.TapPairs', WHERE WHAT IT READS IS OF BULK AT MOST 1048576: true; the input reads as it did. -/
def tapPairsUptoRow : OpenClaim := { program := "ytdjinmieogpgcaagreat", sum := "8192460cc7bb055ca17096fd2db3a1ed0b9ffce4e9292eb570870dc3b43c2ac5", func := "buchholz/buchholzlaw06.TapPairs", spec := "tapPairs", unfollowed := true, recurses := true, plainKeys := false, apart := false, narrowed := true }
def TapPairsUptoSaid : Prop := tapPairsUptoRow.holds Tryz.pinned (OpenSpec.upto tapPairsSpec)

/-- 'buchholzlaw06.TapProofs', WHERE WHAT IT READS IS OF BULK AT MOST 1048576: true; the input reads as it did. -/
def tapProofsUptoRow : OpenClaim := { program := "ytdjinmieogpgcaagreat", sum := "8192460cc7bb055ca17096fd2db3a1ed0b9ffce4e9292eb570870dc3b43c2ac5", func := "buchholz/buchholzlaw06.TapProofs", spec := "tapProofs", unfollowed := true, recurses := true, plainKeys := false, apart := false, narrowed := true }
def TapProofsUptoSaid : Prop := tapProofsUptoRow.holds Tryz.pinned (OpenSpec.upto tapProofsSpec)

/-- 'buchholzlaw06.TapNever', WHERE WHAT IT READS IS OF BULK AT MOST 1048576: true; the input reads as it did. -/
def tapNeverUptoRow : OpenClaim := { program := "ytdjinmieogpgcaagreat", sum := "8192460cc7bb055ca17096fd2db3a1ed0b9ffce4e9292eb570870dc3b43c2ac5", func := "buchholz/buchholzlaw06.TapNever", spec := "tapNever", unfollowed := true, recurses := true, plainKeys := false, apart := false, narrowed := true }
def TapNeverUptoSaid : Prop := tapNeverUptoRow.holds Tryz.pinned (OpenSpec.upto tapNeverSpec)

end Rows
end Go.Proofs.YtdjinmieogpgcaaGreat
