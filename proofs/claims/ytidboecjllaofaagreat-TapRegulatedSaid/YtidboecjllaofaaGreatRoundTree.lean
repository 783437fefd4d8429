import Derived.Sort.CutIn
import Derived.Test.YtidboecjllaofaaGreatMC
import Derived.Test.YtidboecjllaofaaGreatME
/- A region that draws its order, by a tree of orders, in a round of a range over a function. -/
namespace Go.Proofs.YtidboecjllaofaaGreat
open Go.RowKit
set_option linter.unusedVariables false

section
variable {P : Program} {Q : Exit → Act → World → Prop} {f n : Nat}
theorem round_laterT {B : Nat} {id : Nat} {a : Act} {w : World} {l : List Oper} (s : Sch) (hm : P.follows .mixedOrders = true) (hd : noDeferB l = true) (hq : ¬ LetsOut Q) (hB : treeOk l.toArray s = true)
    (h : wpTree P l (fun w' => ∃ u : LaterB B w, w' = u.world) Q s a w.drew) : (Code.region id l.toArray true).wpIn (Fence.wide.inRound f) n P Q a w := by
  simp only [treeOk, Bool.and_eq_true, decide_eq_true_eq] at hB
  refine wpIn_mono (region_in_round (Q := NoPanic Q) hm hd (fun hl => hq hl) (wpAny_of_held _ _ _ _ (tree_anyH hB.1.1 s _ _ a _ hB.1.2 hB.2 ⟨⟨_, (Below.refl B w).drew⟩, rfl⟩ h))) ?_
  intro e a' w' he
  cases e <;> first | exact he | exact he.elim
end
end Go.Proofs.YtidboecjllaofaaGreat
