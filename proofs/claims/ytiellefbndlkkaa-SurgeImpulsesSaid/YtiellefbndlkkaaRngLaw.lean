/- A range over a method value: one round that goes on, and the statement. -/
import Derived.Test.YtiellefbndlkkaaStpPlain
import Derived.RangeFuncNested
import Derived.RangeFuncBound
import Derived.RangeFuncCalls
import Derived.RangeFuncLeaves
import Derived.OwnWalkIn
import Derived.TacticsInMore
namespace Go.Proofs.Ytiellefbndlkkaa
open Go.RowKit
set_option linter.unusedVariables false

def onPost (P : Program) (l : Nat) (rec : Loop) (R : Ending → World → Prop) : Exit → Act → World → Prop
  | .normal, _, W => W.heap[l]? = some (.loop { rec with state := .busy }) ∧ R (.returned (.bool true)) (W.putObj l (.loop rec))
  | _, _, _ => False
theorem yield_on {P : Program} {m l : Nat} {xs : Array Value} {W : World} {R : Ending → World → Prop} {rec : Loop} (hl : W.heap[l]? = some (.loop rec)) (hst : rec.state = .ready) (hp : rec.pending = none) (hsz : xs.size = rec.params.size)
    (h : rec.assign.wpIn (Fence.wide.inRound l) m P (Exit.then (fun a1 W1 => W1.heap[l]? = some (.loop rec) ∧ rec.body.wpIn (Fence.wide.inRound l) m P (onPost P l rec R) a1 (W1.putObj l (.loop { rec with state := .busy }))) (fun _ _ _ => False))
      { tmps := (rec.params.zip xs).foldl (fun t (p, v) => t.setIfInBounds p v) rec.tmps, defers := [] } W) :
    YieldAt Fence.wide m P l xs W R := by
  refine ⟨_, _, _, _, run_yield hl hsz, roundIn_of_wpIn trivial (wpIn_mono h ?_)⟩
  intro e a1 W1 hq
  cases e with
  | normal =>
    obtain ⟨h1, h2⟩ := hq
    refine ⟨_, run_beginRound h1 hst, wpIn_mono h2 ?_⟩
    intro e2 a2 W2 hq2
    cases e2 with
    | normal =>
      obtain ⟨h3, h4⟩ := hq2
      refine ⟨_, _, run_endRound none h3, ?_⟩
      have : ({ { rec with state := .busy } with state := if (none : Option Code).isNone then .ready else .done, pending := none } : Loop) = rec := by
        cases rec; simp_all
      simp only [this]
      exact h4
    | _ => exact hq2.elim
  | _ => exact hq.elim
theorem range_on {P : Program} {n : Nat} {g : Operand} {ps : Array Tmp} {assign body : Code} {Q : Exit → Act → World → Prop} {a : Act} {w : World} {gf : Nat} {fst : Array Value}
    (hg : a.eval g = .func (.func gf) fst #[]) (eg : ∀ args w, (callFunc gf args).run P w = .ok (.enter gf args) w)
    (h : ∀ rec : Loop, rec.state = .ready → rec.pending = none → rec.params = ps → rec.tmps = a.tmps → rec.assign = assign → rec.body = body →
      CallsIn Fence.wide (n - 1) P gf (fst ++ #[.func (.yield (w.heap.size + 1)) #[] #[]]) ((w.alloc (.deferred (some []))).alloc (.loop rec)) fun e W => (∃ v, e = .returned v) ∧ W.heap[w.heap.size + 1]? = some (.loop rec) ∧
        Q .normal { a with defers := { target := .collected w.heap.size, args := #[] } :: a.defers } (W.putObj (w.heap.size + 1) (.loop { rec with state := .exhausted }))) :
    (Code.rangeFunc g ps assign body).wpIn Fence.wide n P Q a w := by
  refine wpIn_rangeFunc ?_
  intro fn hfn
  obtain ⟨W1, hW1⟩ : ∃ W1, W1 = (w.alloc (.deferred (some []))).alloc (.loop { state := .ready, pending := none, fn := fn, tmps := a.tmps, params := ps, assign := assign, body := body, defers := w.heap.size }) := ⟨_, rfl⟩
  refine ⟨w.heap.size + 1, [{ target := .collected w.heap.size, args := #[] }], W1, { target := .fn (.func gf) #[], args := fst ++ #[.func (.yield (w.heap.size + 1)) #[] #[]] }, W1, gf, fst ++ #[.func (.yield (w.heap.size + 1)) #[] #[]], W1, by rw [hW1]; exact run_enterLoop_outer _ _ _ _ _, ?_, fun _ _ => trivial, ?_, fun h => by simp [Fence.wide] at h, ?_⟩
  · simp only [resolve, hg]
    simp [go_sem]
  · simp [invoke, go_sem, eg]
  · rw [hW1]
    refine (h _ rfl rfl rfl rfl rfl rfl).mono ?_
    rintro e W ⟨⟨v, rfl⟩, h1, h2⟩
    exact ⟨none, _, by have := run_endLoop (P := P) h1 (by simp); exact this, h2⟩
end Go.Proofs.Ytiellefbndlkkaa
