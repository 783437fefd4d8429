/- The statement SurgeImpulses: which impulses are valid, the value at a time, and the steepest piece, are as specified, or the errors, for every input. -/
import Derived.Test.YtiellefbndlkkaaImpl
import Derived.Test.YtiellefbndlkkaaOpened2
import Derived.Test.YtiellefbndlkkaaRows
namespace Go.Proofs.Ytiellefbndlkkaa
open Go.ChangeShapes Go.WideShapes Go.ChangeAt Go.RowKit
set_option linter.unusedVariables false

theorem own_impl : ownKnob Try.prog.godebug = none := by kernel_rfl
theorem laid_impl : laidOutB Try.prog = true := by kernel_rfl
set_option maxRecDepth 100000 in
theorem impl_lifted (os : Os) (started : os.Started) (H : Type) (enc : TypeId × Value → H) :
    ReturnsInHanded {} Try.checked os 7 .any (Rows.surgeImpulsesSpec.pre6 enc Try.prog Try.f7 Rows.surgeImpulsesRow.domain false) (Rows.surgeImpulsesSpec.post enc Try.prog Try.f7 false true false false) := by
  refine returnsInHanded_of_change (C := Try.checked) own_impl started (by kernel_rfl) Try.func7
    (ChangeSpec.witness6 (enc := enc) (C := Try.checked) false ⟨#[], #[.agg #[.slice none 0 0], .int .i64 0], []⟩ 8 (by kernel_rfl) (by kernel_rfl) (by kernel_rfl) (by kernel_rfl)) ?_
  intro W base args ds gs before hval0 hW hcnd _
  have hval : ∀ (j : Nat) t v, Try.f7.params[j]? = some t → args[j]? = some v → Value.okWide Try.prog W .any base t v := hval0
  have hW' := hW
  obtain ⟨p, q, hA0, hV, rfl, hfz, hnd⟩ := hW
  have hA : DataW.TrodAll enc Try.prog W 0 (fun _ => true) true Try.f7.params.toList args.toList ds p := hA0
  rw [Try.params7] at hA hval
  obtain ⟨v0, vs0, d0, ds0, p0, q0, hargs, rfl, rfl, h0, r0⟩ := trodAll_cons hA
  obtain ⟨v1, vs1, d1, ds1, p1, q1, rfl, rfl, rfl, h1, r1⟩ := trodAll_cons r0
  obtain ⟨rfl, rfl, rfl⟩ := trodAll_nil r1
  obtain rfl : args = #[v0, v1] := by cases args; simp_all
  obtain ⟨rfl, rfl⟩ := trodVars_none hV
  have k0 := h0
  have lt0 : ∀ x ∈ p0, x.block < W.heap.size := by obtain ⟨m, hm⟩ := k0; exact DataW.trod_lt m _ _ _ hm
  obtain ⟨a, n, c, l, hv0, hl⟩ := opened_impulse (hval 0 87 v0 rfl rfl) h0
  obtain ⟨tm, rfl, rfl, rfl, w2⟩ := open_int Try.underlying3 (hval 1 3 v1 rfl rfl) h1
  subst hv0
  clear hA0 hval0
  refine (impl_walk l tm a n c W hl).mono fun e W' ⟨he, bel⟩ => ?_
  subst he
  exact ⟨_, rfl, _, _, _, [], _, [], hW', trodAll_mk1 (shut_bool Try.underlying4 _), (trodAll_cons_mk (Below.trod laid_impl (by kernel_rfl) (of_decide_eq_true (by kernel_rfl)) k0 bel lt0) (trodAll_cons_mk (shut_int Try.underlying3 w2) trodAll_mk0)), rfl, bel.frame _, fun h => by cases h⟩
theorem impulses_holds : Rows.SurgeImpulsesSaid :=
  OpenClaim.holds_of_wide 7 Try.f7 rfl rfl rfl rfl rfl rfl rfl ⟨rfl, rfl, rfl, rfl, rfl⟩ rfl rfl rfl rfl rfl (by kernel_rfl) Try.func7 (by kernel_rfl)
    (of_decide_eq_true (by kernel_rfl)) (by unfold Func.isWrapper; first | (rw [if_pos (by decide +kernel)]; kernel_rfl) | (rw [if_neg (by decide +kernel)]; exact ⟨rfl, rfl⟩))
    (fun os started H enc _ => impl_lifted os started H enc)
#print axioms impulses_holds
end Go.Proofs.Ytiellefbndlkkaa
