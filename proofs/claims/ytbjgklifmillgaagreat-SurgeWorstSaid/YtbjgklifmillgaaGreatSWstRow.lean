import Derived.Test.YtbjgklifmillgaaGreatRows
import Derived.Test.YtbjgklifmillgaaGreatOpened
import Derived.Test.YtbjgklifmillgaaGreatSWst
/- The statement SurgeWorst: the worst gap and the envelope are as specified, for every input. -/
namespace Go.Proofs.YtbjgklifmillgaaGreat
open Go.ChangeShapes Go.WideShapes Go.ChangeAt Go.RowKit
set_option linter.unusedVariables false

theorem own_sworst : ownKnob Tryz.prog.godebug = none := by kernel_rfl
theorem laid_sworst : laidOutB Tryz.prog = true := by kernel_rfl
set_option maxRecDepth 100000 in
theorem sworst_lifted (os : Os) (started : os.Started) (H : Type) (enc : TypeId × Value → H) :
    ReturnsInHanded {} Tryz.checked os 3 .any (Rows.surgeWorstSpec.pre6 enc Tryz.prog Tryz.f3 Rows.surgeWorstRow.domain false) (Rows.surgeWorstSpec.post enc Tryz.prog Tryz.f3 false true false false) := by
  refine returnsInHanded_of_change (C := Tryz.checked) own_sworst started (by kernel_rfl) Tryz.func3
    (ChangeSpec.witness6 (enc := enc) (C := Tryz.checked) false ⟨#[], #[.agg #[.slice none 0 0, .slice none 0 0, .slice none 0 0, .bool false]], []⟩ 8 (by kernel_rfl) (by kernel_rfl) (by kernel_rfl) (by kernel_rfl)) ?_
  intro W base args ds gs before hval0 hW hcnd _
  have hval : ∀ (j : Nat) t v, Tryz.f3.params[j]? = some t → args[j]? = some v → Value.okWide Tryz.prog W .any base t v := hval0
  have hW' := hW
  obtain ⟨p, q, hA0, hV, rfl, hfz, hnd⟩ := hW
  have hA : DataW.TrodAll enc Tryz.prog W 0 (fun _ => true) true Tryz.f3.params.toList args.toList ds p := hA0
  rw [Tryz.params3] at hA hval
  obtain ⟨v0, vs0, d0, ds0, p0, q0, hargs, rfl, rfl, h0, r0⟩ := trodAll_cons hA
  obtain ⟨rfl, rfl, rfl⟩ := trodAll_nil r0
  obtain rfl : args = #[v0] := by cases args; simp_all
  obtain ⟨rfl, rfl⟩ := trodVars_none hV
  have k0 := h0
  have lt0 : ∀ x ∈ p0, x.block < W.heap.size := by obtain ⟨m, hm⟩ := k0; exact DataW.trod_lt m _ _ _ hm
  obtain ⟨x0, x1, x2, x3, y0, y1, y2, y3, m0, hv0, _, _, t0, t1, t2, t3⟩ := Go.Joins.open_agg4 Tryz.underlying24 (by kernel_rfl) (by kernel_rfl) (hval 0 24 v0 rfl rfl) h0
  obtain ⟨a, n, c, s, hx0, hs⟩ := opened_ints t0
  obtain ⟨a1, n1, c1, e, hx1, he⟩ := opened_ints t1
  obtain ⟨a2, n2, c2, t, hx2, ht⟩ := opened_ints t2
  obtain ⟨g, hx3, _⟩ := DataW.trod_bool Tryz.underlying4 t3
  simp only [List.cons.injEq, and_true] at hx0 hx1 hx2 hx3
  subst hx0 hx1 hx2 hx3 hv0
  clear hA0 hval0
  refine (sworst_walk s e t a a1 a2 n c n1 c1 n2 c2 g W hs he ht).mono fun e W' ⟨he, bel⟩ => ?_
  subst he
  exact ⟨_, rfl, _, _, _, [], _, [], hW', trodAll_mk1 (shut_bool Tryz.underlying4 _), (trodAll_cons_mk (Below.trod laid_sworst (by kernel_rfl) (of_decide_eq_true (by kernel_rfl)) k0 bel lt0) trodAll_mk0), rfl, bel.frame _, fun h => by cases h⟩
theorem worst_holds : Rows.SurgeWorstSaid :=
  OpenClaim.holds_of_wide 3 Tryz.f3 rfl rfl rfl rfl rfl rfl rfl ⟨rfl, rfl, rfl, rfl, rfl⟩ rfl rfl rfl rfl rfl (by kernel_rfl) Tryz.func3 (by kernel_rfl)
    (of_decide_eq_true (by kernel_rfl)) (by unfold Func.isWrapper; first | (rw [if_pos (by decide +kernel)]; kernel_rfl) | (rw [if_neg (by decide +kernel)]; exact ⟨rfl, rfl⟩))
    (fun os started H enc _ => sworst_lifted os started H enc)
#print axioms worst_holds
end Go.Proofs.YtbjgklifmillgaaGreat
