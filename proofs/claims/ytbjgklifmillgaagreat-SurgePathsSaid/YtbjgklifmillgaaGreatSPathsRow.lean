import Derived.Test.YtbjgklifmillgaaGreatRows
import Derived.Test.YtbjgklifmillgaaGreatMOq
import Derived.Test.YtbjgklifmillgaaGreatSPaths
/- The statement SurgePaths: the ranks of creep paths are as specified, or the errors, for every input. -/
namespace Go.Proofs.YtbjgklifmillgaaGreat
open Go.ChangeShapes Go.WideShapes Go.ChangeAt Go.RowKit
set_option linter.unusedVariables false

theorem own_spaths : ownKnob Tryz.prog.godebug = none := by kernel_rfl
theorem laid_spaths : laidOutB Tryz.prog = true := by kernel_rfl
set_option maxRecDepth 100000 in
theorem spaths_lifted (os : Os) (started : os.Started) (H : Type) (enc : TypeId × Value → H) :
    ReturnsInHanded {} Tryz.checked os 5 .any (Rows.surgePathsSpec.pre6 enc Tryz.prog Tryz.f5 Rows.surgePathsRow.domain false) (Rows.surgePathsSpec.post enc Tryz.prog Tryz.f5 false true false false) := by
  refine returnsInHanded_of_change (C := Tryz.checked) own_spaths started (by kernel_rfl) Tryz.func5
    (ChangeSpec.witness6 (enc := enc) (C := Tryz.checked) false ⟨#[], #[.int .i64 0, .slice none 0 0, .slice none 0 0], []⟩ 8 (by kernel_rfl) (by kernel_rfl) (by kernel_rfl) (by kernel_rfl)) ?_
  intro W base args ds gs before hval0 hW hcnd _
  have hval : ∀ (j : Nat) t v, Tryz.f5.params[j]? = some t → args[j]? = some v → Value.okWide Tryz.prog W .any base t v := hval0
  have hW' := hW
  obtain ⟨p, q, hA0, hV, rfl, hfz, hnd⟩ := hW
  have hA : DataW.TrodAll enc Tryz.prog W 0 (fun _ => true) true Tryz.f5.params.toList args.toList ds p := hA0
  rw [Tryz.params5] at hA hval
  obtain ⟨v0, vs0, d0, ds0, p0, q0, hargs, rfl, rfl, h0, r0⟩ := trodAll_cons hA
  obtain ⟨v1, vs1, d1, ds1, p1, q1, rfl, rfl, rfl, h1, r1⟩ := trodAll_cons r0
  obtain ⟨v2, vs2, d2, ds2, p2, q2, rfl, rfl, rfl, h2, r2⟩ := trodAll_cons r1
  obtain ⟨rfl, rfl, rfl⟩ := trodAll_nil r2
  obtain rfl : args = #[v0, v1, v2] := by cases args; simp_all
  obtain ⟨rfl, rfl⟩ := trodVars_none hV
  have k1 := h1
  have lt1 : ∀ x ∈ p1, x.block < W.heap.size := by obtain ⟨m, hm⟩ := k1; exact DataW.trod_lt m _ _ _ hm
  obtain ⟨ax, nx, cx, hv1⟩ := okWide_slice Tryz.underlying33 (hval 1 33 v1 rfl rfl)
  subst hv1
  obtain ⟨fuel1, hm1⟩ := h1
  obtain ⟨ax', nx', cx', u, hx1, hu, bu⟩ := opened_pairsB Tryz.underlying33 Tryz.underlying28 (by kernel_rfl) rfl rfl rfl rfl hm1
  obtain ⟨rfl, rfl, rfl⟩ : ax = ax' ∧ nx = nx' ∧ cx = cx' := by simpa [Value.cells] using hx1
  have k2 := h2
  have lt2 : ∀ x ∈ p2, x.block < W.heap.size := by obtain ⟨m, hm⟩ := k2; exact DataW.trod_lt m _ _ _ hm
  obtain ⟨ay, ny, cy, hv2⟩ := okWide_slice Tryz.underlying48 (hval 2 48 v2 rfl rfl)
  subst hv2
  obtain ⟨fuel2, hm2⟩ := h2
  obtain ⟨ay', ny', cy', l, hx2, hl, bl⟩ := opened_paths Tryz.underlying48 Tryz.underlying118 (by kernel_rfl) rfl rfl rfl rfl rfl rfl rfl rfl rfl rfl hm2
  obtain ⟨rfl, rfl, rfl⟩ : ay = ay' ∧ ny = ny' ∧ cy = cy' := by simpa [Value.cells] using hx2
  obtain ⟨z, rfl, rfl, rfl, w0⟩ := open_int Tryz.underlying3 (hval 0 3 v0 rfl rfl) h0
  clear hA0 hval0
  refine (spaths_walk z u l ax ay nx cx ny cy W hu hl (fun i hi => ⟨(bu i hi).1.1, (bu i hi).1.2, (bu i hi).2.2⟩) bl).mono fun e W' ⟨he, bel⟩ => ?_
  subst he
  exact ⟨_, rfl, _, _, _, [], _, [], hW', trodAll_mk1 (shut_bool Tryz.underlying4 _), (trodAll_cons_mk (shut_int Tryz.underlying3 w0) (trodAll_cons_mk (Below.trod laid_spaths (by kernel_rfl) (of_decide_eq_true (by kernel_rfl)) k1 bel lt1) (trodAll_cons_mk (Below.trod laid_spaths (by kernel_rfl) (of_decide_eq_true (by kernel_rfl)) k2 bel lt2) trodAll_mk0))), rfl, bel.frame _, fun h => by cases h⟩
theorem paths_holds : Rows.SurgePathsSaid :=
  OpenClaim.holds_of_wide 5 Tryz.f5 rfl rfl rfl rfl rfl rfl rfl ⟨rfl, rfl, rfl, rfl, rfl⟩ rfl rfl rfl rfl rfl (by kernel_rfl) Tryz.func5 (by kernel_rfl)
    (of_decide_eq_true (by kernel_rfl)) (by unfold Func.isWrapper; first | (rw [if_pos (by decide +kernel)]; kernel_rfl) | (rw [if_neg (by decide +kernel)]; exact ⟨rfl, rfl⟩))
    (fun os started H enc _ => spaths_lifted os started H enc)
#print axioms paths_holds
end Go.Proofs.YtbjgklifmillgaaGreat
