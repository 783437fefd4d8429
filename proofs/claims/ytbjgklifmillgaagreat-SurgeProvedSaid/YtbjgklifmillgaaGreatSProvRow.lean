import Derived.Test.YtbjgklifmillgaaGreatRows
import Derived.Test.YtbjgklifmillgaaGreatMOp
import Derived.Test.YtbjgklifmillgaaGreatSProv
/- The statement SurgeProved: which voltages are accepted as the initial distribution, with the index of a node, is as specified, or the errors, for every input. -/
namespace Go.Proofs.YtbjgklifmillgaaGreat
open Go.ChangeShapes Go.WideShapes Go.ChangeAt Go.RowKit
set_option linter.unusedVariables false

theorem own_sprov : ownKnob Tryz.prog.godebug = none := by kernel_rfl
theorem laid_sprov : laidOutB Tryz.prog = true := by kernel_rfl
set_option maxRecDepth 100000 in
theorem sprov_lifted (os : Os) (started : os.Started) (H : Type) (enc : TypeId × Value → H) :
    ReturnsInHanded {} Tryz.checked os 4 .any (Rows.surgeProvedSpec.pre6 enc Tryz.prog Tryz.f4 Rows.surgeProvedRow.domain false) (Rows.surgeProvedSpec.post enc Tryz.prog Tryz.f4 false true false false) := by
  refine returnsInHanded_of_change (C := Tryz.checked) own_sprov started (by kernel_rfl) Tryz.func4
    (ChangeSpec.witness6 (enc := enc) (C := Tryz.checked) false ⟨#[], #[.agg #[.slice none 0 0, .slice none 0 0, .slice none 0 0, .bool false], .slice none 0 0], []⟩ 8 (by kernel_rfl) (by kernel_rfl) (by kernel_rfl) (by kernel_rfl)) ?_
  intro W base args ds gs before hval0 hW hcnd _
  have hval : ∀ (j : Nat) t v, Tryz.f4.params[j]? = some t → args[j]? = some v → Value.okWide Tryz.prog W .any base t v := hval0
  have hW' := hW
  obtain ⟨p, q, hA0, hV, rfl, hfz, hnd⟩ := hW
  have hA : DataW.TrodAll enc Tryz.prog W 0 (fun _ => true) true Tryz.f4.params.toList args.toList ds p := hA0
  rw [Tryz.params4] at hA hval
  obtain ⟨v0, vs0, d0, ds0, p0, q0, hargs, rfl, rfl, h0, r0⟩ := trodAll_cons hA
  obtain ⟨v1, vs1, d1, ds1, p1, q1, rfl, rfl, rfl, h1, r1⟩ := trodAll_cons r0
  obtain ⟨rfl, rfl, rfl⟩ := trodAll_nil r1
  obtain rfl : args = #[v0, v1] := by cases args; simp_all
  obtain ⟨rfl, rfl⟩ := trodVars_none hV
  have k0 := h0
  have lt0 : ∀ x ∈ p0, x.block < W.heap.size := by obtain ⟨m, hm⟩ := k0; exact DataW.trod_lt m _ _ _ hm
  have k1 := h1
  have lt1 : ∀ x ∈ p1, x.block < W.heap.size := by obtain ⟨m, hm⟩ := k1; exact DataW.trod_lt m _ _ _ hm
  obtain ⟨x0, x1, x2, x3, y0, y1, y2, y3, m0, hv0, _, _, t0, t1, t2, t3⟩ := Go.Joins.open_agg4 Tryz.underlying24 (by kernel_rfl) (by kernel_rfl) (hval 0 24 v0 rfl rfl) h0
  obtain ⟨a, n, c, s, hx0, hs⟩ := opened_ints t0
  obtain ⟨a1, n1, c1, e, hx1, he⟩ := opened_ints t1
  obtain ⟨a2, n2, c2, t, hx2, ht⟩ := opened_ints t2
  obtain ⟨g, hx3, _⟩ := DataW.trod_bool Tryz.underlying4 t3
  obtain ⟨ax, nx, cx, hv1⟩ := okWide_slice Tryz.underlying33 (hval 1 33 v1 rfl rfl)
  subst hv1
  obtain ⟨fuel1, hm⟩ := h1
  obtain ⟨ax', nx', cx', u, hxu, hu, bu⟩ := opened_pairsB Tryz.underlying33 Tryz.underlying28 (by kernel_rfl) rfl rfl rfl rfl hm
  obtain ⟨rfl, rfl, rfl⟩ : ax = ax' ∧ nx = nx' ∧ cx = cx' := by simpa [Value.cells] using hxu
  simp only [List.cons.injEq, and_true] at hx0 hx1 hx2 hx3
  subst hx0 hx1 hx2 hx3 hv0
  clear hA0 hval0
  refine (sprov_walk s e t u a a1 a2 ax n c n1 c1 n2 c2 nx cx g W hs he ht hu (fun i hi => ⟨(bu i hi).1.1, (bu i hi).1.2, (bu i hi).2.2⟩)).mono fun e W' ⟨he, bel⟩ => ?_
  subst he
  exact ⟨_, rfl, _, _, _, [], _, [], hW', trodAll_mk1 (shut_bool Tryz.underlying4 _), (trodAll_cons_mk (Below.trod laid_sprov (by kernel_rfl) (of_decide_eq_true (by kernel_rfl)) k0 bel lt0) (trodAll_cons_mk (Below.trod laid_sprov (by kernel_rfl) (of_decide_eq_true (by kernel_rfl)) k1 bel lt1) trodAll_mk0)), rfl, bel.frame _, fun h => by cases h⟩
theorem proved_holds : Rows.SurgeProvedSaid :=
  OpenClaim.holds_of_wide 4 Tryz.f4 rfl rfl rfl rfl rfl rfl rfl ⟨rfl, rfl, rfl, rfl, rfl⟩ rfl rfl rfl rfl rfl (by kernel_rfl) Tryz.func4 (by kernel_rfl)
    (of_decide_eq_true (by kernel_rfl)) (by unfold Func.isWrapper; first | (rw [if_pos (by decide +kernel)]; kernel_rfl) | (rw [if_neg (by decide +kernel)]; exact ⟨rfl, rfl⟩))
    (fun os started H enc _ => sprov_lifted os started H enc)
#print axioms proved_holds
end Go.Proofs.YtbjgklifmillgaaGreat
