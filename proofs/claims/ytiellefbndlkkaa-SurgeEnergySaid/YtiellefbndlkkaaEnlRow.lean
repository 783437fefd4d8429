/- The statement SurgeEnergy: the energy does not grow, the opposite state leads to the opposite one, and on a line with equal admittances every wave comes back; for every input. -/
import Derived.Test.YtiellefbndlkkaaEnl
import Derived.Test.YtiellefbndlkkaaOpened
import Derived.Test.YtiellefbndlkkaaRows
namespace Go.Proofs.Ytiellefbndlkkaa
open Go.ChangeShapes Go.WideShapes Go.ChangeAt Go.RowKit
set_option linter.unusedVariables false

theorem own_enl : ownKnob Try.prog.godebug = none := by kernel_rfl
theorem laid_enl : laidOutB Try.prog = true := by kernel_rfl
set_option maxRecDepth 100000 in
theorem enl_lifted (os : Os) (started : os.Started) (H : Type) (enc : TypeId × Value → H) :
    ReturnsInHanded {} Try.checked os 3 .any (Rows.surgeEnergySpec.pre6 enc Try.prog Try.f3 Rows.surgeEnergyRow.domain false) (Rows.surgeEnergySpec.post enc Try.prog Try.f3 false true false false) := by
  refine returnsInHanded_of_change (C := Try.checked) own_enl started (by kernel_rfl) Try.func3
    (ChangeSpec.witness6 (enc := enc) (C := Try.checked) false ⟨#[], #[.agg #[.slice none 0 0, .bool false], .agg #[.slice none 0 0, .slice none 0 0], .int .i64 0], []⟩ 8 (by kernel_rfl) (by kernel_rfl) (by kernel_rfl) (by kernel_rfl)) ?_
  intro W base args ds gs before hval0 hW hcnd _
  have hval : ∀ (j : Nat) t v, Try.f3.params[j]? = some t → args[j]? = some v → Value.okWide Try.prog W .any base t v := hval0
  have hW' := hW
  obtain ⟨p, q, hA0, hV, rfl, hfz, hnd⟩ := hW
  have hA : DataW.TrodAll enc Try.prog W 0 (fun _ => true) true Try.f3.params.toList args.toList ds p := hA0
  rw [Try.params3] at hA hval
  obtain ⟨v0, vs0, d0, ds0, p0, q0, hargs, rfl, rfl, h0, r0⟩ := trodAll_cons hA
  obtain ⟨v1, vs1, d1, ds1, p1, q1, rfl, rfl, rfl, h1, r1⟩ := trodAll_cons r0
  obtain ⟨v2, vs2, d2, ds2, p2, q2, rfl, rfl, rfl, h2, r2⟩ := trodAll_cons r1
  obtain ⟨rfl, rfl, rfl⟩ := trodAll_nil r2
  obtain rfl : args = #[v0, v1, v2] := by cases args; simp_all
  obtain ⟨rfl, rfl⟩ := trodVars_none hV
  have k0 := h0
  have lt0 : ∀ x ∈ p0, x.block < W.heap.size := by obtain ⟨m, hm⟩ := k0; exact DataW.trod_lt m _ _ _ hm
  have k1 := h1
  have lt1 : ∀ x ∈ p1, x.block < W.heap.size := by obtain ⟨m, hm⟩ := k1; exact DataW.trod_lt m _ _ _ hm
  obtain ⟨x0, x1, y0, y1, m0, hv0, _, _, t0, t1⟩ := Go.Joins.open_agg2 Try.underlying24 (by kernel_rfl) (by kernel_rfl) (hval 0 24 v0 rfl rfl) h0
  obtain ⟨x2, x3, y2, y3, m1, hv1, _, _, t2, t3⟩ := Go.Joins.open_agg2 Try.underlying26 (by kernel_rfl) (by kernel_rfl) (hval 1 26 v1 rfl rfl) h1
  obtain ⟨a, n, c, y, hx0, hy⟩ := opened_ints t0
  obtain ⟨e, hx1, _⟩ := DataW.trod_bool Try.underlying4 t1
  obtain ⟨a1, n1, c1, f, hx2, hf⟩ := opened_ints t2
  obtain ⟨a2, n2, c2, b, hx3, hb⟩ := opened_ints t3
  simp only [List.cons.injEq, and_true] at hx0 hx1 hx2 hx3
  subst hx0 hx1 hx2 hx3 hv0 hv1
  obtain ⟨s, rfl, rfl, rfl, w2⟩ := open_int Try.underlying3 (hval 2 3 v2 rfl rfl) h2
  clear hA0 hval0
  refine (enl_walk y f b s a a1 a2 n c n1 c1 n2 c2 e W hy hf hb).mono fun e W' ⟨he, bel⟩ => ?_
  subst he
  exact ⟨_, rfl, _, _, _, [], _, [], hW', trodAll_mk1 (shut_bool Try.underlying4 _), (trodAll_cons_mk (Below.trod laid_enl (by kernel_rfl) (of_decide_eq_true (by kernel_rfl)) k0 bel lt0) (trodAll_cons_mk (Below.trod laid_enl (by kernel_rfl) (of_decide_eq_true (by kernel_rfl)) k1 bel lt1) (trodAll_cons_mk (shut_int Try.underlying3 w2) trodAll_mk0))), rfl, bel.frame _, fun h => by cases h⟩
theorem energy_holds : Rows.SurgeEnergySaid :=
  OpenClaim.holds_of_wide 3 Try.f3 rfl rfl rfl rfl rfl rfl rfl ⟨rfl, rfl, rfl, rfl, rfl⟩ rfl rfl rfl rfl rfl (by kernel_rfl) Try.func3 (by kernel_rfl)
    (of_decide_eq_true (by kernel_rfl)) (by unfold Func.isWrapper; first | (rw [if_pos (by decide +kernel)]; kernel_rfl) | (rw [if_neg (by decide +kernel)]; exact ⟨rfl, rfl⟩))
    (fun os started H enc _ => enl_lifted os started H enc)
#print axioms energy_holds
end Go.Proofs.Ytiellefbndlkkaa
